/- Package arena: Layout, Store, Runs, Gen. By an AI agent. -/
import Derived.Test.YtffhoaimcjpjhaaGreatStoreBegun
import Derived.Test.YtffhoaimcjpjhaaGreatLayout
namespace Go.Proofs.YtffhoaimcjpjhaaGreat
open Go.RowKit
/-- An arena in block ab: its layout, its store (blocks sb, sm), its runs (block rb). -/
structure IsArena (w : World) (ab sb rb : Nat) (P T : Int) : Prop where
  head : Blk w ab #[.int .i64 P, .int .i64 T, .pointer (some ⟨sb, 0, none⟩), .pointer (some ⟨rb, 0, none⟩)] 152
theorem IsArena.only {S : Nat → Prop} {w w' : World} {ab sb rb : Nat} {P T : Int} (h : IsArena w ab sb rb P T) (ho : Only S w w') (hs : ¬ S ab) : IsArena w' ab sb rb P T := ⟨h.head.only ho hs⟩
section
variable {w : World} {ab sb rb : Nat} {P T : Int}
set_option maxHeartbeats 400000 in
theorem arenaStore_any (h : IsArena w ab sb rb P T) : Calls Tryz.prog 47 #[.pointer (some ⟨ab, 0, none⟩)] w fun e w' => e = .returned (.pointer (some ⟨sb, 0, none⟩)) ∧ w = w' := by
  have c2 := h.head.cell 2
  clear h
  go_enter Tryz.func47, Tryz.ntmps47
  go_wp2
  go_ret
  exact ⟨rfl, rfl⟩
set_option maxHeartbeats 400000 in
theorem arenaRuns_any (h : IsArena w ab sb rb P T) : Calls Tryz.prog 48 #[.pointer (some ⟨ab, 0, none⟩)] w fun e w' => e = .returned (.pointer (some ⟨rb, 0, none⟩)) ∧ w = w' := by
  have c2 := h.head.cell 3
  clear h
  go_enter Tryz.func48, Tryz.ntmps48
  go_wp2
  go_ret
  exact ⟨rfl, rfl⟩
set_option maxHeartbeats 400000 in
theorem arenaLayout_nil (w : World) : Calls Tryz.prog 75 #[.pointer none] w fun e w' => e = .returned (.agg #[.int .i64 0, .int .i64 0]) ∧ Adds w w' := by
  go_enter Tryz.func75, Tryz.ntmps75
  go_wp2
  exact bodyPost_ret (v := .agg #[.int .i64 0, .int .i64 0]) (by simp [results, Tryz.results75, go_sem]) rfl ⟨rfl, (Only.refl _ _).alloc _⟩
set_option maxHeartbeats 400000 in
theorem arenaStore_nil (w : World) : Calls Tryz.prog 47 #[.pointer none] w fun e w' => e = .returned (.pointer none) ∧ w = w' := by
  go_enter Tryz.func47, Tryz.ntmps47
  go_wp2
  go_ret
  exact ⟨rfl, rfl⟩
set_option maxHeartbeats 400000 in
theorem arenaRuns_nil (w : World) : Calls Tryz.prog 48 #[.pointer none] w fun e w' => e = .returned (.pointer none) ∧ w = w' := by
  go_enter Tryz.func48, Tryz.ntmps48
  go_wp2
  go_ret
  exact ⟨rfl, rfl⟩
end
end Go.Proofs.YtffhoaimcjpjhaaGreat

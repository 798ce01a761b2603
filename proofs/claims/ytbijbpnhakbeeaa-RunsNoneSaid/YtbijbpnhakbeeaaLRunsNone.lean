/- RunsNone: its walk. By an AI agent. -/
import Derived.Test.YtbijbpnhakbeeaaRunsAwake
namespace Go.Proofs.Ytbijbpnhakbeeaa
open Go.RowKit
set_option maxHeartbeats 1000000 in
theorem bestNil_any (n : Int) (w : World) : Calls Try.prog 58 #[.pointer none, .int .i64 n] w fun e w' => e = .returned (.tuple #[.agg #[.int .i64 0, .int .i64 0], .bool false]) ∧ Adds w w' := by
  have hb := Blk.new w #[.int .i64 0, .int .i64 0] 63
  have z0 := hb.cell 0; have z1 := hb.cell 1; have f0 := hb.frozen 0; have f1 := hb.frozen 1
  have HB := Lib.hid hb
  clear hb
  go_enter Try.func58, Try.ntmps58
  go_wp2_with fail
  exact bodyPost_ret (v := .tuple #[.agg #[.int .i64 0, .int .i64 0], .bool false]) (by simp [results, Try.results58, go_sem]) rfl ⟨rfl, by first | exact (((Only.refl (fun _ => False) w).alloc _).setCell (.inr (Nat.le_refl _)) _).setCell (.inr (Nat.le_refl _)) _ | exact (Only.refl (fun _ => False) w).alloc _⟩
set_option maxHeartbeats 1000000 in
theorem findNil_any (n : Int) (w : World) : Calls Try.prog 42 #[.pointer none, .int .i64 n] w fun e w' => e = .returned (.tuple #[.int .i64 0, .bool false]) ∧ Adds w w' := by
  go_enter Try.func42, Try.ntmps42
  go_wp2_with (go_at_call 58; refine (bestNil_any n w).mono ?_; rintro e w1 ⟨rfl, ho⟩)
  go_ret2
  exact ⟨rfl, ho.thenF ((Only.refl _ w1).alloc _)⟩
set_option maxHeartbeats 1000000 in
theorem takeNil_any (n : Int) (w : World) : Calls Try.prog 29 #[.pointer none, .int .i64 n] w fun e w' => e = .returned (.tuple #[.int .i64 0, .int .i64 2]) ∧ w = w' := by
  go_enter Try.func29, Try.ntmps29
  go_wp2
  go_ret2
  exact ⟨rfl, rfl⟩
set_option maxHeartbeats 1000000 in
theorem freeNil_any (a n : Int) (w : World) : Calls Try.prog 32 #[.pointer none, .int .i64 a, .int .i64 n] w fun e w' => e = .returned (.int .i64 2) ∧ w = w' := by
  go_enter Try.func32, Try.ntmps32
  go_wp2
  go_ret
  exact ⟨rfl, rfl⟩
set_option maxHeartbeats 1000000 in
theorem listNil_any (w : World) : Calls Try.prog 23 #[.pointer none] w fun e w' => e = .returned (.slice none 0 0) ∧ w = w' := by
  go_enter Try.func23, Try.ntmps23
  go_wp2
  go_ret
  exact ⟨rfl, rfl⟩
set_option maxHeartbeats 1000000 in
theorem totalNil_any (w : World) : Calls Try.prog 37 #[.pointer none] w fun e w' => e = .returned (.int .i64 0) ∧ w = w' := by
  go_enter Try.func37, Try.ntmps37
  go_wp2
  go_ret
  exact ⟨rfl, rfl⟩
set_option maxHeartbeats 1000000 in
theorem drawnNil_any (w : World) : Calls Try.prog 36 #[.pointer none] w fun e w' => e = .returned (.int .i64 0) ∧ w = w' := by
  go_enter Try.func36, Try.ntmps36
  go_wp2
  go_ret
  exact ⟨rfl, rfl⟩
set_option maxHeartbeats 1000000 in
theorem shapeNil_any (w : World) : Calls Try.prog 26 #[.pointer none] w fun e w' => e = .returned (.slice none 0 0) ∧ w = w' := by
  go_enter Try.func26, Try.ntmps26
  go_wp2
  go_ret
  exact ⟨rfl, rfl⟩
set_option maxRecDepth 100000 in
set_option maxHeartbeats 4000000 in
theorem runsNone_law (k : Int) (w0 : (Lit.int .i64 k).wf = true) (a : Int) (w1 : (Lit.int .i64 a).wf = true) (n : Int) (w2 : (Lit.int .i64 n).wf = true) (w : World) :
    Calls Try.prog 10 #[.int .i64 k, .int .i64 a, .int .i64 n] w fun e w' => e = .returned (.bool true) ∧ Below w.heap.size w w' := by
  clear w0 w1 w2
  go_enter Try.func10, Try.ntmps10
  go_wp2_with (first
    | (go_at_call 42; refine (findNil_any _ _).mono ?_; rintro e w1 ⟨rfl, ho1⟩; have HO1 := Lib.hid ho1; clear ho1)
    | (go_at_call 29; refine (takeNil_any _ _).mono ?_; rintro e w2 ⟨rfl, rfl⟩)
    | (go_at_call 32; refine (freeNil_any _ _ _).mono ?_; rintro e w2 ⟨rfl, rfl⟩)
    | (go_at_call 23; refine (listNil_any _).mono ?_; rintro e w2 ⟨rfl, rfl⟩)
    | (go_at_call 37; refine (totalNil_any _).mono ?_; rintro e w2 ⟨rfl, rfl⟩)
    | (go_at_call 36; refine (drawnNil_any _).mono ?_; rintro e w2 ⟨rfl, rfl⟩)
    | (go_at_call 26; refine (shapeNil_any _).mono ?_; rintro e w2 ⟨rfl, rfl⟩)
    | (go_at_call 30; refine (awake10_any _).mono ?_; rintro e w4 ⟨rfl, ho4⟩; have HO4 := Lib.hid (HO1.out.thenF ho4); clear ho4))
  go_ret
  exact ⟨by simp [*], HO4.out.below (Nat.le_refl _) (fun _ _ h => h)⟩
end Go.Proofs.Ytbijbpnhakbeeaa

/- Package lock: takes and leaves. By an AI agent. -/
import Derived.Test.YtfgjacgkgonglaaGreatActCas
import Derived.Test.YtfgjacgkgonglaaGreatActPut
import Derived.Deep.RegionWith
namespace Go.Proofs.YtfgjacgkgonglaaGreat
open Go.RowKit
/-- A take that has not won, in block mb; all that it has is in blocks from lo on. -/
def IsTake (lo : Nat) (w : World) (mb : Nat) (P T t : Int) : Prop :=
  ∃ n j, lo ≤ mb ∧ lo ≤ n ∧ lo ≤ j ∧ Blk w mb #[.int .i64 P, .int .i64 T, casF n] 140 ∧ HasCas w n 2 0 (t + 1) (.func (.func 85) #[] #[.pointer (some ⟨j, 0, none⟩)]) ∧ Blk w j #[.pointer (some ⟨mb, 0, none⟩)] 64
theorem IsTake.only {S : Nat → Prop} {lo : Nat} {w w' : World} {mb : Nat} {P T t : Int} (h : IsTake lo w mb P T t) (ho : Only S w w') (hm : ¬ S mb) (hs : ∀ b x t, lo ≤ b → Blk w b #[x] t → ¬ S b) : IsTake lo w' mb P T t := by
  obtain ⟨n, j, l1, l2, l3, h1, h2, h3⟩ := h
  exact ⟨n, j, l1, l2, l3, h1.only ho hm, ⟨h2.b0.only ho (hs _ _ _ (by omega) h2.b0), h2.b1.only ho (hs _ _ _ (by omega) h2.b1), h2.b2.only ho (hs _ _ _ (by omega) h2.b2), h2.b3.only ho (hs _ _ _ (by omega) h2.b3)⟩, h3.only ho (hs _ _ _ l3 h3)⟩
theorem IsTake.adds {lo : Nat} {w w' : World} {mb : Nat} {P T t : Int} (h : IsTake lo w mb P T t) (ho : Adds w w') : IsTake lo w' mb P T t := h.only ho id (fun _ _ _ _ _ => id)
theorem IsTake.low {lo : Nat} {w : World} {mb : Nat} {P T t : Int} (h : IsTake lo w mb P T t) : lo ≤ mb := by
  obtain ⟨_, _, h, _⟩ := h
  exact h
theorem IsTake.mono {lo lo' : Nat} {w : World} {mb : Nat} {P T t : Int} (h : IsTake lo w mb P T t) (hl : lo' ≤ lo) : IsTake lo' w mb P T t := by
  obtain ⟨n, j, l1, l2, l3, h1, h2, h3⟩ := h
  exact ⟨n, j, Nat.le_trans hl l1, Nat.le_trans hl l2, Nat.le_trans hl l3, h1, h2, h3⟩
set_option maxHeartbeats 1000000 in
theorem newTake_no (P T t : Int) (w : World) (h : (Lay.may P T && decide (0 ≤ t ∧ t < T)) = false) :
    Calls Tryz.prog 22 #[.agg #[.int .i64 P, .int .i64 T], .int .i64 t] w fun e w' => e = .returned (.pointer none) ∧ Adds w w' := by
  cases hm : Lay.may P T
  · go_enter Tryz.func22, Tryz.ntmps22
    go_wp2_with (go_at_call 82; refine (layMay_any P T _).mono ?_; rintro e w1 ⟨rfl, ho1⟩; rw [hm])
    go_ret
    exact ⟨rfl, Adds.box ho1⟩
  · have ht : decide (0 ≤ t ∧ t < T) = false := by simpa [hm] using h
    clear h
    go_enter Tryz.func22, Tryz.ntmps22
    go_wp2_with (first
      | (go_at_call 82; refine (layMay_any P T _).mono ?_; rintro e w1 ⟨rfl, ho1⟩; rw [hm]; obtain ⟨x0, x1, ho2⟩ := box2_cells ho1; have HO2 := Lib.hid ho2; clear ho1 ho2)
      | (go_at_call 83; refine (thread_any P T t _).mono ?_; rintro e w2 ⟨rfl, ho3⟩; rw [ht]))
    go_ret
    exact ⟨rfl, HO2.out.thenF ho3⟩
set_option maxHeartbeats 2000000 in
theorem newTake_ok (P T t : Int) (w : World) (hm : Lay.may P T = true) (ht : decide (0 ≤ t ∧ t < T) = true) :
    Calls Tryz.prog 22 #[.agg #[.int .i64 P, .int .i64 T], .int .i64 t] w fun e w' => ∃ mb, e = .returned (.pointer (some ⟨mb, 0, none⟩)) ∧ IsTake w.heap.size w' mb P T t ∧ Adds w w' := by
  have hb : 0 ≤ t ∧ t < T := by simpa using ht
  have hT := (Lay.may_iff.1 hm).2.2.2
  have e1 : IntKind.i64.wrap (t + 1) = t + 1 := by simp [IntKind.wrap_i64]; omega
  go_enter Tryz.func22, Tryz.ntmps22
  go_wp2_with (first
    | (go_at_call 82; refine (layMay_any P T _).mono ?_; rintro e w1 ⟨rfl, ho1⟩; rw [hm]; obtain ⟨x0, x1, ho2⟩ := box2_cells ho1; have HO2 := Lib.hid ho2; clear ho1 ho2)
    | (go_at_call 83; refine (thread_any P T t _).mono ?_; rintro e w2 ⟨rfl, ho3⟩; rw [ht]; have x0' := (ho3.cellF (p := ⟨w.heap.size, 0, none⟩) (cell_lt x0) id).trans x0; have x1' := (ho3.cellF (p := ⟨w.heap.size, 1, none⟩) (cell_lt x0) id).trans x1; have HO3 := Lib.hid (HO2.out.thenF ho3); clear ho3)
    | (go_at_call 84; refine (deskCas_any (c := #[.int .i64 P, .int .i64 T, .nilFunc]) ((Blk.new w2 _ _).alloc _) (by simp) 2 0 (t + 1) _ _ _).mono ?_; rintro e w3 ⟨rfl, hb3, hc3, ho4⟩; have hj := (show Blk _ (w2.heap.size + 1) #[.pointer (some ⟨w2.heap.size, 0, none⟩)] 64 by simpa using Blk.new (w2.alloc (.cells #[.int .i64 P, .int .i64 T, .nilFunc] 140)) #[.pointer (some ⟨w2.heap.size, 0, none⟩)] 64).only ho4 (by omega); have j0 := hj.one; have HC3 := Lib.hid (And.intro hb3 (And.intro hc3 (And.intro hj ho4))); clear hb3 hc3 hj ho4))
  go_ret
  obtain ⟨b3, c3, j3, o4⟩ := HC3.out
  have hz := HO3.out.size
  simp only [World.size_alloc] at c3 b3
  have oA : Adds w w3 := (HO3.out.thenF (((Only.refl _ w2).alloc _).alloc _)).andThen o4 (fun i hi e => by omega)
  exact ⟨_, rfl, ⟨_, _, by omega, by omega, by omega, by simpa using b3, c3, j3⟩, oA⟩
section
variable {w : World} {mb j : Nat} {c : Array Value} {t : TypeId}
set_option maxHeartbeats 400000 in
theorem takeThen_won (hj : w.cell? ⟨j, 0, none⟩ = some (.pointer (some ⟨mb, 0, none⟩))) (h : Blk w mb c t) (h2 : 2 < c.size) :
    Calls Tryz.prog 85 #[.bool true, .pointer (some ⟨j, 0, none⟩)] w fun e w' => e = .returned (.tuple #[]) ∧ w' = w.setCell ⟨mb, 2, none⟩ .nilFunc := by
  go_enter Tryz.func85, Tryz.ntmps85
  go_wp2_with (go_at_call 71; refine (deskEnd_any h h2).mono ?_; rintro e w1 ⟨rfl, rfl⟩)
  go_end0
  exact ⟨rfl, rfl⟩
set_option maxHeartbeats 400000 in
theorem takeThen_lost (w : World) (j : Nat) : Calls Tryz.prog 85 #[.bool false, .pointer (some ⟨j, 0, none⟩)] w fun e w' => e = .returned (.tuple #[]) ∧ w' = w := by
  go_enter Tryz.func85, Tryz.ntmps85
  go_wp2
  go_end0
  exact ⟨rfl, rfl⟩
end
end Go.Proofs.YtfgjacgkgonglaaGreat

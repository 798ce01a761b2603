/- Package claim: NewClaim, whatever it is given; Step, Done, Page of one that may not be there. By an AI agent. -/
import Derived.Test.YtbcfeaimopijfaaGreatClaim
import Derived.Test.YtbcfeaimopijfaaGreatStack2
namespace Go.Proofs.YtbcfeaimopijfaaGreat
open Go.RowKit
theorem Ph.ok2 (g : Int) : Ph.okB g 2 = Ph.cyc g := by unfold Ph.okB Ph.cyc; simp
theorem Ph.ok6 (g : Int) : Ph.okB g 6 = Ph.cyc g := by unfold Ph.okB Ph.cyc; simp
section
variable {w w' : World} {mb pb n bp bm : Nat} {c : Value → Array Value} {P T hd gen st tk pgv held hand : Int} {nx : Value}
set_option maxRecDepth 100000 in
set_option maxHeartbeats 2000000 in
theorem newClaim_no (P T hd gen : Int) (w : World) (h : (Lay.isHead P T hd && Ph.cyc gen) = false) : Calls Tryz.prog 6 #[.agg #[.int .i64 P, .int .i64 T], .int .i64 hd, .int .i64 gen] w fun e w' => e = .returned (.pointer none) ∧ Adds w w' := by
  obtain ⟨K, hK⟩ : ∃ K, K = Ph.mk gen 2 := ⟨_, rfl⟩
  have HK := Lib.hid hK
  clear hK
  cases hg : Ph.cyc gen
  · have hok : Hid (Ph.okB gen 2 = false) := Lib.hid (by rw [Ph.ok2]; exact hg)
    clear h hg
    go_enter Tryz.func6, Tryz.ntmps6
    go_wp2_with (go_at_call 24; refine (phMake_any gen 2 _ (by omega) (by omega)).mono ?_; rintro e w0 ⟨rfl, rfl⟩; rw [hok.out, ← HK.out])
    go_ret
    exact ⟨rfl, (Only.refl _ _).alloc _⟩
  · have hok : Hid (Ph.okB gen 2 = true) := Lib.hid (by rw [Ph.ok2]; exact hg)
    have hh : Hid (Lay.isHead P T hd = false) := Lib.hid (by rw [hg, Bool.and_true] at h; exact h)
    clear h hg
    cases hm : Lay.may P T
    · go_enter Tryz.func6, Tryz.ntmps6
      go_wp2_with (first
        | (go_at_call 24; refine (phMake_any gen 2 _ (by omega) (by omega)).mono ?_; rintro e w0 ⟨rfl, rfl⟩; rw [hok.out, ← HK.out])
        | (go_at_call 25; refine (layMay_any P T _).mono ?_; rintro e w1 ⟨rfl, ho1⟩; rw [hm]))
      go_ret
      exact ⟨rfl, Adds.box ho1⟩
    · go_enter Tryz.func6, Tryz.ntmps6
      go_wp2_with (first
        | (go_at_call 24; refine (phMake_any gen 2 _ (by omega) (by omega)).mono ?_; rintro e w0 ⟨rfl, rfl⟩; rw [hok.out, ← HK.out])
        | (go_at_call 25; refine (layMay_any P T _).mono ?_; rintro e w1 ⟨rfl, ho1⟩; rw [hm]; obtain ⟨x0, x1, ho2⟩ := box2_cells ho1; have HO2 := Lib.hid ho2; clear ho1 ho2)
        | (go_at_call 26; refine (stackHead_any P T hd _).mono ?_; rintro e w2 ⟨rfl, ho3⟩; rw [hh.out]))
      go_ret
      exact ⟨rfl, HO2.out.thenF ho3⟩
set_option maxRecDepth 100000 in
set_option maxHeartbeats 2000000 in
theorem newClaim_ok (P T hd gen : Int) (w : World) (hh : Lay.isHead P T hd = true) (hg : Ph.cyc gen = true) : Calls Tryz.prog 6 #[.agg #[.int .i64 P, .int .i64 T], .int .i64 hd, .int .i64 gen] w fun e w' => ∃ mb pb n bp bm, e = .returned (.pointer (some ⟨mb, 0, none⟩)) ∧ ClPop w' mb pb (clC P T hd gen 0 0 (-1) (Ph.mk gen 2) (Ph.mk gen 6)) n bp bm ∧ Pop1 w' pb P T hd 0 (-1) ∧ Adds w w' ∧ w.heap.size ≤ mb ∧ w.heap.size ≤ pb := by
  obtain ⟨K, hK⟩ : ∃ K, K = Ph.mk gen 2 := ⟨_, rfl⟩
  obtain ⟨J, hJ⟩ : ∃ J, J = Ph.mk gen 6 := ⟨_, rfl⟩
  rw [← hK, ← hJ]
  have HK := Lib.hid hK; have HJ := Lib.hid hJ
  have hok : Hid (Ph.okB gen 2 = true) := Lib.hid (by rw [Ph.ok2]; exact hg)
  have hok6 : Hid (Ph.okB gen 6 = true) := Lib.hid (by rw [Ph.ok6]; exact hg)
  have hm : Lay.may P T = true := by unfold Lay.isHead at hh; rw [Bool.and_eq_true] at hh; exact hh.1
  have HH := Lib.hid hh; have HM := Lib.hid hm
  clear hK hJ hg hh hm
  go_enter Tryz.func6, Tryz.ntmps6
  go_wp2_with (first
    | (go_at_call 24; with_reducible refine (phMake_any gen 2 _ (by omega) (by omega)).mono ?_; rintro e w0 ⟨rfl, rfl⟩; rw [hok.out, ← HK.out])
    | (go_at_call 25; refine (layMay_any P T _).mono ?_; rintro e w1 ⟨rfl, ho1⟩; rw [HM.out]; obtain ⟨x0, x1, ho2⟩ := box2_cells ho1; have HO2 := Lib.hid ho2; clear ho1 ho2)
    | (go_at_call 26; refine (stackHead_any P T hd _).mono ?_; rintro e w2 ⟨rfl, ho3⟩; rw [HH.out]; have x0' := (ho3.cellF (p := ⟨w.heap.size, 0, none⟩) (cell_lt x0) id).trans x0; have x1' := (ho3.cellF (p := ⟨w.heap.size, 1, none⟩) (cell_lt x0) id).trans x1; have HO3 := Lib.hid (HO2.out.thenF ho3); clear ho3)
    | (go_at_call 24; with_reducible refine (phMake_any gen 6 _ (by omega) (by omega)).mono ?_; rintro e w0 ⟨rfl, rfl⟩; rw [hok6.out, ← HJ.out])
    | (go_at_call 27; refine (claimPop_any (nx := .nilFunc) (Blk.new w2 (clC P T hd gen 0 0 (-1) K J .nilFunc) 74) HH.out).mono ?_; rintro e w3 ⟨rfl, hc, ho4⟩; have HC3 := Lib.hid (And.intro hc ho4); clear hc ho4))
  go_ret
  obtain ⟨⟨pb, n, bp, bm, h1, h2, h3⟩, o4⟩ := HC3.out
  have hz := HO3.out.size
  exact ⟨_, pb, n, bp, bm, rfl, h1, h2, (HO3.out.alloc _).andThen o4 (fun i hi e => by omega), hz, by simp only [World.size_alloc] at h3; omega⟩
def ClaimP (w : World) (p : Option Addr) (P T : Int) : Prop := p = none ∨ ∃ mb pb n bp bm hd gen st tk pgv held hand, p = some ⟨mb, 0, none⟩ ∧ ClPop w mb pb (clC P T hd gen st tk pgv held hand) n bp bm
theorem ClaimP.adds {p : Option Addr} (h : ClaimP w p P T) (ho : Adds w w') : ClaimP w' p P T :=
  h.imp id (fun ⟨mb, pb, n, bp, bm, hd, gen, st, tk, pgv, held, hand, e, h⟩ => ⟨mb, pb, n, bp, bm, hd, gen, st, tk, pgv, held, hand, e, h.adds ho⟩)
theorem newClaimP (P T hd gen : Int) (w : World) : Calls Tryz.prog 6 #[.agg #[.int .i64 P, .int .i64 T], .int .i64 hd, .int .i64 gen] w fun e w' => ∃ p, e = .returned (.pointer p) ∧ p.isSome = (Lay.isHead P T hd && Ph.cyc gen) ∧ ClaimP w' p P T ∧ Adds w w' := by
  cases h : (Lay.isHead P T hd && Ph.cyc gen)
  · exact (newClaim_no P T hd gen w h).mono (fun _ _ ⟨he, ho⟩ => ⟨none, he, rfl, .inl rfl, ho⟩)
  · rw [Bool.and_eq_true] at h
    exact (newClaim_ok P T hd gen w h.1 h.2).mono (fun _ _ ⟨mb, pb, n, bp, bm, he, h1, _, ho, _, _⟩ => ⟨_, he, rfl, .inr ⟨mb, pb, n, bp, bm, hd, gen, 0, 0, -1, _, _, rfl, h1⟩, ho⟩)
theorem claimP_nilA {p : Option Addr} (h : ClaimP w p P T) : Calls Tryz.prog 10 #[.pointer p, .pointer none] w fun e w' => e = .returned (.agg #[.int .i64 0, .int .i64 0, .int .u64 0, .int .u64 0]) ∧ Adds w w' := by
  obtain rfl | ⟨mb, pb, n, bp, bm, hd, gen, st, tk, pgv, held, hand, rfl, h⟩ := h
  · exact claimClaimStep_nil _ _
  · exact (claimClaimStep_some (Q := fun _ => True) (S := fun _ => False) (fun _ _ _ _ => trivial) (fun _ e => e.elim) (fun w1 ho => (deskStep_nilA ((h.adds ho).m.cell 2)).mono (fun _ _ h => ⟨h.1, trivial, h.2⟩))).mono (fun _ _ h => ⟨h.1, h.2.2⟩)
theorem claimP_other {p : Option Addr} {ab sb rb : Nat} {P' T' : Int} (h : ClaimP w p P T) (hA : IsArena w ab sb rb P' T') (hne : (P' == P && T' == T) = false) : Calls Tryz.prog 10 #[.pointer p, .pointer (some ⟨ab, 0, none⟩)] w fun e w' => e = .returned (.agg #[.int .i64 0, .int .i64 0, .int .u64 0, .int .u64 0]) ∧ Adds w w' := by
  obtain rfl | ⟨mb, pb, n, bp, bm, hd, gen, st, tk, pgv, held, hand, rfl, h⟩ := h
  · exact claimClaimStep_nil _ _
  · exact (claimClaimStep_some (Q := fun _ => True) (S := fun _ => False) (fun _ _ _ _ => trivial) (fun _ e => e.elim) (fun w1 ho => (deskStep_other ((h.adds ho).m.cell 2) ((h.adds ho).m.cell 0) ((h.adds ho).m.cell 1) (hA.only ho id) hne).mono (fun _ _ h => ⟨h.1, trivial, h.2⟩))).mono (fun _ _ h => ⟨h.1, h.2.2⟩)
theorem claimP_done {p : Option Addr} (h : ClaimP w p P T) : Calls Tryz.prog 11 #[.pointer p] w fun e w' => e = .returned (.bool false) ∧ w = w' := by
  obtain rfl | ⟨mb, pb, n, bp, bm, hd, gen, st, tk, pgv, held, hand, rfl, h⟩ := h
  · exact claimClaimDone_nil _
  · exact claimClaimDone_no (h.m.cell 2)
theorem claim_nonnil (p : Option Addr) (W : World) : Sem.run Tryz.prog (binOp .neq 24 (.pointer p) (.pointer none)) W = .ok (.bool p.isSome) W := by cases p <;> kernel_rfl
set_option maxHeartbeats 400000 in
theorem claimPage_nil (w : World) : Calls Tryz.prog 12 #[.pointer none] w fun e w' => e = .returned (.int .i64 0) ∧ w = w' := by
  go_enter Tryz.func12, Tryz.ntmps12
  go_wp2
  go_ret
  exact ⟨rfl, rfl⟩
end
end Go.Proofs.YtbcfeaimopijfaaGreat

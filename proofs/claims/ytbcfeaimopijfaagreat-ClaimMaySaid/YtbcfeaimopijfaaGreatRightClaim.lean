/- The document's Right, of claims. By an AI agent. -/
import Derived.Test.YtbcfeaimopijfaaGreatRightStack
import Derived.Test.YtbcfeaimopijfaaGreatPhase
namespace Go.Proofs.YtbcfeaimopijfaaGreat
open Go.RowKit
set_option maxRecDepth 100000 in
set_option maxHeartbeats 4000000 in
theorem right_claim_yes (P T h g : Int) (w : World) (hm : Lay.may P T = true) (h0 : 1 ≤ g) (h1 : g ≤ 2147483648) :
    Calls Tryz.prog 7 #[mAgg 8 P T 0 0 0 0 g h 0 0 0] w fun e w' => e = .returned (.bool (Lay.isHead P T h && true)) ∧ Adds w w' := by
  obtain ⟨p1, p2, p3, p4⟩ := Lay.may_iff.1 hm
  obtain ⟨B, hB⟩ : ∃ B, B = Lay.isHead P T h := ⟨_, rfl⟩
  have HB := Lib.hid hB
  rw [← hB]
  clear hB
  cases B
  all_goals
    go_enter Tryz.func7, Tryz.ntmps7
    go_wp2_with (first
      | (go_at_call 28; refine (r6May_any P T _).mono ?_; rintro e w1 ⟨rfl, ho1⟩; rw [hm]; obtain ⟨c0, c1, c2, c3, c4, c5, c6, c7, c8, c9, c10⟩ := mCells ho1; have HO1 := Lib.hid (Adds.box ho1); clear ho1)
      | (go_at_call 29; refine (r12isHead_any P T h _).mono ?_; rintro e w2 ⟨rfl, ho2⟩; rw [← HB.out]))
    go_ret
    exact ⟨by simp, HO1.out.thenF ho2⟩
set_option maxRecDepth 100000 in
set_option maxHeartbeats 4000000 in
theorem right_claim_low (P T h g : Int) (w : World) (hm : Lay.may P T = true) (h0 : g < 1) :
    Calls Tryz.prog 7 #[mAgg 8 P T 0 0 0 0 g h 0 0 0] w fun e w' => e = .returned (.bool (Lay.isHead P T h && false)) ∧ Adds w w' := by
  obtain ⟨p1, p2, p3, p4⟩ := Lay.may_iff.1 hm
  obtain ⟨B, hB⟩ : ∃ B, B = Lay.isHead P T h := ⟨_, rfl⟩
  have HB := Lib.hid hB
  rw [← hB]
  clear hB
  cases B
  all_goals
    go_enter Tryz.func7, Tryz.ntmps7
    go_wp2_with (first
      | (go_at_call 28; refine (r6May_any P T _).mono ?_; rintro e w1 ⟨rfl, ho1⟩; rw [hm]; obtain ⟨c0, c1, c2, c3, c4, c5, c6, c7, c8, c9, c10⟩ := mCells ho1; have HO1 := Lib.hid (Adds.box ho1); clear ho1)
      | (go_at_call 29; refine (r12isHead_any P T h _).mono ?_; rintro e w2 ⟨rfl, ho2⟩; rw [← HB.out]))
    go_ret
    exact ⟨by simp, HO1.out.thenF ho2⟩
set_option maxRecDepth 100000 in
set_option maxHeartbeats 4000000 in
theorem right_claim_big (P T h g : Int) (w : World) (hm : Lay.may P T = true) (h0 : 1 ≤ g) (h1 : 2147483648 < g) :
    Calls Tryz.prog 7 #[mAgg 8 P T 0 0 0 0 g h 0 0 0] w fun e w' => e = .returned (.bool (Lay.isHead P T h && false)) ∧ Adds w w' := by
  obtain ⟨p1, p2, p3, p4⟩ := Lay.may_iff.1 hm
  have hd : decide (g ≤ 2147483648) = false := by simp; omega
  obtain ⟨B, hB⟩ : ∃ B, B = Lay.isHead P T h := ⟨_, rfl⟩
  have HB := Lib.hid hB
  rw [← hB]
  clear hB
  cases B
  all_goals
    go_enter Tryz.func7, Tryz.ntmps7
    go_wp2_with (first
      | (go_at_call 28; refine (r6May_any P T _).mono ?_; rintro e w1 ⟨rfl, ho1⟩; rw [hm]; obtain ⟨c0, c1, c2, c3, c4, c5, c6, c7, c8, c9, c10⟩ := mCells ho1; have HO1 := Lib.hid (Adds.box ho1); clear ho1)
      | (go_at_call 29; refine (r12isHead_any P T h _).mono ?_; rintro e w2 ⟨rfl, ho2⟩; rw [← HB.out]))
    go_ret
    exact ⟨by simp, HO1.out.thenF ho2⟩
theorem right_claimP (P T h g : Int) (w : World) : Calls Tryz.prog 7 #[mAgg 8 P T 0 0 0 0 g h 0 0 0] w fun e w' => e = .returned (.bool (Lay.isHead P T h && Ph.cyc g)) ∧ Adds w w' := by
  unfold Ph.cyc
  cases hm : Lay.may P T
  · rw [show Lay.isHead P T h = false by simp [Lay.isHead, hm]]; exact right_no 8 P T 0 0 0 0 g h 0 0 0 w hm
  · rcases Int.lt_or_le g 1 with h0 | h0
    · rw [decide_eq_false (by omega)]; exact right_claim_low P T h g w hm h0
    rcases Int.lt_or_le 2147483648 g with h1 | h1
    · rw [decide_eq_false (by omega)]; exact right_claim_big P T h g w hm h0 h1
    · rw [decide_eq_true ⟨h0, h1⟩]; exact right_claim_yes P T h g w hm h0 h1
end Go.Proofs.YtbcfeaimopijfaaGreat

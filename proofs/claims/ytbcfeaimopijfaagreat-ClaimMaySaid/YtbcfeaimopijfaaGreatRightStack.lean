/- The document's Right, of pops and pushes. By an AI agent. -/
import Derived.Test.YtbcfeaimopijfaaGreatRight
import Derived.Test.YtbcfeaimopijfaaGreatHead
import Derived.Test.YtbcfeaimopijfaaGreatLayoutRefName2
namespace Go.Proofs.YtbcfeaimopijfaaGreat
open Go.RowKit
set_option maxHeartbeats 1000000 in
theorem r12isHead_any (P T i : Int) (w : World) :
    Calls Tryz.prog 29 #[.agg #[.int .i64 P, .int .i64 T], .int .i64 i] w fun e w' => e = .returned (.bool (Lay.isHead P T i)) ∧ Adds w w' := by
  cases hh : Lay.isHead P T i
  · cases ho : Lay.nameOk P T i
    · go_enter Tryz.func29, Tryz.ntmps29
      go_wp2_with (go_at_call 56; refine (r6Name_any P T i _).mono ?_; rintro e w1 ⟨rfl, ho1⟩; rw [nameOf_no ho])
      go_ret
      exact ⟨by simp, (Adds.box ho1).alloc _⟩
    · have hk := Lay.not_head_kind hh ho
      obtain ⟨a, b, c, hx⟩ : ∃ a b c, Lay.nameAt P T i = (a, b, c) := ⟨_, _, _, rfl⟩
      rw [hx] at hk
      have hk' : (a == 7) = false := by simpa using hk
      have HX := Lib.hid hx; have HO := Lib.hid ho
      clear hx ho hk hh
      go_enter Tryz.func29, Tryz.ntmps29
      go_wp2_with (go_at_call 56; refine (r6Name_any P T i _).mono ?_; rintro e w1 ⟨rfl, ho1⟩; rw [nameOf_yes HO.out HX.out])
      go_ret
      exact ⟨by simp, (Adds.box ho1).alloc _⟩
  · obtain ⟨ho, hk⟩ := Lay.isHead_kind hh
    obtain ⟨a, b, c, hx⟩ : ∃ a b c, Lay.nameAt P T i = (a, b, c) := ⟨_, _, _, rfl⟩
    rw [hx] at hk
    obtain rfl : a = 7 := hk
    have HX := Lib.hid hx; have HO := Lib.hid ho
    clear hx ho hh
    go_enter Tryz.func29, Tryz.ntmps29
    go_wp2_with (go_at_call 56; refine (r6Name_any P T i _).mono ?_; rintro e w1 ⟨rfl, ho1⟩; rw [nameOf_yes HO.out HX.out])
    go_ret
    exact ⟨by simp, (Adds.box ho1).alloc _⟩
set_option maxRecDepth 100000 in
set_option maxHeartbeats 4000000 in
theorem right_pop (P T h : Int) (w : World) (hm : Lay.may P T = true) :
    Calls Tryz.prog 7 #[mAgg 1 P T 0 0 0 0 0 h 0 0 0] w fun e w' => e = .returned (.bool (Lay.isHead P T h)) ∧ Adds w w' := by
  obtain ⟨p1, p2, p3, p4⟩ := Lay.may_iff.1 hm
  obtain ⟨B, hB⟩ : ∃ B, B = Lay.isHead P T h := ⟨_, rfl⟩
  have HB := Lib.hid hB
  rw [← hB]
  clear hB
  go_enter Tryz.func7, Tryz.ntmps7
  go_wp2_with (first
    | (go_at_call 28; refine (r6May_any P T _).mono ?_; rintro e w1 ⟨rfl, ho1⟩; rw [hm]; obtain ⟨c0, c1, c2, c3, c4, c5, c6, c7, c8, c9, c10⟩ := mCells ho1; have HO1 := Lib.hid (Adds.box ho1); clear ho1)
    | (go_at_call 29; refine (r12isHead_any P T h _).mono ?_; rintro e w2 ⟨rfl, ho2⟩; rw [← HB.out]))
  go_ret
  exact ⟨by simp, HO1.out.thenF ho2⟩
set_option maxRecDepth 100000 in
set_option maxHeartbeats 4000000 in
theorem right_push_yes (P T h p : Int) (w : World) (hm : Lay.may P T = true) (h0 : 0 ≤ p) (h1 : p < P) :
    Calls Tryz.prog 7 #[mAgg 2 P T 0 p 0 0 0 h 0 0 0] w fun e w' => e = .returned (.bool (Lay.isHead P T h && true)) ∧ Adds w w' := by
  obtain ⟨p1, p2, p3, p4⟩ := Lay.may_iff.1 hm
  obtain ⟨B, hB⟩ : ∃ B, B = Lay.isHead P T h := ⟨_, rfl⟩
  have HB := Lib.hid hB
  rw [← hB]
  clear hB
  cases B
  all_goals
    go_enter Tryz.func7, Tryz.ntmps7
    go_wp2_with (first
      | (go_at_call 28; refine (r6May_any P T _).mono ?_; rintro e w1 ⟨rfl, ho1⟩; rw [hm]; obtain ⟨c0, c1, c2, c3, c4, c5, c6, c7, c8, c9, c10⟩ := mCells ho1; have HO1 := Lib.hid (Adds.box ho1); clear ho1)
      | (go_at_call 29; refine (r12isHead_any P T h _).mono ?_; rintro e w2 ⟨rfl, ho2⟩; rw [← HB.out]))
    go_ret
    exact ⟨by simp, HO1.out.thenF ho2⟩
set_option maxRecDepth 100000 in
set_option maxHeartbeats 4000000 in
theorem right_push_neg (P T h p : Int) (w : World) (hm : Lay.may P T = true) (h0 : p < 0) :
    Calls Tryz.prog 7 #[mAgg 2 P T 0 p 0 0 0 h 0 0 0] w fun e w' => e = .returned (.bool (Lay.isHead P T h && false)) ∧ Adds w w' := by
  obtain ⟨p1, p2, p3, p4⟩ := Lay.may_iff.1 hm
  obtain ⟨B, hB⟩ : ∃ B, B = Lay.isHead P T h := ⟨_, rfl⟩
  have HB := Lib.hid hB
  rw [← hB]
  clear hB
  cases B
  all_goals
    go_enter Tryz.func7, Tryz.ntmps7
    go_wp2_with (first
      | (go_at_call 28; refine (r6May_any P T _).mono ?_; rintro e w1 ⟨rfl, ho1⟩; rw [hm]; obtain ⟨c0, c1, c2, c3, c4, c5, c6, c7, c8, c9, c10⟩ := mCells ho1; have HO1 := Lib.hid (Adds.box ho1); clear ho1)
      | (go_at_call 29; refine (r12isHead_any P T h _).mono ?_; rintro e w2 ⟨rfl, ho2⟩; rw [← HB.out]))
    go_ret
    exact ⟨by simp, HO1.out.thenF ho2⟩
set_option maxRecDepth 100000 in
set_option maxHeartbeats 4000000 in
theorem right_push_big (P T h p : Int) (w : World) (hm : Lay.may P T = true) (h0 : 0 ≤ p) (h1 : P ≤ p) :
    Calls Tryz.prog 7 #[mAgg 2 P T 0 p 0 0 0 h 0 0 0] w fun e w' => e = .returned (.bool (Lay.isHead P T h && false)) ∧ Adds w w' := by
  obtain ⟨p1, p2, p3, p4⟩ := Lay.may_iff.1 hm
  have hd : decide (p < P) = false := by simp; omega
  obtain ⟨B, hB⟩ : ∃ B, B = Lay.isHead P T h := ⟨_, rfl⟩
  have HB := Lib.hid hB
  rw [← hB]
  clear hB
  cases B
  all_goals
    go_enter Tryz.func7, Tryz.ntmps7
    go_wp2_with (first
      | (go_at_call 28; refine (r6May_any P T _).mono ?_; rintro e w1 ⟨rfl, ho1⟩; rw [hm]; obtain ⟨c0, c1, c2, c3, c4, c5, c6, c7, c8, c9, c10⟩ := mCells ho1; have HO1 := Lib.hid (Adds.box ho1); clear ho1)
      | (go_at_call 29; refine (r12isHead_any P T h _).mono ?_; rintro e w2 ⟨rfl, ho2⟩; rw [← HB.out]))
    go_ret
    exact ⟨by simp, HO1.out.thenF ho2⟩
theorem right_popP (P T h : Int) (w : World) : Calls Tryz.prog 7 #[mAgg 1 P T 0 0 0 0 0 h 0 0 0] w fun e w' => e = .returned (.bool (Lay.isHead P T h)) ∧ Adds w w' := by
  cases hm : Lay.may P T
  · rw [show Lay.isHead P T h = false by simp [Lay.isHead, hm]]; exact right_no 1 P T 0 0 0 0 0 h 0 0 0 w hm
  · exact right_pop P T h w hm
theorem right_pushP (P T h p : Int) (w : World) : Calls Tryz.prog 7 #[mAgg 2 P T 0 p 0 0 0 h 0 0 0] w fun e w' => e = .returned (.bool (Lay.isHead P T h && decide (0 ≤ p ∧ p < P))) ∧ Adds w w' := by
  cases hm : Lay.may P T
  · rw [show Lay.isHead P T h = false by simp [Lay.isHead, hm]]; exact right_no 2 P T 0 p 0 0 0 h 0 0 0 w hm
  · rcases Int.lt_or_le p 0 with h0 | h0
    · rw [decide_eq_false (by omega)]; exact right_push_neg P T h p w hm h0
    rcases Int.lt_or_le p P with h1 | h1
    · rw [decide_eq_true ⟨h0, h1⟩]; exact right_push_yes P T h p w hm h0 h1
    · rw [decide_eq_false (by omega)]; exact right_push_big P T h p w hm h0 h1
end Go.Proofs.YtbcfeaimopijfaaGreat

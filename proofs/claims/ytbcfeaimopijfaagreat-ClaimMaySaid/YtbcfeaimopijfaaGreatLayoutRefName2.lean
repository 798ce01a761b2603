/- The reference's Name (chapter 8): the same answer, at every word. By an AI agent. -/
import Derived.Test.YtbcfeaimopijfaaGreatLayoutRefName
namespace Go.Proofs.YtbcfeaimopijfaaGreat
open Go.RowKit
set_option maxRecDepth 100000 in
set_option maxHeartbeats 8000000 in
theorem r6Name_any (P T i : Int) (w : World) :
    Calls Tryz.prog 56 #[.agg #[.int .i64 P, .int .i64 T], .int .i64 i] w fun e w' => e = nameOf (Lay.nameOk P T i) (Lay.nameAt P T i) ∧ Adds w w' := by
  have B1 := (Blk.new w #[.int .i64 P, .int .i64 T] 23).alloc (.cells #[.int .i64 0, .int .i64 0, .int .i64 0] 99)
  have B2 := Blk.new (w.alloc (.cells #[.int .i64 P, .int .i64 T] 23)) #[.int .i64 0, .int .i64 0, .int .i64 0] 99
  rw [World.size_alloc] at B2
  have HA := Lib.hid (((Only.refl (fun _ => False) w).alloc (.cells #[.int .i64 P, .int .i64 T] 23)).alloc (.cells #[.int .i64 0, .int .i64 0, .int .i64 0] 99))
  cases hn : Lay.nameOk P T i
  · rw [nameOf_no rfl]
    by_cases hi : i < 0
    · clear hn
      go_enter Tryz.func56, Tryz.ntmps56
      go_wp2
      exact bodyPost_ret (v := .tuple #[.agg #[.int .i64 0, .int .i64 0, .int .i64 0], .bool false]) (by simp [results, Tryz.results56, go_sem, *]) rfl ⟨rfl, by simpa using HA.out⟩
    · have hw2 : Lay.words P T ≤ i := by
        rcases (show i < Lay.words P T ∨ Lay.words P T ≤ i by omega) with h | h
        · simp [Lay.nameOk] at hn; omega
        · exact h
      clear hn
      go_enter Tryz.func56, Tryz.ntmps56
      go_wp2_with (go_at_call 67; refine (r6Words_any _ _ _).mono ?_; rintro e w1 ⟨rfl, ho⟩; replace B1 := B1.only ho id; replace B2 := B2.only ho id; replace HA := Lib.hid (HA.out.thenF ho); clear ho; obtain ⟨q0, q1⟩ := cells2 B1; obtain ⟨q2, q3, q4, g2, g3, g4⟩ := cells3 B2)
      exact bodyPost_ret (v := .tuple #[.agg #[.int .i64 0, .int .i64 0, .int .i64 0], .bool false]) (by simp [results, Tryz.results56, go_sem, *]) rfl ⟨rfl, HA.out.set3 (by omega) _ _ _⟩
  have hn' := hn
  have hm := Lay.nameOk_may hn
  obtain ⟨hP1, hP2, hT1, hT2⟩ := Lay.may_iff.1 hm
  obtain ⟨hb1, hb2⟩ := Lay.many_bd hP1 hP2
  have hw1 : Lay.words P T = 68 + 14 * T + 6 * P + 2 * Lay.many P := by simp [Lay.words, hm]
  have hi : 0 ≤ i ∧ i < 68 + 14 * T + 6 * P + 2 * Lay.many P := by
    simp only [Lay.nameOk, decide_eq_true_eq] at hn; omega
  obtain ⟨hi1, hi2⟩ := hi
  have hw2 : i < Lay.words P T := by omega
  clear hw1
  rcases (show (0 ≤ i ∧ i < 5) ∨ (5 ≤ i ∧ i < 8) ∨ (8 ≤ i ∧ i < 68) ∨ (68 ≤ i ∧ i < 68 + 14 * T) ∨ (68 + 14 * T ≤ i ∧ i < 68 + 14 * T + 5 * P) ∨ (68 + 14 * T + 5 * P ≤ i ∧ i < 68 + 14 * T + 6 * P) ∨ 68 + 14 * T + 6 * P ≤ i by omega) with ⟨c1, c2⟩ | ⟨c1, c2⟩ | ⟨c1, c2⟩ | ⟨c1, c2⟩ | ⟨c1, c2⟩ | ⟨c1, c2⟩ | c1
  · rw [nameOf_yes rfl (show Lay.nameAt P T i = (i + 1, 0, 0) by unfold Lay.nameAt; rw [if_pos (by omega)]; unfold Lay.aloneK; rw [if_pos (by omega)])]
    clear hn hn' hm
    go_enter Tryz.func56, Tryz.ntmps56
    go_wp2_with (go_at_call 67; refine (r6Words_any _ _ _).mono ?_; rintro e w1 ⟨rfl, ho⟩; replace B1 := B1.only ho id; replace B2 := B2.only ho id; replace HA := Lib.hid (HA.out.thenF ho); clear ho; obtain ⟨q0, q1⟩ := cells2 B1; obtain ⟨q2, q3, q4, g2, g3, g4⟩ := cells3 B2)
    exact bodyPost_ret (v := .tuple #[.agg #[.int .i64 (i + 1), .int .i64 (0), .int .i64 (0)], .bool true]) (by simp [results, Tryz.results56, go_sem, *]) rfl ⟨rfl, HA.out.set3 (by omega) _ _ _⟩
  · rw [nameOf_yes rfl (show Lay.nameAt P T i = (6, 0, 0) by unfold Lay.nameAt; rw [if_pos (by omega)]; unfold Lay.aloneK; rw [if_neg (by omega)])]
    clear hn hn' hm
    rcases (show i = 5 ∨ i = 6 ∨ i = 7 by omega) with rfl | rfl | rfl
    all_goals clear c1 c2 hi1
    all_goals go_enter Tryz.func56, Tryz.ntmps56
    all_goals go_wp2_with (go_at_call 67; refine (r6Words_any _ _ _).mono ?_; rintro e w1 ⟨rfl, ho⟩; replace B1 := B1.only ho id; replace B2 := B2.only ho id; replace HA := Lib.hid (HA.out.thenF ho); clear ho; obtain ⟨q0, q1⟩ := cells2 B1; obtain ⟨q2, q3, q4, g2, g3, g4⟩ := cells3 B2)
    all_goals exact bodyPost_ret (v := .tuple #[.agg #[.int .i64 (6), .int .i64 (0), .int .i64 (0)], .bool true]) (by simp [results, Tryz.results56, go_sem, *]) rfl ⟨rfl, HA.out.set3 (by omega) _ _ _⟩
  · rw [nameOf_yes rfl (show Lay.nameAt P T i = (7, (i - 8) / 4, (i - 8) % 4) by unfold Lay.nameAt; (repeat (first | rw [if_pos (by omega)] | rw [if_neg (by omega)])))]
    clear hn hn' hm
    go_enter Tryz.func56, Tryz.ntmps56
    go_wp2_with (go_at_call 67; refine (r6Words_any _ _ _).mono ?_; rintro e w1 ⟨rfl, ho⟩; replace B1 := B1.only ho id; replace B2 := B2.only ho id; replace HA := Lib.hid (HA.out.thenF ho); clear ho; obtain ⟨q0, q1⟩ := cells2 B1; obtain ⟨q2, q3, q4, g2, g3, g4⟩ := cells3 B2)
    exact bodyPost_ret (v := .tuple #[.agg #[.int .i64 (7), .int .i64 ((i - 8) / 4), .int .i64 ((i - 8) % 4)], .bool true]) (by simp [results, Tryz.results56, go_sem, *]) rfl ⟨rfl, HA.out.set3 (by omega) _ _ _⟩
  · rw [nameOf_yes rfl (show Lay.nameAt P T i = (8, (i - 68) / 14, (i - 68) % 14) by unfold Lay.nameAt; (repeat (first | rw [if_pos (by omega)] | rw [if_neg (by omega)])))]
    clear hn hn' hm
    go_enter Tryz.func56, Tryz.ntmps56
    go_wp2_with (go_at_call 67; refine (r6Words_any _ _ _).mono ?_; rintro e w1 ⟨rfl, ho⟩; replace B1 := B1.only ho id; replace B2 := B2.only ho id; replace HA := Lib.hid (HA.out.thenF ho); clear ho; obtain ⟨q0, q1⟩ := cells2 B1; obtain ⟨q2, q3, q4, g2, g3, g4⟩ := cells3 B2)
    exact bodyPost_ret (v := .tuple #[.agg #[.int .i64 (8), .int .i64 ((i - 68) / 14), .int .i64 ((i - 68) % 14)], .bool true]) (by simp [results, Tryz.results56, go_sem, *]) rfl ⟨rfl, HA.out.set3 (by omega) _ _ _⟩
  · rw [nameOf_yes rfl (show Lay.nameAt P T i = (9 + (i - 68 - 14 * T) % 5, (i - 68 - 14 * T) / 5, 0) by unfold Lay.nameAt; (repeat (first | rw [if_pos (by omega)] | rw [if_neg (by omega)])); rw [show i - (68 + 14 * T) = i - 68 - 14 * T by omega])]
    clear hn hn' hm
    go_enter Tryz.func56, Tryz.ntmps56
    go_wp2_with (go_at_call 67; refine (r6Words_any _ _ _).mono ?_; rintro e w1 ⟨rfl, ho⟩; replace B1 := B1.only ho id; replace B2 := B2.only ho id; replace HA := Lib.hid (HA.out.thenF ho); clear ho; obtain ⟨q0, q1⟩ := cells2 B1; obtain ⟨q2, q3, q4, g2, g3, g4⟩ := cells3 B2)
    exact bodyPost_ret (v := .tuple #[.agg #[.int .i64 (9 + (i - 68 - 14 * T) % 5), .int .i64 ((i - 68 - 14 * T) / 5), .int .i64 (0)], .bool true]) (by simp [results, Tryz.results56, go_sem, *]) rfl ⟨rfl, HA.out.set3 (by omega) _ _ _⟩
  · rw [nameOf_yes rfl (show Lay.nameAt P T i = (14, i - 68 - 14 * T - 5 * P, 0) by unfold Lay.nameAt; (repeat (first | rw [if_pos (by omega)] | rw [if_neg (by omega)])); rw [show i - (68 + 14 * T + 5 * P) = i - 68 - 14 * T - 5 * P by omega])]
    clear hn hn' hm
    go_enter Tryz.func56, Tryz.ntmps56
    go_wp2_with (go_at_call 67; refine (r6Words_any _ _ _).mono ?_; rintro e w1 ⟨rfl, ho⟩; replace B1 := B1.only ho id; replace B2 := B2.only ho id; replace HA := Lib.hid (HA.out.thenF ho); clear ho; obtain ⟨q0, q1⟩ := cells2 B1; obtain ⟨q2, q3, q4, g2, g3, g4⟩ := cells3 B2)
    exact bodyPost_ret (v := .tuple #[.agg #[.int .i64 (14), .int .i64 (i - 68 - 14 * T - 5 * P), .int .i64 (0)], .bool true]) (by simp [results, Tryz.results56, go_sem, *]) rfl ⟨rfl, HA.out.set3 (by omega) _ _ _⟩
  · have := r6Name_last P T i w hn' c1 hi2
    rw [hn'] at this
    exact this
end Go.Proofs.YtbcfeaimopijfaaGreat

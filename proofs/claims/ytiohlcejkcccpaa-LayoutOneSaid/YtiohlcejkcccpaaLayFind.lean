/- The law's find; what a thing's word is for, and where a word's thing is (no program in sight). By an AI agent. -/
import Derived.Test.YtiohlcejkcccpaaLayAwake
namespace Go.Proofs.Ytiohlcejkcccpaa
open Go.RowKit
namespace Lay
def findOk (P T K A B : Int) : Bool := if K = 7 then headOk P T A (B % 2) else if K = 8 then cacheOk P T A B else if K = 15 ∨ K = 16 then mapOk P T K A else pageOk P T K A
def findAt (P T K A B : Int) : Int := if K = 7 then headAt A (decide (2 ≤ B)) (B % 2) else if K = 8 then cacheAt A B else if K = 15 ∨ K = 16 then mapAt P T K A else pageAt P T K A
theorem words_bd {P T : Int} (h : may P T = true) : 90 ≤ words P T ∧ words P T ≤ 25668 := by
  obtain ⟨a, b, c, d⟩ := may_iff.1 h
  have := many_bd a b
  simp only [words, h, if_true]
  unfold many at *
  omega
/-- What the word of a thing is for. -/
theorem name_head {P T c p : Int} {full : Bool} (h : headOk P T c p = true) : nameOk P T (headAt c full p) = true ∧ nameAt P T (headAt c full p) = (7, c, p + if full then 2 else 0) := by
  simp only [headOk, Bool.and_eq_true, decide_eq_true_eq] at h
  obtain ⟨hm, h1, h2, h3, h4⟩ := h
  have hw := words_bd hm
  have hx : headAt c full p = 8 + 4 * c + (p + if full then 2 else 0) := by unfold headAt; omega
  have hq : 0 ≤ (p + if full then (2 : Int) else 0) ∧ (p + if full then (2 : Int) else 0) < 4 := by split <;> omega
  generalize (p + if full then (2 : Int) else 0) = q at *
  rw [hx]
  refine ⟨by simp only [nameOk, decide_eq_true_eq]; omega, ?_⟩
  unfold nameAt
  rw [if_neg (by omega), if_pos (by omega)]
  have e1 : (8 + 4 * c + q - 8) / 4 = c := by omega
  have e2 : (8 + 4 * c + q - 8) % 4 = q := by omega
  rw [e1, e2]
theorem name_cache {P T t c : Int} (h : cacheOk P T t c = true) : nameOk P T (cacheAt t c) = true ∧ nameAt P T (cacheAt t c) = (8, t, c) := by
  simp only [cacheOk, Bool.and_eq_true, decide_eq_true_eq] at h
  obtain ⟨hm, h1, h2, h3, h4⟩ := h
  obtain ⟨a, b, c1, d⟩ := may_iff.1 hm
  have hb := many_bd a b
  have hw : words P T = 68 + 14 * T + 6 * P + 2 * many P := by simp [words, hm]
  unfold cacheAt
  refine ⟨by simp only [nameOk, decide_eq_true_eq]; omega, ?_⟩
  unfold nameAt
  rw [if_neg (by omega), if_neg (by omega), if_pos (by omega)]
  have e1 : (68 + 14 * t + c - 68) / 14 = t := by omega
  have e2 : (68 + 14 * t + c - 68) % 14 = c := by omega
  rw [e1, e2]
theorem name_page {P T k p : Int} (h : pageOk P T k p = true) : nameOk P T (pageAt P T k p) = true ∧ nameAt P T (pageAt P T k p) = (k, p, 0) := by
  simp only [pageOk, Bool.and_eq_true, decide_eq_true_eq] at h
  obtain ⟨hm, h1, h2, h3, h4⟩ := h
  obtain ⟨a, b, c1, d⟩ := may_iff.1 hm
  have hb := many_bd a b
  have hw : words P T = 68 + 14 * T + 6 * P + 2 * many P := by simp [words, hm]
  by_cases hk : k = 14
  · subst hk
    have e : pageAt P T 14 p = 68 + 14 * T + 5 * P + p := by simp [pageAt]
    rw [e]
    refine ⟨by simp only [nameOk, decide_eq_true_eq]; omega, ?_⟩
    unfold nameAt
    rw [if_neg (by omega), if_neg (by omega), if_neg (by omega), if_neg (by omega), if_pos (by omega)]
    congr 2; omega
  · have e : pageAt P T k p = 68 + 14 * T + 5 * p + k - 9 := by simp [pageAt, hk]
    rw [e]
    refine ⟨by simp only [nameOk, decide_eq_true_eq]; omega, ?_⟩
    unfold nameAt
    rw [if_neg (by omega), if_neg (by omega), if_neg (by omega), if_pos (by omega)]
    have e1 : 9 + (68 + 14 * T + 5 * p + k - 9 - (68 + 14 * T)) % 5 = k := by omega
    have e2 : (68 + 14 * T + 5 * p + k - 9 - (68 + 14 * T)) / 5 = p := by omega
    rw [e1, e2]
theorem name_map {P T k i : Int} (h : mapOk P T k i = true) : nameOk P T (mapAt P T k i) = true ∧ nameAt P T (mapAt P T k i) = (k, i, 0) := by
  simp only [mapOk, Bool.and_eq_true, decide_eq_true_eq] at h
  obtain ⟨hm, h1, h2, h3⟩ := h
  obtain ⟨a, b, c1, d⟩ := may_iff.1 hm
  have hb := many_bd a b
  have hw : words P T = 68 + 14 * T + 6 * P + 2 * many P := by simp [words, hm]
  rcases h3 with rfl | rfl
  · have e : mapAt P T 15 i = 68 + 14 * T + 6 * P + i := by simp [mapAt]
    rw [e]
    refine ⟨by simp only [nameOk, decide_eq_true_eq]; omega, ?_⟩
    unfold nameAt
    rw [if_neg (by omega), if_neg (by omega), if_neg (by omega), if_neg (by omega), if_neg (by omega), if_pos (by omega)]
    congr 2; omega
  · have e : mapAt P T 16 i = 68 + 14 * T + 6 * P + many P + i := by simp [mapAt]
    rw [e]
    refine ⟨by simp only [nameOk, decide_eq_true_eq]; omega, ?_⟩
    unfold nameAt
    rw [if_neg (by omega), if_neg (by omega), if_neg (by omega), if_neg (by omega), if_neg (by omega), if_neg (by omega)]
    congr 2; omega
/-- A word behind the first eight is found by its name. -/
theorem find_name {P T i : Int} (h : nameOk P T i = true) (h8 : 8 ≤ i) :
    0 ≤ (nameAt P T i).2.2 ∧ findOk P T (nameAt P T i).1 (nameAt P T i).2.1 (nameAt P T i).2.2 = true ∧ findAt P T (nameAt P T i).1 (nameAt P T i).2.1 (nameAt P T i).2.2 = i := by
  have hm := nameOk_may h
  obtain ⟨a, b, c1, d⟩ := may_iff.1 hm
  have hb := many_bd a b
  have hw : words P T = 68 + 14 * T + 6 * P + 2 * many P := by simp [words, hm]
  simp only [nameOk, decide_eq_true_eq] at h
  unfold nameAt
  rw [if_neg (by omega)]
  by_cases c2 : i < 68
  · rw [if_pos c2]
    refine ⟨by show 0 ≤ (i - 8) % 4; omega, by simp only [findOk, headOk, hm]; simp; omega, ?_⟩
    simp only [findAt, headAt, if_true]
    by_cases hq : 2 ≤ (i - 8) % 4
    · simp [hq]; omega
    · simp [hq]; omega
  rw [if_neg c2]
  by_cases c3 : i < 68 + 14 * T
  · rw [if_pos c3]
    refine ⟨by show 0 ≤ (i - 68) % 14; omega, by simp only [findOk, cacheOk, hm]; simp; omega, ?_⟩
    simp only [findAt, cacheAt]; simp; omega
  rw [if_neg c3]
  by_cases c4 : i < 68 + 14 * T + 5 * P
  · rw [if_pos c4]
    generalize hy : (i - (68 + 14 * T)) = y at *
    have hk : 9 ≤ 9 + y % 5 ∧ 9 + y % 5 < 14 := by omega
    have hk7 : ¬ 9 + y % 5 = 7 := by omega
    have hk8 : ¬ 9 + y % 5 = 8 := by omega
    have hk14 : ¬ 9 + y % 5 = 14 := by omega
    have hk15 : ¬ (9 + y % 5 = 15 ∨ 9 + y % 5 = 16) := by omega
    refine ⟨by show (0 : Int) ≤ 0; omega, ?_, ?_⟩
    · simp only [findOk, hk7, hk8, hk15, if_false, pageOk, hm, Bool.true_and, decide_eq_true_eq]; omega
    · simp only [findAt, hk7, hk8, hk15, hk14, if_false, pageAt]; omega
  rw [if_neg c4]
  by_cases c5 : i < 68 + 14 * T + 6 * P
  · rw [if_pos c5]
    refine ⟨by show (0 : Int) ≤ 0; omega, ?_, ?_⟩
    · simp [findOk, pageOk, hm]; omega
    · simp [findAt, pageAt]; omega
  rw [if_neg c5]
  by_cases c6 : i < 68 + 14 * T + 6 * P + many P
  · rw [if_pos c6]
    refine ⟨by show (0 : Int) ≤ 0; omega, ?_, ?_⟩
    · simp [findOk, mapOk, hm]; omega
    · simp [findAt, mapAt]; omega
  rw [if_neg c6]
  refine ⟨by show (0 : Int) ≤ 0; omega, ?_, ?_⟩
  · simp [findOk, mapOk, hm]; omega
  · simp [findAt, mapAt]; omega
end Lay
set_option maxHeartbeats 2000000 in
theorem find_any (P T K A B : Int) (w : World) (hB : 0 ≤ B) :
    Calls Try.prog 10 #[.agg #[.int .i64 P, .int .i64 T], .agg #[.int .i64 K, .int .i64 A, .int .i64 B]] w fun e w' => e = atOf (Lay.findOk P T K A B) (Lay.findAt P T K A B) ∧ Adds w w' := by
  by_cases h7 : K = 7
  · subst h7
    have e1 : Lay.findOk P T 7 A B = Lay.headOk P T A (B % 2) := by simp [Lay.findOk]
    have e2 : Lay.findAt P T 7 A B = Lay.headAt A (decide (2 ≤ B)) (B % 2) := by simp [Lay.findAt]
    rw [e1, e2]; clear e1 e2
    go_enter Try.func10, Try.ntmps10
    go_wp2_with (go_at_call 15; refine (layHead_any _ _ _ _ _ _).mono ?_; rintro e w1 ⟨rfl, ho⟩; unfold atOf)
    go_ret2
    exact ⟨rfl, Adds.box2 (by assumption)⟩
  have k7 : (K == 7) = false := by simpa using h7
  by_cases h8 : K = 8
  · subst h8
    have e1 : Lay.findOk P T 8 A B = Lay.cacheOk P T A B := by simp [Lay.findOk]
    have e2 : Lay.findAt P T 8 A B = Lay.cacheAt A B := by simp [Lay.findAt]
    rw [e1, e2]; clear e1 e2 h7 k7
    go_enter Try.func10, Try.ntmps10
    go_wp2_with (go_at_call 17; refine (layCache_any _ _ _ _ _).mono ?_; rintro e w1 ⟨rfl, ho⟩; unfold atOf)
    go_ret2
    exact ⟨rfl, Adds.box2 (by assumption)⟩
  have k8 : (K == 8) = false := by simpa using h8
  by_cases h15 : K = 15
  · subst h15
    have e1 : Lay.findOk P T 15 A B = Lay.mapOk P T 15 A := by simp [Lay.findOk]
    have e2 : Lay.findAt P T 15 A B = Lay.mapAt P T 15 A := by simp [Lay.findAt]
    rw [e1, e2]; clear e1 e2 h7 k7 h8 k8
    go_enter Try.func10, Try.ntmps10
    go_wp2_with (go_at_call 21; refine (layMap_any _ _ _ _ _).mono ?_; rintro e w1 ⟨rfl, ho⟩; unfold atOf)
    go_ret2
    exact ⟨rfl, Adds.box2 (by assumption)⟩
  have k15 : (K == 15) = false := by simpa using h15
  by_cases h16 : K = 16
  · subst h16
    have e1 : Lay.findOk P T 16 A B = Lay.mapOk P T 16 A := by simp [Lay.findOk]
    have e2 : Lay.findAt P T 16 A B = Lay.mapAt P T 16 A := by simp [Lay.findAt]
    rw [e1, e2]; clear e1 e2 h7 k7 h8 k8 h15 k15
    go_enter Try.func10, Try.ntmps10
    go_wp2_with (go_at_call 21; refine (layMap_any _ _ _ _ _).mono ?_; rintro e w1 ⟨rfl, ho⟩; unfold atOf)
    go_ret2
    exact ⟨rfl, Adds.box2 (by assumption)⟩
  have k16 : (K == 16) = false := by simpa using h16
  have e1 : Lay.findOk P T K A B = Lay.pageOk P T K A := by simp [Lay.findOk, h7, h8, h15, h16]
  have e2 : Lay.findAt P T K A B = Lay.pageAt P T K A := by simp [Lay.findAt, h7, h8, h15, h16]
  rw [e1, e2]; clear e1 e2 h7 h8 h15 h16
  go_enter Try.func10, Try.ntmps10
  go_wp2_with (go_at_call 19; refine (layPage_any _ _ _ _ _).mono ?_; rintro e w1 ⟨rfl, ho⟩; unfold atOf)
  go_ret2
  exact ⟨rfl, Adds.box2 (by assumption)⟩
end Go.Proofs.Ytiohlcejkcccpaa

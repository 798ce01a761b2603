/- The reference's layouts (chapter 8): the same answers. By an AI agent. -/
import Derived.Test.YtffhoaimcjpjhaaGreatLayout2
namespace Go.Proofs.YtffhoaimcjpjhaaGreat
open Go.RowKit
set_option maxHeartbeats 400000 in
theorem r6LayMay_any (P T : Int) (w : World) :
    Calls Tryz.prog 96 #[.agg #[.int .i64 P, .int .i64 T]] w fun e w' => e = .returned (.bool (Lay.may P T)) ∧ Adds w w' := by
  cases hm : Lay.may P T
  · have h := Lay.may_not hm
    clear hm
    by_cases h1 : P < 1
    · go_enter Tryz.func96, Tryz.ntmps96
      go_wp2
      go_ret
      exact ⟨rfl, (Only.refl _ _).alloc _⟩
    by_cases h2 : 4096 < P
    · go_enter Tryz.func96, Tryz.ntmps96
      go_wp2
      go_ret
      exact ⟨rfl, (Only.refl _ _).alloc _⟩
    by_cases h3 : T < 1
    · go_enter Tryz.func96, Tryz.ntmps96
      go_wp2
      go_ret
      exact ⟨rfl, (Only.refl _ _).alloc _⟩
    have h4 : decide (T ≤ 64) = false := by simp; omega
    clear h
    go_enter Tryz.func96, Tryz.ntmps96
    go_wp2
    go_ret
    exact ⟨rfl, (Only.refl _ _).alloc _⟩
  · obtain ⟨h1, h2, h3, h4⟩ := Lay.may_iff.1 hm
    clear hm
    go_enter Tryz.func96, Tryz.ntmps96
    go_wp2
    go_ret
    exact ⟨rfl, (Only.refl _ _).alloc _⟩
set_option maxHeartbeats 400000 in
theorem r6Maps_any (P T : Int) (w : World) (h1 : 1 ≤ P) (h2 : P ≤ 4096) :
    Calls Tryz.prog 143 #[.agg #[.int .i64 P, .int .i64 T]] w fun e w' => e = .returned (.int .i64 (Lay.many P)) ∧ Adds w w' := by
  go_enter Tryz.func143, Tryz.ntmps143
  go_wp2
  go_ret
  exact ⟨rfl, (Only.refl _ _).alloc _⟩
set_option maxHeartbeats 1000000 in
theorem r6Words_any (P T : Int) (w : World) :
    Calls Tryz.prog 98 #[.agg #[.int .i64 P, .int .i64 T]] w fun e w' => e = .returned (.int .i64 (Lay.words P T)) ∧ Adds w w' := by
  cases hm : Lay.may P T
  · have e : Lay.words P T = 0 := by simp [Lay.words, hm]
    rw [e]; clear e
    go_enter Tryz.func98, Tryz.ntmps98
    go_wp2_with (go_at_call 96; refine (r6LayMay_any _ _ _).mono ?_; rintro e w1 ⟨rfl, ho⟩; obtain ⟨q0, q1, ha⟩ := box2_cells ho; have HA := Lib.hid ha; clear ho ha)
    go_ret
    exact ⟨rfl, Hid.out (by assumption)⟩
  · have e : Lay.words P T = 68 + 14 * T + 6 * P + 2 * Lay.many P := by simp [Lay.words, hm]
    have E := Lib.hid e
    clear e
    obtain ⟨hP1, hP2, hT1, hT2⟩ := Lay.may_iff.1 hm
    obtain ⟨hb1, hb2⟩ := Lay.many_bd hP1 hP2
    go_enter Tryz.func98, Tryz.ntmps98
    go_wp2_with fail
    refine (r6LayMay_any _ _ _).mono ?_; rintro e w1 ⟨rfl, ho⟩; obtain ⟨q0, q1, ha⟩ := box2_cells ho; have HA := Lib.hid ha; clear ho ha
    go_wp2
    go_region_held3 (fun w' => w'.cell? ⟨w.heap.size, 0, none⟩ = some (.int .i64 P) ∧ w'.cell? ⟨w.heap.size, 1, none⟩ = some (.int .i64 T) ∧ Adds w w')
      (first | (exact ⟨by simp [*], by simp [*], HA.out.drew⟩) | (exact held2 (by assumption) (by assumption)))
      (first | (go_at_call 143; refine (r6Maps_any _ _ _ hP1 hP2).mono ?_; rintro e w' ⟨rfl, ho⟩))
    rename_i hH
    have HH := Lib.hid hH.2.2
    clear hH
    go_wp2
    go_ret
    exact ⟨retI (by rw [E.out]; simp only [IntKind.wrap_i64]; omega), HH.out⟩
set_option maxHeartbeats 2000000 in
theorem r6Head_any (P T c p : Int) (full : Bool) (w : World) :
    Calls Tryz.prog 266 #[.agg #[.int .i64 P, .int .i64 T], .int .i64 c, .bool full, .int .i64 p] w fun e w' => e = atOf (Lay.headOk P T c p) (Lay.headAt c full p) ∧ Adds w w' := by
  cases hm : Lay.may P T
  · rw [atOf_no (by simp [Lay.headOk, hm])]
    go_enter Tryz.func266, Tryz.ntmps266
    go_wp2_with (go_at_call 96; refine (r6LayMay_any _ _ _).mono ?_; rintro e w1 ⟨rfl, ho⟩; obtain ⟨q0, q1, ha⟩ := box2_cells ho; have HA := Lib.hid ha; clear ho ha)
    go_ret2
    exact ⟨rfl, Hid.out (by assumption)⟩
  by_cases h1 : c < 0
  · rw [atOf_no (by simp [Lay.headOk]; omega)]
    go_enter Tryz.func266, Tryz.ntmps266
    go_wp2_with (go_at_call 96; refine (r6LayMay_any _ _ _).mono ?_; rintro e w1 ⟨rfl, ho⟩; obtain ⟨q0, q1, ha⟩ := box2_cells ho; have HA := Lib.hid ha; clear ho ha)
    go_ret2
    exact ⟨rfl, Hid.out (by assumption)⟩
  by_cases h2 : 14 < c
  · rw [atOf_no (by simp [Lay.headOk]; omega)]
    go_enter Tryz.func266, Tryz.ntmps266
    go_wp2_with (go_at_call 96; refine (r6LayMay_any _ _ _).mono ?_; rintro e w1 ⟨rfl, ho⟩; obtain ⟨q0, q1, ha⟩ := box2_cells ho; have HA := Lib.hid ha; clear ho ha)
    go_ret2
    exact ⟨rfl, Hid.out (by assumption)⟩
  by_cases h3 : p < 0
  · rw [atOf_no (by simp [Lay.headOk]; omega)]
    go_enter Tryz.func266, Tryz.ntmps266
    go_wp2_with (go_at_call 96; refine (r6LayMay_any _ _ _).mono ?_; rintro e w1 ⟨rfl, ho⟩; obtain ⟨q0, q1, ha⟩ := box2_cells ho; have HA := Lib.hid ha; clear ho ha)
    go_ret2
    exact ⟨rfl, Hid.out (by assumption)⟩
  by_cases h4 : 1 < p
  · rw [atOf_no (by simp [Lay.headOk]; omega)]
    have h5 : decide (1 < p) = true := by simp; omega
    go_enter Tryz.func266, Tryz.ntmps266
    go_wp2_with (go_at_call 96; refine (r6LayMay_any _ _ _).mono ?_; rintro e w1 ⟨rfl, ho⟩; obtain ⟨q0, q1, ha⟩ := box2_cells ho; have HA := Lib.hid ha; clear ho ha)
    go_ret2
    exact ⟨rfl, Hid.out (by assumption)⟩
  rw [atOf_yes (by simp [Lay.headOk, hm]; omega)]
  have h5 : decide (1 < p) = false := by simp; omega
  cases full
  all_goals
    go_enter Tryz.func266, Tryz.ntmps266
    go_wp2_with (go_at_call 96; refine (r6LayMay_any _ _ _).mono ?_; rintro e w1 ⟨rfl, ho⟩; obtain ⟨q0, q1, ha⟩ := box2_cells ho; have HA := Lib.hid ha; clear ho ha)
    go_ret2
    exact ⟨retIB (by simp [Lay.headAt]) rfl, Hid.out (by assumption)⟩
set_option maxHeartbeats 2000000 in
theorem r6Cache_any (P T t c : Int) (w : World) :
    Calls Tryz.prog 267 #[.agg #[.int .i64 P, .int .i64 T], .int .i64 t, .int .i64 c] w fun e w' => e = atOf (Lay.cacheOk P T t c) (Lay.cacheAt t c) ∧ Adds w w' := by
  cases hm : Lay.may P T
  · rw [atOf_no (by simp [Lay.cacheOk, hm])]
    go_enter Tryz.func267, Tryz.ntmps267
    go_wp2_with (go_at_call 96; refine (r6LayMay_any _ _ _).mono ?_; rintro e w1 ⟨rfl, ho⟩; obtain ⟨q0, q1, ha⟩ := box2_cells ho; have HA := Lib.hid ha; clear ho ha)
    go_ret2
    exact ⟨rfl, Hid.out (by assumption)⟩
  obtain ⟨_, _, hT1, hT2⟩ := Lay.may_iff.1 hm
  by_cases h1 : t < 0
  · rw [atOf_no (by simp [Lay.cacheOk]; omega)]
    go_enter Tryz.func267, Tryz.ntmps267
    go_wp2_with (go_at_call 96; refine (r6LayMay_any _ _ _).mono ?_; rintro e w1 ⟨rfl, ho⟩; obtain ⟨q0, q1, ha⟩ := box2_cells ho; have HA := Lib.hid ha; clear ho ha)
    go_ret2
    exact ⟨rfl, Hid.out (by assumption)⟩
  by_cases h2 : T ≤ t
  · rw [atOf_no (by simp [Lay.cacheOk]; omega)]
    go_enter Tryz.func267, Tryz.ntmps267
    go_wp2_with (go_at_call 96; refine (r6LayMay_any _ _ _).mono ?_; rintro e w1 ⟨rfl, ho⟩; obtain ⟨q0, q1, ha⟩ := box2_cells ho; have HA := Lib.hid ha; clear ho ha)
    go_ret2
    exact ⟨rfl, Hid.out (by assumption)⟩
  by_cases h3 : c < 0
  · rw [atOf_no (by simp [Lay.cacheOk]; omega)]
    go_enter Tryz.func267, Tryz.ntmps267
    go_wp2_with (go_at_call 96; refine (r6LayMay_any _ _ _).mono ?_; rintro e w1 ⟨rfl, ho⟩; obtain ⟨q0, q1, ha⟩ := box2_cells ho; have HA := Lib.hid ha; clear ho ha)
    go_ret2
    exact ⟨rfl, Hid.out (by assumption)⟩
  by_cases h4 : 14 ≤ c
  · rw [atOf_no (by simp [Lay.cacheOk]; omega)]
    have h5 : decide (14 ≤ c) = true := by simp; omega
    go_enter Tryz.func267, Tryz.ntmps267
    go_wp2_with (go_at_call 96; refine (r6LayMay_any _ _ _).mono ?_; rintro e w1 ⟨rfl, ho⟩; obtain ⟨q0, q1, ha⟩ := box2_cells ho; have HA := Lib.hid ha; clear ho ha)
    go_ret2
    exact ⟨rfl, Hid.out (by assumption)⟩
  rw [atOf_yes (by simp [Lay.cacheOk, hm]; omega)]
  have h5 : decide (14 ≤ c) = false := by simp; omega
  go_enter Tryz.func267, Tryz.ntmps267
  go_wp2_with (go_at_call 96; refine (r6LayMay_any _ _ _).mono ?_; rintro e w1 ⟨rfl, ho⟩; obtain ⟨q0, q1, ha⟩ := box2_cells ho; have HA := Lib.hid ha; clear ho ha)
  go_ret2
  exact ⟨retIB (by simp [Lay.cacheAt]) rfl, Hid.out (by assumption)⟩
set_option maxHeartbeats 2000000 in
theorem r6PageWord_any (P T k p : Int) (w : World) :
    Calls Tryz.prog 86 #[.agg #[.int .i64 P, .int .i64 T], .int .i64 k, .int .i64 p] w fun e w' => e = atOf (Lay.pageOk P T k p) (Lay.pageAt P T k p) ∧ Adds w w' := by
  cases hm : Lay.may P T
  · rw [atOf_no (by simp [Lay.pageOk, hm])]
    go_enter Tryz.func86, Tryz.ntmps86
    go_wp2_with (go_at_call 96; refine (r6LayMay_any _ _ _).mono ?_; rintro e w1 ⟨rfl, ho⟩; obtain ⟨q0, q1, ha⟩ := box2_cells ho; have HA := Lib.hid ha; clear ho ha)
    go_ret2
    exact ⟨rfl, Hid.out (by assumption)⟩
  obtain ⟨hP1, hP2, hT1, hT2⟩ := Lay.may_iff.1 hm
  by_cases h1 : p < 0
  · rw [atOf_no (by simp [Lay.pageOk]; omega)]
    go_enter Tryz.func86, Tryz.ntmps86
    go_wp2_with (go_at_call 96; refine (r6LayMay_any _ _ _).mono ?_; rintro e w1 ⟨rfl, ho⟩; obtain ⟨q0, q1, ha⟩ := box2_cells ho; have HA := Lib.hid ha; clear ho ha)
    go_ret2
    exact ⟨rfl, Hid.out (by assumption)⟩
  by_cases h2 : P ≤ p
  · rw [atOf_no (by simp [Lay.pageOk]; omega)]
    go_enter Tryz.func86, Tryz.ntmps86
    go_wp2_with (go_at_call 96; refine (r6LayMay_any _ _ _).mono ?_; rintro e w1 ⟨rfl, ho⟩; obtain ⟨q0, q1, ha⟩ := box2_cells ho; have HA := Lib.hid ha; clear ho ha)
    go_ret2
    exact ⟨rfl, Hid.out (by assumption)⟩
  by_cases h3 : k < 9
  · rw [atOf_no (by simp [Lay.pageOk]; omega)]
    go_enter Tryz.func86, Tryz.ntmps86
    go_wp2_with (go_at_call 96; refine (r6LayMay_any _ _ _).mono ?_; rintro e w1 ⟨rfl, ho⟩; obtain ⟨q0, q1, ha⟩ := box2_cells ho; have HA := Lib.hid ha; clear ho ha)
    go_ret2
    exact ⟨rfl, Hid.out (by assumption)⟩
  by_cases h4 : 14 < k
  · rw [atOf_no (by simp [Lay.pageOk]; omega)]
    have h5 : decide (14 < k) = true := by simp; omega
    go_enter Tryz.func86, Tryz.ntmps86
    go_wp2_with (go_at_call 96; refine (r6LayMay_any _ _ _).mono ?_; rintro e w1 ⟨rfl, ho⟩; obtain ⟨q0, q1, ha⟩ := box2_cells ho; have HA := Lib.hid ha; clear ho ha)
    go_ret2
    exact ⟨rfl, Hid.out (by assumption)⟩
  have h5 : decide (14 < k) = false := by simp; omega
  rw [atOf_yes (by simp [Lay.pageOk, hm]; omega)]
  by_cases hk : k = 14
  · subst hk
    go_enter Tryz.func86, Tryz.ntmps86
    go_wp2_with (go_at_call 96; refine (r6LayMay_any _ _ _).mono ?_; rintro e w1 ⟨rfl, ho⟩; obtain ⟨q0, q1, ha⟩ := box2_cells ho; have HA := Lib.hid ha; clear ho ha)
    go_ret2
    exact ⟨retIB (by simp [Lay.pageAt]) rfl, Hid.out (by assumption)⟩
  · have hk' : (k == 14) = false := by simpa using hk
    have E : Hid (Lay.pageAt P T k p = 68 + 14 * T + 5 * p + k - 9) := by show Lay.pageAt P T k p = _; simp [Lay.pageAt, hk]
    clear hk
    go_enter Tryz.func86, Tryz.ntmps86
    go_wp2_with (go_at_call 96; refine (r6LayMay_any _ _ _).mono ?_; rintro e w1 ⟨rfl, ho⟩; obtain ⟨q0, q1, ha⟩ := box2_cells ho; have HA := Lib.hid ha; clear ho ha)
    go_ret2
    exact ⟨retIB (by rw [E.out]) rfl, Hid.out (by assumption)⟩
set_option maxHeartbeats 4000000 in
theorem r6Map_any (P T k i : Int) (w : World) :
    Calls Tryz.prog 231 #[.agg #[.int .i64 P, .int .i64 T], .int .i64 k, .int .i64 i] w fun e w' => e = atOf (Lay.mapOk P T k i) (Lay.mapAt P T k i) ∧ Adds w w' := by
  cases hm : Lay.may P T
  · rw [atOf_no (by simp [Lay.mapOk, hm])]
    go_enter Tryz.func231, Tryz.ntmps231
    go_wp2_with (go_at_call 96; refine (r6LayMay_any _ _ _).mono ?_; rintro e w1 ⟨rfl, ho⟩; obtain ⟨q0, q1, ha⟩ := box2_cells ho; have HA := Lib.hid ha; clear ho ha)
    go_ret2
    exact ⟨rfl, Hid.out (by assumption)⟩
  obtain ⟨hP1, hP2, hT1, hT2⟩ := Lay.may_iff.1 hm
  obtain ⟨hb1, hb2⟩ := Lay.many_bd hP1 hP2
  by_cases h1 : i < 0
  · rw [atOf_no (by simp [Lay.mapOk]; omega)]
    go_enter Tryz.func231, Tryz.ntmps231
    go_wp2_with (go_at_call 96; refine (r6LayMay_any _ _ _).mono ?_; rintro e w1 ⟨rfl, ho⟩; obtain ⟨q0, q1, ha⟩ := box2_cells ho; have HA := Lib.hid ha; clear ho ha)
    go_ret2
    exact ⟨rfl, Hid.out (by assumption)⟩
  by_cases h2 : Lay.many P ≤ i
  · rw [atOf_no (by simp [Lay.mapOk]; omega)]
    go_enter Tryz.func231, Tryz.ntmps231
    go_wp2_with (first | (go_at_call 96; refine (r6LayMay_any _ _ _).mono ?_; rintro e w1 ⟨rfl, ho⟩; obtain ⟨q0, q1, ha⟩ := box2_cells ho; have HA := Lib.hid ha; clear ho ha) | (go_at_call 143; refine (r6Maps_any _ _ _ hP1 hP2).mono ?_; rintro e w2 ⟨rfl, ho⟩; obtain ⟨q2, q3, hb⟩ := held2 ⟨q0, q1, HA.out⟩ ho; have HB := Lib.hid hb; clear ho hb q0 q1 HA))
    go_ret2
    exact ⟨rfl, Hid.out (by assumption)⟩
  by_cases hk : k = 15
  · subst hk
    rw [atOf_yes (by simp [Lay.mapOk, hm]; omega)]
    go_enter Tryz.func231, Tryz.ntmps231
    go_wp2_with (first | (go_at_call 96; refine (r6LayMay_any _ _ _).mono ?_; rintro e w1 ⟨rfl, ho⟩; obtain ⟨q0, q1, ha⟩ := box2_cells ho; have HA := Lib.hid ha; clear ho ha) | (go_at_call 143; refine (r6Maps_any _ _ _ hP1 hP2).mono ?_; rintro e w2 ⟨rfl, ho⟩; obtain ⟨q2, q3, hb⟩ := held2 ⟨q0, q1, HA.out⟩ ho; have HB := Lib.hid hb; clear ho hb q0 q1 HA))
    go_ret2
    exact ⟨retIB (by simp [Lay.mapAt]) rfl, Hid.out (by assumption)⟩
  have hk' : (k == 15) = false := by simpa using hk
  have hk1 : (k != 15) = true := by simpa using hk
  by_cases hk2 : k = 16
  · subst hk2
    rw [atOf_yes (by simp [Lay.mapOk, hm]; omega)]
    clear hk hk' hk1
    go_enter Tryz.func231, Tryz.ntmps231
    go_wp2_with (first | (go_at_call 96; refine (r6LayMay_any _ _ _).mono ?_; rintro e w1 ⟨rfl, ho⟩; obtain ⟨q0, q1, ha⟩ := box2_cells ho; have HA := Lib.hid ha; clear ho ha) | (go_at_call 143; refine (r6Maps_any _ _ _ hP1 hP2).mono ?_; rintro e w2 ⟨rfl, ho⟩; obtain ⟨q2, q3, hb⟩ := held2 ⟨q0, q1, HA.out⟩ ho; have HB := Lib.hid hb; clear ho hb q0 q1 HA) | (go_at_call 143; refine (r6Maps_any _ _ _ hP1 hP2).mono ?_; rintro e w2 ⟨rfl, ho⟩; obtain ⟨q4, q5, hb⟩ := held2 ⟨q2, q3, HB.out⟩ ho; have HC := Lib.hid hb; clear ho hb q2 q3 HB))
    go_ret2
    exact ⟨retIB (by simp [Lay.mapAt]; omega) rfl, Hid.out (by assumption)⟩
  · have hk3 : (k != 16) = true := by simpa using hk2
    rw [atOf_no (by simp [Lay.mapOk, hk, hk2])]
    clear hk hk2
    go_enter Tryz.func231, Tryz.ntmps231
    go_wp2_with (first | (go_at_call 96; refine (r6LayMay_any _ _ _).mono ?_; rintro e w1 ⟨rfl, ho⟩; obtain ⟨q0, q1, ha⟩ := box2_cells ho; have HA := Lib.hid ha; clear ho ha) | (go_at_call 143; refine (r6Maps_any _ _ _ hP1 hP2).mono ?_; rintro e w2 ⟨rfl, ho⟩; obtain ⟨q2, q3, hb⟩ := held2 ⟨q0, q1, HA.out⟩ ho; have HB := Lib.hid hb; clear ho hb q0 q1 HA))
    go_ret2
    exact ⟨rfl, Hid.out (by assumption)⟩
end Go.Proofs.YtffhoaimcjpjhaaGreat

/- Contracts of the reference of chapter 7, for every argument: the same answers: by an AI agent. -/
import Derived.Test.YtilmblgcncbgiaaPhase2
namespace Go.Proofs.Ytilmblgcncbgiaa
open Go.RowKit

set_option maxHeartbeats 1000000 in
theorem r6State_any (g p : Int) (w : World) :
    Calls Try.prog 28 #[.int .i64 g, .int .i64 p] w fun e w' => e = .returned (.tuple #[.int .u64 (Ph.mk g p), .bool (Ph.okB g p)]) ∧ w = w' := by
  cases hk : Ph.okB g p
  · have hm : Ph.mk g p = 0 := by simp [Ph.mk, hk]
    rw [hm]; clear hm
    have hk' := Ph.okB_not hk
    clear hk
    by_cases a1 : g < 1
    · go_enter Try.func28, Try.ntmps28
      go_wp2
      go_ret2
      exact ⟨rfl, rfl⟩
    · by_cases a2 : 2147483648 < g
      · go_enter Try.func28, Try.ntmps28
        go_wp2
        go_ret2
        exact ⟨rfl, rfl⟩
      · by_cases a3 : p < 1
        · go_enter Try.func28, Try.ntmps28
          go_wp2
          go_ret2
          exact ⟨rfl, rfl⟩
        · have a4 : 6 < p := by omega
          clear hk'
          go_enter Try.func28, Try.ntmps28
          go_wp2
          go_ret2
          exact ⟨rfl, rfl⟩
  · obtain ⟨g1, g2, p1, p2⟩ := Ph.okB_iff.1 hk
    have hm : Ph.mk g p = 8 * g + p := by simp [Ph.mk, hk]; omega
    rw [hm]; clear hm hk
    go_enter Try.func28, Try.ntmps28
    go_wp2
    go_ret2
    exact ⟨rfl, rfl⟩
set_option maxHeartbeats 1000000 in
theorem r6May_any (x : Int) (w : World) (h1 : 0 ≤ x) (h2 : x < 18446744073709551616) :
    Calls Try.prog 30 #[.int .u64 x] w fun e w' => e = .returned (.bool (Ph.may x)) ∧ w = w' := by
  by_cases h0 : x = 0
  · subst h0
    have e : Ph.may 0 = true := by simp [Ph.may]
    rw [e]; clear e
    go_enter Try.func30, Try.ntmps30
    go_wp2
    go_ret
    exact ⟨rfl, rfl⟩
  · have hz : (x == 0) = false := by simpa using h0
    rw [Ph.may_st h0]
    clear h0
    cases hs : Ph.st x
    · have hs' : ¬ (1 ≤ x / 8 ∧ x / 8 ≤ 2147483648 ∧ 1 ≤ x % 8 ∧ x % 8 ≤ 6) := fun h => by rw [Ph.st_iff.2 h] at hs; cases hs
      clear hs
      by_cases a1 : 1 ≤ x / 8
      · by_cases a2 : x / 8 ≤ 2147483648
        · by_cases a3 : 1 ≤ x % 8
          · have a4 : ¬ x % 8 ≤ 6 := by omega
            clear hs'
            go_enter Try.func30, Try.ntmps30
            go_wp2
            go_ret
            exact ⟨rfl, rfl⟩
          · clear hs'
            go_enter Try.func30, Try.ntmps30
            go_wp2
            go_ret
            exact ⟨rfl, rfl⟩
        · clear hs'
          go_enter Try.func30, Try.ntmps30
          go_wp2
          go_ret
          exact ⟨rfl, rfl⟩
      · clear hs'
        go_enter Try.func30, Try.ntmps30
        go_wp2
        go_ret
        exact ⟨rfl, rfl⟩
    · obtain ⟨a1, a2, a3, a4⟩ := Ph.st_iff.1 hs
      clear hs
      go_enter Try.func30, Try.ntmps30
      go_wp2
      go_ret
      exact ⟨rfl, rfl⟩
theorem Ph.gen_of_may {x : Int} (h : Ph.may x = true) : Ph.gen x = x / 8 := by
  by_cases h0 : x = 0
  · subst h0; simp [Ph.gen]
  · rw [Ph.may_st h0] at h; simp [Ph.gen, h]
theorem Ph.gen_of_not {x : Int} (h : Ph.may x = false) : Ph.gen x = 0 := by
  simp only [Ph.may, Bool.or_eq_false_iff] at h; simp [Ph.gen, h.1]
theorem Ph.may_bd {x : Int} (h : Ph.may x = true) : x / 8 ≤ 2147483648 := by
  have := Ph.gen_of_may h
  cases hs : Ph.st x
  · simp [Ph.gen, hs] at this; omega
  · have := Ph.st_iff.1 hs; omega
set_option maxHeartbeats 1000000 in
theorem r6Gen_any (x : Int) (w : World) (h1 : 0 ≤ x) (h2 : x < 18446744073709551616) :
    Calls Try.prog 31 #[.int .u64 x] w fun e w' => e = .returned (.int .i64 (Ph.gen x)) ∧ w = w' := by
  cases hm : Ph.may x
  · rw [Ph.gen_of_not hm]
    go_enter Try.func31, Try.ntmps31
    go_wp2_with (go_at_call 30; refine (r6May_any _ _ h1 h2).mono ?_; rintro e w' ⟨rfl, rfl⟩)
    go_ret
    exact ⟨rfl, rfl⟩
  · rw [Ph.gen_of_may hm]
    have hb := Ph.may_bd hm
    go_enter Try.func31, Try.ntmps31
    go_wp2_with (go_at_call 30; refine (r6May_any _ _ h1 h2).mono ?_; rintro e w' ⟨rfl, rfl⟩)
    go_ret
    exact ⟨rfl, rfl⟩
theorem Ph.ph_of_may {x : Int} (h : Ph.may x = true) : Ph.ph x = x % 8 := by
  by_cases h0 : x = 0
  · subst h0; simp [Ph.ph]
  · rw [Ph.may_st h0] at h; simp [Ph.ph, h]
theorem Ph.ph_of_not {x : Int} (h : Ph.may x = false) : Ph.ph x = 0 := by
  simp only [Ph.may, Bool.or_eq_false_iff] at h; simp [Ph.ph, h.1]
set_option maxHeartbeats 1000000 in
theorem r6Phase_any (x : Int) (w : World) (h1 : 0 ≤ x) (h2 : x < 18446744073709551616) :
    Calls Try.prog 32 #[.int .u64 x] w fun e w' => e = .returned (.int .i64 (Ph.ph x)) ∧ w = w' := by
  cases hm : Ph.may x
  · rw [Ph.ph_of_not hm]
    go_enter Try.func32, Try.ntmps32
    go_wp2_with (go_at_call 30; refine (r6May_any _ _ h1 h2).mono ?_; rintro e w' ⟨rfl, rfl⟩)
    go_ret
    exact ⟨rfl, rfl⟩
  · rw [Ph.ph_of_may hm]
    go_enter Try.func32, Try.ntmps32
    go_wp2_with (go_at_call 30; refine (r6May_any _ _ h1 h2).mono ?_; rintro e w' ⟨rfl, rfl⟩)
    go_ret
    exact ⟨rfl, rfl⟩
theorem Ph.swept_eq (x g : Int) : Ph.swept x g = (decide (Ph.ph x ≠ 0) && decide (Ph.gen x = g) && decide (Ph.ph x = 1 ∨ Ph.ph x = 2 ∨ Ph.ph x = 3 ∨ Ph.ph x = 5)) := by
  cases hs : Ph.st x
  · simp [Ph.swept, Ph.ph, hs]
  · have := Ph.st_iff.1 hs
    have h0 : ¬ x % 8 = 0 := by omega
    simp [Ph.swept, Ph.ph, Ph.gen, hs, h0]
set_option maxHeartbeats 2000000 in
theorem r6Swept_any (x g : Int) (w : World) (h1 : 0 ≤ x) (h2 : x < 18446744073709551616) :
    Calls Try.prog 34 #[.int .u64 x, .int .i64 g] w fun e w' => e = .returned (.bool (Ph.swept x g)) ∧ w = w' := by
  by_cases h0 : Ph.ph x = 0
  · have e : Ph.swept x g = false := by rw [Ph.swept_eq]; simp [h0]
    rw [e]; clear e
    go_enter Try.func34, Try.ntmps34
    go_wp2_with (go_at_call 32; refine (r6Phase_any _ _ h1 h2).mono ?_; rintro e w' ⟨rfl, rfl⟩)
    go_ret
    exact ⟨rfl, rfl⟩
  · have hz : (Ph.ph x != 0) = true := by simpa using h0
    cases hg : (Ph.gen x == g)
    · have e : Ph.swept x g = false := by rw [Ph.swept_eq]; simp at hg; simp [hg]
      rw [e]; clear e h0
      go_enter Try.func34, Try.ntmps34
      go_wp2_with (first
        | (go_at_call 32; refine (r6Phase_any _ _ h1 h2).mono ?_; rintro e w' ⟨rfl, rfl⟩)
        | (go_at_call 31; refine (r6Gen_any _ _ h1 h2).mono ?_; rintro e w' ⟨rfl, rfl⟩))
      go_ret
      exact ⟨rfl, rfl⟩
    · have e : Ph.swept x g = decide (Ph.ph x = 1 ∨ Ph.ph x = 2 ∨ Ph.ph x = 3 ∨ Ph.ph x = 5) := by rw [Ph.swept_eq]; simp at hg; simp [hg, h0]
      have E := Lib.hid e
      clear e h0
      go_enter Try.func34, Try.ntmps34
      go_wp2_with (first
        | (go_at_call 32; refine (r6Phase_any _ _ h1 h2).mono ?_; rintro e w' ⟨rfl, rfl⟩)
        | (go_at_call 31; refine (r6Gen_any _ _ h1 h2).mono ?_; rintro e w' ⟨rfl, rfl⟩))
      all_goals go_ret
      all_goals exact ⟨ret_bool (by rw [E.out, Bool.eq_iff_iff]; simp; try omega), rfl⟩
theorem Ph.waits_eq (x g : Int) (h : 0 ≤ x) : Ph.waits x g = (decide (Ph.ph x = 1) && decide (1 < g) && decide (Ph.gen x = g - 1)) := by
  cases hs : Ph.st x
  · simp [Ph.waits, Ph.ph, hs]
  · have := Ph.st_iff.1 hs
    rw [Bool.eq_iff_iff]
    simp [Ph.waits, Ph.ph, Ph.gen, hs]
    omega
set_option maxHeartbeats 2000000 in
theorem r6Waits_any (x g : Int) (w : World) (h1 : 0 ≤ x) (h2 : x < 18446744073709551616) (g2 : g < 9223372036854775808) :
    Calls Try.prog 35 #[.int .u64 x, .int .i64 g] w fun e w' => e = .returned (.bool (Ph.waits x g)) ∧ w = w' := by
  cases hp : (Ph.ph x == 1)
  · have e : Ph.waits x g = false := by rw [Ph.waits_eq x g h1]; simp at hp; simp [hp]
    rw [e]; clear e
    go_enter Try.func35, Try.ntmps35
    go_wp2_with (go_at_call 32; refine (r6Phase_any _ _ h1 h2).mono ?_; rintro e w' ⟨rfl, rfl⟩)
    go_ret
    exact ⟨rfl, rfl⟩
  · by_cases hg : 1 < g
    · have e : Ph.waits x g = (Ph.gen x == g - 1) := by rw [Ph.waits_eq x g h1]; simp at hp; simp [hp, hg]; rfl
      have E := Lib.hid e
      clear e
      go_enter Try.func35, Try.ntmps35
      go_wp2_with (first
        | (go_at_call 32; refine (r6Phase_any _ _ h1 h2).mono ?_; rintro e w' ⟨rfl, rfl⟩)
        | (go_at_call 31; refine (r6Gen_any _ _ h1 h2).mono ?_; rintro e w' ⟨rfl, rfl⟩))
      go_ret
      exact ⟨ret_bool (by rw [E.out]), rfl⟩
    · have e : Ph.waits x g = false := by rw [Ph.waits_eq x g h1]; simp [hg]
      rw [e]; clear e
      go_enter Try.func35, Try.ntmps35
      go_wp2_with (go_at_call 32; refine (r6Phase_any _ _ h1 h2).mono ?_; rintro e w' ⟨rfl, rfl⟩)
      go_ret
      exact ⟨rfl, rfl⟩
end Go.Proofs.Ytilmblgcncbgiaa

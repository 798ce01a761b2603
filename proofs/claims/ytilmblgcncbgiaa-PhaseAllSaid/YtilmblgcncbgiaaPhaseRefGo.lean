/- The contract of the reference's Goes, for every argument: the same answers: by an AI agent. -/
import Derived.Test.YtilmblgcncbgiaaPhaseRef
namespace Go.Proofs.Ytilmblgcncbgiaa
open Go.RowKit
theorem Ph.goes_of {x g p : Int} {b : Bool} (h : Ph.mayGo x g p = b) : Ph.mayGo x g p = b ∧ Ph.goes x g p = if b && decide (p ≠ 0) then Ph.mk g p else 0 := ⟨h, Ph.goes_eq h⟩
theorem Ph.follows_any' (a b : Int) : Ph.follows a b = decide ((a = 1 ∧ (b = 2 ∨ b = 3)) ∨ (a = 2 ∧ (b = 1 ∨ b = 3 ∨ b = 0)) ∨ (a = 3 ∧ (b = 1 ∨ b = 0)) ∨ (a = 4 ∧ (b = 5 ∨ b = 6)) ∨ ((a = 5 ∨ a = 6) ∧ b = 2)) := rfl
set_option maxHeartbeats 8000000 in
theorem r6Goes_any (x g p : Int) (w : World) (h1 : 0 ≤ x) (h2 : x < 18446744073709551616) (g2 : g < 9223372036854775808) (hp : -9223372036854775808 ≤ p) (hp' : p < 9223372036854775808) :
    Calls Try.prog 29 #[.int .u64 x, .int .i64 g, .int .i64 p] w fun e w' => e = .returned (.tuple #[.int .u64 (Ph.goes x g p), .bool (Ph.mayGo x g p)]) ∧ w = w' := by
  cases hm : Ph.may x
  · have e := Ph.goes_of (Ph.mayGo_may (g := g) (p := p) hm)
    rw [e.1, e.2]; clear e
    go_enter Try.func29, Try.ntmps29
    go_wp2_with (go_at_call 30; refine (r6May_any _ _ h1 h2).mono ?_; rintro e w' ⟨rfl, rfl⟩)
    go_ret2
    exact ⟨rfl, rfl⟩
  cases hc : Ph.cyc g
  · have e := Ph.goes_of (Ph.mayGo_cyc (x := x) (p := p) hc)
    rw [e.1, e.2]; clear e
    have hg : g < 1 ∨ 2147483648 < g := by
      have : ¬ (1 ≤ g ∧ g ≤ 2147483648) := fun h => by rw [Ph.cyc_iff.2 h] at hc; cases hc
      omega
    clear hc
    rcases hg with hg | hg
    all_goals
      go_enter Try.func29, Try.ntmps29
      go_wp2_with (go_at_call 30; refine (r6May_any _ _ h1 h2).mono ?_; rintro e w' ⟨rfl, rfl⟩)
      go_ret2
      exact ⟨rfl, rfl⟩
  obtain ⟨g3, g4⟩ := Ph.cyc_iff.1 hc
  by_cases h0 : x = 0
  · subst h0
    have e := Ph.goes_of (Ph.mayGo_zero (p := p) hc)
    have E1 := Lib.hid e.1
    have E2 := Lib.hid e.2
    clear e hc
    go_enter Try.func29, Try.ntmps29
    go_wp2_with (first
      | (go_at_call 30; refine (r6May_any _ _ h1 h2).mono ?_; rintro e w' ⟨rfl, rfl⟩)
      | (go_at_call 32; refine (r6Phase_any _ _ h1 h2).mono ?_; rintro e w' ⟨rfl, rfl⟩)
      | (go_at_call 28; refine (r6State_any _ _ _).mono ?_; rintro e w' ⟨rfl, rfl⟩))
    all_goals go_ret2
    all_goals exact ⟨ret_two_of (by rw [E2.out]; simp [*]) (by rw [E1.out, Bool.eq_iff_iff]; simp [Ph.okB, *]), rfl⟩
  have hz : (x == 0) = false := by simpa using h0
  cases hw : Ph.waits x g
  · cases hg : (Ph.gen x != g)
    · have hg' : Ph.gen x = g := by simpa using hg
      have hs : Ph.st x = true := by rw [← Ph.may_st h0]; exact hm
      have hph : Ph.ph x = x % 8 := Ph.ph_of_may hm
      have hb := Ph.st_iff.1 hs
      have e0 : Ph.mayGo x g p = Ph.follows (Ph.ph x) p := by rw [Ph.mayGo_else hc hm h0 hw]; simp [hg']
      have hv : Ph.ph x = 1 ∨ Ph.ph x = 2 ∨ Ph.ph x = 3 ∨ Ph.ph x = 4 ∨ Ph.ph x = 5 ∨ Ph.ph x = 6 := by omega
      clear hg' hs hph hb h0 hc
      rcases hv with hv | hv | hv | hv | hv | hv
      all_goals
        have e := Ph.goes_of e0
        rw [hv, Ph.follows_any'] at e
        have E1 := Lib.hid e.1
        have E2 := Lib.hid e.2
        clear e e0
        go_enter Try.func29, Try.ntmps29
        go_wp2_with (first
          | (go_at_call 30; refine (r6May_any _ _ h1 h2).mono ?_; rintro e w' ⟨rfl, rfl⟩)
          | (go_at_call 32; refine (r6Phase_any _ _ h1 h2).mono ?_; rintro e w' ⟨rfl, rfl⟩)
          | (go_at_call 35; refine (r6Waits_any _ _ _ h1 h2 g2).mono ?_; rintro e w' ⟨rfl, rfl⟩)
          | (go_at_call 31; refine (r6Gen_any _ _ h1 h2).mono ?_; rintro e w' ⟨rfl, rfl⟩)
          | (go_at_call 28; refine (r6State_any _ _ _).mono ?_; rintro e w' ⟨rfl, rfl⟩))
        all_goals go_ret2
        all_goals exact ⟨ret_two_of (by rw [E2.out]; simp [*]) (by rw [E1.out, Bool.eq_iff_iff]; simp [Ph.okB, *]), rfl⟩
    · have e := Ph.goes_of (b := false) (p := p) (x := x) (g := g) (by rw [Ph.mayGo_else hc hm h0 hw]; simp at hg; simp [hg])
      rw [e.1, e.2]; clear e h0 hc
      go_enter Try.func29, Try.ntmps29
      go_wp2_with (first
        | (go_at_call 30; refine (r6May_any _ _ h1 h2).mono ?_; rintro e w' ⟨rfl, rfl⟩)
        | (go_at_call 32; refine (r6Phase_any _ _ h1 h2).mono ?_; rintro e w' ⟨rfl, rfl⟩)
        | (go_at_call 35; refine (r6Waits_any _ _ _ h1 h2 g2).mono ?_; rintro e w' ⟨rfl, rfl⟩)
        | (go_at_call 31; refine (r6Gen_any _ _ h1 h2).mono ?_; rintro e w' ⟨rfl, rfl⟩))
      go_ret2
      exact ⟨rfl, rfl⟩
  · have e := Ph.goes_of (Ph.mayGo_waits (p := p) hc hm h0 hw)
    have E1 := Lib.hid e.1
    have E2 := Lib.hid e.2
    clear e hc h0
    go_enter Try.func29, Try.ntmps29
    go_wp2_with (first
      | (go_at_call 30; refine (r6May_any _ _ h1 h2).mono ?_; rintro e w' ⟨rfl, rfl⟩)
      | (go_at_call 32; refine (r6Phase_any _ _ h1 h2).mono ?_; rintro e w' ⟨rfl, rfl⟩)
      | (go_at_call 35; refine (r6Waits_any _ _ _ h1 h2 g2).mono ?_; rintro e w' ⟨rfl, rfl⟩)
      | (go_at_call 28; refine (r6State_any _ _ _).mono ?_; rintro e w' ⟨rfl, rfl⟩))
    all_goals go_ret2
    all_goals exact ⟨ret_two_of (by rw [E2.out]; simp [*]) (by rw [E1.out, Bool.eq_iff_iff]; simp [Ph.okB, *]), rfl⟩
end Go.Proofs.Ytilmblgcncbgiaa

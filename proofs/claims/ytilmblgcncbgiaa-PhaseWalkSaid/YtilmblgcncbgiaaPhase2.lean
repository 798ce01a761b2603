/- Contracts of package phase (Swept, Goes), and of its reference, for every argument: by an AI agent. -/
import Derived.Test.YtilmblgcncbgiaaPhase
namespace Go.Proofs.Ytilmblgcncbgiaa
open Go.RowKit

theorem ret_two_of {a b : Int} {c d : Bool} (h : a = b) (g : c = d) : Ending.returned (.tuple #[.int .u64 a, .bool c]) = .returned (.tuple #[.int .u64 b, .bool d]) := by rw [h, g]
theorem Ph.goes_eq {x g p : Int} {b : Bool} (h : Ph.mayGo x g p = b) : Ph.goes x g p = if b && decide (p ≠ 0) then Ph.mk g p else 0 := by rw [← h]; rfl
theorem Ph.mayGo_cyc {x g p : Int} (h : Ph.cyc g = false) : Ph.mayGo x g p = false := by simp [Ph.mayGo, h]
theorem Ph.mayGo_may {x g p : Int} (h : Ph.may x = false) : Ph.mayGo x g p = false := by simp [Ph.mayGo, h]
theorem Ph.mayGo_zero {g p : Int} (h : Ph.cyc g = true) : Ph.mayGo 0 g p = decide (p = 2) := by
  have : Ph.may 0 = true := by simp [Ph.may]
  simp [Ph.mayGo, h, this]
theorem Ph.mayGo_waits {x g p : Int} (h : Ph.cyc g = true) (hm : Ph.may x = true) (h0 : x ≠ 0) (hw : Ph.waits x g = true) : Ph.mayGo x g p = decide (p = 2 ∨ p = 4) := by
  simp [Ph.mayGo, h, hm, h0, hw]
theorem Ph.mayGo_else {x g p : Int} (h : Ph.cyc g = true) (hm : Ph.may x = true) (h0 : x ≠ 0) (hw : Ph.waits x g = false) : Ph.mayGo x g p = (decide (Ph.gen x = g) && Ph.follows (Ph.ph x) p) := by
  simp [Ph.mayGo, h, hm, h0, hw]
theorem Ph.may_st {x : Int} (h0 : x ≠ 0) : Ph.may x = Ph.st x := by simp [Ph.may, h0]
theorem Ph.mayGo_ok {x g p : Int} (h : Ph.mayGo x g p = true) : p = 0 ∨ Ph.okB g p = true := by
  simp only [Ph.mayGo, Bool.and_eq_true] at h
  obtain ⟨⟨hc, _⟩, h⟩ := h
  have hg := Ph.cyc_iff.1 hc
  rw [Ph.okB_iff]
  have hp : 0 ≤ p ∧ p ≤ 6 := by
    revert h
    split
    · intro h; simp at h; omega
    · split
      · intro h; simp at h; omega
      · intro h; simp [Ph.follows] at h; omega
  omega
theorem Ph.gen_bd {x : Int} (h1 : 0 ≤ x) (h2 : x < 18446744073709551616) : 0 ≤ Ph.gen x ∧ Ph.gen x ≤ 2147483648 := by
  unfold Ph.gen
  cases h : Ph.st x
  · simp
  · have := Ph.st_iff.1 h; simp; omega
theorem Ph.ph_bd (x : Int) : 0 ≤ Ph.ph x ∧ Ph.ph x ≤ 6 := by
  unfold Ph.ph
  cases h : Ph.st x
  · simp
  · have := Ph.st_iff.1 h; simp; omega

set_option maxHeartbeats 2000000 in
theorem phSwept_any (x g : Int) (w : World) (h1 : 0 ≤ x) (h2 : x < 18446744073709551616) :
    Calls Try.prog 33 #[.int .u64 x, .int .i64 g] w fun e w' => e = .returned (.bool (Ph.swept x g)) ∧ ∃ k, w' = w.drewN k := by
  cases hs : Ph.st x
  · have e : Ph.swept x g = false := by simp [Ph.swept, hs]
    rw [e]; clear e
    go_enter Try.func33, Try.ntmps33
    go_wp2_with (go_at_call 38; refine (split_any _ _ h1 h2).mono ?_; rintro e w' ⟨⟨g, p, rfl, -, g1, g2, p1, p2⟩, k, rfl⟩)
    go_ret
    exact ⟨rfl, _, rfl⟩
  · cases hg : (x / 8 == g)
    · have e : Ph.swept x g = false := by simp at hg; simp [Ph.swept, hg]
      rw [e]; clear e
      have hg' : (x / 8 != g) = true := by simpa [bne] using hg
      clear hg
      go_enter Try.func33, Try.ntmps33
      go_wp2_with (go_at_call 38; refine (split_any _ _ h1 h2).mono ?_; rintro e w' ⟨⟨g, p, rfl, hq, g1, g2, p1, p2⟩, k, rfl⟩; obtain ⟨rfl, rfl⟩ := hq hs)
      go_ret
      exact ⟨rfl, _, rfl⟩
    · have e : Ph.swept x g = decide (x % 8 = 1 ∨ x % 8 = 2 ∨ x % 8 = 3 ∨ x % 8 = 5) := by simp at hg; simp [Ph.swept, hs, hg]
      have E := Lib.hid e
      have hg' : (x / 8 != g) = false := by simpa [bne] using hg
      clear hg e
      go_enter Try.func33, Try.ntmps33
      go_wp2_with (go_at_call 38; refine (split_any _ _ h1 h2).mono ?_; rintro e w' ⟨⟨g, p, rfl, hq, g1, g2, p1, p2⟩, k, rfl⟩; obtain ⟨rfl, rfl⟩ := hq hs)
      all_goals go_ret
      all_goals exact ⟨ret_bool (by rw [E.out, Bool.eq_iff_iff]; simp; try omega), _, rfl⟩
set_option maxHeartbeats 4000000 in
theorem mayGo_any (x g p : Int) (w : World) (h1 : 0 ≤ x) (h2 : x < 18446744073709551616) :
    Calls Try.prog 39 #[.int .u64 x, .int .i64 g, .int .i64 p] w fun e w' => e = .returned (.bool (Ph.mayGo x g p)) ∧ ∃ k, w' = w.drewN k := by
  cases hc : Ph.cyc g
  · rw [Ph.mayGo_cyc hc]
    go_enter Try.func39, Try.ntmps39
    go_wp2_with (go_at_call 37; refine (cycle_any _ _).mono ?_; rintro e w' ⟨rfl, rfl⟩)
    go_ret
    exact ⟨rfl, 0, rfl⟩
  · cases hm : Ph.may x
    · rw [Ph.mayGo_may hm]
      go_enter Try.func39, Try.ntmps39
      go_wp2_with (first
        | (go_at_call 37; refine (cycle_any _ _).mono ?_; rintro e w' ⟨rfl, rfl⟩)
        | (go_at_call 22; refine (phMay_any _ _ h1 h2).mono ?_; rintro e w' ⟨rfl, k, rfl⟩))
      go_ret
      exact ⟨rfl, _, rfl⟩
    · by_cases h0 : x = 0
      · subst h0
        have E := Lib.hid (Ph.mayGo_zero (p := p) hc)
        go_enter Try.func39, Try.ntmps39
        go_wp2_with (first
          | (go_at_call 37; refine (cycle_any _ _).mono ?_; rintro e w' ⟨rfl, rfl⟩)
          | (go_at_call 22; refine (phMay_any _ _ h1 h2).mono ?_; rintro e w' ⟨rfl, k, rfl⟩))
        go_ret
        exact ⟨ret_bool (by rw [E.out, Bool.eq_iff_iff]; simp), _, rfl⟩
      · have hz : (x == 0) = false := by simpa using h0
        cases hw : Ph.waits x g
        · cases hg : (Ph.gen x == g)
          · have E : Ph.mayGo x g p = false := by rw [Ph.mayGo_else hc hm h0 hw]; simp at hg; simp [hg]
            rw [E]
            clear E h0
            go_enter Try.func39, Try.ntmps39
            go_wp2_with (first
              | (go_at_call 37; refine (cycle_any _ _).mono ?_; rintro e w' ⟨rfl, rfl⟩)
              | (go_at_call 22; refine (phMay_any _ _ h1 h2).mono ?_; rintro e w' ⟨rfl, k, rfl⟩)
              | (go_at_call 27; refine (phWaits_any _ _ _ h1 h2).mono ?_; rintro e w' ⟨rfl, k, rfl⟩)
              | (go_at_call 23; refine (phGen_any _ _ h1 h2).mono ?_; rintro e w' ⟨rfl, k, rfl⟩))
            go_ret
            exact ⟨rfl, _, rfl⟩
          · have E : Ph.mayGo x g p = Ph.follows (Ph.ph x) p := by rw [Ph.mayGo_else hc hm h0 hw]; simp at hg; simp [hg]
            rw [E]
            clear E h0
            go_enter Try.func39, Try.ntmps39
            go_wp2_with (first
              | (go_at_call 37; refine (cycle_any _ _).mono ?_; rintro e w' ⟨rfl, rfl⟩)
              | (go_at_call 22; refine (phMay_any _ _ h1 h2).mono ?_; rintro e w' ⟨rfl, k, rfl⟩)
              | (go_at_call 27; refine (phWaits_any _ _ _ h1 h2).mono ?_; rintro e w' ⟨rfl, k, rfl⟩)
              | (go_at_call 23; refine (phGen_any _ _ h1 h2).mono ?_; rintro e w' ⟨rfl, k, rfl⟩)
              | (go_at_call 24; refine (phPhase_any _ _ h1 h2).mono ?_; rintro e w' ⟨rfl, k, rfl⟩)
              | (go_at_call 42; refine (follows_any _ _ _).mono ?_; rintro e w' ⟨rfl, rfl⟩))
            go_ret
            exact ⟨rfl, _, rfl⟩
        · have E := Lib.hid (Ph.mayGo_waits (p := p) hc hm h0 hw)
          clear h0
          go_enter Try.func39, Try.ntmps39
          go_wp2_with (first
            | (go_at_call 37; refine (cycle_any _ _).mono ?_; rintro e w' ⟨rfl, rfl⟩)
            | (go_at_call 22; refine (phMay_any _ _ h1 h2).mono ?_; rintro e w' ⟨rfl, k, rfl⟩)
            | (go_at_call 27; refine (phWaits_any _ _ _ h1 h2).mono ?_; rintro e w' ⟨rfl, k, rfl⟩))
          all_goals go_ret
          all_goals exact ⟨ret_bool (by rw [E.out, Bool.eq_iff_iff]; simp [*]), _, rfl⟩
set_option maxHeartbeats 2000000 in
theorem phGoes_any (x g p : Int) (w : World) (h1 : 0 ≤ x) (h2 : x < 18446744073709551616) (hp : -9223372036854775808 ≤ p) (hp' : p < 9223372036854775808) :
    Calls Try.prog 26 #[.int .u64 x, .int .i64 g, .int .i64 p] w fun e w' => e = .returned (.tuple #[.int .u64 (Ph.goes x g p), .bool (Ph.mayGo x g p)]) ∧ ∃ k, w' = w.drewN k := by
  cases hm : Ph.mayGo x g p
  · have e : Ph.goes x g p = 0 := by rw [Ph.goes_eq hm]; simp
    rw [e]; clear e
    go_enter Try.func26, Try.ntmps26
    go_wp2_with (first | (go_at_call 39; refine (mayGo_any _ _ _ _ h1 h2).mono ?_; rintro e w' ⟨rfl, k, rfl⟩))
    go_ret2
    exact ⟨ret_two_of rfl rfl, _, rfl⟩
  · by_cases h0 : p = 0
    · subst h0
      have e : Ph.goes x g 0 = 0 := by rw [Ph.goes_eq hm]; simp
      rw [e]; clear e
      go_enter Try.func26, Try.ntmps26
      go_wp2_with (first | (go_at_call 39; refine (mayGo_any _ _ _ _ h1 h2).mono ?_; rintro e w' ⟨rfl, k, rfl⟩))
      go_ret2
      exact ⟨ret_two_of rfl rfl, _, rfl⟩
    · have e : Ph.goes x g p = Ph.mk g p := by rw [Ph.goes_eq hm]; simp [h0]
      rw [e]; clear e
      have hz : (p == 0) = false := by simpa using h0
      have hk := (Ph.mayGo_ok hm).resolve_left h0
      clear h0
      go_enter Try.func26, Try.ntmps26
      go_wp2_with (first
        | (go_at_call 39; refine (mayGo_any _ _ _ _ h1 h2).mono ?_; rintro e w' ⟨rfl, k, rfl⟩)
        | (go_at_call 21; refine (phMake_any _ _ _ hp hp').mono ?_; rintro e w' ⟨rfl, rfl⟩))
      go_ret2
      exact ⟨ret_two_of rfl rfl, _, rfl⟩
end Go.Proofs.Ytilmblgcncbgiaa

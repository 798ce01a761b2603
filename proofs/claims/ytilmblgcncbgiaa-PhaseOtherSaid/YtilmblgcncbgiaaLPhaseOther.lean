/- PhaseOther: its walk: by an AI agent. -/
import Derived.Test.YtilmblgcncbgiaaPhaseAwake
namespace Go.Proofs.Ytilmblgcncbgiaa
open Go.RowKit
theorem Ph.other {x g p : Int} (h : Ph.mayGo x g p = true) :
    1 ≤ g ∧ g ≤ 2147483648 ∧ Ph.may x = true ∧ (x = 0 ∨ Ph.gen x = g ∨ Ph.waits x g = true) ∧
    ((p = 0 ∧ Ph.goes x g p = 0 ∧ Ph.ph 0 = 0) ∨ (p ≠ 0 ∧ Ph.goes x g p ≠ 0 ∧ Ph.gen (Ph.goes x g p) = g ∧ Ph.ph (Ph.goes x g p) = p)) := by
  have hm := h
  simp only [Ph.mayGo, Bool.and_eq_true] at h
  obtain ⟨⟨hc, hmay⟩, h⟩ := h
  have hg := Ph.cyc_iff.1 hc
  refine ⟨hg.1, hg.2, hmay, ?_, ?_⟩
  · revert h
    by_cases h0 : x = 0
    · intro; exact .inl h0
    · cases hw : Ph.waits x g
      · simp [h0]; intro a b; exact a
      · intro; exact .inr (.inr rfl)
  · by_cases h0 : p = 0
    · left; exact ⟨h0, by rw [Ph.goes_eq hm]; simp [h0], by decide⟩
    · right
      have hk := (Ph.mayGo_ok hm).resolve_left h0
      obtain ⟨s, a, b, c, d⟩ := Ph.st_mk hk
      have e : Ph.goes x g p = Ph.mk g p := by rw [Ph.goes_eq hm]; simp [h0]
      rw [e]
      exact ⟨h0, by omega, by simp [Ph.gen, s, a], by simp [Ph.ph, s, b]⟩
theorem Ph.goes_bd (x g p : Int) : 0 ≤ Ph.goes x g p ∧ Ph.goes x g p < 18446744073709551616 := by
  unfold Ph.goes
  split
  · exact Ph.mk_bd _ _
  · omega
set_option maxHeartbeats 4000000 in
theorem phaseOther_law (x : Int) (w0 : (Lit.int .u64 x).wf = true) (g : Int) (w1 : (Lit.int .i64 g).wf = true) (p : Int) (w2 : (Lit.int .i64 p).wf = true) (w : World) :
    Calls Try.prog 9 #[.int .u64 x, .int .i64 g, .int .i64 p] w fun e w' => e = .returned (.bool true) ∧ Below w.heap.size w w' := by
  obtain ⟨b0, b1⟩ := bd_u64 w0
  obtain ⟨b2, b3⟩ := bd_i64 w1
  obtain ⟨b4, b5⟩ := bd_i64 w2
  clear w0 w1 w2
  obtain ⟨c0, c1⟩ := Ph.goes_bd x g p
  cases hm : Ph.mayGo x g p
  · have e : Ph.goes x g p = 0 := by rw [Ph.goes_eq hm]; simp
    go_enter Try.func9, Try.ntmps9
    go_wp2_with (first
      | (go_at_call 26; refine (phGoes_any _ _ _ _ b0 b1 b4 b5).mono ?_; rintro e w' ⟨rfl, k, rfl⟩)
      | (go_at_call 25; refine (awake7_any _).mono ?_; rintro e w' ⟨rfl, k, rfl⟩))
    go_ret
    exact ⟨rfl, below_drewN' (Below.refl _ _) _⟩
  · obtain ⟨g1, g2, my, o, q⟩ := Ph.other hm
    have o' : (x == 0) = true ∨ ((x == 0) = false ∧ (Ph.gen x == g) = true) ∨ ((x == 0) = false ∧ (Ph.gen x == g) = false ∧ Ph.waits x g = true) := by
      by_cases o1 : x = 0
      · left; simpa using o1
      · have o1' : (x == 0) = false := by simpa using o1
        by_cases o2 : Ph.gen x = g
        · right; left; exact ⟨o1', by simpa using o2⟩
        · right; right; exact ⟨o1', by simpa using o2, by rcases o with o | o | o <;> simp_all⟩
    clear o
    rcases q with ⟨p0, q1, q2⟩ | ⟨p0, q1, q2, q3⟩
    · subst p0
      rcases o' with o1 | ⟨o1, o2⟩ | ⟨o1, o2, o3⟩
      all_goals
        go_enter Try.func9, Try.ntmps9
        go_wp2_with (first
          | (go_at_call 26; refine (phGoes_any _ _ _ _ b0 b1 b4 b5).mono ?_; rintro e w' ⟨rfl, k, rfl⟩)
          | (go_at_call 22; refine (phMay_any _ _ b0 b1).mono ?_; rintro e w' ⟨rfl, k, rfl⟩)
          | (go_at_call 23; refine (phGen_any _ _ (by omega) (by omega)).mono ?_; rintro e w' ⟨rfl, k, rfl⟩)
          | (go_at_call 27; refine (phWaits_any _ _ _ b0 b1).mono ?_; rintro e w' ⟨rfl, k, rfl⟩)
          | (go_at_call 24; refine (phPhase_any _ _ (by omega) (by omega)).mono ?_; rintro e w' ⟨rfl, k, rfl⟩)
          | (go_at_call 25; refine (awake7_any _).mono ?_; rintro e w' ⟨rfl, k, rfl⟩))
        go_ret
        exact ⟨rfl, below_drewN' (Below.refl _ _) _⟩
    · have q0 : (Ph.goes x g p == 0) = false := by simpa using q1
      clear q1 p0
      rcases o' with o1 | ⟨o1, o2⟩ | ⟨o1, o2, o3⟩
      all_goals
        go_enter Try.func9, Try.ntmps9
        go_wp2_with (first
          | (go_at_call 26; refine (phGoes_any _ _ _ _ b0 b1 b4 b5).mono ?_; rintro e w' ⟨rfl, k, rfl⟩)
          | (go_at_call 22; refine (phMay_any _ _ b0 b1).mono ?_; rintro e w' ⟨rfl, k, rfl⟩)
          | (go_at_call 23; refine (phGen_any _ _ (by omega) (by omega)).mono ?_; rintro e w' ⟨rfl, k, rfl⟩)
          | (go_at_call 27; refine (phWaits_any _ _ _ b0 b1).mono ?_; rintro e w' ⟨rfl, k, rfl⟩)
          | (go_at_call 24; refine (phPhase_any _ _ (by omega) (by omega)).mono ?_; rintro e w' ⟨rfl, k, rfl⟩)
          | (go_at_call 25; refine (awake7_any _).mono ?_; rintro e w' ⟨rfl, k, rfl⟩))
        go_ret
        exact ⟨rfl, below_drewN' (Below.refl _ _) _⟩
end Go.Proofs.Ytilmblgcncbgiaa

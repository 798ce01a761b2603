/- PhaseOnce: its walk: by an AI agent. -/
import Derived.Test.YtilmblgcncbgiaaPhaseAwake
namespace Go.Proofs.Ytilmblgcncbgiaa
open Go.RowKit
theorem Ph.once {g : Int} (p : Int) (h1 : 2 ≤ g) (h2 : g ≤ 2147483648) :
    Ph.okB (g - 1) 1 = true ∧ Ph.mayGo (Ph.mk (g - 1) 1) g p = decide (p = 2 ∨ p = 4) ∧ Ph.mayGo (Ph.mk g 2) g 4 = false ∧ Ph.mayGo (Ph.mk g 4) g 4 = false ∧ Ph.okB g 2 = true ∧ Ph.okB g 4 = true := by
  have hk : Ph.okB (g - 1) 1 = true := Ph.okB_iff.2 (by omega)
  have hk2 : Ph.okB g 2 = true := Ph.okB_iff.2 (by omega)
  have hk4 : Ph.okB g 4 = true := Ph.okB_iff.2 (by omega)
  have hc : Ph.cyc g = true := Ph.cyc_iff.2 (by omega)
  obtain ⟨s, a, b, c, d⟩ := Ph.st_mk hk
  obtain ⟨s2, a2, b2, c2, d2⟩ := Ph.st_mk hk2
  obtain ⟨s4, a4, b4, c4, d4⟩ := Ph.st_mk hk4
  refine ⟨hk, Ph.mayGo_waits hc (by simp [Ph.may, s]) (by omega) (by simp [Ph.waits, s, a, b]), ?_, ?_, hk2, hk4⟩
  · rw [Ph.mayGo_else hc (by simp [Ph.may, s2]) (by omega) (by simp [Ph.waits, s2, b2])]
    simp [Ph.ph, s2, b2, Ph.follows]
  · rw [Ph.mayGo_else hc (by simp [Ph.may, s4]) (by omega) (by simp [Ph.waits, s4, b4])]
    simp [Ph.ph, s4, b4, Ph.follows]
set_option maxHeartbeats 2000000 in
theorem phaseOnce_law (a : Int) (w0 : (Lit.int .u16 a).wf = true) (b : Int) (w1 : (Lit.int .u8 b).wf = true) (w : World) :
    Calls Try.prog 8 #[.int .u16 a, .int .u8 b] w fun e w' => e = .returned (.bool true) ∧ Below w.heap.size w w' := by
  obtain ⟨b0, b1⟩ := bd_u16 w0
  obtain ⟨b2, b3⟩ := bd_u8 w1
  clear w0 w1
  obtain ⟨k1, m1, m2, m3, k2, k4⟩ := Ph.once (g := 2 + a) (b % 8) (by omega) (by omega)
  have q1 := Ph.mk_bd (2 + a - 1) 1
  have q2 := Ph.mk_bd (2 + a) 2
  have q4 := Ph.mk_bd (2 + a) 4
  have hb : b % 8 = 2 ∨ b % 8 = 4 ∨ ((b % 8 == 2) = false ∧ (b % 8 == 4) = false) := by
    simp only [beq_eq_false_iff_ne]; omega
  rcases hb with hb | hb | ⟨hb1, hb2⟩
  · rw [hb] at m1
    have e1 : Ph.mayGo (Ph.mk (2 + a - 1) 1) (2 + a) 2 = true := by rw [m1]; decide
    have e2 : Ph.goes (Ph.mk (2 + a - 1) 1) (2 + a) 2 = Ph.mk (2 + a) 2 := by rw [Ph.goes_eq e1]; simp
    clear m1 k2 k4
    go_enter Try.func8, Try.ntmps8
    go_wp2_with (first
      | (go_at_call 21; refine (phMake_any _ _ _ (by omega) (by omega)).mono ?_; rintro e w' ⟨rfl, rfl⟩)
      | (go_at_call 26; refine (phGoes_any _ _ _ _ (by omega) (by omega) (by omega) (by omega)).mono ?_; rintro e w' ⟨rfl, k, rfl⟩)
      | (go_at_call 25; refine (awake7_any _).mono ?_; rintro e w' ⟨rfl, k, rfl⟩))
    go_ret
    exact ⟨rfl, below_drewN' (Below.refl _ _) _⟩
  · rw [hb] at m1
    have e1 : Ph.mayGo (Ph.mk (2 + a - 1) 1) (2 + a) 4 = true := by rw [m1]; decide
    have e2 : Ph.goes (Ph.mk (2 + a - 1) 1) (2 + a) 4 = Ph.mk (2 + a) 4 := by rw [Ph.goes_eq e1]; simp
    clear m1 k2 k4
    go_enter Try.func8, Try.ntmps8
    go_wp2_with (first
      | (go_at_call 21; refine (phMake_any _ _ _ (by omega) (by omega)).mono ?_; rintro e w' ⟨rfl, rfl⟩)
      | (go_at_call 26; refine (phGoes_any _ _ _ _ (by omega) (by omega) (by omega) (by omega)).mono ?_; rintro e w' ⟨rfl, k, rfl⟩)
      | (go_at_call 25; refine (awake7_any _).mono ?_; rintro e w' ⟨rfl, k, rfl⟩))
    go_ret
    exact ⟨rfl, below_drewN' (Below.refl _ _) _⟩
  · have e1 : Ph.mayGo (Ph.mk (2 + a - 1) 1) (2 + a) (b % 8) = false := by
      rw [m1]; simp only [beq_eq_false_iff_ne] at hb1 hb2; simp [hb1, hb2]
    have e2 : Ph.goes (Ph.mk (2 + a - 1) 1) (2 + a) (b % 8) = 0 := by rw [Ph.goes_eq e1]; simp
    clear m1 k2 k4
    go_enter Try.func8, Try.ntmps8
    go_wp2_with (first
      | (go_at_call 21; refine (phMake_any _ _ _ (by omega) (by omega)).mono ?_; rintro e w' ⟨rfl, rfl⟩)
      | (go_at_call 26; refine (phGoes_any _ _ _ _ (by omega) (by omega) (by omega) (by omega)).mono ?_; rintro e w' ⟨rfl, k, rfl⟩)
      | (go_at_call 25; refine (awake7_any _).mono ?_; rintro e w' ⟨rfl, k, rfl⟩))
    go_ret
    exact ⟨rfl, below_drewN' (Below.refl _ _) _⟩
end Go.Proofs.Ytilmblgcncbgiaa

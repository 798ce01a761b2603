/- PhaseBack: its walk: by an AI agent. -/
import Derived.Test.YtilmblgcncbgiaaPhaseAwake
namespace Go.Proofs.Ytilmblgcncbgiaa
open Go.RowKit
set_option maxHeartbeats 2000000 in
theorem phaseBack_law (a : Int) (w0 : (Lit.int .u32 a).wf = true) (b : Int) (w1 : (Lit.int .u8 b).wf = true) (w : World) :
    Calls Try.prog 7 #[.int .u32 a, .int .u8 b] w fun e w' => e = .returned (.bool true) ∧ Below w.heap.size w w' := by
  obtain ⟨b0, b1⟩ := bd_u32 w0
  obtain ⟨b2, b3⟩ := bd_u8 w1
  clear w0 w1
  have hk : Ph.okB (1 + a % 2147483648) (1 + b % 6) = true := Ph.okB_iff.2 (by omega)
  obtain ⟨hs, e1, e2, _, hx2⟩ := Ph.st_mk hk
  have hx1 : 0 ≤ Ph.mk (1 + a % 2147483648) (1 + b % 6) := by omega
  have m : Ph.may (Ph.mk (1 + a % 2147483648) (1 + b % 6)) = true := by simp [Ph.may, hs]
  have g : Ph.gen (Ph.mk (1 + a % 2147483648) (1 + b % 6)) = 1 + a % 2147483648 := by simp [Ph.gen, hs, e1]
  have p : Ph.ph (Ph.mk (1 + a % 2147483648) (1 + b % 6)) = 1 + b % 6 := by simp [Ph.ph, hs, e2]
  clear e1 e2
  go_enter Try.func7, Try.ntmps7
  go_wp2_with (first
    | (go_at_call 21; refine (phMake_any _ _ _ (by omega) (by omega)).mono ?_; rintro e w' ⟨rfl, rfl⟩)
    | (go_at_call 22; refine (phMay_any _ _ hx1 hx2).mono ?_; rintro e w' ⟨rfl, k, rfl⟩)
    | (go_at_call 23; refine (phGen_any _ _ hx1 hx2).mono ?_; rintro e w' ⟨rfl, k, rfl⟩)
    | (go_at_call 24; refine (phPhase_any _ _ hx1 hx2).mono ?_; rintro e w' ⟨rfl, k, rfl⟩)
    | (go_at_call 25; refine (awake7_any _).mono ?_; rintro e w' ⟨rfl, k, rfl⟩))
  go_ret
  exact ⟨rfl, below_drewN' (Below.refl _ _) _⟩
end Go.Proofs.Ytilmblgcncbgiaa

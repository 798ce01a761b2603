/- PhaseAll: its walk: by an AI agent. -/
import Derived.Test.YtilmblgcncbgiaaPhaseAwake
import Derived.Test.YtilmblgcncbgiaaPhaseRefGo
namespace Go.Proofs.Ytilmblgcncbgiaa
open Go.RowKit
set_option maxHeartbeats 2000000 in
theorem phaseAll_law (x : Int) (w0 : (Lit.int .u64 x).wf = true) (g : Int) (w1 : (Lit.int .i64 g).wf = true) (p : Int) (w2 : (Lit.int .i64 p).wf = true) (w : World) :
    Calls Try.prog 10 #[.int .u64 x, .int .i64 g, .int .i64 p] w fun e w' => e = .returned (.bool true) ∧ Below w.heap.size w w' := by
  obtain ⟨b0, b1⟩ := bd_u64 w0
  obtain ⟨b2, b3⟩ := bd_i64 w1
  obtain ⟨b4, b5⟩ := bd_i64 w2
  clear w0 w1 w2
  go_enter Try.func10, Try.ntmps10
  go_wp2_with (first
    | (go_at_call 21; refine (phMake_any _ _ _ b4 b5).mono ?_; rintro e w' ⟨rfl, rfl⟩)
    | (go_at_call 28; refine (r6State_any _ _ _).mono ?_; rintro e w' ⟨rfl, rfl⟩)
    | (go_at_call 26; refine (phGoes_any _ _ _ _ b0 b1 b4 b5).mono ?_; rintro e w' ⟨rfl, k, rfl⟩)
    | (go_at_call 29; refine (r6Goes_any _ _ _ _ b0 b1 b3 b4 b5).mono ?_; rintro e w' ⟨rfl, rfl⟩)
    | (go_at_call 22; refine (phMay_any _ _ b0 b1).mono ?_; rintro e w' ⟨rfl, k, rfl⟩)
    | (go_at_call 30; refine (r6May_any _ _ b0 b1).mono ?_; rintro e w' ⟨rfl, rfl⟩)
    | (go_at_call 23; refine (phGen_any _ _ b0 b1).mono ?_; rintro e w' ⟨rfl, k, rfl⟩)
    | (go_at_call 31; refine (r6Gen_any _ _ b0 b1).mono ?_; rintro e w' ⟨rfl, rfl⟩)
    | (go_at_call 24; refine (phPhase_any _ _ b0 b1).mono ?_; rintro e w' ⟨rfl, k, rfl⟩)
    | (go_at_call 32; refine (r6Phase_any _ _ b0 b1).mono ?_; rintro e w' ⟨rfl, rfl⟩)
    | (go_at_call 33; refine (phSwept_any _ _ _ b0 b1).mono ?_; rintro e w' ⟨rfl, k, rfl⟩)
    | (go_at_call 34; refine (r6Swept_any _ _ _ b0 b1).mono ?_; rintro e w' ⟨rfl, rfl⟩)
    | (go_at_call 27; refine (phWaits_any _ _ _ b0 b1).mono ?_; rintro e w' ⟨rfl, k, rfl⟩)
    | (go_at_call 35; refine (r6Waits_any _ _ _ b0 b1 b3).mono ?_; rintro e w' ⟨rfl, rfl⟩)
    | (go_at_call 25; refine (awake7_any _).mono ?_; rintro e w' ⟨rfl, k, rfl⟩))
  go_ret
  exact ⟨rfl, below_drewN' (Below.refl _ _) _⟩
end Go.Proofs.Ytilmblgcncbgiaa

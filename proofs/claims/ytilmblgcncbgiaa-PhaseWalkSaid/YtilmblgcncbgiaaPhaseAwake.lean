/- The examples of chapter 7 hold: by an AI agent. -/
import Derived.Test.YtilmblgcncbgiaaPhase2
import Derived.Test.YtilmblgcncbgiaaRow
namespace Go.Proofs.Ytilmblgcncbgiaa
open Go.RowKit
set_option maxHeartbeats 400000 in
theorem awake7_any (w : World) : Calls Try.prog 25 #[] w fun e w' => e = .returned (.bool true) ∧ ∃ k, w' = w.drewN k := by
  have e1 : Ph.mk 3 1 = 25 := by decide
  have e2 : Ph.okB 3 1 = true := by decide
  have e3 : Ph.goes 25 4 4 = 36 := by decide
  have e4 : Ph.mayGo 25 4 4 = true := by decide
  go_enter Try.func25, Try.ntmps25
  go_wp2_with (first | (go_at_call 21; refine (phMake_any _ _ _ (by omega) (by omega)).mono ?_; rintro e w' ⟨rfl, rfl⟩) | (go_at_call 26; refine (phGoes_any _ _ _ _ (by omega) (by omega) (by omega) (by omega)).mono ?_; rintro e w' ⟨rfl, k, rfl⟩))
  go_ret
  exact ⟨rfl, _, rfl⟩
end Go.Proofs.Ytilmblgcncbgiaa

/- The examples of chapter 6 hold: by an AI agent. -/
import Derived.Test.YtilmblgcncbgiaaTag
import Derived.Test.YtilmblgcncbgiaaRow
namespace Go.Proofs.Ytilmblgcncbgiaa
open Go.RowKit
set_option maxHeartbeats 400000 in
theorem awake6_any (w : World) : Calls Try.prog 20 #[] w fun e w' => e = .returned (.bool true) ∧ ∃ k, w' = w.drewN k := by
  have e1 : Tag.mk 1 0 = 4294967297 := by decide
  have e2 : Tag.okB 0 = true := by decide
  have e3 : Tag.pg 0 = -1 := by decide
  go_enter Try.func20, Try.ntmps20
  go_wp2_with (first | (go_at_call 12; refine (tagMake_any _ _ _ (by omega) (by omega) (by omega) (by omega)).mono ?_; rintro e w' ⟨rfl, rfl⟩) | (go_at_call 16; refine (tagPage_any _ _ (by omega) (by omega)).mono ?_; rintro e w' ⟨rfl, k, rfl⟩))
  go_ret
  exact ⟨rfl, _, rfl⟩
end Go.Proofs.Ytilmblgcncbgiaa

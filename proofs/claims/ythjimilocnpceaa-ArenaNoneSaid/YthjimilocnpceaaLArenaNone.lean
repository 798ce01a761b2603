/- ArenaNone: its walk. By an AI agent. -/
import Derived.Test.YthjimilocnpceaaArenaAwake
import Derived.Test.YthjimilocnpceaaRow
namespace Go.Proofs.Ythjimilocnpceaa
open Go.RowKit
set_option maxRecDepth 100000 in
set_option maxHeartbeats 4000000 in
theorem arenaNone_law (P : Int) (w0 : (Lit.int .i64 P).wf = true) (T : Int) (w1 : (Lit.int .i64 T).wf = true) (w : World) :
    Calls Try.prog 3 #[.int .i64 P, .int .i64 T] w fun e w' => e = .returned (.bool true) ∧ Below w.heap.size w w' := by
  clear w0 w1
  cases hm : Lay.may P T
  · have h := Lay.may_not hm
    have HM := Lib.hid hm
    clear hm
    have hcs : (P < 1) ∨ (1 ≤ P ∧ 4096 < P) ∨ (1 ≤ P ∧ P ≤ 4096 ∧ T < 1) ∨ (1 ≤ P ∧ P ≤ 4096 ∧ 1 ≤ T ∧ 64 < T) := by omega
    clear h
    rcases hcs with h1 | ⟨h1, h2⟩ | ⟨h1, h2, h3⟩ | ⟨h1, h2, h3, h4⟩
    all_goals
      go_enter Try.func3, Try.ntmps3
      go_wp2_with (first
        | (go_at_call 6; refine (arenaLayout_nil _).mono ?_; rintro e w1 ⟨rfl, ho1⟩; have HO1 := Lib.hid ho1; clear ho1)
        | (go_at_call 7; refine (arenaStore_nil _).mono ?_; rintro e w2 ⟨rfl, rfl⟩)
        | (go_at_call 8; refine (arenaRuns_nil _).mono ?_; rintro e w2 ⟨rfl, rfl⟩)
        | (go_at_call 9; refine (arenaGen_nil _).mono ?_; rintro e w2 ⟨rfl, rfl⟩)
        | (go_at_call 10; refine (arenaNew_no P T _ HM.out).mono ?_; rintro e w3 ⟨rfl, ho3⟩; have HO3 := Lib.hid (HO1.out.thenF ho3); clear ho3)
        | (go_at_call 11; refine (awake11_any _).mono ?_; rintro e w4 ⟨rfl, ho4⟩; have HO4 := Lib.hid (HO3.out.thenF ho4); clear ho4))
      go_ret
      exact ⟨by simp [*], HO4.out.below (Nat.le_refl _) (fun _ _ h => h)⟩
  · obtain ⟨h1, h2, h3, h4⟩ := Lay.may_iff.1 hm
    have HM := Lib.hid hm
    clear hm
    go_enter Try.func3, Try.ntmps3
    go_wp2_with (first
      | (go_at_call 6; refine (arenaLayout_nil _).mono ?_; rintro e w1 ⟨rfl, ho1⟩; have HO1 := Lib.hid ho1; clear ho1)
      | (go_at_call 7; refine (arenaStore_nil _).mono ?_; rintro e w2 ⟨rfl, rfl⟩)
      | (go_at_call 8; refine (arenaRuns_nil _).mono ?_; rintro e w2 ⟨rfl, rfl⟩)
      | (go_at_call 9; refine (arenaGen_nil _).mono ?_; rintro e w2 ⟨rfl, rfl⟩)
      | (go_at_call 10; refine (arenaNew_ok P T _ HM.out).mono ?_; rintro e w3 ⟨ab, sb, sm, rb, rfl, -, -, -, ho3⟩; have HO3 := Lib.hid (HO1.out.thenF ho3); clear ho3)
      | (go_at_call 11; refine (awake11_any _).mono ?_; rintro e w4 ⟨rfl, ho4⟩; have HO4 := Lib.hid (HO3.out.thenF ho4); clear ho4))
    go_ret
    exact ⟨by simp [*], HO4.out.below (Nat.le_refl _) (fun _ _ h => h)⟩
end Go.Proofs.Ythjimilocnpceaa

/- SweepBits: its walk. By an AI agent. -/
import Derived.Test.YtipeijkpiglbfaaSwept
import Derived.Test.YtipeijkpiglbfaaRow
namespace Go.Proofs.Ytipeijkpiglbfaa
open Go.RowKit
set_option maxRecDepth 100000 in
set_option maxHeartbeats 4000000 in
theorem sweepBits_law (a : Int) (w0 : (Lit.int .u64 a).wf = true) (b : Int) (w1 : (Lit.int .u64 b).wf = true) (pg : Int) (w2 : (Lit.int .u8 pg).wf = true) (w : World) :
    Calls Try.prog 5 #[.int .u64 a, .int .u64 b, .int .u8 pg] w fun e w' => e = .returned (.bool true) ∧ Below w.heap.size w w' := by
  have ha := bd_u64 w0; have hb := bd_u64 w1; have hp := bd_u8 w2
  have hA := and_bd a b
  obtain ⟨x, hx⟩ : ∃ x, x = bits BinOp.and .u64 a b := ⟨_, rfl⟩
  obtain ⟨y, hy⟩ : ∃ y, y = bits BinOp.andNot .u64 a b := ⟨_, rfl⟩
  have e1 : bits BinOp.or .u64 x y = a := by rw [hx, hy]; exact and_or_clr b ha.1 ha.2
  have e2 : bits BinOp.and .u64 x y = 0 := by rw [hx, hy]; exact and_and_clr a b
  have e3 : bits BinOp.and .u64 x 0 = 0 := and_zero x
  rw [← hx] at hA
  have e4 : bits BinOp.andNot .u64 x 0 = x := clr_zero hA.1 hA.2
  have hr : Int.tmod pg 6 = pg % 6 := Int.tmod_eq_emod_of_nonneg hp.1
  obtain ⟨p, hpp⟩ : ∃ p, p = pg % 6 := ⟨_, rfl⟩
  have hp6 : 0 ≤ p ∧ p < 6 := by omega
  have HX := Lib.hid hx; have HY := Lib.hid hy; have HE3 := Lib.hid e3; have HE4 := Lib.hid e4; have HP6 := Lib.hid hp6; have HAB := Lib.hid (And.intro ha (And.intro hb hA))
  have hx' : bits BinOp.and .u64 a b = x := hx.symm
  have hy' : bits BinOp.andNot .u64 a b = y := hy.symm
  have hpp' : pg % 6 = p := hpp.symm
  clear w0 w1 w2 hx hy e3 e4 hpp ha hb hA
  go_enter Try.func5, Try.ntmps5
  go_wp2_with (first
    | (go_at_call 22; with_reducible refine (swept_any a b p _ HAB.out.1 HAB.out.2.1 HP6.out).mono ?_; rintro e v1 ⟨rfl, ho1⟩; rw [show andU a b = x from HX.out.symm, show clrU a b = y from HY.out.symm])
    | (go_at_call 22; with_reducible refine (swept_any x 0 p _ HAB.out.2.2 (by omega) HP6.out).mono ?_; rintro e v2 ⟨rfl, ho2⟩; rw [show andU x 0 = 0 from HE3.out, show clrU x 0 = x from HE4.out])
    | (go_at_call 23; refine (awake15_any _).mono ?_; rintro e v3 ⟨rfl, ho3⟩))
  go_ret
  exact ⟨rfl, ((ho1.thenF ho2).thenF ho3).below (Nat.le_refl _) (fun _ _ h => h)⟩
end Go.Proofs.Ytipeijkpiglbfaa

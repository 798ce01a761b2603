/- Proved: the law LayoutOne returns true for every input, and each argument reads afterwards as before. Conditions: none. (The row step over the walk; by an AI agent, by its own program.) -/
import Derived.Test.YtiohlcejkcccpaaRows
import Derived.Test.YtiohlcejkcccpaaLLayoutOne
import Derived.ProofKit
import Derived.OpenShut
import Derived.ShutString
import Derived.ChangeOld
import Derived.Below
import Derived.Lib.SmallJoins
namespace Go.Proofs.Ytiohlcejkcccpaa.layoutOne
open Go.ChangeShapes Go.WideShapes Go.ChangeAt Go.RowKit
open Go.ChangeMaps (open_string shut_string)
set_option linter.unusedVariables false

theorem own : ownKnob Try.prog.godebug = none := by kernel_rfl
theorem laidOut : laidOutB Try.prog = true := by kernel_rfl

set_option maxRecDepth 100000 in
theorem lifted (os : Os) (started : os.Started) (H : Type) (enc : TypeId × Value → H) :
    ReturnsInHanded {} Try.checked os 3 .any (Rows.layoutOneSpec.pre6 enc Try.prog Try.f3 Rows.layoutOneRow.domain false) (Rows.layoutOneSpec.post enc Try.prog Try.f3 false true false false) := by
  refine returnsInHanded_of_change (C := Try.checked) own started (by kernel_rfl) Try.func3
    (ChangeSpec.witness6 (enc := enc) (C := Try.checked) false ⟨#[], #[.int .u16 0, .int .u8 0, .agg #[.int .i64 0, .int .i64 0, .int .i64 0], .agg #[.int .i64 0, .int .i64 0, .int .i64 0]], []⟩ 8 (by kernel_rfl) (by kernel_rfl) (by kernel_rfl) (by kernel_rfl)) ?_
  intro W base args ds gs before hval0 hW hcnd _
  have hval : ∀ (j : Nat) t v, Try.f3.params[j]? = some t → args[j]? = some v → Value.okWide Try.prog W .any base t v := hval0
  have hW' := hW
  obtain ⟨p, q, hA0, hV, rfl, hfz, hnd⟩ := hW
  have hA : DataW.TrodAll enc Try.prog W 0 (fun _ => true) true Try.f3.params.toList args.toList ds p := hA0
  rw [Try.params3] at hA hval
  obtain ⟨v0, vs0, d0, ds0, p0, q0, hargs, rfl, rfl, h0, r0⟩ := trodAll_cons hA
  obtain ⟨v1, vs1, d1, ds1, p1, q1, rfl, rfl, rfl, h1, r1⟩ := trodAll_cons r0
  obtain ⟨v2, vs2, d2, ds2, p2, q2, rfl, rfl, rfl, h2, r2⟩ := trodAll_cons r1
  obtain ⟨v3, vs3, d3, ds3, p3, q3, rfl, rfl, rfl, h3, r3⟩ := trodAll_cons r2
  obtain ⟨rfl, rfl, rfl⟩ := trodAll_nil r3
  obtain rfl : args = #[v0, v1, v2, v3] := by cases args; simp_all
  obtain ⟨rfl, rfl⟩ := trodVars_none hV
  have k0 := h0
  have lt0 : ∀ x ∈ p0, x.block < W.heap.size := by obtain ⟨m, hm⟩ := k0; exact DataW.trod_lt m _ _ _ hm
  have k1 := h1
  have lt1 : ∀ x ∈ p1, x.block < W.heap.size := by obtain ⟨m, hm⟩ := k1; exact DataW.trod_lt m _ _ _ hm
  have k2 := h2
  have lt2 : ∀ x ∈ p2, x.block < W.heap.size := by obtain ⟨m, hm⟩ := k2; exact DataW.trod_lt m _ _ _ hm
  have k3 := h3
  have lt3 : ∀ x ∈ p3, x.block < W.heap.size := by obtain ⟨m, hm⟩ := k3; exact DataW.trod_lt m _ _ _ hm
  obtain ⟨a0, e0, eq0, ed0, w0⟩ := open_int Try.underlying22 (hval 0 22 v0 rfl rfl) h0
  subst e0
  obtain ⟨a1, e1, eq1, ed1, w1⟩ := open_int Try.underlying5 (hval 1 5 v1 rfl rfl) h1
  subst e1
  obtain ⟨c2_0, c2_1, c2_2, y2_0, y2_1, y2_2, n2, e2, eq2, ed2, hy2_0, hy2_1, hy2_2⟩ := Joins.open_agg3 Try.underlying24 (by kernel_rfl) (show Try.prog.cellsOf 24 = 3 by kernel_rfl) (hval 2 24 v2 rfl rfl) h2
  subst e2
  obtain ⟨a2_0, f2_0, g2_0, w2_0⟩ := DataW.trod_int Try.underlying3 hy2_0
  simp at f2_0
  subst f2_0
  obtain ⟨a2_1, f2_1, g2_1, w2_1⟩ := DataW.trod_int Try.underlying3 hy2_1
  simp at f2_1
  subst f2_1
  obtain ⟨a2_2, f2_2, g2_2, w2_2⟩ := DataW.trod_int Try.underlying3 hy2_2
  simp at f2_2
  subst f2_2
  obtain ⟨c3_0, c3_1, c3_2, y3_0, y3_1, y3_2, n3, e3, eq3, ed3, hy3_0, hy3_1, hy3_2⟩ := Joins.open_agg3 Try.underlying24 (by kernel_rfl) (show Try.prog.cellsOf 24 = 3 by kernel_rfl) (hval 3 24 v3 rfl rfl) h3
  subst e3
  obtain ⟨a3_0, f3_0, g3_0, w3_0⟩ := DataW.trod_int Try.underlying3 hy3_0
  simp at f3_0
  subst f3_0
  obtain ⟨a3_1, f3_1, g3_1, w3_1⟩ := DataW.trod_int Try.underlying3 hy3_1
  simp at f3_1
  subst f3_1
  obtain ⟨a3_2, f3_2, g3_2, w3_2⟩ := DataW.trod_int Try.underlying3 hy3_2
  simp at f3_2
  subst f3_2
  clear hA0 hval0
  refine (layoutOne_law a0 w0 a1 w1 a2_0 w2_0 a2_1 w2_1 a2_2 w2_2 a3_0 w3_0 a3_1 w3_1 a3_2 w3_2 W).mono fun e W' ⟨he, bel⟩ => ?_
  subst he
  exact ⟨_, rfl, _, _, _, [], _, [], hW', trodAll_mk1 (shut_bool Try.underlying4 _), (trodAll_cons_mk (Below.trod laidOut (by kernel_rfl) (of_decide_eq_true (by kernel_rfl)) k0 bel lt0) (trodAll_cons_mk (Below.trod laidOut (by kernel_rfl) (of_decide_eq_true (by kernel_rfl)) k1 bel lt1) (trodAll_cons_mk (Below.trod laidOut (by kernel_rfl) (of_decide_eq_true (by kernel_rfl)) k2 bel lt2) (trodAll_cons_mk (Below.trod laidOut (by kernel_rfl) (of_decide_eq_true (by kernel_rfl)) k3 bel lt3) trodAll_mk0)))), rfl, bel.frame _, fun h => by cases h⟩

theorem over : Rows.layoutOneRow.holds Try.pinned (OpenSpec.ofChange Rows.layoutOneSpec) :=
  OpenClaim.holds_of_wide 3 Try.f3 rfl rfl rfl rfl rfl rfl rfl ⟨rfl, rfl, rfl, rfl, rfl⟩ rfl rfl rfl rfl rfl (by kernel_rfl) Try.func3 (by kernel_rfl)
    (of_decide_eq_true (by kernel_rfl)) (by unfold Func.isWrapper; first | (rw [if_pos (by decide +kernel)]; kernel_rfl) | (rw [if_neg (by decide +kernel)]; exact ⟨rfl, rfl⟩))
    (fun os started H enc _ => lifted os started H enc)

/-- The statement. -/
theorem proved : Rows.LayoutOneSaid := over
#print axioms proved
end Go.Proofs.Ytiohlcejkcccpaa.layoutOne

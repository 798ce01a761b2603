/- Proved: the law RecordWords returns true for every input, and each argument reads afterwards as before. Conditions: class.table starts as the program's text lays it (tied). (The row step over the walk; by an AI agent, by its own program.) -/
import Derived.Test.YtbepbcjklgfmjaaGreatDoorRows
import Derived.Test.YtbepbcjklgfmjaaGreatDoorLRecordWords
import Derived.Test.YtbepbcjklgfmjaaGreatDoorCards
import Derived.Test.YtbepbcjklgfmjaaGreatDoorTie
import Derived.LaidMore
import Derived.LaidLaws
import Derived.Stop.Joined
import Derived.SevenTiedAt
import Derived.ChangeSame
import Derived.ProofKit
import Derived.OpenShut
import Derived.ShutString
import Derived.ChangeOld
import Derived.Below
import Derived.Lib.SmallJoins
namespace Go.Proofs.YtbepbcjklgfmjaaGreatDoor.recordWords
open Go.ChangeShapes Go.WideShapes Go.ChangeAt Go.RowKit
open Go.ChangeMaps (open_string shut_string)
set_option linter.unusedVariables false

theorem own : ownKnob Tryz.prog.godebug = none := by kernel_rfl
theorem laidOut : laidOutB Tryz.prog = true := by kernel_rfl

def laidL {H : Type} : List (String × DataW H) := [("dustpan/class.table", Rows.laid_dustpan_class_table)]
theorem gTab : Tryz.prog.globalNamed "dustpan/class.table" = some 0 := by kernel_rfl
theorem tTab : (Tryz.prog.globals[0]?).map (·.type) = some 151 := by kernel_rfl
theorem door_met (os : Os) (args : Array Value) : laidMetH Tryz.prog laidL ((World.doorLaid Tryz.prog 400 os).forCall (fun _ _ => 0) ⟨#[], args, []⟩).memory :=
  laidMetH_of_parts3 (fuel := 8) (laidMet_of_run' 8 (by kernel_rfl) (by kernel_rfl)) (by kernel_rfl) (by kernel_rfl)
theorem of_laid {W : World} (h : laidMetH Tryz.prog laidL W) : Tab W := by
  rw [MakeChecks.laidMetH_plain _ _ _ (by kernel_rfl)] at h
  obtain ⟨ps, ⟨g0, t0, cs0, f0, p0, q0, hg0, ht0, hv0, hd0, _, _⟩, _, _⟩ := h
  obtain rfl := Option.some.inj (gTab.symm.trans hg0)
  obtain rfl := Option.some.inj (tTab.symm.trans ht0)
  obtain ⟨xs, m1, rfl, hx1, hlen, hn3, hel⟩ := DataW.trod_array Tryz.underlying151 hd0
  have c92 : Tryz.prog.cellsOf 150 = 2 := by kernel_rfl
  have c3 : Tryz.prog.cellsOf 3 = 1 := by kernel_rfl
  simp only [Rows.laid_dustpan_class_table, Prod.mk.injEq, DataW.agg.injEq] at hx1
  have hx2 := hx1.1.symm
  have key : ∀ k, k < 14 → W.cell? ⟨0, k * 2, none⟩ = some (.int .i64 (tabB k)) ∧ W.cell? ⟨0, k * 2 + 1, none⟩ = some (.int .i64 (tabP k)) := by
    intro k hk
    have h := hel k hk
    obtain ⟨y, hy⟩ : ∃ y, xs[k]? = some y := ⟨_, List.getElem?_eq_getElem (by omega)⟩
    rw [hy] at h
    obtain ⟨y0, y1, n, rfl, -, t0, t1⟩ := trod_struct2 Tryz.underlying150 h
    obtain ⟨v0, e0, rfl, -⟩ := DataW.trod_int Tryz.underlying3 t0
    obtain ⟨v1, e1, rfl, -⟩ := DataW.trod_int Tryz.underlying3 t1
    have hd : (xs.map (·.1))[k]? = some (.agg [.lit (.int .i64 v0), .lit (.int .i64 v1)]) := by rw [List.getElem?_map, hy]; rfl
    rw [hx2] at hd
    have hv : v0 = tabB k ∧ v1 = tabP k := by
      have hkk : k = 0 ∨ k = 1 ∨ k = 2 ∨ k = 3 ∨ k = 4 ∨ k = 5 ∨ k = 6 ∨ k = 7 ∨ k = 8 ∨ k = 9 ∨ k = 10 ∨ k = 11 ∨ k = 12 ∨ k = 13 := by omega
      clear e0 e1 t0 t1 h hy hel hx1 hx2 hd0 hlen
      rcases hkk with rfl | rfl | rfl | rfl | rfl | rfl | rfl | rfl | rfl | rfl | rfl | rfl | rfl | rfl
      all_goals (simp at hd; exact ⟨hd.1.symm, hd.2.symm⟩)
    simp only [c92, c3] at e0 e1
    have q0 : cs0.toList[k * 2]? = some (.int .i64 v0) := by
      have := congrArg (fun l : List Value => l[0]?) e0
      simpa [List.getElem?_take, List.getElem?_drop] using this
    have q1 : cs0.toList[k * 2 + 1]? = some (.int .i64 v1) := by
      have := congrArg (fun l : List Value => l[0]?) e1
      simpa [List.getElem?_take, List.getElem?_drop] using this
    rw [World.var?_cell hg0 hv0 (k * 2), World.var?_cell hg0 hv0 (k * 2 + 1), ← hv.1, ← hv.2]
    exact ⟨by simpa using q0, by simpa using q1⟩
  exact ⟨cell_lt (key 0 (by omega)).1, key⟩

set_option maxRecDepth 100000 in
theorem lifted (os : Os) (started : os.Started) (H : Type) (enc : TypeId × Value → H) :
    ReturnsInHanded {} Tryz.checked os 3 .any (fun w args => (Rows.recordWordsSpec.pre enc Tryz.prog Tryz.f3 [] false w args ∧ laidMetH Tryz.prog laidL w) ∧ sizedMet enc Tryz.prog Tryz.f3 (OpenSpec.ofChange Rows.recordWordsSpec) false w args) (Rows.recordWordsSpec.post enc Tryz.prog Tryz.f3 false true false false) := by
  refine returnsInHanded_of_change_and (C := Tryz.checked) (X := fun w _ => laidMetH Tryz.prog laidL w) (fun _ _ _ hh h => h.of_heap hh) own started (by kernel_rfl) Tryz.func3
    (ChangeSpec.witness_shaped (enc := enc) (C := Tryz.checked) (os := os) (X := fun w _ => laidMetH Tryz.prog laidL w) false (World.doorLaid Tryz.prog 400 os) #[.int .u64 0, .int .u64 0, .int .u64 0, .int .u64 0, .int .u8 0] 8 rfl (World.shaped_of_RefB (by kernel_rfl) (by kernel_rfl)) (by kernel_rfl) (by kernel_rfl) (by kernel_rfl) (door_met os _)) ?_
  intro W base args ds gs before hval0 hW _ _ hL _
  have hval : ∀ (j : Nat) t v, Tryz.f3.params[j]? = some t → args[j]? = some v → Value.okWide Tryz.prog W .any base t v := hval0
  have hW' := hW
  obtain ⟨p, q, hA0, hV, rfl, hfz, hnd⟩ := hW
  have hA : DataW.TrodAll enc Tryz.prog W 0 (fun _ => true) true Tryz.f3.params.toList args.toList ds p := hA0
  rw [Tryz.params3] at hA hval
  obtain ⟨v0, vs0, d0, ds0, p0, q0, hargs, rfl, rfl, h0, r0⟩ := trodAll_cons hA
  obtain ⟨v1, vs1, d1, ds1, p1, q1, rfl, rfl, rfl, h1, r1⟩ := trodAll_cons r0
  obtain ⟨v2, vs2, d2, ds2, p2, q2, rfl, rfl, rfl, h2, r2⟩ := trodAll_cons r1
  obtain ⟨v3, vs3, d3, ds3, p3, q3, rfl, rfl, rfl, h3, r3⟩ := trodAll_cons r2
  obtain ⟨v4, vs4, d4, ds4, p4, q4, rfl, rfl, rfl, h4, r4⟩ := trodAll_cons r3
  obtain ⟨rfl, rfl, rfl⟩ := trodAll_nil r4
  obtain rfl : args = #[v0, v1, v2, v3, v4] := by cases args; simp_all
  obtain ⟨rfl, rfl⟩ := trodVars_none hV
  have k0 := h0
  have lt0 : ∀ x ∈ p0, x.block < W.heap.size := by obtain ⟨m, hm⟩ := k0; exact DataW.trod_lt m _ _ _ hm
  have k1 := h1
  have lt1 : ∀ x ∈ p1, x.block < W.heap.size := by obtain ⟨m, hm⟩ := k1; exact DataW.trod_lt m _ _ _ hm
  have k2 := h2
  have lt2 : ∀ x ∈ p2, x.block < W.heap.size := by obtain ⟨m, hm⟩ := k2; exact DataW.trod_lt m _ _ _ hm
  have k3 := h3
  have lt3 : ∀ x ∈ p3, x.block < W.heap.size := by obtain ⟨m, hm⟩ := k3; exact DataW.trod_lt m _ _ _ hm
  have k4 := h4
  have lt4 : ∀ x ∈ p4, x.block < W.heap.size := by obtain ⟨m, hm⟩ := k4; exact DataW.trod_lt m _ _ _ hm
  obtain ⟨a0, e0, eq0, ed0, w0⟩ := open_int Tryz.underlying22 (hval 0 22 v0 rfl rfl) h0
  subst e0
  obtain ⟨a1, e1, eq1, ed1, w1⟩ := open_int Tryz.underlying22 (hval 1 22 v1 rfl rfl) h1
  subst e1
  obtain ⟨a2, e2, eq2, ed2, w2⟩ := open_int Tryz.underlying22 (hval 2 22 v2 rfl rfl) h2
  subst e2
  obtain ⟨a3, e3, eq3, ed3, w3⟩ := open_int Tryz.underlying22 (hval 3 22 v3 rfl rfl) h3
  subst e3
  obtain ⟨a4, e4, eq4, ed4, w4⟩ := open_int Tryz.underlying5 (hval 4 5 v4 rfl rfl) h4
  subst e4
  clear hA0 hval0
  refine (recordWords_law a0 w0 a1 w1 a2 w2 a3 w3 a4 w4 W (of_laid hL)).mono fun e W' ⟨he, bel⟩ => ?_
  subst he
  exact ⟨_, rfl, _, _, _, [], _, [], hW', trodAll_mk1 (shut_bool Tryz.underlying4 _), (trodAll_cons_mk (Below.trod laidOut (by kernel_rfl) (of_decide_eq_true (by kernel_rfl)) k0 bel lt0) (trodAll_cons_mk (Below.trod laidOut (by kernel_rfl) (of_decide_eq_true (by kernel_rfl)) k1 bel lt1) (trodAll_cons_mk (Below.trod laidOut (by kernel_rfl) (of_decide_eq_true (by kernel_rfl)) k2 bel lt2) (trodAll_cons_mk (Below.trod laidOut (by kernel_rfl) (of_decide_eq_true (by kernel_rfl)) k3 bel lt3) (trodAll_cons_mk (Below.trod laidOut (by kernel_rfl) (of_decide_eq_true (by kernel_rfl)) k4 bel lt4) trodAll_mk0))))), rfl, bel.frame _, fun h => by cases h⟩

theorem over : Rows.recordWordsRow.holds Tryz.pinned (OpenSpec.ofChange Rows.recordWordsSpec) :=
  OpenClaim.holds_of_wide 3 Tryz.f3 rfl rfl rfl rfl rfl rfl rfl ⟨rfl, rfl, rfl, rfl, rfl⟩ rfl rfl rfl rfl rfl (by kernel_rfl) Tryz.func3 (by kernel_rfl)
    (of_decide_eq_true (by kernel_rfl)) (by unfold Func.isWrapper; first | (rw [if_pos (by decide +kernel)]; kernel_rfl) | (rw [if_neg (by decide +kernel)]; exact ⟨rfl, rfl⟩))
    (fun os started H enc _ => lifted os started H enc)

/-- The statement. -/
theorem proved : Rows.RecordWordsCardSaid :=
  Claim7.holds_tied_plain_at .later [] [.data] true (true, "da3547b8e8d289a0aa7a2bc6cc947559ddb3bfcb38ee870d8fed234c00118b21") false
    over (fun _ h => by cases h) (by kernel_rfl) (fun _ h => by cases h) recordWords_row_tie rfl ⟨rfl, rfl⟩ (by kernel_rfl) rfl
    (fun f fn hf hfn => by
      obtain rfl : f = 3 := Option.some.inj ((show Tryz.prog.funcNamed "dustpan/dustpanlaw14.RecordWords" = some 3 by kernel_rfl).symm.trans hf) |>.symm
      obtain rfl : fn = Tryz.f3 := (Option.some.inj (Tryz.func3.symm.trans hfn)).symm
      exact ⟨by kernel_rfl, fun j t ht => by
        rw [Tryz.params3] at ht
        have hm : t ∈ [22, 22, 22, 22, 5] := by simpa using Array.mem_of_getElem? ht
        have hall : ([22, 22, 22, 22, 5].all fun u => !Tryz.prog.wantsStandIn u) = true := by kernel_rfl
        exact (show Tryz.prog.wantsStandIn t = false by simpa using List.all_eq_true.1 hall t hm)⟩)
    (by kernel_rfl)
#print axioms proved
end Go.Proofs.YtbepbcjklgfmjaaGreatDoor.recordWords

/- slices.Delete of one run out of a list of runs. By an AI agent. -/
import Derived.Lib.SliceRun
import Derived.Test.YtbijbpnhakbeeaaRunInsert
namespace Go.Proofs.Ytbijbpnhakbeeaa
open Go.RowKit

/-- append within a row that is known whole, where there is room; elements of two cells. -/
theorem run_append_row2 {P : Program} (w : World) (t ty elem : TypeId) (i0 : TypeInfo) (g sLen cap : Nat) (a : Addr) (m c : Nat) (cur : Array Value) (tc : TypeId) (news : List Value)
    (ht : P.underlying t = some (.slice elem)) (hi : P.info? elem = some i0) (hs : i0.size = 2)
    (hg : w.heap[g]? = some (.cells cur tc (0, 0))) (hl : news.length = m * 2) (hnews : ∀ j u, news[j]? = some u → w.cell? (a.add j) = some u) (h1 : ∀ u ∈ news, u.oneCell' = true)
    (hroom : sLen + m ≤ cap) (hcs : cur.size = cap * 2) :
    (Builtin.append_ #[t, t] ty #[.slice (some ⟨g, 0, none⟩) sLen cap, .slice (some a) m c]).run P w =
      .ok (.slice (some ⟨g, 0, none⟩) (sLen + m) cap) (w.setRow g (cur.toList.take (sLen * 2) ++ news ++ cur.toList.drop (sLen * 2 + news.length)).toArray) := by
  have hfc := run_firstCells_some (P := P) w i0.size m a m c news (by rw [hs]; exact hl) hnews
  have hst := run_storeCells_at P g (sLen * 2) tc news 0 cur w hg (by omega) h1
  rw [hs] at hfc
  simp only [Nat.add_zero] at hst
  simp [Builtin.append_, run_underlying ht, sizeOf, typeInfo, hi, hs, Builtin.lenOf, hroom, hfc, Addr.add_lit, hst]
/-- clear of one element of two cells. -/
theorem run_clear_row2 {P : Program} (w : World) (t e ty : TypeId) (z : Value) (p q : Value) (ht : P.underlying t = some (.slice e)) (hv : ∀ w, (zeroValue e).run P w = .ok z w) (hz : z.cells = #[p, q]) (h1 : ∀ u ∈ [p, q], u.oneCell' = true)
    (g o c : Nat) (cur : Array Value) (tc : TypeId) (hg : w.heap[g]? = some (.cells cur tc (0, 0))) (hfit : o + 2 ≤ cur.size) :
    (Builtin.clear_ #[t] ty #[.slice (some ⟨g, o, none⟩) 1 c]).run P w = .ok (.tuple #[]) (w.setRow g (cur.toList.take o ++ [p, q] ++ cur.toList.drop (o + 2)).toArray) := by
  have hzc : (Builtin.zeroCells z.cells 1).toList = [p, q] := by
    rw [hz]
    simp [Builtin.zeroCells]
    rfl
  have hst := run_storeCells_at P g o tc [p, q] 0 cur w hg (by simpa using hfit) h1
  simp only [Nat.add_zero] at hst
  simp [Builtin.clear_, run_underlying ht, hv, hzc, hst]
theorem step_append_runI {P : Program} {ops : Array Oper} {o : Oper} {a : Act} {w : World} {K : Act → World → Prop} {Q : Exit → Act → World → Prop} {E : Prop}
    (hg : o.guard = none) (d x : Operand) (dT sT : TypeId) (hop : o.op = Op.call { callee := Callee.builtin Builtin.append, args := #[d, x], argTypes := #[dT, sT] })
    (v u : Value) (hd : a.eval d = v) (hx : a.eval x = u) {v' : Value} {w' : World} (hr : (Builtin.append_ #[dT, sT] o.type #[v, u]).run P w = .ok v' w') (hK : K (a.put o.dst v') w') :
    if Region.wanted o (yielded ops a.tmps) = true then Oper.wp P o a w K Q else E := by
  have hw : Region.wanted o (yielded ops a.tmps) = true := by simp [Region.wanted, hg]
  rw [if_pos hw]
  unfold Oper.wp
  simp [execOp, hop, resolve, invoke, builtin, hd, hx, hr, Result.andThen]
  exact hK
theorem zeroRun (w : World) : (zeroValue 63).run Try.prog w = .ok (.agg #[.int .i64 0, .int .i64 0]) w := Try.zeroValue63 w
theorem del_list (cur xs : List Value) (i n : Nat) (p q : Value) (hx : cur.take (n * 2) = xs) (hxl : xs.length = n * 2) (hi : i < n) (hl : n * 2 ≤ cur.length) (R1 R2 : List Value)
    (hR1 : R1 = cur.take (i * 2) ++ xs.drop ((i + 1) * 2) ++ cur.drop (i * 2 + (xs.drop ((i + 1) * 2)).length))
    (hR2 : R2 = R1.take ((n - 1) * 2) ++ [p, q] ++ R1.drop ((n - 1) * 2 + 2)) :
    R2.take ((n - 1) * 2) = xs.take (i * 2) ++ xs.drop ((i + 1) * 2) := by
  have e0 : cur.take (i * 2) = xs.take (i * 2) := by
    rw [← hx, List.take_take]; congr 1; omega
  have e1 : R1.take ((n - 1) * 2) = xs.take (i * 2) ++ xs.drop ((i + 1) * 2) := by
    rw [hR1, e0]
    exact List.take_left' (by simp; omega)
  rw [hR2, e1, List.append_assoc]
  exact List.take_left' (by simp; omega)

set_option maxRecDepth 100000 in
set_option maxHeartbeats 4000000 in
theorem delete_any (base g cap n i : Nat) (xs : List Value) (w : World) (hown : w.ownsRow base 63 2 (.slice (some ⟨g, 0, none⟩) n cap) n xs) (h1 : ∀ v ∈ xs, v.oneCell' = true) (hin : i < n) (hbig : n < 1000000) :
    Calls Try.prog 81 #[.slice (some ⟨g, 0, none⟩) n cap, .int .i64 i, .int .i64 (i + 1 : Nat)] w fun e w' => e = .returned (.slice (some ⟨g, 0, none⟩) (n - 1) cap) ∧
      w'.ownsRow base 63 2 (.slice (some ⟨g, 0, none⟩) (n - 1) cap) (n - 1) (xs.take (i * 2) ++ xs.drop ((i + 1) * 2)) ∧ Only (· = g) w w' := by
  obtain ⟨hxl, ⟨h0, _⟩ | ⟨g', cap', cur, h0, hbg, hg, hnc, hcm, hcs, hx⟩⟩ := hown
  · cases h0
  cases h0
  obtain ⟨i0, hi, hz0, hz1, hz2⟩ := info_parts infoRunI
  have hdl : (xs.drop ((i + 1) * 2)).length = (n - (i + 1)) * 2 := by rw [List.length_drop, hxl]; omega
  have hcells : ∀ j v, xs[j]? = some v → w.drew.cell? ⟨g, j, none⟩ = some v := fun j v hj => by
    rw [← hx, List.getElem?_take] at hj
    split at hj
    · show w.cell? ⟨g, j, none⟩ = some v
      simpa [World.cell?, hg] using hj
    · cases hj
  obtain ⟨R1, hR1⟩ : ∃ R1, R1 = (cur.toList.take (i * 2) ++ xs.drop ((i + 1) * 2) ++ cur.toList.drop (i * 2 + (xs.drop ((i + 1) * 2)).length)).toArray := ⟨_, rfl⟩
  have hR1s : R1.size = cap * 2 := by rw [hR1]; simp; omega
  obtain ⟨R2, hR2⟩ : ∃ R2, R2 = (R1.toList.take ((n - 1) * 2) ++ [Value.int .i64 0, Value.int .i64 0] ++ R1.toList.drop ((n - 1) * 2 + 2)).toArray := ⟨_, rfl⟩
  have hR2s : R2.size = cap * 2 := by rw [hR2]; simp; omega
  obtain ⟨AD, hAD, hsrc⟩ : ∃ AD : Addr, (if cap = i + 1 then (some ⟨g, 0, none⟩ : Option Addr) else some ⟨g, (i + 1) * 2, none⟩) = some AD ∧ Hid (∀ t u, (xs.drop ((i + 1) * 2))[t]? = some u → w.drew.cell? (AD.add t) = some u) := by
    by_cases h : cap = i + 1
    · refine ⟨⟨g, 0, none⟩, by simp [h], fun t u hu => ?_⟩
      have := (List.getElem?_eq_some_iff.1 hu).1
      rw [hdl] at this; omega
    · refine ⟨⟨g, (i + 1) * 2, none⟩, by simp [h], fun t u hu => ?_⟩
      rw [Addr.add_lit]
      exact hcells _ u (by rwa [List.getElem?_drop] at hu)
  have happ : ∀ ty, (Builtin.append_ #[49, 49] ty #[.slice (some ⟨g, 0, none⟩) i cap, .slice (some AD) (n - (i + 1)) (cap - (i + 1))]).run Try.prog w.drew = .ok (.slice (some ⟨g, 0, none⟩) (i + (n - (i + 1))) cap) (w.drew.setRow g R1) := fun ty => by
    rw [hR1]
    exact run_append_row2 w.drew 49 ty 63 i0 g i cap AD (n - (i + 1)) (cap - (i + 1)) cur 63 (xs.drop ((i + 1) * 2)) Try.underlying49 hi hz1 hg hdl hsrc (fun u hu => h1 u (List.mem_of_mem_drop hu)) (by omega) hcs
  have hg1 : (w.drew.setRow g R1).heap[g]? = some (.cells R1 63 (0, 0)) := setRow_heap w.drew g cur R1 _ _ hg
  have hcl : ∀ ty c, (Builtin.clear_ #[49] ty #[.slice (some ⟨g, (n - 1) * 2, none⟩) 1 c]).run Try.prog (w.drew.setRow g R1) = .ok (.tuple #[]) ((w.drew.setRow g R1).setRow g R2) := fun ty c => by
    rw [hR2]
    exact run_clear_row2 (w.drew.setRow g R1) _ 63 ty (.agg #[.int .i64 0, .int .i64 0]) (.int .i64 0) (.int .i64 0) Try.underlying49 zeroRun (by simp [Value.cells]) (by simp [Value.oneCell']) g ((n - 1) * 2) c R1 63 hg1 (by omega)
  have hfin := del_list cur.toList xs i n (.int .i64 0) (.int .i64 0) hx hxl hin (by simp; omega) R1.toList R2.toList (by rw [hR1]) (by rw [hR2])
  have hc63 : cap ≤ 9223372036854775807 := by unfold maxLen at hcm; omega
  have en : i + (n - (i + 1)) = n - 1 := by omega
  rw [en] at happ
  have ek : n - (n - 1) = 1 := by omega
  have HF := Lib.hid (And.intro hfin hR2s); have HG1 := Lib.hid hg1; have HXL := Lib.hid hxl; have HM := Lib.hid hcm
  clear hfin hR2s hg1 hxl hR1 hR2 hR1s hcells hsrc hdl hg hx hcs hi hz0 hz1 hz2 h1 hcm
  have q1 : ¬ ((i : Int) = ((i + 1 : Nat) : Int)) := by omega
  have q2 : i + 1 ≤ n := by omega
  have q3 : n - 1 ≤ n := by omega
  have q4 : i ≤ cap := by omega
  have q5 : i + 1 ≤ cap := by omega
  have q6 : i ≤ i + 1 := by omega
  have q7 : n - 1 ≤ cap := by omega
  have q8 : ¬ (cap = n - 1) := by omega
  have q9 : (0 : Int) ≤ (i : Int) + 1 := by omega
  have q10 : (i : Int) + 1 ≤ (n : Int) := by omega
  go_enter Try.func81, Try.ntmps81
  go_wp2_with fail
  have HA := Lib.hid happ
  clear happ
  go_region_law (refine step_append_runI rfl _ _ 49 49 rfl _ _ (by simp [Act.eval, Act.put]) (by simp [Act.eval, Act.put]) (HA.out _) ?_)
  all_goals (
    go_wp2_with (simp only [hcl])
    go_ret
    exact ⟨rfl, ⟨by have := HXL.out; simp; omega, .inr ⟨g, cap, R2, rfl, hbg, setRow_heap _ _ _ _ _ _ HG1.out, by omega, HM.out, HF.out.2, HF.out.1⟩⟩, (((Only.refl (fun y => y = g) w).drew).setRow rfl _).setRow rfl _⟩)
end Go.Proofs.Ytbijbpnhakbeeaa

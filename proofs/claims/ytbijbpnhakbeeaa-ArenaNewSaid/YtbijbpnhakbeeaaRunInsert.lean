/- slices.Insert of one run into a list of runs. By an AI agent. -/
import Derived.Shelf.Spec.SlicesInsertGrow
import Derived.Laws.CopyOwn
import Derived.Maps.AppendAt
import Derived.Deep.DeepCutAuto
import Derived.Test.YtbijbpnhakbeeaaMem
namespace Go.Proofs.Ytbijbpnhakbeeaa
open Go.RowKit

theorem Only.ofGrown {w w' : World} {r : Option Nat} (h : w.grownBy w' r) : Only (fun y => some y = r) w w' :=
  ⟨h.os, h.tape, h.output, h.size, fun k hk hS => h.block k hk hS⟩
theorem infoRunI : (Try.prog.info? 63).map (fun i => (i.zero, i.size, i.bytes)) = some (some (.agg #[.int .i64 0, .int .i64 0]), 2, 16) := by kernel_rfl

theorem Only.setRow {S : Nat → Prop} {w w' : World} (h : Only S w w') {g : Nat} (hg : S g) (cs : Array Value) : Only S w (w'.setRow g cs) :=
  ⟨h.os, h.tape, h.output, by simpa [World.setRow] using h.size, fun k hk hS => (setRow_other w' g k cs (fun e => hS (e ▸ hg))).trans (h.block k hk hS)⟩
theorem shift_list (cur xs : List Value) (i n : Nat) (p q : Value) (hx : cur.take (n * 2) = xs) (hxl : xs.length = n * 2) (hi : i < n) (hl : (n + 1) * 2 ≤ cur.length) (R : List Value)
    (hR : R = cur.take ((i + 1) * 2) ++ xs.drop (i * 2) ++ cur.drop ((i + 1) * 2 + (xs.drop (i * 2)).length)) :
    (R.take (i * 2) ++ [p, q] ++ R.drop (i * 2 + 2)).take ((n + 1) * 2) = xs.take (i * 2) ++ [p, q] ++ xs.drop (i * 2) := by
  have e1 : R.take (i * 2) = xs.take (i * 2) := by
    rw [hR, List.append_assoc, List.take_append_of_le_length (by simp; omega), List.take_take, ← hx, List.take_take]
    congr 1; omega
  have e2 : R.drop (i * 2 + 2) = xs.drop (i * 2) ++ cur.drop ((i + 1) * 2 + (xs.drop (i * 2)).length) := by
    rw [hR, List.append_assoc]
    exact List.drop_left' (by simp; omega)
  rw [e1, e2, ← List.append_assoc]
  exact List.take_left' (by simp; omega)

theorem grow_list (xs Z : List Value) (i n : Nat) (p q : Value) (hxl : xs.length = n * 2) (hi : i < n) (R1 R2 : List Value)
    (hR1 : R1 = (xs.take (i * 2) ++ Z).take (i * 2) ++ [p, q] ++ (xs.take (i * 2) ++ Z).drop (i * 2 + 2))
    (hR2 : R2 = R1.take ((i + 1) * 2) ++ xs.drop (i * 2) ++ R1.drop ((i + 1) * 2 + (xs.drop (i * 2)).length)) :
    R2.take ((n + 1) * 2) = xs.take (i * 2) ++ [p, q] ++ xs.drop (i * 2) := by
  have e0 : (xs.take (i * 2) ++ Z).take (i * 2) = xs.take (i * 2) := List.take_left' (by simp; omega)
  have e1 : R1.take ((i + 1) * 2) = xs.take (i * 2) ++ [p, q] := by
    rw [hR1, e0]
    exact List.take_left' (by simp; omega)
  rw [hR2, e1]
  exact List.take_left' (by simp; omega)

/-- copy at elements of two cells, into a row that is known whole. -/
theorem run_copy_row2 {P : Program} (w : World) (dT sT ty elem : TypeId) (g o dLen dCap : Nat) (a : Addr) (sLen sCap : Nat) (cur : Array Value) (t : TypeId) (cs : List Value)
    (hu : P.underlying dT = some (.slice elem)) (hs : (P.info? elem).map (·.size) = some 2)
    (hg : w.heap[g]? = some (.cells cur t (0, 0))) (hn : cs.length = Nat.min sLen dLen * 2)
    (hsrc : ∀ j v, cs[j]? = some v → w.cell? (a.add j) = some v) (hfit : o + cs.length ≤ cur.size) (h1 : ∀ v ∈ cs, v.oneCell' = true) :
    (Builtin.copy_ #[dT, sT] ty #[.slice (some ⟨g, o, none⟩) dLen dCap, .slice (some a) sLen sCap]).run P w =
      .ok (goInt (Nat.min sLen dLen)) (w.setRow g (cur.toList.take o ++ cs ++ cur.toList.drop (o + cs.length)).toArray) := by
  have hl := run_loadCells_list (P := P) w a cs hsrc
  have hst := run_storeCells_at P g o t cs 0 cur w hg (by simpa using hfit) h1
  cases hq : P.info? elem with
  | none => simp [hq] at hs
  | some i =>
    have hi : i.size = 2 := by simpa [hq] using hs
    rw [hn] at hl
    simp [Builtin.copy_, run_underlying hu, Builtin.lenOf, Builtin.firstCells, sizeOf, typeInfo, hq, hi, hl, hst]

set_option maxRecDepth 100000 in
set_option maxHeartbeats 1000000 in
/-- At the end: whether there is room or not. -/
theorem insert_end (base : Nat) (v : Value) (n : Nat) (xs : List Value) (a m : Int) (b : Nat) (w : World) (hown : w.ownsRow base 63 2 v n xs) (hbase : base ≤ w.heap.size)
    (hb : Blk w b #[.int .i64 a, .int .i64 m] 63) (hn : n < 1000000) :
    Calls Try.prog 83 #[v, .int .i64 n, .slice (some ⟨b, 0, none⟩) 1 1] w fun e w' => ∃ v', e = .returned v' ∧ w'.ownsRow base 63 2 v' (n + 1) (xs ++ [.int .i64 a, .int .i64 m]) ∧ Only (fun y => some y = v.ownBlock) w w' ∧ (v'.ownBlock = v.ownBlock ∨ v'.ownBlock = some w.heap.size) := by
  obtain ⟨i0, hi, hz0, hz1, hz2⟩ := info_parts infoRunI
  have hnews : ∀ j u, [Value.int .i64 a, Value.int .i64 m][j]? = some u → w.cell? ((⟨b, 0, none⟩ : Addr).add j) = some u := by
    intro j u hj
    match j, hj with
    | 0, hj => simp at hj; subst hj; simpa [Addr.add] using hb.cell 0
    | 1, hj => simp at hj; subst hj; simpa [Addr.add] using hb.cell 1
  have HO := Lib.hid hown
  have HN := Lib.hid hnews
  clear hnews hb
  rcases hown.2 with ⟨rfl, rfl⟩ | ⟨g, cap, cur, rfl, hbg, hg, hnc, hcm, hcs, hx⟩
  · clear hown
    go_enter Try.func83, Try.ntmps83
    go_wp2_with (at_builtin; refine wpList_append_own_at _ rfl _ _ 49 rfl base 63 i0 (.agg #[.int .i64 0, .int .i64 0]) 2 16 Try.underlying49 hi hz0 hz1 hz2 rfl (by decide) _ _ xs rfl HO.out ⟨b, 0, none⟩ 1 1 [.int .i64 a, .int .i64 m] rfl rfl HN.out (by simp [Value.oneCell']) (by unfold maxLen; omega) (by omega) hbase ?_; intro v' w' hown' hgrow hnil hat)
    go_ret
    exact ⟨v', rfl, hown', Only.ofGrown hgrow, hat⟩
  · clear hown hg hcs hx
    have hc63 : cap ≤ 9223372036854775807 := by unfold maxLen at hcm; omega
    clear hcm
    go_enter Try.func83, Try.ntmps83
    go_wp2_with (at_builtin; refine wpList_append_own_at _ rfl _ _ 49 rfl base 63 i0 (.agg #[.int .i64 0, .int .i64 0]) 2 16 Try.underlying49 hi hz0 hz1 hz2 rfl (by decide) _ _ xs rfl HO.out ⟨b, 0, none⟩ 1 1 [.int .i64 a, .int .i64 m] rfl rfl HN.out (by simp [Value.oneCell']) (by unfold maxLen; omega) (by omega) hbase ?_; intro v' w' hown' hgrow hnil hat)
    all_goals (
      go_ret
      exact ⟨v', rfl, hown', Only.ofGrown hgrow, hat⟩)
set_option maxRecDepth 100000 in
set_option maxHeartbeats 2000000 in
/-- Ahead of the end, where there is room: in place. -/
theorem insert_shift (base g cap n i : Nat) (xs : List Value) (a m : Int) (b : Nat) (w : World) (hown : w.ownsRow base 63 2 (.slice (some ⟨g, 0, none⟩) n cap) n xs) (h1 : ∀ v ∈ xs, v.oneCell' = true)
    (hin : i < n) (hroom : n + 1 ≤ cap) (hb : Blk w b #[.int .i64 a, .int .i64 m] 63) (hne : b ≠ g) :
    Calls Try.prog 83 #[.slice (some ⟨g, 0, none⟩) n cap, .int .i64 i, .slice (some ⟨b, 0, none⟩) 1 1] w fun e w' => e = .returned (.slice (some ⟨g, 0, none⟩) (n + 1) cap) ∧
      w'.ownsRow base 63 2 (.slice (some ⟨g, 0, none⟩) (n + 1) cap) (n + 1) (xs.take (i * 2) ++ [.int .i64 a, .int .i64 m] ++ xs.drop (i * 2)) ∧ Only (· = g) w w' := by
  obtain ⟨hxl, ⟨h0, _⟩ | ⟨g', cap', cur, h0, hbg, hg, hnc, hcm, hcs, hx⟩⟩ := hown
  · cases h0
  cases h0
  obtain ⟨i0, hi, hz0, hz1, hz2⟩ := info_parts infoRunI
  have hnews : ∀ W : World, W.heap[b]? = w.heap[b]? → ∀ j u, [Value.int .i64 a, Value.int .i64 m][j]? = some u → W.cell? ((⟨b, 0, none⟩ : Addr).add j) = some u := by
    intro W hW j u hj
    have hb : Blk W b #[.int .i64 a, .int .i64 m] 63 := hW.trans hb
    match j, hj with
    | 0, hj => simp at hj; subst hj; simpa [Addr.add] using hb.cell 0
    | 1, hj => simp at hj; subst hj; simpa [Addr.add] using hb.cell 1
  have hsz : (Try.prog.info? 63).map (·.size) = some 2 := by rw [hi]; simp [hz1]
  have hov : ∀ lb cb, (callFunc 98 #[.slice (some ⟨b, 0, none⟩) 1 1, .slice (some ⟨g, (i + 1) * 2, none⟩) lb cb]).run Try.prog w = .ok (.value (.bool false)) w := fun lb cb => by
    rw [run_callFunc_extern (fn := Try.f98) (by kernel_rfl) (by kernel_rfl) (by kernel_rfl) (by kernel_rfl) (e := Extern.SlicesOverlaps.overlaps #[49, 49] #[4]) (by kernel_rfl),
      Lib.run_overlaps_apart w 49 4 63 Try.underlying49 2 Try.sizeOf63 ⟨b, 0, none⟩ ⟨g, (i + 1) * 2, none⟩ 1 1 lb cb hne 63 63 2 cur.size (by simp [World.shape?, show w.heap[b]? = _ from hb]) (by simp [World.shape?, hg]) (by omega) (hb.frozen 0) (hb.frozen 2)]
    rfl
  have hdl : (xs.drop (i * 2)).length = (n - i) * 2 := by rw [List.length_drop, hxl]; omega
  obtain ⟨R1, hR1⟩ : ∃ R1, R1 = (cur.toList.take ((i + 1) * 2) ++ xs.drop (i * 2) ++ cur.toList.drop ((i + 1) * 2 + (xs.drop (i * 2)).length)).toArray := ⟨_, rfl⟩
  have hcells : ∀ j v, xs[j]? = some v → w.drew.cell? ⟨g, j, none⟩ = some v := fun j v hj => by
    rw [← hx, List.getElem?_take] at hj
    split at hj
    · show w.cell? ⟨g, j, none⟩ = some v
      simpa [World.cell?, hg] using hj
    · cases hj
  have hcp1 : ∀ ty dc sc, (Builtin.copy_ #[49, 49] ty #[.slice (some ⟨g, (i + 1) * 2, none⟩) (n - i) dc, .slice (some ⟨g, i * 2, none⟩) (n + 1 - i) sc]).run Try.prog w.drew = .ok (goInt (Nat.min (n + 1 - i) (n - i))) (w.drew.setRow g R1) := fun ty dc sc => by
    rw [hR1]
    exact run_copy_row2 w.drew _ _ ty 63 g ((i + 1) * 2) (n - i) dc ⟨g, i * 2, none⟩ (n + 1 - i) sc cur 63 (xs.drop (i * 2)) Try.underlying49 hsz hg (by rw [hdl]; simp only [Nat.min_def]; split <;> omega)
      (fun j v hj => by rw [Addr.add_lit]; exact hcells _ v (by rwa [List.getElem?_drop] at hj)) (by rw [hdl]; omega) (fun v hv => h1 v (List.mem_of_mem_drop hv))
  have hR1s : R1.size = cap * 2 := by rw [hR1]; simp; omega
  have hg1 : (w.drew.setRow g R1).heap[g]? = some (.cells R1 63 (0, 0)) := setRow_heap w.drew g cur R1 _ _ hg
  have hb1 : (w.drew.setRow g R1).heap[b]? = w.heap[b]? := setRow_other w.drew g b R1 hne
  have hcp2 : ∀ ty dc, (Builtin.copy_ #[49, 49] ty #[.slice (some ⟨g, i * 2, none⟩) (n + 1 - i) dc, .slice (some ⟨b, 0, none⟩) 1 1]).run Try.prog (w.drew.setRow g R1) = .ok (goInt (Nat.min 1 (n + 1 - i))) ((w.drew.setRow g R1).setRow g (R1.toList.take (i * 2) ++ [Value.int .i64 a, Value.int .i64 m] ++ R1.toList.drop (i * 2 + 2)).toArray) := fun ty dc =>
    run_copy_row2 (w.drew.setRow g R1) _ _ ty 63 g (i * 2) (n + 1 - i) dc ⟨b, 0, none⟩ 1 1 R1 63 [.int .i64 a, .int .i64 m] Try.underlying49 hsz hg1 (by simp only [Nat.min_def]; split <;> simp <;> omega)
      (hnews _ hb1) (by simp; omega) (by simp [Value.oneCell'])
  have hc63 : cap ≤ 9223372036854775807 := by unfold maxLen at hcm; omega
  have hz2 : ¬ ((i : Int) = (n : Int)) := by omega
  have hw1 : IntKind.i64.wrap ((i : Int) + 1) = (i : Int) + 1 := by rw [IntKind.wrap_i64]; omega
  have hw2 : IntKind.i64.wrap ((n : Int) + 1) = (n : Int) + 1 := by rw [IntKind.wrap_i64]; omega
  have htn : ((i : Int) + 1).toNat = i + 1 := by omega
  have hb2 : ¬ (cap = i + 1) := by omega
  have hc1 : (0 : Int) ≤ (i : Int) + 1 := by omega
  have hb3 : i ≤ n := by omega
  have hb5 : i ≤ n + 1 := by omega
  have hb6 : (i : Int) ≤ (n : Int) + 1 := by omega
  have hb4 : ¬ (cap = i) := by omega
  clear hb1
  have HCS := Lib.hid hcs
  have HG := Lib.hid (And.intro hg hx); have HH := Lib.hid hR1; have HX := Lib.hid (And.intro hg1 hR1s); have H1 := Lib.hid h1; have HXL := Lib.hid hxl
  clear hg hx hR1 hcells hg1 hR1s hnews hi hz1 hz0 hb h1 hdl hxl hcs
  go_enter Try.func83, Try.ntmps83
  go_wp2_with (simp only [hov])
  go_region_law (refine step_copy_runI rfl _ _ 49 49 rfl _ _ (by simp [Act.eval, Act.put]) (by simp [Act.eval, Act.put]) (hcp1 _ _ _) ?_)
  go_wp2_with (at_builtin; refine wpList_copy_runI _ rfl _ _ 49 49 rfl _ _ rfl rfl (hcp2 _ _) ?_)
  go_ret
  refine ⟨rfl, ⟨by have := HXL.out; simp; omega, .inr ⟨g, cap, _, rfl, hbg, setRow_heap _ _ _ _ _ _ HX.out.1, hroom, hcm, by have := HX.out.2; simp; omega, ?_⟩⟩, (((Only.refl (fun y => y = g) w).drew).setRow rfl _).setRow rfl _⟩
  have hR := congrArg Array.toList HH.out
  have hfin := shift_list cur.toList xs i n (Value.int .i64 a) (Value.int .i64 m) HG.out.2 HXL.out hin (by have := HX.out.2; have := HCS.out; simp; omega) R1.toList (by simpa using hR)
  rw [← hfin]
  simp
theorem Only.toAdds {w w' : World} (h : Only (fun y => y = w.heap.size) w w') : Adds w w' := h.mono (fun k hk e => absurd hk (by omega))
set_option maxRecDepth 100000 in
set_option maxHeartbeats 4000000 in
/-- Ahead of the end, where there is no room: a new row. -/
theorem insert_grow (base g n i : Nat) (xs : List Value) (a m : Int) (b : Nat) (w : World) (hown : w.ownsRow base 63 2 (.slice (some ⟨g, 0, none⟩) n n) n xs) (h1 : ∀ v ∈ xs, v.oneCell' = true)
    (hin : i < n) (hbig : n < 1000000) (hbase : base ≤ w.heap.size) (hb : Blk w b #[.int .i64 a, .int .i64 m] 63) :
    Calls Try.prog 83 #[.slice (some ⟨g, 0, none⟩) n n, .int .i64 i, .slice (some ⟨b, 0, none⟩) 1 1] w fun e w' => ∃ cap, e = .returned (.slice (some ⟨w.heap.size, 0, none⟩) (n + 1) cap) ∧
      w'.ownsRow base 63 2 (.slice (some ⟨w.heap.size, 0, none⟩) (n + 1) cap) (n + 1) (xs.take (i * 2) ++ [.int .i64 a, .int .i64 m] ++ xs.drop (i * 2)) ∧ Adds w w' := by
  obtain ⟨hxl, ⟨h0, _⟩ | ⟨g', cap', cur, h0, hbg, hg, hnc, hcm, hcs, hx⟩⟩ := hown
  · cases h0
  cases h0
  obtain ⟨i0, hi, hz0, hz1, hz2⟩ := info_parts infoRunI
  have hbl := hb.lt
  have hgl : g < w.heap.size := (Array.getElem?_eq_some_iff.1 hg).1
  have hnews : ∀ W : World, W.heap[b]? = w.heap[b]? → ∀ j u, [Value.int .i64 a, Value.int .i64 m][j]? = some u → W.cell? ((⟨b, 0, none⟩ : Addr).add j) = some u := by
    intro W hW j u hj
    have hb : Blk W b #[.int .i64 a, .int .i64 m] 63 := hW.trans hb
    match j, hj with
    | 0, hj => simp at hj; subst hj; simpa [Addr.add] using hb.cell 0
    | 1, hj => simp at hj; subst hj; simpa [Addr.add] using hb.cell 1
  have hsz : (Try.prog.info? 63).map (·.size) = some 2 := by rw [hi]; simp [hz1]
  have hdl : (xs.drop (i * 2)).length = (n - i) * 2 := by rw [List.length_drop, hxl]; omega
  have hcells : ∀ W : World, W.heap[g]? = w.heap[g]? → ∀ j v, xs[j]? = some v → W.cell? ⟨g, j, none⟩ = some v := fun W hW j v hj => by
    rw [← hx, List.getElem?_take] at hj
    split at hj
    · simpa [World.cell?, hW, hg] using hj
    · cases hj
  have hold : (Builtin.firstCells i0.size i (.slice (some ⟨g, 0, none⟩) i n)).run Try.prog w.drew = .ok (xs.take (i * 2)).toArray w.drew := by
    rw [hz1]
    exact run_firstCells_some w.drew 2 i ⟨g, 0, none⟩ i n (xs.take (i * 2)) (by rw [List.length_take]; omega) (fun j v hj => by
      rw [Addr.add_lit, Nat.zero_add]
      rw [List.getElem?_take] at hj
      split at hj
      · exact hcells w.drew rfl j v hj
      · cases hj)
  have hik : i + (n + 1 - i) = n + 1 := by omega
  have hkk : (n : Int) + 1 - (i : Int) = ((n + 1 - i : Nat) : Int) := by omega
  have hrz : ∀ ty, (Builtin.append_ #[49, 3] ty #[.slice (some ⟨g, 0, none⟩) i n, .int .i64 ((n : Int) + 1 - (i : Int))]).run Try.prog w =
      .ok (.slice (some ⟨w.heap.size, 0, none⟩) (n + 1) (grownCap w (n + 1) n 63)) (w.drew.alloc (.cells ((xs.take (i * 2)).toArray ++ Builtin.zeroCells (Value.agg #[.int .i64 0, .int .i64 0]).cells (n + 1 - i) ++ Builtin.zeroCells (Value.agg #[.int .i64 0, .int .i64 0]).cells (grownCap w (n + 1) n 63 - (n + 1))) 63)) := fun ty => by
    have h := Lib.run_append_grow_zeros w 49 3 ty 63 i0 _ .i64 .i64 Try.underlying49 Try.underlying3 hi hz0 (some ⟨g, 0, none⟩) i n (xs.take (i * 2)) hold (n + 1 - i) (by omega) (by omega) (by omega) (by omega) (by rw [hz2]; omega) (by rw [hz2, hik]; exact growslice_fits (by omega) (by omega))
    rw [hik] at h
    rw [hkk]
    exact h
  have hGn : n + 1 ≤ grownCap w (n + 1) n 63 := grownCap_ge w _ _ _
  have hGm : grownCap w (n + 1) n 63 ≤ maxLen := grownCap_le_maxLen w (n + 1) n 63 (by unfold maxLen; omega)
  obtain ⟨G, hG⟩ : ∃ G, G = grownCap w (n + 1) n 63 := ⟨_, rfl⟩
  rw [← hG] at hrz hGn hGm
  clear hG
  obtain ⟨Z, hZ⟩ : ∃ Z : List Value, (xs.take (i * 2)).toArray ++ Builtin.zeroCells (Value.agg #[.int .i64 0, .int .i64 0]).cells (n + 1 - i) ++ Builtin.zeroCells (Value.agg #[.int .i64 0, .int .i64 0]).cells (G - (n + 1)) = (xs.take (i * 2) ++ Z).toArray ∧ (xs.take (i * 2) ++ Z).length = G * 2 :=
    ⟨(Builtin.zeroCells (Value.agg #[.int .i64 0, .int .i64 0]).cells (n + 1 - i) ++ Builtin.zeroCells (Value.agg #[.int .i64 0, .int .i64 0]).cells (G - (n + 1))).toList, by simp, by simp [Builtin.zeroCells, Value.cells]; omega⟩
  obtain ⟨hZ, hZl⟩ := hZ
  obtain ⟨ROW, hROW⟩ : ∃ ROW, ROW = (xs.take (i * 2) ++ Z).toArray := ⟨_, rfl⟩
  rw [hZ, ← hROW] at hrz
  have hRs : ROW.size = G * 2 := by rw [hROW]; simpa using hZl
  obtain ⟨R1, hR1⟩ : ∃ R1, R1 = (ROW.toList.take (i * 2) ++ [Value.int .i64 a, Value.int .i64 m] ++ ROW.toList.drop (i * 2 + 2)).toArray := ⟨_, rfl⟩
  have hR1s : R1.size = G * 2 := by rw [hR1]; simp; omega
  obtain ⟨R2, hR2⟩ : ∃ R2, R2 = (R1.toList.take ((i + 1) * 2) ++ xs.drop (i * 2) ++ R1.toList.drop ((i + 1) * 2 + (xs.drop (i * 2)).length)).toArray := ⟨_, rfl⟩
  have hR2s : R2.size = G * 2 := by rw [hR2]; simp; omega
  have hfin : R2.toList.take ((n + 1) * 2) = xs.take (i * 2) ++ [Value.int .i64 a, Value.int .i64 m] ++ xs.drop (i * 2) :=
    grow_list xs Z i n _ _ hxl hin R1.toList R2.toList (by rw [hR1, hROW]) (by rw [hR2])
  have hcpA : ∀ (W : World), W.heap[w.heap.size]? = some (.cells ROW 63 (0, 0)) → W.heap[b]? = w.heap[b]? → ∀ ty dc, (Builtin.copy_ #[49, 49] ty #[.slice (some ⟨w.heap.size, i * 2, none⟩) (n + 1 - i) dc, .slice (some ⟨b, 0, none⟩) 1 1]).run Try.prog W = .ok (goInt (Nat.min 1 (n + 1 - i))) (W.setRow w.heap.size R1) := fun W hW hWb ty dc => by
    rw [hR1]
    exact run_copy_row2 W _ _ ty 63 w.heap.size (i * 2) (n + 1 - i) dc ⟨b, 0, none⟩ 1 1 ROW 63 [.int .i64 a, .int .i64 m] Try.underlying49 hsz hW (by simp only [Nat.min_def]; split <;> simp <;> omega)
      (hnews _ hWb) (by simp; omega) (by simp [Value.oneCell'])
  have hcpB : ∀ (W : World), W.heap[w.heap.size]? = some (.cells R1 63 (0, 0)) → W.heap[g]? = w.heap[g]? → ∀ ty dc sc, (Builtin.copy_ #[49, 49] ty #[.slice (some ⟨w.heap.size, (i + 1) * 2, none⟩) (n - i) dc, .slice (some ⟨g, i * 2, none⟩) (n - i) sc]).run Try.prog W = .ok (goInt (Nat.min (n - i) (n - i))) (W.setRow w.heap.size R2) := fun W hW hWg ty dc sc => by
    rw [hR2]
    exact run_copy_row2 W _ _ ty 63 w.heap.size ((i + 1) * 2) (n - i) dc ⟨g, i * 2, none⟩ (n - i) sc R1 63 (xs.drop (i * 2)) Try.underlying49 hsz hW (by rw [hdl]; simp only [Nat.min_def]; split <;> omega)
      (fun j v hj => by rw [Addr.add_lit]; exact hcells W hWg _ v (by rwa [List.getElem?_drop] at hj)) (by rw [hdl]; omega) (fun v hv => h1 v (List.mem_of_mem_drop hv))
  have hN1 : (w.alloc (.cells ROW 63)).heap[w.heap.size]? = some (.cells ROW 63 (0, 0)) := heap_alloc_new w _
  have hN2 : (w.alloc (.cells ROW 63)).heap[b]? = w.heap[b]? := Below.heap_alloc w _ b hbl
  have hN3 : ((w.alloc (.cells ROW 63)).setRow w.heap.size R1).heap[w.heap.size]? = some (.cells R1 63 (0, 0)) := setRow_heap _ _ ROW R1 _ _ hN1
  have hN4 : ((w.alloc (.cells ROW 63)).setRow w.heap.size R1).heap[g]? = w.heap[g]? := (setRow_other _ _ g R1 (by omega)).trans (Below.heap_alloc w _ g hgl)
  have H1 := Lib.hid (And.intro hN1 hN2); have H3 := Lib.hid (And.intro hN3 hN4); have HF := Lib.hid (And.intro hfin hR2s); have HXL := Lib.hid hxl
  have hG63 : G ≤ 9223372036854775807 := by unfold maxLen at hGm; omega
  have hGi : ¬ (G = i) := by omega
  have hGim : ¬ (G = i + 1) := by omega
  have hci : ¬ (n = i) := by omega
  have hz2' : ¬ ((i : Int) = (n : Int)) := by omega
  have hw1 : IntKind.i64.wrap ((i : Int) + 1) = (i : Int) + 1 := by rw [IntKind.wrap_i64]; omega
  have hc1 : (0 : Int) ≤ (i : Int) + 1 := by omega
  have htn : ((i : Int) + 1).toNat = i + 1 := by omega
  have hb3 : i ≤ n := by omega
  have hb5 : i ≤ n + 1 := by omega
  have hb6 : (i : Int) ≤ (n : Int) + 1 := by omega
  have HA := Lib.hid hcpA; have HB := Lib.hid hcpB; have HGM := Lib.hid hGm
  clear hcpA hcpB hN1 hN2 hN3 hN4 hfin hR2s hR2 hR1 hR1s hROW hRs hZ hZl hold hcells hdl hnews hb h1 hg hx hxl hcs hi hz0 hz1 hz2 hkk hik hGm
  go_enter Try.func83, Try.ntmps83
  go_upto_region 10 with (at_builtin; refine Lib.wpList_append_run _ rfl _ _ _ _ rfl _ _ rfl rfl _ _ (hrz _) ?_)
  have hA' := HA.out ((w.alloc (.cells ROW 63)).drew) H1.out.1 H1.out.2
  go_wp2_with (simp only [hA'])
  have hB' := HB.out ((((w.alloc (.cells ROW 63)).drew).setRow w.heap.size R1).drew) H3.out.1 H3.out.2
  go_region
  all_goals (
    go_wp2
    go_ret
    exact ⟨G, rfl, ⟨by have := HXL.out; simp; omega, .inr ⟨w.heap.size, G, R2, rfl, hbase, setRow_heap _ _ _ _ _ _ (by exact H3.out.1), hGn, HGM.out, HF.out.2, HF.out.1⟩⟩, Only.toAdds (((Only.refl (fun y => y = w.heap.size) w).alloc _).drew.setRow rfl _ |>.drew.setRow rfl _)⟩)

/-- slices.Insert of one run, at any place. -/
theorem insert_any (base : Nat) (v : Value) (n i : Nat) (xs : List Value) (a m : Int) (b : Nat) (w : World) (hown : w.ownsRow base 63 2 v n xs) (h1 : ∀ u ∈ xs, u.oneCell' = true)
    (hin : i ≤ n) (hbig : n < 1000000) (hbase : base ≤ w.heap.size) (hb : Blk w b #[.int .i64 a, .int .i64 m] 63) (hne : some b ≠ v.ownBlock) :
    Calls Try.prog 83 #[v, .int .i64 i, .slice (some ⟨b, 0, none⟩) 1 1] w fun e w' => ∃ v', e = .returned v' ∧
      w'.ownsRow base 63 2 v' (n + 1) (xs.take (i * 2) ++ [.int .i64 a, .int .i64 m] ++ xs.drop (i * 2)) ∧ Only (fun y => some y = v.ownBlock) w w' ∧ (v'.ownBlock = v.ownBlock ∨ v'.ownBlock = some w.heap.size) := by
  rcases Nat.lt_or_eq_of_le hin with hlt | rfl
  · have hown' := hown
    obtain ⟨hxl, ⟨rfl, h0⟩ | ⟨g, cap, cur, rfl, hbg, hg, hnc, hcm, hcs, hx⟩⟩ := hown
    · omega
    · rcases Nat.lt_or_eq_of_le hnc with hc | rfl
      · refine (insert_shift base g cap n i xs a m b w hown' h1 hlt (by omega) hb (fun e => hne (by simp [Value.ownBlock, e]))).mono ?_
        rintro e w' ⟨rfl, h2, h3⟩
        exact ⟨_, rfl, h2, h3.mono (fun k _ hk => by simp [Value.ownBlock, hk]), .inl rfl⟩
      · refine (insert_grow base g n i xs a m b w hown' h1 hlt hbig hbase hb).mono ?_
        rintro e w' ⟨c, rfl, h2, h3⟩
        exact ⟨_, rfl, h2, h3.mono (fun _ _ h => h.elim), .inr rfl⟩
  · have hxl : xs.length = i * 2 := hown.1
    refine (insert_end base v i xs a m b w hown hbase hb hbig).mono ?_
    rintro e w' ⟨v', rfl, h2, h3, h4⟩
    refine ⟨v', rfl, ?_, h3, h4⟩
    rw [List.take_of_length_le (by omega), List.drop_of_length_le (by omega), List.append_nil]
    exact h2
end Go.Proofs.Ytbijbpnhakbeeaa

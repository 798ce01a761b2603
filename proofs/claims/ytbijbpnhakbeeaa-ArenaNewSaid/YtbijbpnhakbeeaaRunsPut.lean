/- Package runs: put, at whatever state. By an AI agent. -/
import Derived.Test.YtbijbpnhakbeeaaRunsSt
import Derived.Test.YtbijbpnhakbeeaaHeldU
import Derived.Deep.DeepCutAuto
import Derived.Deep.CutBlock
import Derived.Deep.RegionHeld3
import Derived.Deep.WholeRow
import Derived.Deep.OwnRows
namespace Go.Proofs.Ytbijbpnhakbeeaa
open Go.RowKit

/-- What a call leaves: it has turned blocks of its own alone; its blocks are the old ones, or new. -/
structure Moves (s s' : RS) (w w' : World) : Prop where
  only : Only s.own w w'
  own : ∀ y, s'.own y → s.own y ∨ w.heap.size ≤ y
  rb : s'.rb = s.rb
  P : s'.P = s.P
  dv : s'.dv = s.dv
  ds : s'.ds = s.ds
theorem Moves.refl (s : RS) {w w' : World} (h : Adds w w') : Moves s s w w' := ⟨h.mono (fun _ _ h => h.elim), fun _ h => .inl h, rfl, rfl, rfl, rfl⟩
theorem Moves.trans {a b c : RS} {u v w : World} (h : Moves a b u v) (k : Moves b c v w) : Moves a c u w :=
  ⟨h.only.andThen k.only (fun i hi hb => (h.own i hb).elim id (fun h2 => absurd hi (Nat.not_lt.2 h2))),
   fun y hy => (k.own y hy).elim (h.own y) (fun h2 => .inr (Nat.le_trans h.only.size h2)), k.rb.trans h.rb, k.P.trans h.P, k.dv.trans h.dv, k.ds.trans h.ds⟩
theorem Moves.all {a b : RS} {u v : World} (h : Moves a b u v) : ∀ y, b.all y → a.all y ∨ u.heap.size ≤ y := fun y hy => by
  rcases hy with hy | hy
  · exact (h.own y hy).imp .inl id
  · exact .inl (.inr (by rw [← h.dv]; exact hy))
/-- Draws and new blocks ahead, behind. -/
theorem Moves.ahead {a b : RS} {u v w : World} (h : Adds u v) (k : Moves a b v w) : Moves a b u w := Moves.trans (Moves.refl a h) k
theorem Moves.behind {a b : RS} {u v w : World} (h : Moves a b u v) (k : Adds v w) : Moves a b u w := Moves.trans h (Moves.refl b k)

/-- The state with a run put. -/
def RS.put (s : RS) (x : Int × Int) (nb : Nat) (lv : Value) : RS := { s with dn := s.dn + 1, t := Tr.put nb (kOf x) s.draw (vOf x) s.t, lv := lv, xs := insL x s.xs }
theorem RS.Ok.key_inj {s : RS} (h : s.Ok) {x y : Int × Int} (hx : 0 ≤ x.1 ∧ 1 ≤ x.2 ∧ x.1 + x.2 ≤ s.P) (hy : 0 ≤ y.1 ∧ 1 ≤ y.2 ∧ y.1 + y.2 ≤ s.P) (he : kOf x = kOf y) : x = y := by
  have := h.P2
  unfold kOf at he
  exact Prod.ext (by omega) (by omega)
theorem RS.Ok.find_free {s : RS} (h : s.Ok) {x : Int × Int} (hx : 0 ≤ x.1 ∧ 1 ≤ x.2 ∧ x.1 + x.2 ≤ s.P) (hf : Free x s.xs) : Tr.find (kOf x) s.t = .nil := by
  rw [Tr.find_none_iff h.tree.bst]
  intro e he hk
  obtain ⟨y, hy, hky, _⟩ := h.mem e he
  obtain rfl := h.key_inj hx (h.list.bd y hy) (hk.symm.trans hky)
  have := hf x hy
  omega
theorem RS.Ok.put {s : RS} (h : s.Ok) {x : Int × Int} (hx : 0 ≤ x.1 ∧ 1 ≤ x.2 ∧ x.1 + x.2 ≤ s.P) (hf : Free x s.xs) {nb : Nat} (hnb : ¬ s.t.has nb) (lv : Value) : (s.put x nb lv).Ok where
  P1 := h.P1
  P2 := h.P2
  list := insL_ok h.list hx hf
  tree := Tr.ok_put h.tree nb _ _ _ hnb (h.find_free hx hf)
  size := by
    show (Tr.put nb (kOf x) s.draw (vOf x) s.t).size = (insL x s.xs).length
    rw [Tr.put_size, insL_length, h.size]
  mem := fun e he => by
    rcases (Tr.put_mem ..).1 he with rfl | he
    · exact ⟨x, mem_insL.2 (.inl rfl), rfl, rfl⟩
    · obtain ⟨y, hy, h1⟩ := h.mem e he
      exact ⟨y, mem_insL.2 (.inr hy), h1⟩
  have_ := fun y hy => by
    rcases mem_insL.1 hy with rfl | hy
    · exact ⟨_, (Tr.put_mem ..).2 (.inl rfl), rfl⟩
    · obtain ⟨e, he, h1⟩ := h.have_ y hy
      exact ⟨e, (Tr.put_mem ..).2 (.inr he), h1⟩
theorem row_u32 {w : World} {v : Value} {n : Nat} {ds : List Int} (h : w.ownsRow 0 113 1 v n (ds.map (.int .u32))) : n = ds.length ∧ ∀ i, i < n → ∃ g cap, v = .slice (some ⟨g, 0, none⟩) n cap ∧ w.cell? ⟨g, i, none⟩ = some (.int .u32 (ds[i]?.getD 0)) := by
  have hl := h.1
  simp at hl
  refine ⟨hl.symm, fun i hi => ?_⟩
  rcases h.2 with ⟨_, h0⟩ | ⟨g, cap, cur, hv, _, hg, _, _, _, hx⟩
  · omega
  · refine ⟨g, cap, hv, ?_⟩
    have h1 : (cur.toList.take (n * 1))[i]? = some (.int .u32 (ds[i]?.getD 0)) := by
      rw [hx, List.getElem?_map, List.getElem?_eq_getElem (by omega)]
      simp
    rw [List.getElem?_take, if_pos (by omega)] at h1
    simpa [World.cell?, hg] using h1
theorem tb_not_row {T H : TypeId} {w : World} {tb : Nat} {t : Tr} {m : Int} (h : IsTreap2 T H w tb t m) {e : TypeId} (h1 : H ≠ e) (h2 : T ≠ e) {base size k : Nat} {v : Value} {xs : List Value} (hr : w.ownsRow base e size v k xs) : ∀ y, TB tb t y → some y ≠ v.ownBlock := by
  rintro y (rfl | hy)
  · exact blk_not_row h.head h1 hr
  · obtain ⟨c, hc⟩ := tr_blk h.tr y hy
    exact blk_not_row hc h2 hr
theorem IsRuns.setDn {w : World} {s : RS} (h : IsRuns w s) (n : Nat) : IsRuns (w.setCell ⟨s.rb, 2, none⟩ (.int .i64 n)) { s with dn := n } := by
  have ho : Only (· = s.rb) w (w.setCell ⟨s.rb, 2, none⟩ (.int .i64 n)) := (Only.refl (· = s.rb) w).setCell (p := ⟨s.rb, 2, none⟩) (.inl rfl) _
  have hn : ¬ TB s.tb s.t s.rb := fun h' => h'.elim h.nrt h.nrh
  exact ⟨h.blk.setCell 2 _, row_only2 h.drs ho (fun g e e2 => blk_not_row h.blk (by decide) h.drs (e2 ▸ e)), h.tree.only ho (fun e => h.nrt e.symm) (fun y hy e => h.nrh (e ▸ hy)),
    row_only2 h.row ho (fun g e e2 => blk_not_row h.blk (by decide) h.row (e2 ▸ e)), h.nrt, h.nrh, ⟨h.ok.P1, h.ok.P2, h.ok.list, h.ok.tree, h.ok.size, h.ok.mem, h.ok.have_⟩⟩
theorem RS.put_is {W7 : World} {s : RS} {x : Int × Int} {nb : Nat} {lv' : Value} (hB : Blk W7 s.rb #[.int .i64 s.P, s.dv, .int .i64 ((s.dn + 1 : Nat) : Int), .pointer (some ⟨s.tb, 0, none⟩), lv', .int .i64 (tot s.xs)] 98)
    (hD : W7.ownsRow 0 113 1 s.dv s.ds.length (s.ds.map (.int .u32))) (hT : IsTreap2 125 122 W7 s.tb (Tr.put nb (kOf x) s.draw (vOf x) s.t) ((Tr.put nb (kOf x) s.draw (vOf x) s.t).size : Nat))
    (hL : W7.ownsRow 0 63 2 lv' (s.xs.length + 1) (shCells (insL x s.xs))) (h : s.Ok) (nrt : s.rb ≠ s.tb) (nrh : ¬ s.t.has s.rb) (hnr : nb ≠ s.rb) (hx : 0 ≤ x.1 ∧ 1 ≤ x.2 ∧ x.1 + x.2 ≤ s.P) (hf : Free x s.xs) (hnb : ¬ s.t.has nb) :
    IsRuns (W7.setCell ⟨s.rb, 5, none⟩ (.int .i64 (tot s.xs + x.2))) (s.put x nb lv') := by
  have ho : Only (· = s.rb) W7 (W7.setCell ⟨s.rb, 5, none⟩ (.int .i64 (tot s.xs + x.2))) := (Only.refl (· = s.rb) W7).setCell (p := ⟨s.rb, 5, none⟩) (.inl rfl) _
  have hn : ∀ y, TB s.tb (Tr.put nb (kOf x) s.draw (vOf x) s.t) y → ¬ y = s.rb := by
    rintro y (rfl | hy) e
    · exact nrt e.symm
    · exact ((Tr.put_has ..).1 hy).elim (fun e2 => hnr (e2.symm.trans e)) (fun h2 => nrh (e ▸ h2))
  refine ⟨?_, row_only2 hD ho (fun g e e2 => blk_not_row hB (by decide) hD (e2 ▸ e)), hT.only ho (hn _ (.inl rfl)) (fun y hy => hn y (.inr hy)), ?_, nrt, fun hh => hn _ (.inr hh) rfl, h.put hx hf hnb lv'⟩
  · show Blk _ s.rb #[.int .i64 s.P, s.dv, .int .i64 ((s.dn + 1 : Nat) : Int), .pointer (some ⟨s.tb, 0, none⟩), lv', .int .i64 (tot (insL x s.xs))] _
    rw [insL_tot]
    exact hB.setCell 5 _
  · show World.ownsRow _ _ _ _ lv' (insL x s.xs).length _
    rw [insL_length]
    exact row_only2 hL ho (fun g e e2 => blk_not_row hB (by decide) hL (e2 ▸ e))
theorem RS.put_own {s : RS} {x : Int × Int} {nb n0 n5 : Nat} {lv' : Value} (hob : lv'.ownBlock = s.lv.ownBlock ∨ lv'.ownBlock = some n5) (hnb : n0 ≤ nb) (hn5 : n0 ≤ n5) : ∀ y, (s.put x nb lv').own y → s.own y ∨ n0 ≤ y := by
  rintro y (rfl | (rfl | hy) | hy)
  · exact .inl (.inl rfl)
  · exact .inl (.inr (.inl (.inl rfl)))
  · rcases (Tr.put_has ..).1 hy with rfl | hy
    · exact .inr hnb
    · exact .inl (.inr (.inl (.inr hy)))
  · replace hy : some y = lv'.ownBlock := hy
    rcases hob with e | e
    · exact .inl (.inr (.inr (hy.trans e)))
    · rw [e] at hy; cases hy; exact .inr hn5
set_option maxHeartbeats 400000 in
theorem runsKey_any (a n : Int) (w : World) (h0 : 0 ≤ a) (h1 : a < 1000000) (h2 : 0 ≤ n) (h3 : n < 1000000) :
    Calls Try.prog 79 #[.agg #[.int .i64 a, .int .i64 n]] w fun e w' => e = .returned (.int .i64 (8192 * n + a)) ∧ Adds w w' := by
  go_enter Try.func79, Try.ntmps79
  go_wp2
  go_ret
  exact ⟨rfl, (Only.refl _ _).alloc _⟩
theorem cell_al {w w' : World} {b j : Nat} {v : Value} (h : w.cell? ⟨b, j, none⟩ = some v) (ho : Adds w w') : w'.cell? ⟨b, j, none⟩ = some v := (ho.cellF (p := ⟨b, j, none⟩) (cell_lt h) id).trans h
set_option maxRecDepth 100000 in
set_option maxHeartbeats 8000000 in
theorem put_any {w0 : World} {s : RS} (h0 : IsRuns w0 s) (x : Int × Int) (hx : 0 ≤ x.1 ∧ 1 ≤ x.2 ∧ x.1 + x.2 ≤ s.P) (hf : Free x s.xs) (hdn : s.dn < 1000000) :
    Calls Try.prog 60 #[.pointer (some ⟨s.rb, 0, none⟩), .agg #[.int .i64 x.1, .int .i64 x.2]] w0 fun e w' => (∃ v, e = .returned v) ∧ ∃ nb lv, IsRuns w' (s.put x nb lv) ∧ Moves s (s.put x nb lv) w0 w' := by
  obtain ⟨B, hB⟩ : ∃ B, w0.heap.size = B := ⟨_, rfl⟩
  obtain ⟨W, hW⟩ : ∃ W, w0.alloc (.cells #[.int .i64 x.1, .int .i64 x.2] 63) = W := ⟨_, rfl⟩
  have hbx : Blk W B #[.int .i64 x.1, .int .i64 x.2] 63 := by rw [← hW, ← hB]; exact Blk.new w0 _ _
  have hO0 : Adds w0 W := by rw [← hW]; exact (Only.refl _ w0).alloc _
  have h := h0.adds hO0
  have hB0 : ¬ s.all B := fun hh => Nat.lt_irrefl _ (Nat.lt_of_lt_of_eq (h0.lt _ hh) hB)
  have hok := h.ok
  have hP2 := hok.P2
  have hfind := hok.find_free hx hf
  have htot := tot_le (a := 0) hok.list (by have := hok.P1; omega) (by have := hok.P1; omega) (fun y hy => (hok.list.bd y hy).1)
  have htot0 := tot_nonneg hok.list
  have hsz : s.t.size < 1000000 := by have := hok.size; have := hok.list.len (by have := hok.P1; omega); omega
  obtain ⟨c0, c1, c2, c3, c4, c5⟩ := h.cells
  have f2 := h.blk.frozen 2
  have x0 : W.cell? ⟨B, 0, none⟩ = some (.int .i64 x.1) := hbx.cell 0
  have x1 : W.cell? ⟨B, 1, none⟩ = some (.int .i64 x.2) := hbx.cell 1
  have hru := row_u32 h.drs
  obtain ⟨da, dl, dc, hdv⟩ := ownsRow_slice h.drs
  have hdl : dl = s.ds.length := by
    rcases row_shape h.drs with ⟨e, e2⟩ | ⟨g, cap, e⟩
    · rw [hdv] at e; cases e; exact e2.symm
    · rw [hdv] at e; cases e; rfl
  obtain ⟨DR, hDR⟩ : ∃ DR, DR = s.draw := ⟨_, rfl⟩
  have hdraw : DR = if s.dn < dl then s.ds[s.dn]?.getD 0 else 0 := by
    rw [hDR, RS.draw]
    split
    · rfl
    · rw [List.getElem?_eq_none (by omega)]; rfl
  have H := Lib.hid h; have HO := Lib.hid hO0; have HBX := Lib.hid hbx; have HF := Lib.hid hfind; have HOK := Lib.hid hok; have HFR := Lib.hid hf; have HB0 := Lib.hid hB0
  have HT := Lib.hid (And.intro htot htot0)
  have hbne : s.rb ≠ B := fun e => hB0 (.inl (.inl e.symm))
  have hbtb : s.tb ≠ B := fun e => hB0 (.inl (.inr (.inl (.inl e.symm))))
  rw [hdv] at c1
  have HDR := Lib.hid hDR
  have hdc : s.dn < dl → ∃ g, da = some ⟨g, 0, none⟩ ∧ W.cell? ⟨g, s.dn, none⟩ = some (.int .u32 DR) := fun hlt => by
    obtain ⟨g, cap, e, hc⟩ := hru.2 s.dn (by omega)
    rw [hdv] at e; cases e
    exact ⟨g, rfl, by rw [hdraw, if_pos hlt]; exact hc⟩
  have HDC := Lib.hid hdc
  have HDW := Lib.hid hdraw
  clear h h0 hbx hfind hok hf hB0 hO0 htot htot0 hru hdv hDR hdc hdraw
  have hw1 : IntKind.i64.wrap ((s.dn : Int) + 1) = ((s.dn + 1 : Nat) : Int) := by rw [IntKind.wrap_i64]; omega
  go_enter Try.func60, Try.ntmps60
  go_wp2_with fail
  clear hW hB
  go_quiet ((fail))
  rename_i hK2
  refine hK2 _ _ ?_
  clear hK2
  go_cut [4] (fun v4 wx => v4 = .int .u32 DR ∧ ∃ n, wx = W.drewN n)
  case first =>
    by_cases hlt : s.dn < dl
    · obtain ⟨g, rfl, hcd⟩ := HDC.out hlt
      go_wp2_with fail
      go_quiet ((fail))
      go_wp2_with fail
      go_meet
      exact ⟨rfl, _, World.drewN_drewN ..⟩
    · have hdr := HDW.out
      rw [if_neg hlt] at hdr
      go_wp2_with fail
      go_meet
      exact ⟨by rw [hdr], _, rfl⟩
  case rest =>
    obtain ⟨rfl, n1, rfl⟩ := hcut
    go_upto_region 5 with fail
    have hI2 : IsRuns ((W.drewN n1).setCell ⟨s.rb, 2, none⟩ (.int .i64 ((s.dn : Int) + 1))) { s with dn := s.dn + 1 } := (H.out.adds ((Only.refl _ W).drewN n1)).setDn (s.dn + 1)
    have hO2 : Only (· = s.rb) W ((W.drewN n1).setCell ⟨s.rb, 2, none⟩ (.int .i64 ((s.dn : Int) + 1))) := ((Only.refl (· = s.rb) W).drewN n1).setCell (p := ⟨s.rb, 2, none⟩) (.inl rfl) _
    have hBX2 := HBX.out.only hO2 (fun e => hbne e.symm)
    generalize (W.drewN n1).setCell ⟨s.rb, 2, none⟩ (.int .i64 ((s.dn : Int) + 1)) = W2 at *
    have c3 := hI2.blk.cell 3; have x0 := hBX2.cell 0; have x1 := hBX2.cell 1
    have H2 := Lib.hid hI2; have HBX2 := Lib.hid hBX2; have HO2 := Lib.hid hO2
    clear hI2 hBX2 hO2 c0 c1 c2 c4 c5 f2 hw1
    dsimp only at c3
    replace x0 : W2.cell? ⟨B, 0, none⟩ = some (.int .i64 x.1) := x0
    replace x1 : W2.cell? ⟨B, 1, none⟩ = some (.int .i64 x.2) := x1

    refine wp_region_held_drew (S := (fun W' => W'.cell? ⟨s.rb, 3, none⟩ = some (.pointer (some ⟨s.tb, 0, none⟩)) ∧ W'.cell? ⟨B, 0, none⟩ = some (.int .i64 x.1) ∧ W'.cell? ⟨B, 1, none⟩ = some (.int .i64 x.2))) (by kernel_rfl) ⟨c3, x0, x1⟩ (fun hHeld => ?_)
    refine wpAnyH_take (i := 0) (v := (.pointer (some ⟨s.rb, 0, none⟩))) rfl (by kernel_rfl) (by kernel_rfl) (by kernel_rfl) (fun _ _ _ h => h) (Or.inl ⟨by rfl, fun W hS => by first | rfl | (go_simp; done)⟩) hHeld ?_
    try simp only [Act.put, List.getElem_toArray, List.getElem_cons_succ, List.getElem_cons_zero, List.setIfInBounds_toArray, List.set_cons_zero, List.set_cons_succ]
    refine wpAnyH_take (i := 1) (v := (.pointer (some ⟨s.rb, 0, none⟩))) rfl (by kernel_rfl) (by kernel_rfl) (by kernel_rfl) (fun _ _ _ h => h) (Or.inl ⟨by rfl, fun W hS => by first | rfl | (go_simp; done)⟩) hHeld ?_
    try simp only [Act.put, List.getElem_toArray, List.getElem_cons_succ, List.getElem_cons_zero, List.setIfInBounds_toArray, List.set_cons_zero, List.set_cons_succ]
    refine wpAnyH_take (i := 2) (v := (.pointer (some ⟨s.rb, 3, none⟩))) rfl (by kernel_rfl) (by kernel_rfl) (by kernel_rfl) (fun _ _ _ h => h) (Or.inl ⟨by rfl, fun W hS => by first | rfl | (go_simp; done)⟩) hHeld ?_
    try simp only [Act.put, List.getElem_toArray, List.getElem_cons_succ, List.getElem_cons_zero, List.setIfInBounds_toArray, List.set_cons_zero, List.set_cons_succ]
    refine wpAnyH_take (i := 3) (v := (.pointer (some ⟨s.tb, 0, none⟩))) rfl (by kernel_rfl) (by kernel_rfl) (by kernel_rfl) (fun _ _ _ h => h) (Or.inl ⟨by rfl, fun W hS => by (obtain ⟨q1, q2, q3⟩ := hS; go_simp; done)⟩) hHeld ?_
    try simp only [Act.put, List.getElem_toArray, List.getElem_cons_succ, List.getElem_cons_zero, List.setIfInBounds_toArray, List.set_cons_zero, List.set_cons_succ]
    refine wpAnyH_take (i := 4) (v := (.agg #[.int .i64 x.1, .int .i64 x.2])) rfl (by kernel_rfl) (by kernel_rfl) (by kernel_rfl) (fun _ _ _ h => h) (Or.inl ⟨by rfl, fun W hS => by (obtain ⟨q1, q2, q3⟩ := hS; go_simp; done)⟩) hHeld ?_
    try simp only [Act.put, List.getElem_toArray, List.getElem_cons_succ, List.getElem_cons_zero, List.setIfInBounds_toArray, List.set_cons_zero, List.set_cons_succ]
    refine wpAnyH_take (i := 6) (v := (.int .u32 DR)) rfl (by kernel_rfl) (by kernel_rfl) (by kernel_rfl) (fun _ _ _ h => h) (Or.inl ⟨by rfl, fun W hS => by first | rfl | (go_simp; done)⟩) hHeld ?_
    try simp only [Act.put, List.getElem_toArray, List.getElem_cons_succ, List.getElem_cons_zero, List.setIfInBounds_toArray, List.set_cons_zero, List.set_cons_succ]
    refine wpAnyH_take (i := 7) (v := (.agg #[.int .i64 x.1, .int .i64 x.2])) rfl (by kernel_rfl) (by kernel_rfl) (by kernel_rfl) (fun _ _ _ h => h) (Or.inl ⟨by rfl, fun W hS => by (obtain ⟨q1, q2, q3⟩ := hS; go_simp; done)⟩) hHeld ?_
    try simp only [Act.put, List.getElem_toArray, List.getElem_cons_succ, List.getElem_cons_zero, List.setIfInBounds_toArray, List.set_cons_zero, List.set_cons_succ]
    refine wpAnyH_ready (rs := [5]) (by kernel_rfl) (by simp) (AllReadyH.cons rfl (fun K hK => ?_) AllReadyH.nil)
    simp only [List.getElem_toArray, List.getElem_cons_succ, List.getElem_cons_zero]
    go_simp
    refine (runsKey_any x.1 x.2 _ (by omega) (by omega) (by omega) (by omega)).mono ?_
    rintro e v1 ⟨rfl, hk⟩
    refine hK.out _ _ ⟨cell_al hHeld.1 hk, cell_al hHeld.2.1 hk, cell_al hHeld.2.2 hk⟩ (fun hHeld => ?_)
    clear hK K
    try simp only [Act.put, List.getElem_toArray, List.getElem_cons_succ, List.getElem_cons_zero, List.setIfInBounds_toArray, List.set_cons_zero, List.set_cons_succ]
    have H3 := Lib.hid (H2.out.adds ((Only.refl (fun _ => False) W2).drew.thenF hk))
    have HBX3 := Lib.hid (HBX2.out.only ((Only.refl (fun _ => False) W2).drew.thenF hk) id)
    have HK3 := Lib.hid ((Only.refl (fun _ => False) W2).drew.thenF hk)
    clear hk
    refine wpAnyH_ready (rs := [8]) (by kernel_rfl) (by simp) (AllReadyH.cons rfl (fun K hK => ?_) AllReadyH.nil)
    simp only [List.getElem_toArray, List.getElem_cons_succ, List.getElem_cons_zero]
    go_simp
    refine (putR_yes s.tb s.t _ (kOf x) DR x.1 x.2 v1 H3.out.tree HOK.out.tree.sep HF.out).mono ?_
    rintro e v2 ⟨rfl, ⟨nb, hnb, ht2⟩, ho2⟩
    have hrb2 : ¬ TB s.tb s.t s.rb := fun h => h.elim H3.out.nrt H3.out.nrh
    have hB2 : ¬ TB s.tb s.t B := fun h => HB0.out (.inl (.inr (.inl h)))
    have e3 := (H3.out.blk.only ho2 hrb2).cell 3
    have e0 := (HBX3.out.only ho2 hB2).cell 0
    have e1 := (HBX3.out.only ho2 hB2).cell 1
    refine hK.out _ _ ⟨e3, e0, e1⟩ (fun hHeld => ?_)
    clear hK K
    try simp only [Act.put, List.getElem_toArray, List.getElem_cons_succ, List.getElem_cons_zero, List.setIfInBounds_toArray, List.set_cons_zero, List.set_cons_succ]
    refine wpAnyH_done (by kernel_rfl) ?_ _
    go_upto_region 6 with fail
    have hdv5 := HDR.out
    have hB4 := H3.out.blk.only ho2 hrb2
    have hD4 := row_only2 H3.out.drs ho2 (fun g e e2 => H3.out.draws_apart g e (.inr (.inl e2)))
    have hL4 := row_only2 H3.out.row ho2 (fun g e e2 => tb_not_row H3.out.tree (by decide) (by decide) H3.out.row g e2 e)
    have hX4 := HBX3.out.only ho2 hB2
    have hT4 : IsTreap2 125 122 v2 s.tb (Tr.put nb (kOf x) DR (vOf x) s.t) ((Tr.put nb (kOf x) DR (vOf x) s.t).size : Nat) := by
      rw [Tr.put_size]
      rwa [show wrap64 ((s.t.size : Int) + 1) = ((s.t.size + 1 : Nat) : Int) by simp [wrap64]; omega] at ht2
    have hO4 : Only s.own W v2 := ((HO2.out.mono (T := s.own) (fun y _ e => .inl e)).andThen HK3.out (fun _ _ h => h.elim)).andThen ho2 (fun i _ h => .inr (.inl h))
    have hnb4 : W.heap.size ≤ nb := by have := HO2.out.size; have := HK3.out.size; omega
    have HB4 := Lib.hid hB4; have HD4 := Lib.hid hD4; have HL4 := Lib.hid hL4; have HX4 := Lib.hid hX4; have HT4 := Lib.hid hT4; have HO4 := Lib.hid hO4
    have c4 := hB4.cell 4; have x0 := hX4.cell 0; have x1 := hX4.cell 1
    dsimp only at c4
    replace x0 : v2.cell? ⟨B, 0, none⟩ = some (.int .i64 x.1) := x0
    replace x1 : v2.cell? ⟨B, 1, none⟩ = some (.int .i64 x.2) := x1
    clear hB4 hD4 hL4 hX4 hT4 hO4 ht2 ho2 hrb2 hB2 e3 e0 e1 c3 H2 H3 HBX2 HBX3 HO2 HK3 hHeld hnb
    refine AnyU.region (S := (fun W' => W'.cell? ⟨s.rb, 4, none⟩ = some s.lv ∧ W'.cell? ⟨B, 0, none⟩ = some (.int .i64 x.1) ∧ W'.cell? ⟨B, 1, none⟩ = some (.int .i64 x.2))) (k := 14) (by kernel_rfl) ⟨c4, x0, x1⟩ (fun hHeld => ?_)
    refine AnyU.take (i := 0) (v := (.pointer (some ⟨s.rb, 0, none⟩))) rfl rfl (by kernel_rfl) (by kernel_rfl) (by kernel_rfl) (by kernel_rfl) (by kernel_rfl) (by decide) (fun _ _ _ h => h) (Or.inl ⟨by rfl, fun W hS => by first | rfl | (go_simp; done)⟩) hHeld ?_
    try simp only [Act.put, List.getElem_toArray, List.getElem_cons_succ, List.getElem_cons_zero, List.setIfInBounds_toArray, List.set_cons_zero, List.set_cons_succ]
    refine AnyU.take (i := 1) (v := (.pointer (some ⟨s.rb, 0, none⟩))) rfl rfl (by kernel_rfl) (by kernel_rfl) (by kernel_rfl) (by kernel_rfl) (by kernel_rfl) (by decide) (fun _ _ _ h => h) (Or.inl ⟨by rfl, fun W hS => by first | rfl | (go_simp; done)⟩) hHeld ?_
    try simp only [Act.put, List.getElem_toArray, List.getElem_cons_succ, List.getElem_cons_zero, List.setIfInBounds_toArray, List.set_cons_zero, List.set_cons_succ]
    refine AnyU.take (i := 2) (v := (.pointer (some ⟨s.rb, 0, none⟩))) rfl rfl (by kernel_rfl) (by kernel_rfl) (by kernel_rfl) (by kernel_rfl) (by kernel_rfl) (by decide) (fun _ _ _ h => h) (Or.inl ⟨by rfl, fun W hS => by first | rfl | (go_simp; done)⟩) hHeld ?_
    try simp only [Act.put, List.getElem_toArray, List.getElem_cons_succ, List.getElem_cons_zero, List.setIfInBounds_toArray, List.set_cons_zero, List.set_cons_succ]
    refine AnyU.take (i := 3) (v := (.pointer (some ⟨s.rb, 4, none⟩))) rfl rfl (by kernel_rfl) (by kernel_rfl) (by kernel_rfl) (by kernel_rfl) (by kernel_rfl) (by decide) (fun _ _ _ h => h) (Or.inl ⟨by rfl, fun W hS => by first | rfl | (go_simp; done)⟩) hHeld ?_
    try simp only [Act.put, List.getElem_toArray, List.getElem_cons_succ, List.getElem_cons_zero, List.setIfInBounds_toArray, List.set_cons_zero, List.set_cons_succ]
    refine AnyU.take (i := 4) (v := s.lv) rfl rfl (by kernel_rfl) (by kernel_rfl) (by kernel_rfl) (by kernel_rfl) (by kernel_rfl) (by decide) (fun _ _ _ h => h) (Or.inl ⟨by rfl, fun W hS => by (obtain ⟨q1, q2, q3⟩ := hS; go_simp; done)⟩) hHeld ?_
    try simp only [Act.put, List.getElem_toArray, List.getElem_cons_succ, List.getElem_cons_zero, List.setIfInBounds_toArray, List.set_cons_zero, List.set_cons_succ]
    refine AnyU.take (i := 5) (v := (.pointer (some ⟨s.rb, 0, none⟩))) rfl rfl (by kernel_rfl) (by kernel_rfl) (by kernel_rfl) (by kernel_rfl) (by kernel_rfl) (by decide) (fun _ _ _ h => h) (Or.inl ⟨by rfl, fun W hS => by first | rfl | (go_simp; done)⟩) hHeld ?_
    try simp only [Act.put, List.getElem_toArray, List.getElem_cons_succ, List.getElem_cons_zero, List.setIfInBounds_toArray, List.set_cons_zero, List.set_cons_succ]
    refine AnyU.take (i := 6) (v := (.pointer (some ⟨B, 0, none⟩))) rfl rfl (by kernel_rfl) (by kernel_rfl) (by kernel_rfl) (by kernel_rfl) (by kernel_rfl) (by decide) (fun _ _ _ h => h) (Or.inl ⟨by rfl, fun W hS => by first | rfl | (go_simp; done)⟩) hHeld ?_
    try simp only [Act.put, List.getElem_toArray, List.getElem_cons_succ, List.getElem_cons_zero, List.setIfInBounds_toArray, List.set_cons_zero, List.set_cons_succ]
    refine AnyU.take (i := 7) (v := (.int .i64 x.1)) rfl rfl (by kernel_rfl) (by kernel_rfl) (by kernel_rfl) (by kernel_rfl) (by kernel_rfl) (by decide) (fun _ _ _ h => h) (Or.inl ⟨by rfl, fun W hS => by (obtain ⟨q1, q2, q3⟩ := hS; go_simp; done)⟩) hHeld ?_
    try simp only [Act.put, List.getElem_toArray, List.getElem_cons_succ, List.getElem_cons_zero, List.setIfInBounds_toArray, List.set_cons_zero, List.set_cons_succ]
    refine AnyU.take (i := 9) (v := (.agg #[.int .i64 x.1, .int .i64 x.2])) rfl rfl (by kernel_rfl) (by kernel_rfl) (by kernel_rfl) (by kernel_rfl) (by kernel_rfl) (by decide) (fun _ _ _ h => h) (Or.inl ⟨by rfl, fun W hS => by (obtain ⟨q1, q2, q3⟩ := hS; go_simp; done)⟩) hHeld ?_
    try simp only [Act.put, List.getElem_toArray, List.getElem_cons_succ, List.getElem_cons_zero, List.setIfInBounds_toArray, List.set_cons_zero, List.set_cons_succ]
    refine AnyU.two (i := 8) (j := 10) rfl rfl (by kernel_rfl) (fun K hK => ?_) (fun K hK => ?_)
    · simp only [List.getElem_toArray, List.getElem_cons_succ, List.getElem_cons_zero]
      go_simp
      refine (place_row hHeld.1 (row_only2 HL4.out ((Only.refl (fun _ => False) v2).drew) (fun _ _ h => h)) HOK.out.list ⟨HOK.out.P1, HOK.out.P2⟩ x.1).mono ?_
      rintro e v3 ⟨rfl, hpl⟩
      refine hK.out _ v3 ⟨cell_al hHeld.1 hpl, cell_al hHeld.2.1 hpl, cell_al hHeld.2.2 hpl⟩ (fun hHeld => ?_)
      clear hK
      try simp only [Act.put, List.getElem_toArray, List.getElem_cons_succ, List.getElem_cons_zero, List.setIfInBounds_toArray, List.set_cons_zero, List.set_cons_succ]
      refine AnyU.one (i := 10) rfl (by kernel_rfl) (fun K hK => ?_)
      simp only [List.getElem_toArray, List.getElem_cons_succ, List.getElem_cons_zero]
      go_simp
      have hN : Blk (v3.alloc (.cells #[.int .i64 x.1, .int .i64 x.2] 63)) v3.heap.size #[.int .i64 x.1, .int .i64 x.2] 63 := Blk.new v3 _ _
      have hAd : Adds v2 (v3.alloc (.cells #[.int .i64 x.1, .int .i64 x.2] 63)) := ((Only.refl (fun _ => False) v2).drew.thenF hpl).alloc _
      refine hK.out _ (v3.alloc (.cells #[.int .i64 x.1, .int .i64 x.2] 63)) ⟨cell_al hHeld.1 ((Only.refl (fun _ => False) v3).alloc _), cell_al hHeld.2.1 ((Only.refl (fun _ => False) v3).alloc _), cell_al hHeld.2.2 ((Only.refl (fun _ => False) v3).alloc _)⟩ (fun hHeld => ?_)
      clear hK
      try simp only [Act.put, List.getElem_toArray, List.getElem_cons_succ, List.getElem_cons_zero, List.setIfInBounds_toArray, List.set_cons_zero, List.set_cons_succ]
      have hNl : v2.heap.size ≤ v3.heap.size := hpl.size
      generalize hN3 : v3.heap.size = N at hN hNl ⊢
      generalize v3.alloc (.cells #[.int .i64 x.1, .int .i64 x.2] 63) = W5 at hN hAd hHeld ⊢
      clear hN3 hpl
      have HAD := Lib.hid hAd; have HN := Lib.hid hN; have HNL := Lib.hid hNl
      clear hAd hN hNl
      refine AnyU.one (i := 11) rfl (by kernel_rfl) (fun K hK => ?_)
      simp only [List.getElem_toArray, List.getElem_cons_succ, List.getElem_cons_zero]
      go_simp
      refine (insert_any 0 s.lv s.xs.length (placeOf s.xs x.1) (shCells s.xs) x.1 x.2 N W5 (row_only2 HL4.out HAD.out (fun _ _ h => h)) (shCells_one _) (place_le _ _) (by have := HOK.out.list.len (by have := HOK.out.P1; omega); omega) (Nat.zero_le _) HN.out (fun e => by have := row_lt HL4.out N e; have := HNL.out; omega)).mono ?_
      rintro e W6 ⟨lv', rfl, hr6, ho6, hob⟩
      rw [shCells_insL] at hr6
      have hrb6 : ¬ (some s.rb = s.lv.ownBlock) := blk_not_row HB4.out (by decide) HL4.out
      have hbx6 : ¬ (some B = s.lv.ownBlock) := fun e => HB0.out (.inl (.inr (.inr e)))
      have hB6 := (HB4.out.only HAD.out id).only ho6 hrb6
      have hX6 := (HX4.out.only HAD.out id).only ho6 hbx6
      have c4' := hB6.cell 4; have f4' := hB6.frozen 4; have y0 := hX6.cell 0; have y1 := hX6.cell 1
      obtain ⟨e9, h9⟩ | ⟨g6, cp6, rfl⟩ := row_shape hr6
      · omega
      refine hK.out _ W6 ⟨c4', y0, y1⟩ (fun hHeld => ?_)
      clear hK
      try simp only [Act.put, List.getElem_toArray, List.getElem_cons_succ, List.getElem_cons_zero, List.setIfInBounds_toArray, List.set_cons_zero, List.set_cons_succ]
      refine AnyU.one (i := 12) rfl (by kernel_rfl) (fun K hK => ?_)
      simp only [List.getElem_toArray, List.getElem_cons_succ, List.getElem_cons_zero]
      go_simp
      refine hK.out _ _ hHeld (fun hHeld => ?_)
      clear hK
      try simp only [Act.put, List.getElem_toArray, List.getElem_cons_succ, List.getElem_cons_zero, List.setIfInBounds_toArray, List.set_cons_zero, List.set_cons_succ]
      refine AnyU.one (i := 13) rfl (by kernel_rfl) (fun K hK => ?_)
      simp only [List.getElem_toArray, List.getElem_cons_succ, List.getElem_cons_zero]
      go_simp
      refine hK.out _ _ hHeld (fun hHeld => ?_)
      clear hK
      try simp only [Act.put, List.getElem_toArray, List.getElem_cons_succ, List.getElem_cons_zero, List.setIfInBounds_toArray, List.set_cons_zero, List.set_cons_succ]
      refine AnyU.last rfl (by kernel_rfl) (fun K hK => ?_)
      simp only [List.getElem_toArray, List.getElem_cons_succ, List.getElem_cons_zero]
      go_simp
      refine hK.out _ _ ?_
      clear hK
      refine AnyU.done (by kernel_rfl) ?_ _
      go_wp2_with fail
      have hB7 := hB6.setCell 4 (.slice (some ⟨g6, 0, none⟩) (s.xs.length + 1) cp6)
      have hX7 := hX6.setCell_other hbne.symm 4 (.slice (some ⟨g6, 0, none⟩) (s.xs.length + 1) cp6)
      have hO7 : Only (· = s.rb) W6 (W6.setCell ⟨s.rb, 4, none⟩ (.slice (some ⟨g6, 0, none⟩) (s.xs.length + 1) cp6)) := (Only.refl (· = s.rb) W6).setCell (p := ⟨s.rb, 4, none⟩) (.inl rfl) _
      have hL7 := row_only2 hr6 hO7 (fun g e e2 => blk_not_row hB6 (by decide) hr6 (e2 ▸ e))
      have hO6 : Only s.own w0 W6 := (((HO.out.mono (T := s.own) (fun _ _ h => h.elim)).andThen HO4.out (fun _ _ h => h)).andThen HAD.out (fun _ _ h => h.elim)).andThen ho6 (fun i _ h => .inr (.inr h))
      have hD6 := row_only2 (row_only2 HD4.out HAD.out (fun _ _ h => h)) ho6 (fun g e e2 => H.out.draws_apart g e (.inr (.inr e2)))
      have hD7 := row_only2 hD6 hO7 (fun g e e2 => blk_not_row hB6 (by decide) hD6 (e2 ▸ e))
      have hT6 := (HT4.out.adds HAD.out).only ho6 (tb_not_row HT4.out (by decide) (by decide) HL4.out s.tb (.inl rfl)) (fun y hy => tb_not_row HT4.out (by decide) (by decide) HL4.out y (.inr hy))
      have hnr : nb ≠ s.rb := fun e => by have := H.out.blk.lt; omega
      have hT7 := hT6.only hO7 (fun e => H.out.nrt e.symm) (fun y hy e => ((Tr.put_has ..).1 hy).elim (fun e2 => hnr (e2.symm.trans e)) (fun h2 => H.out.nrh (e ▸ h2)))
      have hN0 : w0.heap.size ≤ W5.heap.size := by have := HO.out.size; have := HO4.out.size; have := HAD.out.size; omega
      have HB7 := Lib.hid hB7; have HX7 := Lib.hid hX7; have HL7 := Lib.hid hL7; have HD7 := Lib.hid hD7; have HT7 := Lib.hid hT7; have HO67 := Lib.hid (hO6.andThen hO7 (fun i _ e => .inl e)); have HOB := Lib.hid hob
      clear hB7 hX7 hO7 hL7 hO6 hD6 hD7 hT6 hT7 hr6 ho6 hrb6 hbx6 hB6 hX6 c4' f4' y0 y1 hHeld hob x0 x1 c4
      generalize W6.setCell ⟨s.rb, 4, none⟩ (.slice (some ⟨g6, 0, none⟩) (s.xs.length + 1) cp6) = W7 at *
      have c5 := HB7.out.cell 5; have f5 := HB7.out.frozen 5; have x1 := HX7.out.cell 1
      have hw9 : wrap64 (tot s.xs + x.2) = tot s.xs + x.2 := by have := HT.out; simp [wrap64]; omega
      go_region
      all_goals (
        go_wp2_with fail
        go_end0
        refine ⟨⟨_, rfl⟩, nb, _, (RS.put_is HB7.out HD7.out (by rw [← HDR.out]; exact HT7.out) HL7.out HOK.out H.out.nrt H.out.nrh hnr hx HFR.out (fun h => by have := H.out.tree.lt nb (.inr h); omega)).adds (Only.refl _ _).drew, ?_⟩
        exact ⟨(HO67.out.setCell (p := ⟨s.rb, 5, none⟩) (.inl (.inl rfl)) _).drew, fun y hy => RS.put_own HOB.out (by have := HO.out.size; omega) hN0 y hy, rfl, rfl, rfl, rfl⟩)
    · simp only [List.getElem_toArray, List.getElem_cons_succ, List.getElem_cons_zero]
      go_simp
      have hN : Blk (v2.drew.alloc (.cells #[.int .i64 x.1, .int .i64 x.2] 63)) v2.heap.size #[.int .i64 x.1, .int .i64 x.2] 63 := Blk.new v2.drew _ _
      refine hK.out _ (v2.drew.alloc (.cells #[.int .i64 x.1, .int .i64 x.2] 63)) ⟨cell_al hHeld.1 ((Only.refl (fun _ => False) v2.drew).alloc _), cell_al hHeld.2.1 ((Only.refl (fun _ => False) v2.drew).alloc _), cell_al hHeld.2.2 ((Only.refl (fun _ => False) v2.drew).alloc _)⟩ (fun hHeld => ?_)
      clear hK
      try simp only [Act.put, List.getElem_toArray, List.getElem_cons_succ, List.getElem_cons_zero, List.setIfInBounds_toArray, List.set_cons_zero, List.set_cons_succ]
      have hAd4 : Adds v2 (v2.drew.alloc (.cells #[.int .i64 x.1, .int .i64 x.2] 63)) := ((Only.refl (fun _ => False) v2).drew).alloc _
      generalize v2.drew.alloc (.cells #[.int .i64 x.1, .int .i64 x.2] 63) = V4 at hN hAd4 hHeld ⊢
      refine AnyU.one (i := 8) rfl (by kernel_rfl) (fun K hK => ?_)
      simp only [List.getElem_toArray, List.getElem_cons_succ, List.getElem_cons_zero]
      go_simp
      refine (place_row hHeld.1 (row_only2 HL4.out hAd4 (fun _ _ h => h)) HOK.out.list ⟨HOK.out.P1, HOK.out.P2⟩ x.1).mono ?_
      rintro e v3 ⟨rfl, hpl⟩
      have hN := hN.only hpl id
      have hAd := hAd4.thenF hpl
      refine hK.out _ v3 ⟨cell_al hHeld.1 hpl, cell_al hHeld.2.1 hpl, cell_al hHeld.2.2 hpl⟩ (fun hHeld => ?_)
      clear hK
      try simp only [Act.put, List.getElem_toArray, List.getElem_cons_succ, List.getElem_cons_zero, List.setIfInBounds_toArray, List.set_cons_zero, List.set_cons_succ]
      have hNl : v2.heap.size ≤ v2.heap.size := Nat.le_refl _
      generalize hN3 : v2.heap.size = N at hN hNl ⊢
      generalize v3 = W5 at hN hAd hHeld ⊢
      skip
      have HAD := Lib.hid hAd; have HN := Lib.hid hN; have HNL := Lib.hid hNl
      clear hAd hN hNl
      refine AnyU.one (i := 11) rfl (by kernel_rfl) (fun K hK => ?_)
      simp only [List.getElem_toArray, List.getElem_cons_succ, List.getElem_cons_zero]
      go_simp
      refine (insert_any 0 s.lv s.xs.length (placeOf s.xs x.1) (shCells s.xs) x.1 x.2 N W5 (row_only2 HL4.out HAD.out (fun _ _ h => h)) (shCells_one _) (place_le _ _) (by have := HOK.out.list.len (by have := HOK.out.P1; omega); omega) (Nat.zero_le _) HN.out (fun e => by have := row_lt HL4.out N e; have := HNL.out; omega)).mono ?_
      rintro e W6 ⟨lv', rfl, hr6, ho6, hob⟩
      rw [shCells_insL] at hr6
      have hrb6 : ¬ (some s.rb = s.lv.ownBlock) := blk_not_row HB4.out (by decide) HL4.out
      have hbx6 : ¬ (some B = s.lv.ownBlock) := fun e => HB0.out (.inl (.inr (.inr e)))
      have hB6 := (HB4.out.only HAD.out id).only ho6 hrb6
      have hX6 := (HX4.out.only HAD.out id).only ho6 hbx6
      have c4' := hB6.cell 4; have f4' := hB6.frozen 4; have y0 := hX6.cell 0; have y1 := hX6.cell 1
      obtain ⟨e9, h9⟩ | ⟨g6, cp6, rfl⟩ := row_shape hr6
      · omega
      refine hK.out _ W6 ⟨c4', y0, y1⟩ (fun hHeld => ?_)
      clear hK
      try simp only [Act.put, List.getElem_toArray, List.getElem_cons_succ, List.getElem_cons_zero, List.setIfInBounds_toArray, List.set_cons_zero, List.set_cons_succ]
      refine AnyU.one (i := 12) rfl (by kernel_rfl) (fun K hK => ?_)
      simp only [List.getElem_toArray, List.getElem_cons_succ, List.getElem_cons_zero]
      go_simp
      refine hK.out _ _ hHeld (fun hHeld => ?_)
      clear hK
      try simp only [Act.put, List.getElem_toArray, List.getElem_cons_succ, List.getElem_cons_zero, List.setIfInBounds_toArray, List.set_cons_zero, List.set_cons_succ]
      refine AnyU.one (i := 13) rfl (by kernel_rfl) (fun K hK => ?_)
      simp only [List.getElem_toArray, List.getElem_cons_succ, List.getElem_cons_zero]
      go_simp
      refine hK.out _ _ hHeld (fun hHeld => ?_)
      clear hK
      try simp only [Act.put, List.getElem_toArray, List.getElem_cons_succ, List.getElem_cons_zero, List.setIfInBounds_toArray, List.set_cons_zero, List.set_cons_succ]
      refine AnyU.last rfl (by kernel_rfl) (fun K hK => ?_)
      simp only [List.getElem_toArray, List.getElem_cons_succ, List.getElem_cons_zero]
      go_simp
      refine hK.out _ _ ?_
      clear hK
      refine AnyU.done (by kernel_rfl) ?_ _
      go_wp2_with fail
      have hB7 := hB6.setCell 4 (.slice (some ⟨g6, 0, none⟩) (s.xs.length + 1) cp6)
      have hX7 := hX6.setCell_other hbne.symm 4 (.slice (some ⟨g6, 0, none⟩) (s.xs.length + 1) cp6)
      have hO7 : Only (· = s.rb) W6 (W6.setCell ⟨s.rb, 4, none⟩ (.slice (some ⟨g6, 0, none⟩) (s.xs.length + 1) cp6)) := (Only.refl (· = s.rb) W6).setCell (p := ⟨s.rb, 4, none⟩) (.inl rfl) _
      have hL7 := row_only2 hr6 hO7 (fun g e e2 => blk_not_row hB6 (by decide) hr6 (e2 ▸ e))
      have hO6 : Only s.own w0 W6 := (((HO.out.mono (T := s.own) (fun _ _ h => h.elim)).andThen HO4.out (fun _ _ h => h)).andThen HAD.out (fun _ _ h => h.elim)).andThen ho6 (fun i _ h => .inr (.inr h))
      have hD6 := row_only2 (row_only2 HD4.out HAD.out (fun _ _ h => h)) ho6 (fun g e e2 => H.out.draws_apart g e (.inr (.inr e2)))
      have hD7 := row_only2 hD6 hO7 (fun g e e2 => blk_not_row hB6 (by decide) hD6 (e2 ▸ e))
      have hT6 := (HT4.out.adds HAD.out).only ho6 (tb_not_row HT4.out (by decide) (by decide) HL4.out s.tb (.inl rfl)) (fun y hy => tb_not_row HT4.out (by decide) (by decide) HL4.out y (.inr hy))
      have hnr : nb ≠ s.rb := fun e => by have := H.out.blk.lt; omega
      have hT7 := hT6.only hO7 (fun e => H.out.nrt e.symm) (fun y hy e => ((Tr.put_has ..).1 hy).elim (fun e2 => hnr (e2.symm.trans e)) (fun h2 => H.out.nrh (e ▸ h2)))
      have hN0 : w0.heap.size ≤ W5.heap.size := by have := HO.out.size; have := HO4.out.size; have := HAD.out.size; omega
      have HB7 := Lib.hid hB7; have HX7 := Lib.hid hX7; have HL7 := Lib.hid hL7; have HD7 := Lib.hid hD7; have HT7 := Lib.hid hT7; have HO67 := Lib.hid (hO6.andThen hO7 (fun i _ e => .inl e)); have HOB := Lib.hid hob
      clear hB7 hX7 hO7 hL7 hO6 hD6 hD7 hT6 hT7 hr6 ho6 hrb6 hbx6 hB6 hX6 c4' f4' y0 y1 hHeld hob x0 x1 c4
      generalize W6.setCell ⟨s.rb, 4, none⟩ (.slice (some ⟨g6, 0, none⟩) (s.xs.length + 1) cp6) = W7 at *
      have c5 := HB7.out.cell 5; have f5 := HB7.out.frozen 5; have x1 := HX7.out.cell 1
      have hw9 : wrap64 (tot s.xs + x.2) = tot s.xs + x.2 := by have := HT.out; simp [wrap64]; omega
      go_region
      all_goals (
        go_wp2_with fail
        go_end0
        refine ⟨⟨_, rfl⟩, nb, _, (RS.put_is HB7.out HD7.out (by rw [← HDR.out]; exact HT7.out) HL7.out HOK.out H.out.nrt H.out.nrh hnr hx HFR.out (fun h => by have := H.out.tree.lt nb (.inr h); omega)).adds (Only.refl _ _).drew, ?_⟩
        exact ⟨(HO67.out.setCell (p := ⟨s.rb, 5, none⟩) (.inl (.inl rfl)) _).drew, fun y hy => RS.put_own HOB.out (by have := HO.out.size; omega) hN0 y hy, rfl, rfl, rfl, rfl⟩)
end Go.Proofs.Ytbijbpnhakbeeaa

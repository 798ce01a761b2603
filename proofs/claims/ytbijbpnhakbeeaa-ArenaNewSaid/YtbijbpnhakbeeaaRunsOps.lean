/- Package runs: best, Find, Take, List, Total, Drawn, Shape, at whatever state. By an AI agent. -/
import Derived.Test.YtbijbpnhakbeeaaRunsDrop
import Derived.Test.YtbijbpnhakbeeaaTreapCeilR
import Derived.Test.YtbijbpnhakbeeaaTreapShapeR
namespace Go.Proofs.Ytbijbpnhakbeeaa
open Go.RowKit Go.Shelf

theorem isBest_of {s : RS} (h : s.Ok) {n : Int} (hn : 1 ≤ n) {d : Int} {x : Int × Int} {k : Int} (hl : Tr.least (8192 * n) s.t = some (k, d, .agg #[.int .i64 x.1, .int .i64 x.2])) : IsBest n s.xs x := by
  obtain ⟨hm, hk⟩ := Tr.least_mem hl
  obtain ⟨y, hy, h1, h2⟩ := h.mem _ hm
  have e1 : x = y := by
    simp only [vOf, Value.agg.injEq, Array.mk.injEq, List.cons.injEq, Value.int.injEq, true_and, and_true] at h2
    exact Prod.ext h2.1 h2.2
  subst e1
  have hb := h.list.bd x hy
  have hP := h.P2
  simp only at h1 hk
  refine ⟨hy, by unfold kOf at h1; omega, fun z hz hzn => ?_⟩
  obtain ⟨e, he, hez⟩ := h.have_ z hz
  have hzb := h.list.bd z hz
  unfold Tr.least at hl
  rcases Int.lt_or_le (kOf z) k with hlt | hle
  · exfalso
    have hbst := h.tree.bst
    obtain ⟨i, hi⟩ := List.mem_iff_getElem?.1 hm
    obtain ⟨j, hj⟩ := List.mem_iff_getElem?.1 he
    have hji : j < i := by
      rcases Nat.lt_trichotomy j i with h3 | h3 | h3
      · exact h3
      · subst h3; rw [hi] at hj; cases hj; simp only at hez; omega
      · have := Tr.ins_lt hbst h3 hi hj; simp only at this; omega
    rw [List.find?_eq_some_iff_getElem] at hl
    obtain ⟨_, i', hi', e', hno⟩ := hl
    have hii : i' = i := by
      rcases Nat.lt_trichotomy i' i with h3 | h3 | h3
      · have := Tr.ins_lt hbst h3 (List.getElem?_eq_some_iff.2 ⟨hi', e'⟩) hi; simp only at this; omega
      · exact h3
      · have := Tr.ins_lt hbst h3 hi (List.getElem?_eq_some_iff.2 ⟨hi', e'⟩); simp only at this; omega
    subst hii
    have hj2 := hno j hji
    have hjj := List.getElem?_eq_some_iff.1 hj
    rw [hjj.2] at hj2
    simp at hj2
    unfold kOf at hez hlt
    omega
  · unfold kOf at h1 hle; omega
theorem noBest_of {s : RS} (h : s.Ok) {n : Int} (hl : Tr.least (8192 * n) s.t = none) : ∀ y ∈ s.xs, y.2 < n := fun y hy => by
  obtain ⟨e, he, hey⟩ := h.have_ y hy
  have := Tr.least_none hl e he
  have hb := h.list.bd y hy
  unfold kOf at hey
  omega
/-- What best tells. -/
def BestOf (s : RS) (n : Int) (x : Int × Int) (ok : Bool) : Prop := (ok = true ∧ 1 ≤ n ∧ IsBest n s.xs x) ∨ (ok = false ∧ x = (0, 0) ∧ (n < 1 ∨ ∀ y ∈ s.xs, y.2 < n))
def BestPost (s : RS) (n : Int) (w : World) (e : Ending) (w' : World) : Prop := (∃ x ok, e = .returned (.tuple #[.agg #[.int .i64 x.1, .int .i64 x.2], .bool ok]) ∧ BestOf s n x ok) ∧ Adds w w'
theorem set2_end {w W V : World} {Z : Nat} {t : TypeId} {a b p q : Int} (hO : Adds w W) (hB : Blk W Z #[.int .i64 a, .int .i64 b] t) (hZ : w.heap.size ≤ Z) (hV : Adds W V) :
    ((V.setCell ⟨Z, 0, none⟩ (.int .i64 p)).setCell ⟨Z, 1, none⟩ (.int .i64 q)).cell? ⟨Z, 0, none⟩ = some (.int .i64 p) ∧ ((V.setCell ⟨Z, 0, none⟩ (.int .i64 p)).setCell ⟨Z, 1, none⟩ (.int .i64 q)).cell? ⟨Z, 1, none⟩ = some (.int .i64 q) ∧
      Adds w ((V.setCell ⟨Z, 0, none⟩ (.int .i64 p)).setCell ⟨Z, 1, none⟩ (.int .i64 q)) := by
  have h9 := ((hB.only hV id).setCell 0 (.int .i64 p)).setCell 1 (.int .i64 q)
  exact ⟨h9.cell 0, h9.cell 1, ((hO.thenF hV).setCell (p := ⟨Z, 0, none⟩) (.inr hZ) _).setCell (p := ⟨Z, 1, none⟩) (.inr hZ) _⟩
set_option maxRecDepth 100000 in
set_option maxHeartbeats 4000000 in
theorem best_any {w : World} {s : RS} (h : IsRuns w s) (n : Int) :
    Calls Try.prog 58 #[.pointer (some ⟨s.rb, 0, none⟩), .int .i64 n] w (BestPost s n w) := by
  obtain ⟨Z, hZ⟩ : ∃ Z, w.heap.size = Z := ⟨_, rfl⟩
  obtain ⟨W, hW⟩ : ∃ W, w.alloc (.cells #[.int .i64 0, .int .i64 0] 63) = W := ⟨_, rfl⟩
  have hO0 : Adds w W := by rw [← hW]; exact (Only.refl _ w).alloc _
  have hZB : Blk W Z #[.int .i64 0, .int .i64 0] 63 := by rw [← hW, ← hZ]; exact Blk.new w _ _
  have h' := h.adds hO0
  have hok := h.ok
  obtain ⟨c0, _, _, c3, _, _⟩ := h'.cells
  have z0 : W.cell? ⟨Z, 0, none⟩ = some (.int .i64 0) := hZB.cell 0
  have z1 : W.cell? ⟨Z, 1, none⟩ = some (.int .i64 0) := hZB.cell 1
  have f0 := hZB.frozen 0; have f1 := hZB.frozen 1
  have hv : ∀ e ∈ s.t.ins, ∃ (x z : Int), e.2.2 = .agg #[.int .i64 x, .int .i64 z] := fun e he => by
    obtain ⟨x, _, _, h2⟩ := hok.mem e he
    exact ⟨x.1, x.2, h2⟩
  have hce := ceilR_any s.tb s.t _ (8192 * n) W h'.tree hok.tree.bst hv
  have HO := Lib.hid hO0; have HZB := Lib.hid hZB; have HOK := Lib.hid hok; have HCE := Lib.hid hce
  have hP2 := hok.P2
  have hnn : s.rb ≠ Z := fun e => by have := h.blk.lt; omega
  clear hO0 hZB h h' hok hv hce
  have p0 : Value.pointer (some ⟨s.rb, 0, none⟩) ≠ .pointer none := by simp
  have hZle : w.heap.size ≤ Z := by omega
  by_cases h1 : n < 1
  · go_enter Try.func58, Try.ntmps58
    go_wp2_with fail
    obtain ⟨e0, e1, hA⟩ := set2_end (p := 0) (q := 0) HO.out HZB.out hZle (Only.refl _ W)
    exact bodyPost_ret (v := .tuple #[.agg #[.int .i64 0, .int .i64 0], .bool false]) (by simp [e0, e1, results, Try.results58, go_sem]) rfl ⟨⟨(0, 0), false, rfl, .inr ⟨rfl, rfl, .inl h1⟩⟩, hA⟩
  · by_cases h2 : s.P < n
    · go_enter Try.func58, Try.ntmps58
      go_wp2_with fail
      obtain ⟨e0, e1, hA⟩ := set2_end (p := 0) (q := 0) HO.out HZB.out hZle (Only.refl _ W)
      exact bodyPost_ret (v := .tuple #[.agg #[.int .i64 0, .int .i64 0], .bool false]) (by simp [e0, e1, results, Try.results58, go_sem]) rfl ⟨⟨(0, 0), false, rfl, .inr ⟨rfl, rfl, .inr (fun y hy => by have := HOK.out.list.bd y hy; omega)⟩⟩, hA⟩
    · go_enter Try.func58, Try.ntmps58
      go_wp2_with fail
      refine HCE.out.mono ?_
      rintro e V ⟨hV, k, x, z, ok, rfl, hh⟩
      have hbo : BestOf s n (x, z) ok := by
        rcases hh with ⟨rfl, d, hd⟩ | ⟨rfl, hd, rfl, rfl⟩
        · exact .inl ⟨rfl, by omega, isBest_of HOK.out (by omega) hd⟩
        · exact .inr ⟨rfl, rfl, .inr (noBest_of HOK.out hd)⟩
      have HBO := Lib.hid hbo; have HV := Lib.hid hV
      have hZV := HZB.out.only hV id
      have g0 := hZV.cell 0; have g1 := hZV.cell 1; have f0 := hZV.frozen 0; have f1 := hZV.frozen 1
      have hZl := hZV.lt
      clear hh hbo hV z0 z1 c0 c3 hZV
      go_wp2_with fail
      obtain ⟨e0, e1, hA⟩ := set2_end (p := x) (q := z) HO.out HZB.out hZle HV.out
      have hal := (Only.refl (fun _ => False) ((V.setCell ⟨Z, 0, none⟩ (.int .i64 x)).setCell ⟨Z, 1, none⟩ (.int .i64 z))).alloc (.cells #[.int .i64 x, .int .i64 z] 63)
      have e0' := cell_al e0 hal
      have e1' := cell_al e1 hal
      exact bodyPost_ret (v := .tuple #[.agg #[.int .i64 x, .int .i64 z], .bool ok]) (by simp [e0', e1', results, Try.results58, go_sem]) rfl ⟨⟨(x, z), ok, rfl, HBO.out⟩, hA.thenF hal⟩

set_option maxHeartbeats 1000000 in
theorem find_any {w : World} {s : RS} (h : IsRuns w s) (n : Int) :
    Calls Try.prog 42 #[.pointer (some ⟨s.rb, 0, none⟩), .int .i64 n] w fun e w' => (∃ x ok, e = .returned (.tuple #[.int .i64 x.1, .bool ok]) ∧ BestOf s n x ok) ∧ Adds w w' := by
  have HB := Lib.hid (best_any h n)
  clear h
  go_enter Try.func42, Try.ntmps42
  go_wp2_with (go_at_call 58; refine HB.out.mono ?_; rintro e w1 ⟨⟨x, ok, rfl, hb⟩, ho⟩)
  go_ret2
  exact ⟨⟨x, ok, rfl, hb⟩, ho.thenF ((Only.refl _ w1).alloc _)⟩

/-- What Take leaves. -/
def Taken (s : RS) (n : Int) (x : Int × Int) (s' : RS) : Prop := ∃ lv, (x.2 ≤ n ∧ s' = s.del x lv) ∨ (n < x.2 ∧ ∃ nb lv', s' = (s.del x lv).put (x.1 + n, x.2 - n) nb lv')
def TakeOf (s : RS) (n at_ e : Int) (s' : RS) : Prop := (n < 1 ∧ at_ = 0 ∧ e = 1 ∧ s' = s) ∨ (1 ≤ n ∧ (∀ y ∈ s.xs, y.2 < n) ∧ at_ = 0 ∧ e = 3 ∧ s' = s) ∨ (1 ≤ n ∧ ∃ x, IsBest n s.xs x ∧ at_ = x.1 ∧ e = 0 ∧ Taken s n x s')
def TakePost (s : RS) (n : Int) (w : World) (e : Ending) (w' : World) : Prop := ∃ at_ c s', e = .returned (.tuple #[.int .i64 at_, .int .i64 c]) ∧ TakeOf s n at_ c s' ∧ IsRuns w' s' ∧ Moves s s' w w'
set_option maxRecDepth 100000 in
set_option maxHeartbeats 4000000 in
theorem take_any {w : World} {s : RS} (h : IsRuns w s) (n : Int) (hdn : s.dn < 1000000) :
    Calls Try.prog 29 #[.pointer (some ⟨s.rb, 0, none⟩), .int .i64 n] w (TakePost s n w) := by
  have HB := Lib.hid (best_any h n)
  have H := Lib.hid h
  clear h
  by_cases h1 : n < 1
  · go_enter Try.func29, Try.ntmps29
    go_wp2_with fail
    go_ret2
    exact ⟨0, 1, s, rfl, .inl ⟨h1, rfl, rfl, rfl⟩, H.out, Moves.refl _ (Only.refl _ _)⟩
  · go_enter Try.func29, Try.ntmps29
    go_wp2_with fail
    refine HB.out.mono ?_
    rintro e V ⟨⟨x, ok, rfl, hb⟩, hV⟩
    rcases hb with ⟨rfl, _, hb⟩ | ⟨rfl, rfl, hb⟩
    · have H1 := Lib.hid (H.out.adds (hV.thenF ((Only.refl (fun _ => False) V).alloc (.cells #[.int .i64 x.1, .int .i64 x.2] 63))))
      have hbx := Blk.new V #[.int .i64 x.1, .int .i64 x.2] 63
      have hbl : ∀ y, s.all y → y < V.heap.size := fun y hy => Nat.lt_of_lt_of_le (H.out.lt y hy) hV.size
      have HBL := Lib.hid hbl; have HBX := Lib.hid hbx; have HBB := Lib.hid hb
      have HA := Lib.hid (hV.thenF ((Only.refl (fun _ => False) V).alloc (.cells #[.int .i64 x.1, .int .i64 x.2] 63)))
      have hxb := H.out.ok.list.bd x hb.mem
      have hP2 := H.out.ok.P2
      have HT := Lib.hid (took H.out.ok.list (n := n) (by omega) hb.mem hb.long)
      clear hV hbl hbx hb
      go_wp2_with fail
      refine (drop_any H1.out x HBB.out.mem).mono ?_
      rintro e W2 ⟨⟨v, rfl⟩, lv, h2, m2⟩
      have hbx2 := HBX.out.only m2.only (fun hy => Nat.lt_irrefl _ (HBL.out _ (.inl hy)))
      have x0 := hbx2.cell 0; have x1 := hbx2.cell 1
      have H2 := Lib.hid h2; have M2 := Lib.hid m2; have HBX2 := Lib.hid hbx2
      clear h2 m2 hbx2
      by_cases h3 : n < x.2
      · have hw1 : wrap64 (x.1 + n) = x.1 + n := by simp [wrap64]; omega
        have hw2 : wrap64 (x.2 - n) = x.2 - n := by simp [wrap64]; omega
        have hw3 : IntKind.i64.wrap (x.1 + n) = x.1 + n := by rw [IntKind.wrap_i64]; omega
        have hw4 : IntKind.i64.wrap (x.2 - n) = x.2 - n := by rw [IntKind.wrap_i64]; omega
        go_wp2_with fail
        refine (put_any H2.out (x.1 + n, x.2 - n) (HT.out.bd h3) HT.out.free hdn).mono ?_
        rintro e W3 ⟨⟨v3, rfl⟩, nb, lv', h4, m4⟩
        have hbx3 := HBX2.out.only m4.only (fun hy => (M2.out.own _ hy).elim (fun hy => Nat.lt_irrefl _ (HBL.out _ (.inl hy))) (fun hy => by have := HBX.out.lt; omega))
        have x0 := hbx3.cell 0
        go_wp2_with fail
        go_ret2
        exact ⟨x.1, 0, _, rfl, .inr (.inr ⟨by omega, x, HBB.out, rfl, rfl, lv, .inr ⟨h3, nb, lv', rfl⟩⟩), h4, Moves.ahead HA.out (Moves.trans M2.out m4)⟩
      · go_wp2_with fail
        go_ret2
        exact ⟨x.1, 0, _, rfl, .inr (.inr ⟨by omega, x, HBB.out, rfl, rfl, lv, .inl ⟨by omega, rfl⟩⟩), H2.out, Moves.ahead HA.out M2.out⟩
    · go_wp2_with fail
      go_ret2
      have ho := hV.thenF ((Only.refl (fun _ => False) V).alloc (.cells #[.int .i64 0, .int .i64 0] 63))
      exact ⟨0, 3, s, rfl, .inr (.inl ⟨by omega, hb.elim (fun h => by omega) id, rfl, rfl, rfl⟩), H.out.adds ho, Moves.refl _ ho⟩

set_option maxHeartbeats 1000000 in
theorem total_any {w : World} {s : RS} (h : IsRuns w s) : Calls Try.prog 37 #[.pointer (some ⟨s.rb, 0, none⟩)] w fun e w' => e = .returned (.int .i64 (tot s.xs)) ∧ w = w' := by
  obtain ⟨_, _, _, _, _, c5⟩ := h.cells
  clear h
  go_enter Try.func37, Try.ntmps37
  go_wp2
  go_ret
  exact ⟨rfl, rfl⟩
set_option maxHeartbeats 1000000 in
theorem drawn_any {w : World} {s : RS} (h : IsRuns w s) : Calls Try.prog 36 #[.pointer (some ⟨s.rb, 0, none⟩)] w fun e w' => e = .returned (.int .i64 s.dn) ∧ w = w' := by
  obtain ⟨_, _, c2, _, _, _⟩ := h.cells
  clear h
  go_enter Try.func36, Try.ntmps36
  go_wp2
  go_ret
  exact ⟨rfl, rfl⟩
set_option maxHeartbeats 1000000 in
theorem shape_any {w : World} {s : RS} (h : IsRuns w s) : Calls Try.prog 26 #[.pointer (some ⟨s.rb, 0, none⟩)] w fun e w' => ∃ v, e = .returned v ∧ w'.ownsRow w.heap.size 72 2 v s.t.size (shCells (s.t.shape 0)) ∧ Adds w w' := by
  obtain ⟨_, _, _, c3, _, _⟩ := h.cells
  have hsz : s.t.size < 1000000 := by have := h.ok.size; have := h.ok.list.len (by have := h.ok.P1; omega); have := h.ok.P2; omega
  have HS := Lib.hid (shapeR_any s.tb s.t _ w h.tree hsz)
  clear h
  go_enter Try.func26, Try.ntmps26
  go_wp2_with (go_at_call 56; refine HS.out.mono ?_; rintro e w1 ⟨v, rfl, hr, ho⟩)
  go_ret
  exact ⟨v, rfl, hr, ho⟩
end Go.Proofs.Ytbijbpnhakbeeaa

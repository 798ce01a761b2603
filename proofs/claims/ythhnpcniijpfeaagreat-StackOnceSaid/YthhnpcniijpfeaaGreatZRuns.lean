/- Package runs: New, out of no draws: one run of all pages. By an AI agent. -/
import Derived.Maps.AppendAt
import Derived.Deep.RegionWith
import Derived.Deep.DeepCutAuto
import Derived.Deep.RegionHeld3
import Derived.RangeFuncBox
import Derived.Deep.Onto
import Derived.Test.YthhnpcniijpfeaaGreatZ5
namespace Go.Proofs.YthhnpcniijpfeaaGreat
open Go.RowKit
set_option linter.unusedSimpArgs false
set_option linter.unusedVariables false

theorem infoRun : (Tryz.prog.info? 128).map (fun i => (i.zero, i.size, i.bytes)) = some (some (.agg #[.int .i64 0, .int .i64 0]), 2, 16) := by kernel_rfl

set_option maxHeartbeats 400000 in
theorem runsKey_any (a n : Int) (w : World) (h0 : 0 ≤ a) (h1 : a < 1000000) (h2 : 0 ≤ n) (h3 : n < 1000000) :
    Calls Tryz.prog 97 #[.agg #[.int .i64 a, .int .i64 n]] w fun e w' => e = .returned (.int .i64 (8192 * n + a)) ∧ Adds w w' := by
  go_enter Tryz.func97, Tryz.ntmps97
  go_wp2
  go_ret
  exact ⟨rfl, (Only.refl _ _).alloc _⟩

set_option maxHeartbeats 1000000 in
theorem search_empty (at_ : Int) (f : Nat) (w : World) :
    Calls Tryz.prog 134 #[.slice none 0 0, .int .i64 at_, .func (.func f) #[] #[]] w fun e w' => e = .returned (.tuple #[.int .i64 0, .bool false]) ∧ ∃ n, w' = w.drewN n := by
  go_enter Tryz.func134, Tryz.ntmps134
  go_wp2
  go_loop [9, 10] (fun i j => i = .int .i64 0 ∧ j = .int .i64 0) (fun _ _ => 0)
  case atStart => exact ⟨rfl, rfl⟩
  case round =>
    obtain ⟨rfl, rfl⟩ := hrel
    go_wp2
    go_ret2
    exact ⟨rfl, 0, rfl⟩

set_option maxRecDepth 100000 in
set_option maxHeartbeats 1000000 in
theorem insert_empty (a n : Int) (b : Nat) (w : World) (hb : Blk w b #[.int .i64 a, .int .i64 n] 128) :
    Calls Tryz.prog 98 #[.slice none 0 0, .int .i64 0, .slice (some ⟨b, 0, none⟩) 1 1] w fun e w' => ∃ v, e = .returned v ∧ w'.ownsRow w.heap.size 128 2 v 1 [.int .i64 a, .int .i64 n] ∧ Adds w w' := by
  obtain ⟨i0, hi, hz0, hz1, hz2⟩ := info_parts infoRun
  go_enter Tryz.func98, Tryz.ntmps98
  have hlt := hb.lt
  have hnews : ∀ j u, [Value.int .i64 a, Value.int .i64 n][j]? = some u → w.cell? ((⟨b, 0, none⟩ : Addr).add j) = some u := by
    intro j u hj
    match j, hj with
    | 0, hj => simp at hj; subst hj; simpa [Addr.add] using hb.cell 0
    | 1, hj => simp at hj; subst hj; simpa [Addr.add] using hb.cell 1
  go_wp2_with (at_builtin; refine wpList_append_own _ rfl _ _ 106 rfl w.heap.size 128 i0 (.agg #[.int .i64 0, .int .i64 0]) 2 16 Tryz.underlying106 hi hz0 hz1 hz2 rfl (by decide) (.slice none 0 0) 0 [] rfl (World.ownsRow_nil _ _ _ _) ⟨b, 0, none⟩ 1 1 [.int .i64 a, .int .i64 n] rfl rfl hnews (by simp [Value.oneCell']) (by unfold maxLen; omega) (by omega) (Nat.le_refl _) ?_; intro v' w3 hown' hgrow3 hnil3)
  go_ret
  have hb2 := (Below.refl w.heap.size w).grown hgrow3 (Nat.le_refl _) (fun k hk => by cases hk)
  exact ⟨v', rfl, by simpa using hown', ⟨hb2.os, hb2.tape, hb2.output, hb2.size, fun k hk _ => hb2.block k hk⟩⟩

set_option maxRecDepth 100000 in
set_option maxHeartbeats 1000000 in
theorem clone32_nil (w : World) : Calls Tryz.prog 81 #[.slice none 0 0] w fun e w' => e = .returned (.slice none 0 0) ∧ Adds w w' := by
  have he := fun W => Lib.run_eql_slice_nil (P := Tryz.prog) W 65 38 none 0 0 0 0 Tryz.underlying65
  go_enter Tryz.func81, Tryz.ntmps81
  go_wp2
  go_outline
  go_ret
  exact ⟨rfl, Only.refl _ _⟩

set_option maxHeartbeats 1000000 in
theorem place_empty (rb : Nat) (at_ : Int) (w : World) (h : w.cell? ⟨rb, 4, none⟩ = some (.slice none 0 0)) :
    Calls Tryz.prog 99 #[.pointer (some ⟨rb, 0, none⟩), .int .i64 at_] w fun e w' => e = .returned (.int .i64 0) ∧ ∃ n, w' = w.drewN n := by
  go_enter Tryz.func99, Tryz.ntmps99
  go_wp2_with (go_at_call 134; refine (search_empty _ _ _).mono ?_; rintro e w1 ⟨rfl, n, rfl⟩)
  go_ret
  exact ⟨rfl, _, rfl⟩

theorem Here2.set {T H : TypeId} {w wr : World} {tb : Nat} {t : Tr} (h : Here2 T H w wr tb t) {d : Nat} (hd : w.heap.size ≤ d) (hn : ¬ TB tb t d) (j : Nat) (v : Value) : Here2 T H w (wr.setCell ⟨d, j, none⟩ v) tb t :=
  ⟨h.treap.only ((Only.refl (· = d) wr).setCell (.inl rfl) v) (fun e => hn (.inl e.symm)) (fun _ hx e => hn (.inr (e ▸ hx))), h.ok, h.fresh, h.adds.setCell (.inr hd) v⟩
theorem held3c {w W w' : World} {p q r : Nat × Nat} {x y z : Value} (h : W.cell? ⟨p.1, p.2, none⟩ = some x ∧ W.cell? ⟨q.1, q.2, none⟩ = some y ∧ W.cell? ⟨r.1, r.2, none⟩ = some z ∧ Adds w W) (ho : Adds W w') :
    w'.cell? ⟨p.1, p.2, none⟩ = some x ∧ w'.cell? ⟨q.1, q.2, none⟩ = some y ∧ w'.cell? ⟨r.1, r.2, none⟩ = some z ∧ Adds w w' :=
  ⟨(ho.cellF (p := ⟨p.1, p.2, none⟩) (cell_lt h.1) id).trans h.1, (ho.cellF (p := ⟨q.1, q.2, none⟩) (cell_lt h.2.1) id).trans h.2.1, (ho.cellF (p := ⟨r.1, r.2, none⟩) (cell_lt h.2.2.1) id).trans h.2.2.1, h.2.2.2.thenF ho⟩
theorem grownBy_set (W : World) (b j : Nat) (v : Value) : W.grownBy (W.setCell ⟨b, j, none⟩ v) (some b) :=
  ⟨rfl, rfl, rfl, (KeepsWalks.setCell W _ v).size, fun k _ hk => Below.heap_setCell _ _ _ k (fun e => hk (by rw [e]))⟩
theorem Blk.not_row {W : World} {B : Nat} {c : Array Value} {t e : TypeId} (h : Blk W B c t) (hte : t ≠ e) {base size k : Nat} {v : Value} {xs : List Value} (hr : W.ownsRow base e size v k xs) : some B ≠ v.ownBlock := by
  rcases hr.2 with ⟨rfl, _⟩ | ⟨g, cap, cur, rfl, _, hgb, _⟩
  · simp [Value.ownBlock]
  · intro e'
    obtain rfl : B = g := by simpa [Value.ownBlock] using e'
    have := (show W.heap[B]? = _ from h).symm.trans hgb
    simp at this
    exact hte this.2
theorem cell_da {W : World} {p : Addr} {v : Value} (h : W.cell? p = some v) (hl : p.block < W.heap.size) (n : Nat) (o : Obj) : ((W.drewN n).alloc o).cell? p = some v :=
  (((Only.refl (fun _ => False) W).drewN n |>.alloc o).cellF hl id).trans h
/-- Runs of one run. -/
structure RunsOne (w0 w : World) (rb : Nat) (P : Int) (a n : Int) : Prop where
  ex : ∃ tb nb v, Blk w rb #[.int .i64 P, .slice none 0 0, .int .i64 1, .pointer (some ⟨tb, 0, none⟩), v, .int .i64 n] 132 ∧
    HereR w0 w tb (.node nb (8192 * n + a) 0 (.agg #[.int .i64 a, .int .i64 n]) .nil .nil) ∧ w.ownsRow w0.heap.size 128 2 v 1 [.int .i64 a, .int .i64 n] ∧ rb ≠ tb ∧ rb ≠ nb
  old : w0.heap.size ≤ rb

set_option maxRecDepth 100000 in
set_option maxHeartbeats 16000000 in
theorem put_empty (w0 w : World) (rb tb : Nat) (P a n : Int) (h : Blk w rb #[.int .i64 P, .slice none 0 0, .int .i64 0, .pointer (some ⟨tb, 0, none⟩), .slice none 0 0, .int .i64 0] 132) (ht : HereR w0 w tb .nil) (hr : w0.heap.size ≤ rb) (hne : rb ≠ tb)
    (ha : 0 ≤ a ∧ a < 1000000) (hn : 0 ≤ n ∧ n < 1000000) :
    Calls Tryz.prog 83 #[.pointer (some ⟨rb, 0, none⟩), .agg #[.int .i64 a, .int .i64 n]] w fun e w' => (∃ v, e = .returned v) ∧ RunsOne w0 w' rb P a n ∧ Adds w0 w' := by
  have hB := Blk.new w #[.int .i64 a, .int .i64 n] 128
  have hh := h.alloc (.cells #[.int .i64 a, .int .i64 n] 128)
  have hT := ht.alloc (.cells #[.int .i64 a, .int .i64 n] 128)
  have x0 := hB.cell 0; have x1 := hB.cell 1
  have c1 := hh.cell 1; have c2 := hh.cell 2; have c3 := hh.cell 3; have c4 := hh.cell 4; have c5 := hh.cell 5; have f2 := hh.frozen 2
  have hlt := h.lt
  have hrb : rb ≠ w.heap.size := by omega
  have hB0 : tb < w.heap.size := ht.lt tb (.inl rfl)
  go_enter Tryz.func83, Tryz.ntmps83
  go_wp2_with fail
  go_quiet ((fail))
  have H0 := Lib.hid (hT.drewN nq); have HH := Lib.hid (hh.drewN nq); have HBB := Lib.hid (hB.drewN nq)
  clear hT hh hB c1 c2 c3 c4 c5 f2 x0 x1 h ht
  generalize (w.alloc (.cells #[.int .i64 a, .int .i64 n] 128)).drewN nq = W at *
  have c2 := HH.out.cell 2; have f2 := HH.out.frozen 2; have c3 := HH.out.cell 3; have x0 := HBB.out.cell 0; have x1 := HBB.out.cell 1
  go_upto_region 5 with fail
  have HH2 := Lib.hid (HH.out.setCell 2 (.int .i64 1))
  have H2 := Lib.hid (H0.out.set hr (fun h => h.elim hne id) 2 (.int .i64 1))
  have HB2 := Lib.hid (HBB.out.setCell_other hrb.symm 2 (.int .i64 1))
  clear c2 f2 c3 x0 x1 HH H0 HBB
  generalize W.setCell ⟨rb, 2, none⟩ (.int .i64 1) = W2 at *
  have c3 := HH2.out.cell 3; have x0 := HB2.out.cell 0; have x1 := HB2.out.cell 1
  go_cut [] (fun wx => ∃ nb, W2.heap.size ≤ nb ∧ HereR w0 wx tb (.node nb (8192 * n + a) 0 (.agg #[.int .i64 a, .int .i64 n]) .nil .nil) ∧ Only (· = tb) W2 wx)
  case first =>
    go_wp2_with fail
    go_region_with ((first
      | (go_at_call 97; refine (runsKey_any a n _ ha.1 ha.2 hn.1 hn.2).mono ?_; rintro e w1 ⟨rfl, hk⟩; have hka := (Only.refl (fun _ => False) W2).drew.thenF hk; obtain ⟨c3', x0', x1', _⟩ := held3c (p := (rb, 3)) (q := (w.heap.size, 0)) (r := (w.heap.size, 1)) ⟨c3, x0, x1, Only.refl _ W2⟩ hka)
      | (go_at_call 96; refine (putR_new2 (H2.out.keep hka) (by decide) (8192 * n + a) 0 a n rfl).mono ?_; rintro e w2 ⟨rfl, nb, hnb, ht1, ho1⟩)))
    all_goals (
      go_wp2_with fail
      go_meet
      exact ⟨nb, Nat.le_trans hka.size hnb, ht1, (hka.mono (fun _ _ h => h.elim)).andThen ho1 (fun i _ h => h.elim id False.elim)⟩)
  case rest =>
    obtain ⟨nb, hnb, ht1, ho1⟩ := hcut
    have HH3 := Lib.hid (HH2.out.only ho1 hne); have HB3 := Lib.hid (HB2.out.only ho1 (fun e => by have := H2.out.lt tb (.inl rfl); have := hB0; omega))
    have HT3 := Lib.hid ht1
    have hnbr : rb ≠ nb := by have := HH2.out.lt; omega
    clear ht1 ho1 H2 c3 x0 x1
    have c4 := HH3.out.cell 4; have c5 := HH3.out.cell 5; have f4 := HH3.out.frozen 4; have f5 := HH3.out.frozen 5; have x0 := HB3.out.cell 0; have x1 := HB3.out.cell 1
    go_upto_region 6 with fail
    go_cut [] (fun wx => ∃ W4 v, wx = W4.setCell ⟨rb, 4, none⟩ v ∧ Adds wc W4 ∧ (∃ g cp, v = .slice (some ⟨g, 0, none⟩) 1 cp) ∧ W4.ownsRow w0.heap.size 128 2 v 1 [.int .i64 a, .int .i64 n])
    case first =>
      go_wp2_with fail
      have l1 := HH3.out.lt; have l2 := HB3.out.lt
      have hal := (Only.refl (fun _ => False) wc).alloc (.cells #[.int .i64 a, .int .i64 n] 128)
      have c4a := (hal.cellF (p := ⟨rb, 4, none⟩) l1 id).trans c4
      have x0a := (hal.cellF (p := ⟨w.heap.size, 0, none⟩) l2 id).trans x0
      have x1a := (hal.cellF (p := ⟨w.heap.size, 1, none⟩) l2 id).trans x1
      clear hal
      go_region_with ((first
        | (go_at_call 99; refine (place_empty rb a _ (by first | (simpa using c4; done) | exact (((Only.refl (fun _ => False) wc).alloc _).drew.cellF (p := ⟨rb, 4, none⟩) l1 id).trans c4 | exact (((Only.refl (fun _ => False) wc).drew.alloc _).cellF (p := ⟨rb, 4, none⟩) l1 id).trans c4)).mono ?_; rintro e w1 ⟨rfl, n1, rfl⟩; have c4b := cell_da c4 l1 (1 + n1) (.cells #[.int .i64 a, .int .i64 n] 128); have x0b := cell_da x0 l2 (1 + n1) (.cells #[.int .i64 a, .int .i64 n] 128); have x1b := cell_da x1 l2 (1 + n1) (.cells #[.int .i64 a, .int .i64 n] 128))
        | (go_at_call 98; (first | refine (insert_empty a n _ _ (Blk.new _ _ _)).mono ?_ | refine (insert_empty a n _ _ ((Blk.new _ _ _).drewN _)).mono ?_); rintro e w1 ⟨v, rfl, hv, hins⟩; obtain ⟨g, cp, rfl⟩ := ownsRow_succ hv; (first | have hwi : Adds wc w1 := (((Only.refl (fun _ => False) wc).drewN _).alloc _).thenF hins | have hwi : Adds wc w1 := (((Only.refl (fun _ => False) wc).drew.alloc _).drewN _).thenF hins | have hwi : Adds wc w1 := (((Only.refl (fun _ => False) wc).drew).alloc _).thenF hins | have hwi : Adds wc w1 := (((Only.refl (fun _ => False) wc).alloc _).drewN _).thenF hins); have c4' := (hwi.cellF (p := ⟨rb, 4, none⟩) l1 id).trans c4; have f4' := (hwi.frozenF (p := ⟨rb, 4, none⟩) l1 id).trans f4)))
      all_goals (
        go_wp2_with fail
        go_meet
        exact ⟨w1, _, rfl, hwi, ⟨g, cp, rfl⟩, hv.mono (by have := HT3.out.adds.size; have h9 := hwi.size; simp; omega)⟩)
    case rest =>
      obtain ⟨W4, v, rfl, hwi, ⟨g, cp, rfl⟩, hv⟩ := hcut
      have hrt : ¬ TB tb (.node nb (8192 * n + a) 0 (.agg #[.int .i64 a, .int .i64 n]) .nil .nil) rb := fun h => h.elim hne (fun h => h.elim hnbr (fun h => h.elim id id))
      have hbw := HH3.out.only hwi id
      have HV5 := Lib.hid (hv.kept (grownBy_set W4 rb 4 (.slice (some ⟨g, 0, none⟩) 1 cp)) (.inr (hbw.not_row (by decide) hv).symm))
      have HH5 := Lib.hid (hbw.setCell 4 (.slice (some ⟨g, 0, none⟩) 1 cp))
      have HB5 := Lib.hid ((HB3.out.only hwi id).setCell_other hrb.symm 4 (.slice (some ⟨g, 0, none⟩) 1 cp))
      have HT5 := Lib.hid ((HT3.out.keep hwi).set hr hrt 4 (.slice (some ⟨g, 0, none⟩) 1 cp))
      clear hwi hv hbw c4 c5 f4 f5 x0 x1
      generalize W4.setCell ⟨rb, 4, none⟩ (.slice (some ⟨g, 0, none⟩) 1 cp) = W5 at *
      have c5 := HH5.out.cell 5; have f5 := HH5.out.frozen 5; have x1 := HB5.out.cell 1
      have hw9 : wrap64 n = n := by simp [wrap64]; omega
      go_wp2_with fail
      go_region
      all_goals (
        go_wp2_with fail
        go_end0
        exact ⟨⟨_, rfl⟩, ⟨⟨tb, nb, _, HH5.out.setCell 5 (.int .i64 n), (HT5.out.set hr hrt 5 (.int .i64 n)).keep (Only.refl _ _).drew, (show (W5.setCell ⟨rb, 5, none⟩ (.int .i64 n)).ownsRow _ _ _ _ _ _ from HV5.out.kept (grownBy_set W5 rb 5 (.int .i64 n)) (.inr (HH5.out.not_row (by decide) HV5.out).symm)), hne, hnbr⟩, hr⟩, ((HT5.out.set hr hrt 5 (.int .i64 n)).keep (Only.refl _ _).drew).adds⟩)
end Go.Proofs.YthhnpcniijpfeaaGreat

/- Package treap at dustpan/api.Run: Drop, for every tree. By an AI agent. -/
import Derived.LaidEqlPtr
import Derived.Laws.Entries
import Derived.Lib.Builder
import Derived.Deep.RegionWith
import Derived.Test.YtbijbpnhakbeeaaTreapHereR
import Derived.Test.YtbijbpnhakbeeaaTreeHole2
namespace Go.Proofs.Ytbijbpnhakbeeaa
open Go.RowKit
theorem neq_ptr_otherR {P : Program} (w : World) {tp te : TypeId} {j : TypeInfo} {a b : Addr} {ca cb : Array Value} {ta tb : TypeId} (hp : P.underlying tp = some (.pointer te)) (hte : P.info? te = some j) (hsz : j.size ≠ 0)
    (hne : a ≠ b) (ha : w.heap[a.block]? = some (.cells ca ta (0, 0))) (hb : w.heap[b.block]? = some (.cells cb tb (0, 0))) :
    (binOp .neq tp (.pointer (some a)) (.pointer (some b))).run P w = .ok (.bool true) w := by
  have h : ∀ d : Nat, (Op.equalIn (d + 1) tp (.pointer (some a)) (.pointer (some b))).run P w = .ok false w := fun d => by
    simp [Op.equalIn, run_underlying hp, sizeOf, typeInfo, hte, hsz, run_sameAddr_other w hne ha hb]
  simp only [binOp]
  simp [Op.equal, Op.maxDepth, h 9999]
theorem infoNdR : (Try.prog.info? 125).map (fun i => i.size) = some 6 := by kernel_rfl
theorem infoNdR_ex : ∃ j, Try.prog.info? 125 = some j ∧ j.size ≠ 0 := by
  have h := infoNdR
  cases e : Try.prog.info? 125 with
  | none => rw [e] at h; cases h
  | some j => rw [e] at h; exact ⟨j, rfl, by simp at h; omega⟩
/-- How many nodes stand below what an address leads to. -/
noncomputable def atSizeR (T : TypeId) (w : World) : Value → Nat
  | .pointer (some a) => trSize2 T w ((w.cell? a).getD undef)
  | _ => 0
theorem atSizeR_eq {T : TypeId} {w : World} {a : Addr} {s : Tr} (hc : w.cell? a = some (.pointer s.adr)) (h : IsTr2 T w s) : atSizeR T w (.pointer (some a)) = s.size := by
  show trSize2 T w ((w.cell? a).getD undef) = _
  rw [hc]; exact trSize2_eq h
set_option maxHeartbeats 1000000 in
theorem dropR_no (tb : Nat) (t : Tr) (m key : Int) (w : World) (h : IsTreap2 125 122 w tb t m) (hf : Tr.find key t = .nil) :
    Calls Try.prog 78 #[.pointer (some ⟨tb, 0, none⟩), .int .i64 key] w fun e w' => (∃ (x z : Int), e = .returned (.tuple #[.agg #[.int .i64 x, .int .i64 z], .bool false])) ∧ Adds w w' := by
  replace h := h.alloc (.cells #[.int .i64 0, .int .i64 0] 63)
  have hc := findR_any tb t m key _ h
  rw [hf] at hc
  rw [show Tr.nil.adr = none from rfl] at hc
  clear h hf
  go_enter Try.func78, Try.ntmps78
  go_wp2_with fail
  refine hc.mono ?_; clear hc; rintro e w1 ⟨rfl, rfl⟩
  go_wp2
  all_goals (
    exact bodyPost_ret (v := .tuple #[.agg #[.int .i64 0, .int .i64 0], .bool false]) (by simp [results, Try.results78, go_sem]) rfl ⟨⟨_, _, rfl⟩, by first | exact ((Only.refl _ w).alloc _) | exact ((Only.refl _ w).alloc _).drew | exact ((((Only.refl (fun _ => False) w).alloc _)).setCell (.inr (Nat.le_refl _)) _).setCell (.inr (Nat.le_refl _)) _ | exact (((((Only.refl (fun _ => False) w).alloc _)).setCell (.inr (Nat.le_refl _)) _).setCell (.inr (Nat.le_refl _)) _).drew⟩)
set_option maxRecDepth 100000 in
set_option maxHeartbeats 4000000 in
theorem dropR_yes (tb : Nat) (t : Tr) (m key : Int) (w0 : World) (h : IsTreap2 125 122 w0 tb t m) (hs : t.sep) (nb : Nat) (k d : Int) (x z : Int) (l r : Tr) (hf : Tr.find key t = .node nb k d (.agg #[.int .i64 x, .int .i64 z]) l r) :
    Calls Try.prog 78 #[.pointer (some ⟨tb, 0, none⟩), .int .i64 key] w0 fun e w' => e = .returned (.tuple #[.agg #[.int .i64 x, .int .i64 z], .bool true]) ∧ IsTreap2 125 122 w' tb (Tr.drop key t) (wrap64 (m - 1)) ∧ Only (TB tb t) w0 w' := by
  have hbx : ¬ TB tb t w0.heap.size := fun hh => (by have := h.lt _ hh; omega)
  have HBX := Lib.hid hbx
  have hz0 := Blk.new w0 #[.int .i64 0, .int .i64 0] 63
  have HZ00 := Lib.hid hz0
  replace h := h.alloc (.cells #[.int .i64 0, .int .i64 0] 63)
  clear hbx hz0
  have hc := findR_any tb t m key _ h
  rw [hf] at hc
  rw [show (Tr.node nb k d (.agg #[.int .i64 x, .int .i64 z]) l r).adr = some ⟨nb, 0, none⟩ from rfl] at hc
  have HT := Lib.hid h; have HS := Lib.hid hs; have HF := Lib.hid hf
  clear h hs hf
  go_enter Try.func78, Try.ntmps78
  go_wp2_with fail
  refine hc.mono ?_; clear hc; rintro e w1 ⟨rfl, rfl⟩
  go_wp2_with fail
  go_loop [7] (fun p => ∃ (c : Cx) (s : Tr), p = .pointer (some (c.hole2 tb)) ∧ IsCx2 125 122 (w0.alloc (.cells #[.int .i64 0, .int .i64 0] 63)) tb m c s.adr ∧ IsTr2 125 (w0.alloc (.cells #[.int .i64 0, .int .i64 0] 63)) s ∧ c.plug s = t ∧ Tr.find key s = Tr.find key t ∧ c.plug (Tr.drop key s) = Tr.drop key t) (fun p => atSizeR 125 (w0.alloc (.cells #[.int .i64 0, .int .i64 0] 63)) p)
  case atStart => exact ⟨.top, t, rfl, HT.out.head, HT.out.tr, rfl, rfl, rfl⟩
  case round =>
    obtain ⟨c, s, rfl, hcx, hst, hp, hfs, hds⟩ := hrel
    obtain ⟨hc1, hc2⟩ := hcx.cell
    have hsz := atSizeR_eq hc1 hst
    have HZ := Lib.hid hsz; have HC := Lib.hid hcx; have HP := Lib.hid hp; have HFS := Lib.hid hfs; have HDS := Lib.hid hds; have HST := Lib.hid hst
    obtain ⟨hb, ho, hhole⟩ := c.hole2_spot tb
    rw [hhole] at hc1 hc2 ⊢
    cases s with
    | nil =>
      exfalso
      have := HFS.out
      rw [HF.out] at this
      cases this
    | node b' k' d' v' l' r' =>
      obtain ⟨c0, _, _, c3, c4, _, _⟩ := hst.cells
      rw [show (Tr.node b' k' d' v' l' r').adr = some ⟨b', 0, none⟩ from rfl] at hc1
      clear hcx hp hfs hds hsz hst
      by_cases hk : k' = key
      · have he : nb = b' ∧ k = k' ∧ d = d' ∧ .agg #[.int .i64 x, .int .i64 z] = v' ∧ l = l' ∧ r = r' := by
          have := HFS.out
          rw [HF.out, hk.symm, Tr.find_hit] at this
          simp only [Tr.node.injEq] at this
          obtain ⟨e1, e2, e3, e4, e5, e6⟩ := this
          exact ⟨e1.symm, e2.symm, e3.symm, e4.symm, e5.symm, e6.symm⟩
        obtain ⟨rfl, rfl, rfl, rfl, rfl, rfl⟩ := he
        have hps := HS.out
        rw [← HP.out] at hps
        obtain ⟨ns, cs, nd⟩ := Cx.plug_sep c _ hps
        have hntb : ¬ c.has tb := fun hh => HT.out.ntb (by rw [← HP.out, Cx.plug_has]; exact .inr hh)
        have hnt : nb ≠ tb := fun hh => HT.out.ntb (by rw [← HP.out, Cx.plug_has]; exact .inl (.inl hh.symm))
        have hnh : nb ≠ hb := fun hh => by
          rcases c.hole2_block tb with e | e
          · rw [hhole] at e; exact hnt (hh.trans e)
          · rw [hhole] at e; exact nd nb (.inl rfl) (hh ▸ e)
        have hout : ∀ y, (c.has y ∨ y = tb ∨ y = nb) → ¬ (l.has y ∨ r.has y) := fun y hy hlr => by
          rcases hy with hy | rfl | rfl
          · exact nd y (.inr hlr) hy
          · exact HT.out.ntb (by rw [← HP.out, Cx.plug_has]; exact .inl (.inr hlr))
          · exact hlr.elim ns.1 ns.2.1
        have hbin : c.has hb ∨ hb = tb ∨ hb = nb := by
          rcases c.hole2_block tb with e | e
          · rw [hhole] at e; exact .inr (.inl e)
          · rw [hhole] at e; exact .inl e
        have HOUT := Lib.hid hout; have HBIN := Lib.hid hbin; have HNT := Lib.hid (And.intro hntb (And.intro hnt hnh)); have HCS := Lib.hid cs; have HND := Lib.hid nd
        have HNS := Lib.hid ns
        clear hps ns cs nd hntb hout hbin
        have hne1 : tb ≠ nb := hnt.symm
        obtain ⟨j, hj1, hj2⟩ := infoNdR_ex
        have hq := Lib.run_neq_ptr_same (P := Try.prog) (w0.alloc (.cells #[.int .i64 0, .int .i64 0] 63)) (tp := 120) (te := 125) (j := j) ⟨nb, 0, none⟩ Try.underlying120 hj1
        clear hj1 hj2
        go_wp2_with fail
        have hj := fun (W : World) (hW : Adds (w0.alloc (.cells #[.int .i64 0, .int .i64 0] 63)) W) => joinR_any l r W (HST.out.2.1.only hW (fun _ _ => id)) (HST.out.2.2.only hW (fun _ _ => id)) HNS.out.2.2.2.1 HNS.out.2.2.2.2 HNS.out.2.2.1
        have HJ := Lib.hid hj
        clear hj
        go_region_with ((go_at_call 93; refine (HJ.out _ (Only.refl _ _).drew).mono ?_; rintro e w1 ⟨rfl, hi, ho1⟩; have g1 := ((IsCx2.only ((Only.refl _ (w0.alloc (.cells #[.int .i64 0, .int .i64 0] 63))).drew.trans (ho1.mono (fun _ _ h => h))) HC.out (HOUT.out tb (.inr (.inl rfl))) (fun y hy => HOUT.out y (.inl hy))) : IsCx2 125 122 w1 tb m c _); have g2 := g1.cell; rw [hhole] at g2; have HI := Lib.hid hi; have HG := Lib.hid g1; have HO1 := Lib.hid ho1; obtain ⟨g2, g3⟩ := g2; clear hi ho1 g1))
        all_goals (
          have hb2 := HOUT.out hb HBIN.out
          have hjh : ¬ (Tr.join l r).has hb := fun hh => hb2 ((Tr.join_has ..).1 hh)
          have hcx2 := HG.out.set HCS.out HNT.out.1 (Tr.join l r).adr
          rw [hhole] at hcx2
          have hT2 := (isCx2_iff c (Tr.join l r)).2 ⟨hcx2, HI.out.setCell_other hjh _ _⟩
          have hd2 := HDS.out
          rw [Tr.drop, if_pos hk] at hd2
          rw [hd2] at hT2
          have q2 : (w1.setCell ⟨hb, ho, none⟩ (.pointer (Tr.join l r).adr)).cell? ⟨nb, 2, none⟩ = some (.int .i64 x) := ((HST.out.1.only ((Only.refl _ (w0.alloc (.cells #[.int .i64 0, .int .i64 0] 63))).drew.trans HO1.out) (HOUT.out nb (.inr (.inr rfl)))).setCell_other HNT.out.2.2 ho (.pointer (Tr.join l r).adr)).cell 2
          have q3 : (w1.setCell ⟨hb, ho, none⟩ (.pointer (Tr.join l r).adr)).cell? ⟨nb, 3, none⟩ = some (.int .i64 z) := ((HST.out.1.only ((Only.refl _ (w0.alloc (.cells #[.int .i64 0, .int .i64 0] 63))).drew.trans HO1.out) (HOUT.out nb (.inr (.inr rfl)))).setCell_other HNT.out.2.2 ho (.pointer (Tr.join l r).adr)).cell 3
          have p1 := hT2.1.cell 1; have f1 := hT2.1.frozen 1
          have hsub : ∀ y, (l.has y ∨ r.has y) → TB tb t y := fun y hy => .inr (by rw [← HP.out, Cx.plug_has]; exact .inl (.inr hy))
          have hbt : TB tb t hb := by
            rcases c.hole2_block tb with e | e
            · rw [hhole] at e; exact .inl e
            · rw [hhole] at e; exact .inr (by rw [← HP.out, Cx.plug_has]; exact .inr e)
          have hO2 : Only (TB tb t) (w0.alloc (.cells #[.int .i64 0, .int .i64 0] 63)) (w1.setCell ⟨hb, ho, none⟩ (.pointer (Tr.join l r).adr)) := ((Only.refl _ (w0.alloc (.cells #[.int .i64 0, .int .i64 0] 63))).drew.trans (HO1.out.mono (fun y _ hy => hsub y hy))).setCell (.inl hbt) _
          have hnd : ¬ (Tr.drop key t).has tb := fun hh => HT.out.ntb (Tr.drop_has hh)
          have hbb := HZ00.out.only hO2 HBX.out
          have z0 : (w1.setCell ⟨hb, ho, none⟩ (.pointer (Tr.join l r).adr)).cell? ⟨w0.heap.size, 0, none⟩ = some (.int .i64 0) := hbb.cell 0
          have z1 : (w1.setCell ⟨hb, ho, none⟩ (.pointer (Tr.join l r).adr)).cell? ⟨w0.heap.size, 1, none⟩ = some (.int .i64 0) := hbb.cell 1
          have y0 := hbb.frozen 0; have y1 := hbb.frozen 1
          have hne0 : w0.heap.size ≠ tb := fun e => HBX.out (.inl e)
          have hne9 : tb ≠ w0.heap.size := hne0.symm
          have HBB := Lib.hid hbb
          clear hbb
          have HT2 := Lib.hid hT2; have HO2 := Lib.hid hO2
          generalize w1.setCell ⟨hb, ho, none⟩ (.pointer (Tr.join l r).adr) = w2 at *
          clear hcx2 hT2 hd2 hO2 g2 g3 hsub hb2
          go_wp2
          have hfin : IsTreap2 125 122 (((w2.setCell ⟨tb, 1, none⟩ (.int .i64 (wrap64 (m - 1)))).setCell ⟨w0.heap.size, 0, none⟩ (.int .i64 x)).setCell ⟨w0.heap.size, 1, none⟩ (.int .i64 z)) tb (Tr.drop key t) (wrap64 (m - 1)) :=
            IsTreap2.only (S := (· = w0.heap.size)) ⟨HT2.out.1.setCell 1 _, HT2.out.2.setCell_other hnd _ _, hnd⟩ (((Only.refl (fun y => y = w0.heap.size) (w2.setCell ⟨tb, 1, none⟩ (.int .i64 (wrap64 (m - 1))))).setCell (p := ⟨w0.heap.size, 0, none⟩) (.inl rfl) (.int .i64 x)).setCell (p := ⟨w0.heap.size, 1, none⟩) (.inl rfl) (.int .i64 z)) hne9 (fun y hy e => HBX.out (.inr (Tr.drop_has (e ▸ hy))))
          have hb9 := ((HBB.out.setCell_other hne0 1 (.int .i64 (wrap64 (m - 1)))).setCell 0 (.int .i64 x)).setCell 1 (.int .i64 z)
          have e0 : (((w2.setCell ⟨tb, 1, none⟩ (.int .i64 (wrap64 (m - 1)))).setCell ⟨w0.heap.size, 0, none⟩ (.int .i64 x)).setCell ⟨w0.heap.size, 1, none⟩ (.int .i64 z)).cell? ⟨w0.heap.size, 0, none⟩ = some (.int .i64 x) := hb9.cell 0
          have e1 : (((w2.setCell ⟨tb, 1, none⟩ (.int .i64 (wrap64 (m - 1)))).setCell ⟨w0.heap.size, 0, none⟩ (.int .i64 x)).setCell ⟨w0.heap.size, 1, none⟩ (.int .i64 z)).cell? ⟨w0.heap.size, 1, none⟩ = some (.int .i64 z) := hb9.cell 1
          exact bodyPost_ret (v := .tuple #[.agg #[.int .i64 x, .int .i64 z], .bool true]) (by simp [e0, e1, results, Try.results78, go_sem]) rfl ⟨rfl, hfin, ((((((Only.refl (TB tb t) w0).alloc _).trans HO2.out).setCell (.inl (.inl rfl)) _).setCell (.inr (Nat.le_refl _)) _).setCell (.inr (Nat.le_refl _)) _)⟩)
      · have hne : b' ≠ nb := fun hh => by
          have hps := HS.out
          rw [← HP.out] at hps
          obtain ⟨ns, _, _⟩ := Cx.plug_sep c _ hps
          have hfs := HFS.out
          rw [HF.out] at hfs
          by_cases hlt : key < k'
          · rw [Tr.find_left hk hlt] at hfs
            exact ns.1 (Tr.find_has (key := key) (by rw [hfs]; exact .inl hh))
          · rw [Tr.find_right hk hlt] at hfs
            exact ns.2.1 (Tr.find_has (key := key) (by rw [hfs]; exact .inl hh))
        have hne2 : nb ≠ b' := hne.symm
        obtain ⟨j, hj1, hj2⟩ := infoNdR_ex
        have hfn := find_cells2 (key := key) HT.out.tr
        rw [HF.out] at hfn
        have hq := neq_ptr_otherR (P := Try.prog) (w0.alloc (.cells #[.int .i64 0, .int .i64 0] 63)) (tp := 120) (te := 125) (j := j) (a := ⟨b', 0, none⟩) (b := ⟨nb, 0, none⟩) Try.underlying120 hj1 hj2 (fun e => hne (congrArg Addr.block e)) HST.out.1 hfn.1
        clear hj1 hj2 hfn
        have hz0 := HZ.out
        simp only [Tr.size] at hz0
        rw [hhole] at hz0
        have HZ0 := Lib.hid hz0
        clear hz0
        by_cases hlt : key < k'
        · go_wp2_with fail
          go_round
          case rel => exact ⟨.left c b' k' d' v' r', l', rfl, ⟨HST.out.1, HST.out.2.2, HC.out⟩, HST.out.2.1, HP.out, by rw [← HFS.out, Tr.find_left hk hlt], by rw [← HDS.out]; simp only [Cx.plug]; rw [Tr.drop, if_neg hk, if_pos hlt]⟩
          case measure => rw [HZ0.out, atSizeR_eq c3 HST.out.2.1]; omega
        · go_wp2_with fail
          go_round
          case rel => exact ⟨.right c b' k' d' v' l', r', rfl, ⟨HST.out.1, HST.out.2.1, HC.out⟩, HST.out.2.2, HP.out, by rw [← HFS.out, Tr.find_right hk hlt], by rw [← HDS.out]; simp only [Cx.plug]; rw [Tr.drop, if_neg hk, if_neg hlt]⟩
          case measure => rw [HZ0.out, atSizeR_eq c4 HST.out.2.2]; omega

theorem dropR_here {w wr : World} {tb : Nat} {t : Tr} (h : HereR w wr tb t) (hz : t.size < 1000000) (key : Int) (nb : Nat) (k d : Int) (x z : Int) (l r : Tr) (hf : Tr.find key t = .node nb k d (.agg #[.int .i64 x, .int .i64 z]) l r) :
    Calls Try.prog 78 #[.pointer (some ⟨tb, 0, none⟩), .int .i64 key] wr fun e w' => e = .returned (.tuple #[.agg #[.int .i64 x, .int .i64 z], .bool true]) ∧ HereR w w' tb (Tr.drop key t) ∧ Only (TB tb t) wr w' := by
  refine (dropR_yes tb t _ key wr h.treap h.ok.sep nb k d x z l r hf).mono ?_
  rintro e w' ⟨he, h2, ho⟩
  refine ⟨he, ⟨?_, Tr.drop_ok h.ok, ?_, h.turn ho⟩, ho⟩
  · have hs := Tr.drop_size (key := key) (t := t) (by rw [hf]; exact fun e => by cases e)
    rwa [show wrap64 ((t.size : Int) - 1) = ((Tr.drop key t).size : Int) by simp [wrap64]; omega] at h2
  · rintro y (rfl | hy)
    · exact h.fresh _ (.inl rfl)
    · exact h.fresh _ (.inr (Tr.drop_has hy))
end Go.Proofs.Ytbijbpnhakbeeaa

/- Package treap at int: Drop, for every tree. By an AI agent. -/
import Derived.LaidEqlPtr
import Derived.Laws.Entries
import Derived.Lib.Builder
import Derived.Deep.RegionWith
import Derived.Test.YtkjehmbaolhmnaaTreapHereI
import Derived.Test.YtkjehmbaolhmnaaTreeHole
namespace Go.Proofs.Ytkjehmbaolhmnaa
open Go.RowKit
theorem neq_ptr_otherI {P : Program} (w : World) {tp te : TypeId} {j : TypeInfo} {a b : Addr} {ca cb : Array Value} {ta tb : TypeId} (hp : P.underlying tp = some (.pointer te)) (hte : P.info? te = some j) (hsz : j.size ≠ 0)
    (hne : a ≠ b) (ha : w.heap[a.block]? = some (.cells ca ta (0, 0))) (hb : w.heap[b.block]? = some (.cells cb tb (0, 0))) :
    (binOp .neq tp (.pointer (some a)) (.pointer (some b))).run P w = .ok (.bool true) w := by
  have h : ∀ d : Nat, (Op.equalIn (d + 1) tp (.pointer (some a)) (.pointer (some b))).run P w = .ok false w := fun d => by
    simp [Op.equalIn, run_underlying hp, sizeOf, typeInfo, hte, hsz, run_sameAddr_other w hne ha hb]
  simp only [binOp]
  simp [Op.equal, Op.maxDepth, h 9999]
theorem infoNdI : (Try.prog.info? 71).map (fun i => i.size) = some 5 := by kernel_rfl
theorem infoNdI_ex : ∃ j, Try.prog.info? 71 = some j ∧ j.size ≠ 0 := by
  have h := infoNdI
  cases e : Try.prog.info? 71 with
  | none => rw [e] at h; cases h
  | some j => rw [e] at h; exact ⟨j, rfl, by simp at h; omega⟩
/-- How many nodes stand below what an address leads to. -/
noncomputable def atSize (T : TypeId) (w : World) : Value → Nat
  | .pointer (some a) => trSize T w ((w.cell? a).getD undef)
  | _ => 0
theorem atSize_eq {T : TypeId} {w : World} {a : Addr} {s : Tr} (hc : w.cell? a = some (.pointer s.adr)) (h : IsTr T w s) : atSize T w (.pointer (some a)) = s.size := by
  show trSize T w ((w.cell? a).getD undef) = _
  rw [hc]; exact trSize_eq h
set_option maxHeartbeats 1000000 in
theorem dropI_no (tb : Nat) (t : Tr) (m key : Int) (w : World) (h : IsTreap 71 65 w tb t m) (hf : Tr.find key t = .nil) :
    Calls Try.prog 14 #[.pointer (some ⟨tb, 0, none⟩), .int .i64 key] w fun e w' => (∃ x : Int, e = .returned (.tuple #[.int .i64 x, .bool false])) ∧ w = w' := by
  have hc := findI_any tb t m key w h
  rw [hf] at hc
  rw [show Tr.nil.adr = none from rfl] at hc
  clear h hf
  go_enter Try.func14, Try.ntmps14
  go_wp2_with fail
  refine hc.mono ?_; clear hc; rintro e w1 ⟨rfl, rfl⟩
  go_wp2
  go_ret2
  exact ⟨⟨_, rfl⟩, rfl⟩
set_option maxRecDepth 100000 in
set_option maxHeartbeats 4000000 in
theorem dropI_yes (tb : Nat) (t : Tr) (m key : Int) (w : World) (h : IsTreap 71 65 w tb t m) (hs : t.sep) (nb : Nat) (k d : Int) (x : Int) (l r : Tr) (hf : Tr.find key t = .node nb k d (.int .i64 x) l r) :
    Calls Try.prog 14 #[.pointer (some ⟨tb, 0, none⟩), .int .i64 key] w fun e w' => e = .returned (.tuple #[.int .i64 x, .bool true]) ∧ IsTreap 71 65 w' tb (Tr.drop key t) (wrap64 (m - 1)) ∧ Only (TB tb t) w w' := by
  have hc := findI_any tb t m key w h
  rw [hf] at hc
  rw [show (Tr.node nb k d (.int .i64 x) l r).adr = some ⟨nb, 0, none⟩ from rfl] at hc
  have HT := Lib.hid h; have HS := Lib.hid hs; have HF := Lib.hid hf
  clear h hs hf
  go_enter Try.func14, Try.ntmps14
  go_wp2_with fail
  refine hc.mono ?_; clear hc; rintro e w1 ⟨rfl, rfl⟩
  go_wp2_with fail
  go_loop [7] (fun p => ∃ (c : Cx) (s : Tr), p = .pointer (some (c.hole tb)) ∧ IsCx 71 65 w tb m c s.adr ∧ IsTr 71 w s ∧ c.plug s = t ∧ Tr.find key s = Tr.find key t ∧ c.plug (Tr.drop key s) = Tr.drop key t) (fun p => atSize 71 w p)
  case atStart => exact ⟨.top, t, rfl, HT.out.head, HT.out.tr, rfl, rfl, rfl⟩
  case round =>
    obtain ⟨c, s, rfl, hcx, hst, hp, hfs, hds⟩ := hrel
    obtain ⟨hc1, hc2⟩ := hcx.cell
    have hsz := atSize_eq hc1 hst
    have HZ := Lib.hid hsz; have HC := Lib.hid hcx; have HP := Lib.hid hp; have HFS := Lib.hid hfs; have HDS := Lib.hid hds; have HST := Lib.hid hst
    obtain ⟨hb, ho, hhole⟩ := c.hole_spot tb
    rw [hhole] at hc1 hc2 ⊢
    cases s with
    | nil =>
      exfalso
      have := HFS.out
      rw [HF.out] at this
      cases this
    | node b' k' d' v' l' r' =>
      obtain ⟨c0, _, _, c3, c4, _, _⟩ := hst.cells
      rw [show (Tr.node b' k' d' v' l' r').adr = some ⟨b', 0, none⟩ from rfl] at hc1
      clear hcx hp hfs hds hsz hst
      by_cases hk : k' = key
      · have he : nb = b' ∧ k = k' ∧ d = d' ∧ .int .i64 x = v' ∧ l = l' ∧ r = r' := by
          have := HFS.out
          rw [HF.out, hk.symm, Tr.find_hit] at this
          simp only [Tr.node.injEq] at this
          obtain ⟨e1, e2, e3, e4, e5, e6⟩ := this
          exact ⟨e1.symm, e2.symm, e3.symm, e4.symm, e5.symm, e6.symm⟩
        obtain ⟨rfl, rfl, rfl, rfl, rfl, rfl⟩ := he
        have hps := HS.out
        rw [← HP.out] at hps
        obtain ⟨ns, cs, nd⟩ := Cx.plug_sep c _ hps
        have hntb : ¬ c.has tb := fun hh => HT.out.ntb (by rw [← HP.out, Cx.plug_has]; exact .inr hh)
        have hnt : nb ≠ tb := fun hh => HT.out.ntb (by rw [← HP.out, Cx.plug_has]; exact .inl (.inl hh.symm))
        have hnh : nb ≠ hb := fun hh => by
          rcases c.hole_block tb with e | e
          · rw [hhole] at e; exact hnt (hh.trans e)
          · rw [hhole] at e; exact nd nb (.inl rfl) (hh ▸ e)
        have hout : ∀ y, (c.has y ∨ y = tb ∨ y = nb) → ¬ (l.has y ∨ r.has y) := fun y hy hlr => by
          rcases hy with hy | rfl | rfl
          · exact nd y (.inr hlr) hy
          · exact HT.out.ntb (by rw [← HP.out, Cx.plug_has]; exact .inl (.inr hlr))
          · exact hlr.elim ns.1 ns.2.1
        have hbin : c.has hb ∨ hb = tb ∨ hb = nb := by
          rcases c.hole_block tb with e | e
          · rw [hhole] at e; exact .inr (.inl e)
          · rw [hhole] at e; exact .inl e
        have HOUT := Lib.hid hout; have HBIN := Lib.hid hbin; have HNT := Lib.hid (And.intro hntb (And.intro hnt hnh)); have HCS := Lib.hid cs; have HND := Lib.hid nd
        have HNS := Lib.hid ns
        clear hps ns cs nd hntb hout hbin
        have hne1 : tb ≠ nb := hnt.symm
        obtain ⟨j, hj1, hj2⟩ := infoNdI_ex
        have hq := Lib.run_neq_ptr_same (P := Try.prog) w (tp := 63) (te := 71) (j := j) ⟨nb, 0, none⟩ Try.underlying63 hj1
        clear hj1 hj2
        go_wp2_with fail
        have hj := fun (W : World) (hW : Adds w W) => joinI_any l r W (HST.out.2.1.only hW (fun _ _ => id)) (HST.out.2.2.only hW (fun _ _ => id)) HNS.out.2.2.2.1 HNS.out.2.2.2.2 HNS.out.2.2.1
        have HJ := Lib.hid hj
        clear hj
        go_region_with ((go_at_call 29; refine (HJ.out _ (Only.refl _ _).drew).mono ?_; rintro e w1 ⟨rfl, hi, ho1⟩; have g1 := ((IsCx.only ((Only.refl _ w).drew.trans (ho1.mono (fun _ _ h => h))) HC.out (HOUT.out tb (.inr (.inl rfl))) (fun y hy => HOUT.out y (.inl hy))) : IsCx 71 65 w1 tb m c _); have g2 := g1.cell; rw [hhole] at g2; have HI := Lib.hid hi; have HG := Lib.hid g1; have HO1 := Lib.hid ho1; obtain ⟨g2, g3⟩ := g2; clear hi ho1 g1))
        all_goals (
          have hb2 := HOUT.out hb HBIN.out
          have hjh : ¬ (Tr.join l r).has hb := fun hh => hb2 ((Tr.join_has ..).1 hh)
          have hcx2 := HG.out.set HCS.out HNT.out.1 (Tr.join l r).adr
          rw [hhole] at hcx2
          have hT2 := (isCx_iff c (Tr.join l r)).2 ⟨hcx2, HI.out.setCell_other hjh _ _⟩
          have hd2 := HDS.out
          rw [Tr.drop, if_pos hk] at hd2
          rw [hd2] at hT2
          have q2 := ((HST.out.1.only ((Only.refl _ w).drew.trans HO1.out) (HOUT.out nb (.inr (.inr rfl)))).setCell_other HNT.out.2.2 ho (.pointer (Tr.join l r).adr)).cell 2
          have p1 := hT2.1.cell 1; have f1 := hT2.1.frozen 1
          have hsub : ∀ y, (l.has y ∨ r.has y) → TB tb t y := fun y hy => .inr (by rw [← HP.out, Cx.plug_has]; exact .inl (.inr hy))
          have hbt : TB tb t hb := by
            rcases c.hole_block tb with e | e
            · rw [hhole] at e; exact .inl e
            · rw [hhole] at e; exact .inr (by rw [← HP.out, Cx.plug_has]; exact .inr e)
          have hO2 : Only (TB tb t) w (w1.setCell ⟨hb, ho, none⟩ (.pointer (Tr.join l r).adr)) := ((Only.refl _ w).drew.trans (HO1.out.mono (fun y _ hy => hsub y hy))).setCell (.inl hbt) _
          have hnd : ¬ (Tr.drop key t).has tb := fun hh => HT.out.ntb (Tr.drop_has hh)
          have HT2 := Lib.hid hT2; have HO2 := Lib.hid hO2
          generalize w1.setCell ⟨hb, ho, none⟩ (.pointer (Tr.join l r).adr) = w2 at *
          clear hcx2 hT2 hd2 hO2 g2 g3 hsub hb2
          go_wp2
          go_ret2
          exact ⟨rfl, ⟨HT2.out.1.setCell 1 _, HT2.out.2.setCell_other hnd _ _, hnd⟩, HO2.out.setCell (.inl (.inl rfl)) _⟩)
      · have hne : b' ≠ nb := fun hh => by
          have hps := HS.out
          rw [← HP.out] at hps
          obtain ⟨ns, _, _⟩ := Cx.plug_sep c _ hps
          have hfs := HFS.out
          rw [HF.out] at hfs
          by_cases hlt : key < k'
          · rw [Tr.find_left hk hlt] at hfs
            exact ns.1 (Tr.find_has (key := key) (by rw [hfs]; exact .inl hh))
          · rw [Tr.find_right hk hlt] at hfs
            exact ns.2.1 (Tr.find_has (key := key) (by rw [hfs]; exact .inl hh))
        have hne2 : nb ≠ b' := hne.symm
        obtain ⟨j, hj1, hj2⟩ := infoNdI_ex
        have hfn := find_cells (key := key) HT.out.tr
        rw [HF.out] at hfn
        have hq := neq_ptr_otherI (P := Try.prog) w (tp := 63) (te := 71) (j := j) (a := ⟨b', 0, none⟩) (b := ⟨nb, 0, none⟩) Try.underlying63 hj1 hj2 (fun e => hne (congrArg Addr.block e)) HST.out.1 hfn.1
        clear hj1 hj2 hfn
        have hz0 := HZ.out
        simp only [Tr.size] at hz0
        rw [hhole] at hz0
        have HZ0 := Lib.hid hz0
        clear hz0
        by_cases hlt : key < k'
        · go_wp2_with fail
          go_round
          case rel => exact ⟨.left c b' k' d' v' r', l', rfl, ⟨HST.out.1, HST.out.2.2, HC.out⟩, HST.out.2.1, HP.out, by rw [← HFS.out, Tr.find_left hk hlt], by rw [← HDS.out]; simp only [Cx.plug]; rw [Tr.drop, if_neg hk, if_pos hlt]⟩
          case measure => rw [HZ0.out, atSize_eq c3 HST.out.2.1]; omega
        · go_wp2_with fail
          go_round
          case rel => exact ⟨.right c b' k' d' v' l', r', rfl, ⟨HST.out.1, HST.out.2.1, HC.out⟩, HST.out.2.2, HP.out, by rw [← HFS.out, Tr.find_right hk hlt], by rw [← HDS.out]; simp only [Cx.plug]; rw [Tr.drop, if_neg hk, if_neg hlt]⟩
          case measure => rw [HZ0.out, atSize_eq c4 HST.out.2.2]; omega

theorem dropI_here {w wr : World} {tb : Nat} {t : Tr} (h : HereI w wr tb t) (hz : t.size < 1000000) (key : Int) (nb : Nat) (k d : Int) (x : Int) (l r : Tr) (hf : Tr.find key t = .node nb k d (.int .i64 x) l r) :
    Calls Try.prog 14 #[.pointer (some ⟨tb, 0, none⟩), .int .i64 key] wr fun e w' => e = .returned (.tuple #[.int .i64 x, .bool true]) ∧ HereI w w' tb (Tr.drop key t) ∧ Only (TB tb t) wr w' := by
  refine (dropI_yes tb t _ key wr h.treap h.ok.sep nb k d x l r hf).mono ?_
  rintro e w' ⟨he, h2, ho⟩
  refine ⟨he, ⟨?_, Tr.drop_ok h.ok, ?_, h.turn ho⟩, ho⟩
  · have hs := Tr.drop_size (key := key) (t := t) (by rw [hf]; exact fun e => by cases e)
    rwa [show wrap64 ((t.size : Int) - 1) = ((Tr.drop key t).size : Int) by simp [wrap64]; omega] at h2
  · rintro y (rfl | hy)
    · exact h.fresh _ (.inl rfl)
    · exact h.fresh _ (.inr (Tr.drop_has hy))
end Go.Proofs.Ytkjehmbaolhmnaa

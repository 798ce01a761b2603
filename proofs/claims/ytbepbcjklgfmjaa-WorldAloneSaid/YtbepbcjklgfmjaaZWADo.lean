/- WorldAlone: a step of a machine. By an AI agent. -/
import Derived.Test.YtbepbcjklgfmjaaZWASt
import Derived.Test.YtbepbcjklgfmjaaZD
import Derived.Deep.RegionHeld3
import Derived.Deep.DeepCutAuto
import Derived.Deep.CutBlock
import Derived.Deep.WholeRow
namespace Go.Proofs.Ytbepbcjklgfmjaa
open Go.RowKit
set_option linter.unusedSimpArgs false
set_option linter.unusedVariables false
/-- What do leaves. -/
def DoQ (P T : Int) (p ab sb sm rb : Nat) (s : StoreS) (k : WdS) (w : World) (e : Ending) (w' : World) : Prop := e = .returned (.tuple #[didV (k.ac.act s), .bool (k.nx s).got, .int .i64 (k.nx s).gen]) ∧ WdA P T w' p (k.nx s) ∧ Yard w' ab sb sm rb P T (k.ac.act s) ∧ Only (fun j => SB sb sm j ∨ j = p) w w'
section
variable {w : World} {m p b ab sb sm rb : Nat} {P T : Int} {s : StoreS}
theorem wdBlk {c : Value → Array Value} {t : TypeId} {k : DK} (h : Desk w m c t k) : ∃ nx, Blk w m (c nx) t := by
  obtain ⟨nx, h1, _⟩ := h.blk
  exact ⟨nx, h1⟩
theorem enterTold {k : EnSt} (h : WdA P T w m ((WdS.enter k).nx s)) : (Calls Try.prog 20 #[.pointer (some ⟨m, 0, none⟩)] w fun e w' => e = .returned (.bool ((WdS.enter k).nx s).got) ∧ w = w') ∧ (Calls Try.prog 21 #[.pointer (some ⟨m, 0, none⟩)] w fun e w' => e = .returned (.int .i64 ((WdS.enter k).nx s).gen) ∧ w = w') := by
  cases hg : k.isGen with
  | true =>
    have e1 : (WdS.enter k).nx s = .entered (s.word 0) := by simp [WdS.nx, hg]
    rw [e1] at h ⊢
    obtain ⟨nx, hb⟩ := wdBlk (show Desk w m (enC P T (s.word 0)) 91 .done from h)
    exact ⟨enterDone_yes h, enterGen_any hb⟩
  | false =>
    have e1 : (WdS.enter k).nx s = .enter (k.next (s.word k.ac.pos)) := by simp [WdS.nx, hg]
    rw [e1] at h ⊢
    obtain ⟨j, h1, h2⟩ := (show IsEnter w m P T 0 _ from h)
    obtain ⟨nx, hb⟩ := wdBlk h2
    exact ⟨enterDone_no h, enterGen_any hb⟩
theorem stopTold {k : StSt} (h : WdA P T w m ((WdS.stop k).nx s)) : (Calls Try.prog 25 #[.pointer (some ⟨m, 0, none⟩)] w fun e w' => e = .returned (.bool ((WdS.stop k).nx s).got) ∧ w = w') ∧ (Calls Try.prog 26 #[.pointer (some ⟨m, 0, none⟩)] w fun e w' => e = .returned (.int .i64 ((WdS.stop k).nx s).gen) ∧ w = w') := by
  cases hg : k.isGen with
  | true =>
    have e1 : (WdS.stop k).nx s = .stopped (s.word 0) := by simp [WdS.nx, hg]
    rw [e1] at h ⊢
    obtain ⟨nx, hb⟩ := wdBlk (show Desk w m (stC P T (s.word 0)) 97 .done from h)
    exact ⟨worldStopDone_yes (Blk.cell h 2), stopGen_any hb⟩
  | false =>
    have e1 : (WdS.stop k).nx s = .stop (k.next (s.word k.ac.pos)) := by simp [WdS.nx, hg]
    rw [e1] at h ⊢
    obtain ⟨j, h1, h2⟩ := (show IsStop w m P T 0 _ from h)
    obtain ⟨nx, hb⟩ := wdBlk h2
    exact ⟨stopDone_no h, stopGen_any hb⟩
theorem exitTold (h : WdA P T w m (WdS.exit.nx s)) : Calls Try.prog 23 #[.pointer (some ⟨m, 0, none⟩)] w fun e w' => e = .returned (.bool true) ∧ w = w' := worldExitDone_yes (Blk.cell h 2)
theorem goTold (h : WdA P T w m (WdS.go.nx s)) : Calls Try.prog 28 #[.pointer (some ⟨m, 0, none⟩)] w fun e w' => e = .returned (.bool true) ∧ w = w' := worldGoDone_yes (Blk.cell h 2)
theorem do_end {w W v1 : World} {p ab sb sm rb D : Nat} {P T nv ka kp ko kn : Int} {gv : Bool} {s : StoreS} {k : WdS} (hO : Adds w W) (h1 : WdA P T v1 p (k.nx s)) (h2 : Yard v1 ab sb sm rb P T (k.ac.act s)) (h3 : Only (fun j => SB sb sm j ∨ j = p) W.drew v1) (hnd : ¬ (SB sb sm D ∨ D = p)) (hD : w.heap.size ≤ D) (hb : Blk v1 D #[.int .i64 0, .int .i64 0, .int .u64 0, .int .u64 0] 37) (hdv : didV (k.ac.act s) = .agg #[.int .i64 ka, .int .i64 kp, .int .u64 ko, .int .u64 kn]) (hgv : (k.nx s).got = gv) (hnv : (k.nx s).gen = nv) :
    Blk ((((v1.setCell ⟨D, 0, none⟩ (.int .i64 ka)).setCell ⟨D, 1, none⟩ (.int .i64 kp)).setCell ⟨D, 2, none⟩ (.int .u64 ko)).setCell ⟨D, 3, none⟩ (.int .u64 kn)) D #[.int .i64 ka, .int .i64 kp, .int .u64 ko, .int .u64 kn] 37 ∧ DoQ P T p ab sb sm rb s k w (.returned (.tuple #[.agg #[.int .i64 ka, .int .i64 kp, .int .u64 ko, .int .u64 kn], .bool gv, .int .i64 nv])) ((((v1.setCell ⟨D, 0, none⟩ (.int .i64 ka)).setCell ⟨D, 1, none⟩ (.int .i64 kp)).setCell ⟨D, 2, none⟩ (.int .u64 ko)).setCell ⟨D, 3, none⟩ (.int .u64 kn)) := by
  have ho : Only (· = D) v1 ((((v1.setCell ⟨D, 0, none⟩ (.int .i64 ka)).setCell ⟨D, 1, none⟩ (.int .i64 kp)).setCell ⟨D, 2, none⟩ (.int .u64 ko)).setCell ⟨D, 3, none⟩ (.int .u64 kn)) :=
    ((((Only.refl (fun j => j = D) v1).setCell (p := ⟨D, 0, none⟩) (.inl rfl) _).setCell (p := ⟨D, 1, none⟩) (.inl rfl) _).setCell (p := ⟨D, 2, none⟩) (.inl rfl) _).setCell (p := ⟨D, 3, none⟩) (.inl rfl) _
  have h4 : Only (fun j => SB sb sm j ∨ j = p) w v1 := (hO.mono (fun _ _ h => h.elim)).trans ((Only.refl (fun j => SB sb sm j ∨ j = p) W).drew.trans h3)
  refine ⟨(((hb.setCell 0 _).setCell 1 _).setCell 2 _).setCell 3 _, by rw [hdv, hgv, hnv], (wdO P T).keep h1 ho (fun e => hnd (.inr e.symm)) (fun b x u hx e => by subst e; have := congrArg Array.size (hb.uniq hx).1; simp at this), h2.dids (ho.mono (fun y _ e => by have e2 : y = D := e; subst e2; exact ⟨_, hb⟩)), ?_⟩
  exact h4.andThen ho (fun y hy e => by have : y = D := e; omega)

set_option maxRecDepth 100000 in
set_option maxHeartbeats 4000000 in
theorem doEnter_any {ke : EnSt} (hm : Blk w m (machC 0 p b) 46) (h : WdA P T w p (.enter ke)) (hY : Yard w ab sb sm rb P T s) (hbig : 4 < s.ws.length) (hz : s.word 0 < 9223372036854775808) (hf : (WdS.fits (.enter ke))) :
    Calls Try.prog 7 #[.pointer (some ⟨m, 0, none⟩), .pointer (some ⟨ab, 0, none⟩)] w (DoQ P T p ab sb sm rb s (.enter ke) w) := by
  obtain ⟨ka, hka⟩ : ∃ v, (WdS.ac (.enter ke) |>.act s).k = v := ⟨_, rfl⟩
  obtain ⟨kp, hkp⟩ : ∃ v, (WdS.ac (.enter ke) |>.act s).pos = v := ⟨_, rfl⟩
  obtain ⟨ko, hko⟩ : ∃ v, (WdS.ac (.enter ke) |>.act s).old = v := ⟨_, rfl⟩
  obtain ⟨kn, hkn⟩ : ∃ v, (WdS.ac (.enter ke) |>.act s).new = v := ⟨_, rfl⟩
  have hdv : didV (WdS.ac (.enter ke) |>.act s) = .agg #[.int .i64 ka, .int .i64 kp, .int .u64 ko, .int .u64 kn] := by unfold didV; rw [hka, hkp, hko, hkn]
  obtain ⟨gv, hgv⟩ : ∃ v, (WdS.nx s (.enter ke)).got = v := ⟨_, rfl⟩
  obtain ⟨nv, hnv⟩ : ∃ v, (WdS.nx s (.enter ke)).gen = v := ⟨_, rfl⟩
  have c0 : w.cell? ⟨m, 0, none⟩ = some (.pointer (some ⟨p, 0, none⟩)) := hm.cell 0
  have c1 : w.cell? ⟨m, 1, none⟩ = some (.pointer none) := hm.cell 1
  have c2 : w.cell? ⟨m, 2, none⟩ = some (.pointer none) := hm.cell 2
  have c3 : w.cell? ⟨m, 3, none⟩ = some (.pointer none) := hm.cell 3
  obtain ⟨D, hD⟩ : ∃ D, w.heap.size = D := ⟨_, rfl⟩
  obtain ⟨W, hW⟩ : ∃ W, w.alloc (.cells #[.int .i64 0, .int .i64 0, .int .u64 0, .int .u64 0] 37) = W := ⟨_, rfl⟩
  have hdb : Blk W D #[.int .i64 0, .int .i64 0, .int .u64 0, .int .u64 0] 37 := by rw [← hW, ← hD]; exact Blk.new w _ _
  have hO : Adds w W := by rw [← hW]; exact (Only.refl (fun _ => False) w).alloc _
  have c0 := cell_al c0 hO; have c1 := cell_al c1 hO; have c2 := cell_al c2 hO; have c3 := cell_al c3 hO
  have hne : ¬ (SB sb sm m ∨ m = p) := by
    obtain ⟨cc, tt, hb1, hs1, ht1⟩ := (wdO P T).blk h
    rintro ((e | e) | e)
    · subst e; have := (hm.uniq hY.st.head).2; revert this; decide
    · subst e; have := (hm.uniq hY.st.row).2; revert this; decide
    · subst e; rw [← (hm.uniq hb1).2] at ht1; revert ht1; decide
  have hnd : ¬ (SB sb sm D ∨ D = p) := by
    obtain ⟨cc, tt, hb1, _⟩ := (wdO P T).blk h
    have z1 := hY.st.head.lt; have z2 := hY.st.row.lt; have z3 := hb1.lt
    rintro ((e | e) | e) <;> omega
  have HST : Hid (∀ V, Adds W V → Calls Try.prog 19 #[.pointer (some ⟨p, 0, none⟩), .pointer (some ⟨ab, 0, none⟩)] V fun e w2 => e = .returned (.agg #[.int .i64 ka, .int .i64 kp, .int .u64 ko, .int .u64 kn]) ∧ Hid (WdA P T w2 p (WdS.nx s (.enter ke)) ∧ Yard w2 ab sb sm rb P T (WdS.ac (.enter ke) |>.act s) ∧ Only (fun j => SB sb sm j ∨ j = p) V w2)) := Lib.hid (fun V hA => by
    have h1 := (wdO P T).keep h (hO.thenF hA) id (fun _ _ _ _ => id)
    have hy1 := hY.adds (hO.thenF hA)
    exact (wdEnter h1 hy1 hbig hz).mono (fun e w2 q => ⟨by rw [← hdv]; exact q.1, Lib.hid q.2⟩))
  have HTD : Hid (∀ V, WdA P T V p (WdS.nx s (.enter ke)) → Calls Try.prog 20 #[.pointer (some ⟨p, 0, none⟩)] V fun e w' => e = .returned (.bool gv) ∧ V = w') := Lib.hid (fun V h1 => by rw [← hgv]; exact (enterTold h1).1)
  have HTG : Hid (∀ V, WdA P T V p (WdS.nx s (.enter ke)) → Calls Try.prog 21 #[.pointer (some ⟨p, 0, none⟩)] V fun e w' => e = .returned (.int .i64 nv) ∧ V = w') := Lib.hid (fun V h1 => by rw [← hnv]; exact (enterTold h1).2)
  have HDB := Lib.hid hdb; have HO := Lib.hid hO; have HDV := Lib.hid hdv; have HGV := Lib.hid hgv; have HNV := Lib.hid hnv; have HNE := Lib.hid hne; have HND := Lib.hid hnd
  have HDL := Lib.hid hD
  have HMD := Lib.hid (show ¬ D = m by have := hm.lt; omega)
  clear hdb hO hdv hgv hnv hne hnd hka hkp hko hkn h hm hY hbig hz hf
  go_enter Try.func7, Try.ntmps7
  go_upto_region 2 with fail
  refine wp_region_held_drew (S := (fun V => V.cell? ⟨m, 0, none⟩ = some (.pointer (some ⟨p, 0, none⟩)))) (by kernel_rfl) c0 (fun hHeld => ?_)
  refine wpAnyH_take (i := 0) (v := (.pointer (some ⟨m, 0, none⟩))) rfl (by kernel_rfl) (by kernel_rfl) (by kernel_rfl) (fun _ _ _ h => h) (Or.inl ⟨by rfl, fun W hS => by first | rfl | (go_simp; done)⟩) hHeld ?_
  try simp only [Act.put, List.getElem_toArray, List.getElem_cons_succ, List.getElem_cons_zero, List.setIfInBounds_toArray, List.set_cons_zero, List.set_cons_succ]
  refine wpAnyH_take (i := 1) (v := (.pointer (some ⟨m, 0, none⟩))) rfl (by kernel_rfl) (by kernel_rfl) (by kernel_rfl) (fun _ _ _ h => h) (Or.inl ⟨by rfl, fun W hS => by first | rfl | (go_simp; done)⟩) hHeld ?_
  try simp only [Act.put, List.getElem_toArray, List.getElem_cons_succ, List.getElem_cons_zero, List.setIfInBounds_toArray, List.set_cons_zero, List.set_cons_succ]
  refine wpAnyH_take (i := 2) (v := (.pointer (some ⟨m, 0, none⟩))) rfl (by kernel_rfl) (by kernel_rfl) (by kernel_rfl) (fun _ _ _ h => h) (Or.inl ⟨by rfl, fun W hS => by first | rfl | (go_simp; done)⟩) hHeld ?_
  try simp only [Act.put, List.getElem_toArray, List.getElem_cons_succ, List.getElem_cons_zero, List.setIfInBounds_toArray, List.set_cons_zero, List.set_cons_succ]
  refine wpAnyH_take (i := 3) (v := (.pointer (some ⟨p, 0, none⟩))) rfl (by kernel_rfl) (by kernel_rfl) (by kernel_rfl) (fun _ _ _ h => h) (Or.inl ⟨by rfl, fun W hS => by (obtain q1 := hS; go_simp; done)⟩) hHeld ?_
  try simp only [Act.put, List.getElem_toArray, List.getElem_cons_succ, List.getElem_cons_zero, List.setIfInBounds_toArray, List.set_cons_zero, List.set_cons_succ]
  refine wpAnyH_take (i := 4) (v := (.pointer (some ⟨ab, 0, none⟩))) rfl (by kernel_rfl) (by kernel_rfl) (by kernel_rfl) (fun _ _ _ h => h) (Or.inl ⟨by rfl, fun W hS => by first | rfl | (go_simp; done)⟩) hHeld ?_
  try simp only [Act.put, List.getElem_toArray, List.getElem_cons_succ, List.getElem_cons_zero, List.setIfInBounds_toArray, List.set_cons_zero, List.set_cons_succ]
  refine wpAnyH_take (i := 6) (v := (.pointer (some ⟨m, 0, none⟩))) rfl (by kernel_rfl) (by kernel_rfl) (by kernel_rfl) (fun _ _ _ h => h) (Or.inl ⟨by rfl, fun W hS => by first | rfl | (go_simp; done)⟩) hHeld ?_
  try simp only [Act.put, List.getElem_toArray, List.getElem_cons_succ, List.getElem_cons_zero, List.setIfInBounds_toArray, List.set_cons_zero, List.set_cons_succ]
  refine wpAnyH_take (i := 7) (v := (.pointer (some ⟨m, 0, none⟩))) rfl (by kernel_rfl) (by kernel_rfl) (by kernel_rfl) (fun _ _ _ h => h) (Or.inl ⟨by rfl, fun W hS => by first | rfl | (go_simp; done)⟩) hHeld ?_
  try simp only [Act.put, List.getElem_toArray, List.getElem_cons_succ, List.getElem_cons_zero, List.setIfInBounds_toArray, List.set_cons_zero, List.set_cons_succ]
  refine wpAnyH_take (i := 8) (v := (.pointer (some ⟨m, 0, none⟩))) rfl (by kernel_rfl) (by kernel_rfl) (by kernel_rfl) (fun _ _ _ h => h) (Or.inl ⟨by rfl, fun W hS => by first | rfl | (go_simp; done)⟩) hHeld ?_
  try simp only [Act.put, List.getElem_toArray, List.getElem_cons_succ, List.getElem_cons_zero, List.setIfInBounds_toArray, List.set_cons_zero, List.set_cons_succ]
  refine wpAnyH_take (i := 9) (v := (.pointer (some ⟨p, 0, none⟩))) rfl (by kernel_rfl) (by kernel_rfl) (by kernel_rfl) (fun _ _ _ h => h) (Or.inl ⟨by rfl, fun W hS => by (obtain q1 := hS; go_simp; done)⟩) hHeld ?_
  try simp only [Act.put, List.getElem_toArray, List.getElem_cons_succ, List.getElem_cons_zero, List.setIfInBounds_toArray, List.set_cons_zero, List.set_cons_succ]
  refine wpAnyH_take (i := 11) (v := (.pointer (some ⟨m, 0, none⟩))) rfl (by kernel_rfl) (by kernel_rfl) (by kernel_rfl) (fun _ _ _ h => h) (Or.inl ⟨by rfl, fun W hS => by first | rfl | (go_simp; done)⟩) hHeld ?_
  try simp only [Act.put, List.getElem_toArray, List.getElem_cons_succ, List.getElem_cons_zero, List.setIfInBounds_toArray, List.set_cons_zero, List.set_cons_succ]
  refine wpAnyH_take (i := 12) (v := (.pointer (some ⟨m, 0, none⟩))) rfl (by kernel_rfl) (by kernel_rfl) (by kernel_rfl) (fun _ _ _ h => h) (Or.inl ⟨by rfl, fun W hS => by first | rfl | (go_simp; done)⟩) hHeld ?_
  try simp only [Act.put, List.getElem_toArray, List.getElem_cons_succ, List.getElem_cons_zero, List.setIfInBounds_toArray, List.set_cons_zero, List.set_cons_succ]
  refine wpAnyH_take (i := 13) (v := (.pointer (some ⟨m, 0, none⟩))) rfl (by kernel_rfl) (by kernel_rfl) (by kernel_rfl) (fun _ _ _ h => h) (Or.inl ⟨by rfl, fun W hS => by first | rfl | (go_simp; done)⟩) hHeld ?_
  try simp only [Act.put, List.getElem_toArray, List.getElem_cons_succ, List.getElem_cons_zero, List.setIfInBounds_toArray, List.set_cons_zero, List.set_cons_succ]
  refine wpAnyH_take (i := 14) (v := (.pointer (some ⟨p, 0, none⟩))) rfl (by kernel_rfl) (by kernel_rfl) (by kernel_rfl) (fun _ _ _ h => h) (Or.inl ⟨by rfl, fun W hS => by (obtain q1 := hS; go_simp; done)⟩) hHeld ?_
  try simp only [Act.put, List.getElem_toArray, List.getElem_cons_succ, List.getElem_cons_zero, List.setIfInBounds_toArray, List.set_cons_zero, List.set_cons_succ]
  refine wpAnyH_ready (rs := [5]) (by kernel_rfl) (by simp) (AllReadyH.cons rfl (fun K hK => ?_) AllReadyH.nil)
  simp only [List.getElem_toArray, List.getElem_cons_succ, List.getElem_cons_zero]
  go_simp
  refine (HST.out _ ((Only.refl (fun _ => False) W).drew)).mono ?_
  rintro e v1 ⟨rfl, HV⟩
  have hb1 := (HDB.out.only ((Only.refl (fun _ => False) W).drew) id).only HV.out.2.2 HND.out
  obtain ⟨d0, d1, d2, d3, e0, e1, e2, e3⟩ := hb1.four
  have HB1 := Lib.hid hb1
  clear hb1
  refine hK.out _ _ ((HV.out.2.2.cellF (p := ⟨m, 0, none⟩) (cell_lt hHeld) HNE.out).trans hHeld) (fun hHeld => ?_)
  clear hK K
  try simp only [Act.put, List.getElem_toArray, List.getElem_cons_succ, List.getElem_cons_zero, List.setIfInBounds_toArray, List.set_cons_zero, List.set_cons_succ]
  refine wpAnyH_ready (rs := [10]) (by kernel_rfl) (by simp) (AllReadyH.cons rfl (fun K hK => ?_) AllReadyH.nil)
  simp only [List.getElem_toArray, List.getElem_cons_succ, List.getElem_cons_zero]
  go_simp
  refine (HTD.out _ HV.out.1).mono ?_
  rintro e v2 ⟨rfl, rfl⟩
  refine hK.out _ _ hHeld (fun hHeld => ?_)
  clear hK K
  try simp only [Act.put, List.getElem_toArray, List.getElem_cons_succ, List.getElem_cons_zero, List.setIfInBounds_toArray, List.set_cons_zero, List.set_cons_succ]
  refine wpAnyH_ready (rs := [15]) (by kernel_rfl) (by simp) (AllReadyH.cons rfl (fun K hK => ?_) AllReadyH.nil)
  simp only [List.getElem_toArray, List.getElem_cons_succ, List.getElem_cons_zero]
  go_simp
  refine (HTG.out _ HV.out.1).mono ?_
  rintro e v2 ⟨rfl, rfl⟩
  refine hK.out _ _ hHeld (fun hHeld => ?_)
  clear hK K
  try simp only [Act.put, List.getElem_toArray, List.getElem_cons_succ, List.getElem_cons_zero, List.setIfInBounds_toArray, List.set_cons_zero, List.set_cons_succ]
  refine wpAnyH_ready (rs := [16]) (by kernel_rfl) (by simp) (AllReadyH.cons rfl (fun K hK => ?_) AllReadyH.nil)
  simp only [List.getElem_toArray, List.getElem_cons_succ, List.getElem_cons_zero]
  go_simp
  have hmD : ¬ D = m := HMD.out
  have hh := hHeld
  refine hK.out _ _ (by rw [World.cell?_setCell_far _ _ _ _ hmD, World.cell?_setCell_far _ _ _ _ hmD, World.cell?_setCell_far _ _ _ _ hmD, World.cell?_setCell_far _ _ _ _ hmD]; exact hh) (fun hHeld => ?_)
  clear hK
  try simp only [Act.put, List.getElem_toArray, List.getElem_cons_succ, List.getElem_cons_zero, List.setIfInBounds_toArray, List.set_cons_zero, List.set_cons_succ]
  refine wpAnyH_take (i := 17) (v := (.bool gv)) rfl (by kernel_rfl) (by kernel_rfl) (by kernel_rfl) (fun _ _ _ h => h) (Or.inl ⟨by rfl, fun W hS => by first | rfl | (go_simp; done)⟩) hHeld ?_
  try simp only [Act.put, List.getElem_toArray, List.getElem_cons_succ, List.getElem_cons_zero, List.setIfInBounds_toArray, List.set_cons_zero, List.set_cons_succ]
  refine wpAnyH_take (i := 18) (v := (.int .i64 nv)) rfl (by kernel_rfl) (by kernel_rfl) (by kernel_rfl) (fun _ _ _ h => h) (Or.inl ⟨by rfl, fun W hS => by first | rfl | (go_simp; done)⟩) hHeld ?_
  try simp only [Act.put, List.getElem_toArray, List.getElem_cons_succ, List.getElem_cons_zero, List.setIfInBounds_toArray, List.set_cons_zero, List.set_cons_succ]
  refine wpAnyH_done (by kernel_rfl) ?_ _
  go_wp2_with fail
  obtain ⟨hb9, hq9⟩ := do_end (nv := nv) HO.out HV.out.1 HV.out.2.1 HV.out.2.2 HND.out (Nat.le_of_eq HDL.out) HB1.out HDV.out HGV.out HNV.out
  obtain ⟨r0, r1, r2, r3, -⟩ := hb9.four
  exact bodyPost_ret (v := .tuple #[.agg #[.int .i64 ka, .int .i64 kp, .int .u64 ko, .int .u64 kn], .bool gv, .int .i64 nv]) (by simp [r0, r1, r2, r3, results, Try.results7, go_sem]) rfl hq9
set_option maxRecDepth 100000 in
set_option maxHeartbeats 4000000 in
theorem doExit_any (hm : Blk w m (machC 1 p b) 46) (h : WdA P T w p .exit) (hY : Yard w ab sb sm rb P T s) (hbig : 4 < s.ws.length) (hz : s.word 0 < 9223372036854775808) (hf : (WdS.fits .exit)) :
    Calls Try.prog 7 #[.pointer (some ⟨m, 0, none⟩), .pointer (some ⟨ab, 0, none⟩)] w (DoQ P T p ab sb sm rb s .exit w) := by
  obtain ⟨ka, hka⟩ : ∃ v, (WdS.ac .exit |>.act s).k = v := ⟨_, rfl⟩
  obtain ⟨kp, hkp⟩ : ∃ v, (WdS.ac .exit |>.act s).pos = v := ⟨_, rfl⟩
  obtain ⟨ko, hko⟩ : ∃ v, (WdS.ac .exit |>.act s).old = v := ⟨_, rfl⟩
  obtain ⟨kn, hkn⟩ : ∃ v, (WdS.ac .exit |>.act s).new = v := ⟨_, rfl⟩
  have hdv : didV (WdS.ac .exit |>.act s) = .agg #[.int .i64 ka, .int .i64 kp, .int .u64 ko, .int .u64 kn] := by unfold didV; rw [hka, hkp, hko, hkn]
  obtain ⟨gv, hgv⟩ : ∃ v, (WdS.nx s .exit).got = v := ⟨_, rfl⟩
  obtain ⟨nv, hnv⟩ : ∃ v, (WdS.nx s .exit).gen = v := ⟨_, rfl⟩
  have c0 : w.cell? ⟨m, 0, none⟩ = some (.pointer none) := hm.cell 0
  have c1 : w.cell? ⟨m, 1, none⟩ = some (.pointer (some ⟨p, 0, none⟩)) := hm.cell 1
  have c2 : w.cell? ⟨m, 2, none⟩ = some (.pointer none) := hm.cell 2
  have c3 : w.cell? ⟨m, 3, none⟩ = some (.pointer none) := hm.cell 3
  obtain ⟨D, hD⟩ : ∃ D, w.heap.size = D := ⟨_, rfl⟩
  obtain ⟨W, hW⟩ : ∃ W, w.alloc (.cells #[.int .i64 0, .int .i64 0, .int .u64 0, .int .u64 0] 37) = W := ⟨_, rfl⟩
  have hdb : Blk W D #[.int .i64 0, .int .i64 0, .int .u64 0, .int .u64 0] 37 := by rw [← hW, ← hD]; exact Blk.new w _ _
  have hO : Adds w W := by rw [← hW]; exact (Only.refl (fun _ => False) w).alloc _
  have c0 := cell_al c0 hO; have c1 := cell_al c1 hO; have c2 := cell_al c2 hO; have c3 := cell_al c3 hO
  have hne : ¬ (SB sb sm m ∨ m = p) := by
    obtain ⟨cc, tt, hb1, hs1, ht1⟩ := (wdO P T).blk h
    rintro ((e | e) | e)
    · subst e; have := (hm.uniq hY.st.head).2; revert this; decide
    · subst e; have := (hm.uniq hY.st.row).2; revert this; decide
    · subst e; rw [← (hm.uniq hb1).2] at ht1; revert ht1; decide
  have hnd : ¬ (SB sb sm D ∨ D = p) := by
    obtain ⟨cc, tt, hb1, _⟩ := (wdO P T).blk h
    have z1 := hY.st.head.lt; have z2 := hY.st.row.lt; have z3 := hb1.lt
    rintro ((e | e) | e) <;> omega
  have HST : Hid (∀ V, Adds W V → Calls Try.prog 22 #[.pointer (some ⟨p, 0, none⟩), .pointer (some ⟨ab, 0, none⟩)] V fun e w2 => e = .returned (.agg #[.int .i64 ka, .int .i64 kp, .int .u64 ko, .int .u64 kn]) ∧ Hid (WdA P T w2 p (WdS.nx s .exit) ∧ Yard w2 ab sb sm rb P T (WdS.ac .exit |>.act s) ∧ Only (fun j => SB sb sm j ∨ j = p) V w2)) := Lib.hid (fun V hA => by
    have h1 := (wdO P T).keep h (hO.thenF hA) id (fun _ _ _ _ => id)
    have hy1 := hY.adds (hO.thenF hA)
    exact (wdExit h1 hy1 hbig).mono (fun e w2 q => ⟨by rw [← hdv]; exact q.1, Lib.hid q.2⟩))
  have HTD : Hid (∀ V, WdA P T V p (WdS.nx s .exit) → Calls Try.prog 23 #[.pointer (some ⟨p, 0, none⟩)] V fun e w' => e = .returned (.bool gv) ∧ V = w') := Lib.hid (fun V h1 => by rw [← hgv]; exact exitTold h1)
  have HDB := Lib.hid hdb; have HO := Lib.hid hO; have HDV := Lib.hid hdv; have HGV := Lib.hid hgv; have HNV := Lib.hid hnv; have HNE := Lib.hid hne; have HND := Lib.hid hnd
  have HDL := Lib.hid hD
  have HMD := Lib.hid (show ¬ D = m by have := hm.lt; omega)
  clear hdb hO hdv hgv hnv hne hnd hka hkp hko hkn h hm hY hbig hz hf
  go_enter Try.func7, Try.ntmps7
  go_upto_region 4 with fail
  refine wp_region_held_drew (S := (fun V => V.cell? ⟨m, 1, none⟩ = some (.pointer (some ⟨p, 0, none⟩)))) (by kernel_rfl) c1 (fun hHeld => ?_)
  refine wpAnyH_take (i := 0) (v := (.pointer (some ⟨m, 0, none⟩))) rfl (by kernel_rfl) (by kernel_rfl) (by kernel_rfl) (fun _ _ _ h => h) (Or.inl ⟨by rfl, fun W hS => by first | rfl | (go_simp; done)⟩) hHeld ?_
  try simp only [Act.put, List.getElem_toArray, List.getElem_cons_succ, List.getElem_cons_zero, List.setIfInBounds_toArray, List.set_cons_zero, List.set_cons_succ]
  refine wpAnyH_take (i := 1) (v := (.pointer (some ⟨m, 0, none⟩))) rfl (by kernel_rfl) (by kernel_rfl) (by kernel_rfl) (fun _ _ _ h => h) (Or.inl ⟨by rfl, fun W hS => by first | rfl | (go_simp; done)⟩) hHeld ?_
  try simp only [Act.put, List.getElem_toArray, List.getElem_cons_succ, List.getElem_cons_zero, List.setIfInBounds_toArray, List.set_cons_zero, List.set_cons_succ]
  refine wpAnyH_take (i := 2) (v := (.pointer (some ⟨m, 1, none⟩))) rfl (by kernel_rfl) (by kernel_rfl) (by kernel_rfl) (fun _ _ _ h => h) (Or.inl ⟨by rfl, fun W hS => by first | rfl | (go_simp; done)⟩) hHeld ?_
  try simp only [Act.put, List.getElem_toArray, List.getElem_cons_succ, List.getElem_cons_zero, List.setIfInBounds_toArray, List.set_cons_zero, List.set_cons_succ]
  refine wpAnyH_take (i := 3) (v := (.pointer (some ⟨p, 0, none⟩))) rfl (by kernel_rfl) (by kernel_rfl) (by kernel_rfl) (fun _ _ _ h => h) (Or.inl ⟨by rfl, fun W hS => by (obtain q1 := hS; go_simp; done)⟩) hHeld ?_
  try simp only [Act.put, List.getElem_toArray, List.getElem_cons_succ, List.getElem_cons_zero, List.setIfInBounds_toArray, List.set_cons_zero, List.set_cons_succ]
  refine wpAnyH_take (i := 4) (v := (.pointer (some ⟨ab, 0, none⟩))) rfl (by kernel_rfl) (by kernel_rfl) (by kernel_rfl) (fun _ _ _ h => h) (Or.inl ⟨by rfl, fun W hS => by first | rfl | (go_simp; done)⟩) hHeld ?_
  try simp only [Act.put, List.getElem_toArray, List.getElem_cons_succ, List.getElem_cons_zero, List.setIfInBounds_toArray, List.set_cons_zero, List.set_cons_succ]
  refine wpAnyH_take (i := 6) (v := (.pointer (some ⟨m, 0, none⟩))) rfl (by kernel_rfl) (by kernel_rfl) (by kernel_rfl) (fun _ _ _ h => h) (Or.inl ⟨by rfl, fun W hS => by first | rfl | (go_simp; done)⟩) hHeld ?_
  try simp only [Act.put, List.getElem_toArray, List.getElem_cons_succ, List.getElem_cons_zero, List.setIfInBounds_toArray, List.set_cons_zero, List.set_cons_succ]
  refine wpAnyH_take (i := 7) (v := (.pointer (some ⟨m, 0, none⟩))) rfl (by kernel_rfl) (by kernel_rfl) (by kernel_rfl) (fun _ _ _ h => h) (Or.inl ⟨by rfl, fun W hS => by first | rfl | (go_simp; done)⟩) hHeld ?_
  try simp only [Act.put, List.getElem_toArray, List.getElem_cons_succ, List.getElem_cons_zero, List.setIfInBounds_toArray, List.set_cons_zero, List.set_cons_succ]
  refine wpAnyH_take (i := 8) (v := (.pointer (some ⟨m, 1, none⟩))) rfl (by kernel_rfl) (by kernel_rfl) (by kernel_rfl) (fun _ _ _ h => h) (Or.inl ⟨by rfl, fun W hS => by first | rfl | (go_simp; done)⟩) hHeld ?_
  try simp only [Act.put, List.getElem_toArray, List.getElem_cons_succ, List.getElem_cons_zero, List.setIfInBounds_toArray, List.set_cons_zero, List.set_cons_succ]
  refine wpAnyH_take (i := 9) (v := (.pointer (some ⟨p, 0, none⟩))) rfl (by kernel_rfl) (by kernel_rfl) (by kernel_rfl) (fun _ _ _ h => h) (Or.inl ⟨by rfl, fun W hS => by (obtain q1 := hS; go_simp; done)⟩) hHeld ?_
  try simp only [Act.put, List.getElem_toArray, List.getElem_cons_succ, List.getElem_cons_zero, List.setIfInBounds_toArray, List.set_cons_zero, List.set_cons_succ]
  refine wpAnyH_ready (rs := [5]) (by kernel_rfl) (by simp) (AllReadyH.cons rfl (fun K hK => ?_) AllReadyH.nil)
  simp only [List.getElem_toArray, List.getElem_cons_succ, List.getElem_cons_zero]
  go_simp
  refine (HST.out _ ((Only.refl (fun _ => False) W).drew)).mono ?_
  rintro e v1 ⟨rfl, HV⟩
  have hb1 := (HDB.out.only ((Only.refl (fun _ => False) W).drew) id).only HV.out.2.2 HND.out
  obtain ⟨d0, d1, d2, d3, e0, e1, e2, e3⟩ := hb1.four
  have HB1 := Lib.hid hb1
  clear hb1
  refine hK.out _ _ ((HV.out.2.2.cellF (p := ⟨m, 1, none⟩) (cell_lt hHeld) HNE.out).trans hHeld) (fun hHeld => ?_)
  clear hK K
  try simp only [Act.put, List.getElem_toArray, List.getElem_cons_succ, List.getElem_cons_zero, List.setIfInBounds_toArray, List.set_cons_zero, List.set_cons_succ]
  refine wpAnyH_ready (rs := [10]) (by kernel_rfl) (by simp) (AllReadyH.cons rfl (fun K hK => ?_) AllReadyH.nil)
  simp only [List.getElem_toArray, List.getElem_cons_succ, List.getElem_cons_zero]
  go_simp
  refine (HTD.out _ HV.out.1).mono ?_
  rintro e v2 ⟨rfl, rfl⟩
  refine hK.out _ _ hHeld (fun hHeld => ?_)
  clear hK K
  try simp only [Act.put, List.getElem_toArray, List.getElem_cons_succ, List.getElem_cons_zero, List.setIfInBounds_toArray, List.set_cons_zero, List.set_cons_succ]
  refine wpAnyH_ready (rs := [11]) (by kernel_rfl) (by simp) (AllReadyH.cons rfl (fun K hK => ?_) AllReadyH.nil)
  simp only [List.getElem_toArray, List.getElem_cons_succ, List.getElem_cons_zero]
  go_simp
  have hmD : ¬ D = m := HMD.out
  have hh := hHeld
  refine hK.out _ _ (by rw [World.cell?_setCell_far _ _ _ _ hmD, World.cell?_setCell_far _ _ _ _ hmD, World.cell?_setCell_far _ _ _ _ hmD, World.cell?_setCell_far _ _ _ _ hmD]; exact hh) (fun hHeld => ?_)
  clear hK
  try simp only [Act.put, List.getElem_toArray, List.getElem_cons_succ, List.getElem_cons_zero, List.setIfInBounds_toArray, List.set_cons_zero, List.set_cons_succ]
  refine wpAnyH_take (i := 12) (v := (.bool gv)) rfl (by kernel_rfl) (by kernel_rfl) (by kernel_rfl) (fun _ _ _ h => h) (Or.inl ⟨by rfl, fun W hS => by first | rfl | (go_simp; done)⟩) hHeld ?_
  try simp only [Act.put, List.getElem_toArray, List.getElem_cons_succ, List.getElem_cons_zero, List.setIfInBounds_toArray, List.set_cons_zero, List.set_cons_succ]
  refine wpAnyH_take (i := 13) (v := (.int .i64 0)) rfl (by kernel_rfl) (by kernel_rfl) (by kernel_rfl) (fun _ _ _ h => h) (Or.inl ⟨by rfl, fun W hS => by first | rfl | (go_simp; done)⟩) hHeld ?_
  try simp only [Act.put, List.getElem_toArray, List.getElem_cons_succ, List.getElem_cons_zero, List.setIfInBounds_toArray, List.set_cons_zero, List.set_cons_succ]
  refine wpAnyH_done (by kernel_rfl) ?_ _
  go_wp2_with fail
  obtain ⟨hb9, hq9⟩ := do_end (nv := 0) HO.out HV.out.1 HV.out.2.1 HV.out.2.2 HND.out (Nat.le_of_eq HDL.out) HB1.out HDV.out HGV.out rfl
  obtain ⟨r0, r1, r2, r3, -⟩ := hb9.four
  exact bodyPost_ret (v := .tuple #[.agg #[.int .i64 ka, .int .i64 kp, .int .u64 ko, .int .u64 kn], .bool gv, .int .i64 0]) (by simp [r0, r1, r2, r3, results, Try.results7, go_sem]) rfl hq9
set_option maxRecDepth 100000 in
set_option maxHeartbeats 4000000 in
theorem doStop_any {ke : StSt} (hm : Blk w m (machC 2 p b) 46) (h : WdA P T w p (.stop ke)) (hY : Yard w ab sb sm rb P T s) (hbig : 4 < s.ws.length) (hz : s.word 0 < 9223372036854775808) (hf : (WdS.fits (.stop ke))) :
    Calls Try.prog 7 #[.pointer (some ⟨m, 0, none⟩), .pointer (some ⟨ab, 0, none⟩)] w (DoQ P T p ab sb sm rb s (.stop ke) w) := by
  obtain ⟨ka, hka⟩ : ∃ v, (WdS.ac (.stop ke) |>.act s).k = v := ⟨_, rfl⟩
  obtain ⟨kp, hkp⟩ : ∃ v, (WdS.ac (.stop ke) |>.act s).pos = v := ⟨_, rfl⟩
  obtain ⟨ko, hko⟩ : ∃ v, (WdS.ac (.stop ke) |>.act s).old = v := ⟨_, rfl⟩
  obtain ⟨kn, hkn⟩ : ∃ v, (WdS.ac (.stop ke) |>.act s).new = v := ⟨_, rfl⟩
  have hdv : didV (WdS.ac (.stop ke) |>.act s) = .agg #[.int .i64 ka, .int .i64 kp, .int .u64 ko, .int .u64 kn] := by unfold didV; rw [hka, hkp, hko, hkn]
  obtain ⟨gv, hgv⟩ : ∃ v, (WdS.nx s (.stop ke)).got = v := ⟨_, rfl⟩
  obtain ⟨nv, hnv⟩ : ∃ v, (WdS.nx s (.stop ke)).gen = v := ⟨_, rfl⟩
  have c0 : w.cell? ⟨m, 0, none⟩ = some (.pointer none) := hm.cell 0
  have c1 : w.cell? ⟨m, 1, none⟩ = some (.pointer none) := hm.cell 1
  have c2 : w.cell? ⟨m, 2, none⟩ = some (.pointer (some ⟨p, 0, none⟩)) := hm.cell 2
  have c3 : w.cell? ⟨m, 3, none⟩ = some (.pointer none) := hm.cell 3
  obtain ⟨D, hD⟩ : ∃ D, w.heap.size = D := ⟨_, rfl⟩
  obtain ⟨W, hW⟩ : ∃ W, w.alloc (.cells #[.int .i64 0, .int .i64 0, .int .u64 0, .int .u64 0] 37) = W := ⟨_, rfl⟩
  have hdb : Blk W D #[.int .i64 0, .int .i64 0, .int .u64 0, .int .u64 0] 37 := by rw [← hW, ← hD]; exact Blk.new w _ _
  have hO : Adds w W := by rw [← hW]; exact (Only.refl (fun _ => False) w).alloc _
  have c0 := cell_al c0 hO; have c1 := cell_al c1 hO; have c2 := cell_al c2 hO; have c3 := cell_al c3 hO
  have hne : ¬ (SB sb sm m ∨ m = p) := by
    obtain ⟨cc, tt, hb1, hs1, ht1⟩ := (wdO P T).blk h
    rintro ((e | e) | e)
    · subst e; have := (hm.uniq hY.st.head).2; revert this; decide
    · subst e; have := (hm.uniq hY.st.row).2; revert this; decide
    · subst e; rw [← (hm.uniq hb1).2] at ht1; revert ht1; decide
  have hnd : ¬ (SB sb sm D ∨ D = p) := by
    obtain ⟨cc, tt, hb1, _⟩ := (wdO P T).blk h
    have z1 := hY.st.head.lt; have z2 := hY.st.row.lt; have z3 := hb1.lt
    rintro ((e | e) | e) <;> omega
  have HST : Hid (∀ V, Adds W V → Calls Try.prog 24 #[.pointer (some ⟨p, 0, none⟩), .pointer (some ⟨ab, 0, none⟩)] V fun e w2 => e = .returned (.agg #[.int .i64 ka, .int .i64 kp, .int .u64 ko, .int .u64 kn]) ∧ Hid (WdA P T w2 p (WdS.nx s (.stop ke)) ∧ Yard w2 ab sb sm rb P T (WdS.ac (.stop ke) |>.act s) ∧ Only (fun j => SB sb sm j ∨ j = p) V w2)) := Lib.hid (fun V hA => by
    have h1 := (wdO P T).keep h (hO.thenF hA) id (fun _ _ _ _ => id)
    have hy1 := hY.adds (hO.thenF hA)
    exact (wdStop h1 hy1 hbig hz hf).mono (fun e w2 q => ⟨by rw [← hdv]; exact q.1, Lib.hid q.2⟩))
  have HTD : Hid (∀ V, WdA P T V p (WdS.nx s (.stop ke)) → Calls Try.prog 25 #[.pointer (some ⟨p, 0, none⟩)] V fun e w' => e = .returned (.bool gv) ∧ V = w') := Lib.hid (fun V h1 => by rw [← hgv]; exact (stopTold h1).1)
  have HTG : Hid (∀ V, WdA P T V p (WdS.nx s (.stop ke)) → Calls Try.prog 26 #[.pointer (some ⟨p, 0, none⟩)] V fun e w' => e = .returned (.int .i64 nv) ∧ V = w') := Lib.hid (fun V h1 => by rw [← hnv]; exact (stopTold h1).2)
  have HDB := Lib.hid hdb; have HO := Lib.hid hO; have HDV := Lib.hid hdv; have HGV := Lib.hid hgv; have HNV := Lib.hid hnv; have HNE := Lib.hid hne; have HND := Lib.hid hnd
  have HDL := Lib.hid hD
  have HMD := Lib.hid (show ¬ D = m by have := hm.lt; omega)
  clear hdb hO hdv hgv hnv hne hnd hka hkp hko hkn h hm hY hbig hz hf
  go_enter Try.func7, Try.ntmps7
  go_upto_region 6 with fail
  refine wp_region_held_drew (S := (fun V => V.cell? ⟨m, 2, none⟩ = some (.pointer (some ⟨p, 0, none⟩)))) (by kernel_rfl) c2 (fun hHeld => ?_)
  refine wpAnyH_take (i := 0) (v := (.pointer (some ⟨m, 0, none⟩))) rfl (by kernel_rfl) (by kernel_rfl) (by kernel_rfl) (fun _ _ _ h => h) (Or.inl ⟨by rfl, fun W hS => by first | rfl | (go_simp; done)⟩) hHeld ?_
  try simp only [Act.put, List.getElem_toArray, List.getElem_cons_succ, List.getElem_cons_zero, List.setIfInBounds_toArray, List.set_cons_zero, List.set_cons_succ]
  refine wpAnyH_take (i := 1) (v := (.pointer (some ⟨m, 0, none⟩))) rfl (by kernel_rfl) (by kernel_rfl) (by kernel_rfl) (fun _ _ _ h => h) (Or.inl ⟨by rfl, fun W hS => by first | rfl | (go_simp; done)⟩) hHeld ?_
  try simp only [Act.put, List.getElem_toArray, List.getElem_cons_succ, List.getElem_cons_zero, List.setIfInBounds_toArray, List.set_cons_zero, List.set_cons_succ]
  refine wpAnyH_take (i := 2) (v := (.pointer (some ⟨m, 2, none⟩))) rfl (by kernel_rfl) (by kernel_rfl) (by kernel_rfl) (fun _ _ _ h => h) (Or.inl ⟨by rfl, fun W hS => by first | rfl | (go_simp; done)⟩) hHeld ?_
  try simp only [Act.put, List.getElem_toArray, List.getElem_cons_succ, List.getElem_cons_zero, List.setIfInBounds_toArray, List.set_cons_zero, List.set_cons_succ]
  refine wpAnyH_take (i := 3) (v := (.pointer (some ⟨p, 0, none⟩))) rfl (by kernel_rfl) (by kernel_rfl) (by kernel_rfl) (fun _ _ _ h => h) (Or.inl ⟨by rfl, fun W hS => by (obtain q1 := hS; go_simp; done)⟩) hHeld ?_
  try simp only [Act.put, List.getElem_toArray, List.getElem_cons_succ, List.getElem_cons_zero, List.setIfInBounds_toArray, List.set_cons_zero, List.set_cons_succ]
  refine wpAnyH_take (i := 4) (v := (.pointer (some ⟨ab, 0, none⟩))) rfl (by kernel_rfl) (by kernel_rfl) (by kernel_rfl) (fun _ _ _ h => h) (Or.inl ⟨by rfl, fun W hS => by first | rfl | (go_simp; done)⟩) hHeld ?_
  try simp only [Act.put, List.getElem_toArray, List.getElem_cons_succ, List.getElem_cons_zero, List.setIfInBounds_toArray, List.set_cons_zero, List.set_cons_succ]
  refine wpAnyH_take (i := 6) (v := (.pointer (some ⟨m, 0, none⟩))) rfl (by kernel_rfl) (by kernel_rfl) (by kernel_rfl) (fun _ _ _ h => h) (Or.inl ⟨by rfl, fun W hS => by first | rfl | (go_simp; done)⟩) hHeld ?_
  try simp only [Act.put, List.getElem_toArray, List.getElem_cons_succ, List.getElem_cons_zero, List.setIfInBounds_toArray, List.set_cons_zero, List.set_cons_succ]
  refine wpAnyH_take (i := 7) (v := (.pointer (some ⟨m, 0, none⟩))) rfl (by kernel_rfl) (by kernel_rfl) (by kernel_rfl) (fun _ _ _ h => h) (Or.inl ⟨by rfl, fun W hS => by first | rfl | (go_simp; done)⟩) hHeld ?_
  try simp only [Act.put, List.getElem_toArray, List.getElem_cons_succ, List.getElem_cons_zero, List.setIfInBounds_toArray, List.set_cons_zero, List.set_cons_succ]
  refine wpAnyH_take (i := 8) (v := (.pointer (some ⟨m, 2, none⟩))) rfl (by kernel_rfl) (by kernel_rfl) (by kernel_rfl) (fun _ _ _ h => h) (Or.inl ⟨by rfl, fun W hS => by first | rfl | (go_simp; done)⟩) hHeld ?_
  try simp only [Act.put, List.getElem_toArray, List.getElem_cons_succ, List.getElem_cons_zero, List.setIfInBounds_toArray, List.set_cons_zero, List.set_cons_succ]
  refine wpAnyH_take (i := 9) (v := (.pointer (some ⟨p, 0, none⟩))) rfl (by kernel_rfl) (by kernel_rfl) (by kernel_rfl) (fun _ _ _ h => h) (Or.inl ⟨by rfl, fun W hS => by (obtain q1 := hS; go_simp; done)⟩) hHeld ?_
  try simp only [Act.put, List.getElem_toArray, List.getElem_cons_succ, List.getElem_cons_zero, List.setIfInBounds_toArray, List.set_cons_zero, List.set_cons_succ]
  refine wpAnyH_take (i := 11) (v := (.pointer (some ⟨m, 0, none⟩))) rfl (by kernel_rfl) (by kernel_rfl) (by kernel_rfl) (fun _ _ _ h => h) (Or.inl ⟨by rfl, fun W hS => by first | rfl | (go_simp; done)⟩) hHeld ?_
  try simp only [Act.put, List.getElem_toArray, List.getElem_cons_succ, List.getElem_cons_zero, List.setIfInBounds_toArray, List.set_cons_zero, List.set_cons_succ]
  refine wpAnyH_take (i := 12) (v := (.pointer (some ⟨m, 0, none⟩))) rfl (by kernel_rfl) (by kernel_rfl) (by kernel_rfl) (fun _ _ _ h => h) (Or.inl ⟨by rfl, fun W hS => by first | rfl | (go_simp; done)⟩) hHeld ?_
  try simp only [Act.put, List.getElem_toArray, List.getElem_cons_succ, List.getElem_cons_zero, List.setIfInBounds_toArray, List.set_cons_zero, List.set_cons_succ]
  refine wpAnyH_take (i := 13) (v := (.pointer (some ⟨m, 2, none⟩))) rfl (by kernel_rfl) (by kernel_rfl) (by kernel_rfl) (fun _ _ _ h => h) (Or.inl ⟨by rfl, fun W hS => by first | rfl | (go_simp; done)⟩) hHeld ?_
  try simp only [Act.put, List.getElem_toArray, List.getElem_cons_succ, List.getElem_cons_zero, List.setIfInBounds_toArray, List.set_cons_zero, List.set_cons_succ]
  refine wpAnyH_take (i := 14) (v := (.pointer (some ⟨p, 0, none⟩))) rfl (by kernel_rfl) (by kernel_rfl) (by kernel_rfl) (fun _ _ _ h => h) (Or.inl ⟨by rfl, fun W hS => by (obtain q1 := hS; go_simp; done)⟩) hHeld ?_
  try simp only [Act.put, List.getElem_toArray, List.getElem_cons_succ, List.getElem_cons_zero, List.setIfInBounds_toArray, List.set_cons_zero, List.set_cons_succ]
  refine wpAnyH_ready (rs := [5]) (by kernel_rfl) (by simp) (AllReadyH.cons rfl (fun K hK => ?_) AllReadyH.nil)
  simp only [List.getElem_toArray, List.getElem_cons_succ, List.getElem_cons_zero]
  go_simp
  refine (HST.out _ ((Only.refl (fun _ => False) W).drew)).mono ?_
  rintro e v1 ⟨rfl, HV⟩
  have hb1 := (HDB.out.only ((Only.refl (fun _ => False) W).drew) id).only HV.out.2.2 HND.out
  obtain ⟨d0, d1, d2, d3, e0, e1, e2, e3⟩ := hb1.four
  have HB1 := Lib.hid hb1
  clear hb1
  refine hK.out _ _ ((HV.out.2.2.cellF (p := ⟨m, 2, none⟩) (cell_lt hHeld) HNE.out).trans hHeld) (fun hHeld => ?_)
  clear hK K
  try simp only [Act.put, List.getElem_toArray, List.getElem_cons_succ, List.getElem_cons_zero, List.setIfInBounds_toArray, List.set_cons_zero, List.set_cons_succ]
  refine wpAnyH_ready (rs := [10]) (by kernel_rfl) (by simp) (AllReadyH.cons rfl (fun K hK => ?_) AllReadyH.nil)
  simp only [List.getElem_toArray, List.getElem_cons_succ, List.getElem_cons_zero]
  go_simp
  refine (HTD.out _ HV.out.1).mono ?_
  rintro e v2 ⟨rfl, rfl⟩
  refine hK.out _ _ hHeld (fun hHeld => ?_)
  clear hK K
  try simp only [Act.put, List.getElem_toArray, List.getElem_cons_succ, List.getElem_cons_zero, List.setIfInBounds_toArray, List.set_cons_zero, List.set_cons_succ]
  refine wpAnyH_ready (rs := [15]) (by kernel_rfl) (by simp) (AllReadyH.cons rfl (fun K hK => ?_) AllReadyH.nil)
  simp only [List.getElem_toArray, List.getElem_cons_succ, List.getElem_cons_zero]
  go_simp
  refine (HTG.out _ HV.out.1).mono ?_
  rintro e v2 ⟨rfl, rfl⟩
  refine hK.out _ _ hHeld (fun hHeld => ?_)
  clear hK K
  try simp only [Act.put, List.getElem_toArray, List.getElem_cons_succ, List.getElem_cons_zero, List.setIfInBounds_toArray, List.set_cons_zero, List.set_cons_succ]
  refine wpAnyH_ready (rs := [16]) (by kernel_rfl) (by simp) (AllReadyH.cons rfl (fun K hK => ?_) AllReadyH.nil)
  simp only [List.getElem_toArray, List.getElem_cons_succ, List.getElem_cons_zero]
  go_simp
  have hmD : ¬ D = m := HMD.out
  have hh := hHeld
  refine hK.out _ _ (by rw [World.cell?_setCell_far _ _ _ _ hmD, World.cell?_setCell_far _ _ _ _ hmD, World.cell?_setCell_far _ _ _ _ hmD, World.cell?_setCell_far _ _ _ _ hmD]; exact hh) (fun hHeld => ?_)
  clear hK
  try simp only [Act.put, List.getElem_toArray, List.getElem_cons_succ, List.getElem_cons_zero, List.setIfInBounds_toArray, List.set_cons_zero, List.set_cons_succ]
  refine wpAnyH_take (i := 17) (v := (.bool gv)) rfl (by kernel_rfl) (by kernel_rfl) (by kernel_rfl) (fun _ _ _ h => h) (Or.inl ⟨by rfl, fun W hS => by first | rfl | (go_simp; done)⟩) hHeld ?_
  try simp only [Act.put, List.getElem_toArray, List.getElem_cons_succ, List.getElem_cons_zero, List.setIfInBounds_toArray, List.set_cons_zero, List.set_cons_succ]
  refine wpAnyH_take (i := 18) (v := (.int .i64 nv)) rfl (by kernel_rfl) (by kernel_rfl) (by kernel_rfl) (fun _ _ _ h => h) (Or.inl ⟨by rfl, fun W hS => by first | rfl | (go_simp; done)⟩) hHeld ?_
  try simp only [Act.put, List.getElem_toArray, List.getElem_cons_succ, List.getElem_cons_zero, List.setIfInBounds_toArray, List.set_cons_zero, List.set_cons_succ]
  refine wpAnyH_done (by kernel_rfl) ?_ _
  go_wp2_with fail
  obtain ⟨hb9, hq9⟩ := do_end (nv := nv) HO.out HV.out.1 HV.out.2.1 HV.out.2.2 HND.out (Nat.le_of_eq HDL.out) HB1.out HDV.out HGV.out HNV.out
  obtain ⟨r0, r1, r2, r3, -⟩ := hb9.four
  exact bodyPost_ret (v := .tuple #[.agg #[.int .i64 ka, .int .i64 kp, .int .u64 ko, .int .u64 kn], .bool gv, .int .i64 nv]) (by simp [r0, r1, r2, r3, results, Try.results7, go_sem]) rfl hq9
set_option maxRecDepth 100000 in
set_option maxHeartbeats 4000000 in
theorem doGo_any (hm : Blk w m (machC 3 p b) 46) (h : WdA P T w p .go) (hY : Yard w ab sb sm rb P T s) (hbig : 4 < s.ws.length) (hz : s.word 0 < 9223372036854775808) (hf : (WdS.fits .go)) :
    Calls Try.prog 7 #[.pointer (some ⟨m, 0, none⟩), .pointer (some ⟨ab, 0, none⟩)] w (DoQ P T p ab sb sm rb s .go w) := by
  obtain ⟨ka, hka⟩ : ∃ v, (WdS.ac .go |>.act s).k = v := ⟨_, rfl⟩
  obtain ⟨kp, hkp⟩ : ∃ v, (WdS.ac .go |>.act s).pos = v := ⟨_, rfl⟩
  obtain ⟨ko, hko⟩ : ∃ v, (WdS.ac .go |>.act s).old = v := ⟨_, rfl⟩
  obtain ⟨kn, hkn⟩ : ∃ v, (WdS.ac .go |>.act s).new = v := ⟨_, rfl⟩
  have hdv : didV (WdS.ac .go |>.act s) = .agg #[.int .i64 ka, .int .i64 kp, .int .u64 ko, .int .u64 kn] := by unfold didV; rw [hka, hkp, hko, hkn]
  obtain ⟨gv, hgv⟩ : ∃ v, (WdS.nx s .go).got = v := ⟨_, rfl⟩
  obtain ⟨nv, hnv⟩ : ∃ v, (WdS.nx s .go).gen = v := ⟨_, rfl⟩
  have c0 : w.cell? ⟨m, 0, none⟩ = some (.pointer none) := hm.cell 0
  have c1 : w.cell? ⟨m, 1, none⟩ = some (.pointer none) := hm.cell 1
  have c2 : w.cell? ⟨m, 2, none⟩ = some (.pointer none) := hm.cell 2
  have c3 : w.cell? ⟨m, 3, none⟩ = some (.pointer (some ⟨p, 0, none⟩)) := hm.cell 3
  obtain ⟨D, hD⟩ : ∃ D, w.heap.size = D := ⟨_, rfl⟩
  obtain ⟨W, hW⟩ : ∃ W, w.alloc (.cells #[.int .i64 0, .int .i64 0, .int .u64 0, .int .u64 0] 37) = W := ⟨_, rfl⟩
  have hdb : Blk W D #[.int .i64 0, .int .i64 0, .int .u64 0, .int .u64 0] 37 := by rw [← hW, ← hD]; exact Blk.new w _ _
  have hO : Adds w W := by rw [← hW]; exact (Only.refl (fun _ => False) w).alloc _
  have c0 := cell_al c0 hO; have c1 := cell_al c1 hO; have c2 := cell_al c2 hO; have c3 := cell_al c3 hO
  have hne : ¬ (SB sb sm m ∨ m = p) := by
    obtain ⟨cc, tt, hb1, hs1, ht1⟩ := (wdO P T).blk h
    rintro ((e | e) | e)
    · subst e; have := (hm.uniq hY.st.head).2; revert this; decide
    · subst e; have := (hm.uniq hY.st.row).2; revert this; decide
    · subst e; rw [← (hm.uniq hb1).2] at ht1; revert ht1; decide
  have hnd : ¬ (SB sb sm D ∨ D = p) := by
    obtain ⟨cc, tt, hb1, _⟩ := (wdO P T).blk h
    have z1 := hY.st.head.lt; have z2 := hY.st.row.lt; have z3 := hb1.lt
    rintro ((e | e) | e) <;> omega
  have HST : Hid (∀ V, Adds W V → Calls Try.prog 27 #[.pointer (some ⟨p, 0, none⟩), .pointer (some ⟨ab, 0, none⟩)] V fun e w2 => e = .returned (.agg #[.int .i64 ka, .int .i64 kp, .int .u64 ko, .int .u64 kn]) ∧ Hid (WdA P T w2 p (WdS.nx s .go) ∧ Yard w2 ab sb sm rb P T (WdS.ac .go |>.act s) ∧ Only (fun j => SB sb sm j ∨ j = p) V w2)) := Lib.hid (fun V hA => by
    have h1 := (wdO P T).keep h (hO.thenF hA) id (fun _ _ _ _ => id)
    have hy1 := hY.adds (hO.thenF hA)
    exact (wdGo h1 hy1 hbig).mono (fun e w2 q => ⟨by rw [← hdv]; exact q.1, Lib.hid q.2⟩))
  have HTD : Hid (∀ V, WdA P T V p (WdS.nx s .go) → Calls Try.prog 28 #[.pointer (some ⟨p, 0, none⟩)] V fun e w' => e = .returned (.bool gv) ∧ V = w') := Lib.hid (fun V h1 => by rw [← hgv]; exact goTold h1)
  have HDB := Lib.hid hdb; have HO := Lib.hid hO; have HDV := Lib.hid hdv; have HGV := Lib.hid hgv; have HNV := Lib.hid hnv; have HNE := Lib.hid hne; have HND := Lib.hid hnd
  have HDL := Lib.hid hD
  have HMD := Lib.hid (show ¬ D = m by have := hm.lt; omega)
  clear hdb hO hdv hgv hnv hne hnd hka hkp hko hkn h hm hY hbig hz hf
  go_enter Try.func7, Try.ntmps7
  go_upto_region 8 with fail
  refine wp_region_held_drew (S := (fun V => V.cell? ⟨m, 3, none⟩ = some (.pointer (some ⟨p, 0, none⟩)))) (by kernel_rfl) c3 (fun hHeld => ?_)
  refine wpAnyH_take (i := 0) (v := (.pointer (some ⟨m, 0, none⟩))) rfl (by kernel_rfl) (by kernel_rfl) (by kernel_rfl) (fun _ _ _ h => h) (Or.inl ⟨by rfl, fun W hS => by first | rfl | (go_simp; done)⟩) hHeld ?_
  try simp only [Act.put, List.getElem_toArray, List.getElem_cons_succ, List.getElem_cons_zero, List.setIfInBounds_toArray, List.set_cons_zero, List.set_cons_succ]
  refine wpAnyH_take (i := 1) (v := (.pointer (some ⟨m, 0, none⟩))) rfl (by kernel_rfl) (by kernel_rfl) (by kernel_rfl) (fun _ _ _ h => h) (Or.inl ⟨by rfl, fun W hS => by first | rfl | (go_simp; done)⟩) hHeld ?_
  try simp only [Act.put, List.getElem_toArray, List.getElem_cons_succ, List.getElem_cons_zero, List.setIfInBounds_toArray, List.set_cons_zero, List.set_cons_succ]
  refine wpAnyH_take (i := 2) (v := (.pointer (some ⟨m, 3, none⟩))) rfl (by kernel_rfl) (by kernel_rfl) (by kernel_rfl) (fun _ _ _ h => h) (Or.inl ⟨by rfl, fun W hS => by first | rfl | (go_simp; done)⟩) hHeld ?_
  try simp only [Act.put, List.getElem_toArray, List.getElem_cons_succ, List.getElem_cons_zero, List.setIfInBounds_toArray, List.set_cons_zero, List.set_cons_succ]
  refine wpAnyH_take (i := 3) (v := (.pointer (some ⟨p, 0, none⟩))) rfl (by kernel_rfl) (by kernel_rfl) (by kernel_rfl) (fun _ _ _ h => h) (Or.inl ⟨by rfl, fun W hS => by (obtain q1 := hS; go_simp; done)⟩) hHeld ?_
  try simp only [Act.put, List.getElem_toArray, List.getElem_cons_succ, List.getElem_cons_zero, List.setIfInBounds_toArray, List.set_cons_zero, List.set_cons_succ]
  refine wpAnyH_take (i := 4) (v := (.pointer (some ⟨ab, 0, none⟩))) rfl (by kernel_rfl) (by kernel_rfl) (by kernel_rfl) (fun _ _ _ h => h) (Or.inl ⟨by rfl, fun W hS => by first | rfl | (go_simp; done)⟩) hHeld ?_
  try simp only [Act.put, List.getElem_toArray, List.getElem_cons_succ, List.getElem_cons_zero, List.setIfInBounds_toArray, List.set_cons_zero, List.set_cons_succ]
  refine wpAnyH_take (i := 6) (v := (.pointer (some ⟨m, 0, none⟩))) rfl (by kernel_rfl) (by kernel_rfl) (by kernel_rfl) (fun _ _ _ h => h) (Or.inl ⟨by rfl, fun W hS => by first | rfl | (go_simp; done)⟩) hHeld ?_
  try simp only [Act.put, List.getElem_toArray, List.getElem_cons_succ, List.getElem_cons_zero, List.setIfInBounds_toArray, List.set_cons_zero, List.set_cons_succ]
  refine wpAnyH_take (i := 7) (v := (.pointer (some ⟨m, 0, none⟩))) rfl (by kernel_rfl) (by kernel_rfl) (by kernel_rfl) (fun _ _ _ h => h) (Or.inl ⟨by rfl, fun W hS => by first | rfl | (go_simp; done)⟩) hHeld ?_
  try simp only [Act.put, List.getElem_toArray, List.getElem_cons_succ, List.getElem_cons_zero, List.setIfInBounds_toArray, List.set_cons_zero, List.set_cons_succ]
  refine wpAnyH_take (i := 8) (v := (.pointer (some ⟨m, 3, none⟩))) rfl (by kernel_rfl) (by kernel_rfl) (by kernel_rfl) (fun _ _ _ h => h) (Or.inl ⟨by rfl, fun W hS => by first | rfl | (go_simp; done)⟩) hHeld ?_
  try simp only [Act.put, List.getElem_toArray, List.getElem_cons_succ, List.getElem_cons_zero, List.setIfInBounds_toArray, List.set_cons_zero, List.set_cons_succ]
  refine wpAnyH_take (i := 9) (v := (.pointer (some ⟨p, 0, none⟩))) rfl (by kernel_rfl) (by kernel_rfl) (by kernel_rfl) (fun _ _ _ h => h) (Or.inl ⟨by rfl, fun W hS => by (obtain q1 := hS; go_simp; done)⟩) hHeld ?_
  try simp only [Act.put, List.getElem_toArray, List.getElem_cons_succ, List.getElem_cons_zero, List.setIfInBounds_toArray, List.set_cons_zero, List.set_cons_succ]
  refine wpAnyH_ready (rs := [5]) (by kernel_rfl) (by simp) (AllReadyH.cons rfl (fun K hK => ?_) AllReadyH.nil)
  simp only [List.getElem_toArray, List.getElem_cons_succ, List.getElem_cons_zero]
  go_simp
  refine (HST.out _ ((Only.refl (fun _ => False) W).drew)).mono ?_
  rintro e v1 ⟨rfl, HV⟩
  have hb1 := (HDB.out.only ((Only.refl (fun _ => False) W).drew) id).only HV.out.2.2 HND.out
  obtain ⟨d0, d1, d2, d3, e0, e1, e2, e3⟩ := hb1.four
  have HB1 := Lib.hid hb1
  clear hb1
  refine hK.out _ _ ((HV.out.2.2.cellF (p := ⟨m, 3, none⟩) (cell_lt hHeld) HNE.out).trans hHeld) (fun hHeld => ?_)
  clear hK K
  try simp only [Act.put, List.getElem_toArray, List.getElem_cons_succ, List.getElem_cons_zero, List.setIfInBounds_toArray, List.set_cons_zero, List.set_cons_succ]
  refine wpAnyH_ready (rs := [10]) (by kernel_rfl) (by simp) (AllReadyH.cons rfl (fun K hK => ?_) AllReadyH.nil)
  simp only [List.getElem_toArray, List.getElem_cons_succ, List.getElem_cons_zero]
  go_simp
  refine (HTD.out _ HV.out.1).mono ?_
  rintro e v2 ⟨rfl, rfl⟩
  refine hK.out _ _ hHeld (fun hHeld => ?_)
  clear hK K
  try simp only [Act.put, List.getElem_toArray, List.getElem_cons_succ, List.getElem_cons_zero, List.setIfInBounds_toArray, List.set_cons_zero, List.set_cons_succ]
  refine wpAnyH_ready (rs := [11]) (by kernel_rfl) (by simp) (AllReadyH.cons rfl (fun K hK => ?_) AllReadyH.nil)
  simp only [List.getElem_toArray, List.getElem_cons_succ, List.getElem_cons_zero]
  go_simp
  have hmD : ¬ D = m := HMD.out
  have hh := hHeld
  refine hK.out _ _ (by rw [World.cell?_setCell_far _ _ _ _ hmD, World.cell?_setCell_far _ _ _ _ hmD, World.cell?_setCell_far _ _ _ _ hmD, World.cell?_setCell_far _ _ _ _ hmD]; exact hh) (fun hHeld => ?_)
  clear hK
  try simp only [Act.put, List.getElem_toArray, List.getElem_cons_succ, List.getElem_cons_zero, List.setIfInBounds_toArray, List.set_cons_zero, List.set_cons_succ]
  refine wpAnyH_take (i := 12) (v := (.bool gv)) rfl (by kernel_rfl) (by kernel_rfl) (by kernel_rfl) (fun _ _ _ h => h) (Or.inl ⟨by rfl, fun W hS => by first | rfl | (go_simp; done)⟩) hHeld ?_
  try simp only [Act.put, List.getElem_toArray, List.getElem_cons_succ, List.getElem_cons_zero, List.setIfInBounds_toArray, List.set_cons_zero, List.set_cons_succ]
  refine wpAnyH_take (i := 13) (v := (.int .i64 0)) rfl (by kernel_rfl) (by kernel_rfl) (by kernel_rfl) (fun _ _ _ h => h) (Or.inl ⟨by rfl, fun W hS => by first | rfl | (go_simp; done)⟩) hHeld ?_
  try simp only [Act.put, List.getElem_toArray, List.getElem_cons_succ, List.getElem_cons_zero, List.setIfInBounds_toArray, List.set_cons_zero, List.set_cons_succ]
  refine wpAnyH_done (by kernel_rfl) ?_ _
  go_wp2_with fail
  obtain ⟨hb9, hq9⟩ := do_end (nv := 0) HO.out HV.out.1 HV.out.2.1 HV.out.2.2 HND.out (Nat.le_of_eq HDL.out) HB1.out HDV.out HGV.out rfl
  obtain ⟨r0, r1, r2, r3, -⟩ := hb9.four
  exact bodyPost_ret (v := .tuple #[.agg #[.int .i64 ka, .int .i64 kp, .int .u64 ko, .int .u64 kn], .bool gv, .int .i64 0]) (by simp [r0, r1, r2, r3, results, Try.results7, go_sem]) rfl hq9
end
end Go.Proofs.Ytbepbcjklgfmjaa

/- RecordBack: its walk. By an AI agent. -/
import Derived.Test.YtcikhlihgebnbaaDoorRecLoop
import Derived.Deep.RegionHeld3
import Derived.Deep.WholeRow
namespace Go.Proofs.YtcikhlihgebnbaaDoor
open Go.RowKit
theorem and_le_right (a b : Int) (h0 : 0 ≤ b) : bits .and .u64 a b ≤ b := by
  rw [and_eq, BitVec.toNat_and]
  have h1 := Nat.and_le_right (n := (BitVec.ofInt 64 a).toNat) (m := (BitVec.ofInt 64 b).toNat)
  have h2 : ((BitVec.ofInt 64 b).toNat : Int) ≤ b := by
    rw [BitVec.toNat_ofInt]
    omega
  omega
theorem clP_pos {c : Int} (h0 : 0 ≤ c) (h1 : c < 14) : 1 ≤ clP c := by
  unfold clP
  rw [if_pos ⟨h0, h1⟩]
  exact (tab_bd c.toNat (by omega)).1
theorem ly_fix (P pg k mk : Int) (h0 : 0 ≤ pg) (h1 : pg < P) (h2 : P ≤ 60) (k0 : 0 ≤ k) (k1 : k < 256) :
    Fix P pg (lyC P pg k) (lyN P pg k) (lyA P pg k mk) (1 + k) ∧ lyA P pg k mk ≤ onesV (clS (lyC P pg k)) ∧ ((lyC P pg k = 14) ∨ (0 ≤ lyC P pg k ∧ lyC P pg k < 14 ∧ lyN P pg k = clP (lyC P pg k))) := by
  have hm : Lay.may P 2 = true := Lay.may_iff.2 ⟨by omega, by omega, by omega, by omega⟩
  have hC : (lyC P pg k = 14 ∧ 1 ≤ lyN P pg k ∧ pg + lyN P pg k ≤ P) ∨ (0 ≤ lyC P pg k ∧ lyC P pg k < 14 ∧ lyN P pg k = clP (lyC P pg k) ∧ 1 ≤ lyN P pg k ∧ pg + lyN P pg k ≤ P) := by
    by_cases e : k % 15 = 14 ∨ P - pg < clP (k % 15)
    · have e1 : lyC P pg k = 14 := by unfold lyC; rw [if_pos e]
      have e2 : lyN P pg k = 1 + k % (P - pg) := by unfold lyN; rw [if_pos e]
      have b0 := Int.emod_nonneg k (show P - pg ≠ 0 by omega)
      have b1 := Int.emod_lt_of_pos k (show 0 < P - pg by omega)
      exact .inl ⟨e1, by omega, by omega⟩
    · have e1 : lyC P pg k = k % 15 := by unfold lyC; rw [if_neg e]
      have e2 : lyN P pg k = clP (k % 15) := by unfold lyN; rw [if_neg e]
      have b := clP_pos (c := k % 15) (by omega) (by omega)
      exact .inr ⟨by omega, by omega, by rw [e2, e1], by omega, by omega⟩
  have hs := clS_bd (lyC P pg k)
  have ho : (0 : Int) ≤ 2 ^ (clS (lyC P pg k)).toNat - 1 := by have := (onesV_bd (n := clS (lyC P pg k)) hs.2).1; unfold onesV at this; exact this
  have hA := and_bd mk (2 ^ (clS (lyC P pg k)).toNat - 1)
  refine ⟨⟨hm, h0, by omega, by omega, by omega, by omega, hA, Ph.cyc_iff.2 ⟨by omega, by omega⟩⟩, and_le_right _ _ ho, ?_⟩
  rcases hC with h | h
  · exact .inl h.1
  · exact .inr ⟨h.1, h.2.1, h.2.2.1⟩
theorem newLay_fix {w : World} {P pg cl ps al gn : Int} (hT : Tab w) (F : Fix P pg cl ps al gn) (ha : al ≤ onesV (clS cl)) (hc : cl = 14 ∨ (0 ≤ cl ∧ cl < 14 ∧ ps = clP cl)) :
    Calls Tryd.prog 7 #[.agg #[.int .i64 P, .int .i64 2], .int .i64 pg, .int .i64 cl, .int .i64 ps, .int .i64 gn, .int .u64 al] w fun e w' => ∃ mb, e = .returned (.pointer (some ⟨mb, 0, none⟩)) ∧ LayI w' mb P 2 pg cl ps al (Ph.mk gn 2) 0 ∧ Adds w w' ∧ w.heap.size ≤ mb := by
  have hh : thereB P pg ps = true := by
    have h0 := F.h0; have h1 := F.h1; have h2 := F.h2
    unfold thereB
    exact decide_eq_true ⟨by omega, by omega, by omega, by omega⟩
  rcases hc with h | ⟨h, h', h''⟩
  · exact newLay_ok14 _ _ _ _ _ _ _ _ hT F.hg F.hm hh h ha
  · exact newLay_ok _ _ _ _ _ _ _ _ hT F.hg F.hm hh h h' h'' ha
theorem newGone_fix {w : World} {P pg cl ps al gn : Int} (F : Fix P pg cl ps al gn) :
    Calls Tryd.prog 8 #[.agg #[.int .i64 P, .int .i64 2], .int .i64 pg, .int .i64 ps] w fun e w' => ∃ mb, e = .returned (.pointer (some ⟨mb, 0, none⟩)) ∧ GoneI w' mb P 2 pg ps 0 ∧ Adds w w' ∧ w.heap.size ≤ mb := by
  have hh : thereB P pg ps = true := by
    have h0 := F.h0; have h1 := F.h1; have h2 := F.h2
    unfold thereB
    exact decide_eq_true ⟨by omega, by omega, by omega, by omega⟩
  exact newGone_ok _ _ _ _ _ F.hm hh
/-- A document's machine loaded whole, as an operation. -/
theorem exec_load_row38 {op : Oper} {a : Act} {W : World} {xb : Nat} {x : Operand} {c0 c1 c2 c3 c4 c5 c6 c7 c8 c9 c10 c11 : Int} (ho : op.op = .load 38 x) (hx : a.eval x = .pointer (some ⟨xb, 0, none⟩)) (hb : Blk W xb (mCellsZ c0 c1 c2 c3 c4 c5 c6 c7 c8 c9 c10 c11) 38) :
    (execOp a.eval op).run Tryd.prog W = .ok (.value (.agg (mCellsZ c0 c1 c2 c3 c4 c5 c6 c7 c8 c9 c10 c11))) W := by
  unfold execOp
  simp only [ho, hx, Instr.loadAt, Instr.sureAddr, Sem.run_bind, Sem.run_pure, Result.andThen_ok, run_loadVar_row W xb 38 38 (mCellsZ c0 c1 c2 c3 c4 c5 c6 c7 c8 c9 c10 c11) (0, 0) _ hb Tryd.underlying38 rfl infoM]
set_option maxRecDepth 100000 in
set_option maxHeartbeats 8000000 in
theorem recordBack_walk (a b k mk : Int) (w : World) (hT : Tab w) (a0 : 0 ≤ a) (a1 : a < 256) (b0 : 0 ≤ b) (b1 : b < 256) (k0 : 0 ≤ k) (k1 : k < 256) :
    Calls Tryd.prog 3 #[.int .u8 a, .int .u8 b, .int .u8 k, .int .u64 mk] w fun e w' => e = .returned (.bool true) ∧ Adds w w' := by
  obtain ⟨P, hP⟩ : ∃ P, P = 1 + a % 60 := ⟨_, rfl⟩
  obtain ⟨pg, hpg⟩ : ∃ pg, pg = b % P := ⟨_, rfl⟩
  have hPb : 1 ≤ P ∧ P ≤ 60 := by omega
  have hpb : 0 ≤ pg ∧ pg < P := by rw [hpg]; exact ⟨Int.emod_nonneg _ (by omega), Int.emod_lt_of_pos _ (by omega)⟩
  obtain ⟨hF, hal, hcl⟩ := ly_fix P pg k mk hpb.1 hpb.2 hPb.2 k0 k1
  have hB : ∀ W, Calls Tryd.prog 6 #[.agg #[.int .i64 P, .int .i64 2], .int .i64 pg, .int .i64 k, .int .u64 mk] W fun e w' => e = .returned (mAgg 5 P 2 0 pg (lyC P pg k) (lyN P pg k) (1 + k) 0 0 0 (lyA P pg k mk)) ∧ Adds W w' := fun W => lawLay_any P 2 pg k mk W hpb.1 hpb.2 (by omega) k0 k1
  obtain ⟨cl, hcl0⟩ : ∃ c, c = lyC P pg k := ⟨_, rfl⟩
  obtain ⟨ps, hps0⟩ : ∃ c, c = lyN P pg k := ⟨_, rfl⟩
  obtain ⟨al, hal0⟩ : ∃ c, c = lyA P pg k mk := ⟨_, rfl⟩
  obtain ⟨gn, hgn0⟩ : ∃ c, c = 1 + k := ⟨_, rfl⟩
  rw [← hcl0, ← hps0, ← hal0, ← hgn0] at hF hB
  rw [← hcl0, ← hal0] at hal
  rw [← hcl0, ← hps0] at hcl
  have FF := Lib.hid hF; have HLY := Lib.hid hB; have HAL := Lib.hid hal; have HCL := Lib.hid hcl; have HT := Lib.hid hT
  have e1 : IntKind.i64.wrap a = a := by rw [IntKind.wrap_i64]; omega
  have e2 : Int.tmod a 60 = a % 60 := Int.tmod_eq_emod_of_nonneg a0
  have e3 : IntKind.i64.wrap (a % 60) = a % 60 := by rw [IntKind.wrap_i64]; omega
  have e4 : IntKind.i64.wrap (1 + a % 60) = P := by rw [IntKind.wrap_i64]; omega
  have e5 : IntKind.i64.wrap b = b := by rw [IntKind.wrap_i64]; omega
  have e6 : IntKind.i64.wrap k = k := by rw [IntKind.wrap_i64]; omega
  have e7 : Int.tmod b P = pg := by rw [hpg]; exact Int.tmod_eq_emod_of_nonneg b0
  have e8 : IntKind.i64.wrap pg = pg := by rw [IntKind.wrap_i64]; omega
  have e9 : (P == 0) = false := by simp only [beq_eq_false_iff_ne]; omega
  have e10 : ¬ P = 0 := by omega
  have f1 := hF.h1; have f2 := hF.h2; have f3 := hF.hc; have f4 := hF.ha
  clear hF hB hal hcl hT hP hpg hcl0 hps0 hal0 hgn0
  go_enter Tryd.func3, Tryd.ntmps3
  go_upto_region 4 with (go_at_call 5; refine (arenaNew_yard P 2 _ FF.out.hm).mono ?_; rintro e wA ⟨ab, sb, sm, rb, rfl, hy, hoA, hlow⟩)
  have HLb := Lib.hid ((Blk.new w #[.int .i64 P, .int .i64 2] 24).only hoA id)
  have HAd := Lib.hid (((Only.refl (fun _ => False) w).alloc (.cells #[.int .i64 P, .int .i64 2] 24)).thenF hoA)
  have HY := Lib.hid (YW.new hy)
  have HSZ : Hid (w.heap.size < wA.heap.size) := Lib.hid HLb.out.lt
  have HLOW : Hid (w.heap.size ≤ sb ∧ w.heap.size ≤ sm) := Lib.hid (by simp only [World.size_alloc] at hlow; omega)
  clear hy hoA hlow
  go_cut [12] (fun x wx => ∃ xb, x = .pointer (some ⟨xb, 0, none⟩) ∧ Blk wx xb (mCellsZ 5 P 2 0 pg cl ps gn 0 0 0 al) 38 ∧ Adds wA wx)
  case first =>
    refine wp_region_held_drew (S := fun W => Blk W w.heap.size #[.int .i64 P, .int .i64 2] 24 ∧ Adds wA W) (by kernel_rfl) ⟨HLb.out.only ((Only.refl (fun _ => False) wA).drew) (id : ¬ False), (Only.refl (fun _ => False) wA).drew⟩ (fun hHeld => ?_)
    refine wpAnyH_take (i := 0) (v := (.agg #[.int .i64 P, .int .i64 2])) rfl (by kernel_rfl) (by kernel_rfl) (by kernel_rfl) (fun _ _ _ h => h) (Or.inl ⟨by rfl, fun W hS => by (have q0 : W.cell? ⟨w.heap.size, 0, none⟩ = some (.int .i64 P) := hS.1.cell 0; have q1 : W.cell? ⟨w.heap.size, 1, none⟩ = some (.int .i64 2) := hS.1.cell 1; go_simp)⟩) hHeld ?_
    try simp only [Act.put, List.getElem_toArray, List.getElem_cons_succ, List.getElem_cons_zero, List.setIfInBounds_toArray, List.set_cons_zero, List.set_cons_succ]
    refine wpAnyH_take (i := 1) (v := (.int .u8 b)) rfl (by kernel_rfl) (by kernel_rfl) (by kernel_rfl) (fun _ _ _ h => h) (Or.inl ⟨by rfl, fun W hS => by first | rfl | (go_simp; done)⟩) hHeld ?_
    try simp only [Act.put, List.getElem_toArray, List.getElem_cons_succ, List.getElem_cons_zero, List.setIfInBounds_toArray, List.set_cons_zero, List.set_cons_succ]
    refine wpAnyH_take (i := 2) (v := (.int .i64 b)) rfl (by kernel_rfl) (by kernel_rfl) (by kernel_rfl) (fun _ _ _ h => h) (Or.inl ⟨by rfl, fun W hS => by (go_simp)⟩) hHeld ?_
    try simp only [Act.put, List.getElem_toArray, List.getElem_cons_succ, List.getElem_cons_zero, List.setIfInBounds_toArray, List.set_cons_zero, List.set_cons_succ]
    refine wpAnyH_take (i := 3) (v := (.int .i64 P)) rfl (by kernel_rfl) (by kernel_rfl) (by kernel_rfl) (fun _ _ _ h => h) (Or.inl ⟨by rfl, fun W hS => by first | rfl | (go_simp; done)⟩) hHeld ?_
    try simp only [Act.put, List.getElem_toArray, List.getElem_cons_succ, List.getElem_cons_zero, List.setIfInBounds_toArray, List.set_cons_zero, List.set_cons_succ]
    refine wpAnyH_take (i := 4) (v := (.int .i64 pg)) rfl (by kernel_rfl) (by kernel_rfl) (by kernel_rfl) (fun _ _ _ h => h) (Or.inl ⟨by rfl, fun W hS => by (go_simp)⟩) hHeld ?_
    try simp only [Act.put, List.getElem_toArray, List.getElem_cons_succ, List.getElem_cons_zero, List.setIfInBounds_toArray, List.set_cons_zero, List.set_cons_succ]
    refine wpAnyH_take (i := 5) (v := (.int .u8 k)) rfl (by kernel_rfl) (by kernel_rfl) (by kernel_rfl) (fun _ _ _ h => h) (Or.inl ⟨by rfl, fun W hS => by first | rfl | (go_simp; done)⟩) hHeld ?_
    try simp only [Act.put, List.getElem_toArray, List.getElem_cons_succ, List.getElem_cons_zero, List.setIfInBounds_toArray, List.set_cons_zero, List.set_cons_succ]
    refine wpAnyH_take (i := 6) (v := (.int .i64 k)) rfl (by kernel_rfl) (by kernel_rfl) (by kernel_rfl) (fun _ _ _ h => h) (Or.inl ⟨by rfl, fun W hS => by (go_simp)⟩) hHeld ?_
    try simp only [Act.put, List.getElem_toArray, List.getElem_cons_succ, List.getElem_cons_zero, List.setIfInBounds_toArray, List.set_cons_zero, List.set_cons_succ]
    refine wpAnyH_take (i := 7) (v := (.int .u64 mk)) rfl (by kernel_rfl) (by kernel_rfl) (by kernel_rfl) (fun _ _ _ h => h) (Or.inl ⟨by rfl, fun W hS => by first | rfl | (go_simp; done)⟩) hHeld ?_
    try simp only [Act.put, List.getElem_toArray, List.getElem_cons_succ, List.getElem_cons_zero, List.setIfInBounds_toArray, List.set_cons_zero, List.set_cons_succ]
    refine wpAnyH_ready (rs := [8, 9]) (by kernel_rfl) (by simp) (AllReadyH.cons rfl (fun K hK => ?_) (AllReadyH.cons rfl (fun K hK => ?_) AllReadyH.nil))
    · simp only [List.getElem_toArray, List.getElem_cons_succ, List.getElem_cons_zero]
      go_simp
      go_at_call 6; refine (HLY.out _).mono ?_; rintro e w2 ⟨rfl, ho2⟩
      refine hK.out _ _ ⟨hHeld.1.only ho2 (id : ¬ False), hHeld.2.thenF ho2⟩ (fun hHeld => ?_)
      clear hK
      try simp only [Act.put, List.getElem_toArray, List.getElem_cons_succ, List.getElem_cons_zero, List.setIfInBounds_toArray, List.set_cons_zero, List.set_cons_succ]
      refine wpAnyH_ready (rs := [9]) (by kernel_rfl) (by simp) (AllReadyH.cons rfl (fun K hK => ?_) AllReadyH.nil)
      simp only [List.getElem_toArray, List.getElem_cons_succ, List.getElem_cons_zero]
      go_simp
      have hX := Blk.new w2 mZ 38
      refine hK.out _ _ ⟨hHeld.1.alloc _, hHeld.2.alloc _⟩ (fun hHeld => ?_)
      clear hK
      try simp only [Act.put, List.getElem_toArray, List.getElem_cons_succ, List.getElem_cons_zero, List.setIfInBounds_toArray, List.set_cons_zero, List.set_cons_succ]
      refine wpAnyH_ready (rs := [10]) (by kernel_rfl) (by simp) (AllReadyH.cons rfl (fun K hK => ?_) AllReadyH.nil)
      simp only [List.getElem_toArray, List.getElem_cons_succ, List.getElem_cons_zero]
      rw [if_pos (by rfl)]
      refine wp_store_row 38 _ _ rfl w2.heap.size (mCellsZ 5 P 2 0 pg cl ps gn 0 0 0 al) rfl rfl (run_storeVar_row _ _ 38 38 mZ (mCellsZ 5 P 2 0 pg cl ps gn 0 0 0 al) hX infoM rfl (by simp [Value.oneCell'])) ?_
      refine hK.out _ _ ⟨(setRow_other _ _ w.heap.size _ (by have := HSZ.out; have h3 := ho2.size; simp only [World.size_drew, World.size_alloc] at this h3 ⊢; omega)).trans hHeld.1, adds_setRow hHeld.2 (by have h3 := ho2.size; simp only [World.size_drew, World.size_alloc] at h3 ⊢; omega) _⟩ (fun hHeld => ?_)
      have hE := hHeld.2
      have hF := setRow_heap _ _ mZ (mCellsZ 5 P 2 0 pg cl ps gn 0 0 0 al) _ _ hX
      generalize World.setRow _ _ (mCellsZ 5 P 2 0 pg cl ps gn 0 0 0 al) = wF at hE hF ⊢
      clear hHeld hK
      try simp only [Act.put]
      refine wpAnyH_done (by kernel_rfl) ?_ _
      go_wp2_with fail
      go_meet
      exact ⟨_, rfl, hF, hE⟩
    · simp only [List.getElem_toArray, List.getElem_cons_succ, List.getElem_cons_zero]
      go_simp
      have hX0 : Blk (wA.drew.alloc (.cells mZ 38)) wA.heap.size mZ 38 := Blk.new wA.drew mZ 38
      refine hK.out _ _ ⟨hHeld.1.alloc _, hHeld.2.alloc _⟩ (fun hHeld => ?_)
      clear hK
      try simp only [Act.put, List.getElem_toArray, List.getElem_cons_succ, List.getElem_cons_zero, List.setIfInBounds_toArray, List.set_cons_zero, List.set_cons_succ]
      refine wpAnyH_ready (rs := [8]) (by kernel_rfl) (by simp) (AllReadyH.cons rfl (fun K hK => ?_) AllReadyH.nil)
      simp only [List.getElem_toArray, List.getElem_cons_succ, List.getElem_cons_zero]
      go_simp
      go_at_call 6; refine (HLY.out _).mono ?_; rintro e w2 ⟨rfl, ho2⟩
      have hX := hX0.only ho2 (id : ¬ False)
      refine hK.out _ _ ⟨hHeld.1.only ho2 (id : ¬ False), hHeld.2.thenF ho2⟩ (fun hHeld => ?_)
      clear hK
      try simp only [Act.put, List.getElem_toArray, List.getElem_cons_succ, List.getElem_cons_zero, List.setIfInBounds_toArray, List.set_cons_zero, List.set_cons_succ]
      refine wpAnyH_ready (rs := [10]) (by kernel_rfl) (by simp) (AllReadyH.cons rfl (fun K hK => ?_) AllReadyH.nil)
      simp only [List.getElem_toArray, List.getElem_cons_succ, List.getElem_cons_zero]
      rw [if_pos (by rfl)]
      refine wp_store_row 38 _ _ rfl wA.heap.size (mCellsZ 5 P 2 0 pg cl ps gn 0 0 0 al) rfl rfl (run_storeVar_row _ _ 38 38 mZ (mCellsZ 5 P 2 0 pg cl ps gn 0 0 0 al) hX infoM rfl (by simp [Value.oneCell'])) ?_
      refine hK.out _ _ ⟨(setRow_other _ _ w.heap.size _ (by have := HSZ.out; have h3 := ho2.size; simp only [World.size_drew, World.size_alloc] at this h3 ⊢; omega)).trans hHeld.1, adds_setRow hHeld.2 (by have h3 := ho2.size; simp only [World.size_drew, World.size_alloc] at h3 ⊢; omega) _⟩ (fun hHeld => ?_)
      have hE := hHeld.2
      have hF := setRow_heap _ _ mZ (mCellsZ 5 P 2 0 pg cl ps gn 0 0 0 al) _ _ hX
      generalize World.setRow _ _ (mCellsZ 5 P 2 0 pg cl ps gn 0 0 0 al) = wF at hE hF ⊢
      clear hHeld hK
      try simp only [Act.put]
      refine wpAnyH_done (by kernel_rfl) ?_ _
      go_wp2_with fail
      go_meet
      exact ⟨_, rfl, hF, hE⟩
  case rest =>
    obtain ⟨xb, rfl, hX, hA⟩ := hcut
    have HX := Lib.hid hX
    have HL := Lib.hid (HLb.out.only hA id)
    have HO := Lib.hid (HAd.out.thenF hA)
    have HYc := Lib.hid (HY.out.adds hA)
    have l0 : wc.cell? ⟨w.heap.size, 0, none⟩ = some (.int .i64 P) := HL.out.cell 0
    have l1 : wc.cell? ⟨w.heap.size, 1, none⟩ = some (.int .i64 2) := HL.out.cell 1
    have x4 : wc.cell? ⟨xb, 4, none⟩ = some (.int .i64 pg) := hX.cell 4
    have x5 : wc.cell? ⟨xb, 5, none⟩ = some (.int .i64 cl) := hX.cell 5
    have x6 : wc.cell? ⟨xb, 6, none⟩ = some (.int .i64 ps) := hX.cell 6
    have x7 : wc.cell? ⟨xb, 7, none⟩ = some (.int .i64 gn) := hX.cell 7
    have x11 : wc.cell? ⟨xb, 11, none⟩ = some (.int .u64 al) := hX.cell 11
    have HK : Hid (∀ W W', (W.cell? ⟨w.heap.size, 0, none⟩ = some (.int .i64 P) ∧ W.cell? ⟨w.heap.size, 1, none⟩ = some (.int .i64 2) ∧ W.cell? ⟨xb, 4, none⟩ = some (.int .i64 pg) ∧ W.cell? ⟨xb, 5, none⟩ = some (.int .i64 cl) ∧ W.cell? ⟨xb, 6, none⟩ = some (.int .i64 ps) ∧ W.cell? ⟨xb, 7, none⟩ = some (.int .i64 gn) ∧ W.cell? ⟨xb, 11, none⟩ = some (.int .u64 al) ∧ Adds wc W) → Adds W W' → (W'.cell? ⟨w.heap.size, 0, none⟩ = some (.int .i64 P) ∧ W'.cell? ⟨w.heap.size, 1, none⟩ = some (.int .i64 2) ∧ W'.cell? ⟨xb, 4, none⟩ = some (.int .i64 pg) ∧ W'.cell? ⟨xb, 5, none⟩ = some (.int .i64 cl) ∧ W'.cell? ⟨xb, 6, none⟩ = some (.int .i64 ps) ∧ W'.cell? ⟨xb, 7, none⟩ = some (.int .i64 gn) ∧ W'.cell? ⟨xb, 11, none⟩ = some (.int .u64 al) ∧ Adds wc W')) := Lib.hid (fun W W' h ho => by
      obtain ⟨q0, q1, q4, q5, q6, q7, q11, hq⟩ := h
      exact ⟨(ho.cellF (p := ⟨w.heap.size, 0, none⟩) (cell_lt q0) id).trans q0, (ho.cellF (p := ⟨w.heap.size, 1, none⟩) (cell_lt q1) id).trans q1, (ho.cellF (p := ⟨xb, 4, none⟩) (cell_lt q4) id).trans q4, (ho.cellF (p := ⟨xb, 5, none⟩) (cell_lt q5) id).trans q5, (ho.cellF (p := ⟨xb, 6, none⟩) (cell_lt q6) id).trans q6, (ho.cellF (p := ⟨xb, 7, none⟩) (cell_lt q7) id).trans q7, (ho.cellF (p := ⟨xb, 11, none⟩) (cell_lt q11) id).trans q11, hq.thenF ho⟩)
    have HG : Hid (∀ W, (W.cell? ⟨w.heap.size, 0, none⟩ = some (.int .i64 P) ∧ W.cell? ⟨w.heap.size, 1, none⟩ = some (.int .i64 2) ∧ W.cell? ⟨xb, 4, none⟩ = some (.int .i64 pg) ∧ W.cell? ⟨xb, 5, none⟩ = some (.int .i64 cl) ∧ W.cell? ⟨xb, 6, none⟩ = some (.int .i64 ps) ∧ W.cell? ⟨xb, 7, none⟩ = some (.int .i64 gn) ∧ W.cell? ⟨xb, 11, none⟩ = some (.int .u64 al) ∧ Adds wc W) → Adds wc W) := Lib.hid (fun W h => h.2.2.2.2.2.2.2)
    clear hX hA HLb HAd HY HSZ
    go_wp2_with fail
    go_region_held3 (fun W => W.cell? ⟨w.heap.size, 0, none⟩ = some (.int .i64 P) ∧ W.cell? ⟨w.heap.size, 1, none⟩ = some (.int .i64 2) ∧ W.cell? ⟨xb, 4, none⟩ = some (.int .i64 pg) ∧ W.cell? ⟨xb, 5, none⟩ = some (.int .i64 cl) ∧ W.cell? ⟨xb, 6, none⟩ = some (.int .i64 ps) ∧ W.cell? ⟨xb, 7, none⟩ = some (.int .i64 gn) ∧ W.cell? ⟨xb, 11, none⟩ = some (.int .u64 al) ∧ Adds wc W)
      (first | (exact ⟨l0, l1, x4, x5, x6, x7, x11, (Only.refl _ _).drew⟩) | (exact HK.out _ _ (by assumption) (by assumption)))
      (first
      | (go_at_call 7; refine (newLay_fix (HT.out.adds (HO.out.thenF (HG.out _ (by assumption)))) FF.out HAL.out HCL.out).mono ?_; rintro e w1 ⟨mb, rfl, hl, ho1, hlow1⟩)
      | (go_at_call 8; refine (newGone_fix FF.out).mono ?_; rintro e w2 ⟨gb, rfl, hg, ho2, hlow2⟩))
    rename_i hH
    have hq := HG.out _ hH
    have HS := Lib.hid (LoopA.start (w := w) FF.out (hl.adds ho2) hg (HYc.out.adds hq) (HL.out.only hq id) (HX.out.only hq id) (HO.out.thenF hq) ⟨HLOW.out.1, HLOW.out.2, by have s1 := HO.out.size; simp only [World.size_drew] at hlow1; omega, by have s1 := HO.out.size; have s2 := ho1.size; simp only [World.size_drew] at s2; omega⟩)
    clear hH hq hl hg ho1 ho2 hlow1 hlow2 l0 l1 x4 x5 x6 x7 x11 HK HG HX HL HO HYc HLOW HLY HAL HCL
    have hkd := fun W a b c d => did_kind W a b c d
    have s1 : IntKind.i64.wrap (ps + 4) = ps + 4 := by rw [IntKind.wrap_i64]; omega
    have s2 : IntKind.i64.wrap (ps + 1) = ps + 1 := by rw [IntKind.wrap_i64]; omega
    go_wp2_with fail
    go_loopw [15] (fun o wr => ∃ i : Int, 0 ≤ i ∧ i ≤ ps + 4 ∧ o = .int .i64 i ∧ Hid (LoopA w wr w.heap.size xb mb gb ab sb sm rb P pg cl ps al gn i)) (fun o _ => (ps + 4 - intOf o).toNat)
    case atStart => exact ⟨0, by omega, by omega, rfl, HS⟩
    case round =>
      obtain ⟨i, hi0, hi1, rfl, HW⟩ := hrel
      have x4 : wr.cell? ⟨xb, 4, none⟩ = some (.int .i64 pg) := HW.out.xb.cell 4
      have x6 : wr.cell? ⟨xb, 6, none⟩ = some (.int .i64 ps) := HW.out.xb.cell 6
      by_cases hi2 : i < ps + 4
      · go_wp2_with (first
          | (go_at_call 9; refine (HW.out.read FF.out hi2).mono ?_; rintro e v1 ⟨rfl, ho⟩; have HW1 := Lib.hid (fun o => (HW.out.adds ho).adds ((Only.refl (fun _ => False) v1).alloc o)); clear ho)
          | (go_at_call 10; refine ((HW1.out _).notDone hi2).mono ?_; rintro e v2 ⟨rfl, rfl⟩)
          | (go_at_call 11; refine ((HW1.out _).stepE FF.out hi0 hi2).mono ?_; rintro e v3 ⟨x, old, v, rfl, hs⟩; have HW3 := Lib.hid hs; clear hs))
        go_roundw
        case rel => exact ⟨i + 1, by omega, by omega, by go_num, HW3⟩
        case measure => simp [intOf]; omega
      · obtain rfl : i = ps + 4 := by omega
        have x5 : wr.cell? ⟨xb, 5, none⟩ = some (.int .i64 cl) := HW.out.xb.cell 5
        have x7 : wr.cell? ⟨xb, 7, none⟩ = some (.int .i64 gn) := HW.out.xb.cell 7
        have x11 : wr.cell? ⟨xb, 11, none⟩ = some (.int .u64 al) := HW.out.xb.cell 11
        go_upto_region 15 with fail
        have hwant := Blk.new wr #[.int .i64 pg, .int .i64 ps, .int .i64 cl, .int .i64 gn, .int .i64 2, .int .u64 al, .int .u64 0] 45
        have hLB := HW.out.adds ((Only.refl (fun _ => False) wr).alloc (.cells #[.int .i64 pg, .int .i64 ps, .int .i64 cl, .int .i64 gn, .int .i64 2, .int .u64 al, .int .u64 0] 45))
        obtain ⟨wB, hwB⟩ : ∃ wB, wB = wr.alloc (.cells #[.int .i64 pg, .int .i64 ps, .int .i64 cl, .int .i64 gn, .int .i64 2, .int .u64 al, .int .u64 0] 45) := ⟨_, rfl⟩
        obtain ⟨sp, hsp⟩ : ∃ sp, sp = wr.heap.size := ⟨_, rfl⟩
        rw [← hwB] at hwant hLB ⊢
        rw [← hsp] at hwant ⊢
        have HLB := Lib.hid hLB
        have hwant' := hwant
        clear hwB hsp hwant hLB x4 x5 x6 x7 x11
        have u1 : IntKind.u64.wrap pg = pg := by rw [IntKind.wrap_u64]; omega
        have u2 : IntKind.u64.wrap (pg + 1) = pg + 1 := by rw [IntKind.wrap_u64]; omega
        have HWT := Lib.hid hwant'
        clear hwant'
        go_cut [126] (fun s wx => s = .bool false ∧ Hid (LoopA w wx w.heap.size xb mb gb ab sb sm rb P pg cl ps al gn (ps + 4)))
        case first =>
          refine wp_region_held_drew (S := (fun W => Blk W sp #[.int .i64 pg, .int .i64 ps, .int .i64 cl, .int .i64 gn, .int .i64 2, .int .u64 al, .int .u64 0] 45 ∧ LoopA w W w.heap.size xb mb gb ab sb sm rb P pg cl ps al gn (ps + 4))) (by kernel_rfl) ⟨HWT.out.only ((Only.refl (fun _ => False) wB).drew) (id : ¬ False), HLB.out.adds ((Only.refl (fun _ => False) wB).drew)⟩ (fun hHeld => ?_)
          refine wpAnyH_take (i := 0) (v := (.pointer (some ⟨mb, 0, none⟩))) rfl (by kernel_rfl) (by kernel_rfl) (by kernel_rfl) (fun _ _ _ h => h) (Or.inl ⟨by rfl, fun W hS => by first | rfl | (go_simp; done)⟩) hHeld ?_
          try simp only [Act.put, List.getElem_toArray, List.getElem_cons_succ, List.getElem_cons_zero, List.setIfInBounds_toArray, List.set_cons_zero, List.set_cons_succ]
          refine wpAnyH_ready (rs := [1]) (by kernel_rfl) (by simp) (AllReadyH.cons rfl (fun K hK => ?_) AllReadyH.nil)
          simp only [List.getElem_toArray, List.getElem_cons_succ, List.getElem_cons_zero]
          go_simp
          go_at_call 10; refine (hHeld.2.isDone).mono ?_; rintro e d1 ⟨rfl, rfl⟩
          refine hK.out _ _ hHeld (fun hHeld => ?_)
          clear hK
          try simp only [Act.put, List.getElem_toArray, List.getElem_cons_succ, List.getElem_cons_zero, List.setIfInBounds_toArray, List.set_cons_zero, List.set_cons_succ]
          refine wpAnyH_take (i := 2) (v := (.bool false)) rfl (by kernel_rfl) (by kernel_rfl) (by kernel_rfl) (fun _ _ _ h => h) (Or.inl ⟨by rfl, fun W hS => by first | rfl | (go_simp; done)⟩) hHeld ?_
          try simp only [Act.put, List.getElem_toArray, List.getElem_cons_succ, List.getElem_cons_zero, List.setIfInBounds_toArray, List.set_cons_zero, List.set_cons_succ]
          refine wpAnyH_take (i := 3) (v := (.bool false)) rfl (by kernel_rfl) (by kernel_rfl) (by kernel_rfl) (fun _ _ _ h => h) (Or.inl ⟨by rfl, fun W hS => by first | rfl | (go_simp; done)⟩) hHeld ?_
          try simp only [Act.put, List.getElem_toArray, List.getElem_cons_succ, List.getElem_cons_zero, List.setIfInBounds_toArray, List.set_cons_zero, List.set_cons_succ]
          refine wpAnyH_take (i := 4) (v := (.pointer (some ⟨ab, 0, none⟩))) rfl (by kernel_rfl) (by kernel_rfl) (by kernel_rfl) (fun _ _ _ h => h) (Or.inl ⟨by rfl, fun W hS => by first | rfl | (go_simp; done)⟩) hHeld ?_
          try simp only [Act.put, List.getElem_toArray, List.getElem_cons_succ, List.getElem_cons_zero, List.setIfInBounds_toArray, List.set_cons_zero, List.set_cons_succ]
          refine wpAnyH_take (i := 6) (v := (.agg #[.int .i64 pg, .int .i64 ps, .int .i64 cl, .int .i64 gn, .int .i64 2, .int .u64 al, .int .u64 0])) rfl (by kernel_rfl) (by kernel_rfl) (by kernel_rfl) (fun _ _ _ h => h) (Or.inl ⟨by rfl, fun W hS => by (have q0 : W.cell? ⟨sp, 0, none⟩ = some (.int .i64 pg) := hS.1.cell 0; have q1 : W.cell? ⟨sp, 1, none⟩ = some (.int .i64 ps) := hS.1.cell 1; have q2 : W.cell? ⟨sp, 2, none⟩ = some (.int .i64 cl) := hS.1.cell 2; have q3 : W.cell? ⟨sp, 3, none⟩ = some (.int .i64 gn) := hS.1.cell 3; have q4 : W.cell? ⟨sp, 4, none⟩ = some (.int .i64 2) := hS.1.cell 4; have q5 : W.cell? ⟨sp, 5, none⟩ = some (.int .u64 al) := hS.1.cell 5; have q6 : W.cell? ⟨sp, 6, none⟩ = some (.int .u64 0) := hS.1.cell 6; go_simp)⟩) hHeld ?_
          try simp only [Act.put, List.getElem_toArray, List.getElem_cons_succ, List.getElem_cons_zero, List.setIfInBounds_toArray, List.set_cons_zero, List.set_cons_succ]
          refine wpAnyH_ready (rs := [5, 7]) (by kernel_rfl) (by simp) (AllReadyH.cons rfl (fun K hK => ?_) (AllReadyH.cons rfl (fun K hK => ?_) AllReadyH.nil))
          · simp only [List.getElem_toArray, List.getElem_cons_succ, List.getElem_cons_zero]
            go_simp
            go_at_call 13; refine (hHeld.2.list FF.out).mono ?_; rintro e y1 ⟨qb, qc, rfl, hsp, ho1⟩
            refine hK.out _ _ ⟨hHeld.1.only ho1 (id : ¬ False), hHeld.2.adds ho1⟩ (fun hHeld => ?_)
            clear hK
            try simp only [Act.put, List.getElem_toArray, List.getElem_cons_succ, List.getElem_cons_zero, List.setIfInBounds_toArray, List.set_cons_zero, List.set_cons_succ]
            refine wpAnyH_ready (rs := [7]) (by kernel_rfl) (by simp) (AllReadyH.cons rfl (fun K hK => ?_) AllReadyH.nil)
            simp only [List.getElem_toArray, List.getElem_cons_succ, List.getElem_cons_zero]
            go_simp
            refine hK.out _ _ ⟨hHeld.1.alloc _, hHeld.2.adds ((Only.refl (fun _ => False) _).alloc _)⟩ (fun hHeld => ?_)
            clear hK
            try simp only [Act.put, List.getElem_toArray, List.getElem_cons_succ, List.getElem_cons_zero, List.setIfInBounds_toArray, List.set_cons_zero, List.set_cons_succ]
            refine wpAnyH_ready (rs := [8]) (by kernel_rfl) (by simp) (AllReadyH.cons rfl (fun K hK => ?_) AllReadyH.nil)
            simp only [List.getElem_toArray, List.getElem_cons_succ, List.getElem_cons_zero]
            go_simp
            go_at_call 12; refine (sameSpans_one (hsp.adds ((Only.refl (fun _ => False) _).alloc _)) (sp_new _ _ _ _ _ _ _ _ _)).mono ?_; rintro e y2 ⟨rfl, nn, rfl⟩
            refine hK.out _ _ ⟨hHeld.1.only ((Only.refl (fun _ => False) _).drewN nn) (id : ¬ False), hHeld.2.adds ((Only.refl (fun _ => False) _).drewN nn)⟩ (fun hHeld => ?_)
            clear hK
            try simp only [Act.put, List.getElem_toArray, List.getElem_cons_succ, List.getElem_cons_zero, List.setIfInBounds_toArray, List.set_cons_zero, List.set_cons_succ]
            refine wpAnyH_take (i := 9) (v := (.bool false)) rfl (by kernel_rfl) (by kernel_rfl) (by kernel_rfl) (fun _ _ _ h => h) (Or.inl ⟨by rfl, fun W hS => by first | rfl | (go_simp; done)⟩) hHeld ?_
            try simp only [Act.put, List.getElem_toArray, List.getElem_cons_succ, List.getElem_cons_zero, List.setIfInBounds_toArray, List.set_cons_zero, List.set_cons_succ]
            refine wpAnyH_take (i := 10) (v := (.bool false)) rfl (by kernel_rfl) (by kernel_rfl) (by kernel_rfl) (fun _ _ _ h => h) (Or.inl ⟨by rfl, fun W hS => by first | rfl | (go_simp; done)⟩) hHeld ?_
            try simp only [Act.put, List.getElem_toArray, List.getElem_cons_succ, List.getElem_cons_zero, List.setIfInBounds_toArray, List.set_cons_zero, List.set_cons_succ]
            refine wpAnyH_take (i := 11) (v := (.bool false)) rfl (by kernel_rfl) (by kernel_rfl) (by kernel_rfl) (fun _ _ _ h => h) (Or.inl ⟨by rfl, fun W hS => by first | rfl | (go_simp; done)⟩) hHeld ?_
            try simp only [Act.put, List.getElem_toArray, List.getElem_cons_succ, List.getElem_cons_zero, List.setIfInBounds_toArray, List.set_cons_zero, List.set_cons_succ]
            refine wpAnyH_take (i := 12) (v := (.pointer (some ⟨ab, 0, none⟩))) rfl (by kernel_rfl) (by kernel_rfl) (by kernel_rfl) (fun _ _ _ h => h) (Or.inl ⟨by rfl, fun W hS => by first | rfl | (go_simp; done)⟩) hHeld ?_
            try simp only [Act.put, List.getElem_toArray, List.getElem_cons_succ, List.getElem_cons_zero, List.setIfInBounds_toArray, List.set_cons_zero, List.set_cons_succ]
            refine wpAnyH_take (i := 13) (v := (.agg #[.int .i64 P, .int .i64 2])) rfl (by kernel_rfl) (by kernel_rfl) (by kernel_rfl) (fun _ _ _ h => h) (Or.inl ⟨by rfl, fun W hS => by (have q0 : W.cell? ⟨w.heap.size, 0, none⟩ = some (.int .i64 P) := hS.2.lb.cell 0; have q1 : W.cell? ⟨w.heap.size, 1, none⟩ = some (.int .i64 2) := hS.2.lb.cell 1; go_simp)⟩) hHeld ?_
            try simp only [Act.put, List.getElem_toArray, List.getElem_cons_succ, List.getElem_cons_zero, List.setIfInBounds_toArray, List.set_cons_zero, List.set_cons_succ]
            refine wpAnyH_take (i := 14) (v := (.agg (mCellsZ 5 P 2 0 pg cl ps gn 0 0 0 al))) rfl (by kernel_rfl) (by kernel_rfl) (by kernel_rfl) (fun _ _ _ h => h) (Or.inl ⟨by rfl, fun W hS => by refine exec_load_row38 (x := .tmp 12) ?_ ?_ hS.2.xb <;> rfl⟩) hHeld ?_
            try simp only [Act.put, List.getElem_toArray, List.getElem_cons_succ, List.getElem_cons_zero, List.setIfInBounds_toArray, List.set_cons_zero, List.set_cons_succ]
            refine wpAnyH_take (i := 15) (v := (.pointer (some ⟨xb, 4, none⟩))) rfl (by kernel_rfl) (by kernel_rfl) (by kernel_rfl) (fun _ _ _ h => h) (Or.inl ⟨by rfl, fun W hS => by first | rfl | (go_simp; done)⟩) hHeld ?_
            try simp only [Act.put, List.getElem_toArray, List.getElem_cons_succ, List.getElem_cons_zero, List.setIfInBounds_toArray, List.set_cons_zero, List.set_cons_succ]
            refine wpAnyH_take (i := 16) (v := (.int .i64 pg)) rfl (by kernel_rfl) (by kernel_rfl) (by kernel_rfl) (fun _ _ _ h => h) (Or.inl ⟨by rfl, fun W hS => by (have q4 : W.cell? ⟨xb, 4, none⟩ = some (.int .i64 pg) := hS.2.xb.cell 4; go_simp)⟩) hHeld ?_
            try simp only [Act.put, List.getElem_toArray, List.getElem_cons_succ, List.getElem_cons_zero, List.setIfInBounds_toArray, List.set_cons_zero, List.set_cons_succ]
            refine wpAnyH_take (i := 17) (v := (.int .u64 pg)) rfl (by kernel_rfl) (by kernel_rfl) (by kernel_rfl) (fun _ _ _ h => h) (Or.inl ⟨by rfl, fun W hS => by (go_simp)⟩) hHeld ?_
            try simp only [Act.put, List.getElem_toArray, List.getElem_cons_succ, List.getElem_cons_zero, List.setIfInBounds_toArray, List.set_cons_zero, List.set_cons_succ]
            refine wpAnyH_take (i := 18) (v := (.int .u64 (pg + 1))) rfl (by kernel_rfl) (by kernel_rfl) (by kernel_rfl) (fun _ _ _ h => h) (Or.inl ⟨by rfl, fun W hS => by (go_simp)⟩) hHeld ?_
            try simp only [Act.put, List.getElem_toArray, List.getElem_cons_succ, List.getElem_cons_zero, List.setIfInBounds_toArray, List.set_cons_zero, List.set_cons_succ]
            refine wpAnyH_ready (rs := [19]) (by kernel_rfl) (by simp) (AllReadyH.cons rfl (fun K hK => ?_) AllReadyH.nil)
            simp only [List.getElem_toArray, List.getElem_cons_succ, List.getElem_cons_zero]
            go_simp
            go_at_call 14; refine (hHeld.2.index FF.out).mono ?_; rintro e y3 ⟨rfl, ho3⟩
            refine hK.out _ _ ⟨hHeld.1.only ho3 (id : ¬ False), hHeld.2.adds ho3⟩ (fun hHeld => ?_)
            clear hK
            try simp only [Act.put, List.getElem_toArray, List.getElem_cons_succ, List.getElem_cons_zero, List.setIfInBounds_toArray, List.set_cons_zero, List.set_cons_succ]
            refine wpAnyH_take (i := 20) (v := (.bool false)) rfl (by kernel_rfl) (by kernel_rfl) (by kernel_rfl) (fun _ _ _ h => h) (Or.inl ⟨by rfl, fun W hS => by first | rfl | (go_simp; done)⟩) hHeld ?_
            try simp only [Act.put, List.getElem_toArray, List.getElem_cons_succ, List.getElem_cons_zero, List.setIfInBounds_toArray, List.set_cons_zero, List.set_cons_succ]
            refine wpAnyH_take (i := 21) (v := (.bool false)) rfl (by kernel_rfl) (by kernel_rfl) (by kernel_rfl) (fun _ _ _ h => h) (Or.inl ⟨by rfl, fun W hS => by first | rfl | (go_simp; done)⟩) hHeld ?_
            try simp only [Act.put, List.getElem_toArray, List.getElem_cons_succ, List.getElem_cons_zero, List.setIfInBounds_toArray, List.set_cons_zero, List.set_cons_succ]
            have hLL := Lib.hid hHeld.2
            refine wpAnyH_done (by kernel_rfl) ?_ _
            go_wp2_with fail
            go_meet
            exact ⟨rfl, hLL⟩
          · simp only [List.getElem_toArray, List.getElem_cons_succ, List.getElem_cons_zero]
            go_simp
            have hnew := sp_new wB.drew pg ps cl gn 2 al 0 45
            refine hK.out _ _ ⟨hHeld.1.alloc _, hHeld.2.adds ((Only.refl (fun _ => False) _).alloc _)⟩ (fun hHeld => ?_)
            clear hK
            try simp only [Act.put, List.getElem_toArray, List.getElem_cons_succ, List.getElem_cons_zero, List.setIfInBounds_toArray, List.set_cons_zero, List.set_cons_succ]
            refine wpAnyH_ready (rs := [5]) (by kernel_rfl) (by simp) (AllReadyH.cons rfl (fun K hK => ?_) AllReadyH.nil)
            simp only [List.getElem_toArray, List.getElem_cons_succ, List.getElem_cons_zero]
            go_simp
            go_at_call 13; refine (hHeld.2.list FF.out).mono ?_; rintro e y1 ⟨qb, qc, rfl, hsp, ho1⟩
            refine hK.out _ _ ⟨hHeld.1.only ho1 (id : ¬ False), hHeld.2.adds ho1⟩ (fun hHeld => ?_)
            clear hK
            try simp only [Act.put, List.getElem_toArray, List.getElem_cons_succ, List.getElem_cons_zero, List.setIfInBounds_toArray, List.set_cons_zero, List.set_cons_succ]
            refine wpAnyH_ready (rs := [8]) (by kernel_rfl) (by simp) (AllReadyH.cons rfl (fun K hK => ?_) AllReadyH.nil)
            simp only [List.getElem_toArray, List.getElem_cons_succ, List.getElem_cons_zero]
            go_simp
            go_at_call 12; refine (sameSpans_one hsp (hnew.adds ho1)).mono ?_; rintro e y2 ⟨rfl, nn, rfl⟩
            refine hK.out _ _ ⟨hHeld.1.only ((Only.refl (fun _ => False) _).drewN nn) (id : ¬ False), hHeld.2.adds ((Only.refl (fun _ => False) _).drewN nn)⟩ (fun hHeld => ?_)
            clear hK
            try simp only [Act.put, List.getElem_toArray, List.getElem_cons_succ, List.getElem_cons_zero, List.setIfInBounds_toArray, List.set_cons_zero, List.set_cons_succ]
            refine wpAnyH_take (i := 9) (v := (.bool false)) rfl (by kernel_rfl) (by kernel_rfl) (by kernel_rfl) (fun _ _ _ h => h) (Or.inl ⟨by rfl, fun W hS => by first | rfl | (go_simp; done)⟩) hHeld ?_
            try simp only [Act.put, List.getElem_toArray, List.getElem_cons_succ, List.getElem_cons_zero, List.setIfInBounds_toArray, List.set_cons_zero, List.set_cons_succ]
            refine wpAnyH_take (i := 10) (v := (.bool false)) rfl (by kernel_rfl) (by kernel_rfl) (by kernel_rfl) (fun _ _ _ h => h) (Or.inl ⟨by rfl, fun W hS => by first | rfl | (go_simp; done)⟩) hHeld ?_
            try simp only [Act.put, List.getElem_toArray, List.getElem_cons_succ, List.getElem_cons_zero, List.setIfInBounds_toArray, List.set_cons_zero, List.set_cons_succ]
            refine wpAnyH_take (i := 11) (v := (.bool false)) rfl (by kernel_rfl) (by kernel_rfl) (by kernel_rfl) (fun _ _ _ h => h) (Or.inl ⟨by rfl, fun W hS => by first | rfl | (go_simp; done)⟩) hHeld ?_
            try simp only [Act.put, List.getElem_toArray, List.getElem_cons_succ, List.getElem_cons_zero, List.setIfInBounds_toArray, List.set_cons_zero, List.set_cons_succ]
            refine wpAnyH_take (i := 12) (v := (.pointer (some ⟨ab, 0, none⟩))) rfl (by kernel_rfl) (by kernel_rfl) (by kernel_rfl) (fun _ _ _ h => h) (Or.inl ⟨by rfl, fun W hS => by first | rfl | (go_simp; done)⟩) hHeld ?_
            try simp only [Act.put, List.getElem_toArray, List.getElem_cons_succ, List.getElem_cons_zero, List.setIfInBounds_toArray, List.set_cons_zero, List.set_cons_succ]
            refine wpAnyH_take (i := 13) (v := (.agg #[.int .i64 P, .int .i64 2])) rfl (by kernel_rfl) (by kernel_rfl) (by kernel_rfl) (fun _ _ _ h => h) (Or.inl ⟨by rfl, fun W hS => by (have q0 : W.cell? ⟨w.heap.size, 0, none⟩ = some (.int .i64 P) := hS.2.lb.cell 0; have q1 : W.cell? ⟨w.heap.size, 1, none⟩ = some (.int .i64 2) := hS.2.lb.cell 1; go_simp)⟩) hHeld ?_
            try simp only [Act.put, List.getElem_toArray, List.getElem_cons_succ, List.getElem_cons_zero, List.setIfInBounds_toArray, List.set_cons_zero, List.set_cons_succ]
            refine wpAnyH_take (i := 14) (v := (.agg (mCellsZ 5 P 2 0 pg cl ps gn 0 0 0 al))) rfl (by kernel_rfl) (by kernel_rfl) (by kernel_rfl) (fun _ _ _ h => h) (Or.inl ⟨by rfl, fun W hS => by refine exec_load_row38 (x := .tmp 12) ?_ ?_ hS.2.xb <;> rfl⟩) hHeld ?_
            try simp only [Act.put, List.getElem_toArray, List.getElem_cons_succ, List.getElem_cons_zero, List.setIfInBounds_toArray, List.set_cons_zero, List.set_cons_succ]
            refine wpAnyH_take (i := 15) (v := (.pointer (some ⟨xb, 4, none⟩))) rfl (by kernel_rfl) (by kernel_rfl) (by kernel_rfl) (fun _ _ _ h => h) (Or.inl ⟨by rfl, fun W hS => by first | rfl | (go_simp; done)⟩) hHeld ?_
            try simp only [Act.put, List.getElem_toArray, List.getElem_cons_succ, List.getElem_cons_zero, List.setIfInBounds_toArray, List.set_cons_zero, List.set_cons_succ]
            refine wpAnyH_take (i := 16) (v := (.int .i64 pg)) rfl (by kernel_rfl) (by kernel_rfl) (by kernel_rfl) (fun _ _ _ h => h) (Or.inl ⟨by rfl, fun W hS => by (have q4 : W.cell? ⟨xb, 4, none⟩ = some (.int .i64 pg) := hS.2.xb.cell 4; go_simp)⟩) hHeld ?_
            try simp only [Act.put, List.getElem_toArray, List.getElem_cons_succ, List.getElem_cons_zero, List.setIfInBounds_toArray, List.set_cons_zero, List.set_cons_succ]
            refine wpAnyH_take (i := 17) (v := (.int .u64 pg)) rfl (by kernel_rfl) (by kernel_rfl) (by kernel_rfl) (fun _ _ _ h => h) (Or.inl ⟨by rfl, fun W hS => by (go_simp)⟩) hHeld ?_
            try simp only [Act.put, List.getElem_toArray, List.getElem_cons_succ, List.getElem_cons_zero, List.setIfInBounds_toArray, List.set_cons_zero, List.set_cons_succ]
            refine wpAnyH_take (i := 18) (v := (.int .u64 (pg + 1))) rfl (by kernel_rfl) (by kernel_rfl) (by kernel_rfl) (fun _ _ _ h => h) (Or.inl ⟨by rfl, fun W hS => by (go_simp)⟩) hHeld ?_
            try simp only [Act.put, List.getElem_toArray, List.getElem_cons_succ, List.getElem_cons_zero, List.setIfInBounds_toArray, List.set_cons_zero, List.set_cons_succ]
            refine wpAnyH_ready (rs := [19]) (by kernel_rfl) (by simp) (AllReadyH.cons rfl (fun K hK => ?_) AllReadyH.nil)
            simp only [List.getElem_toArray, List.getElem_cons_succ, List.getElem_cons_zero]
            go_simp
            go_at_call 14; refine (hHeld.2.index FF.out).mono ?_; rintro e y3 ⟨rfl, ho3⟩
            refine hK.out _ _ ⟨hHeld.1.only ho3 (id : ¬ False), hHeld.2.adds ho3⟩ (fun hHeld => ?_)
            clear hK
            try simp only [Act.put, List.getElem_toArray, List.getElem_cons_succ, List.getElem_cons_zero, List.setIfInBounds_toArray, List.set_cons_zero, List.set_cons_succ]
            refine wpAnyH_take (i := 20) (v := (.bool false)) rfl (by kernel_rfl) (by kernel_rfl) (by kernel_rfl) (fun _ _ _ h => h) (Or.inl ⟨by rfl, fun W hS => by first | rfl | (go_simp; done)⟩) hHeld ?_
            try simp only [Act.put, List.getElem_toArray, List.getElem_cons_succ, List.getElem_cons_zero, List.setIfInBounds_toArray, List.set_cons_zero, List.set_cons_succ]
            refine wpAnyH_take (i := 21) (v := (.bool false)) rfl (by kernel_rfl) (by kernel_rfl) (by kernel_rfl) (fun _ _ _ h => h) (Or.inl ⟨by rfl, fun W hS => by first | rfl | (go_simp; done)⟩) hHeld ?_
            try simp only [Act.put, List.getElem_toArray, List.getElem_cons_succ, List.getElem_cons_zero, List.setIfInBounds_toArray, List.set_cons_zero, List.set_cons_succ]
            have hLL := Lib.hid hHeld.2
            refine wpAnyH_done (by kernel_rfl) ?_ _
            go_wp2_with fail
            go_meet
            exact ⟨rfl, hLL⟩
        case rest =>
          obtain ⟨rfl, HC⟩ := hcut
          have HB := Lib.hid (HC.out.toB FF.out)
          clear HC HW HLB HWT HS
          go_wp2_with fail
          go_loopw [19] (fun o wr => ∃ i : Int, 0 ≤ i ∧ i ≤ ps + 1 ∧ o = .int .i64 i ∧ Hid (LoopB w wr w.heap.size xb gb ab sb sm rb P pg cl ps al gn i)) (fun o _ => (ps + 1 - intOf o).toNat)
          case atStart => exact ⟨0, by omega, by omega, rfl, HB⟩
          case round =>
            obtain ⟨j, hj0, hj1, rfl, HV⟩ := hrel
            have x4 := HV.out.xb.cell 4
            have x6 := HV.out.xb.cell 6
            simp only [List.getElem?_toArray, List.getElem?_cons_succ, List.getElem?_cons_zero] at x4 x6
            by_cases hj2 : j < ps + 1
            · go_wp2_with (first
                | (go_at_call 9; refine (HV.out.read FF.out hj2).mono ?_; rintro e v1 ⟨rfl, ho⟩; have HV1 := Lib.hid (fun o => (HV.out.adds ho).adds ((Only.refl (fun _ => False) v1).alloc o)); clear ho)
                | (go_at_call 15; refine ((HV1.out _).notDone hj2).mono ?_; rintro e v2 ⟨rfl, rfl⟩)
                | (go_at_call 16; refine ((HV1.out _).stepE FF.out hj0 hj2).mono ?_; rintro e v3 ⟨x, old, v, rfl, hs⟩; have HV3 := Lib.hid hs; clear hs))
              go_roundw
              case rel => exact ⟨j + 1, by omega, by omega, by go_num, HV3⟩
              case measure => simp [intOf]; omega
            · obtain rfl : j = ps + 1 := by omega
              go_upto_region 23 with fail
              repeat (first
                | (refine BigFrame.wpList_want (by rfl) (fun K hK => wp_load_row 38 _ rfl xb rfl 38 (mCellsZ 5 P 2 0 pg cl ps gn 0 0 0 al) (0, 0) _ HV2.out.xb Tryd.underlying38 rfl infoM (hK _ _ ?_)))
                | (go_at_call 15; refine (HV.out.isDone).mono ?_; rintro e v1 ⟨rfl, rfl⟩)
                | (go_at_call 13; refine (HV.out.list FF.out).mono ?_; rintro e v2 ⟨rfl, ho⟩; have HV2 := Lib.hid (HV.out.adds ho); have l0 : v2.cell? ⟨w.heap.size, 0, none⟩ = some (.int .i64 P) := HV2.out.lb.cell 0; have l1 : v2.cell? ⟨w.heap.size, 1, none⟩ = some (.int .i64 2) := HV2.out.lb.cell 1; clear ho)
                | go_step
                | (dsimp only))
              go_wp2_with (first
                | (go_at_call 14; refine (HV2.out.index FF.out).mono ?_; rintro e v3 ⟨rfl, ho⟩; have HV3 := Lib.hid (HV2.out.adds ho); clear ho)
                | (go_at_call 17; refine (awake14_any _ (HT.out.adds HV3.out.ad)).mono ?_; rintro e v4 ⟨rfl, ho⟩; have HOF := Lib.hid (HV3.out.ad.thenF ho); clear ho))
              go_ret
              exact ⟨rfl, HOF.out⟩
theorem recordBack_law (a : Int) (w0 : (Lit.int .u8 a).wf = true) (b : Int) (w1 : (Lit.int .u8 b).wf = true) (k : Int) (w2 : (Lit.int .u8 k).wf = true) (mk : Int) (_w3 : (Lit.int .u64 mk).wf = true) (w : World) (hT : Tab w) :
    Calls Tryd.prog 3 #[.int .u8 a, .int .u8 b, .int .u8 k, .int .u64 mk] w fun e w' => e = .returned (.bool true) ∧ Below w.heap.size w w' := by
  obtain ⟨a0, a1⟩ := bd_u8 w0
  obtain ⟨b0, b1⟩ := bd_u8 w1
  obtain ⟨k0, k1⟩ := bd_u8 w2
  exact (recordBack_walk a b k mk w hT a0 a1 b0 b1 k0 k1).mono (fun _ _ h => ⟨h.1, h.2.below (Nat.le_refl _) (fun _ _ h => h)⟩)
end Go.Proofs.YtcikhlihgebnbaaDoor

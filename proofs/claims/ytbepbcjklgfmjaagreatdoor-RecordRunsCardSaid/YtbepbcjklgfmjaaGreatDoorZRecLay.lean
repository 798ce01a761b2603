/- RecordBack: the document's machine that the law lays. By an AI agent. -/
import Derived.Test.YtbepbcjklgfmjaaGreatDoorZRecTab
import Derived.Test.YtbepbcjklgfmjaaGreatDoorZMAgg
import Derived.Test.YtbepbcjklgfmjaaGreatDoorZ2
import Derived.Test.YtbepbcjklgfmjaaGreatDoorZ8
import Derived.Test.YtbepbcjklgfmjaaGreatDoorZ9
import Derived.Deep.RegionHeld3
import Derived.Deep.WholeRow
import Derived.BigQuiet
import Derived.Deep.DeepCutAuto
import Derived.Deep.CutBlock
namespace Go.Proofs.YtbepbcjklgfmjaaGreatDoor
open Go.RowKit
set_option linter.unusedSimpArgs false
set_option linter.unusedVariables false
abbrev mCellsZ (what P T th pg cl ps gn hd sz mo mk : Int) : Array Value := #[.int .i64 what, .int .i64 P, .int .i64 T, .int .i64 th, .int .i64 pg, .int .i64 cl, .int .i64 ps, .int .i64 gn, .int .i64 hd, .int .i64 sz, .int .i64 mo, .int .u64 mk, .bool false, .slice none 0 0, .slice none 0 0, .bool false, .int .i64 0, .bool false, .pointer none, .int .i64 0, .int .i64 0, .int .u64 0, .int .u64 0, .int .i64 0, .int .i64 0, .int .i64 0, .int .i64 0, .int .u64 0, .slice none 0 0, .slice none 0 0, .int .i64 0, .int .i64 0]
abbrev mZ9 : Array Value := mCellsZ 0 0 0 0 0 0 0 0 0 0 0 0
/-- The class, the pages, the mask of what the law lays by numbers. -/
def lyC (P pg k : Int) : Int := if k % 15 = 14 ∨ P - pg < clP (k % 15) then 14 else k % 15
def lyN (P pg k : Int) : Int := if k % 15 = 14 ∨ P - pg < clP (k % 15) then 1 + k % (P - pg) else clP (k % 15)
def lyA (P pg k mk : Int) : Int := bits .and .u64 mk (2 ^ (clS (lyC P pg k)).toNat - 1)
theorem infoM9 : (Tryz.prog.info? 61).map (·.size) = some 32 := by kernel_rfl
theorem Blk.loadAll {w : World} {b : Nat} {c : Array Value} {t : TypeId} {n : Nat} (h : Blk w b c t) (hn : c.size = n) : Sem.run Tryz.prog (loadCellsFrom ⟨b, 0, none⟩ 0 n #[]) w = .ok c w := by
  subst hn
  have := run_loadCells_list (P := Tryz.prog) w ⟨b, 0, none⟩ c.toList (fun j v hv => by
    have hadd : (⟨b, 0, none⟩ : Addr).add j = ⟨b, j, none⟩ := by unfold Addr.add; split <;> simp_all
    rw [hadd, h.cell j]
    simpa using hv)
  simpa [loadCells] using this
theorem adds_setRow9 {w W : World} {g : Nat} (h : Adds w W) (hg : w.heap.size ≤ g) (cs : Array Value) : Adds w (W.setRow g cs) :=
  ⟨h.os, h.tape, h.output, by simpa [World.setRow] using h.size, fun k hk hS => (setRow_other W g k cs (by omega)).trans (h.block k hk hS)⟩
/-- A whole row stored, as an operation. -/
theorem wp_store_row {P : Program} {op : Oper} {a : Act} {w w' : World} {K : Act → World → Prop} {Q : Exit → Act → World → Prop} (ty : TypeId) (x y : Operand) (ho : op.op = .store ty x y)
    (b : Nat) (c : Array Value) (hx : a.eval x = .pointer (some ⟨b, 0, none⟩)) (hy : a.eval y = .agg c) (hr : (storeVar ty ⟨b, 0, none⟩ (.agg c)).run P w = .ok () w')
    (h : K (a.put op.dst undef) w') : op.wp P a w K Q := by
  unfold Oper.wp execOp
  simp only [ho, hx, hy, Instr.storeAt, Instr.sureAddr, Sem.run_bind, Sem.run_pure, Result.andThen_ok, hr]
  exact h
set_option maxRecDepth 100000 in
set_option maxHeartbeats 8000000 in
theorem lawLay_any (P T pg k mk : Int) (w : World) (h0 : 0 ≤ pg) (h1 : pg < P) (h2 : P ≤ 4096) (k0 : 0 ≤ k) (k1 : k < 100000) :
    Calls Tryz.prog 16 #[.agg #[.int .i64 P, .int .i64 T], .int .i64 pg, .int .i64 k, .int .u64 mk] w fun e w' => e = .returned (mAgg 5 P T 0 pg (lyC P pg k) (lyN P pg k) (1 + k) 0 0 0 (lyA P pg k mk)) ∧ Adds w w' := by
  obtain ⟨c, hc⟩ : ∃ c, c = k % 15 := ⟨_, rfl⟩
  obtain ⟨n, hn⟩ : ∃ n, n = clP c := ⟨_, rfl⟩
  have hcb : 0 ≤ c ∧ c < 15 := by omega
  have hnb : 0 ≤ n ∧ n ≤ 3 := by rw [hn]; exact clP_bd c
  have HN := Lib.hid hn; have HCB := Lib.hid hcb
  have e1 : Int.tmod k 15 = c := by rw [hc]; exact Int.tmod_eq_emod_of_nonneg k0
  have e0 : k % 15 = c := hc.symm
  have e2 : IntKind.i64.wrap c = c := by rw [IntKind.wrap_i64]; omega
  have e3 : IntKind.i64.wrap (P - pg) = P - pg := by rw [IntKind.wrap_i64]; omega
  have e4 : IntKind.i64.wrap (1 + k) = 1 + k := by rw [IntKind.wrap_i64]; omega
  have e6 : IntKind.u64.wrap (lyA P pg k mk) = lyA P pg k mk := by unfold lyA; have hq := and_bd mk (2 ^ (clS (lyC P pg k)).toNat - 1); rw [IntKind.wrap_u64]; omega
  have HC : Hid (lyC P pg k = if c = 14 ∨ P - pg < n then 14 else c) := Lib.hid (by unfold lyC; rw [← hc, ← hn])
  have HNN : Hid (lyN P pg k = if c = 14 ∨ P - pg < n then 1 + k % (P - pg) else n) := Lib.hid (by unfold lyN; rw [← hc, ← hn])
  clear hc hn
  by_cases hcc : c = 14
  · obtain ⟨r, hr⟩ : ∃ r, r = k % (P - pg) := ⟨_, rfl⟩
    have hr0 : 0 ≤ r := by rw [hr]; exact Int.emod_nonneg _ (by omega)
    have hr1 : r < P - pg := by rw [hr]; exact Int.emod_lt_of_pos _ (by omega)
    have t1 : Int.tmod k (P - pg) = r := by rw [hr]; exact Int.tmod_eq_emod_of_nonneg k0
    have t2 : IntKind.i64.wrap r = r := by rw [IntKind.wrap_i64]; omega
    have t3 : IntKind.i64.wrap (1 + r) = 1 + r := by rw [IntKind.wrap_i64]; omega
    have t4 : (P - pg == 0) = false := by simp only [beq_eq_false_iff_ne]; omega
    have t5 : ¬ P - pg = 0 := by omega
    have HCC : Hid (lyC P pg k = 14) := Lib.hid (by rw [HC.out, if_pos (.inl hcc)])
    have HCN : Hid (lyN P pg k = 1 + r) := Lib.hid (by rw [HNN.out, if_pos (.inl hcc), hr])
    have hb := clS_bd (14)
    obtain ⟨CS, hcs⟩ : ∃ CS : Nat, (CS : Int) = clS (14) := ⟨(clS (14)).toNat, by omega⟩
    obtain ⟨ON, hon⟩ : ∃ ON : Int, ON = 2 ^ CS - 1 := ⟨_, rfl⟩
    have HA : Hid (bits .and .u64 mk ON = lyA P pg k mk) := Lib.hid (by unfold lyA; rw [HCC.out, ← hcs, hon]; rfl)
    have HCS := Lib.hid hcs; have HON := Lib.hid hon; have HB64 : Hid (CS ≤ 64) := Lib.hid (by omega)
    clear hb hcs hon
    have g1 : (c == 14) = true := by simpa using hcc
    clear hr hcc
    go_enter Tryz.func16, Tryz.ntmps16
    go_upto_region 4 with (go_at_call 40; refine (r1Pages_any c _ HCB.out.1 HCB.out.2).mono ?_; rintro e w1 ⟨rfl, ho⟩; rw [← HN.out]; have hL := (((Blk.new w #[.int .i64 P, .int .i64 T] 35).alloc (.cells mZ9 61))).only ho id; have l0 : w1.cell? ⟨w.heap.size, 0, none⟩ = some (.int .i64 P) := hL.cell 0; have l1 : w1.cell? ⟨w.heap.size, 1, none⟩ = some (.int .i64 T) := hL.cell 1; have HL := Lib.hid hL; have hX := (Blk.new (w.alloc (.cells #[.int .i64 P, .int .i64 T] 35)) mZ9 61).only ho id; have HX := Lib.hid (show Blk w1 (w.heap.size + 1) mZ9 61 by simpa using hX); have HO1 := Lib.hid ((((Only.refl (fun _ => False) w).alloc _).alloc _).thenF ho); clear ho hL hX)
    go_quiet ((fail))
    go_upto_region 5 with fail
    refine wp_region_held_drew (S := (fun W => Blk W w.heap.size #[.int .i64 P, .int .i64 T] 35 ∧ Adds w W)) (by kernel_rfl) ⟨HL.out.only (by first | exact (Only.refl (fun _ => False) w1).drew | exact ((Only.refl (fun _ => False) w1).drewN _).drew) (id : ¬ False), HO1.out.thenF (by first | exact (Only.refl (fun _ => False) w1).drew | exact ((Only.refl (fun _ => False) w1).drewN _).drew)⟩ (fun hHeld => ?_)
    refine wpAnyH_take (i := 0) (v := (.agg #[.int .i64 P, .int .i64 T])) rfl (by kernel_rfl) (by kernel_rfl) (by kernel_rfl) (fun _ _ _ h => h) (Or.inl ⟨by rfl, fun W hS => by (have q0 : W.cell? ⟨w.heap.size, 0, none⟩ = some (.int .i64 P) := hS.1.cell 0; have q1 : W.cell? ⟨w.heap.size, 1, none⟩ = some (.int .i64 T) := hS.1.cell 1; go_simp)⟩) hHeld ?_
    try simp only [Act.put, List.getElem_toArray, List.getElem_cons_succ, List.getElem_cons_zero, List.setIfInBounds_toArray, List.set_cons_zero, List.set_cons_succ]
    refine wpAnyH_take (i := 1) (v := (.int .i64 pg)) rfl (by kernel_rfl) (by kernel_rfl) (by kernel_rfl) (fun _ _ _ h => h) (Or.inl ⟨by rfl, fun W hS => by first | rfl | (go_simp; done)⟩) hHeld ?_
    try simp only [Act.put, List.getElem_toArray, List.getElem_cons_succ, List.getElem_cons_zero, List.setIfInBounds_toArray, List.set_cons_zero, List.set_cons_succ]
    refine wpAnyH_take (i := 2) (v := (.int .i64 14)) rfl (by kernel_rfl) (by kernel_rfl) (by kernel_rfl) (fun _ _ _ h => h) (Or.inl ⟨by rfl, fun W hS => by first | rfl | (go_simp; done)⟩) hHeld ?_
    try simp only [Act.put, List.getElem_toArray, List.getElem_cons_succ, List.getElem_cons_zero, List.setIfInBounds_toArray, List.set_cons_zero, List.set_cons_succ]
    refine wpAnyH_take (i := 3) (v := (.int .i64 (1 + r))) rfl (by kernel_rfl) (by kernel_rfl) (by kernel_rfl) (fun _ _ _ h => h) (Or.inl ⟨by rfl, fun W hS => by first | rfl | (go_simp; done)⟩) hHeld ?_
    try simp only [Act.put, List.getElem_toArray, List.getElem_cons_succ, List.getElem_cons_zero, List.setIfInBounds_toArray, List.set_cons_zero, List.set_cons_succ]
    refine wpAnyH_take (i := 4) (v := (.int .i64 k)) rfl (by kernel_rfl) (by kernel_rfl) (by kernel_rfl) (fun _ _ _ h => h) (Or.inl ⟨by rfl, fun W hS => by first | rfl | (go_simp; done)⟩) hHeld ?_
    try simp only [Act.put, List.getElem_toArray, List.getElem_cons_succ, List.getElem_cons_zero, List.setIfInBounds_toArray, List.set_cons_zero, List.set_cons_succ]
    refine wpAnyH_take (i := 5) (v := (.int .i64 (1 + k))) rfl (by kernel_rfl) (by kernel_rfl) (by kernel_rfl) (fun _ _ _ h => h) (Or.inl ⟨by rfl, fun W hS => by (go_simp)⟩) hHeld ?_
    try simp only [Act.put, List.getElem_toArray, List.getElem_cons_succ, List.getElem_cons_zero, List.setIfInBounds_toArray, List.set_cons_zero, List.set_cons_succ]
    refine wpAnyH_take (i := 6) (v := (.int .u64 mk)) rfl (by kernel_rfl) (by kernel_rfl) (by kernel_rfl) (fun _ _ _ h => h) (Or.inl ⟨by rfl, fun W hS => by first | rfl | (go_simp; done)⟩) hHeld ?_
    try simp only [Act.put, List.getElem_toArray, List.getElem_cons_succ, List.getElem_cons_zero, List.setIfInBounds_toArray, List.set_cons_zero, List.set_cons_succ]
    refine wpAnyH_take (i := 7) (v := (.int .i64 14)) rfl (by kernel_rfl) (by kernel_rfl) (by kernel_rfl) (fun _ _ _ h => h) (Or.inl ⟨by rfl, fun W hS => by first | rfl | (go_simp; done)⟩) hHeld ?_
    try simp only [Act.put, List.getElem_toArray, List.getElem_cons_succ, List.getElem_cons_zero, List.setIfInBounds_toArray, List.set_cons_zero, List.set_cons_succ]
    refine wpAnyH_ready (rs := [8]) (by kernel_rfl) (by simp) (AllReadyH.cons rfl (fun K hK => ?_) AllReadyH.nil)
    simp only [List.getElem_toArray, List.getElem_cons_succ, List.getElem_cons_zero]
    go_simp
    go_at_call 42; refine (r1Slots_any 14 _ (by omega) (by omega)).mono ?_; rintro e w2 ⟨rfl, ho2⟩; rw [← HCS.out]
    have HX2 := Lib.hid ((HX.out.only (by first | exact (Only.refl (fun _ => False) w1).drew | exact ((Only.refl (fun _ => False) w1).drewN _).drew) (id : ¬ False)).only ho2 id)
    refine hK.out _ _ ⟨hHeld.1.only ho2 id, hHeld.2.thenF ho2⟩ (fun hHeld => ?_)
    clear hK
    try simp only [Act.put, List.getElem_toArray, List.getElem_cons_succ, List.getElem_cons_zero, List.setIfInBounds_toArray, List.set_cons_zero, List.set_cons_succ]
    refine wpAnyH_ready (rs := [9]) (by kernel_rfl) (by simp) (AllReadyH.cons rfl (fun K hK => ?_) AllReadyH.nil)
    simp only [List.getElem_toArray, List.getElem_cons_succ, List.getElem_cons_zero]
    go_simp
    go_at_call 41; refine (r1Ones_any CS _ HB64.out).mono ?_; rintro e w3 ⟨rfl, rfl⟩; rw [← HON.out]
    refine hK.out _ _ hHeld (fun hHeld => ?_)
    clear hK
    try simp only [Act.put, List.getElem_toArray, List.getElem_cons_succ, List.getElem_cons_zero, List.setIfInBounds_toArray, List.set_cons_zero, List.set_cons_succ]
    refine wpAnyH_take (i := 10) (v := (.int .u64 (lyA P pg k mk))) rfl (by kernel_rfl) (by kernel_rfl) (by kernel_rfl) (fun _ _ _ h => h) (Or.inl ⟨by rfl, fun W hS => by (have hA := HA.out; go_simp)⟩) hHeld ?_
    try simp only [Act.put, List.getElem_toArray, List.getElem_cons_succ, List.getElem_cons_zero, List.setIfInBounds_toArray, List.set_cons_zero, List.set_cons_succ]
    refine wpAnyH_take (i := 11) (v := (.agg (mCellsZ 5 P T 0 pg (14) (1 + r) (1 + k) 0 0 0 (lyA P pg k mk)))) rfl (by kernel_rfl) (by kernel_rfl) (by kernel_rfl) (fun _ _ _ h => h) (Or.inl ⟨by rfl, fun W hS => by (go_simp; done)⟩) hHeld ?_
    try simp only [Act.put, List.getElem_toArray, List.getElem_cons_succ, List.getElem_cons_zero, List.setIfInBounds_toArray, List.set_cons_zero, List.set_cons_succ]
    refine wpAnyH_ready (rs := [12]) (by kernel_rfl) (by simp) (AllReadyH.cons rfl (fun K hK => ?_) AllReadyH.nil)
    simp only [List.getElem_toArray, List.getElem_cons_succ, List.getElem_cons_zero]
    rw [if_pos (by rfl)]
    refine wp_store_row 61 _ _ rfl (w.heap.size + 1) (mCellsZ 5 P T 0 pg (14) (1 + r) (1 + k) 0 0 0 (lyA P pg k mk)) rfl rfl (run_storeVar_row _ _ 61 61 mZ9 (mCellsZ 5 P T 0 pg (14) (1 + r) (1 + k) 0 0 0 (lyA P pg k mk)) HX2.out infoM9 rfl (by simp [Value.oneCell'])) ?_
    refine hK.out _ _ ⟨(setRow_other _ _ w.heap.size _ (by omega)).trans hHeld.1, adds_setRow9 hHeld.2 (by omega) _⟩ (fun hHeld => ?_)
    have hE := hHeld.2
    have hF : Blk (w2.setRow (w.heap.size + 1) (mCellsZ 5 P T 0 pg (14) (1 + r) (1 + k) 0 0 0 (lyA P pg k mk))) (w.heap.size + 1) (mCellsZ 5 P T 0 pg (14) (1 + r) (1 + k) 0 0 0 (lyA P pg k mk)) 61 := setRow_heap _ _ mZ9 _ _ _ HX2.out
    obtain ⟨wF, hwF⟩ : ∃ wF, wF = w2.setRow (w.heap.size + 1) (mCellsZ 5 P T 0 pg (14) (1 + r) (1 + k) 0 0 0 (lyA P pg k mk)) := ⟨_, rfl⟩
    rw [← hwF] at hE hF ⊢
    clear hHeld hwF hK
    try simp only [Act.put]
    refine wpAnyH_done (by kernel_rfl) ?_ _
    go_wp2_with fail
    refine bodyPost_ret (results_cell_row rfl _ _ (w.heap.size + 1) _ (mCellsZ 5 P T 0 pg (14) (1 + r) (1 + k) 0 0 0 (lyA P pg k mk)) (0, 0) _ rfl hF Tryz.underlying61 rfl infoM9) rfl ?_
    refine ⟨?_, hE⟩
    rw [HCC.out, HCN.out]
  · by_cases hnn : P - pg < n
    · obtain ⟨r, hr⟩ : ∃ r, r = k % (P - pg) := ⟨_, rfl⟩
      have hr0 : 0 ≤ r := by rw [hr]; exact Int.emod_nonneg _ (by omega)
      have hr1 : r < P - pg := by rw [hr]; exact Int.emod_lt_of_pos _ (by omega)
      have t1 : Int.tmod k (P - pg) = r := by rw [hr]; exact Int.tmod_eq_emod_of_nonneg k0
      have t2 : IntKind.i64.wrap r = r := by rw [IntKind.wrap_i64]; omega
      have t3 : IntKind.i64.wrap (1 + r) = 1 + r := by rw [IntKind.wrap_i64]; omega
      have t4 : (P - pg == 0) = false := by simp only [beq_eq_false_iff_ne]; omega
      have t5 : ¬ P - pg = 0 := by omega
      have HCC : Hid (lyC P pg k = 14) := Lib.hid (by rw [HC.out, if_pos (.inr hnn)])
      have HCN : Hid (lyN P pg k = 1 + r) := Lib.hid (by rw [HNN.out, if_pos (.inr hnn), hr])
      have hb := clS_bd (14)
      obtain ⟨CS, hcs⟩ : ∃ CS : Nat, (CS : Int) = clS (14) := ⟨(clS (14)).toNat, by omega⟩
      obtain ⟨ON, hon⟩ : ∃ ON : Int, ON = 2 ^ CS - 1 := ⟨_, rfl⟩
      have HA : Hid (bits .and .u64 mk ON = lyA P pg k mk) := Lib.hid (by unfold lyA; rw [HCC.out, ← hcs, hon]; rfl)
      have HCS := Lib.hid hcs; have HON := Lib.hid hon; have HB64 : Hid (CS ≤ 64) := Lib.hid (by omega)
      clear hb hcs hon
      have g1 : (c == 14) = false := by simpa using hcc
      have g2 : decide (P - pg < n) = true := decide_eq_true hnn
      have g3 : n > P - pg := hnn
      clear hr hcc
      go_enter Tryz.func16, Tryz.ntmps16
      go_upto_region 4 with (go_at_call 40; refine (r1Pages_any c _ HCB.out.1 HCB.out.2).mono ?_; rintro e w1 ⟨rfl, ho⟩; rw [← HN.out]; have hL := (((Blk.new w #[.int .i64 P, .int .i64 T] 35).alloc (.cells mZ9 61))).only ho id; have l0 : w1.cell? ⟨w.heap.size, 0, none⟩ = some (.int .i64 P) := hL.cell 0; have l1 : w1.cell? ⟨w.heap.size, 1, none⟩ = some (.int .i64 T) := hL.cell 1; have HL := Lib.hid hL; have hX := (Blk.new (w.alloc (.cells #[.int .i64 P, .int .i64 T] 35)) mZ9 61).only ho id; have HX := Lib.hid (show Blk w1 (w.heap.size + 1) mZ9 61 by simpa using hX); have HO1 := Lib.hid ((((Only.refl (fun _ => False) w).alloc _).alloc _).thenF ho); clear ho hL hX)
      go_quiet ((fail))
      go_upto_region 5 with fail
      refine wp_region_held_drew (S := (fun W => Blk W w.heap.size #[.int .i64 P, .int .i64 T] 35 ∧ Adds w W)) (by kernel_rfl) ⟨HL.out.only (by first | exact (Only.refl (fun _ => False) w1).drew | exact ((Only.refl (fun _ => False) w1).drewN _).drew) (id : ¬ False), HO1.out.thenF (by first | exact (Only.refl (fun _ => False) w1).drew | exact ((Only.refl (fun _ => False) w1).drewN _).drew)⟩ (fun hHeld => ?_)
      refine wpAnyH_take (i := 0) (v := (.agg #[.int .i64 P, .int .i64 T])) rfl (by kernel_rfl) (by kernel_rfl) (by kernel_rfl) (fun _ _ _ h => h) (Or.inl ⟨by rfl, fun W hS => by (have q0 : W.cell? ⟨w.heap.size, 0, none⟩ = some (.int .i64 P) := hS.1.cell 0; have q1 : W.cell? ⟨w.heap.size, 1, none⟩ = some (.int .i64 T) := hS.1.cell 1; go_simp)⟩) hHeld ?_
      try simp only [Act.put, List.getElem_toArray, List.getElem_cons_succ, List.getElem_cons_zero, List.setIfInBounds_toArray, List.set_cons_zero, List.set_cons_succ]
      refine wpAnyH_take (i := 1) (v := (.int .i64 pg)) rfl (by kernel_rfl) (by kernel_rfl) (by kernel_rfl) (fun _ _ _ h => h) (Or.inl ⟨by rfl, fun W hS => by first | rfl | (go_simp; done)⟩) hHeld ?_
      try simp only [Act.put, List.getElem_toArray, List.getElem_cons_succ, List.getElem_cons_zero, List.setIfInBounds_toArray, List.set_cons_zero, List.set_cons_succ]
      refine wpAnyH_take (i := 2) (v := (.int .i64 14)) rfl (by kernel_rfl) (by kernel_rfl) (by kernel_rfl) (fun _ _ _ h => h) (Or.inl ⟨by rfl, fun W hS => by first | rfl | (go_simp; done)⟩) hHeld ?_
      try simp only [Act.put, List.getElem_toArray, List.getElem_cons_succ, List.getElem_cons_zero, List.setIfInBounds_toArray, List.set_cons_zero, List.set_cons_succ]
      refine wpAnyH_take (i := 3) (v := (.int .i64 (1 + r))) rfl (by kernel_rfl) (by kernel_rfl) (by kernel_rfl) (fun _ _ _ h => h) (Or.inl ⟨by rfl, fun W hS => by first | rfl | (go_simp; done)⟩) hHeld ?_
      try simp only [Act.put, List.getElem_toArray, List.getElem_cons_succ, List.getElem_cons_zero, List.setIfInBounds_toArray, List.set_cons_zero, List.set_cons_succ]
      refine wpAnyH_take (i := 4) (v := (.int .i64 k)) rfl (by kernel_rfl) (by kernel_rfl) (by kernel_rfl) (fun _ _ _ h => h) (Or.inl ⟨by rfl, fun W hS => by first | rfl | (go_simp; done)⟩) hHeld ?_
      try simp only [Act.put, List.getElem_toArray, List.getElem_cons_succ, List.getElem_cons_zero, List.setIfInBounds_toArray, List.set_cons_zero, List.set_cons_succ]
      refine wpAnyH_take (i := 5) (v := (.int .i64 (1 + k))) rfl (by kernel_rfl) (by kernel_rfl) (by kernel_rfl) (fun _ _ _ h => h) (Or.inl ⟨by rfl, fun W hS => by (go_simp)⟩) hHeld ?_
      try simp only [Act.put, List.getElem_toArray, List.getElem_cons_succ, List.getElem_cons_zero, List.setIfInBounds_toArray, List.set_cons_zero, List.set_cons_succ]
      refine wpAnyH_take (i := 6) (v := (.int .u64 mk)) rfl (by kernel_rfl) (by kernel_rfl) (by kernel_rfl) (fun _ _ _ h => h) (Or.inl ⟨by rfl, fun W hS => by first | rfl | (go_simp; done)⟩) hHeld ?_
      try simp only [Act.put, List.getElem_toArray, List.getElem_cons_succ, List.getElem_cons_zero, List.setIfInBounds_toArray, List.set_cons_zero, List.set_cons_succ]
      refine wpAnyH_take (i := 7) (v := (.int .i64 14)) rfl (by kernel_rfl) (by kernel_rfl) (by kernel_rfl) (fun _ _ _ h => h) (Or.inl ⟨by rfl, fun W hS => by first | rfl | (go_simp; done)⟩) hHeld ?_
      try simp only [Act.put, List.getElem_toArray, List.getElem_cons_succ, List.getElem_cons_zero, List.setIfInBounds_toArray, List.set_cons_zero, List.set_cons_succ]
      refine wpAnyH_ready (rs := [8]) (by kernel_rfl) (by simp) (AllReadyH.cons rfl (fun K hK => ?_) AllReadyH.nil)
      simp only [List.getElem_toArray, List.getElem_cons_succ, List.getElem_cons_zero]
      go_simp
      go_at_call 42; refine (r1Slots_any 14 _ (by omega) (by omega)).mono ?_; rintro e w2 ⟨rfl, ho2⟩; rw [← HCS.out]
      have HX2 := Lib.hid ((HX.out.only (by first | exact (Only.refl (fun _ => False) w1).drew | exact ((Only.refl (fun _ => False) w1).drewN _).drew) (id : ¬ False)).only ho2 id)
      refine hK.out _ _ ⟨hHeld.1.only ho2 id, hHeld.2.thenF ho2⟩ (fun hHeld => ?_)
      clear hK
      try simp only [Act.put, List.getElem_toArray, List.getElem_cons_succ, List.getElem_cons_zero, List.setIfInBounds_toArray, List.set_cons_zero, List.set_cons_succ]
      refine wpAnyH_ready (rs := [9]) (by kernel_rfl) (by simp) (AllReadyH.cons rfl (fun K hK => ?_) AllReadyH.nil)
      simp only [List.getElem_toArray, List.getElem_cons_succ, List.getElem_cons_zero]
      go_simp
      go_at_call 41; refine (r1Ones_any CS _ HB64.out).mono ?_; rintro e w3 ⟨rfl, rfl⟩; rw [← HON.out]
      refine hK.out _ _ hHeld (fun hHeld => ?_)
      clear hK
      try simp only [Act.put, List.getElem_toArray, List.getElem_cons_succ, List.getElem_cons_zero, List.setIfInBounds_toArray, List.set_cons_zero, List.set_cons_succ]
      refine wpAnyH_take (i := 10) (v := (.int .u64 (lyA P pg k mk))) rfl (by kernel_rfl) (by kernel_rfl) (by kernel_rfl) (fun _ _ _ h => h) (Or.inl ⟨by rfl, fun W hS => by (have hA := HA.out; go_simp)⟩) hHeld ?_
      try simp only [Act.put, List.getElem_toArray, List.getElem_cons_succ, List.getElem_cons_zero, List.setIfInBounds_toArray, List.set_cons_zero, List.set_cons_succ]
      refine wpAnyH_take (i := 11) (v := (.agg (mCellsZ 5 P T 0 pg (14) (1 + r) (1 + k) 0 0 0 (lyA P pg k mk)))) rfl (by kernel_rfl) (by kernel_rfl) (by kernel_rfl) (fun _ _ _ h => h) (Or.inl ⟨by rfl, fun W hS => by (go_simp; done)⟩) hHeld ?_
      try simp only [Act.put, List.getElem_toArray, List.getElem_cons_succ, List.getElem_cons_zero, List.setIfInBounds_toArray, List.set_cons_zero, List.set_cons_succ]
      refine wpAnyH_ready (rs := [12]) (by kernel_rfl) (by simp) (AllReadyH.cons rfl (fun K hK => ?_) AllReadyH.nil)
      simp only [List.getElem_toArray, List.getElem_cons_succ, List.getElem_cons_zero]
      rw [if_pos (by rfl)]
      refine wp_store_row 61 _ _ rfl (w.heap.size + 1) (mCellsZ 5 P T 0 pg (14) (1 + r) (1 + k) 0 0 0 (lyA P pg k mk)) rfl rfl (run_storeVar_row _ _ 61 61 mZ9 (mCellsZ 5 P T 0 pg (14) (1 + r) (1 + k) 0 0 0 (lyA P pg k mk)) HX2.out infoM9 rfl (by simp [Value.oneCell'])) ?_
      refine hK.out _ _ ⟨(setRow_other _ _ w.heap.size _ (by omega)).trans hHeld.1, adds_setRow9 hHeld.2 (by omega) _⟩ (fun hHeld => ?_)
      have hE := hHeld.2
      have hF : Blk (w2.setRow (w.heap.size + 1) (mCellsZ 5 P T 0 pg (14) (1 + r) (1 + k) 0 0 0 (lyA P pg k mk))) (w.heap.size + 1) (mCellsZ 5 P T 0 pg (14) (1 + r) (1 + k) 0 0 0 (lyA P pg k mk)) 61 := setRow_heap _ _ mZ9 _ _ _ HX2.out
      obtain ⟨wF, hwF⟩ : ∃ wF, wF = w2.setRow (w.heap.size + 1) (mCellsZ 5 P T 0 pg (14) (1 + r) (1 + k) 0 0 0 (lyA P pg k mk)) := ⟨_, rfl⟩
      rw [← hwF] at hE hF ⊢
      clear hHeld hwF hK
      try simp only [Act.put]
      refine wpAnyH_done (by kernel_rfl) ?_ _
      go_wp2_with fail
      refine bodyPost_ret (results_cell_row rfl _ _ (w.heap.size + 1) _ (mCellsZ 5 P T 0 pg (14) (1 + r) (1 + k) 0 0 0 (lyA P pg k mk)) (0, 0) _ rfl hF Tryz.underlying61 rfl infoM9) rfl ?_
      refine ⟨?_, hE⟩
      rw [HCC.out, HCN.out]
    · have HCC : Hid (lyC P pg k = c) := Lib.hid (by rw [HC.out, if_neg (by omega)])
      have HCN : Hid (lyN P pg k = n) := Lib.hid (by rw [HNN.out, if_neg (by omega)])
      have hb := clS_bd (c)
      obtain ⟨CS, hcs⟩ : ∃ CS : Nat, (CS : Int) = clS (c) := ⟨(clS (c)).toNat, by omega⟩
      obtain ⟨ON, hon⟩ : ∃ ON : Int, ON = 2 ^ CS - 1 := ⟨_, rfl⟩
      have HA : Hid (bits .and .u64 mk ON = lyA P pg k mk) := Lib.hid (by unfold lyA; rw [HCC.out, ← hcs, hon]; rfl)
      have HCS := Lib.hid hcs; have HON := Lib.hid hon; have HB64 : Hid (CS ≤ 64) := Lib.hid (by omega)
      clear hb hcs hon
      have g1 : (c == 14) = false := by simpa using hcc
      have g2 : decide (P - pg < n) = false := decide_eq_false hnn
      have g3 : ¬ n > P - pg := hnn
      go_enter Tryz.func16, Tryz.ntmps16
      go_upto_region 5 with (go_at_call 40; refine (r1Pages_any c _ HCB.out.1 HCB.out.2).mono ?_; rintro e w1 ⟨rfl, ho⟩; rw [← HN.out]; have hL := (((Blk.new w #[.int .i64 P, .int .i64 T] 35).alloc (.cells mZ9 61))).only ho id; have l0 : w1.cell? ⟨w.heap.size, 0, none⟩ = some (.int .i64 P) := hL.cell 0; have l1 : w1.cell? ⟨w.heap.size, 1, none⟩ = some (.int .i64 T) := hL.cell 1; have HL := Lib.hid hL; have hX := (Blk.new (w.alloc (.cells #[.int .i64 P, .int .i64 T] 35)) mZ9 61).only ho id; have HX := Lib.hid (show Blk w1 (w.heap.size + 1) mZ9 61 by simpa using hX); have HO1 := Lib.hid ((((Only.refl (fun _ => False) w).alloc _).alloc _).thenF ho); clear ho hL hX)
      refine wp_region_held_drew (S := (fun W => Blk W w.heap.size #[.int .i64 P, .int .i64 T] 35 ∧ Adds w W)) (by kernel_rfl) ⟨HL.out.only (by first | exact (Only.refl (fun _ => False) w1).drew | exact ((Only.refl (fun _ => False) w1).drewN _).drew) (id : ¬ False), HO1.out.thenF (by first | exact (Only.refl (fun _ => False) w1).drew | exact ((Only.refl (fun _ => False) w1).drewN _).drew)⟩ (fun hHeld => ?_)
      refine wpAnyH_take (i := 0) (v := (.agg #[.int .i64 P, .int .i64 T])) rfl (by kernel_rfl) (by kernel_rfl) (by kernel_rfl) (fun _ _ _ h => h) (Or.inl ⟨by rfl, fun W hS => by (have q0 : W.cell? ⟨w.heap.size, 0, none⟩ = some (.int .i64 P) := hS.1.cell 0; have q1 : W.cell? ⟨w.heap.size, 1, none⟩ = some (.int .i64 T) := hS.1.cell 1; go_simp)⟩) hHeld ?_
      try simp only [Act.put, List.getElem_toArray, List.getElem_cons_succ, List.getElem_cons_zero, List.setIfInBounds_toArray, List.set_cons_zero, List.set_cons_succ]
      refine wpAnyH_take (i := 1) (v := (.int .i64 pg)) rfl (by kernel_rfl) (by kernel_rfl) (by kernel_rfl) (fun _ _ _ h => h) (Or.inl ⟨by rfl, fun W hS => by first | rfl | (go_simp; done)⟩) hHeld ?_
      try simp only [Act.put, List.getElem_toArray, List.getElem_cons_succ, List.getElem_cons_zero, List.setIfInBounds_toArray, List.set_cons_zero, List.set_cons_succ]
      refine wpAnyH_take (i := 2) (v := (.int .i64 c)) rfl (by kernel_rfl) (by kernel_rfl) (by kernel_rfl) (fun _ _ _ h => h) (Or.inl ⟨by rfl, fun W hS => by first | rfl | (go_simp; done)⟩) hHeld ?_
      try simp only [Act.put, List.getElem_toArray, List.getElem_cons_succ, List.getElem_cons_zero, List.setIfInBounds_toArray, List.set_cons_zero, List.set_cons_succ]
      refine wpAnyH_take (i := 3) (v := (.int .i64 (n))) rfl (by kernel_rfl) (by kernel_rfl) (by kernel_rfl) (fun _ _ _ h => h) (Or.inl ⟨by rfl, fun W hS => by first | rfl | (go_simp; done)⟩) hHeld ?_
      try simp only [Act.put, List.getElem_toArray, List.getElem_cons_succ, List.getElem_cons_zero, List.setIfInBounds_toArray, List.set_cons_zero, List.set_cons_succ]
      refine wpAnyH_take (i := 4) (v := (.int .i64 k)) rfl (by kernel_rfl) (by kernel_rfl) (by kernel_rfl) (fun _ _ _ h => h) (Or.inl ⟨by rfl, fun W hS => by first | rfl | (go_simp; done)⟩) hHeld ?_
      try simp only [Act.put, List.getElem_toArray, List.getElem_cons_succ, List.getElem_cons_zero, List.setIfInBounds_toArray, List.set_cons_zero, List.set_cons_succ]
      refine wpAnyH_take (i := 5) (v := (.int .i64 (1 + k))) rfl (by kernel_rfl) (by kernel_rfl) (by kernel_rfl) (fun _ _ _ h => h) (Or.inl ⟨by rfl, fun W hS => by (go_simp)⟩) hHeld ?_
      try simp only [Act.put, List.getElem_toArray, List.getElem_cons_succ, List.getElem_cons_zero, List.setIfInBounds_toArray, List.set_cons_zero, List.set_cons_succ]
      refine wpAnyH_take (i := 6) (v := (.int .u64 mk)) rfl (by kernel_rfl) (by kernel_rfl) (by kernel_rfl) (fun _ _ _ h => h) (Or.inl ⟨by rfl, fun W hS => by first | rfl | (go_simp; done)⟩) hHeld ?_
      try simp only [Act.put, List.getElem_toArray, List.getElem_cons_succ, List.getElem_cons_zero, List.setIfInBounds_toArray, List.set_cons_zero, List.set_cons_succ]
      refine wpAnyH_take (i := 7) (v := (.int .i64 c)) rfl (by kernel_rfl) (by kernel_rfl) (by kernel_rfl) (fun _ _ _ h => h) (Or.inl ⟨by rfl, fun W hS => by first | rfl | (go_simp; done)⟩) hHeld ?_
      try simp only [Act.put, List.getElem_toArray, List.getElem_cons_succ, List.getElem_cons_zero, List.setIfInBounds_toArray, List.set_cons_zero, List.set_cons_succ]
      refine wpAnyH_ready (rs := [8]) (by kernel_rfl) (by simp) (AllReadyH.cons rfl (fun K hK => ?_) AllReadyH.nil)
      simp only [List.getElem_toArray, List.getElem_cons_succ, List.getElem_cons_zero]
      go_simp
      go_at_call 42; refine (r1Slots_any c _ (by omega) (by omega)).mono ?_; rintro e w2 ⟨rfl, ho2⟩; rw [← HCS.out]
      have HX2 := Lib.hid ((HX.out.only (by first | exact (Only.refl (fun _ => False) w1).drew | exact ((Only.refl (fun _ => False) w1).drewN _).drew) (id : ¬ False)).only ho2 id)
      refine hK.out _ _ ⟨hHeld.1.only ho2 id, hHeld.2.thenF ho2⟩ (fun hHeld => ?_)
      clear hK
      try simp only [Act.put, List.getElem_toArray, List.getElem_cons_succ, List.getElem_cons_zero, List.setIfInBounds_toArray, List.set_cons_zero, List.set_cons_succ]
      refine wpAnyH_ready (rs := [9]) (by kernel_rfl) (by simp) (AllReadyH.cons rfl (fun K hK => ?_) AllReadyH.nil)
      simp only [List.getElem_toArray, List.getElem_cons_succ, List.getElem_cons_zero]
      go_simp
      go_at_call 41; refine (r1Ones_any CS _ HB64.out).mono ?_; rintro e w3 ⟨rfl, rfl⟩; rw [← HON.out]
      refine hK.out _ _ hHeld (fun hHeld => ?_)
      clear hK
      try simp only [Act.put, List.getElem_toArray, List.getElem_cons_succ, List.getElem_cons_zero, List.setIfInBounds_toArray, List.set_cons_zero, List.set_cons_succ]
      refine wpAnyH_take (i := 10) (v := (.int .u64 (lyA P pg k mk))) rfl (by kernel_rfl) (by kernel_rfl) (by kernel_rfl) (fun _ _ _ h => h) (Or.inl ⟨by rfl, fun W hS => by (have hA := HA.out; go_simp)⟩) hHeld ?_
      try simp only [Act.put, List.getElem_toArray, List.getElem_cons_succ, List.getElem_cons_zero, List.setIfInBounds_toArray, List.set_cons_zero, List.set_cons_succ]
      refine wpAnyH_take (i := 11) (v := (.agg (mCellsZ 5 P T 0 pg (c) (n) (1 + k) 0 0 0 (lyA P pg k mk)))) rfl (by kernel_rfl) (by kernel_rfl) (by kernel_rfl) (fun _ _ _ h => h) (Or.inl ⟨by rfl, fun W hS => by (go_simp; done)⟩) hHeld ?_
      try simp only [Act.put, List.getElem_toArray, List.getElem_cons_succ, List.getElem_cons_zero, List.setIfInBounds_toArray, List.set_cons_zero, List.set_cons_succ]
      refine wpAnyH_ready (rs := [12]) (by kernel_rfl) (by simp) (AllReadyH.cons rfl (fun K hK => ?_) AllReadyH.nil)
      simp only [List.getElem_toArray, List.getElem_cons_succ, List.getElem_cons_zero]
      rw [if_pos (by rfl)]
      refine wp_store_row 61 _ _ rfl (w.heap.size + 1) (mCellsZ 5 P T 0 pg (c) (n) (1 + k) 0 0 0 (lyA P pg k mk)) rfl rfl (run_storeVar_row _ _ 61 61 mZ9 (mCellsZ 5 P T 0 pg (c) (n) (1 + k) 0 0 0 (lyA P pg k mk)) HX2.out infoM9 rfl (by simp [Value.oneCell'])) ?_
      refine hK.out _ _ ⟨(setRow_other _ _ w.heap.size _ (by omega)).trans hHeld.1, adds_setRow9 hHeld.2 (by omega) _⟩ (fun hHeld => ?_)
      have hE := hHeld.2
      have hF : Blk (w2.setRow (w.heap.size + 1) (mCellsZ 5 P T 0 pg (c) (n) (1 + k) 0 0 0 (lyA P pg k mk))) (w.heap.size + 1) (mCellsZ 5 P T 0 pg (c) (n) (1 + k) 0 0 0 (lyA P pg k mk)) 61 := setRow_heap _ _ mZ9 _ _ _ HX2.out
      obtain ⟨wF, hwF⟩ : ∃ wF, wF = w2.setRow (w.heap.size + 1) (mCellsZ 5 P T 0 pg (c) (n) (1 + k) 0 0 0 (lyA P pg k mk)) := ⟨_, rfl⟩
      rw [← hwF] at hE hF ⊢
      clear hHeld hwF hK
      try simp only [Act.put]
      refine wpAnyH_done (by kernel_rfl) ?_ _
      go_wp2_with fail
      refine bodyPost_ret (results_cell_row rfl _ _ (w.heap.size + 1) _ (mCellsZ 5 P T 0 pg (c) (n) (1 + k) 0 0 0 (lyA P pg k mk)) (0, 0) _ rfl hF Tryz.underlying61 rfl infoM9) rfl ?_
      refine ⟨?_, hE⟩
      rw [HCC.out, HCN.out]
end Go.Proofs.YtbepbcjklgfmjaaGreatDoor

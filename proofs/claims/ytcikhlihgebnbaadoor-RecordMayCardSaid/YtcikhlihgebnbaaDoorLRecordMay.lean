/- RecordMay: its walk. By an AI agent. -/
import Derived.Test.YtcikhlihgebnbaaDoorRecAwake
import Derived.Test.YtcikhlihgebnbaaDoorRow
import Derived.Deep.RegionHeld3
import Derived.Deep.WholeRow
import Derived.Test.YtcikhlihgebnbaaDoorRightRec
namespace Go.Proofs.YtcikhlihgebnbaaDoor
open Go.RowKit
abbrev mCellsA (what P T th pg cl ps gn hd sz mo mk : Int) : Array Value := #[.int .i64 what, .int .i64 P, .int .i64 T, .int .i64 th, .int .i64 pg, .int .i64 cl, .int .i64 ps, .int .i64 gn, .int .i64 hd, .int .i64 sz, .int .i64 mo, .int .u64 mk, .bool false, .slice none 0 0, .slice none 0 0, .bool false, .int .i64 0, .bool false, .pointer none, .int .i64 0, .int .i64 0, .int .u64 0, .int .u64 0, .int .i64 0, .int .i64 0, .int .i64 0, .int .i64 0, .int .u64 0, .slice none 0 0, .slice none 0 0, .int .i64 0, .int .i64 0]
abbrev mZ : Array Value := #[.int .i64 0, .int .i64 0, .int .i64 0, .int .i64 0, .int .i64 0, .int .i64 0, .int .i64 0, .int .i64 0, .int .i64 0, .int .i64 0, .int .i64 0, .int .u64 0, .bool false, .slice none 0 0, .slice none 0 0, .bool false, .int .i64 0, .bool false, .pointer none, .int .i64 0, .int .i64 0, .int .u64 0, .int .u64 0, .int .i64 0, .int .i64 0, .int .i64 0, .int .i64 0, .int .u64 0, .slice none 0 0, .slice none 0 0, .int .i64 0, .int .i64 0]
theorem infoM : (Tryd.prog.info? 38).map (·.size) = some 32 := by kernel_rfl
theorem Blk.loadAll {w : World} {b : Nat} {c : Array Value} {t : TypeId} {n : Nat} (h : Blk w b c t) (hn : c.size = n) : Sem.run Tryd.prog (loadCellsFrom ⟨b, 0, none⟩ 0 n #[]) w = .ok c w := by
  subst hn
  have := run_loadCells_list (P := Tryd.prog) w ⟨b, 0, none⟩ c.toList (fun j v hv => by
    have hadd : (⟨b, 0, none⟩ : Addr).add j = ⟨b, j, none⟩ := by unfold Addr.add; split <;> simp_all
    rw [hadd, h.cell j]
    simpa using hv)
  simpa [loadCells] using this
theorem adds_setRow {w W : World} {g : Nat} (h : Adds w W) (hg : w.heap.size ≤ g) (cs : Array Value) : Adds w (W.setRow g cs) :=
  ⟨h.os, h.tape, h.output, by simpa [World.setRow] using h.size, fun k hk hS => (setRow_other W g k cs (by omega)).trans (h.block k hk hS)⟩
theorem LayP.apart {w w' : World} {p : Option Addr} {P T : Int} {b : Nat} {c : Array Value} (h : LayP w p P T) (hb : Blk w b c 38) (hc : c.size ≠ 1) (ho : Only (· = b) w w') : LayP w' p P T := by
  refine h.imp id (fun ⟨mb, pg, cl, ps, al, st, i, e, jm, ji, h1, h2, h3⟩ => ⟨mb, pg, cl, ps, al, st, i, e, jm, ji, h1.only ho (hb.multi' hc h1), h2.only ho (hb.multi' hc h2), ?_⟩)
  obtain ⟨nx, h4, _⟩ := Desk.blk h3
  exact h3.only ho (fun e => by subst e; exact absurd (h4.uniq hb).2 (by decide)) (fun _ _ _ hq => hb.multi' hc hq)
theorem GoneP.apart {w w' : World} {p : Option Addr} {P T : Int} {b : Nat} {c : Array Value} (h : GoneP w p P T) (hb : Blk w b c 38) (hc : c.size ≠ 1) (ho : Only (· = b) w w') : GoneP w' p P T := by
  refine h.imp id (fun ⟨mb, pg, ps, i, e, jm, ji, h1, h2, h3⟩ => ⟨mb, pg, ps, i, e, jm, ji, h1.only ho (hb.multi' hc h1), h2.only ho (hb.multi' hc h2), ?_⟩)
  obtain ⟨nx, h4, _⟩ := Desk.blk h3
  exact h3.only ho (fun e => by subst e; exact absurd (h4.uniq hb).2 (by decide)) (fun _ _ _ hq => hb.multi' hc hq)
set_option maxRecDepth 100000 in
set_option maxHeartbeats 8000000 in
theorem recordMay_ne (P T pg cl ps gn al : Int) (w : World) (hT : Tab w) (hn : ¬ (P = 3 ∧ T = 2)) :
    Calls Tryd.prog 4 #[.agg #[.int .i64 P, .int .i64 T], .int .i64 pg, .int .i64 cl, .int .i64 ps, .int .i64 gn, .int .u64 al] w fun e w' => e = .returned (.bool true) ∧ Adds w w' := by
  have hne : (3 == P && 2 == T) = false := by simp only [Bool.and_eq_false_iff, beq_eq_false_iff_ne]; omega
  have hne' : (P == 3 && T == 2) = false := by simp only [Bool.and_eq_false_iff, beq_eq_false_iff_ne]; omega
  have hle := fun W => layout_eql W P T 3 2
  rw [hne'] at hle
  have hNE := Lib.hid hne; have HT := Lib.hid hT
  clear hn hne hne' hT
  have hd : ∀ W, Sem.run Tryd.prog (binOp .eql 34 (.agg #[.int .i64 0, .int .i64 0, .int .u64 0, .int .u64 0]) (.agg #[.int .i64 0, .int .i64 0, .int .u64 0, .int .u64 0])) W = .ok (.bool true) W := fun W => did_eql W 0 0 0 0 0 0 0 0
  obtain ⟨B1, hB1⟩ : ∃ B, B = okLay P T pg cl ps gn al := ⟨_, rfl⟩
  obtain ⟨B2, hB2⟩ : ∃ B, B = okGone P T pg ps := ⟨_, rfl⟩
  have HB1 := Lib.hid hB1; have HB2 := Lib.hid hB2
  have hB := Blk.new w #[.int .i64 P, .int .i64 T] 24
  have x0 : (w.alloc (.cells #[.int .i64 P, .int .i64 T] 24)).cell? ⟨w.heap.size, 0, none⟩ = some (.int .i64 P) := hB.cell 0
  have x1 : (w.alloc (.cells #[.int .i64 P, .int .i64 T] 24)).cell? ⟨w.heap.size, 1, none⟩ = some (.int .i64 T) := hB.cell 1
  have HBL := Lib.hid hB
  clear hB hB1 hB2
  go_enter Tryd.func4, Tryd.ntmps4
  go_upto_region 1 with fail
  iterate 25 go_step
  refine wpList_store_row rfl 38 _ _ rfl (w.heap.size + 1) (mCellsA 5 P T 0 pg cl ps gn 0 0 0 al) ?_ rfl 38 mZ ?_ infoM rfl (by simp [Value.oneCell']) ?_
  · simp [Act.eval]
  · simpa using heap_alloc_new (w.alloc (.cells #[.int .i64 P, .int .i64 T] 24)) _
  have hg : ((w.alloc (.cells #[.int .i64 P, .int .i64 T] 24)).alloc (.cells mZ 38)).heap[w.heap.size + 1]? = some (.cells mZ 38 (0, 0)) := by simpa using heap_alloc_new (w.alloc (.cells #[.int .i64 P, .int .i64 T] 24)) _
  obtain ⟨wX, hX⟩ : ∃ wX, wX = ((w.alloc (.cells #[.int .i64 P, .int .i64 T] 24)).alloc (.cells mZ 38)).setRow (w.heap.size + 1) (mCellsA 5 P T 0 pg cl ps gn 0 0 0 al) := ⟨_, rfl⟩
  rw [← hX]
  have HX := Lib.hid (show Blk wX (w.heap.size + 1) (mCellsA 5 P T 0 pg cl ps gn 0 0 0 al) 38 by rw [hX]; exact setRow_heap _ _ mZ _ _ _ hg)
  have HL := Lib.hid (show Blk wX w.heap.size #[.int .i64 P, .int .i64 T] 24 by rw [hX]; exact (setRow_other _ _ w.heap.size _ (by omega)).trans (HBL.out.alloc _))
  have HA := Lib.hid (show Adds w wX by rw [hX]; exact adds_setRow (((Only.refl _ _).alloc _).alloc _) (by omega) _)
  have y0 : wX.cell? ⟨w.heap.size, 0, none⟩ = some (.int .i64 P) := HL.out.cell 0
  have y1 : wX.cell? ⟨w.heap.size, 1, none⟩ = some (.int .i64 T) := HL.out.cell 1
  clear hX hg x0 x1 HBL
  go_upto_region 2 with fail
  go_wp2_with fail
  go_region_held3 (fun w' => w'.cell? ⟨w.heap.size, 0, none⟩ = some (.int .i64 P) ∧ w'.cell? ⟨w.heap.size, 1, none⟩ = some (.int .i64 T) ∧ Adds wX w')
    (first | (exact ⟨y0, y1, (Only.refl _ _).drew⟩) | (exact heldM2 (by assumption) (by assumption)))
    (first
    | (go_at_call 7; refine (newLayP P T pg cl ps gn al _ (HT.out.adds (HA.out.thenF (And.right (And.right (by assumption)))))).mono ?_; rintro e a1 ⟨p, rfl, hp, hP, ho1⟩)
    | (go_at_call 8; refine (newGoneP P T pg ps _).mono ?_; rintro e a2 ⟨q, rfl, hq, hQ, ho2⟩))
  rename_i hH
  have HP := Lib.hid (hP.adds ho2); have HQ := Lib.hid hQ
  have HX2 := Lib.hid (HX.out.only hH.2.2 id); have HL2 := Lib.hid (HL.out.only hH.2.2 id); have HO := Lib.hid (HA.out.thenF hH.2.2)
  have hn1 := fun W => lay_nonnil p W; have hn2 := fun W => gone_nonnil q W
  rw [hp, ← HB1.out] at hn1; rw [hq, ← HB2.out] at hn2
  clear y0 y1 hP hQ ho1 ho2 hp hq hH HX HL HA
  go_upto_region 3 with fail
  iterate 7 go_step
  refine wpList_load_row rfl 38 _ rfl (w.heap.size + 1) rfl 38 (mCellsA 5 P T 0 pg cl ps gn 0 0 0 al) (0, 0) _ HX2.out Tryd.underlying38 rfl infoM ?_
  go_upto_region 5 with (go_at_call 18; with_reducible refine (right_layP P T pg cl ps gn al _).mono ?_; rintro e w3 ⟨rfl, hoA⟩; rw [← HB1.out])
  have hx3 := HX2.out.only hoA id
  have f3 := hx3.frozen 0
  have c3 : w3.cell? ⟨w.heap.size + 1, 0, none⟩ = some (.int .i64 5) := hx3.cell 0
  have hs3 := (Only.refl (· = w.heap.size + 1) w3).setCell (p := ⟨w.heap.size + 1, 0, none⟩) (.inl rfl) (.int .i64 6)
  have hx4 : Blk (w3.setCell ⟨w.heap.size + 1, 0, none⟩ (.int .i64 6)) (w.heap.size + 1) (mCellsA 6 P T 0 pg cl ps gn 0 0 0 al) 38 := hx3.setCell 0 (.int .i64 6)
  have HX4 := Lib.hid hx4
  have HP4 := Lib.hid ((HP.out.adds hoA).apart hx3 (by simp) hs3)
  have HQ4 := Lib.hid ((HQ.out.adds hoA).apart hx3 (by simp) hs3)
  have HL4 := Lib.hid ((HL2.out.only hoA id).only hs3 (fun e => by have e2 : w.heap.size = w.heap.size + 1 := e; omega))
  have HO4 := Lib.hid ((HO.out.thenF hoA).setCell (p := ⟨w.heap.size + 1, 0, none⟩) (.inr (Nat.le_succ _)) (.int .i64 6))
  have HS4 := Lib.hid hs3
  clear hoA hx3 hs3 hx4
  go_upto_region 6 with fail
  iterate 7 go_step
  refine wpList_load_row rfl 38 _ rfl (w.heap.size + 1) rfl 38 (mCellsA 6 P T 0 pg cl ps gn 0 0 0 al) (0, 0) _ HX4.out Tryd.underlying38 rfl infoM ?_
  go_upto_region 11 with (first
    | (go_at_call 18; with_reducible refine (right_goneP P T pg cl ps gn al _).mono ?_; rintro e w5 ⟨rfl, hoB⟩; rw [← HB2.out]; have HP5 := Lib.hid (HP4.out.adds hoB); have HQ5 := Lib.hid (HQ4.out.adds hoB); have HL5 := Lib.hid (HL4.out.only hoB id); have HO5 := Lib.hid (HO4.out.thenF hoB); clear hoB)
    | (go_at_call 5; refine (arenaNew_yard 3 2 _ (by decide)).mono ?_; rintro e w6 ⟨ab, sb, sm, rb, rfl, hy, hoC, -⟩; rw [show (Lay.words 3 2).toNat = 116 from by decide] at hy; have HP6 := Lib.hid (HP5.out.adds hoC); have HQ6 := Lib.hid (HQ5.out.adds hoC); have HL6 := Lib.hid (HL5.out.only hoC id); have HO6 := Lib.hid (HO5.out.thenF hoC); have HY6 := Lib.hid hy; have u0 : w6.cell? ⟨w.heap.size, 0, none⟩ = some (.int .i64 P) := HL6.out.cell 0; have u1 : w6.cell? ⟨w.heap.size, 1, none⟩ = some (.int .i64 T) := HL6.out.cell 1; clear hoC hy))
  clear hn1 hn2 HP HP4 HP5 HQ HQ4 HQ5 HL2 HL4 HL5 HO HO4 HO5 HX2 HX4 HS4 f3 c3
  go_wp2_with fail
  go_region_held3 (fun w' => w'.cell? ⟨w.heap.size, 0, none⟩ = some (.int .i64 P) ∧ w'.cell? ⟨w.heap.size, 1, none⟩ = some (.int .i64 T) ∧ Adds w6 w')
    (first | (exact ⟨u0, u1, (Only.refl _ _).drew⟩) | (exact heldM2 (by assumption) (by assumption)))
    (first
    | (go_at_call 19; refine (arenaLayout_any (HY6.out.ar.only ((Only.refl (fun _ => False) _).drew) id)).mono ?_; rintro e w7 ⟨rfl, ho7⟩))
  rename_i hH
  have HP7 := Lib.hid (HP6.out.adds hH.2.2); have HQ7 := Lib.hid (HQ6.out.adds hH.2.2); have HY7 := Lib.hid (HY6.out.adds hH.2.2); have HO7 := Lib.hid (HO6.out.thenF hH.2.2); have HL7 := Lib.hid (HL6.out.only hH.2.2 id)
  clear u0 u1 ho7 HP6 HQ6 HY6 HO6 HL6
  obtain ⟨u0, u1, -⟩ := hH

  have HPE := HP7; have HQE := HQ7; have HYE := HY7; have HOE := HO7
  obtain ⟨wE, hwE⟩ : ∃ wE, wE = w7 := ⟨_, rfl⟩
  rw [← hwE] at HPE HQE HOE HYE u0 u1 ⊢
  clear hwE
  go_wp2_with fail
  have hBn := Blk.new wE #[.int .i64 0, .int .i64 0, .int .u64 0, .int .u64 0] 34
  obtain ⟨n0, n1, n2, n3, -⟩ := hBn.four
  have HPN := Lib.hid (HPE.out.adds ((Only.refl _ _).alloc (.cells #[.int .i64 0, .int .i64 0, .int .u64 0, .int .u64 0] 34)))
  have HQN := Lib.hid (HQE.out.adds ((Only.refl _ _).alloc (.cells #[.int .i64 0, .int .i64 0, .int .u64 0, .int .u64 0] 34)))
  have HYN := Lib.hid (HYE.out.adds ((Only.refl _ _).alloc (.cells #[.int .i64 0, .int .i64 0, .int .u64 0, .int .u64 0] 34)))
  have HON := Lib.hid (HOE.out.alloc (.cells #[.int .i64 0, .int .i64 0, .int .u64 0, .int .u64 0] 34))
  obtain ⟨wN, hwN⟩ : ∃ wN, wN = wE.alloc (.cells #[.int .i64 0, .int .i64 0, .int .u64 0, .int .u64 0] 34) := ⟨_, rfl⟩
  obtain ⟨nb, hnb⟩ : ∃ nb, nb = wE.heap.size := ⟨_, rfl⟩
  rw [← hwN] at HPN HQN HYN HON n0 n1 n2 n3 ⊢
  rw [← hnb] at n0 n1 n2 n3 ⊢
  clear hBn hwN hnb HPE HQE HYE HOE
  have HG : Hid (∀ W, (W.cell? ⟨nb, 0, none⟩ = some (.int .i64 0) ∧ W.cell? ⟨nb, 1, none⟩ = some (.int .i64 0) ∧ W.cell? ⟨nb, 2, none⟩ = some (.int .u64 0) ∧ W.cell? ⟨nb, 3, none⟩ = some (.int .u64 0) ∧ Adds wN W) → Adds wN W) := Lib.hid (fun _ h => h.2.2.2.2)
  go_region_held3 (fun W => W.cell? ⟨nb, 0, none⟩ = some (.int .i64 0) ∧ W.cell? ⟨nb, 1, none⟩ = some (.int .i64 0) ∧ W.cell? ⟨nb, 2, none⟩ = some (.int .u64 0) ∧ W.cell? ⟨nb, 3, none⟩ = some (.int .u64 0) ∧ Adds wN W)
    (first | (exact ⟨n0, n1, n2, n3, (Only.refl _ _).drew⟩) | (exact heldM4 (by assumption) (by first | assumption | exact Only.refl _ _)))
    (first
    | (go_at_call 11; with_reducible refine (layP_nilA (HPN.out.adds (HG.out _ (by assumption)))).mono ?_; rintro e b1 ⟨rfl, hob1⟩)
    | (go_at_call 16; with_reducible refine (goneP_nilA (HQN.out.adds (HG.out _ (by assumption)))).mono ?_; rintro e b2 ⟨rfl, hob2⟩)
    | (go_at_call 11; with_reducible refine (layP_other (HPN.out.adds (HG.out _ (by assumption))) (HYN.out.ar.only (HG.out _ (by assumption)) id) hNE.out).mono ?_; rintro e b3 ⟨rfl, hob3⟩)
    | (go_at_call 16; with_reducible refine (goneP_other (HQN.out.adds (HG.out _ (by assumption))) (HYN.out.ar.only (HG.out _ (by assumption)) id) hNE.out).mono ?_; rintro e b4 ⟨rfl, hob4⟩)
    | (go_at_call 10; refine (layP_done (HPN.out.adds (HG.out _ (by assumption)))).mono ?_; rintro e b5 ⟨rfl, rfl⟩)
    | (go_at_call 15; refine (goneP_done (HQN.out.adds (HG.out _ (by assumption)))).mono ?_; rintro e b6 ⟨rfl, rfl⟩))
  rename_i hH
  have HYM := Lib.hid (HYN.out.adds hH.2.2.2.2); have HOM := Lib.hid (HON.out.thenF hH.2.2.2.2)
  clear n0 n1 n2 n3 HPN HQN HYN HON hH HG
  obtain ⟨wM, hwM⟩ : ∃ wM, wM = b4 := ⟨_, rfl⟩
  rw [← hwM] at HYM HOM ⊢
  clear hwM
  go_wp2_with (first
    | (go_at_call 9; with_reducible refine (read_nil pg _).mono ?_; rintro e r1 ⟨rfl, ho⟩; have HY1 := Lib.hid (HYM.out.adds ho); have HO1 := Lib.hid (HOM.out.thenF ho); clear ho)
    | (go_at_call 9; refine (read_fresh (P := 3) (T := 2) pg (YW.new (by rw [show (Lay.words 3 2).toNat = 116 from by decide]; exact (HY1.out.adds ((Only.refl (fun _ => False) _).alloc _)))) (by decide)).mono ?_; rintro e r2 ⟨rfl, ho⟩; have HY2 := Lib.hid ((HY1.out.adds ((Only.refl (fun _ => False) _).alloc (.cells spanZ 45))).adds ho); have HO2 := Lib.hid ((HO1.out.alloc (.cells spanZ 45)).thenF ho); clear ho)
    | (go_at_call 13; refine (recList_nil _).mono ?_; rintro e r3 ⟨rfl, ho⟩; have HY3 := Lib.hid ((HY2.out.adds ((Only.refl (fun _ => False) _).alloc (.cells spanZ 45))).adds ho); have HO3 := Lib.hid ((HO2.out.alloc (.cells spanZ 45)).thenF ho); clear ho)
    | (go_at_call 20; refine (arenaStore_any HY3.out.ar).mono ?_; rintro e d1 ⟨rfl, rfl⟩)
    | (go_at_call 21; refine (count_any _ _ _ _ HY3.out.st).mono ?_; rintro e d2 ⟨rfl, rfl⟩; rw [show (StoreS.begun 116 0 1).many = 0 from rfl])
    | (go_at_call 17; refine (awake14_any _ (HT.out.adds HO3.out)).mono ?_; rintro e r4 ⟨rfl, ho⟩; have HOF := Lib.hid (HO3.out.thenF ho); clear ho))
  go_ret
  exact ⟨rfl, HOF.out⟩
set_option maxRecDepth 100000 in
set_option maxHeartbeats 8000000 in
theorem recordMay_eq (pg cl ps gn al : Int) (w : World) (hT : Tab w) :
    Calls Tryd.prog 4 #[.agg #[.int .i64 3, .int .i64 2], .int .i64 pg, .int .i64 cl, .int .i64 ps, .int .i64 gn, .int .u64 al] w fun e w' => e = .returned (.bool true) ∧ Adds w w' := by
  have hle : ∀ W, Sem.run Tryd.prog (binOp .eql 24 (.agg #[.int .i64 3, .int .i64 2]) (.agg #[.int .i64 3, .int .i64 2])) W = .ok (.bool true) W := fun W => layout_eql W 3 2 3 2
  have HT := Lib.hid hT
  clear hT
  have hd : ∀ W, Sem.run Tryd.prog (binOp .eql 34 (.agg #[.int .i64 0, .int .i64 0, .int .u64 0, .int .u64 0]) (.agg #[.int .i64 0, .int .i64 0, .int .u64 0, .int .u64 0])) W = .ok (.bool true) W := fun W => did_eql W 0 0 0 0 0 0 0 0
  obtain ⟨B1, hB1⟩ : ∃ B, B = okLay 3 2 pg cl ps gn al := ⟨_, rfl⟩
  obtain ⟨B2, hB2⟩ : ∃ B, B = okGone 3 2 pg ps := ⟨_, rfl⟩
  have HB1 := Lib.hid hB1; have HB2 := Lib.hid hB2
  have hB := Blk.new w #[.int .i64 3, .int .i64 2] 24
  have x0 : (w.alloc (.cells #[.int .i64 3, .int .i64 2] 24)).cell? ⟨w.heap.size, 0, none⟩ = some (.int .i64 3) := hB.cell 0
  have x1 : (w.alloc (.cells #[.int .i64 3, .int .i64 2] 24)).cell? ⟨w.heap.size, 1, none⟩ = some (.int .i64 2) := hB.cell 1
  have HBL := Lib.hid hB
  clear hB hB1 hB2
  go_enter Tryd.func4, Tryd.ntmps4
  go_upto_region 1 with fail
  iterate 25 go_step
  refine wpList_store_row rfl 38 _ _ rfl (w.heap.size + 1) (mCellsA 5 3 2 0 pg cl ps gn 0 0 0 al) ?_ rfl 38 mZ ?_ infoM rfl (by simp [Value.oneCell']) ?_
  · simp [Act.eval]
  · simpa using heap_alloc_new (w.alloc (.cells #[.int .i64 3, .int .i64 2] 24)) _
  have hg : ((w.alloc (.cells #[.int .i64 3, .int .i64 2] 24)).alloc (.cells mZ 38)).heap[w.heap.size + 1]? = some (.cells mZ 38 (0, 0)) := by simpa using heap_alloc_new (w.alloc (.cells #[.int .i64 3, .int .i64 2] 24)) _
  obtain ⟨wX, hX⟩ : ∃ wX, wX = ((w.alloc (.cells #[.int .i64 3, .int .i64 2] 24)).alloc (.cells mZ 38)).setRow (w.heap.size + 1) (mCellsA 5 3 2 0 pg cl ps gn 0 0 0 al) := ⟨_, rfl⟩
  rw [← hX]
  have HX := Lib.hid (show Blk wX (w.heap.size + 1) (mCellsA 5 3 2 0 pg cl ps gn 0 0 0 al) 38 by rw [hX]; exact setRow_heap _ _ mZ _ _ _ hg)
  have HL := Lib.hid (show Blk wX w.heap.size #[.int .i64 3, .int .i64 2] 24 by rw [hX]; exact (setRow_other _ _ w.heap.size _ (by omega)).trans (HBL.out.alloc _))
  have HA := Lib.hid (show Adds w wX by rw [hX]; exact adds_setRow (((Only.refl _ _).alloc _).alloc _) (by omega) _)
  have y0 : wX.cell? ⟨w.heap.size, 0, none⟩ = some (.int .i64 3) := HL.out.cell 0
  have y1 : wX.cell? ⟨w.heap.size, 1, none⟩ = some (.int .i64 2) := HL.out.cell 1
  clear hX hg x0 x1 HBL
  go_upto_region 2 with fail
  go_wp2_with fail
  go_region_held3 (fun w' => w'.cell? ⟨w.heap.size, 0, none⟩ = some (.int .i64 3) ∧ w'.cell? ⟨w.heap.size, 1, none⟩ = some (.int .i64 2) ∧ Adds wX w')
    (first | (exact ⟨y0, y1, (Only.refl _ _).drew⟩) | (exact heldM2 (by assumption) (by assumption)))
    (first
    | (go_at_call 7; refine (newLayP 3 2 pg cl ps gn al _ (HT.out.adds (HA.out.thenF (And.right (And.right (by assumption)))))).mono ?_; rintro e a1 ⟨p, rfl, hp, hP, ho1⟩)
    | (go_at_call 8; refine (newGoneP 3 2 pg ps _).mono ?_; rintro e a2 ⟨q, rfl, hq, hQ, ho2⟩))
  rename_i hH
  have HP := Lib.hid (hP.adds ho2); have HQ := Lib.hid hQ
  have HX2 := Lib.hid (HX.out.only hH.2.2 id); have HL2 := Lib.hid (HL.out.only hH.2.2 id); have HO := Lib.hid (HA.out.thenF hH.2.2)
  have hn1 := fun W => lay_nonnil p W; have hn2 := fun W => gone_nonnil q W
  rw [hp, ← HB1.out] at hn1; rw [hq, ← HB2.out] at hn2
  clear y0 y1 hP hQ ho1 ho2 hp hq hH HX HL HA
  go_upto_region 3 with fail
  iterate 7 go_step
  refine wpList_load_row rfl 38 _ rfl (w.heap.size + 1) rfl 38 (mCellsA 5 3 2 0 pg cl ps gn 0 0 0 al) (0, 0) _ HX2.out Tryd.underlying38 rfl infoM ?_
  go_upto_region 5 with (go_at_call 18; with_reducible refine (right_layP 3 2 pg cl ps gn al _).mono ?_; rintro e w3 ⟨rfl, hoA⟩; rw [← HB1.out])
  have hx3 := HX2.out.only hoA id
  have f3 := hx3.frozen 0
  have c3 : w3.cell? ⟨w.heap.size + 1, 0, none⟩ = some (.int .i64 5) := hx3.cell 0
  have hs3 := (Only.refl (· = w.heap.size + 1) w3).setCell (p := ⟨w.heap.size + 1, 0, none⟩) (.inl rfl) (.int .i64 6)
  have hx4 : Blk (w3.setCell ⟨w.heap.size + 1, 0, none⟩ (.int .i64 6)) (w.heap.size + 1) (mCellsA 6 3 2 0 pg cl ps gn 0 0 0 al) 38 := hx3.setCell 0 (.int .i64 6)
  have HX4 := Lib.hid hx4
  have HP4 := Lib.hid ((HP.out.adds hoA).apart hx3 (by simp) hs3)
  have HQ4 := Lib.hid ((HQ.out.adds hoA).apart hx3 (by simp) hs3)
  have HL4 := Lib.hid ((HL2.out.only hoA id).only hs3 (fun e => by have e2 : w.heap.size = w.heap.size + 1 := e; omega))
  have HO4 := Lib.hid ((HO.out.thenF hoA).setCell (p := ⟨w.heap.size + 1, 0, none⟩) (.inr (Nat.le_succ _)) (.int .i64 6))
  have HS4 := Lib.hid hs3
  clear hoA hx3 hs3 hx4
  go_upto_region 6 with fail
  iterate 7 go_step
  refine wpList_load_row rfl 38 _ rfl (w.heap.size + 1) rfl 38 (mCellsA 6 3 2 0 pg cl ps gn 0 0 0 al) (0, 0) _ HX4.out Tryd.underlying38 rfl infoM ?_
  go_upto_region 11 with (first
    | (go_at_call 18; with_reducible refine (right_goneP 3 2 pg cl ps gn al _).mono ?_; rintro e w5 ⟨rfl, hoB⟩; rw [← HB2.out]; have HP5 := Lib.hid (HP4.out.adds hoB); have HQ5 := Lib.hid (HQ4.out.adds hoB); have HL5 := Lib.hid (HL4.out.only hoB id); have HO5 := Lib.hid (HO4.out.thenF hoB); clear hoB)
    | (go_at_call 5; refine (arenaNew_yard 3 2 _ (by decide)).mono ?_; rintro e w6 ⟨ab, sb, sm, rb, rfl, hy, hoC, -⟩; rw [show (Lay.words 3 2).toNat = 116 from by decide] at hy; have HP6 := Lib.hid (HP5.out.adds hoC); have HQ6 := Lib.hid (HQ5.out.adds hoC); have HL6 := Lib.hid (HL5.out.only hoC id); have HO6 := Lib.hid (HO5.out.thenF hoC); have HY6 := Lib.hid hy; have u0 : w6.cell? ⟨w.heap.size, 0, none⟩ = some (.int .i64 3) := HL6.out.cell 0; have u1 : w6.cell? ⟨w.heap.size, 1, none⟩ = some (.int .i64 2) := HL6.out.cell 1; clear hoC hy))
  clear hn1 hn2 HP HP4 HP5 HQ HQ4 HQ5 HL2 HL4 HL5 HO HO4 HO5 HX2 HX4 HS4 f3 c3
  go_wp2_with fail
  go_region_held3 (fun w' => w'.cell? ⟨w.heap.size, 0, none⟩ = some (.int .i64 3) ∧ w'.cell? ⟨w.heap.size, 1, none⟩ = some (.int .i64 2) ∧ Adds w6 w')
    (first | (exact ⟨u0, u1, (Only.refl _ _).drew⟩) | (exact heldM2 (by assumption) (by assumption)))
    (first
    | (go_at_call 19; refine (arenaLayout_any (HY6.out.ar.only ((Only.refl (fun _ => False) _).drew) id)).mono ?_; rintro e w7 ⟨rfl, ho7⟩))
  rename_i hH
  have HP7 := Lib.hid (HP6.out.adds hH.2.2); have HQ7 := Lib.hid (HQ6.out.adds hH.2.2); have HY7 := Lib.hid (HY6.out.adds hH.2.2); have HO7 := Lib.hid (HO6.out.thenF hH.2.2); have HL7 := Lib.hid (HL6.out.only hH.2.2 id)
  clear u0 u1 ho7 HP6 HQ6 HY6 HO6 HL6
  obtain ⟨u0, u1, -⟩ := hH

  have f1 := HL7.out.frozen 1
  have hlw : w.heap.size < w7.heap.size := cell_lt u0
  have hnab := (HY7.out.mach HL7.out (by decide) (by decide) (by decide))
  have hA8 : Adds w (w7.setCell ⟨w.heap.size, 1, none⟩ (.int .i64 4)) := HO7.out.setCell (.inr (Nat.le_refl _)) _
  have hY8 := HY7.out.only ((Only.refl (· = w.heap.size) w7).setCell (p := ⟨w.heap.size, 1, none⟩) (.inl rfl) (.int .i64 4)) hnab.1.symm hnab.2.1.symm hnab.2.2.symm
  have hB8 := HL7.out.setCell 1 (.int .i64 4)
  have v0 : (w7.setCell ⟨w.heap.size, 1, none⟩ (.int .i64 4)).cell? ⟨w.heap.size, 0, none⟩ = some (.int .i64 3) := hB8.cell 0
  have v1 : (w7.setCell ⟨w.heap.size, 1, none⟩ (.int .i64 4)).cell? ⟨w.heap.size, 1, none⟩ = some (.int .i64 4) := hB8.cell 1
  have HY8 := Lib.hid hY8; have HA8 := Lib.hid hA8
  go_wp2_with fail
  obtain ⟨w8, hw8⟩ : ∃ w8, w8 = w7.setCell ⟨w.heap.size, 1, none⟩ (.int .i64 4) := ⟨_, rfl⟩
  rw [← hw8] at v0 v1 HY8 HA8 ⊢
  clear hB8 hY8 hA8 hw8 u0 u1 HP7 HQ7 f1 hnab
  go_region_held3 (fun w' => w'.cell? ⟨w.heap.size, 0, none⟩ = some (.int .i64 3) ∧ w'.cell? ⟨w.heap.size, 1, none⟩ = some (.int .i64 4) ∧ Adds w8 w')
    (first | (exact ⟨v0, v1, (Only.refl _ _).drew⟩) | (exact heldM2 (by assumption) (by assumption)))
    (first
    | (go_at_call 7; refine (newLayP 3 4 pg cl ps gn al _ (HT.out.adds (HA8.out.thenF (And.right (And.right (by assumption)))))).mono ?_; rintro e a3 ⟨p2, rfl, hp, hP, ho1⟩)
    | (go_at_call 8; refine (newGoneP 3 4 pg ps _).mono ?_; rintro e a4 ⟨q2, rfl, hq, hQ, ho2⟩))
  rename_i hH
  have HPE := Lib.hid (hP.adds ho2); have HQE := Lib.hid hQ; have HOE := Lib.hid (HA8.out.thenF hH.2.2); have HYE := Lib.hid (HY8.out.adds hH.2.2)
  clear hH hP hQ ho1 ho2 hp hq v0 v1
  obtain ⟨wE, hwE⟩ : ∃ wE, wE = a4 := ⟨_, rfl⟩
  rw [← hwE] at HPE HQE HOE HYE ⊢
  clear hwE
  have hNE := Lib.hid (show ((3 : Int) == 3 && (2 : Int) == 4) = false from rfl)
  go_wp2_with fail
  have hBn := Blk.new wE #[.int .i64 0, .int .i64 0, .int .u64 0, .int .u64 0] 34
  obtain ⟨n0, n1, n2, n3, -⟩ := hBn.four
  have HPN := Lib.hid (HPE.out.adds ((Only.refl _ _).alloc (.cells #[.int .i64 0, .int .i64 0, .int .u64 0, .int .u64 0] 34)))
  have HQN := Lib.hid (HQE.out.adds ((Only.refl _ _).alloc (.cells #[.int .i64 0, .int .i64 0, .int .u64 0, .int .u64 0] 34)))
  have HYN := Lib.hid (HYE.out.adds ((Only.refl _ _).alloc (.cells #[.int .i64 0, .int .i64 0, .int .u64 0, .int .u64 0] 34)))
  have HON := Lib.hid (HOE.out.alloc (.cells #[.int .i64 0, .int .i64 0, .int .u64 0, .int .u64 0] 34))
  obtain ⟨wN, hwN⟩ : ∃ wN, wN = wE.alloc (.cells #[.int .i64 0, .int .i64 0, .int .u64 0, .int .u64 0] 34) := ⟨_, rfl⟩
  obtain ⟨nb, hnb⟩ : ∃ nb, nb = wE.heap.size := ⟨_, rfl⟩
  rw [← hwN] at HPN HQN HYN HON n0 n1 n2 n3 ⊢
  rw [← hnb] at n0 n1 n2 n3 ⊢
  clear hBn hwN hnb HPE HQE HYE HOE
  have HG : Hid (∀ W, (W.cell? ⟨nb, 0, none⟩ = some (.int .i64 0) ∧ W.cell? ⟨nb, 1, none⟩ = some (.int .i64 0) ∧ W.cell? ⟨nb, 2, none⟩ = some (.int .u64 0) ∧ W.cell? ⟨nb, 3, none⟩ = some (.int .u64 0) ∧ Adds wN W) → Adds wN W) := Lib.hid (fun _ h => h.2.2.2.2)
  go_region_held3 (fun W => W.cell? ⟨nb, 0, none⟩ = some (.int .i64 0) ∧ W.cell? ⟨nb, 1, none⟩ = some (.int .i64 0) ∧ W.cell? ⟨nb, 2, none⟩ = some (.int .u64 0) ∧ W.cell? ⟨nb, 3, none⟩ = some (.int .u64 0) ∧ Adds wN W)
    (first | (exact ⟨n0, n1, n2, n3, (Only.refl _ _).drew⟩) | (exact heldM4 (by assumption) (by first | assumption | exact Only.refl _ _)))
    (first
    | (go_at_call 11; with_reducible refine (layP_nilA (HPN.out.adds (HG.out _ (by assumption)))).mono ?_; rintro e b1 ⟨rfl, hob1⟩)
    | (go_at_call 16; with_reducible refine (goneP_nilA (HQN.out.adds (HG.out _ (by assumption)))).mono ?_; rintro e b2 ⟨rfl, hob2⟩)
    | (go_at_call 11; with_reducible refine (layP_other (HPN.out.adds (HG.out _ (by assumption))) (HYN.out.ar.only (HG.out _ (by assumption)) id) hNE.out).mono ?_; rintro e b3 ⟨rfl, hob3⟩)
    | (go_at_call 16; with_reducible refine (goneP_other (HQN.out.adds (HG.out _ (by assumption))) (HYN.out.ar.only (HG.out _ (by assumption)) id) hNE.out).mono ?_; rintro e b4 ⟨rfl, hob4⟩)
    | (go_at_call 10; refine (layP_done (HPN.out.adds (HG.out _ (by assumption)))).mono ?_; rintro e b5 ⟨rfl, rfl⟩)
    | (go_at_call 15; refine (goneP_done (HQN.out.adds (HG.out _ (by assumption)))).mono ?_; rintro e b6 ⟨rfl, rfl⟩))
  rename_i hH
  have HYM := Lib.hid (HYN.out.adds hH.2.2.2.2); have HOM := Lib.hid (HON.out.thenF hH.2.2.2.2)
  clear n0 n1 n2 n3 HPN HQN HYN HON hH HG
  obtain ⟨wM, hwM⟩ : ∃ wM, wM = b4 := ⟨_, rfl⟩
  rw [← hwM] at HYM HOM ⊢
  clear hwM
  go_wp2_with (first
    | (go_at_call 9; with_reducible refine (read_nil pg _).mono ?_; rintro e r1 ⟨rfl, ho⟩; have HY1 := Lib.hid (HYM.out.adds ho); have HO1 := Lib.hid (HOM.out.thenF ho); clear ho)
    | (go_at_call 9; refine (read_fresh (P := 3) (T := 2) pg (YW.new (by rw [show (Lay.words 3 2).toNat = 116 from by decide]; exact (HY1.out.adds ((Only.refl (fun _ => False) _).alloc _)))) (by decide)).mono ?_; rintro e r2 ⟨rfl, ho⟩; have HY2 := Lib.hid ((HY1.out.adds ((Only.refl (fun _ => False) _).alloc (.cells spanZ 45))).adds ho); have HO2 := Lib.hid ((HO1.out.alloc (.cells spanZ 45)).thenF ho); clear ho)
    | (go_at_call 13; refine (recList_nil _).mono ?_; rintro e r3 ⟨rfl, ho⟩; have HY3 := Lib.hid ((HY2.out.adds ((Only.refl (fun _ => False) _).alloc (.cells spanZ 45))).adds ho); have HO3 := Lib.hid ((HO2.out.alloc (.cells spanZ 45)).thenF ho); clear ho)
    | (go_at_call 20; refine (arenaStore_any HY3.out.ar).mono ?_; rintro e d1 ⟨rfl, rfl⟩)
    | (go_at_call 21; refine (count_any _ _ _ _ HY3.out.st).mono ?_; rintro e d2 ⟨rfl, rfl⟩; rw [show (StoreS.begun 116 0 1).many = 0 from rfl])
    | (go_at_call 17; refine (awake14_any _ (HT.out.adds HO3.out)).mono ?_; rintro e r4 ⟨rfl, ho⟩; have HOF := Lib.hid (HO3.out.thenF ho); clear ho))
  go_ret
  exact ⟨rfl, HOF.out⟩
theorem recordMay_law (P : Int) (_w0 : (Lit.int .i64 P).wf = true) (T : Int) (_w1 : (Lit.int .i64 T).wf = true) (pg : Int) (_w2 : (Lit.int .i64 pg).wf = true) (cl : Int) (_w3 : (Lit.int .i64 cl).wf = true) (ps : Int) (_w4 : (Lit.int .i64 ps).wf = true) (gn : Int) (_w5 : (Lit.int .i64 gn).wf = true) (al : Int) (_w6 : (Lit.int .u64 al).wf = true) (w : World) (hT : Tab w) :
    Calls Tryd.prog 4 #[.agg #[.int .i64 P, .int .i64 T], .int .i64 pg, .int .i64 cl, .int .i64 ps, .int .i64 gn, .int .u64 al] w fun e w' => e = .returned (.bool true) ∧ Below w.heap.size w w' := by
  by_cases hh : P = 3 ∧ T = 2
  · obtain ⟨rfl, rfl⟩ := hh
    exact (recordMay_eq pg cl ps gn al w hT).mono (fun _ _ h => ⟨h.1, h.2.below (Nat.le_refl _) (fun _ _ h => h)⟩)
  · exact (recordMay_ne P T pg cl ps gn al w hT hh).mono (fun _ _ h => ⟨h.1, h.2.below (Nat.le_refl _) (fun _ _ h => h)⟩)
end Go.Proofs.YtcikhlihgebnbaaDoor

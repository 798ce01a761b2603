/- StackMay: its walk. By an AI agent. -/
import Derived.Test.YtabpniceedjooaaStackAwake
import Derived.Test.YtabpniceedjooaaRightStack
import Derived.Test.YtabpniceedjooaaRow
namespace Go.Proofs.Ytabpniceedjooaa
open Go.RowKit
set_option maxRecDepth 100000 in
set_option maxHeartbeats 8000000 in
theorem stackMay_ne (P T h t : Int) (w : World) (hn : ¬ (P = 3 ∧ T = 2)) :
    Calls Try.prog 5 #[.agg #[.int .i64 P, .int .i64 T], .int .i64 h, .int .i64 t] w fun e w' => e = .returned (.bool true) ∧ Adds w w' := by
  have hne : (3 == P && 2 == T) = false := by simp only [Bool.and_eq_false_iff, beq_eq_false_iff_ne]; omega
  have hne' : (P == 3 && T == 2) = false := by simp only [Bool.and_eq_false_iff, beq_eq_false_iff_ne]; omega
  have hle := fun W => layout_eql W P T 3 2
  rw [hne'] at hle
  have hNE := Lib.hid hne
  clear hn hne hne'
  have hd : ∀ W, Sem.run Try.prog (binOp .eql 38 (.agg #[.int .i64 0, .int .i64 0, .int .u64 0, .int .u64 0]) (.agg #[.int .i64 0, .int .i64 0, .int .u64 0, .int .u64 0])) W = .ok (.bool true) W := fun W => did_eql W 0 0 0 0 0 0 0 0
  obtain ⟨B1, hB1⟩ : ∃ B, B = (Lay.isHead P T h && decide (0 ≤ t ∧ t < P)) := ⟨_, rfl⟩
  obtain ⟨B2, hB2⟩ : ∃ B, B = Lay.isHead P T h := ⟨_, rfl⟩
  have HB1 := Lib.hid hB1; have HB2 := Lib.hid hB2
  have hB := Blk.new w #[.int .i64 P, .int .i64 T] 24
  have x0 : (w.alloc (.cells #[.int .i64 P, .int .i64 T] 24)).cell? ⟨w.heap.size, 0, none⟩ = some (.int .i64 P) := hB.cell 0
  have x1 : (w.alloc (.cells #[.int .i64 P, .int .i64 T] 24)).cell? ⟨w.heap.size, 1, none⟩ = some (.int .i64 T) := hB.cell 1
  have HBL := Lib.hid hB
  clear hB hB1 hB2
  go_enter Try.func5, Try.ntmps5
  go_wp2_with fail
  go_region_held3 (fun w' => w'.cell? ⟨w.heap.size, 0, none⟩ = some (.int .i64 P) ∧ w'.cell? ⟨w.heap.size, 1, none⟩ = some (.int .i64 T) ∧ Adds (w.alloc (.cells #[.int .i64 P, .int .i64 T] 24)) w')
    (first | (exact ⟨x0, x1, (Only.refl _ _).drew⟩) | (exact heldM2 (by assumption) (by assumption)))
    (first
    | (go_at_call 14; refine (newPopP P T h _).mono ?_; rintro e a1 ⟨p, rfl, hp, hP, ho1⟩)
    | (go_at_call 9; refine (newPushP P T h t _).mono ?_; rintro e a2 ⟨q, rfl, hq, hQ, ho2⟩))
  rename_i hH
  have HP := Lib.hid (hP.adds ho2); have HQ := Lib.hid hQ; have HO := Lib.hid hH.2.2
  have hn1 := fun W => pop_nonnil p W; have hn2 := fun W => push_nonnil q W
  rw [hp, ← HB2.out] at hn1; rw [hq, ← HB1.out] at hn2
  clear x0 x1 hP hQ ho1 ho2 hp hq
  obtain ⟨x0, x1, -⟩ := hH
  go_wp2_with (first
    | (go_at_call 20; with_reducible refine (right_popP P T h _).mono ?_; rintro e w3 ⟨rfl, hoA⟩; rw [← HB2.out]; obtain ⟨y0, y1, hO3⟩ := heldM2 ⟨x0, x1, HO.out⟩ hoA; have HP3 := Lib.hid (HP.out.adds hoA); have HQ3 := Lib.hid (HQ.out.adds hoA); have HO3 := Lib.hid hO3; clear hoA hO3)
    | (go_at_call 20; with_reducible refine (right_pushP P T h t _).mono ?_; rintro e w4 ⟨rfl, hoB⟩; rw [← HB1.out]; obtain ⟨z0, z1, hO4⟩ := heldM2 ⟨y0, y1, HO3.out⟩ hoB; have HP4 := Lib.hid (HP3.out.adds hoB); have HQ4 := Lib.hid (HQ3.out.adds hoB); have HO4 := Lib.hid hO4; clear hoB hO4)
    | (go_at_call 6; refine (arenaNew_yard 3 2 _ (by decide)).mono ?_; rintro e w5 ⟨ab, sb, sm, rb, rfl, hy, hoC, -⟩; rw [show (Lay.words 3 2).toNat = 116 from by decide] at hy; obtain ⟨u0, u1, hO5⟩ := heldM2 ⟨z0, z1, HO4.out⟩ hoC; have HP5 := Lib.hid (HP4.out.adds hoC); have HQ5 := Lib.hid (HQ4.out.adds hoC); have HO5 := Lib.hid hO5; have HY5 := Lib.hid hy; clear hoC hO5 hy))
  clear hn1 hn2 x0 x1 y0 y1 z0 z1 HP HP3 HP4 HQ HQ3 HQ4 HO HO3 HO4
  go_region_held3 (fun w' => w'.cell? ⟨w.heap.size, 0, none⟩ = some (.int .i64 P) ∧ w'.cell? ⟨w.heap.size, 1, none⟩ = some (.int .i64 T) ∧ Adds w5 w')
    (first | (exact ⟨u0, u1, (Only.refl _ _).drew⟩) | (exact heldM2 (by assumption) (by assumption)))
    (first
    | (go_at_call 21; refine (arenaLayout_any (HY5.out.ar.only ((Only.refl (fun _ => False) _).drew) id)).mono ?_; rintro e w6 ⟨rfl, ho6⟩))
  rename_i hH
  have HP6 := Lib.hid (HP5.out.adds hH.2.2); have HQ6 := Lib.hid (HQ5.out.adds hH.2.2); have HY6 := Lib.hid (HY5.out.adds hH.2.2); have HO6 := Lib.hid (HO5.out.thenF hH.2.2)
  clear u0 u1 ho6 HP5 HQ5 HY5 HO5
  obtain ⟨u0, u1, -⟩ := hH

  have HPE := HP6; have HQE := HQ6; have HYE := HY6
  have HOE := Lib.hid (((Only.refl (fun _ => False) w).alloc (.cells #[.int .i64 P, .int .i64 T] 24)).thenF HO6.out)
  obtain ⟨wE, hwE⟩ : ∃ wE, wE = w6 := ⟨_, rfl⟩
  rw [← hwE] at HPE HQE HOE HYE u0 u1 ⊢
  clear hwE
  go_wp2_with fail
  have hBn := Blk.new wE #[.int .i64 0, .int .i64 0, .int .u64 0, .int .u64 0] 38
  obtain ⟨n0, n1, n2, n3, -⟩ := hBn.four
  have HPN := Lib.hid (HPE.out.adds ((Only.refl _ _).alloc (.cells #[.int .i64 0, .int .i64 0, .int .u64 0, .int .u64 0] 38)))
  have HQN := Lib.hid (HQE.out.adds ((Only.refl _ _).alloc (.cells #[.int .i64 0, .int .i64 0, .int .u64 0, .int .u64 0] 38)))
  have HYN := Lib.hid (HYE.out.adds ((Only.refl _ _).alloc (.cells #[.int .i64 0, .int .i64 0, .int .u64 0, .int .u64 0] 38)))
  have HON := Lib.hid (HOE.out.alloc (.cells #[.int .i64 0, .int .i64 0, .int .u64 0, .int .u64 0] 38))
  obtain ⟨wN, hwN⟩ : ∃ wN, wN = wE.alloc (.cells #[.int .i64 0, .int .i64 0, .int .u64 0, .int .u64 0] 38) := ⟨_, rfl⟩
  obtain ⟨nb, hnb⟩ : ∃ nb, nb = wE.heap.size := ⟨_, rfl⟩
  rw [← hwN] at HPN HQN HYN HON n0 n1 n2 n3 ⊢
  rw [← hnb] at n0 n1 n2 n3 ⊢
  clear hBn hwN hnb HPE HQE HYE HOE
  have HG : Hid (∀ W, (W.cell? ⟨nb, 0, none⟩ = some (.int .i64 0) ∧ W.cell? ⟨nb, 1, none⟩ = some (.int .i64 0) ∧ W.cell? ⟨nb, 2, none⟩ = some (.int .u64 0) ∧ W.cell? ⟨nb, 3, none⟩ = some (.int .u64 0) ∧ Adds wN W) → Adds wN W) := Lib.hid (fun _ h => h.2.2.2.2)
  go_region_held3 (fun W => W.cell? ⟨nb, 0, none⟩ = some (.int .i64 0) ∧ W.cell? ⟨nb, 1, none⟩ = some (.int .i64 0) ∧ W.cell? ⟨nb, 2, none⟩ = some (.int .u64 0) ∧ W.cell? ⟨nb, 3, none⟩ = some (.int .u64 0) ∧ Adds wN W)
    (first | (exact ⟨n0, n1, n2, n3, (Only.refl _ _).drew⟩) | (exact heldM4 (by assumption) (by first | assumption | exact Only.refl _ _)))
    (first
    | (go_at_call 17; with_reducible refine (popP_nilA (HPN.out.adds (HG.out _ (by assumption)))).mono ?_; rintro e b1 ⟨rfl, hob1⟩)
    | (go_at_call 11; with_reducible refine (pushP_nilA (HQN.out.adds (HG.out _ (by assumption)))).mono ?_; rintro e b2 ⟨rfl, hob2⟩)
    | (go_at_call 17; with_reducible refine (popP_other (HPN.out.adds (HG.out _ (by assumption))) (HYN.out.ar.only (HG.out _ (by assumption)) id) hNE.out).mono ?_; rintro e b3 ⟨rfl, hob3⟩)
    | (go_at_call 11; with_reducible refine (pushP_other (HQN.out.adds (HG.out _ (by assumption))) (HYN.out.ar.only (HG.out _ (by assumption)) id) hNE.out).mono ?_; rintro e b4 ⟨rfl, hob4⟩)
    | (go_at_call 15; refine (popP_done (HPN.out.adds (HG.out _ (by assumption)))).mono ?_; rintro e b5 ⟨rfl, rfl⟩)
    | (go_at_call 10; refine (pushP_done (HQN.out.adds (HG.out _ (by assumption)))).mono ?_; rintro e b6 ⟨rfl, rfl⟩))
  rename_i hH
  have HYM := Lib.hid (HYN.out.adds hH.2.2.2.2); have HOM := Lib.hid (HON.out.thenF hH.2.2.2.2)
  clear n0 n1 n2 n3 HPN HQN HYN HON
  obtain ⟨n0, n1, n2, n3, -⟩ := hH
  obtain ⟨wM, hwM⟩ : ∃ wM, wM = b4 := ⟨_, rfl⟩
  rw [← hwM] at HYM HOM n0 n1 n2 n3 ⊢
  clear hwM HG
  go_wp2_with fail
  have HG : Hid (∀ W, (W.cell? ⟨nb, 0, none⟩ = some (.int .i64 0) ∧ W.cell? ⟨nb, 1, none⟩ = some (.int .i64 0) ∧ W.cell? ⟨nb, 2, none⟩ = some (.int .u64 0) ∧ W.cell? ⟨nb, 3, none⟩ = some (.int .u64 0) ∧ Adds wM W) → Adds wM W) := Lib.hid (fun _ h => h.2.2.2.2)
  go_region_held3 (fun W => W.cell? ⟨nb, 0, none⟩ = some (.int .i64 0) ∧ W.cell? ⟨nb, 1, none⟩ = some (.int .i64 0) ∧ W.cell? ⟨nb, 2, none⟩ = some (.int .u64 0) ∧ W.cell? ⟨nb, 3, none⟩ = some (.int .u64 0) ∧ Adds wM W)
    (first | (exact ⟨n0, n1, n2, n3, (Only.refl _ _).drew⟩) | (exact heldM4 (by assumption) (by first | assumption | exact Only.refl _ _)))
    (first
    | (go_at_call 22; refine (arenaStore_any (HYM.out.ar.only (HG.out _ (by assumption)) id)).mono ?_; rintro e d1 ⟨rfl, rfl⟩)
    | (go_at_call 23; refine (count_any _ _ _ _ (HYM.out.st.only (HG.out _ (by assumption)) id id)).mono ?_; rintro e d2 ⟨rfl, rfl⟩; rw [show (StoreS.begun 116 0 1).many = 0 from rfl])
    | (go_at_call 17; refine (stackPopStep_nil _ _).mono ?_; rintro e d3 ⟨rfl, hod3⟩)
    | (go_at_call 11; refine (stackPushStep_nil _ _).mono ?_; rintro e d4 ⟨rfl, hod4⟩)
    | (go_at_call 15; refine (stackPopDone_nil _).mono ?_; rintro e d5 ⟨rfl, rfl⟩)
    | (go_at_call 10; refine (stackPushDone_nil _).mono ?_; rintro e d6 ⟨rfl, rfl⟩)
    | (go_at_call 16; refine (popPage_nil _).mono ?_; rintro e d7 ⟨rfl, rfl⟩)
    | (go_at_call 13; refine (stackList_nil h _).mono ?_; rintro e d8 ⟨rfl, hod8⟩)
    | (go_at_call 18; refine (awake12_any _).mono ?_; rintro e d9 ⟨rfl, hod9⟩))
  rename_i hH
  have HOF := Lib.hid (HOM.out.thenF hH.2.2.2.2)
  clear hH
  go_wp2
  go_ret
  exact ⟨rfl, HOF.out⟩
set_option maxRecDepth 100000 in
set_option maxHeartbeats 8000000 in
theorem stackMay_eq (h t : Int) (w : World) :
    Calls Try.prog 5 #[.agg #[.int .i64 3, .int .i64 2], .int .i64 h, .int .i64 t] w fun e w' => e = .returned (.bool true) ∧ Adds w w' := by
  have hle : ∀ W, Sem.run Try.prog (binOp .eql 24 (.agg #[.int .i64 3, .int .i64 2]) (.agg #[.int .i64 3, .int .i64 2])) W = .ok (.bool true) W := fun W => layout_eql W 3 2 3 2
  have hd : ∀ W, Sem.run Try.prog (binOp .eql 38 (.agg #[.int .i64 0, .int .i64 0, .int .u64 0, .int .u64 0]) (.agg #[.int .i64 0, .int .i64 0, .int .u64 0, .int .u64 0])) W = .ok (.bool true) W := fun W => did_eql W 0 0 0 0 0 0 0 0
  obtain ⟨B1, hB1⟩ : ∃ B, B = (Lay.isHead 3 2 h && decide (0 ≤ t ∧ t < 3)) := ⟨_, rfl⟩
  obtain ⟨B2, hB2⟩ : ∃ B, B = Lay.isHead 3 2 h := ⟨_, rfl⟩
  have HB1 := Lib.hid hB1; have HB2 := Lib.hid hB2
  have hB := Blk.new w #[.int .i64 3, .int .i64 2] 24
  have x0 : (w.alloc (.cells #[.int .i64 3, .int .i64 2] 24)).cell? ⟨w.heap.size, 0, none⟩ = some (.int .i64 3) := hB.cell 0
  have x1 : (w.alloc (.cells #[.int .i64 3, .int .i64 2] 24)).cell? ⟨w.heap.size, 1, none⟩ = some (.int .i64 2) := hB.cell 1
  have HBL := Lib.hid hB
  clear hB hB1 hB2
  go_enter Try.func5, Try.ntmps5
  go_wp2_with fail
  go_region_held3 (fun w' => w'.cell? ⟨w.heap.size, 0, none⟩ = some (.int .i64 3) ∧ w'.cell? ⟨w.heap.size, 1, none⟩ = some (.int .i64 2) ∧ Adds (w.alloc (.cells #[.int .i64 3, .int .i64 2] 24)) w')
    (first | (exact ⟨x0, x1, (Only.refl _ _).drew⟩) | (exact heldM2 (by assumption) (by assumption)))
    (first
    | (go_at_call 14; refine (newPopP 3 2 h _).mono ?_; rintro e a1 ⟨p, rfl, hp, hP, ho1⟩)
    | (go_at_call 9; refine (newPushP 3 2 h t _).mono ?_; rintro e a2 ⟨q, rfl, hq, hQ, ho2⟩))
  rename_i hH
  have HP := Lib.hid (hP.adds ho2); have HQ := Lib.hid hQ; have HO := Lib.hid hH.2.2
  have hn1 := fun W => pop_nonnil p W; have hn2 := fun W => push_nonnil q W
  rw [hp, ← HB2.out] at hn1; rw [hq, ← HB1.out] at hn2
  clear x0 x1 hP hQ ho1 ho2 hp hq
  obtain ⟨x0, x1, -⟩ := hH
  go_wp2_with (first
    | (go_at_call 20; with_reducible refine (right_popP 3 2 h _).mono ?_; rintro e w3 ⟨rfl, hoA⟩; rw [← HB2.out]; obtain ⟨y0, y1, hO3⟩ := heldM2 ⟨x0, x1, HO.out⟩ hoA; have HP3 := Lib.hid (HP.out.adds hoA); have HQ3 := Lib.hid (HQ.out.adds hoA); have HO3 := Lib.hid hO3; clear hoA hO3)
    | (go_at_call 20; with_reducible refine (right_pushP 3 2 h t _).mono ?_; rintro e w4 ⟨rfl, hoB⟩; rw [← HB1.out]; obtain ⟨z0, z1, hO4⟩ := heldM2 ⟨y0, y1, HO3.out⟩ hoB; have HP4 := Lib.hid (HP3.out.adds hoB); have HQ4 := Lib.hid (HQ3.out.adds hoB); have HO4 := Lib.hid hO4; clear hoB hO4)
    | (go_at_call 6; refine (arenaNew_yard 3 2 _ (by decide)).mono ?_; rintro e w5 ⟨ab, sb, sm, rb, rfl, hy, hoC, -⟩; rw [show (Lay.words 3 2).toNat = 116 from by decide] at hy; obtain ⟨u0, u1, hO5⟩ := heldM2 ⟨z0, z1, HO4.out⟩ hoC; have HP5 := Lib.hid (HP4.out.adds hoC); have HQ5 := Lib.hid (HQ4.out.adds hoC); have HO5 := Lib.hid hO5; have HY5 := Lib.hid hy; clear hoC hO5 hy))
  clear hn1 hn2 x0 x1 y0 y1 z0 z1 HP HP3 HP4 HQ HQ3 HQ4 HO HO3 HO4
  go_region_held3 (fun w' => w'.cell? ⟨w.heap.size, 0, none⟩ = some (.int .i64 3) ∧ w'.cell? ⟨w.heap.size, 1, none⟩ = some (.int .i64 2) ∧ Adds w5 w')
    (first | (exact ⟨u0, u1, (Only.refl _ _).drew⟩) | (exact heldM2 (by assumption) (by assumption)))
    (first
    | (go_at_call 21; refine (arenaLayout_any (HY5.out.ar.only ((Only.refl (fun _ => False) _).drew) id)).mono ?_; rintro e w6 ⟨rfl, ho6⟩))
  rename_i hH
  have HP6 := Lib.hid (HP5.out.adds hH.2.2); have HQ6 := Lib.hid (HQ5.out.adds hH.2.2); have HY6 := Lib.hid (HY5.out.adds hH.2.2); have HO6 := Lib.hid (HO5.out.thenF hH.2.2)
  clear u0 u1 ho6 HP5 HQ5 HY5 HO5
  obtain ⟨u0, u1, -⟩ := hH

  have f0 := (HBL.out.only HO6.out id).frozen 0
  have hlw : w.heap.size < w6.heap.size := cell_lt u0
  have hnab := (HY6.out.mach (HBL.out.only HO6.out id) (by decide) (by decide) (by decide))
  have hA7 : Adds w (w6.setCell ⟨w.heap.size, 0, none⟩ (.int .i64 4)) := (((Only.refl _ w).alloc _).thenF HO6.out).setCell (.inr (Nat.le_refl _)) _
  have hY7 := HY6.out.only ((Only.refl (· = w.heap.size) w6).setCell (p := ⟨w.heap.size, 0, none⟩) (.inl rfl) (.int .i64 4)) hnab.1.symm hnab.2.1.symm hnab.2.2.symm
  have hB7 := (HBL.out.only HO6.out id).setCell 0 (.int .i64 4)
  have v0 : (w6.setCell ⟨w.heap.size, 0, none⟩ (.int .i64 4)).cell? ⟨w.heap.size, 0, none⟩ = some (.int .i64 4) := hB7.cell 0
  have v1 : (w6.setCell ⟨w.heap.size, 0, none⟩ (.int .i64 4)).cell? ⟨w.heap.size, 1, none⟩ = some (.int .i64 2) := hB7.cell 1
  have HY7 := Lib.hid hY7; have HA7 := Lib.hid hA7
  go_wp2_with fail
  obtain ⟨w7, hw7⟩ : ∃ w7, w7 = w6.setCell ⟨w.heap.size, 0, none⟩ (.int .i64 4) := ⟨_, rfl⟩
  rw [← hw7] at v0 v1 HY7 HA7 ⊢
  clear hB7 hY7 hA7 hw7 u0 u1 HP6 HQ6 f0 hnab
  go_region_held3 (fun w' => w'.cell? ⟨w.heap.size, 0, none⟩ = some (.int .i64 4) ∧ w'.cell? ⟨w.heap.size, 1, none⟩ = some (.int .i64 2) ∧ Adds w7 w')
    (first | (exact ⟨v0, v1, (Only.refl _ _).drew⟩) | (exact heldM2 (by assumption) (by assumption)))
    (first
    | (go_at_call 14; refine (newPopP 4 2 h _).mono ?_; rintro e a1E ⟨pE, rfl, hp, hP, ho1⟩)
    | (go_at_call 9; refine (newPushP 4 2 h t _).mono ?_; rintro e a2E ⟨qE, rfl, hq, hQ, ho2⟩))
  rename_i hH
  have HPE := Lib.hid (hP.adds ho2); have HQE := Lib.hid hQ; have HOE := Lib.hid (HA7.out.thenF hH.2.2); have HYE := Lib.hid (HY7.out.adds hH.2.2)
  clear hH hP hQ ho1 ho2 hp hq v0 v1
  obtain ⟨wE, hwE⟩ : ∃ wE, wE = a2E := ⟨_, rfl⟩
  rw [← hwE] at HPE HQE HOE HYE ⊢
  clear hwE
  have hNE := Lib.hid (show ((3 : Int) == 4 && (2 : Int) == 2) = false from rfl)
  go_wp2_with fail
  have hBn := Blk.new wE #[.int .i64 0, .int .i64 0, .int .u64 0, .int .u64 0] 38
  obtain ⟨n0, n1, n2, n3, -⟩ := hBn.four
  have HPN := Lib.hid (HPE.out.adds ((Only.refl _ _).alloc (.cells #[.int .i64 0, .int .i64 0, .int .u64 0, .int .u64 0] 38)))
  have HQN := Lib.hid (HQE.out.adds ((Only.refl _ _).alloc (.cells #[.int .i64 0, .int .i64 0, .int .u64 0, .int .u64 0] 38)))
  have HYN := Lib.hid (HYE.out.adds ((Only.refl _ _).alloc (.cells #[.int .i64 0, .int .i64 0, .int .u64 0, .int .u64 0] 38)))
  have HON := Lib.hid (HOE.out.alloc (.cells #[.int .i64 0, .int .i64 0, .int .u64 0, .int .u64 0] 38))
  obtain ⟨wN, hwN⟩ : ∃ wN, wN = wE.alloc (.cells #[.int .i64 0, .int .i64 0, .int .u64 0, .int .u64 0] 38) := ⟨_, rfl⟩
  obtain ⟨nb, hnb⟩ : ∃ nb, nb = wE.heap.size := ⟨_, rfl⟩
  rw [← hwN] at HPN HQN HYN HON n0 n1 n2 n3 ⊢
  rw [← hnb] at n0 n1 n2 n3 ⊢
  clear hBn hwN hnb HPE HQE HYE HOE
  have HG : Hid (∀ W, (W.cell? ⟨nb, 0, none⟩ = some (.int .i64 0) ∧ W.cell? ⟨nb, 1, none⟩ = some (.int .i64 0) ∧ W.cell? ⟨nb, 2, none⟩ = some (.int .u64 0) ∧ W.cell? ⟨nb, 3, none⟩ = some (.int .u64 0) ∧ Adds wN W) → Adds wN W) := Lib.hid (fun _ h => h.2.2.2.2)
  go_region_held3 (fun W => W.cell? ⟨nb, 0, none⟩ = some (.int .i64 0) ∧ W.cell? ⟨nb, 1, none⟩ = some (.int .i64 0) ∧ W.cell? ⟨nb, 2, none⟩ = some (.int .u64 0) ∧ W.cell? ⟨nb, 3, none⟩ = some (.int .u64 0) ∧ Adds wN W)
    (first | (exact ⟨n0, n1, n2, n3, (Only.refl _ _).drew⟩) | (exact heldM4 (by assumption) (by first | assumption | exact Only.refl _ _)))
    (first
    | (go_at_call 17; with_reducible refine (popP_nilA (HPN.out.adds (HG.out _ (by assumption)))).mono ?_; rintro e b1 ⟨rfl, hob1⟩)
    | (go_at_call 11; with_reducible refine (pushP_nilA (HQN.out.adds (HG.out _ (by assumption)))).mono ?_; rintro e b2 ⟨rfl, hob2⟩)
    | (go_at_call 17; with_reducible refine (popP_other (HPN.out.adds (HG.out _ (by assumption))) (HYN.out.ar.only (HG.out _ (by assumption)) id) hNE.out).mono ?_; rintro e b3 ⟨rfl, hob3⟩)
    | (go_at_call 11; with_reducible refine (pushP_other (HQN.out.adds (HG.out _ (by assumption))) (HYN.out.ar.only (HG.out _ (by assumption)) id) hNE.out).mono ?_; rintro e b4 ⟨rfl, hob4⟩)
    | (go_at_call 15; refine (popP_done (HPN.out.adds (HG.out _ (by assumption)))).mono ?_; rintro e b5 ⟨rfl, rfl⟩)
    | (go_at_call 10; refine (pushP_done (HQN.out.adds (HG.out _ (by assumption)))).mono ?_; rintro e b6 ⟨rfl, rfl⟩))
  rename_i hH
  have HYM := Lib.hid (HYN.out.adds hH.2.2.2.2); have HOM := Lib.hid (HON.out.thenF hH.2.2.2.2)
  clear n0 n1 n2 n3 HPN HQN HYN HON
  obtain ⟨n0, n1, n2, n3, -⟩ := hH
  obtain ⟨wM, hwM⟩ : ∃ wM, wM = b4 := ⟨_, rfl⟩
  rw [← hwM] at HYM HOM n0 n1 n2 n3 ⊢
  clear hwM HG
  go_wp2_with fail
  have HG : Hid (∀ W, (W.cell? ⟨nb, 0, none⟩ = some (.int .i64 0) ∧ W.cell? ⟨nb, 1, none⟩ = some (.int .i64 0) ∧ W.cell? ⟨nb, 2, none⟩ = some (.int .u64 0) ∧ W.cell? ⟨nb, 3, none⟩ = some (.int .u64 0) ∧ Adds wM W) → Adds wM W) := Lib.hid (fun _ h => h.2.2.2.2)
  go_region_held3 (fun W => W.cell? ⟨nb, 0, none⟩ = some (.int .i64 0) ∧ W.cell? ⟨nb, 1, none⟩ = some (.int .i64 0) ∧ W.cell? ⟨nb, 2, none⟩ = some (.int .u64 0) ∧ W.cell? ⟨nb, 3, none⟩ = some (.int .u64 0) ∧ Adds wM W)
    (first | (exact ⟨n0, n1, n2, n3, (Only.refl _ _).drew⟩) | (exact heldM4 (by assumption) (by first | assumption | exact Only.refl _ _)))
    (first
    | (go_at_call 22; refine (arenaStore_any (HYM.out.ar.only (HG.out _ (by assumption)) id)).mono ?_; rintro e d1 ⟨rfl, rfl⟩)
    | (go_at_call 23; refine (count_any _ _ _ _ (HYM.out.st.only (HG.out _ (by assumption)) id id)).mono ?_; rintro e d2 ⟨rfl, rfl⟩; rw [show (StoreS.begun 116 0 1).many = 0 from rfl])
    | (go_at_call 17; refine (stackPopStep_nil _ _).mono ?_; rintro e d3 ⟨rfl, hod3⟩)
    | (go_at_call 11; refine (stackPushStep_nil _ _).mono ?_; rintro e d4 ⟨rfl, hod4⟩)
    | (go_at_call 15; refine (stackPopDone_nil _).mono ?_; rintro e d5 ⟨rfl, rfl⟩)
    | (go_at_call 10; refine (stackPushDone_nil _).mono ?_; rintro e d6 ⟨rfl, rfl⟩)
    | (go_at_call 16; refine (popPage_nil _).mono ?_; rintro e d7 ⟨rfl, rfl⟩)
    | (go_at_call 13; refine (stackList_nil h _).mono ?_; rintro e d8 ⟨rfl, hod8⟩)
    | (go_at_call 18; refine (awake12_any _).mono ?_; rintro e d9 ⟨rfl, hod9⟩))
  rename_i hH
  have HOF := Lib.hid (HOM.out.thenF hH.2.2.2.2)
  clear hH
  go_wp2
  go_ret
  exact ⟨rfl, HOF.out⟩
theorem stackMay_law (P : Int) (_w0 : (Lit.int .i64 P).wf = true) (T : Int) (_w1 : (Lit.int .i64 T).wf = true) (h : Int) (_w2 : (Lit.int .i64 h).wf = true) (t : Int) (_w3 : (Lit.int .i64 t).wf = true) (w : World) :
    Calls Try.prog 5 #[.agg #[.int .i64 P, .int .i64 T], .int .i64 h, .int .i64 t] w fun e w' => e = .returned (.bool true) ∧ Below w.heap.size w w' := by
  by_cases hh : P = 3 ∧ T = 2
  · obtain ⟨rfl, rfl⟩ := hh
    exact (stackMay_eq h t w).mono (fun _ _ h => ⟨h.1, h.2.below (Nat.le_refl _) (fun _ _ h => h)⟩)
  · exact (stackMay_ne P T h t w hh).mono (fun _ _ h => ⟨h.1, h.2.below (Nat.le_refl _) (fun _ _ h => h)⟩)
end Go.Proofs.Ytabpniceedjooaa

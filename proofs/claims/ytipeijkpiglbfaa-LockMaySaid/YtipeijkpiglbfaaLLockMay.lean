/- LockMay: its walk. By an AI agent. -/
import Derived.Test.YtipeijkpiglbfaaLockAwake
import Derived.Test.YtipeijkpiglbfaaRight
import Derived.Test.YtipeijkpiglbfaaRow
namespace Go.Proofs.Ytipeijkpiglbfaa
open Go.RowKit
set_option maxRecDepth 100000 in
set_option maxHeartbeats 4000000 in
theorem lockMay_ne (P T t : Int) (w : World) (hn : ¬ (P = 3 ∧ T = 2)) :
    Calls Try.prog 4 #[.agg #[.int .i64 P, .int .i64 T], .int .i64 t] w fun e w' => e = .returned (.bool true) ∧ Adds w w' := by
  have hne : (3 == P && 2 == T) = false := by simp only [Bool.and_eq_false_iff, beq_eq_false_iff_ne]; omega
  have hne' : (P == 3 && T == 2) = false := by simp only [Bool.and_eq_false_iff, beq_eq_false_iff_ne]; omega
  have hle := fun W => layout_eql W P T 3 2
  rw [hne'] at hle
  have hNE := Lib.hid hne
  clear hn hne hne'
  have hd : ∀ W, Sem.run Try.prog (binOp .eql 35 (.agg #[.int .i64 0, .int .i64 0, .int .u64 0, .int .u64 0]) (.agg #[.int .i64 0, .int .i64 0, .int .u64 0, .int .u64 0])) W = .ok (.bool true) W := fun W => did_eql W 0 0 0 0 0 0 0 0
  have h2 := Lib.hid (begun_inR (n := 116) (k := 0) (v := 1) (i := 2) (by omega) (by omega))
  have h0 := Lib.hid (begun_other 116 1 2 (by omega))
  obtain ⟨B1, hB1⟩ : ∃ B, B = (Lay.may P T && decide (0 ≤ t ∧ t < T)) := ⟨_, rfl⟩
  obtain ⟨B2, hB2⟩ : ∃ B, B = Lay.may P T := ⟨_, rfl⟩
  have HB1 := Lib.hid hB1; have HB2 := Lib.hid hB2
  have hB := Blk.new w #[.int .i64 P, .int .i64 T] 24
  have x0 : (w.alloc (.cells #[.int .i64 P, .int .i64 T] 24)).cell? ⟨w.heap.size, 0, none⟩ = some (.int .i64 P) := hB.cell 0
  have x1 : (w.alloc (.cells #[.int .i64 P, .int .i64 T] 24)).cell? ⟨w.heap.size, 1, none⟩ = some (.int .i64 T) := hB.cell 1
  have HBL := Lib.hid hB
  clear hB hB1 hB2
  go_enter Try.func4, Try.ntmps4
  go_wp2_with fail
  go_region_held3 (fun w' => w'.cell? ⟨w.heap.size, 0, none⟩ = some (.int .i64 P) ∧ w'.cell? ⟨w.heap.size, 1, none⟩ = some (.int .i64 T) ∧ Adds (w.alloc (.cells #[.int .i64 P, .int .i64 T] 24)) w')
    (first | (exact ⟨x0, x1, (Only.refl _ _).drew⟩) | (exact heldM2 (by assumption) (by assumption)))
    (first
    | (go_at_call 14; refine (newTakeP P T t _).mono ?_; rintro e w1 ⟨p, rfl, hp, hP, ho1⟩)
    | (go_at_call 10; refine (newLeaveP P T _).mono ?_; rintro e w2 ⟨q, rfl, hq, hQ, ho2⟩))
  rename_i hH
  have HP := Lib.hid (hP.adds ho2); have HQ := Lib.hid hQ; have HO := Lib.hid hH.2.2
  have hn1 := fun W => take_nonnil p W; have hn2 := fun W => leave_nonnil q W
  rw [hp, ← HB1.out] at hn1; rw [hq, ← HB2.out] at hn2
  clear x0 x1 hP hQ ho1 ho2 hp hq
  obtain ⟨x0, x1, -⟩ := hH
  go_wp2_with (first
    | (go_at_call 18; with_reducible refine (right_takeP P T t _).mono ?_; rintro e w3 ⟨rfl, ho3⟩; rw [← HB1.out]; obtain ⟨y0, y1, hO3⟩ := heldM2 ⟨x0, x1, HO.out⟩ ho3; have HP3 := Lib.hid (HP.out.adds ho3); have HQ3 := Lib.hid (HQ.out.adds ho3); have HO3 := Lib.hid hO3; clear ho3 hO3)
    | (go_at_call 18; with_reducible refine (right_leaveP P T _).mono ?_; rintro e w4 ⟨rfl, ho4⟩; rw [← HB2.out]; obtain ⟨z0, z1, hO4⟩ := heldM2 ⟨y0, y1, HO3.out⟩ ho4; have HP4 := Lib.hid (HP3.out.adds ho4); have HQ4 := Lib.hid (HQ3.out.adds ho4); have HO4 := Lib.hid hO4; clear ho4 hO4)
    | (go_at_call 9; refine (arenaNew_yard 3 2 _ (by decide)).mono ?_; rintro e w5 ⟨ab, sb, sm, rb, rfl, hy, ho5, -⟩; rw [show (Lay.words 3 2).toNat = 116 from by decide] at hy; obtain ⟨u0, u1, hO5⟩ := heldM2 ⟨z0, z1, HO4.out⟩ ho5; have HP5 := Lib.hid (HP4.out.adds ho5); have HQ5 := Lib.hid (HQ4.out.adds ho5); have HO5 := Lib.hid hO5; have HY5 := Lib.hid hy; clear ho5 hO5 hy))
  clear hn1 hn2 x0 x1 y0 y1 z0 z1 HP HQ HP3 HQ3 HP4 HQ4 HO HO3 HO4
  go_region_held3 (fun w' => w'.cell? ⟨w.heap.size, 0, none⟩ = some (.int .i64 P) ∧ w'.cell? ⟨w.heap.size, 1, none⟩ = some (.int .i64 T) ∧ Adds w5 w')
    (first | (exact ⟨u0, u1, (Only.refl _ _).drew⟩) | (exact heldM2 (by assumption) (by assumption)))
    (first
    | (go_at_call 19; refine (arenaLayout_any (HY5.out.ar.only ((Only.refl (fun _ => False) _).drew) id)).mono ?_; rintro e w6 ⟨rfl, ho6⟩))
  rename_i hH
  have HP6 := Lib.hid (HP5.out.adds hH.2.2); have HQ6 := Lib.hid (HQ5.out.adds hH.2.2); have HY6 := Lib.hid (HY5.out.adds hH.2.2); have HO6 := Lib.hid (HO5.out.thenF hH.2.2)
  clear u0 u1 ho6 HP5 HQ5 HY5 HO5
  obtain ⟨u0, u1, -⟩ := hH

  have HPE := HP6; have HQE := HQ6; have HYE := HY6
  have HOE := Lib.hid (((Only.refl (fun _ => False) w).alloc (.cells #[.int .i64 P, .int .i64 T] 24)).thenF HO6.out)
  obtain ⟨wE, hwE⟩ : ∃ wE, wE = w6 := ⟨_, rfl⟩
  rw [← hwE] at HPE HQE HOE HYE u0 u1 ⊢
  clear hwE
  go_wp2_with fail
  have hBn := Blk.new wE #[.int .i64 0, .int .i64 0, .int .u64 0, .int .u64 0] 35
  obtain ⟨n0, n1, n2, n3, -⟩ := hBn.four
  have HPN := Lib.hid (HPE.out.adds ((Only.refl _ _).alloc (.cells #[.int .i64 0, .int .i64 0, .int .u64 0, .int .u64 0] 35)))
  have HQN := Lib.hid (HQE.out.adds ((Only.refl _ _).alloc (.cells #[.int .i64 0, .int .i64 0, .int .u64 0, .int .u64 0] 35)))
  have HYN := Lib.hid (HYE.out.adds ((Only.refl _ _).alloc (.cells #[.int .i64 0, .int .i64 0, .int .u64 0, .int .u64 0] 35)))
  have HON := Lib.hid (HOE.out.alloc (.cells #[.int .i64 0, .int .i64 0, .int .u64 0, .int .u64 0] 35))
  obtain ⟨wN, hwN⟩ : ∃ wN, wN = wE.alloc (.cells #[.int .i64 0, .int .i64 0, .int .u64 0, .int .u64 0] 35) := ⟨_, rfl⟩
  obtain ⟨nb, hnb⟩ : ∃ nb, nb = wE.heap.size := ⟨_, rfl⟩
  rw [← hwN] at HPN HQN HYN HON n0 n1 n2 n3 ⊢
  rw [← hnb] at n0 n1 n2 n3 ⊢
  clear hBn hwN hnb HPE HQE HYE HOE
  have HG : Hid (∀ W, (W.cell? ⟨nb, 0, none⟩ = some (.int .i64 0) ∧ W.cell? ⟨nb, 1, none⟩ = some (.int .i64 0) ∧ W.cell? ⟨nb, 2, none⟩ = some (.int .u64 0) ∧ W.cell? ⟨nb, 3, none⟩ = some (.int .u64 0) ∧ Adds wN W) → Adds wN W) := Lib.hid (fun _ h => h.2.2.2.2)
  go_region_held3 (fun W => W.cell? ⟨nb, 0, none⟩ = some (.int .i64 0) ∧ W.cell? ⟨nb, 1, none⟩ = some (.int .i64 0) ∧ W.cell? ⟨nb, 2, none⟩ = some (.int .u64 0) ∧ W.cell? ⟨nb, 3, none⟩ = some (.int .u64 0) ∧ Adds wN W)
    (first | (exact ⟨n0, n1, n2, n3, (Only.refl _ _).drew⟩) | (exact heldM4 (by assumption) (by first | assumption | exact Only.refl _ _)))
    (first
    | (go_at_call 15; with_reducible refine (takeP_nilA (HPN.out.adds (HG.out _ (by assumption)))).mono ?_; rintro e wa ⟨rfl, hoa⟩)
    | (go_at_call 11; with_reducible refine (leaveP_nilA (HQN.out.adds (HG.out _ (by assumption)))).mono ?_; rintro e wb ⟨rfl, hob⟩)
    | (go_at_call 15; with_reducible refine (takeP_other (HPN.out.adds (HG.out _ (by assumption))) (HYN.out.ar.only (HG.out _ (by assumption)) id) hNE.out).mono ?_; rintro e wc ⟨rfl, hoc⟩)
    | (go_at_call 11; with_reducible refine (leaveP_other (HQN.out.adds (HG.out _ (by assumption))) (HYN.out.ar.only (HG.out _ (by assumption)) id) hNE.out).mono ?_; rintro e wd ⟨rfl, hod⟩)
    | (go_at_call 16; refine (takeP_done (HPN.out.adds (HG.out _ (by assumption)))).mono ?_; rintro e we ⟨rfl, rfl⟩)
    | (go_at_call 12; refine (leaveP_done (HQN.out.adds (HG.out _ (by assumption)))).mono ?_; rintro e wf ⟨rfl, rfl⟩))
  rename_i hH
  have HYF := Lib.hid (HYN.out.adds hH.2.2.2.2); have HOF := Lib.hid (HON.out.thenF hH.2.2.2.2)
  clear hH
  go_wp2_with (first
    | (go_at_call 20; refine (arenaStore_any HYF.out.ar).mono ?_; rintro e wg ⟨rfl, rfl⟩)
    | (go_at_call 21; refine (count_any _ _ _ _ HYF.out.st).mono ?_; rintro e wh ⟨rfl, rfl⟩; rw [show (StoreS.begun 116 0 1).many = 0 from rfl])
    | (go_at_call 13; with_reducible refine (held_nil _).mono ?_; rintro e wi ⟨rfl, rfl⟩)
    | (go_at_call 13; with_reducible refine (held_any HYF.out h2.out (by rw [h0.out]; omega)).mono ?_; rintro e wj ⟨rfl, rfl⟩; rw [h0.out])
    | (go_at_call 17; refine (awake13_any _).mono ?_; rintro e wk ⟨rfl, hok⟩))
  go_ret
  exact ⟨rfl, HOF.out.thenF hok⟩
set_option maxRecDepth 100000 in
set_option maxHeartbeats 4000000 in
theorem lockMay_eq (t : Int) (w : World) :
    Calls Try.prog 4 #[.agg #[.int .i64 3, .int .i64 2], .int .i64 t] w fun e w' => e = .returned (.bool true) ∧ Adds w w' := by
  have hle : ∀ W, Sem.run Try.prog (binOp .eql 24 (.agg #[.int .i64 3, .int .i64 2]) (.agg #[.int .i64 3, .int .i64 2])) W = .ok (.bool true) W := fun W => layout_eql W 3 2 3 2
  have hd : ∀ W, Sem.run Try.prog (binOp .eql 35 (.agg #[.int .i64 0, .int .i64 0, .int .u64 0, .int .u64 0]) (.agg #[.int .i64 0, .int .i64 0, .int .u64 0, .int .u64 0])) W = .ok (.bool true) W := fun W => did_eql W 0 0 0 0 0 0 0 0
  have h2 := Lib.hid (begun_inR (n := 116) (k := 0) (v := 1) (i := 2) (by omega) (by omega))
  have h0 := Lib.hid (begun_other 116 1 2 (by omega))
  obtain ⟨B1, hB1⟩ : ∃ B, B = (Lay.may 3 2 && decide (0 ≤ t ∧ t < 2)) := ⟨_, rfl⟩
  obtain ⟨B2, hB2⟩ : ∃ B, B = Lay.may 3 2 := ⟨_, rfl⟩
  have HB1 := Lib.hid hB1; have HB2 := Lib.hid hB2
  have hB := Blk.new w #[.int .i64 3, .int .i64 2] 24
  have x0 : (w.alloc (.cells #[.int .i64 3, .int .i64 2] 24)).cell? ⟨w.heap.size, 0, none⟩ = some (.int .i64 3) := hB.cell 0
  have x1 : (w.alloc (.cells #[.int .i64 3, .int .i64 2] 24)).cell? ⟨w.heap.size, 1, none⟩ = some (.int .i64 2) := hB.cell 1
  have HBL := Lib.hid hB
  clear hB hB1 hB2
  go_enter Try.func4, Try.ntmps4
  go_wp2_with fail
  go_region_held3 (fun w' => w'.cell? ⟨w.heap.size, 0, none⟩ = some (.int .i64 3) ∧ w'.cell? ⟨w.heap.size, 1, none⟩ = some (.int .i64 2) ∧ Adds (w.alloc (.cells #[.int .i64 3, .int .i64 2] 24)) w')
    (first | (exact ⟨x0, x1, (Only.refl _ _).drew⟩) | (exact heldM2 (by assumption) (by assumption)))
    (first
    | (go_at_call 14; refine (newTakeP 3 2 t _).mono ?_; rintro e w1 ⟨p, rfl, hp, hP, ho1⟩)
    | (go_at_call 10; refine (newLeaveP 3 2 _).mono ?_; rintro e w2 ⟨q, rfl, hq, hQ, ho2⟩))
  rename_i hH
  have HP := Lib.hid (hP.adds ho2); have HQ := Lib.hid hQ; have HO := Lib.hid hH.2.2
  have hn1 := fun W => take_nonnil p W; have hn2 := fun W => leave_nonnil q W
  rw [hp, ← HB1.out] at hn1; rw [hq, ← HB2.out] at hn2
  clear x0 x1 hP hQ ho1 ho2 hp hq
  obtain ⟨x0, x1, -⟩ := hH
  go_wp2_with (first
    | (go_at_call 18; with_reducible refine (right_takeP 3 2 t _).mono ?_; rintro e w3 ⟨rfl, ho3⟩; rw [← HB1.out]; obtain ⟨y0, y1, hO3⟩ := heldM2 ⟨x0, x1, HO.out⟩ ho3; have HP3 := Lib.hid (HP.out.adds ho3); have HQ3 := Lib.hid (HQ.out.adds ho3); have HO3 := Lib.hid hO3; clear ho3 hO3)
    | (go_at_call 18; with_reducible refine (right_leaveP 3 2 _).mono ?_; rintro e w4 ⟨rfl, ho4⟩; rw [← HB2.out]; obtain ⟨z0, z1, hO4⟩ := heldM2 ⟨y0, y1, HO3.out⟩ ho4; have HP4 := Lib.hid (HP3.out.adds ho4); have HQ4 := Lib.hid (HQ3.out.adds ho4); have HO4 := Lib.hid hO4; clear ho4 hO4)
    | (go_at_call 9; refine (arenaNew_yard 3 2 _ (by decide)).mono ?_; rintro e w5 ⟨ab, sb, sm, rb, rfl, hy, ho5, -⟩; rw [show (Lay.words 3 2).toNat = 116 from by decide] at hy; obtain ⟨u0, u1, hO5⟩ := heldM2 ⟨z0, z1, HO4.out⟩ ho5; have HP5 := Lib.hid (HP4.out.adds ho5); have HQ5 := Lib.hid (HQ4.out.adds ho5); have HO5 := Lib.hid hO5; have HY5 := Lib.hid hy; clear ho5 hO5 hy))
  clear hn1 hn2 x0 x1 y0 y1 z0 z1 HP HQ HP3 HQ3 HP4 HQ4 HO HO3 HO4
  go_region_held3 (fun w' => w'.cell? ⟨w.heap.size, 0, none⟩ = some (.int .i64 3) ∧ w'.cell? ⟨w.heap.size, 1, none⟩ = some (.int .i64 2) ∧ Adds w5 w')
    (first | (exact ⟨u0, u1, (Only.refl _ _).drew⟩) | (exact heldM2 (by assumption) (by assumption)))
    (first
    | (go_at_call 19; refine (arenaLayout_any (HY5.out.ar.only ((Only.refl (fun _ => False) _).drew) id)).mono ?_; rintro e w6 ⟨rfl, ho6⟩))
  rename_i hH
  have HP6 := Lib.hid (HP5.out.adds hH.2.2); have HQ6 := Lib.hid (HQ5.out.adds hH.2.2); have HY6 := Lib.hid (HY5.out.adds hH.2.2); have HO6 := Lib.hid (HO5.out.thenF hH.2.2)
  clear u0 u1 ho6 HP5 HQ5 HY5 HO5
  obtain ⟨u0, u1, -⟩ := hH

  have f0 := (HBL.out.only HO6.out id).frozen 0
  have hlw : w.heap.size < w6.heap.size := cell_lt u0
  go_wp2_with fail
  have hA7 : Adds w (w6.setCell ⟨w.heap.size, 0, none⟩ (.int .i64 4)) := (((Only.refl _ w).alloc _).thenF HO6.out).setCell (.inr (Nat.le_refl _)) _
  have hY7 := HY6.out.only ((Only.refl (· = w.heap.size) w6).setCell (p := ⟨w.heap.size, 0, none⟩) (.inl rfl) (.int .i64 4)) (HY6.out.mach (HBL.out.only HO6.out id) (by decide) (by decide) (by decide)).1.symm (HY6.out.mach (HBL.out.only HO6.out id) (by decide) (by decide) (by decide)).2.1.symm (HY6.out.mach (HBL.out.only HO6.out id) (by decide) (by decide) (by decide)).2.2.symm
  have hB7 := (HBL.out.only HO6.out id).setCell 0 (.int .i64 4)
  have v0 : (w6.setCell ⟨w.heap.size, 0, none⟩ (.int .i64 4)).cell? ⟨w.heap.size, 0, none⟩ = some (.int .i64 4) := hB7.cell 0
  have v1 : (w6.setCell ⟨w.heap.size, 0, none⟩ (.int .i64 4)).cell? ⟨w.heap.size, 1, none⟩ = some (.int .i64 2) := hB7.cell 1
  have HY7 := Lib.hid hY7; have HA7 := Lib.hid hA7
  obtain ⟨w7, hw7⟩ : ∃ w7, w7 = w6.setCell ⟨w.heap.size, 0, none⟩ (.int .i64 4) := ⟨_, rfl⟩
  rw [← hw7] at v0 v1 HY7 HA7 ⊢
  clear hB7 hY7 hA7 hw7 u0 u1 HP6 HQ6 f0
  go_region_held3 (fun w' => w'.cell? ⟨w.heap.size, 0, none⟩ = some (.int .i64 4) ∧ w'.cell? ⟨w.heap.size, 1, none⟩ = some (.int .i64 2) ∧ Adds w7 w')
    (first | (exact ⟨v0, v1, (Only.refl _ _).drew⟩) | (exact heldM2 (by assumption) (by assumption)))
    (first
    | (go_at_call 14; refine (newTakeP 4 2 t _).mono ?_; rintro e w8 ⟨p2, rfl, -, hP, ho1⟩)
    | (go_at_call 10; refine (newLeaveP 4 2 _).mono ?_; rintro e w9 ⟨q2, rfl, -, hQ, ho2⟩))
  rename_i hH
  have HPE := Lib.hid (hP.adds ho2); have HQE := Lib.hid hQ; have HOE := Lib.hid (HA7.out.thenF hH.2.2); have HYE := Lib.hid (HY7.out.adds hH.2.2)
  clear hH hP hQ ho1 ho2 v0 v1
  obtain ⟨wE, hwE⟩ : ∃ wE, wE = w9 := ⟨_, rfl⟩
  rw [← hwE] at HPE HQE HOE HYE ⊢
  clear hwE
  have hNE := Lib.hid (show ((3 : Int) == 4 && (2 : Int) == 2) = false from rfl)
  go_wp2_with fail
  have hBn := Blk.new wE #[.int .i64 0, .int .i64 0, .int .u64 0, .int .u64 0] 35
  obtain ⟨n0, n1, n2, n3, -⟩ := hBn.four
  have HPN := Lib.hid (HPE.out.adds ((Only.refl _ _).alloc (.cells #[.int .i64 0, .int .i64 0, .int .u64 0, .int .u64 0] 35)))
  have HQN := Lib.hid (HQE.out.adds ((Only.refl _ _).alloc (.cells #[.int .i64 0, .int .i64 0, .int .u64 0, .int .u64 0] 35)))
  have HYN := Lib.hid (HYE.out.adds ((Only.refl _ _).alloc (.cells #[.int .i64 0, .int .i64 0, .int .u64 0, .int .u64 0] 35)))
  have HON := Lib.hid (HOE.out.alloc (.cells #[.int .i64 0, .int .i64 0, .int .u64 0, .int .u64 0] 35))
  obtain ⟨wN, hwN⟩ : ∃ wN, wN = wE.alloc (.cells #[.int .i64 0, .int .i64 0, .int .u64 0, .int .u64 0] 35) := ⟨_, rfl⟩
  obtain ⟨nb, hnb⟩ : ∃ nb, nb = wE.heap.size := ⟨_, rfl⟩
  rw [← hwN] at HPN HQN HYN HON n0 n1 n2 n3 ⊢
  rw [← hnb] at n0 n1 n2 n3 ⊢
  clear hBn hwN hnb HPE HQE HYE HOE
  have HG : Hid (∀ W, (W.cell? ⟨nb, 0, none⟩ = some (.int .i64 0) ∧ W.cell? ⟨nb, 1, none⟩ = some (.int .i64 0) ∧ W.cell? ⟨nb, 2, none⟩ = some (.int .u64 0) ∧ W.cell? ⟨nb, 3, none⟩ = some (.int .u64 0) ∧ Adds wN W) → Adds wN W) := Lib.hid (fun _ h => h.2.2.2.2)
  go_region_held3 (fun W => W.cell? ⟨nb, 0, none⟩ = some (.int .i64 0) ∧ W.cell? ⟨nb, 1, none⟩ = some (.int .i64 0) ∧ W.cell? ⟨nb, 2, none⟩ = some (.int .u64 0) ∧ W.cell? ⟨nb, 3, none⟩ = some (.int .u64 0) ∧ Adds wN W)
    (first | (exact ⟨n0, n1, n2, n3, (Only.refl _ _).drew⟩) | (exact heldM4 (by assumption) (by first | assumption | exact Only.refl _ _)))
    (first
    | (go_at_call 15; with_reducible refine (takeP_nilA (HPN.out.adds (HG.out _ (by assumption)))).mono ?_; rintro e wa ⟨rfl, hoa⟩)
    | (go_at_call 11; with_reducible refine (leaveP_nilA (HQN.out.adds (HG.out _ (by assumption)))).mono ?_; rintro e wb ⟨rfl, hob⟩)
    | (go_at_call 15; with_reducible refine (takeP_other (HPN.out.adds (HG.out _ (by assumption))) (HYN.out.ar.only (HG.out _ (by assumption)) id) hNE.out).mono ?_; rintro e wc ⟨rfl, hoc⟩)
    | (go_at_call 11; with_reducible refine (leaveP_other (HQN.out.adds (HG.out _ (by assumption))) (HYN.out.ar.only (HG.out _ (by assumption)) id) hNE.out).mono ?_; rintro e wd ⟨rfl, hod⟩)
    | (go_at_call 16; refine (takeP_done (HPN.out.adds (HG.out _ (by assumption)))).mono ?_; rintro e we ⟨rfl, rfl⟩)
    | (go_at_call 12; refine (leaveP_done (HQN.out.adds (HG.out _ (by assumption)))).mono ?_; rintro e wf ⟨rfl, rfl⟩))
  rename_i hH
  have HYF := Lib.hid (HYN.out.adds hH.2.2.2.2); have HOF := Lib.hid (HON.out.thenF hH.2.2.2.2)
  clear hH
  go_wp2_with (first
    | (go_at_call 20; refine (arenaStore_any HYF.out.ar).mono ?_; rintro e wg ⟨rfl, rfl⟩)
    | (go_at_call 21; refine (count_any _ _ _ _ HYF.out.st).mono ?_; rintro e wh ⟨rfl, rfl⟩; rw [show (StoreS.begun 116 0 1).many = 0 from rfl])
    | (go_at_call 13; with_reducible refine (held_nil _).mono ?_; rintro e wi ⟨rfl, rfl⟩)
    | (go_at_call 13; with_reducible refine (held_any HYF.out h2.out (by rw [h0.out]; omega)).mono ?_; rintro e wj ⟨rfl, rfl⟩; rw [h0.out])
    | (go_at_call 17; refine (awake13_any _).mono ?_; rintro e wk ⟨rfl, hok⟩))
  go_ret
  exact ⟨rfl, HOF.out.thenF hok⟩
theorem lockMay_law (P : Int) (_w0 : (Lit.int .i64 P).wf = true) (T : Int) (_w1 : (Lit.int .i64 T).wf = true) (t : Int) (_w2 : (Lit.int .i64 t).wf = true) (w : World) :
    Calls Try.prog 4 #[.agg #[.int .i64 P, .int .i64 T], .int .i64 t] w fun e w' => e = .returned (.bool true) ∧ Below w.heap.size w w' := by
  by_cases h : P = 3 ∧ T = 2
  · obtain ⟨rfl, rfl⟩ := h
    exact (lockMay_eq t w).mono (fun _ _ h => ⟨h.1, h.2.below (Nat.le_refl _) (fun _ _ h => h)⟩)
  · exact (lockMay_ne P T t w h).mono (fun _ _ h => ⟨h.1, h.2.below (Nat.le_refl _) (fun _ _ h => h)⟩)
end Go.Proofs.Ytipeijkpiglbfaa

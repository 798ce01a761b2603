/- WorldMay: its walk. By an AI agent. -/
import Derived.Test.YtipeijkpiglbfaaWorldMay
import Derived.Test.YtipeijkpiglbfaaRight
import Derived.Test.YtipeijkpiglbfaaRow
namespace Go.Proofs.Ytipeijkpiglbfaa
open Go.RowKit
set_option maxRecDepth 100000 in
set_option maxHeartbeats 8000000 in
theorem worldMay_ne (P T t : Int) (w : World) (hn : ¬ (P = 3 ∧ T = 2)) :
    Calls Try.prog 8 #[.agg #[.int .i64 P, .int .i64 T], .int .i64 t] w fun e w' => e = .returned (.bool true) ∧ Adds w w' := by
  have hne : (3 == P && 2 == T) = false := by simp only [Bool.and_eq_false_iff, beq_eq_false_iff_ne]; omega
  have hne' : (P == 3 && T == 2) = false := by simp only [Bool.and_eq_false_iff, beq_eq_false_iff_ne]; omega
  have hle := fun W => layout_eql W P T 3 2
  rw [hne'] at hle
  have hNE := Lib.hid hne
  clear hn hne hne'
  have hd : ∀ W, Sem.run Try.prog (binOp .eql 35 (.agg #[.int .i64 0, .int .i64 0, .int .u64 0, .int .u64 0]) (.agg #[.int .i64 0, .int .i64 0, .int .u64 0, .int .u64 0])) W = .ok (.bool true) W := fun W => did_eql W 0 0 0 0 0 0 0 0
  obtain ⟨B1, hB1⟩ : ∃ B, B = (Lay.may P T && decide (0 ≤ t ∧ t < T)) := ⟨_, rfl⟩
  obtain ⟨B2, hB2⟩ : ∃ B, B = Lay.may P T := ⟨_, rfl⟩
  have HB1 := Lib.hid hB1; have HB2 := Lib.hid hB2
  have hB := Blk.new w #[.int .i64 P, .int .i64 T] 24
  have x0 : (w.alloc (.cells #[.int .i64 P, .int .i64 T] 24)).cell? ⟨w.heap.size, 0, none⟩ = some (.int .i64 P) := hB.cell 0
  have x1 : (w.alloc (.cells #[.int .i64 P, .int .i64 T] 24)).cell? ⟨w.heap.size, 1, none⟩ = some (.int .i64 T) := hB.cell 1
  have HBL := Lib.hid hB
  clear hB hB1 hB2
  go_enter Try.func8, Try.ntmps8
  go_wp2_with fail
  go_region_held3 (fun w' => w'.cell? ⟨w.heap.size, 0, none⟩ = some (.int .i64 P) ∧ w'.cell? ⟨w.heap.size, 1, none⟩ = some (.int .i64 T) ∧ Adds (w.alloc (.cells #[.int .i64 P, .int .i64 T] 24)) w')
    (first | (exact ⟨x0, x1, (Only.refl _ _).drew⟩) | (exact heldM2 (by assumption) (by assumption)))
    (first
    | (go_at_call 33; refine (newEnterP P T _).mono ?_; rintro e a1 ⟨p, rfl, hp, hP, ho1⟩)
    | (go_at_call 34; refine (newExitP P T _).mono ?_; rintro e a2 ⟨q, rfl, hq, hQ, ho2⟩)
    | (go_at_call 35; refine (newStopP P T t _).mono ?_; rintro e a3 ⟨r, rfl, hr, hR, ho3⟩)
    | (go_at_call 36; refine (newGoP P T _).mono ?_; rintro e a4 ⟨u, rfl, hu, hU, ho4⟩))
  rename_i hH
  have HF := Lib.hid (show Four a4 p q r u P T t from ⟨hP.adds ((ho2.thenF ho3).thenF ho4), hQ.adds (ho3.thenF ho4), hR.adds ho4, hU⟩); have HO := Lib.hid hH.2.2
  have hn1 := fun W => enter_nonnil p W; have hn2 := fun W => exit_nonnil q W; have hn3 := fun W => stop_nonnil r W; have hn4 := fun W => go_nonnil u W
  rw [hp, ← HB2.out] at hn1; rw [hq, ← HB2.out] at hn2; rw [hr, ← HB1.out] at hn3; rw [hu, ← HB2.out] at hn4
  clear x0 x1 hP hQ hR hU ho1 ho2 ho3 ho4 hp hq hr hu
  obtain ⟨x0, x1, -⟩ := hH
  go_wp2_with (first
    | (go_at_call 18; with_reducible refine (right_enterP P T _).mono ?_; rintro e w3 ⟨rfl, hoA⟩; rw [← HB2.out]; obtain ⟨y0, y1, hO3⟩ := heldM2 ⟨x0, x1, HO.out⟩ hoA; have HF3 := Lib.hid (HF.out.adds hoA); have HO3 := Lib.hid hO3; clear hoA hO3)
    | (go_at_call 18; with_reducible refine (right_stopP P T t _).mono ?_; rintro e w4 ⟨rfl, hoB⟩; rw [← HB1.out]; obtain ⟨z0, z1, hO4⟩ := heldM2 ⟨y0, y1, HO3.out⟩ hoB; have HF4 := Lib.hid (HF3.out.adds hoB); have HO4 := Lib.hid hO4; clear hoB hO4)
    | (go_at_call 9; refine (arenaNew_yard 3 2 _ (by decide)).mono ?_; rintro e w5 ⟨ab, sb, sm, rb, rfl, hy, hoC, -⟩; rw [show (Lay.words 3 2).toNat = 116 from by decide] at hy; obtain ⟨u0, u1, hO5⟩ := heldM2 ⟨z0, z1, HO4.out⟩ hoC; have HF5 := Lib.hid (HF4.out.adds hoC); have HO5 := Lib.hid hO5; have HY5 := Lib.hid hy; clear hoC hO5 hy))
  clear hn1 hn2 hn3 hn4 x0 x1 y0 y1 z0 z1 HF HF3 HF4 HO HO3 HO4
  go_region_held3 (fun w' => w'.cell? ⟨w.heap.size, 0, none⟩ = some (.int .i64 P) ∧ w'.cell? ⟨w.heap.size, 1, none⟩ = some (.int .i64 T) ∧ Adds w5 w')
    (first | (exact ⟨u0, u1, (Only.refl _ _).drew⟩) | (exact heldM2 (by assumption) (by assumption)))
    (first
    | (go_at_call 19; refine (arenaLayout_any (HY5.out.ar.only ((Only.refl (fun _ => False) _).drew) id)).mono ?_; rintro e w6 ⟨rfl, ho6⟩))
  rename_i hH
  have HF6 := Lib.hid (HF5.out.adds hH.2.2); have HY6 := Lib.hid (HY5.out.adds hH.2.2); have HO6 := Lib.hid (HO5.out.thenF hH.2.2)
  clear u0 u1 ho6 HF5 HY5 HO5
  obtain ⟨u0, u1, -⟩ := hH

  have HFE := HF6; have HYE := HY6
  have HOE := Lib.hid (((Only.refl (fun _ => False) w).alloc (.cells #[.int .i64 P, .int .i64 T] 24)).thenF HO6.out)
  obtain ⟨wE, hwE⟩ : ∃ wE, wE = w6 := ⟨_, rfl⟩
  rw [← hwE] at HFE HOE HYE u0 u1 ⊢
  clear hwE
  go_wp2_with fail
  have hBn := Blk.new wE #[.int .i64 0, .int .i64 0, .int .u64 0, .int .u64 0] 35
  obtain ⟨n0, n1, n2, n3, -⟩ := hBn.four
  have HFN := Lib.hid (HFE.out.adds ((Only.refl _ _).alloc (.cells #[.int .i64 0, .int .i64 0, .int .u64 0, .int .u64 0] 35)))
  have HYN := Lib.hid (HYE.out.adds ((Only.refl _ _).alloc (.cells #[.int .i64 0, .int .i64 0, .int .u64 0, .int .u64 0] 35)))
  have HON := Lib.hid (HOE.out.alloc (.cells #[.int .i64 0, .int .i64 0, .int .u64 0, .int .u64 0] 35))
  obtain ⟨wN, hwN⟩ : ∃ wN, wN = wE.alloc (.cells #[.int .i64 0, .int .i64 0, .int .u64 0, .int .u64 0] 35) := ⟨_, rfl⟩
  obtain ⟨nb, hnb⟩ : ∃ nb, nb = wE.heap.size := ⟨_, rfl⟩
  rw [← hwN] at HFN HYN HON n0 n1 n2 n3 ⊢
  rw [← hnb] at n0 n1 n2 n3 ⊢
  clear hBn hwN hnb HFE HYE HOE
  have HGa : Hid (∀ W, (W.cell? ⟨nb, 0, none⟩ = some (.int .i64 0) ∧ W.cell? ⟨nb, 1, none⟩ = some (.int .i64 0) ∧ W.cell? ⟨nb, 2, none⟩ = some (.int .u64 0) ∧ W.cell? ⟨nb, 3, none⟩ = some (.int .u64 0) ∧ Adds wN W) → Adds wN W) := Lib.hid (fun _ h => h.2.2.2.2)
  go_region_held3 (fun W => W.cell? ⟨nb, 0, none⟩ = some (.int .i64 0) ∧ W.cell? ⟨nb, 1, none⟩ = some (.int .i64 0) ∧ W.cell? ⟨nb, 2, none⟩ = some (.int .u64 0) ∧ W.cell? ⟨nb, 3, none⟩ = some (.int .u64 0) ∧ Adds wN W)
    (first | (exact ⟨n0, n1, n2, n3, (Only.refl _ _).drew⟩) | (exact heldM4 (by assumption) (by first | assumption | exact Only.refl _ _)))
    (first
    | (go_at_call 37; refine (enterP_nilA (HFN.out.en.adds (HGa.out _ (by assumption)))).mono ?_; rintro e b0 ⟨rfl, hob0⟩)
    | (go_at_call 38; refine (exitP_nilA (HFN.out.ex.adds (HGa.out _ (by assumption)))).mono ?_; rintro e b1 ⟨rfl, hob1⟩)
    | (go_at_call 39; refine (stopP_nilA (HFN.out.st.adds (HGa.out _ (by assumption)))).mono ?_; rintro e b2 ⟨rfl, hob2⟩)
    | (go_at_call 40; refine (goP_nilA (HFN.out.go.adds (HGa.out _ (by assumption)))).mono ?_; rintro e b3 ⟨rfl, hob3⟩))
  rename_i hH
  have HFM := Lib.hid (HFN.out.adds hH.2.2.2.2); have HYM := Lib.hid (HYN.out.adds hH.2.2.2.2); have HOM := Lib.hid (HON.out.thenF hH.2.2.2.2)
  clear n0 n1 n2 n3 HFN HYN HON
  obtain ⟨n0, n1, n2, n3, -⟩ := hH
  obtain ⟨wM, hwM⟩ : ∃ wM, wM = b3 := ⟨_, rfl⟩
  rw [← hwM] at HFM HYM HOM n0 n1 n2 n3 ⊢
  clear hwM
  go_wp2_with fail
  have HGb : Hid (∀ W, (W.cell? ⟨nb, 0, none⟩ = some (.int .i64 0) ∧ W.cell? ⟨nb, 1, none⟩ = some (.int .i64 0) ∧ W.cell? ⟨nb, 2, none⟩ = some (.int .u64 0) ∧ W.cell? ⟨nb, 3, none⟩ = some (.int .u64 0) ∧ Adds wM W) → Adds wM W) := Lib.hid (fun _ h => h.2.2.2.2)
  go_region_held3 (fun W => W.cell? ⟨nb, 0, none⟩ = some (.int .i64 0) ∧ W.cell? ⟨nb, 1, none⟩ = some (.int .i64 0) ∧ W.cell? ⟨nb, 2, none⟩ = some (.int .u64 0) ∧ W.cell? ⟨nb, 3, none⟩ = some (.int .u64 0) ∧ Adds wM W)
    (first | (exact ⟨n0, n1, n2, n3, (Only.refl _ _).drew⟩) | (exact heldM4 (by assumption) (by first | assumption | exact Only.refl _ _)))
    (first
    | (go_at_call 37; refine (enterP_other (HFM.out.en.adds (HGb.out _ (by assumption))) (HYM.out.ar.only (HGb.out _ (by assumption)) id) hNE.out).mono ?_; rintro e d0 ⟨rfl, hod0⟩)
    | (go_at_call 38; refine (exitP_other (HFM.out.ex.adds (HGb.out _ (by assumption))) (HYM.out.ar.only (HGb.out _ (by assumption)) id) hNE.out).mono ?_; rintro e d1 ⟨rfl, hod1⟩)
    | (go_at_call 39; refine (stopP_other (HFM.out.st.adds (HGb.out _ (by assumption))) (HYM.out.ar.only (HGb.out _ (by assumption)) id) hNE.out).mono ?_; rintro e d2 ⟨rfl, hod2⟩)
    | (go_at_call 40; refine (goP_other (HFM.out.go.adds (HGb.out _ (by assumption))) (HYM.out.ar.only (HGb.out _ (by assumption)) id) hNE.out).mono ?_; rintro e d3 ⟨rfl, hod3⟩))
  rename_i hH
  have HFL := Lib.hid (HFM.out.adds hH.2.2.2.2); have HYL := Lib.hid (HYM.out.adds hH.2.2.2.2); have HOL := Lib.hid (HOM.out.thenF hH.2.2.2.2)
  clear hH
  go_wp2_with (first
    | (go_at_call 41; refine (enterP_done HFL.out.en).mono ?_; rintro e g0 ⟨rfl, rfl⟩)
    | (go_at_call 42; refine (exitP_done HFL.out.ex).mono ?_; rintro e g1 ⟨rfl, rfl⟩)
    | (go_at_call 43; refine (stopP_done HFL.out.st).mono ?_; rintro e g2 ⟨rfl, rfl⟩)
    | (go_at_call 44; refine (goP_done HFL.out.go).mono ?_; rintro e g3 ⟨rfl, rfl⟩)
    | (go_at_call 45; refine (enterP_gen HFL.out.en).mono ?_; rintro e h1 ⟨rfl, rfl⟩)
    | (go_at_call 46; refine (stopP_gen HFL.out.st).mono ?_; rintro e h2 ⟨rfl, rfl⟩)
    | (go_at_call 20; refine (arenaStore_any HYL.out.ar).mono ?_; rintro e h3 ⟨rfl, rfl⟩)
    | (go_at_call 21; refine (count_any _ _ _ _ HYL.out.st).mono ?_; rintro e h4 ⟨rfl, rfl⟩; rw [show (StoreS.begun 116 0 1).many = 0 from rfl])
    | (go_at_call 32; refine (awake20_any _).mono ?_; rintro e h5 ⟨rfl, hok⟩))
  go_ret
  exact ⟨rfl, HOL.out.thenF hok⟩
set_option maxRecDepth 100000 in
set_option maxHeartbeats 8000000 in
theorem worldMay_eq (t : Int) (w : World) :
    Calls Try.prog 8 #[.agg #[.int .i64 3, .int .i64 2], .int .i64 t] w fun e w' => e = .returned (.bool true) ∧ Adds w w' := by
  have hle : ∀ W, Sem.run Try.prog (binOp .eql 24 (.agg #[.int .i64 3, .int .i64 2]) (.agg #[.int .i64 3, .int .i64 2])) W = .ok (.bool true) W := fun W => layout_eql W 3 2 3 2
  have hd : ∀ W, Sem.run Try.prog (binOp .eql 35 (.agg #[.int .i64 0, .int .i64 0, .int .u64 0, .int .u64 0]) (.agg #[.int .i64 0, .int .i64 0, .int .u64 0, .int .u64 0])) W = .ok (.bool true) W := fun W => did_eql W 0 0 0 0 0 0 0 0
  obtain ⟨B1, hB1⟩ : ∃ B, B = (Lay.may 3 2 && decide (0 ≤ t ∧ t < 2)) := ⟨_, rfl⟩
  obtain ⟨B2, hB2⟩ : ∃ B, B = Lay.may 3 2 := ⟨_, rfl⟩
  have HB1 := Lib.hid hB1; have HB2 := Lib.hid hB2
  have hB := Blk.new w #[.int .i64 3, .int .i64 2] 24
  have x0 : (w.alloc (.cells #[.int .i64 3, .int .i64 2] 24)).cell? ⟨w.heap.size, 0, none⟩ = some (.int .i64 3) := hB.cell 0
  have x1 : (w.alloc (.cells #[.int .i64 3, .int .i64 2] 24)).cell? ⟨w.heap.size, 1, none⟩ = some (.int .i64 2) := hB.cell 1
  have HBL := Lib.hid hB
  clear hB hB1 hB2
  go_enter Try.func8, Try.ntmps8
  go_wp2_with fail
  go_region_held3 (fun w' => w'.cell? ⟨w.heap.size, 0, none⟩ = some (.int .i64 3) ∧ w'.cell? ⟨w.heap.size, 1, none⟩ = some (.int .i64 2) ∧ Adds (w.alloc (.cells #[.int .i64 3, .int .i64 2] 24)) w')
    (first | (exact ⟨x0, x1, (Only.refl _ _).drew⟩) | (exact heldM2 (by assumption) (by assumption)))
    (first
    | (go_at_call 33; refine (newEnterP 3 2 _).mono ?_; rintro e a1 ⟨p, rfl, hp, hP, ho1⟩)
    | (go_at_call 34; refine (newExitP 3 2 _).mono ?_; rintro e a2 ⟨q, rfl, hq, hQ, ho2⟩)
    | (go_at_call 35; refine (newStopP 3 2 t _).mono ?_; rintro e a3 ⟨r, rfl, hr, hR, ho3⟩)
    | (go_at_call 36; refine (newGoP 3 2 _).mono ?_; rintro e a4 ⟨u, rfl, hu, hU, ho4⟩))
  rename_i hH
  have HF := Lib.hid (show Four a4 p q r u 3 2 t from ⟨hP.adds ((ho2.thenF ho3).thenF ho4), hQ.adds (ho3.thenF ho4), hR.adds ho4, hU⟩); have HO := Lib.hid hH.2.2
  have hn1 := fun W => enter_nonnil p W; have hn2 := fun W => exit_nonnil q W; have hn3 := fun W => stop_nonnil r W; have hn4 := fun W => go_nonnil u W
  rw [hp, ← HB2.out] at hn1; rw [hq, ← HB2.out] at hn2; rw [hr, ← HB1.out] at hn3; rw [hu, ← HB2.out] at hn4
  clear x0 x1 hP hQ hR hU ho1 ho2 ho3 ho4 hp hq hr hu
  obtain ⟨x0, x1, -⟩ := hH
  go_wp2_with (first
    | (go_at_call 18; with_reducible refine (right_enterP 3 2 _).mono ?_; rintro e w3 ⟨rfl, hoA⟩; rw [← HB2.out]; obtain ⟨y0, y1, hO3⟩ := heldM2 ⟨x0, x1, HO.out⟩ hoA; have HF3 := Lib.hid (HF.out.adds hoA); have HO3 := Lib.hid hO3; clear hoA hO3)
    | (go_at_call 18; with_reducible refine (right_stopP 3 2 t _).mono ?_; rintro e w4 ⟨rfl, hoB⟩; rw [← HB1.out]; obtain ⟨z0, z1, hO4⟩ := heldM2 ⟨y0, y1, HO3.out⟩ hoB; have HF4 := Lib.hid (HF3.out.adds hoB); have HO4 := Lib.hid hO4; clear hoB hO4)
    | (go_at_call 9; refine (arenaNew_yard 3 2 _ (by decide)).mono ?_; rintro e w5 ⟨ab, sb, sm, rb, rfl, hy, hoC, -⟩; rw [show (Lay.words 3 2).toNat = 116 from by decide] at hy; obtain ⟨u0, u1, hO5⟩ := heldM2 ⟨z0, z1, HO4.out⟩ hoC; have HF5 := Lib.hid (HF4.out.adds hoC); have HO5 := Lib.hid hO5; have HY5 := Lib.hid hy; clear hoC hO5 hy))
  clear hn1 hn2 hn3 hn4 x0 x1 y0 y1 z0 z1 HF HF3 HF4 HO HO3 HO4
  go_region_held3 (fun w' => w'.cell? ⟨w.heap.size, 0, none⟩ = some (.int .i64 3) ∧ w'.cell? ⟨w.heap.size, 1, none⟩ = some (.int .i64 2) ∧ Adds w5 w')
    (first | (exact ⟨u0, u1, (Only.refl _ _).drew⟩) | (exact heldM2 (by assumption) (by assumption)))
    (first
    | (go_at_call 19; refine (arenaLayout_any (HY5.out.ar.only ((Only.refl (fun _ => False) _).drew) id)).mono ?_; rintro e w6 ⟨rfl, ho6⟩))
  rename_i hH
  have HF6 := Lib.hid (HF5.out.adds hH.2.2); have HY6 := Lib.hid (HY5.out.adds hH.2.2); have HO6 := Lib.hid (HO5.out.thenF hH.2.2)
  clear u0 u1 ho6 HF5 HY5 HO5
  obtain ⟨u0, u1, -⟩ := hH

  have f0 := (HBL.out.only HO6.out id).frozen 0
  have hlw : w.heap.size < w6.heap.size := cell_lt u0
  have hnab := (HY6.out.mach (HBL.out.only HO6.out id) (by decide) (by decide) (by decide))
  have hA7 : Adds w (w6.setCell ⟨w.heap.size, 0, none⟩ (.int .i64 4)) := (((Only.refl _ w).alloc _).thenF HO6.out).setCell (.inr (Nat.le_refl _)) _
  have hY7 := HY6.out.only ((Only.refl (· = w.heap.size) w6).setCell (p := ⟨w.heap.size, 0, none⟩) (.inl rfl) (.int .i64 4)) hnab.1.symm hnab.2.1.symm hnab.2.2.symm
  have hB7 := (HBL.out.only HO6.out id).setCell 0 (.int .i64 4)
  have v0 : (w6.setCell ⟨w.heap.size, 0, none⟩ (.int .i64 4)).cell? ⟨w.heap.size, 0, none⟩ = some (.int .i64 4) := hB7.cell 0
  have v1 : (w6.setCell ⟨w.heap.size, 0, none⟩ (.int .i64 4)).cell? ⟨w.heap.size, 1, none⟩ = some (.int .i64 2) := hB7.cell 1
  have HY7 := Lib.hid hY7; have HA7 := Lib.hid hA7
  go_wp2_with fail
  obtain ⟨w7, hw7⟩ : ∃ w7, w7 = w6.setCell ⟨w.heap.size, 0, none⟩ (.int .i64 4) := ⟨_, rfl⟩
  rw [← hw7] at v0 v1 HY7 HA7 ⊢
  clear hB7 hY7 hA7 hw7 u0 u1 HF6 f0 hnab
  go_region_held3 (fun w' => w'.cell? ⟨w.heap.size, 0, none⟩ = some (.int .i64 4) ∧ w'.cell? ⟨w.heap.size, 1, none⟩ = some (.int .i64 2) ∧ Adds w7 w')
    (first | (exact ⟨v0, v1, (Only.refl _ _).drew⟩) | (exact heldM2 (by assumption) (by assumption)))
    (first
    | (go_at_call 33; refine (newEnterP 4 2 _).mono ?_; rintro e a1E ⟨pE, rfl, hp, hP, ho1⟩)
    | (go_at_call 34; refine (newExitP 4 2 _).mono ?_; rintro e a2E ⟨qE, rfl, hq, hQ, ho2⟩)
    | (go_at_call 35; refine (newStopP 4 2 t _).mono ?_; rintro e a3E ⟨rE, rfl, hr, hR, ho3⟩)
    | (go_at_call 36; refine (newGoP 4 2 _).mono ?_; rintro e a4E ⟨uE, rfl, hu, hU, ho4⟩))
  rename_i hH
  have HFE := Lib.hid (show Four a4E pE qE rE uE 4 2 t from ⟨hP.adds ((ho2.thenF ho3).thenF ho4), hQ.adds (ho3.thenF ho4), hR.adds ho4, hU⟩); have HOE := Lib.hid (HA7.out.thenF hH.2.2); have HYE := Lib.hid (HY7.out.adds hH.2.2)
  clear hH hP hQ hR hU ho1 ho2 ho3 ho4 hp hq hr hu v0 v1
  obtain ⟨wE, hwE⟩ : ∃ wE, wE = a4E := ⟨_, rfl⟩
  rw [← hwE] at HFE HOE HYE ⊢
  clear hwE
  have hNE := Lib.hid (show ((3 : Int) == 4 && (2 : Int) == 2) = false from rfl)
  go_wp2_with fail
  have hBn := Blk.new wE #[.int .i64 0, .int .i64 0, .int .u64 0, .int .u64 0] 35
  obtain ⟨n0, n1, n2, n3, -⟩ := hBn.four
  have HFN := Lib.hid (HFE.out.adds ((Only.refl _ _).alloc (.cells #[.int .i64 0, .int .i64 0, .int .u64 0, .int .u64 0] 35)))
  have HYN := Lib.hid (HYE.out.adds ((Only.refl _ _).alloc (.cells #[.int .i64 0, .int .i64 0, .int .u64 0, .int .u64 0] 35)))
  have HON := Lib.hid (HOE.out.alloc (.cells #[.int .i64 0, .int .i64 0, .int .u64 0, .int .u64 0] 35))
  obtain ⟨wN, hwN⟩ : ∃ wN, wN = wE.alloc (.cells #[.int .i64 0, .int .i64 0, .int .u64 0, .int .u64 0] 35) := ⟨_, rfl⟩
  obtain ⟨nb, hnb⟩ : ∃ nb, nb = wE.heap.size := ⟨_, rfl⟩
  rw [← hwN] at HFN HYN HON n0 n1 n2 n3 ⊢
  rw [← hnb] at n0 n1 n2 n3 ⊢
  clear hBn hwN hnb HFE HYE HOE
  have HGa : Hid (∀ W, (W.cell? ⟨nb, 0, none⟩ = some (.int .i64 0) ∧ W.cell? ⟨nb, 1, none⟩ = some (.int .i64 0) ∧ W.cell? ⟨nb, 2, none⟩ = some (.int .u64 0) ∧ W.cell? ⟨nb, 3, none⟩ = some (.int .u64 0) ∧ Adds wN W) → Adds wN W) := Lib.hid (fun _ h => h.2.2.2.2)
  go_region_held3 (fun W => W.cell? ⟨nb, 0, none⟩ = some (.int .i64 0) ∧ W.cell? ⟨nb, 1, none⟩ = some (.int .i64 0) ∧ W.cell? ⟨nb, 2, none⟩ = some (.int .u64 0) ∧ W.cell? ⟨nb, 3, none⟩ = some (.int .u64 0) ∧ Adds wN W)
    (first | (exact ⟨n0, n1, n2, n3, (Only.refl _ _).drew⟩) | (exact heldM4 (by assumption) (by first | assumption | exact Only.refl _ _)))
    (first
    | (go_at_call 37; refine (enterP_nilA (HFN.out.en.adds (HGa.out _ (by assumption)))).mono ?_; rintro e b0 ⟨rfl, hob0⟩)
    | (go_at_call 38; refine (exitP_nilA (HFN.out.ex.adds (HGa.out _ (by assumption)))).mono ?_; rintro e b1 ⟨rfl, hob1⟩)
    | (go_at_call 39; refine (stopP_nilA (HFN.out.st.adds (HGa.out _ (by assumption)))).mono ?_; rintro e b2 ⟨rfl, hob2⟩)
    | (go_at_call 40; refine (goP_nilA (HFN.out.go.adds (HGa.out _ (by assumption)))).mono ?_; rintro e b3 ⟨rfl, hob3⟩))
  rename_i hH
  have HFM := Lib.hid (HFN.out.adds hH.2.2.2.2); have HYM := Lib.hid (HYN.out.adds hH.2.2.2.2); have HOM := Lib.hid (HON.out.thenF hH.2.2.2.2)
  clear n0 n1 n2 n3 HFN HYN HON
  obtain ⟨n0, n1, n2, n3, -⟩ := hH
  obtain ⟨wM, hwM⟩ : ∃ wM, wM = b3 := ⟨_, rfl⟩
  rw [← hwM] at HFM HYM HOM n0 n1 n2 n3 ⊢
  clear hwM
  go_wp2_with fail
  have HGb : Hid (∀ W, (W.cell? ⟨nb, 0, none⟩ = some (.int .i64 0) ∧ W.cell? ⟨nb, 1, none⟩ = some (.int .i64 0) ∧ W.cell? ⟨nb, 2, none⟩ = some (.int .u64 0) ∧ W.cell? ⟨nb, 3, none⟩ = some (.int .u64 0) ∧ Adds wM W) → Adds wM W) := Lib.hid (fun _ h => h.2.2.2.2)
  go_region_held3 (fun W => W.cell? ⟨nb, 0, none⟩ = some (.int .i64 0) ∧ W.cell? ⟨nb, 1, none⟩ = some (.int .i64 0) ∧ W.cell? ⟨nb, 2, none⟩ = some (.int .u64 0) ∧ W.cell? ⟨nb, 3, none⟩ = some (.int .u64 0) ∧ Adds wM W)
    (first | (exact ⟨n0, n1, n2, n3, (Only.refl _ _).drew⟩) | (exact heldM4 (by assumption) (by first | assumption | exact Only.refl _ _)))
    (first
    | (go_at_call 37; refine (enterP_other (HFM.out.en.adds (HGb.out _ (by assumption))) (HYM.out.ar.only (HGb.out _ (by assumption)) id) hNE.out).mono ?_; rintro e d0 ⟨rfl, hod0⟩)
    | (go_at_call 38; refine (exitP_other (HFM.out.ex.adds (HGb.out _ (by assumption))) (HYM.out.ar.only (HGb.out _ (by assumption)) id) hNE.out).mono ?_; rintro e d1 ⟨rfl, hod1⟩)
    | (go_at_call 39; refine (stopP_other (HFM.out.st.adds (HGb.out _ (by assumption))) (HYM.out.ar.only (HGb.out _ (by assumption)) id) hNE.out).mono ?_; rintro e d2 ⟨rfl, hod2⟩)
    | (go_at_call 40; refine (goP_other (HFM.out.go.adds (HGb.out _ (by assumption))) (HYM.out.ar.only (HGb.out _ (by assumption)) id) hNE.out).mono ?_; rintro e d3 ⟨rfl, hod3⟩))
  rename_i hH
  have HFL := Lib.hid (HFM.out.adds hH.2.2.2.2); have HYL := Lib.hid (HYM.out.adds hH.2.2.2.2); have HOL := Lib.hid (HOM.out.thenF hH.2.2.2.2)
  clear hH
  go_wp2_with (first
    | (go_at_call 41; refine (enterP_done HFL.out.en).mono ?_; rintro e g0 ⟨rfl, rfl⟩)
    | (go_at_call 42; refine (exitP_done HFL.out.ex).mono ?_; rintro e g1 ⟨rfl, rfl⟩)
    | (go_at_call 43; refine (stopP_done HFL.out.st).mono ?_; rintro e g2 ⟨rfl, rfl⟩)
    | (go_at_call 44; refine (goP_done HFL.out.go).mono ?_; rintro e g3 ⟨rfl, rfl⟩)
    | (go_at_call 45; refine (enterP_gen HFL.out.en).mono ?_; rintro e h1 ⟨rfl, rfl⟩)
    | (go_at_call 46; refine (stopP_gen HFL.out.st).mono ?_; rintro e h2 ⟨rfl, rfl⟩)
    | (go_at_call 20; refine (arenaStore_any HYL.out.ar).mono ?_; rintro e h3 ⟨rfl, rfl⟩)
    | (go_at_call 21; refine (count_any _ _ _ _ HYL.out.st).mono ?_; rintro e h4 ⟨rfl, rfl⟩; rw [show (StoreS.begun 116 0 1).many = 0 from rfl])
    | (go_at_call 32; refine (awake20_any _).mono ?_; rintro e h5 ⟨rfl, hok⟩))
  go_ret
  exact ⟨rfl, HOL.out.thenF hok⟩
theorem worldMay_law (P : Int) (_w0 : (Lit.int .i64 P).wf = true) (T : Int) (_w1 : (Lit.int .i64 T).wf = true) (t : Int) (_w2 : (Lit.int .i64 t).wf = true) (w : World) :
    Calls Try.prog 8 #[.agg #[.int .i64 P, .int .i64 T], .int .i64 t] w fun e w' => e = .returned (.bool true) ∧ Below w.heap.size w w' := by
  by_cases h : P = 3 ∧ T = 2
  · obtain ⟨rfl, rfl⟩ := h
    exact (worldMay_eq t w).mono (fun _ _ h => ⟨h.1, h.2.below (Nat.le_refl _) (fun _ _ h => h)⟩)
  · exact (worldMay_ne P T t w h).mono (fun _ _ h => ⟨h.1, h.2.below (Nat.le_refl _) (fun _ _ h => h)⟩)
end Go.Proofs.Ytipeijkpiglbfaa

/- ClaimMay: its walk. By an AI agent. -/
import Derived.Test.YtbcfeaimopijfaaGreatClaimAwake
import Derived.Test.YtbcfeaimopijfaaGreatRightClaim
import Derived.Deep.RegionHeld3
import Derived.Test.YtbcfeaimopijfaaGreatRow
namespace Go.Proofs.YtbcfeaimopijfaaGreat
open Go.RowKit
set_option maxRecDepth 100000 in
set_option maxHeartbeats 8000000 in
theorem claimMay_ne (P T h g : Int) (w : World) (hn : ¬ (P = 3 ∧ T = 2)) :
    Calls Tryz.prog 3 #[.agg #[.int .i64 P, .int .i64 T], .int .i64 h, .int .i64 g] w fun e w' => e = .returned (.bool true) ∧ Adds w w' := by
  have hne : (3 == P && 2 == T) = false := by simp only [Bool.and_eq_false_iff, beq_eq_false_iff_ne]; omega
  have hne' : (P == 3 && T == 2) = false := by simp only [Bool.and_eq_false_iff, beq_eq_false_iff_ne]; omega
  have hle := fun W => layout_eql W P T 3 2
  rw [hne'] at hle
  have hNE := Lib.hid hne
  clear hn hne hne'
  have hd : ∀ W, Sem.run Tryz.prog (binOp .eql 32 (.agg #[.int .i64 0, .int .i64 0, .int .u64 0, .int .u64 0]) (.agg #[.int .i64 0, .int .i64 0, .int .u64 0, .int .u64 0])) W = .ok (.bool true) W := fun W => did_eql W 0 0 0 0 0 0 0 0
  obtain ⟨B1, hB1⟩ : ∃ B, B = (Lay.isHead P T h && Ph.cyc g) := ⟨_, rfl⟩
  have HB1 := Lib.hid hB1
  have hB := Blk.new w #[.int .i64 P, .int .i64 T] 23
  have x0 : (w.alloc (.cells #[.int .i64 P, .int .i64 T] 23)).cell? ⟨w.heap.size, 0, none⟩ = some (.int .i64 P) := hB.cell 0
  have x1 : (w.alloc (.cells #[.int .i64 P, .int .i64 T] 23)).cell? ⟨w.heap.size, 1, none⟩ = some (.int .i64 T) := hB.cell 1
  have HBL := Lib.hid hB
  have hn1 : ∀ p W, p.isSome = B1 → Sem.run Tryz.prog (binOp .neq 24 (.pointer p) (.pointer none)) W = .ok (.bool B1) W := fun p W e => by rw [← e]; exact claim_nonnil p W
  have HN1 := Lib.hid hn1
  clear hB hB1 hn1
  go_enter Tryz.func3, Tryz.ntmps3
  go_wp2_with (first
    | (go_at_call 6; with_reducible refine (newClaimP P T h g _).mono ?_; rintro e w1 ⟨p, rfl, hp, hP, ho1⟩; rw [← HB1.out] at hp; have hn1 := fun W => HN1.out p W hp; obtain ⟨y0, y1, hO1⟩ := heldM2 ⟨x0, x1, Only.refl (fun _ => False) _⟩ ho1; have HP1 := Lib.hid hP; have HO1 := Lib.hid hO1; clear hP ho1 hp hO1)
    | (go_at_call 7; with_reducible refine (right_claimP P T h g _).mono ?_; rintro e w4 ⟨rfl, ho4⟩; rw [← HB1.out]; obtain ⟨z0, z1, hO4⟩ := heldM2 ⟨y0, y1, HO1.out⟩ ho4; have HP4 := Lib.hid (HP1.out.adds ho4); have HO4 := Lib.hid hO4; clear ho4 hO4)
    | (go_at_call 8; refine (arenaNew_yard 3 2 _ (by decide)).mono ?_; rintro e w5 ⟨ab, sb, sm, rb, rfl, hy, ho5, -⟩; rw [show (Lay.words 3 2).toNat = 116 from by decide] at hy; obtain ⟨u0, u1, hO5⟩ := heldM2 ⟨z0, z1, HO4.out⟩ ho5; have HP5 := Lib.hid (HP4.out.adds ho5); have HO5 := Lib.hid hO5; have HY5 := Lib.hid hy; clear ho5 hO5 hy))
  clear x0 x1 y0 y1 z0 z1 HP1 HP4 HO1 HO4
  go_region_held3 (fun w' => w'.cell? ⟨w.heap.size, 0, none⟩ = some (.int .i64 P) ∧ w'.cell? ⟨w.heap.size, 1, none⟩ = some (.int .i64 T) ∧ Adds w5 w')
    (first | (exact ⟨u0, u1, (Only.refl _ _).drew⟩) | (exact heldM2 (by assumption) (by assumption)))
    (first
    | (go_at_call 9; refine (arenaLayout_any (HY5.out.ar.only ((Only.refl (fun _ => False) _).drew) id)).mono ?_; rintro e w6 ⟨rfl, ho6⟩))
  rename_i hH
  have HP6 := Lib.hid (HP5.out.adds hH.2.2); have HY6 := Lib.hid (HY5.out.adds hH.2.2); have HO6 := Lib.hid (HO5.out.thenF hH.2.2)
  clear u0 u1 ho6 HP5 HY5 HO5
  obtain ⟨u0, u1, -⟩ := hH

  have HPE := HP6; have HYE := HY6
  have HOE := Lib.hid (((Only.refl (fun _ => False) w).alloc (.cells #[.int .i64 P, .int .i64 T] 23)).thenF HO6.out)
  obtain ⟨wE, hwE⟩ : ∃ wE, wE = w6 := ⟨_, rfl⟩
  rw [← hwE] at HPE HOE HYE u0 u1 ⊢
  clear hwE
  go_wp2_with fail
  have hBn := Blk.new wE #[.int .i64 0, .int .i64 0, .int .u64 0, .int .u64 0] 32
  obtain ⟨n0, n1, n2, n3, -⟩ := hBn.four
  have HPN := Lib.hid (HPE.out.adds ((Only.refl _ _).alloc (.cells #[.int .i64 0, .int .i64 0, .int .u64 0, .int .u64 0] 32)))
  have HYN := Lib.hid (HYE.out.adds ((Only.refl _ _).alloc (.cells #[.int .i64 0, .int .i64 0, .int .u64 0, .int .u64 0] 32)))
  have HON := Lib.hid (HOE.out.alloc (.cells #[.int .i64 0, .int .i64 0, .int .u64 0, .int .u64 0] 32))
  obtain ⟨wN, hwN⟩ : ∃ wN, wN = wE.alloc (.cells #[.int .i64 0, .int .i64 0, .int .u64 0, .int .u64 0] 32) := ⟨_, rfl⟩
  obtain ⟨nb, hnb⟩ : ∃ nb, nb = wE.heap.size := ⟨_, rfl⟩
  rw [← hwN] at HPN HYN HON n0 n1 n2 n3 ⊢
  rw [← hnb] at n0 n1 n2 n3 ⊢
  clear hBn hwN hnb HPE HYE HOE
  have HG : Hid (∀ W, (W.cell? ⟨nb, 0, none⟩ = some (.int .i64 0) ∧ W.cell? ⟨nb, 1, none⟩ = some (.int .i64 0) ∧ W.cell? ⟨nb, 2, none⟩ = some (.int .u64 0) ∧ W.cell? ⟨nb, 3, none⟩ = some (.int .u64 0) ∧ Adds wN W) → Adds wN W) := Lib.hid (fun _ h => h.2.2.2.2)
  go_region_held3 (fun W => W.cell? ⟨nb, 0, none⟩ = some (.int .i64 0) ∧ W.cell? ⟨nb, 1, none⟩ = some (.int .i64 0) ∧ W.cell? ⟨nb, 2, none⟩ = some (.int .u64 0) ∧ W.cell? ⟨nb, 3, none⟩ = some (.int .u64 0) ∧ Adds wN W)
    (first | (exact ⟨n0, n1, n2, n3, (Only.refl _ _).drew⟩) | (exact heldM4 (by assumption) (by first | assumption | exact Only.refl _ _)))
    (first
    | (go_at_call 10; with_reducible refine (claimP_nilA (HPN.out.adds (HG.out _ (by assumption)))).mono ?_; rintro e wa ⟨rfl, hoa⟩)
    | (go_at_call 10; with_reducible refine (claimP_other (HPN.out.adds (HG.out _ (by assumption))) (HYN.out.ar.only (HG.out _ (by assumption)) id) hNE.out).mono ?_; rintro e wc ⟨rfl, hoc⟩)
    | (go_at_call 11; with_reducible refine (claimP_done (HPN.out.adds (HG.out _ (by assumption)))).mono ?_; rintro e we ⟨rfl, rfl⟩)
    | (go_at_call 10; with_reducible refine (claimClaimStep_nil _ _).mono ?_; rintro e wf ⟨rfl, hof⟩)
    | (go_at_call 11; with_reducible refine (claimClaimDone_nil _).mono ?_; rintro e wi ⟨rfl, rfl⟩)
    | (go_at_call 12; refine (claimPage_nil _).mono ?_; rintro e wj ⟨rfl, rfl⟩)
    | (go_at_call 13; refine (arenaStore_any (HYN.out.ar.only (HG.out _ (by assumption)) id)).mono ?_; rintro e wg ⟨rfl, rfl⟩)
    | (go_at_call 14; refine (count_any _ _ _ _ (HYN.out.st.only (HG.out _ (by assumption)) id id)).mono ?_; rintro e wh ⟨rfl, rfl⟩; rw [show (StoreS.begun 116 0 1).many = 0 from rfl])
    | (go_at_call 15; refine (awake16_any _).mono ?_; rintro e wk ⟨rfl, hok⟩))
  rename_i hH
  have HOF := Lib.hid (HON.out.thenF hH.2.2.2.2)
  clear hH
  go_wp2
  go_ret
  exact ⟨rfl, HOF.out⟩
set_option maxRecDepth 100000 in
set_option maxHeartbeats 8000000 in
theorem claimMay_eq (h g : Int) (w : World) :
    Calls Tryz.prog 3 #[.agg #[.int .i64 3, .int .i64 2], .int .i64 h, .int .i64 g] w fun e w' => e = .returned (.bool true) ∧ Adds w w' := by
  have hle : ∀ W, Sem.run Tryz.prog (binOp .eql 23 (.agg #[.int .i64 3, .int .i64 2]) (.agg #[.int .i64 3, .int .i64 2])) W = .ok (.bool true) W := fun W => layout_eql W 3 2 3 2
  have hd : ∀ W, Sem.run Tryz.prog (binOp .eql 32 (.agg #[.int .i64 0, .int .i64 0, .int .u64 0, .int .u64 0]) (.agg #[.int .i64 0, .int .i64 0, .int .u64 0, .int .u64 0])) W = .ok (.bool true) W := fun W => did_eql W 0 0 0 0 0 0 0 0
  obtain ⟨B1, hB1⟩ : ∃ B, B = (Lay.isHead 3 2 h && Ph.cyc g) := ⟨_, rfl⟩
  have HB1 := Lib.hid hB1
  have hB := Blk.new w #[.int .i64 3, .int .i64 2] 23
  have x0 : (w.alloc (.cells #[.int .i64 3, .int .i64 2] 23)).cell? ⟨w.heap.size, 0, none⟩ = some (.int .i64 3) := hB.cell 0
  have x1 : (w.alloc (.cells #[.int .i64 3, .int .i64 2] 23)).cell? ⟨w.heap.size, 1, none⟩ = some (.int .i64 2) := hB.cell 1
  have HBL := Lib.hid hB
  have hn1 : ∀ p W, p.isSome = B1 → Sem.run Tryz.prog (binOp .neq 24 (.pointer p) (.pointer none)) W = .ok (.bool B1) W := fun p W e => by rw [← e]; exact claim_nonnil p W
  have HN1 := Lib.hid hn1
  clear hB hB1 hn1
  go_enter Tryz.func3, Tryz.ntmps3
  go_wp2_with (first
    | (go_at_call 6; with_reducible refine (newClaimP 3 2 h g _).mono ?_; rintro e w1 ⟨p, rfl, hp, hP, ho1⟩; rw [← HB1.out] at hp; have hn1 := fun W => HN1.out p W hp; obtain ⟨y0, y1, hO1⟩ := heldM2 ⟨x0, x1, Only.refl (fun _ => False) _⟩ ho1; have HP1 := Lib.hid hP; have HO1 := Lib.hid hO1; clear hP ho1 hp hO1)
    | (go_at_call 7; with_reducible refine (right_claimP 3 2 h g _).mono ?_; rintro e w4 ⟨rfl, ho4⟩; rw [← HB1.out]; obtain ⟨z0, z1, hO4⟩ := heldM2 ⟨y0, y1, HO1.out⟩ ho4; have HP4 := Lib.hid (HP1.out.adds ho4); have HO4 := Lib.hid hO4; clear ho4 hO4)
    | (go_at_call 8; refine (arenaNew_yard 3 2 _ (by decide)).mono ?_; rintro e w5 ⟨ab, sb, sm, rb, rfl, hy, ho5, -⟩; rw [show (Lay.words 3 2).toNat = 116 from by decide] at hy; obtain ⟨u0, u1, hO5⟩ := heldM2 ⟨z0, z1, HO4.out⟩ ho5; have HP5 := Lib.hid (HP4.out.adds ho5); have HO5 := Lib.hid hO5; have HY5 := Lib.hid hy; clear ho5 hO5 hy))
  clear x0 x1 y0 y1 z0 z1 HP1 HP4 HO1 HO4
  go_region_held3 (fun w' => w'.cell? ⟨w.heap.size, 0, none⟩ = some (.int .i64 3) ∧ w'.cell? ⟨w.heap.size, 1, none⟩ = some (.int .i64 2) ∧ Adds w5 w')
    (first | (exact ⟨u0, u1, (Only.refl _ _).drew⟩) | (exact heldM2 (by assumption) (by assumption)))
    (first
    | (go_at_call 9; refine (arenaLayout_any (HY5.out.ar.only ((Only.refl (fun _ => False) _).drew) id)).mono ?_; rintro e w6 ⟨rfl, ho6⟩))
  rename_i hH
  have HP6 := Lib.hid (HP5.out.adds hH.2.2); have HY6 := Lib.hid (HY5.out.adds hH.2.2); have HO6 := Lib.hid (HO5.out.thenF hH.2.2)
  clear u0 u1 ho6 HP5 HY5 HO5
  obtain ⟨u0, u1, -⟩ := hH

  have f0 := (HBL.out.only HO6.out id).frozen 0
  have hlw : w.heap.size < w6.heap.size := cell_lt u0
  have hnab := (HY6.out.mach (HBL.out.only HO6.out id) (by decide) (by decide) (by decide))
  have hA7 : Adds w (w6.setCell ⟨w.heap.size, 0, none⟩ (.int .i64 4)) := (((Only.refl _ w).alloc _).thenF HO6.out).setCell (.inr (Nat.le_refl _)) _
  have hY7 := HY6.out.only ((Only.refl (· = w.heap.size) w6).setCell (p := ⟨w.heap.size, 0, none⟩) (.inl rfl) (.int .i64 4)) hnab.1.symm hnab.2.1.symm hnab.2.2.symm
  have hB7 := (HBL.out.only HO6.out id).setCell 0 (.int .i64 4)
  have v0 : (w6.setCell ⟨w.heap.size, 0, none⟩ (.int .i64 4)).cell? ⟨w.heap.size, 0, none⟩ = some (.int .i64 4) := hB7.cell 0
  have v1 : (w6.setCell ⟨w.heap.size, 0, none⟩ (.int .i64 4)).cell? ⟨w.heap.size, 1, none⟩ = some (.int .i64 2) := hB7.cell 1
  have HY7 := Lib.hid hY7; have HA7 := Lib.hid hA7
  clear hB7 hY7 hA7 HP6 hnab
  go_wp2_with (go_at_call 6; refine (newClaimP 4 2 h g _).mono ?_; rintro e w8 ⟨p2, rfl, -, hP, ho1⟩; have HPE := Lib.hid hP; have HOE := Lib.hid (HA7.out.thenF ho1); have HYE := Lib.hid (HY7.out.adds ho1); clear hP ho1)
  have hNE := Lib.hid (show ((3 : Int) == 4 && (2 : Int) == 2) = false from rfl)
  obtain ⟨wE, hwE⟩ : ∃ wE, wE = w8 := ⟨_, rfl⟩
  rw [← hwE] at HPE HOE HYE ⊢
  clear hwE v0 v1 u0 u1 f0
  have hBn := Blk.new wE #[.int .i64 0, .int .i64 0, .int .u64 0, .int .u64 0] 32
  obtain ⟨n0, n1, n2, n3, -⟩ := hBn.four
  have HPN := Lib.hid (HPE.out.adds ((Only.refl _ _).alloc (.cells #[.int .i64 0, .int .i64 0, .int .u64 0, .int .u64 0] 32)))
  have HYN := Lib.hid (HYE.out.adds ((Only.refl _ _).alloc (.cells #[.int .i64 0, .int .i64 0, .int .u64 0, .int .u64 0] 32)))
  have HON := Lib.hid (HOE.out.alloc (.cells #[.int .i64 0, .int .i64 0, .int .u64 0, .int .u64 0] 32))
  obtain ⟨wN, hwN⟩ : ∃ wN, wN = wE.alloc (.cells #[.int .i64 0, .int .i64 0, .int .u64 0, .int .u64 0] 32) := ⟨_, rfl⟩
  obtain ⟨nb, hnb⟩ : ∃ nb, nb = wE.heap.size := ⟨_, rfl⟩
  rw [← hwN] at HPN HYN HON n0 n1 n2 n3 ⊢
  rw [← hnb] at n0 n1 n2 n3 ⊢
  clear hBn hwN hnb HPE HYE HOE
  have HG : Hid (∀ W, (W.cell? ⟨nb, 0, none⟩ = some (.int .i64 0) ∧ W.cell? ⟨nb, 1, none⟩ = some (.int .i64 0) ∧ W.cell? ⟨nb, 2, none⟩ = some (.int .u64 0) ∧ W.cell? ⟨nb, 3, none⟩ = some (.int .u64 0) ∧ Adds wN W) → Adds wN W) := Lib.hid (fun _ h => h.2.2.2.2)
  go_region_held3 (fun W => W.cell? ⟨nb, 0, none⟩ = some (.int .i64 0) ∧ W.cell? ⟨nb, 1, none⟩ = some (.int .i64 0) ∧ W.cell? ⟨nb, 2, none⟩ = some (.int .u64 0) ∧ W.cell? ⟨nb, 3, none⟩ = some (.int .u64 0) ∧ Adds wN W)
    (first | (exact ⟨n0, n1, n2, n3, (Only.refl _ _).drew⟩) | (exact heldM4 (by assumption) (by first | assumption | exact Only.refl _ _)))
    (first
    | (go_at_call 10; with_reducible refine (claimP_nilA (HPN.out.adds (HG.out _ (by assumption)))).mono ?_; rintro e wa ⟨rfl, hoa⟩)
    | (go_at_call 10; with_reducible refine (claimP_other (HPN.out.adds (HG.out _ (by assumption))) (HYN.out.ar.only (HG.out _ (by assumption)) id) hNE.out).mono ?_; rintro e wc ⟨rfl, hoc⟩)
    | (go_at_call 11; with_reducible refine (claimP_done (HPN.out.adds (HG.out _ (by assumption)))).mono ?_; rintro e we ⟨rfl, rfl⟩)
    | (go_at_call 10; with_reducible refine (claimClaimStep_nil _ _).mono ?_; rintro e wf ⟨rfl, hof⟩)
    | (go_at_call 11; with_reducible refine (claimClaimDone_nil _).mono ?_; rintro e wi ⟨rfl, rfl⟩)
    | (go_at_call 12; refine (claimPage_nil _).mono ?_; rintro e wj ⟨rfl, rfl⟩)
    | (go_at_call 13; refine (arenaStore_any (HYN.out.ar.only (HG.out _ (by assumption)) id)).mono ?_; rintro e wg ⟨rfl, rfl⟩)
    | (go_at_call 14; refine (count_any _ _ _ _ (HYN.out.st.only (HG.out _ (by assumption)) id id)).mono ?_; rintro e wh ⟨rfl, rfl⟩; rw [show (StoreS.begun 116 0 1).many = 0 from rfl])
    | (go_at_call 15; refine (awake16_any _).mono ?_; rintro e wk ⟨rfl, hok⟩))
  rename_i hH
  have HOF := Lib.hid (HON.out.thenF hH.2.2.2.2)
  clear hH
  go_wp2
  go_ret
  exact ⟨rfl, HOF.out⟩
theorem claimMay_law (P : Int) (_w0 : (Lit.int .i64 P).wf = true) (T : Int) (_w1 : (Lit.int .i64 T).wf = true) (h : Int) (_w2 : (Lit.int .i64 h).wf = true) (g : Int) (_w3 : (Lit.int .i64 g).wf = true) (w : World) :
    Calls Tryz.prog 3 #[.agg #[.int .i64 P, .int .i64 T], .int .i64 h, .int .i64 g] w fun e w' => e = .returned (.bool true) ∧ Below w.heap.size w w' := by
  by_cases hh : P = 3 ∧ T = 2
  · obtain ⟨rfl, rfl⟩ := hh
    exact (claimMay_eq h g w).mono (fun _ _ h => ⟨h.1, h.2.below (Nat.le_refl _) (fun _ _ h => h)⟩)
  · exact (claimMay_ne P T h g w hh).mono (fun _ _ h => ⟨h.1, h.2.below (Nat.le_refl _) (fun _ _ h => h)⟩)
end Go.Proofs.YtbcfeaimopijfaaGreat

/- The statements' own 'swept', and the example of chapter 15. By an AI agent. -/
import Derived.Test.YtfgjacgkgonglaaGreatSweep3
import Derived.Test.YtfgjacgkgonglaaGreatPlay
import Derived.Test.YtfgjacgkgonglaaGreatYardNew
import Derived.Deep.RegionHeld3
namespace Go.Proofs.YtfgjacgkgonglaaGreat
open Go.RowKit
section
variable {w w' : World} {ab sb sm rb : Nat} {P T : Int} {s s' : StoreS}
theorem Yard.goes {m : Nat} (hY : Yard w ab sb sm rb P T s) (ho : Only (fun j => SB sb sm j ∨ j = m) w w') {c : Array Value} {t : TypeId} {b : Nat} (hb : Blk w b c t) (hm : b ≠ m) (h1 : t ≠ 202) (h2 : t ≠ 43) (h3 : t ≠ 176) : Blk w' b c t := by
  have e := hY.mach hb h1 h2 h3
  exact hb.only ho (fun q => q.elim (fun q => q.elim e.2.1 e.2.2) hm)
end
/-- What the two words of a page hold. -/
structure SwSt (s : StoreS) (al mk x y : Int) : Prop where
  ia : s.inR al
  ik : s.inR mk
  ne : al ≠ mk
  big : 1 < s.ws.length
  wa : s.word al = x
  wk : s.word mk = y
theorem SwSt.atA {s : StoreS} {al mk x y : Int} (h : SwSt s al mk x y) (k v : Int) : SwSt (s.acc k al v) al mk v y :=
  ⟨StoreS.acc_inR h.ia _ _ _, StoreS.acc_inR h.ik _ _ _, h.ne, by have := h.big; simpa [StoreS.acc] using this, StoreS.acc_word h.ia _ _, by rw [StoreS.acc_word_other h.ia.1 h.ik.1 (Ne.symm h.ne)]; exact h.wk⟩
theorem SwSt.atK {s : StoreS} {al mk x y : Int} (h : SwSt s al mk x y) (k v : Int) : SwSt (s.acc k mk v) al mk x v :=
  ⟨StoreS.acc_inR h.ia _ _ _, StoreS.acc_inR h.ik _ _ _, h.ne, by have := h.big; simpa [StoreS.acc] using this, by rw [StoreS.acc_word_other h.ik.1 h.ia.1 h.ne]; exact h.wa, StoreS.acc_word h.ik _ _⟩
set_option maxRecDepth 100000 in
set_option maxHeartbeats 8000000 in
theorem swept_any (a b p : Int) (w : World) (ha : 0 ≤ a ∧ a < 18446744073709551616) (hb : 0 ≤ b ∧ b < 18446744073709551616) (hp : 0 ≤ p ∧ p < 6) :
    Calls Tryz.prog 81 #[.int .u64 a, .int .u64 b, .int .i64 p] w fun e w' => e = .returned (.tuple #[.int .u64 (andU a b), .int .u64 0, .int .u64 (clrU a b), .bool true]) ∧ Adds w w' := by
  have hok : (Lay.may 6 1 && decide (0 ≤ p ∧ p < 6)) = true := by simp [hp.1, hp.2]; decide
  have k12 := Lib.hid ((pageOk12 6 1 p).trans hok); have k13 := Lib.hid ((pageOk13 6 1 p).trans hok)
  have HOK := Lib.hid hok
  have e12 : Lay.pageAt 6 1 12 p = 85 + 5 * p := by unfold Lay.pageAt; rw [if_neg (by decide)]; omega
  have e13 : Lay.pageAt 6 1 13 p = 86 + 5 * p := by unfold Lay.pageAt; rw [if_neg (by decide)]; omega
  obtain ⟨al, hal⟩ : ∃ al, al = Lay.pageAt 6 1 12 p := ⟨_, rfl⟩
  obtain ⟨mk, hmk⟩ : ∃ mk, mk = Lay.pageAt 6 1 13 p := ⟨_, rfl⟩
  have hr : Hid (85 ≤ al ∧ al < 120 ∧ 85 ≤ mk ∧ mk < 120 ∧ al ≠ mk) := by rw [hal, hmk, e12, e13]; exact Lib.hid ⟨by omega, by omega, by omega, by omega, by omega⟩
  have HAL := Lib.hid hal; have HMK := Lib.hid hmk
  obtain ⟨s0, hs0⟩ : ∃ s0, s0 = StoreS.begun 120 0 1 := ⟨_, rfl⟩
  have h0l : Hid (s0.ws.length = 120) := by rw [hs0]; exact Lib.hid (begun_len _ _ _)
  have HS0 := Lib.hid hs0
  have i0 : Hid (s0.inR al ∧ s0.inR mk) := by
    have e := h0l.out; have e2 := hr.out
    exact Lib.hid ⟨⟨by omega, by rw [e]; omega⟩, ⟨by omega, by rw [e]; omega⟩⟩
  have hBL := Blk.new w #[.int .i64 6, .int .i64 1] 40
  have x0 : (w.alloc (.cells #[.int .i64 6, .int .i64 1] 40)).cell? ⟨w.heap.size, 0, none⟩ = some (.int .i64 6) := hBL.cell 0
  have x1 : (w.alloc (.cells #[.int .i64 6, .int .i64 1] 40)).cell? ⟨w.heap.size, 1, none⟩ = some (.int .i64 1) := hBL.cell 1
  have HBL := Lib.hid hBL
  obtain ⟨lb, hlb⟩ : ∃ lb, lb = w.heap.size := ⟨_, rfl⟩
  obtain ⟨wL, hwL⟩ : ∃ wL, wL = w.alloc (.cells #[.int .i64 6, .int .i64 1] 40) := ⟨_, rfl⟩
  have HAL0 : Hid (Adds w wL) := by rw [hwL]; exact Lib.hid ((Only.refl _ _).alloc _)
  have HWL := Lib.hid hwL; have HLB := Lib.hid hlb
  rw [← hlb, ← hwL] at x0 x1 HBL
  clear hok e12 e13 hal hmk hs0 hBL hlb hwL hp
  obtain ⟨a0, a1⟩ := ha; obtain ⟨b0, b1⟩ := hb
  go_enter Tryz.func81, Tryz.ntmps81
  go_wp2_with fail
  rw [← HWL.out, ← HLB.out]
  go_region_held3 (fun W => W.cell? ⟨lb, 0, none⟩ = some (.int .i64 6) ∧ W.cell? ⟨lb, 1, none⟩ = some (.int .i64 1) ∧ Adds wL W)
    (first | (exact ⟨x0, x1, (Only.refl _ _).drew⟩) | (exact heldM2 (by assumption) (by assumption)))
    (first
    | (go_at_call 58; refine (arenaNew_yard 6 1 _ (by decide)).mono ?_; rintro e w1 ⟨ab, sb, sm, rb, rfl, hy, ho1, hlow⟩; rw [show (Lay.words 6 1).toNat = 120 from by decide, ← HS0.out] at hy)
    | (go_at_call 12; refine (newSweep_ok 6 1 p _ HOK.out).mono ?_; rintro e w2 ⟨mb, rfl, hm, ho2, hlow2⟩; rw [← HAL.out, ← HMK.out] at hm))
  rename_i hH
  obtain ⟨y0, y1, hO2⟩ := hH
  have HY2 := Lib.hid (hy.adds ho2); have HM2 := Lib.hid hm; have HB2 := Lib.hid (HBL.out.only hO2 id)
  have HLOW : Hid (w.heap.size ≤ sb ∧ w.heap.size ≤ sm ∧ w.heap.size ≤ mb) := by
    have e1 := HAL0.out.size; have e2 : wL.heap.size ≤ w1.heap.size := ho1.size
    have e3 : wL.heap.size ≤ sb ∧ wL.heap.size ≤ sm := ⟨hlow.2.1, hlow.2.2⟩
    exact Lib.hid ⟨by omega, by omega, by omega⟩
  have HO2 := Lib.hid (HAL0.out.thenF hO2)
  have nlb := Lib.hid (HY2.out.not HB2.out (by decide) (.inl (by decide)))
  clear x0 x1 hy hm ho1 ho2 hlow hlow2 hO2
  go_wp2_with fail
  have HG : Hid (∀ W, (W.cell? ⟨lb, 0, none⟩ = some (.int .i64 6) ∧ W.cell? ⟨lb, 1, none⟩ = some (.int .i64 1) ∧ Only (SB sb sm) w2 W) → Only (SB sb sm) w2 W) := Lib.hid (fun _ h => h.2.2)
  go_region_held3 (fun W => W.cell? ⟨lb, 0, none⟩ = some (.int .i64 6) ∧ W.cell? ⟨lb, 1, none⟩ = some (.int .i64 1) ∧ Only (SB sb sm) w2 W)
    (first | (exact ⟨y0, y1, (Only.refl _ _).drew⟩) | (exact heldMS2 nlb.out (by assumption) (by first | assumption | exact Only.refl _ _ | exact Adds.any (by assumption))))
    (first
    | (go_at_call 60; refine (arenaStore_any (HY2.out.ar.only (HG.out _ (by assumption)) HY2.out.apart)).mono ?_; rintro e w0 ⟨rfl, rfl⟩)
    | (go_at_call 11; with_reducible refine (playWord_any 6 1 12 p _ k12.out).mono ?_; rintro e w3 ⟨rfl, ho3⟩; rw [← HAL.out])
    | (go_at_call 62; with_reducible refine (put_in _ _ al a _ _ (HY2.out.st.only (((Only.refl (fun _ => False) w2).drew).thenF ho3) id id) i0.out.1 a0 a1).mono ?_; rintro e w4 ⟨rfl, hs4, ho4⟩)
    | (go_at_call 11; with_reducible refine (playWord_any 6 1 13 p _ k13.out).mono ?_; rintro e w5 ⟨rfl, ho5⟩; rw [← HMK.out])
    | (go_at_call 62; with_reducible refine (put_in _ _ mk b _ _ (hs4.only ho5 id id) (StoreS.acc_inR i0.out.2 _ _ _) b0 b1).mono ?_; rintro e w6 ⟨rfl, hs6, ho6⟩))
  rename_i hH
  obtain ⟨z0, z1, hO6⟩ := hH
  have HY6 := Lib.hid (HY2.out.acc hO6 hs6)
  have nmb : ¬ SB sb sm mb := by
    obtain ⟨_, _, _, hq, _⟩ := HM2.out.live
    obtain ⟨_, _, _, _, hq⟩ := HM2.out.live
    have e := HY2.out.mach hq.2 (by decide) (by decide) (by decide)
    exact fun q => q.elim e.2.1 e.2.2
  have HM6 := Lib.hid (HM2.out.only hO6 nmb (fun _ _ _ hb => HY2.out.multi (by rw [h0l.out]; omega) hb))
  have HB6 := Lib.hid (HB2.out.only hO6 nlb.out)
  have HO6 := Lib.hid (HO2.out.andThen hO6 (fun i hi e => by have := HLOW.out; rcases e with rfl | rfl <;> omega))
  clear hs4 ho4 ho5 hs6 ho6 ho3 nmb z0 z1 hO6 y0 y1
  have HST : Hid (SwSt ((s0.acc 2 al a).acc 2 mk b) al mk a b) := Lib.hid (((SwSt.mk i0.out.1 i0.out.2 hr.out.2.2.2.2 (by rw [h0l.out]; omega) rfl rfl).atA 2 a).atK 2 b)
  obtain ⟨s2, hs2⟩ : ∃ s2, s2 = (s0.acc 2 al a).acc 2 mk b := ⟨_, rfl⟩
  rw [← hs2] at HST HY6
  clear hs2
  have nl : Hid (lb ≠ mb) := Lib.hid (by
    rintro rfl
    obtain ⟨_, _, _, _, hq⟩ := HM6.out.live
    have e := (HB6.out.uniq hq.2).2
    revert e; decide)
  have D1 : Hid (∃ fn q c, (_ : World).cell? ⟨mb, 2, none⟩ = some (.func fn q c)) := Lib.hid (by
    obtain ⟨_, fn, q, c, e, hq⟩ := HM6.out.live
    exact ⟨fn, q, c, by rw [← e]; exact hq.cell 2⟩)
  obtain ⟨fn1, q1, c1, D1⟩ := D1.out
  have D1 := Lib.hid D1
  go_wp2_with fail
  refine wp_loop_rounds 5 ?_
  rw [rounds_succ]
  go_wp2_with (first
    | (go_at_call 16; refine (sweepSweepDone_no D1.out).mono ?_; rintro e u1 ⟨rfl, rfl⟩)
    | (go_at_call 14; refine (sweepStep_one HM6.out HY6.out HST.out.ik HST.out.big).mono ?_; rintro e t1 ⟨rfl, ⟨m1, y1⟩, o1⟩; rw [HST.out.wk] at m1 y1; have HMt1 := Lib.hid m1; have HYt1 := Lib.hid y1; have HBt1 := Lib.hid (HY6.out.goes o1 HB6.out nl.out (by decide) (by decide) (by decide)); have HOt1 := Lib.hid (HO6.out.andThen o1 (fun i hi e => by have := HLOW.out; rcases e with (rfl | rfl) | rfl <;> omega)); have HSTt1 := Lib.hid (HST.out.atK 1 b); have D2' : ∃ fn q c, (_ : World).cell? ⟨mb, 2, none⟩ = some (.func fn q c) := (by obtain ⟨_, fn, q, c, e, hq⟩ := m1.live; exact ⟨fn, q, c, by rw [← e]; exact hq.cell 2⟩); obtain ⟨fn2, q2, c2, d2⟩ := D2'; have D2 := Lib.hid d2; clear d2; clear m1 y1 o1))
  rw [rounds_succ]
  go_wp2_with (first
    | (go_at_call 16; refine (sweepSweepDone_no D2.out).mono ?_; rintro e u2 ⟨rfl, rfl⟩)
    | (go_at_call 14; refine (sweepStep_two HMt1.out HYt1.out HSTt1.out.ia HSTt1.out.big).mono ?_; rintro e t2 ⟨rfl, ⟨m2, y2⟩, o2⟩; rw [HSTt1.out.wa] at m2 y2; have HMt2 := Lib.hid m2; have HYt2 := Lib.hid y2; have HBt2 := Lib.hid (HYt1.out.goes o2 HBt1.out nl.out (by decide) (by decide) (by decide)); have HOt2 := Lib.hid (HOt1.out.andThen o2 (fun i hi e => by have := HLOW.out; rcases e with (rfl | rfl) | rfl <;> omega)); have HSTt2 := Lib.hid (HSTt1.out.atA 1 a); have D3' : ∃ fn q c, (_ : World).cell? ⟨mb, 2, none⟩ = some (.func fn q c) := (by obtain ⟨_, fn, q, c, e, hq⟩ := m2.live; exact ⟨fn, q, c, by rw [← e]; exact hq.cell 2⟩); obtain ⟨fn3, q3, c3, d3⟩ := D3'; have D3 := Lib.hid d3; clear d3; clear m2 y2 o2))
  rw [rounds_succ]
  go_wp2_with (first
    | (go_at_call 16; refine (sweepSweepDone_no D3.out).mono ?_; rintro e u3 ⟨rfl, rfl⟩)
    | (go_at_call 14; refine (sweepStep_three HMt2.out HYt2.out HSTt2.out.ia HSTt2.out.big).mono ?_; rintro e t3 ⟨rfl, ⟨m3, y3⟩, o3⟩; skip; have HMt3 := Lib.hid m3; have HYt3 := Lib.hid y3; have HBt3 := Lib.hid (HYt2.out.goes o3 HBt2.out nl.out (by decide) (by decide) (by decide)); have HOt3 := Lib.hid (HOt2.out.andThen o3 (fun i hi e => by have := HLOW.out; rcases e with (rfl | rfl) | rfl <;> omega)); have HSTt3 := Lib.hid (HSTt2.out.atA 2 (andU a b)); have D4' : ∃ fn q c, (_ : World).cell? ⟨mb, 2, none⟩ = some (.func fn q c) := (by obtain ⟨_, fn, q, c, e, hq⟩ := m3.live; exact ⟨fn, q, c, by rw [← e]; exact hq.cell 2⟩); obtain ⟨fn4, q4, c4, d4⟩ := D4'; have D4 := Lib.hid d4; clear d4; clear m3 y3 o3))
  rw [rounds_succ]
  go_wp2_with (first
    | (go_at_call 16; refine (sweepSweepDone_no D4.out).mono ?_; rintro e u4 ⟨rfl, rfl⟩)
    | (go_at_call 14; refine (sweepStep_four HMt3.out HYt3.out HSTt3.out.ik HSTt3.out.big).mono ?_; rintro e t4 ⟨rfl, ⟨m4, y4⟩, o4⟩; skip; have HMt4 := Lib.hid m4; have HYt4 := Lib.hid y4; have HBt4 := Lib.hid (HYt3.out.goes o4 HBt3.out nl.out (by decide) (by decide) (by decide)); have HOt4 := Lib.hid (HOt3.out.andThen o4 (fun i hi e => by have := HLOW.out; rcases e with (rfl | rfl) | rfl <;> omega)); have HSTt4 := Lib.hid (HSTt3.out.atK 2 0); skip; clear m4 y4 o4))
  rw [rounds_succ]
  go_wp2_with fail
  have g0 : t4.cell? ⟨lb, 0, none⟩ = some (.int .i64 6) := HBt4.out.cell 0
  have g1 : t4.cell? ⟨lb, 1, none⟩ = some (.int .i64 1) := HBt4.out.cell 1
  have HG4 : Hid (∀ W, (W.cell? ⟨lb, 0, none⟩ = some (.int .i64 6) ∧ W.cell? ⟨lb, 1, none⟩ = some (.int .i64 1) ∧ Adds t4 W) → Adds t4 W) := Lib.hid (fun _ h => h.2.2)
  go_region_held3 (fun W => W.cell? ⟨lb, 0, none⟩ = some (.int .i64 6) ∧ W.cell? ⟨lb, 1, none⟩ = some (.int .i64 1) ∧ Adds t4 W)
    (first | (exact ⟨g0, g1, (Only.refl _ _).drew⟩) | (exact heldM2 (by assumption) (by first | assumption | exact Only.refl _ _)))
    (first
    | (go_at_call 11; with_reducible refine (playWord_any 6 1 12 p _ k12.out).mono ?_; rintro e wa ⟨rfl, hoa⟩; rw [← HAL.out])
    | (go_at_call 46; with_reducible refine (playRead_any (i := al) (HYt4.out.adds (HG4.out _ (by assumption))) HSTt4.out.ia).mono ?_; rintro e wb ⟨rfl, hob⟩; rw [HSTt4.out.wa])
    | (go_at_call 11; with_reducible refine (playWord_any 6 1 13 p _ k13.out).mono ?_; rintro e wc ⟨rfl, hoc⟩; rw [← HMK.out])
    | (go_at_call 46; with_reducible refine (playRead_any (i := mk) (HYt4.out.adds (HG4.out _ (by assumption))) HSTt4.out.ik).mono ?_; rintro e wd ⟨rfl, hod⟩; rw [HSTt4.out.wk])
    | (go_at_call 17; refine (freed_any (HMt4.out.only (HG4.out _ (by assumption)) id)).mono ?_; rintro e we ⟨rfl, rfl⟩)
    | (go_at_call 16; refine (sweepSweepDone_yes ((HMt4.out.only (HG4.out _ (by assumption)) id).cell 2)).mono ?_; rintro e wf ⟨rfl, rfl⟩))
  rename_i hH
  have HF := Lib.hid (HOt4.out.thenF hH.2.2)
  clear hH
  go_wp2
  exact bodyPost_ret (v := .tuple #[.int .u64 (andU a b), .int .u64 0, .int .u64 (clrU a b), .bool true]) (by simp [results, Tryz.results81, go_sem]) rfl ⟨rfl, HF.out⟩
set_option maxHeartbeats 1000000 in
theorem awake15_any (w : World) : Calls Tryz.prog 19 #[] w fun e w' => e = .returned (.bool true) ∧ Adds w w' := by
  go_enter Tryz.func19, Tryz.ntmps19
  go_wp2_with (go_at_call 81; refine (swept_any 7 5 2 _ (by omega) (by omega) (by omega)).mono ?_; rintro e w1 ⟨rfl, ho⟩; rw [show andU 7 5 = 5 from by decide, show clrU 7 5 = 2 from by decide])
  go_ret
  exact ⟨rfl, ho⟩
end Go.Proofs.YtfgjacgkgonglaaGreat

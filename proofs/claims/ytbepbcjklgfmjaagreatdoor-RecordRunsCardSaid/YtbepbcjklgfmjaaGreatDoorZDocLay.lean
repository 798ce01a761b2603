/- The document's lay and gone as automata. By an AI agent. -/
import Derived.Test.YtbepbcjklgfmjaaGreatDoorZC
import Derived.Test.YtbepbcjklgfmjaaGreatDoorZA
namespace Go.Proofs.YtbepbcjklgfmjaaGreatDoor
open Go.RowKit
set_option linter.unusedSimpArgs false
set_option linter.unusedVariables false
/-- A lay ahead of its put number i. -/
def layA (P T pg : Int) (n : Nat) (bv al st : Int) : Aut Nat Int where
  ac i := if i < n then .put (Lay.pageAt P T 14 (pg + i)) (pg + 1) else if i = n then .put (Lay.pageAt P T 10 pg) bv else if i = n + 1 then .put (Lay.pageAt P T 12 pg) al else if i = n + 2 then .put (Lay.pageAt P T 13 pg) 0 else .put (Lay.pageAt P T 9 pg) st
  nx i _ := if i < n + 3 then .inl (i + 1) else .inr 0
/-- A gone ahead of its put number i. -/
def goneA (P T pg : Int) (n : Nat) : Aut Nat Int where
  ac i := if i < n then .put (Lay.pageAt P T 14 (pg + i)) 0 else .put (Lay.pageAt P T 9 pg) 0
  nx i _ := if i < n then .inl (i + 1) else .inr 0
section
variable {P T pg bv al st : Int} {n i : Nat}
theorem layA_0 (h : i < n) : (layA P T pg n bv al st).ac i = .put (Lay.pageAt P T 14 (pg + i)) (pg + 1) := if_pos h
theorem layA_1 : (layA P T pg n bv al st).ac n = .put (Lay.pageAt P T 10 pg) bv := by show (if n < n then _ else if n = n then _ else _) = _; rw [if_neg (by omega), if_pos rfl]
theorem layA_2 : (layA P T pg n bv al st).ac (n + 1) = .put (Lay.pageAt P T 12 pg) al := by show (if n + 1 < n then _ else if n + 1 = n then _ else if n + 1 = n + 1 then _ else _) = _; rw [if_neg (by omega), if_neg (by omega), if_pos rfl]
theorem layA_3 : (layA P T pg n bv al st).ac (n + 2) = .put (Lay.pageAt P T 13 pg) 0 := by show (if n + 2 < n then _ else if n + 2 = n then _ else if n + 2 = n + 1 then _ else if n + 2 = n + 2 then _ else _) = _; rw [if_neg (by omega), if_neg (by omega), if_neg (by omega), if_pos rfl]
theorem layA_4 : (layA P T pg n bv al st).ac (n + 3) = .put (Lay.pageAt P T 9 pg) st := by show (if n + 3 < n then _ else if n + 3 = n then _ else if n + 3 = n + 1 then _ else if n + 3 = n + 2 then _ else _) = _; rw [if_neg (by omega), if_neg (by omega), if_neg (by omega), if_neg (by omega)]
theorem layA_nx (h : i < n + 3) (v : Int) : (layA P T pg n bv al st).nx i v = .inl (i + 1) := if_pos h
theorem layA_end (v : Int) : (layA P T pg n bv al st).nx (n + 3) v = .inr 0 := if_neg (by omega)
theorem goneA_0 (h : i < n) : (goneA P T pg n).ac i = .put (Lay.pageAt P T 14 (pg + i)) 0 := if_pos h
theorem goneA_1 : (goneA P T pg n).ac n = .put (Lay.pageAt P T 9 pg) 0 := if_neg (by omega)
theorem goneA_nx (h : i < n) (v : Int) : (goneA P T pg n).nx i v = .inl (i + 1) := if_pos h
theorem goneA_end (v : Int) : (goneA P T pg n).nx n v = .inr 0 := if_neg (by omega)
theorem pageOk_k {P T p k : Int} (hm : Lay.may P T = true) (k0 : 9 ≤ k) (k1 : k < 15) (h0 : 0 ≤ p) (h1 : p < P) : Lay.pageOk P T k p = true := by
  unfold Lay.pageOk; rw [hm, Bool.true_and, decide_eq_true_eq]; omega
theorem pageAt_bd {P T p k : Int} (hm : Lay.may P T = true) (k0 : 9 ≤ k) (k1 : k < 15) (h0 : 0 ≤ p) (h1 : p < P) : 0 ≤ Lay.pageAt P T k p ∧ Lay.pageAt P T k p < Lay.words P T := by
  have hb := Lay.may_iff.1 hm
  have hmb := Lay.many_bd hb.1 hb.2.1
  have hw : Lay.words P T = 68 + 14 * T + 6 * P + 2 * Lay.many P := by simp [Lay.words, hm]
  unfold Lay.pageAt
  rw [hw]
  split <;> omega
end
section
variable {w wr : World} {mb bb sb sm rb fb : Nat} {P T pg : Int} {n : Nat} {s s0 s1 ss : StoreS} {x0 y : MS} {lg mkv : Value}
set_option maxHeartbeats 1000000 in
theorem qBase (cl ps : Int) (w : World) (h0 : 0 ≤ cl ∧ cl < 256) (h1 : 0 ≤ ps ∧ ps < 65536) : Calls Tryz.prog 143 #[.int .i64 cl, .int .i64 ps] w fun e w' => e = .returned (.int .u64 (256 * ps + cl)) ∧ w = w' := by
  have e1 : IntKind.i64.wrap (256 * ps) = 256 * ps := by rw [IntKind.wrap_i64]; omega
  have e2 : IntKind.i64.wrap (256 * ps + cl) = 256 * ps + cl := by rw [IntKind.wrap_i64]; omega
  have e3 : IntKind.u64.wrap (256 * ps + cl) = 256 * ps + cl := by rw [IntKind.wrap_u64]; omega
  go_enter Tryz.func143, Tryz.ntmps143
  go_wp2
  go_ret
  exact ⟨rfl, rfl⟩
theorem qStateL (g k : Int) (w : World) : Calls Tryz.prog 144 #[.int .i64 g, .int .i64 k] w fun e w' => e = .returned (.int .u64 (Ph.mk g k)) ∧ w = w' := by
  go_enter Tryz.func144, Tryz.ntmps144
  go_wp2_with (go_at_call 182; refine (r6State_any g k _).mono ?_; rintro e w1 ⟨rfl, rfl⟩)
  go_ret
  exact ⟨rfl, rfl⟩
set_option maxRecDepth 100000 in
set_option maxHeartbeats 8000000 in
theorem qLay {R : Option Int × MS × StoreS} {cl gn al st : Int} (h : Ra w wr mb bb sb sm rb fb P T lg mkv x0 s0 y ss) (hP : x0.P = P) (hT : x0.T = T) (hm : Lay.may P T = true) (h0 : 0 ≤ pg) (hn1 : 1 ≤ n) (h2 : pg + n ≤ P) (hc : 0 ≤ cl ∧ cl < 256) (ha : 0 ≤ al ∧ al < 18446744073709551616) (hst : Ph.mk gn 2 = st) (hlen : s0.ws.length = (Lay.words P T).toNat) (hf : x0.room < 100000) (hR : (layA P T pg n (256 * n + cl) al st).go 0 y ss = R) :
    Calls Tryz.prog 108 #[.pointer (some ⟨mb, 0, none⟩), .int .i64 pg, .int .i64 cl, .int .i64 n, .int .i64 gn, .int .u64 al] wr fun e w' => e = .returned (.bool R.1.isSome) ∧ ∃ mk, Ra w w' mb bb sb sm rb fb P T lg mk x0 s0 R.2.1 R.2.2 := by
  have hb := Lay.may_iff.1 hm
  have HPT := Lib.hid (And.intro hP hT); have HF := Lib.hid hf; have H0 := Lib.hid h; have HRS := Lib.hid hR
  have INR : Hid (∀ k p, 9 ≤ k → k < 15 → 0 ≤ p → p < P → s0.inR (Lay.pageAt P T k p)) := Lib.hid (fun k p k0 k1 p0 p1 => by have := pageAt_bd hm k0 k1 p0 p1; exact ⟨this.1, by rw [hlen]; omega⟩)
  have HOK : Hid (∀ k p, 9 ≤ k → k < 15 → 0 ≤ p → p < P → Lay.pageOk P T k p = true) := Lib.hid (fun k p k0 k1 p0 p1 => pageOk_k hm k0 k1 p0 p1)
  have hP4 : P ≤ 4096 := hb.2.1
  have HST := Lib.hid hst
  have HSB : Hid (0 ≤ st ∧ st < 18446744073709551616) := Lib.hid (by rw [← hst]; exact Ph.mk_bd gn 2)
  clear hst
  have hwe : IntKind.i64.wrap (pg + n) = pg + n := by rw [IntKind.wrap_i64]; omega
  have hw1 : IntKind.i64.wrap (pg + 1) = pg + 1 := by rw [IntKind.wrap_i64]; omega
  have hw2 : IntKind.u64.wrap (pg + 1) = pg + 1 := by rw [IntKind.wrap_u64]; omega
  clear h hR hm hb hP hT hf hlen
  go_enter Tryz.func108, Tryz.ntmps108
  go_wp2_with fail
  go_loopg [13, 14, 15] (n + 1) (fun gg a _ _ wq => ∃ (j : Nat) (z : MS) (sz : StoreS) (mk : Value), j ≤ n ∧ n - j < gg ∧ a = .int .i64 (pg + j) ∧ Hid (Ra w wq mb bb sb sm rb fb P T lg mk x0 s0 z sz) ∧ Hid ((layA P T pg n (256 * n + cl) al st).go j z sz = R))
  case atStart => exact ⟨0, y, ss, mkv, by omega, by omega, by simp, H0, HRS⟩
  case round =>
    clear H0 HRS
    obtain ⟨j, z, sz, mk0, hj, hg, rfl, H0, HT⟩ := hrel
    obtain ⟨g1, rfl⟩ : ∃ g1, gk = g1 + 1 := ⟨gk - 1, by omega⟩
    have hwj : IntKind.i64.wrap (pg + j + 1) = pg + j + 1 := by rw [IntKind.wrap_i64]; omega
    by_cases c1 : j < n
    · have g2 : pg + (j : Int) < pg + n := by omega
      obtain ⟨A14, hA14⟩ : ∃ a, Lay.pageAt P T 14 (pg + j) = a := ⟨_, rfl⟩
      have HAT := Lib.hid hA14
      have HIN : Hid (s0.inR A14) := Lib.hid (by rw [← hA14]; exact INR.out 14 _ (by omega) (by omega) (by omega) (by omega))
      have HO := Lib.hid (HOK.out 14 (pg + j) (by omega) (by omega) (by omega) (by omega))
      obtain ⟨o1, z1, s1, hr1⟩ : ∃ (o : Option Int) (z1 : MS) (s1 : StoreS), z.acc (.put A14 (pg + 1)) sz = (o, z1, s1) := ⟨_, _, _, rfl⟩
      have hr1' : z.acc ((layA P T pg n (256 * n + cl) al st).ac j) sz = (o1, z1, s1) := by rw [layA_0 c1, hA14]; exact hr1
      have HR1 := Lib.hid hr1
      rcases o1 with _ | v
      · have HT1 := Lib.hid (HT.out.symm.trans (Aut.go_off hr1')).symm
        clear hr1 hr1' hA14
        go_wp2_with (first
          | (go_at_call 136; with_reducible refine (qWord (k := 14) (p := pg + j) H0.out HPT.out.1 HPT.out.2 HO.out HAT.out).mono ?_; rintro e v1 ⟨rfl, hm1⟩; have H1 := Lib.hid hm1; clear hm1)
          | (go_at_call 107; with_reducible refine (qPut H1.out HIN.out HF.out (by omega) HR1.out).mono ?_; rintro e v2 ⟨rfl, hm2⟩; have H2 := Lib.hid hm2; clear hm2))
        go_ret
        rw [← HT1.out]
        exact ⟨rfl, _, H2.out⟩
      · have HT1 := Lib.hid (HT.out.symm.trans (Aut.go_on hr1' (layA_nx (by omega) v))).symm
        clear hr1 hr1' hA14
        go_wp2_with (first
          | (go_at_call 136; with_reducible refine (qWord (k := 14) (p := pg + j) H0.out HPT.out.1 HPT.out.2 HO.out HAT.out).mono ?_; rintro e v1 ⟨rfl, hm1⟩; have H1 := Lib.hid hm1; clear hm1)
          | (go_at_call 107; with_reducible refine (qPut H1.out HIN.out HF.out (by omega) HR1.out).mono ?_; rintro e v2 ⟨rfl, hm2⟩; have H2 := Lib.hid hm2; clear hm2))
        go_roundg g1
        case rel => exact ⟨j + 1, z1, s1, _, by omega, by omega, by go_num, H2, Lib.hid HT1.out⟩
        case measure => omega
    · obtain rfl : j = n := by omega
      have g2 : ¬ pg + (j : Int) < pg + j := by omega
      clear hwj
      obtain ⟨B1, hB1⟩ : ∃ a, Lay.pageAt P T 10 pg = a := ⟨_, rfl⟩
      have HB1 := Lib.hid hB1
      have HI1 : Hid (s0.inR B1) := Lib.hid (by rw [← hB1]; exact INR.out 10 _ (by omega) (by omega) (by omega) (by omega))
      have HO1 := Lib.hid (HOK.out 10 pg (by omega) (by omega) (by omega) (by omega))
      obtain ⟨o1, z1, s1, hr1⟩ : ∃ (oo : Option Int) (zz : MS) (sy : StoreS), z.acc (.put B1 (256 * j + cl)) sz = (oo, zz, sy) := ⟨_, _, _, rfl⟩
      have hq1 : z.acc ((layA P T pg j (256 * j + cl) al st).ac j) sz = (o1, z1, s1) := by rw [layA_1, hB1]; exact hr1
      have HR1 := Lib.hid hr1; have HQ1 := Lib.hid hq1
      clear hr1 hq1 hB1
      rcases o1 with _ | v1x
      · have HT1 := Lib.hid (HT.out.symm.trans (Aut.go_off HQ1.out)).symm
        go_wp2_with (first
          | (go_at_call 136; with_reducible refine (qWord (k := 10) (p := pg) H0.out HPT.out.1 HPT.out.2 HO1.out HB1.out).mono ?_; rintro e v1 ⟨rfl, hm1⟩; have H1 := Lib.hid hm1; clear hm1)
          | (go_at_call 143; with_reducible refine (qBase cl j _ hc (by omega)).mono ?_; rintro e vp ⟨rfl, rfl⟩)
          | (go_at_call 107; with_reducible refine (qPut H1.out HI1.out HF.out (by omega) HR1.out).mono ?_; rintro e v2 ⟨rfl, hm2⟩; have H2 := Lib.hid hm2; clear hm2))
        go_ret
        rw [← HT1.out]
        exact ⟨rfl, _, H2.out⟩
      · have HT1 := Lib.hid (HT.out.symm.trans (Aut.go_on HQ1.out (layA_nx (by omega) v1x)))
        obtain rfl := H0.out.nil HR1.out
        obtain ⟨B2, hB2⟩ : ∃ a, Lay.pageAt P T 12 pg = a := ⟨_, rfl⟩
        have HB2 := Lib.hid hB2
        have HI2 : Hid (s0.inR B2) := Lib.hid (by rw [← hB2]; exact INR.out 12 _ (by omega) (by omega) (by omega) (by omega))
        have HO2 := Lib.hid (HOK.out 12 pg (by omega) (by omega) (by omega) (by omega))
        obtain ⟨o2, z2, s2, hr2⟩ : ∃ (oo : Option Int) (zz : MS) (sy : StoreS), z1.acc (.put B2 al) s1 = (oo, zz, sy) := ⟨_, _, _, rfl⟩
        have hq2 : z1.acc ((layA P T pg j (256 * j + cl) al st).ac (j + 1)) s1 = (o2, z2, s2) := by rw [layA_2, hB2]; exact hr2
        have HR2 := Lib.hid hr2; have HQ2 := Lib.hid hq2
        clear hr2 hq2 hB2
        rcases o2 with _ | v2x
        · have HT2 := Lib.hid (HT1.out.trans (Aut.go_off HQ2.out)).symm
          go_wp2_with (first
            | (go_at_call 136; with_reducible refine (qWord (k := 10) (p := pg) H0.out HPT.out.1 HPT.out.2 HO1.out HB1.out).mono ?_; rintro e v1 ⟨rfl, hm1⟩; have H1 := Lib.hid hm1; clear hm1)
            | (go_at_call 143; with_reducible refine (qBase cl j _ hc (by omega)).mono ?_; rintro e vp ⟨rfl, rfl⟩)
            | (go_at_call 107; with_reducible refine (qPut H1.out HI1.out HF.out (by omega) HR1.out).mono ?_; rintro e v2 ⟨rfl, hm2⟩; have H2 := Lib.hid hm2; clear hm2)
            | (go_at_call 136; with_reducible refine (qWord (k := 12) (p := pg) H2.out HPT.out.1 HPT.out.2 HO2.out HB2.out).mono ?_; rintro e v3 ⟨rfl, hm3⟩; have H3 := Lib.hid hm3; clear hm3)
            | (go_at_call 107; with_reducible refine (qPut H3.out HI2.out HF.out ha HR2.out).mono ?_; rintro e v4 ⟨rfl, hm4⟩; have H4 := Lib.hid hm4; clear hm4))
          go_ret
          rw [← HT2.out]
          exact ⟨rfl, _, H4.out⟩
        · have HT2 := Lib.hid (HT1.out.trans (Aut.go_on HQ2.out (layA_nx (by omega) v2x)))
          obtain ⟨B3, hB3⟩ : ∃ a, Lay.pageAt P T 13 pg = a := ⟨_, rfl⟩
          have HB3 := Lib.hid hB3
          have HI3 : Hid (s0.inR B3) := Lib.hid (by rw [← hB3]; exact INR.out 13 _ (by omega) (by omega) (by omega) (by omega))
          have HO3 := Lib.hid (HOK.out 13 pg (by omega) (by omega) (by omega) (by omega))
          obtain ⟨o3, z3, s3, hr3⟩ : ∃ (oo : Option Int) (zz : MS) (sy : StoreS), z2.acc (.put B3 0) s2 = (oo, zz, sy) := ⟨_, _, _, rfl⟩
          have hq3 : z2.acc ((layA P T pg j (256 * j + cl) al st).ac (j + 2)) s2 = (o3, z3, s3) := by rw [layA_3, hB3]; exact hr3
          have HR3 := Lib.hid hr3; have HQ3 := Lib.hid hq3
          clear hr3 hq3 hB3
          rcases o3 with _ | v3x
          · have HT3 := Lib.hid (HT2.out.trans (Aut.go_off HQ3.out)).symm
            go_wp2_with (first
              | (go_at_call 136; with_reducible refine (qWord (k := 10) (p := pg) H0.out HPT.out.1 HPT.out.2 HO1.out HB1.out).mono ?_; rintro e v1 ⟨rfl, hm1⟩; have H1 := Lib.hid hm1; clear hm1)
              | (go_at_call 143; with_reducible refine (qBase cl j _ hc (by omega)).mono ?_; rintro e vp ⟨rfl, rfl⟩)
              | (go_at_call 107; with_reducible refine (qPut H1.out HI1.out HF.out (by omega) HR1.out).mono ?_; rintro e v2 ⟨rfl, hm2⟩; have H2 := Lib.hid hm2; clear hm2)
              | (go_at_call 136; with_reducible refine (qWord (k := 12) (p := pg) H2.out HPT.out.1 HPT.out.2 HO2.out HB2.out).mono ?_; rintro e v3 ⟨rfl, hm3⟩; have H3 := Lib.hid hm3; clear hm3)
              | (go_at_call 107; with_reducible refine (qPut H3.out HI2.out HF.out ha HR2.out).mono ?_; rintro e v4 ⟨rfl, hm4⟩; have H4 := Lib.hid hm4; clear hm4)
              | (go_at_call 136; with_reducible refine (qWord (k := 13) (p := pg) H4.out HPT.out.1 HPT.out.2 HO3.out HB3.out).mono ?_; rintro e v5 ⟨rfl, hm5⟩; have H5 := Lib.hid hm5; clear hm5)
              | (go_at_call 107; with_reducible refine (qPut H5.out HI3.out HF.out (by omega) HR3.out).mono ?_; rintro e v6 ⟨rfl, hm6⟩; have H6 := Lib.hid hm6; clear hm6))
            go_ret
            rw [← HT3.out]
            exact ⟨rfl, _, H6.out⟩
          · have HT3 := Lib.hid (HT2.out.trans (Aut.go_on HQ3.out (layA_nx (by omega) v3x)))
            obtain ⟨B4, hB4⟩ : ∃ a, Lay.pageAt P T 9 pg = a := ⟨_, rfl⟩
            have HB4 := Lib.hid hB4
            have HI4 : Hid (s0.inR B4) := Lib.hid (by rw [← hB4]; exact INR.out 9 _ (by omega) (by omega) (by omega) (by omega))
            have HO4 := Lib.hid (HOK.out 9 pg (by omega) (by omega) (by omega) (by omega))
            obtain ⟨o4, z4, s4, hr4⟩ : ∃ (oo : Option Int) (zz : MS) (sy : StoreS), z3.acc (.put B4 st) s3 = (oo, zz, sy) := ⟨_, _, _, rfl⟩
            have hq4 : z3.acc ((layA P T pg j (256 * j + cl) al st).ac (j + 3)) s3 = (o4, z4, s4) := by rw [layA_4, hB4]; exact hr4
            have HR4 := Lib.hid hr4; have HQ4 := Lib.hid hq4
            clear hr4 hq4 hB4
            rcases o4 with _ | v4x
            · have HT4 := Lib.hid (HT3.out.trans (Aut.go_off HQ4.out)).symm
              go_wp2_with (first
                | (go_at_call 136; with_reducible refine (qWord (k := 10) (p := pg) H0.out HPT.out.1 HPT.out.2 HO1.out HB1.out).mono ?_; rintro e v1 ⟨rfl, hm1⟩; have H1 := Lib.hid hm1; clear hm1)
                | (go_at_call 143; with_reducible refine (qBase cl j _ hc (by omega)).mono ?_; rintro e vp ⟨rfl, rfl⟩)
                | (go_at_call 107; with_reducible refine (qPut H1.out HI1.out HF.out (by omega) HR1.out).mono ?_; rintro e v2 ⟨rfl, hm2⟩; have H2 := Lib.hid hm2; clear hm2)
                | (go_at_call 136; with_reducible refine (qWord (k := 12) (p := pg) H2.out HPT.out.1 HPT.out.2 HO2.out HB2.out).mono ?_; rintro e v3 ⟨rfl, hm3⟩; have H3 := Lib.hid hm3; clear hm3)
                | (go_at_call 107; with_reducible refine (qPut H3.out HI2.out HF.out ha HR2.out).mono ?_; rintro e v4 ⟨rfl, hm4⟩; have H4 := Lib.hid hm4; clear hm4)
                | (go_at_call 136; with_reducible refine (qWord (k := 13) (p := pg) H4.out HPT.out.1 HPT.out.2 HO3.out HB3.out).mono ?_; rintro e v5 ⟨rfl, hm5⟩; have H5 := Lib.hid hm5; clear hm5)
                | (go_at_call 107; with_reducible refine (qPut H5.out HI3.out HF.out (by omega) HR3.out).mono ?_; rintro e v6 ⟨rfl, hm6⟩; have H6 := Lib.hid hm6; clear hm6)
                | (go_at_call 136; with_reducible refine (qWord (k := 9) (p := pg) H6.out HPT.out.1 HPT.out.2 HO4.out HB4.out).mono ?_; rintro e v7 ⟨rfl, hm7⟩; have H7 := Lib.hid hm7; clear hm7)
                | (go_at_call 144; with_reducible refine (qStateL gn 2 _).mono ?_; rintro e vp ⟨rfl, rfl⟩; rw [HST.out])
                | (go_at_call 107; with_reducible refine (qPut H7.out HI4.out HF.out HSB.out HR4.out).mono ?_; rintro e v8 ⟨rfl, hm8⟩; have H8 := Lib.hid hm8; clear hm8))
              go_ret
              rw [← HT4.out]
              exact ⟨rfl, _, H8.out⟩
            · have HT4 := Lib.hid (HT3.out.trans (Aut.go_end HQ4.out (layA_end v4x))).symm
              go_upto_region 19 with (first
                | (go_at_call 136; with_reducible refine (qWord (k := 10) (p := pg) H0.out HPT.out.1 HPT.out.2 HO1.out HB1.out).mono ?_; rintro e v1 ⟨rfl, hm1⟩; have H1 := Lib.hid hm1; clear hm1)
                | (go_at_call 143; with_reducible refine (qBase cl j _ hc (by omega)).mono ?_; rintro e vp ⟨rfl, rfl⟩)
                | (go_at_call 107; with_reducible refine (qPut H1.out HI1.out HF.out (by omega) HR1.out).mono ?_; rintro e v2 ⟨rfl, hm2⟩; have H2 := Lib.hid hm2; clear hm2)
                | (go_at_call 136; with_reducible refine (qWord (k := 12) (p := pg) H2.out HPT.out.1 HPT.out.2 HO2.out HB2.out).mono ?_; rintro e v3 ⟨rfl, hm3⟩; have H3 := Lib.hid hm3; clear hm3)
                | (go_at_call 107; with_reducible refine (qPut H3.out HI2.out HF.out ha HR2.out).mono ?_; rintro e v4 ⟨rfl, hm4⟩; have H4 := Lib.hid hm4; clear hm4)
                | (go_at_call 136; with_reducible refine (qWord (k := 13) (p := pg) H4.out HPT.out.1 HPT.out.2 HO3.out HB3.out).mono ?_; rintro e v5 ⟨rfl, hm5⟩; have H5 := Lib.hid hm5; clear hm5)
                | (go_at_call 107; with_reducible refine (qPut H5.out HI3.out HF.out (by omega) HR3.out).mono ?_; rintro e v6 ⟨rfl, hm6⟩; have H6 := Lib.hid hm6; clear hm6)
                | (go_at_call 136; with_reducible refine (qWord (k := 9) (p := pg) H6.out HPT.out.1 HPT.out.2 HO4.out HB4.out).mono ?_; rintro e v7 ⟨rfl, hm7⟩; have H7 := Lib.hid hm7; clear hm7)
                | (go_at_call 144; with_reducible refine (qStateL gn 2 _).mono ?_; rintro e vp ⟨rfl, rfl⟩; rw [HST.out])
                | (go_at_call 107; with_reducible refine (qPut H7.out HI4.out HF.out HSB.out HR4.out).mono ?_; rintro e v8 ⟨rfl, hm8⟩; have H8 := Lib.hid hm8; clear hm8))
              go_wp2_with (go_at_call 139; refine (qMark H8.out).mono ?_; rintro e vm ⟨rfl, mkm, hmm⟩)
              go_ret
              rw [← HT4.out]
              exact ⟨rfl, _, hmm⟩
set_option maxRecDepth 100000 in
set_option maxHeartbeats 8000000 in
theorem qGone {R : Option Int × MS × StoreS} (h : Ra w wr mb bb sb sm rb fb P T lg mkv x0 s0 y ss) (hP : x0.P = P) (hT : x0.T = T) (hm : Lay.may P T = true) (h0 : 0 ≤ pg) (hn1 : 1 ≤ n) (h2 : pg + n ≤ P) (hlen : s0.ws.length = (Lay.words P T).toNat) (hf : x0.room < 100000) (hR : (goneA P T pg n).go 0 y ss = R) :
    Calls Tryz.prog 109 #[.pointer (some ⟨mb, 0, none⟩), .int .i64 pg, .int .i64 n] wr fun e w' => e = .returned (.bool R.1.isSome) ∧ ∃ mk, Ra w w' mb bb sb sm rb fb P T lg mk x0 s0 R.2.1 R.2.2 := by
  have hb := Lay.may_iff.1 hm
  have HPT := Lib.hid (And.intro hP hT); have HF := Lib.hid hf; have H0 := Lib.hid h; have HRS := Lib.hid hR
  have INR : Hid (∀ k p, 9 ≤ k → k < 15 → 0 ≤ p → p < P → s0.inR (Lay.pageAt P T k p)) := Lib.hid (fun k p k0 k1 p0 p1 => by have := pageAt_bd hm k0 k1 p0 p1; exact ⟨this.1, by rw [hlen]; omega⟩)
  have HOK : Hid (∀ k p, 9 ≤ k → k < 15 → 0 ≤ p → p < P → Lay.pageOk P T k p = true) := Lib.hid (fun k p k0 k1 p0 p1 => pageOk_k hm k0 k1 p0 p1)
  have hP4 : P ≤ 4096 := hb.2.1
  have hwe : IntKind.i64.wrap (pg + n) = pg + n := by rw [IntKind.wrap_i64]; omega
  clear h hR hm hb hP hT hf hlen
  go_enter Tryz.func109, Tryz.ntmps109
  go_wp2_with fail
  go_loopg [7, 8, 9] (n + 1) (fun gg a _ _ wq => ∃ (j : Nat) (z : MS) (sz : StoreS) (mk : Value), j ≤ n ∧ n - j < gg ∧ a = .int .i64 (pg + j) ∧ Hid (Ra w wq mb bb sb sm rb fb P T lg mk x0 s0 z sz) ∧ Hid ((goneA P T pg n).go j z sz = R))
  case atStart => exact ⟨0, y, ss, mkv, by omega, by omega, by simp, H0, HRS⟩
  case round =>
    clear H0 HRS
    obtain ⟨j, z, sz, mk0, hj, hg, rfl, H0, HT⟩ := hrel
    obtain ⟨g1, rfl⟩ : ∃ g1, gk = g1 + 1 := ⟨gk - 1, by omega⟩
    have hwj : IntKind.i64.wrap (pg + j + 1) = pg + j + 1 := by rw [IntKind.wrap_i64]; omega
    by_cases c1 : j < n
    · have g2 : pg + (j : Int) < pg + n := by omega
      obtain ⟨A14, hA14⟩ : ∃ a, Lay.pageAt P T 14 (pg + j) = a := ⟨_, rfl⟩
      have HAT := Lib.hid hA14
      have HIN : Hid (s0.inR A14) := Lib.hid (by rw [← hA14]; exact INR.out 14 _ (by omega) (by omega) (by omega) (by omega))
      have HO := Lib.hid (HOK.out 14 (pg + j) (by omega) (by omega) (by omega) (by omega))
      obtain ⟨o1, z1, s1, hr1⟩ : ∃ (o : Option Int) (z1 : MS) (s1 : StoreS), z.acc (.put A14 0) sz = (o, z1, s1) := ⟨_, _, _, rfl⟩
      have hr1' : z.acc ((goneA P T pg n).ac j) sz = (o1, z1, s1) := by rw [goneA_0 c1, hA14]; exact hr1
      have HR1 := Lib.hid hr1
      rcases o1 with _ | v
      · have HT1 := Lib.hid (HT.out.symm.trans (Aut.go_off hr1')).symm
        clear hr1 hr1' hA14
        go_wp2_with (first
          | (go_at_call 136; with_reducible refine (qWord (k := 14) (p := pg + j) H0.out HPT.out.1 HPT.out.2 HO.out HAT.out).mono ?_; rintro e v1 ⟨rfl, hm1⟩; have H1 := Lib.hid hm1; clear hm1)
          | (go_at_call 107; with_reducible refine (qPut H1.out HIN.out HF.out (by omega) HR1.out).mono ?_; rintro e v2 ⟨rfl, hm2⟩; have H2 := Lib.hid hm2; clear hm2))
        go_ret
        rw [← HT1.out]
        exact ⟨rfl, _, H2.out⟩
      · have HT1 := Lib.hid (HT.out.symm.trans (Aut.go_on hr1' (goneA_nx (by omega) v))).symm
        clear hr1 hr1' hA14
        go_wp2_with (first
          | (go_at_call 136; with_reducible refine (qWord (k := 14) (p := pg + j) H0.out HPT.out.1 HPT.out.2 HO.out HAT.out).mono ?_; rintro e v1 ⟨rfl, hm1⟩; have H1 := Lib.hid hm1; clear hm1)
          | (go_at_call 107; with_reducible refine (qPut H1.out HIN.out HF.out (by omega) HR1.out).mono ?_; rintro e v2 ⟨rfl, hm2⟩; have H2 := Lib.hid hm2; clear hm2))
        go_roundg g1
        case rel => exact ⟨j + 1, z1, s1, _, by omega, by omega, by go_num, H2, Lib.hid HT1.out⟩
        case measure => omega
    · obtain rfl : j = n := by omega
      have g2 : ¬ pg + (j : Int) < pg + j := by omega
      clear hwj
      obtain ⟨B1, hB1⟩ : ∃ a, Lay.pageAt P T 9 pg = a := ⟨_, rfl⟩
      have HB1 := Lib.hid hB1
      have HI1 : Hid (s0.inR B1) := Lib.hid (by rw [← hB1]; exact INR.out 9 _ (by omega) (by omega) (by omega) (by omega))
      have HO1 := Lib.hid (HOK.out 9 pg (by omega) (by omega) (by omega) (by omega))
      obtain ⟨o1, z1, s1, hr1⟩ : ∃ (oo : Option Int) (zz : MS) (sy : StoreS), z.acc (.put B1 0) sz = (oo, zz, sy) := ⟨_, _, _, rfl⟩
      have hq1 : z.acc ((goneA P T pg j).ac j) sz = (o1, z1, s1) := by rw [goneA_1, hB1]; exact hr1
      have HR1 := Lib.hid hr1; have HQ1 := Lib.hid hq1
      clear hr1 hq1 hB1
      rcases o1 with _ | v1x
      · have HT1 := Lib.hid (HT.out.symm.trans (Aut.go_off HQ1.out)).symm
        go_wp2_with (first
          | (go_at_call 136; with_reducible refine (qWord (k := 9) (p := pg) H0.out HPT.out.1 HPT.out.2 HO1.out HB1.out).mono ?_; rintro e v1 ⟨rfl, hm1⟩; have H1 := Lib.hid hm1; clear hm1)
          | (go_at_call 107; with_reducible refine (qPut H1.out HI1.out HF.out (by omega) HR1.out).mono ?_; rintro e v2 ⟨rfl, hm2⟩; have H2 := Lib.hid hm2; clear hm2))
        go_ret
        rw [← HT1.out]
        exact ⟨rfl, _, H2.out⟩
      · have HT1 := Lib.hid (HT.out.symm.trans (Aut.go_end HQ1.out (goneA_end v1x))).symm
        obtain rfl := H0.out.nil HR1.out
        go_upto_region 10 with (first
          | (go_at_call 136; with_reducible refine (qWord (k := 9) (p := pg) H0.out HPT.out.1 HPT.out.2 HO1.out HB1.out).mono ?_; rintro e v1 ⟨rfl, hm1⟩; have H1 := Lib.hid hm1; clear hm1)
          | (go_at_call 107; with_reducible refine (qPut H1.out HI1.out HF.out (by omega) HR1.out).mono ?_; rintro e v2 ⟨rfl, hm2⟩; have H2 := Lib.hid hm2; clear hm2))
        go_wp2_with (go_at_call 139; refine (qMark H2.out).mono ?_; rintro e vm ⟨rfl, mkm, hmm⟩)
        go_ret
        rw [← HT1.out]
        exact ⟨rfl, _, hmm⟩
end
end Go.Proofs.YtbepbcjklgfmjaaGreatDoor

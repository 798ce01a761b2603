/- RunsRuns: its walk. By an AI agent. -/
import Derived.Test.YtbijbpnhakbeeaaDocPair
namespace Go.Proofs.Ytbijbpnhakbeeaa
open Go.RowKit
set_option maxRecDepth 100000 in
set_option maxHeartbeats 8000000 in
theorem runsRuns_law (p : Int) (w0 : (Lit.int .u8 p).wf = true) (a1 : Option Addr) (l1 c1 : Nat) (z1 : List Int) (a2 : Option Addr) (l2 c2 : Nat) (z2 : List Int) (w : World) (h1 : IsRow .u8 w a1 l1 c1 z1) (h2 : IsRow .u8 w a2 l2 c2 z2) :
    Calls Try.prog 8 #[.int .u8 p, .slice a1 l1 c1, .slice a2 l2 c2] w fun e w' => e = .returned (.bool true) ∧ Below w.heap.size w w' := by
  obtain ⟨p0, p1⟩ := bd_u8 w0
  have HD1 := Lib.hid (fun W (ho : Adds w W) => draws_any (rowK_adds h1 ho))
  have HZ := Lib.hid h2
  obtain ⟨hlc, hc63⟩ := rows_len h2
  obtain ⟨P, hP⟩ : ∃ P, 1 + p % 100 = P := ⟨_, rfl⟩
  have hP1 : 1 ≤ P := by omega
  have hP2 : P ≤ 100 := by omega
  have hPz : P ≠ 0 := by omega
  have HPN := Lib.hid (show ((P.toNat : Nat) : Int) = P by omega)
  obtain ⟨ds, hds⟩ : ∃ ds, (List.range (min l1 60)).map (fun i => drawZ (z1.getD i 0)) = ds := ⟨_, rfl⟩
  rw [hds] at HD1
  clear h1 h2 w0 hds
  go_enter Try.func8, Try.ntmps8
  go_wp2_with fail
  refine (HD1.out w (Only.refl _ _)).mono ?_; rintro e u1 ⟨dv, rfl, ⟨n1, hn1, hrow⟩, ho1⟩
  have hdl : ds.length ≤ 60 := by have := hrow.1; simp at this; omega
  have hdr := Draws.row hrow
  have HDR := Lib.hid hdr; have HO1 := Lib.hid ho1
  clear hrow hdr ho1
  go_wp2_with fail
  refine (new_any P hP1 (by omega) HDR.out (by omega)).mono ?_
  rintro e u2 ⟨s0, rfl, h0, hn0, ho2, hfr⟩
  have HS0 := Lib.hid h0; have HN0 := Lib.hid hn0; have HO2 := Lib.hid ho2; have HFR := Lib.hid hfr
  clear h0 hn0 ho2 hfr
  go_wp2_with fail
  refine (HD1.out u2 (HO1.out.thenF HO2.out)).mono ?_; rintro e u3 ⟨dv2, rfl, ⟨n2, hn2, hrow⟩, ho3⟩
  have hdr := Draws.row hrow
  have HDR2 := Lib.hid hdr; have HO3 := Lib.hid ho3
  clear hrow hdr ho3
  have hnew := new9_any P.toNat (by omega) (by omega) HDR2.out (by omega)
  rw [HPN.out] at hnew
  have HNEW := Lib.hid hnew
  clear hnew
  go_wp2_with fail
  refine HNEW.out.mono ?_
  rintro e u4 ⟨d0, rfl, h0, hn0, ho4, hfr⟩
  have HP0 := Lib.hid (show Pair w u4 P s0 d0 from Pair.start (n := P.toNat) (by omega) HPN.out HO1.out HS0.out (by rw [HPN.out]; exact HN0.out) HO2.out HFR.out HO3.out h0 hn0 ho4 hfr)
  have hdn0 : s0.dn = 1 := HN0.out.edn
  clear h0 hn0 ho4 hfr HS0 HN0 HO2 HFR HO3 HDR HDR2 HD1 HNEW HO1
  go_wp2_with fail
  go_loopg [10] 363 (fun kx v wr => ∃ (k : Nat) (s : RS) (d : DS), v = .int .i64 k ∧ k ≤ 362 ∧ 362 - k ≤ kx ∧ Hid (Pair w wr P s d) ∧ s.rb = s0.rb ∧ d.rb = d0.rb ∧ s.dn ≤ 1 + k)
  case atStart => exact ⟨0, s0, d0, rfl, by omega, by omega, HP0, rfl, rfl, by omega⟩
  case round =>
    obtain ⟨k, s, d, rfl, hk, hkx, HT, hrb, hrb2, hdn⟩ := hrel
    have hk4 : k < 1000000 := by omega
    by_cases g1 : k + 2 < l2
    · by_cases g2 : k < 360
      · obtain ⟨b, off, rfl, hb, hc, hcw⟩ := rows_at HZ.out (show k < l2 by omega)
        obtain ⟨b', off', hbb, hb', hc', hcw'⟩ := rows_at HZ.out (show k + 1 < l2 by omega)
        cases hbb
        obtain ⟨b', off', hbb, hb'', hc'', hcw''⟩ := rows_at HZ.out g1
        cases hbb
        obtain ⟨z, hx⟩ : ∃ z, z = z2.getD k 0 := ⟨_, rfl⟩
        obtain ⟨y, hy⟩ : ∃ y, y = z2.getD (k + 1) 0 := ⟨_, rfl⟩
        obtain ⟨u, hu⟩ : ∃ u, u = z2.getD (k + 2) 0 := ⟨_, rfl⟩
        rw [← hx] at hc hcw
        rw [← hy] at hc' hcw'
        rw [← hu] at hc'' hcw''
        have d0' := cell_al hc HT.out.fs.adds
        have d1' := cell_al hc' HT.out.fs.adds
        have d2' := cell_al hc'' HT.out.fs.adds
        obtain ⟨hz1', hz2'⟩ := bd_u8 hcw
        obtain ⟨hy1', hy2'⟩ := bd_u8 hcw'
        obtain ⟨hu1', hu2'⟩ := bd_u8 hcw''
        have hi5 : k < l2 := by omega
        have hi1 : (0 : Int) ≤ (k : Int) + 1 := by omega
        have hi2 : (k : Int) + 1 < (l2 : Int) := by omega
        have hi3 : ((k : Int) + 1).toNat = k + 1 := by omega
        have hi6 : (0 : Int) ≤ (k : Int) + 2 := by omega
        have hi7 : (k : Int) + 2 < (l2 : Int) := by omega
        have hi8 : ((k : Int) + 2).toNat = k + 2 := by omega
        obtain ⟨q, hq⟩ : ∃ q, 1 + y % 12 = q := ⟨_, rfl⟩
        clear hx hy hcw hcw' hu hcw''
        have hw1 := wrap_succ k hk4
        have hw3 := wrap_two k hk4
        obtain ⟨hw4, -, -⟩ := wrap_three k hk4
        go_wp2_with fail
        go_quiet ((fail))
        have HTQ := Lib.hid (HT.out.keep ((Only.refl (fun _ => False) wr).drewN nq))
        have hk12 : (12 : Int) ≠ 0 := by decide
        have hdnq : s.dn < 1000000 := by omega
        by_cases g3 : z % 2 = 0
        · go_wp2_with fail
          rw [← hrb]
          refine (take_any HTQ.out.fs.is q hdnq).mono ?_
          rintro e w3 ⟨at_, c, s', rfl, ht, i3, m3⟩
          have HI3 := Lib.hid i3; have HM3 := Lib.hid m3; have HT3 := Lib.hid ht
          clear i3 m3 ht
          go_wp2_with fail
          rw [← hrb2]
          refine (take9_any (HTQ.out.keepD HM3.out) q (fun h => HTQ.out.sim.askT HTQ.out.fs.is.ok q h) (by rw [HTQ.out.dn]; exact hdnq) HTQ.out.il).mono ?_
          rintro e w4 ⟨at2, cc, d', rfl, ht2, i4, m4⟩
          obtain ⟨rfl, rfl, hsim⟩ := HTQ.out.sim.take HTQ.out.fs.is.ok HT3.out ht2
          have HT4 := Lib.hid (HTQ.out.both HI3.out HM3.out i4 m4 hsim)
          have hr3 := HM3.out.rb.trans hrb; have hr4 := m4.rb.trans hrb2; have hdn3 := take_dn HT3.out
          clear HI3 HM3 HT3 i4 m4 ht2 hsim HTQ
          by_cases g5 : (k : Int) % 12 = 0
          · go_wp2_with (go_at_call 41; rw [← hr3, ← hr4]; refine (same10_any HT4.out.fs.is HT4.out.dd HT4.out.sim).mono ?_; rintro e w5 ⟨rfl, o5⟩; have HT5 := Lib.hid (HT4.out.keep o5); clear o5)
            go_roundg (362 - (k + 3))
            case measure => omega
            case rel => exact ⟨k + 3, s', d', by simp, by omega, Nat.le_refl _, HT5, hr3, hr4, by omega⟩
          · go_wp2_with fail
            go_roundg (362 - (k + 3))
            case measure => omega
            case rel => exact ⟨k + 3, s', d', by simp, by omega, Nat.le_refl _, HT4, hr3, hr4, by omega⟩
        · have g4 : z % 2 = 1 := by omega
          go_wp2_with fail
          rw [← hrb]
          refine (free_any HTQ.out.fs.is (u % P) q hdnq).mono ?_
          rintro e w3 ⟨c, s', rfl, ht, i3, m3⟩
          have HI3 := Lib.hid i3; have HM3 := Lib.hid m3; have HT3 := Lib.hid ht
          clear i3 m3 ht
          go_wp2_with fail
          rw [← hrb2]
          refine (give9_any (HTQ.out.keepD HM3.out) (u % P) q (HTQ.out.sim.askG HTQ.out.fs.is.ok HT3.out) (by rw [HTQ.out.dn]; exact hdnq) HTQ.out.il).mono ?_
          rintro e w4 ⟨cc, d', rfl, ht2, i4, m4⟩
          obtain ⟨rfl, hsim⟩ := HTQ.out.sim.give HTQ.out.fs.is.ok HT3.out ht2
          have HT4 := Lib.hid (HTQ.out.both HI3.out HM3.out i4 m4 hsim)
          have hr3 := HM3.out.rb.trans hrb; have hr4 := m4.rb.trans hrb2; have hdn3 := free_dn HT3.out
          clear HI3 HM3 HT3 i4 m4 ht2 hsim HTQ
          by_cases g5 : (k : Int) % 12 = 0
          · go_wp2_with (go_at_call 41; rw [← hr3, ← hr4]; refine (same10_any HT4.out.fs.is HT4.out.dd HT4.out.sim).mono ?_; rintro e w5 ⟨rfl, o5⟩; have HT5 := Lib.hid (HT4.out.keep o5); clear o5)
            go_roundg (362 - (k + 3))
            case measure => omega
            case rel => exact ⟨k + 3, s', d', by simp, by omega, Nat.le_refl _, HT5, hr3, hr4, by omega⟩
          · go_wp2_with fail
            go_roundg (362 - (k + 3))
            case measure => omega
            case rel => exact ⟨k + 3, s', d', by simp, by omega, Nat.le_refl _, HT4, hr3, hr4, by omega⟩
      · have hg2 : ¬ k < 360 := g2
        go_wp2_with fail
        rw [← hrb]
        refine (find_any HT.out.fs.is _).mono ?_
        rintro e v1 ⟨⟨x1, ok1, rfl, hb1⟩, o1⟩
        have HT1 := Lib.hid (HT.out.keep o1); have HB1 := Lib.hid hb1
        clear hb1 o1
        go_wp2_with fail
        rw [← hrb2]
        refine (find9_any HT1.out.dd _).mono ?_
        rintro e v2 ⟨⟨x2, ok2, rfl, hb2⟩, o2⟩
        obtain ⟨rfl, rfl⟩ := HT1.out.sim.find HT1.out.fs.is.ok HB1.out hb2
        have HT2 := Lib.hid (HT1.out.keep o2)
        clear hb2 o2 HB1
        go_wp2_with (first
          | (go_at_call 41; rw [← hrb, ← hrb2]; refine (same10_any HT2.out.fs.is HT2.out.dd HT2.out.sim).mono ?_; rintro e v3 ⟨rfl, o3⟩; have HT3 := Lib.hid (HT2.out.keep o3); clear o3)
          | (go_at_call 30; refine (awake10_any _).mono ?_; rintro e v9 ⟨rfl, ho9⟩))
        go_ret
        exact ⟨rfl, (HT3.out.fs.adds.thenF ho9).below (Nat.le_refl _) (fun _ _ h => h)⟩
    · have hg1 : ¬ k + 2 < l2 := g1
      go_wp2_with fail
      rw [← hrb]
      refine (find_any HT.out.fs.is _).mono ?_
      rintro e v1 ⟨⟨x1, ok1, rfl, hb1⟩, o1⟩
      have HT1 := Lib.hid (HT.out.keep o1); have HB1 := Lib.hid hb1
      clear hb1 o1
      go_wp2_with fail
      rw [← hrb2]
      refine (find9_any HT1.out.dd _).mono ?_
      rintro e v2 ⟨⟨x2, ok2, rfl, hb2⟩, o2⟩
      obtain ⟨rfl, rfl⟩ := HT1.out.sim.find HT1.out.fs.is.ok HB1.out hb2
      have HT2 := Lib.hid (HT1.out.keep o2)
      clear hb2 o2 HB1
      go_wp2_with (first
        | (go_at_call 41; rw [← hrb, ← hrb2]; refine (same10_any HT2.out.fs.is HT2.out.dd HT2.out.sim).mono ?_; rintro e v3 ⟨rfl, o3⟩; have HT3 := Lib.hid (HT2.out.keep o3); clear o3)
        | (go_at_call 30; refine (awake10_any _).mono ?_; rintro e v9 ⟨rfl, ho9⟩))
      go_ret
      exact ⟨rfl, (HT3.out.fs.adds.thenF ho9).below (Nat.le_refl _) (fun _ _ h => h)⟩
end Go.Proofs.Ytbijbpnhakbeeaa

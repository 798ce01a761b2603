/- RunsRaw: its walk. By an AI agent. -/
import Derived.Test.YtbijbpnhakbeeaaDocPair
namespace Go.Proofs.Ytbijbpnhakbeeaa
open Go.RowKit
set_option maxHeartbeats 2000000 in
theorem new10_no (P : Int) (h : P < 1 ∨ 4096 < P) (w : World) : Calls Try.prog 34 #[.int .i64 P, .slice none 0 0] w fun e w' => e = .returned (.pointer none) ∧ w = w' := by
  by_cases h1 : P < 1
  · go_enter Try.func34, Try.ntmps34
    go_wp2
    go_ret
    exact ⟨rfl, rfl⟩
  · have h2 : 4096 < P := by omega
    go_enter Try.func34, Try.ntmps34
    go_wp2
    go_ret
    exact ⟨rfl, rfl⟩
set_option maxHeartbeats 2000000 in
theorem new9_no (P : Int) (h : P < 1 ∨ 4096 < P) (w : World) : Calls Try.prog 38 #[.int .i64 P, .slice none 0 0] w fun e w' => e = .returned (.pointer none) ∧ w = w' := by
  by_cases h1 : P < 1
  · go_enter Try.func38, Try.ntmps38
    go_wp2
    go_ret
    exact ⟨rfl, rfl⟩
  · have h2 : 4096 < P := by omega
    go_enter Try.func38, Try.ntmps38
    go_wp2
    go_ret
    exact ⟨rfl, rfl⟩
set_option maxRecDepth 100000 in
set_option maxHeartbeats 8000000 in
theorem runsRaw_law (P : Int) (w0 : (Lit.int .i64 P).wf = true) (k : Int) (w1 : (Lit.int .i64 k).wf = true) (a : Int) (w2 : (Lit.int .i64 a).wf = true) (n : Int) (w3 : (Lit.int .i64 n).wf = true) (w : World) :
    Calls Try.prog 9 #[.int .i64 P, .int .i64 k, .int .i64 a, .int .i64 n] w fun e w' => e = .returned (.bool true) ∧ Below w.heap.size w w' := by
  clear w0 w1 w2 w3
  by_cases hp : P < 1 ∨ 4096 < P
  · have HN1 := Lib.hid (new10_no P hp w)
    have HN2 := Lib.hid (new9_no P hp w)
    clear hp
    go_enter Try.func9, Try.ntmps9
    go_wp2_with (first
      | (go_at_call 34; refine HN1.out.mono ?_; rintro e v1 ⟨rfl, rfl⟩)
      | (go_at_call 38; refine HN2.out.mono ?_; rintro e v1 ⟨rfl, rfl⟩)
      | (go_at_call 30; refine (awake10_any _).mono ?_; rintro e v9 ⟨rfl, ho9⟩))
    go_ret
    exact ⟨rfl, ho9.below (Nat.le_refl _) (fun _ _ h => h)⟩
  · obtain ⟨m, rfl⟩ : ∃ m : Nat, P = m := ⟨P.toNat, by omega⟩
    have hm1 : 1 ≤ m := by omega
    have hm2 : m ≤ 4096 := by omega
    have HN1 := Lib.hid (new_any (w := w) (m : Int) (by omega) (by omega) (.inl ⟨rfl, rfl⟩) (ds := []) (by simp))
    clear hp
    go_enter Try.func9, Try.ntmps9
    go_wp2_with fail
    refine HN1.out.mono ?_
    rintro e u1 ⟨s, rfl, h0, hn0, ho2, hfr⟩
    have HS0 := Lib.hid h0; have HN0 := Lib.hid hn0; have HO2 := Lib.hid ho2; have HFR := Lib.hid hfr
    clear h0 hn0 ho2 hfr
    go_wp2_with fail
    refine (new9_any (w := u1) m hm1 hm2 (.inl ⟨rfl, rfl⟩) (ds := []) (by simp)).mono ?_
    rintro e u2 ⟨d, rfl, h0, hn0, ho4, hfr⟩
    have HT := Lib.hid (show Pair w u2 m s d from Pair.start (n := m) hm1 rfl (Only.refl _ w) HS0.out HN0.out HO2.out HFR.out (Only.refl _ u1) h0 hn0 ho4 hfr)
    have hdn : s.dn = 1 := HN0.out.edn
    clear h0 hn0 ho4 hfr HS0 HN0 HO2 HFR HN1
    obtain ⟨rs, hrs⟩ : ∃ rs, s.rb = rs := ⟨_, rfl⟩
    obtain ⟨rd, hrd⟩ : ∃ rd, d.rb = rd := ⟨_, rfl⟩
    rw [hrs, hrd]
    go_wp2_with fail
    rw [← hrs]
    refine (take_any HT.out.fs.is k (by omega)).mono ?_
    rintro e u3 ⟨at_, c, s3, rfl, ht, i3, m3⟩
    have HI3 := Lib.hid i3; have HM3 := Lib.hid m3; have HT3 := Lib.hid ht
    clear i3 m3 ht
    rw [hrs]
    go_wp2_with fail
    rw [← hrd]
    refine (take9_any (HT.out.keepD HM3.out) k (fun h => HT.out.sim.askT HT.out.fs.is.ok k h) (by rw [HT.out.dn]; omega) HT.out.il).mono ?_
    rintro e u4 ⟨at2, cc, d3, rfl, ht2, i4, m4⟩
    obtain ⟨rfl, rfl, hsim⟩ := HT.out.sim.take HT.out.fs.is.ok HT3.out ht2
    have HT4 := Lib.hid (HT.out.both HI3.out HM3.out i4 m4 hsim)
    have hr3 := HM3.out.rb.trans hrs; have hr4 := m4.rb.trans hrd; have hdn3 := take_dn HT3.out
    clear HI3 HM3 HT3 i4 m4 ht2 hsim HT
    rw [hrd]
    clear hrs hrd
    go_wp2_with fail
    rw [← hr3]
    refine (free_any HT4.out.fs.is a n (by omega)).mono ?_
    rintro e u5 ⟨c5, s5, rfl, ht, i3, m3⟩
    have HI3 := Lib.hid i3; have HM3 := Lib.hid m3; have HT3 := Lib.hid ht
    clear i3 m3 ht
    rw [hr3]
    go_wp2_with fail
    rw [← hr4]
    refine (give9_any (HT4.out.keepD HM3.out) a n (HT4.out.sim.askG HT4.out.fs.is.ok HT3.out) (by rw [HT4.out.dn]; omega) HT4.out.il).mono ?_
    rintro e u6 ⟨c6, d5, rfl, ht2, i4, m4⟩
    obtain ⟨rfl, hsim⟩ := HT4.out.sim.give HT4.out.fs.is.ok HT3.out ht2
    have HT5 := Lib.hid (HT4.out.both HI3.out HM3.out i4 m4 hsim)
    have hr5 := HM3.out.rb.trans hr3; have hr6 := m4.rb.trans hr4
    clear HI3 HM3 HT3 i4 m4 ht2 hsim HT4
    rw [hr4]
    clear hr3 hr4
    go_wp2_with fail
    rw [← hr5]
    refine (find_any HT5.out.fs.is n).mono ?_
    rintro e u7 ⟨⟨x1, ok1, rfl, hb1⟩, o1⟩
    have HT6 := Lib.hid (HT5.out.keep o1); have HB1 := Lib.hid hb1
    clear hb1 o1
    rw [hr5]
    go_wp2_with fail
    rw [← hr6]
    refine (find9_any HT6.out.dd n).mono ?_
    rintro e u8 ⟨⟨x2, ok2, rfl, hb2⟩, o2⟩
    obtain ⟨rfl, rfl⟩ := HT6.out.sim.find HT6.out.fs.is.ok HB1.out hb2
    have HT7 := Lib.hid (HT6.out.keep o2)
    clear hb2 o2 HB1
    rw [hr6]
    go_wp2_with (first
      | (go_at_call 41; rw [← hr5, ← hr6]; refine (same10_any HT7.out.fs.is HT7.out.dd HT7.out.sim).mono ?_; rintro e v3 ⟨rfl, o3⟩; have HT8 := Lib.hid (HT7.out.keep o3); clear o3)
      | (go_at_call 30; refine (awake10_any _).mono ?_; rintro e v9 ⟨rfl, ho9⟩))
    go_ret
    exact ⟨rfl, (HT8.out.fs.adds.thenF ho9).below (Nat.le_refl _) (fun _ _ h => h)⟩
end Go.Proofs.Ytbijbpnhakbeeaa

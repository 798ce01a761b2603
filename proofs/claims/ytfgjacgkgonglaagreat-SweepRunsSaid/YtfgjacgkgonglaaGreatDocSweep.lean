/- The document's sweep. By an AI agent. -/
import Derived.Test.YtfgjacgkgonglaaGreatDoc
import Derived.Test.YtfgjacgkgonglaaGreatSweep
import Derived.Test.YtfgjacgkgonglaaGreatBits
namespace Go.Proofs.YtfgjacgkgonglaaGreat
open Go.RowKit
/-- A sweep gone through: what it tells, is it over, the machine, the store. -/
def MS.sweepR (x : MS) (s : StoreS) (al mk : Int) : Int × Bool × MS × StoreS :=
  match x.acc (.load mk) s with
  | (none, x1, s1) => (0, false, x1, s1)
  | (some b, x1, s1) => match x1.acc (.load al) s1 with
    | (none, x2, s2) => (0, false, x2, s2)
    | (some a, x2, s2) => match x2.acc (.put al (andU a b)) s2 with
      | (none, x3, s3) => (0, false, x3, s3)
      | (some _, x3, s3) => match x3.acc (.put mk 0) s3 with
        | (none, x4, s4) => (clrU a b, false, x4, s4)
        | (some _, x4, s4) => (clrU a b, true, x4, s4)
section
variable {w : World} {mb bb sb sm rb fb : Nat} {P T p al mk : Int} {s : StoreS} {x : MS} {lg mkv : Value}
set_option maxRecDepth 100000 in
set_option maxHeartbeats 2000000 in
theorem mSweep_any {v : Int} {d : Bool} {x' : MS} {s' : StoreS} (h : MM w mb bb sb sm rb fb P T s x lg mkv) (hP0 : x.P = P) (hT0 : x.T = T) (hal : Lay.pageOk P T 12 p = true) (hmk : Lay.pageOk P T 13 p = true) (eal : Lay.pageAt P T 12 p = al) (emk : Lay.pageAt P T 13 p = mk)
    (ia : s.inR al) (ik : s.inR mk) (hf : x.log.length ≤ 90000) (hR : x.sweepR s al mk = (v, d, x', s')) :
    Calls Tryz.prog 141 #[.pointer (some ⟨mb, 0, none⟩), .int .i64 p] w fun e w' => e = .returned (.tuple #[.int .u64 v, .bool d]) ∧ Steps w w' mb bb sb sm rb fb P T s' x' lg := by
  subst eal emk
  have HAL := Lib.hid hal; have HMK := Lib.hid hmk
  have hf0 : x.log.length < 100000 := by omega
  have H0 := Lib.hid h
  have O0 : Hid (Only (MT w mb lg sb sm) w w) := Lib.hid (Only.refl _ _)
  have L0 : Hid (Lg w lg lg) := Lib.hid (Lg.refl _ _)
  obtain ⟨al, eal⟩ : ∃ al, al = Lay.pageAt P T 12 p := ⟨_, rfl⟩
  obtain ⟨mk, emk⟩ : ∃ mk, mk = Lay.pageAt P T 13 p := ⟨_, rfl⟩
  have IA := Lib.hid ia; have IK := Lib.hid ik
  rw [← eal, ← emk] at hR
  rw [← eal] at IA
  rw [← emk] at IK
  have EA := Lib.hid eal; have EK := Lib.hid emk
  unfold MS.sweepR at hR
  clear hal hmk h ia ik eal emk
  rcases hr1 : x.acc (.load mk) s with ⟨_ | b, x1, s1⟩
  · rw [hr1] at hR
    dsimp only at hR
    injection hR with e1 hR; injection hR with e2 hR; injection hR with e3 e4; subst e1 e2 e3 e4
    go_enter Tryz.func141, Tryz.ntmps141
    go_wp2_with (first
      | (go_at_call 185; with_reducible refine (mWord_any (k := 13) (p := p) H0.out (hP0) (hT0) HMK.out).mono ?_; rintro e v1 ⟨rfl, ho1⟩; rw [← EK.out]; have H1 := Lib.hid (H0.out.adds ho1); have O1 := Lib.hid (O0.out.thenF ho1); have L1 := L0; clear ho1)
      | (go_at_call 184; with_reducible refine (mLoad_any H1.out (inR_of IK.out rfl) hf0 hr1).mono ?_; rintro e v2 ⟨rfl, lg2, hm2, ho2, hl2⟩; have H2 := Lib.hid hm2; have O2 := Lib.hid (MT.trans O1.out L1.out ho2); have L2 := Lib.hid (Lg.trans L1.out hl2 O1.out.size); clear hm2 ho2 hl2))
    go_ret2
    exact ⟨rfl, lg2, _, H2.out, O2.out, L2.out⟩
  · rw [hr1] at hR
    dsimp only at hR
    obtain ⟨st1, ln1, hv1⟩ := acc_facts hr1
    obtain rfl := acc_nil H0.out hr1
    have hP1 : x1.P = P := st1.P.trans hP0
    have hT1 : x1.T = T := st1.T.trans hT0
    have hf1 : x1.log.length < 100000 := by omega
    have HV1 := Lib.hid (hv1)
    clear hv1 st1
    rcases hr2 : x1.acc (.load al) s1 with ⟨_ | a, x2, s2⟩
    · rw [hr2] at hR
      dsimp only at hR
      injection hR with e1 hR; injection hR with e2 hR; injection hR with e3 e4; subst e1 e2 e3 e4
      go_enter Tryz.func141, Tryz.ntmps141
      go_wp2_with (first
        | (go_at_call 185; with_reducible refine (mWord_any (k := 13) (p := p) H0.out (hP0) (hT0) HMK.out).mono ?_; rintro e v1 ⟨rfl, ho1⟩; rw [← EK.out]; have H1 := Lib.hid (H0.out.adds ho1); have O1 := Lib.hid (O0.out.thenF ho1); have L1 := L0; clear ho1)
        | (go_at_call 184; with_reducible refine (mLoad_any H1.out (inR_of IK.out rfl) hf0 hr1).mono ?_; rintro e v2 ⟨rfl, lg2, hm2, ho2, hl2⟩; have H2 := Lib.hid hm2; have O2 := Lib.hid (MT.trans O1.out L1.out ho2); have L2 := Lib.hid (Lg.trans L1.out hl2 O1.out.size); clear hm2 ho2 hl2)
        | (go_at_call 185; with_reducible refine (mWord_any (k := 12) (p := p) H2.out (hP1) (hT1) HAL.out).mono ?_; rintro e v3 ⟨rfl, ho3⟩; rw [← EA.out]; have H3 := Lib.hid (H2.out.adds ho3); have O3 := Lib.hid (O2.out.thenF ho3); have L3 := L2; clear ho3)
        | (go_at_call 184; with_reducible refine (mLoad_any H3.out (inR_of IA.out HV1.out) hf1 hr2).mono ?_; rintro e v4 ⟨rfl, lg4, hm4, ho4, hl4⟩; have H4 := Lib.hid hm4; have O4 := Lib.hid (MT.trans O3.out L3.out ho4); have L4 := Lib.hid (Lg.trans L3.out hl4 O3.out.size); clear hm4 ho4 hl4))
      go_ret2
      exact ⟨rfl, lg4, _, H4.out, O4.out, L4.out⟩
    · rw [hr2] at hR
      dsimp only at hR
      obtain ⟨st2, ln2, hv2⟩ := acc_facts hr2
      have hP2 : x2.P = P := st2.P.trans hP1
      have hT2 : x2.T = T := st2.T.trans hT1
      have hf2 : x2.log.length < 100000 := by omega
      have HV2 := Lib.hid (hv2.trans HV1.out)
      clear hv2 st2
      rcases hr3 : x2.acc (.put al (andU a b)) s2 with ⟨_ | o3, x3, s3⟩
      · rw [hr3] at hR
        dsimp only at hR
        injection hR with e1 hR; injection hR with e2 hR; injection hR with e3 e4; subst e1 e2 e3 e4
        go_enter Tryz.func141, Tryz.ntmps141
        go_wp2_with (first
          | (go_at_call 185; with_reducible refine (mWord_any (k := 13) (p := p) H0.out (hP0) (hT0) HMK.out).mono ?_; rintro e v1 ⟨rfl, ho1⟩; rw [← EK.out]; have H1 := Lib.hid (H0.out.adds ho1); have O1 := Lib.hid (O0.out.thenF ho1); have L1 := L0; clear ho1)
          | (go_at_call 184; with_reducible refine (mLoad_any H1.out (inR_of IK.out rfl) hf0 hr1).mono ?_; rintro e v2 ⟨rfl, lg2, hm2, ho2, hl2⟩; have H2 := Lib.hid hm2; have O2 := Lib.hid (MT.trans O1.out L1.out ho2); have L2 := Lib.hid (Lg.trans L1.out hl2 O1.out.size); clear hm2 ho2 hl2)
          | (go_at_call 185; with_reducible refine (mWord_any (k := 12) (p := p) H2.out (hP1) (hT1) HAL.out).mono ?_; rintro e v3 ⟨rfl, ho3⟩; rw [← EA.out]; have H3 := Lib.hid (H2.out.adds ho3); have O3 := Lib.hid (O2.out.thenF ho3); have L3 := L2; clear ho3)
          | (go_at_call 184; with_reducible refine (mLoad_any H3.out (inR_of IA.out HV1.out) hf1 hr2).mono ?_; rintro e v4 ⟨rfl, lg4, hm4, ho4, hl4⟩; have H4 := Lib.hid hm4; have O4 := Lib.hid (MT.trans O3.out L3.out ho4); have L4 := Lib.hid (Lg.trans L3.out hl4 O3.out.size); clear hm4 ho4 hl4)
          | (go_at_call 185; with_reducible refine (mWord_any (k := 12) (p := p) H4.out (hP2) (hT2) HAL.out).mono ?_; rintro e v5 ⟨rfl, ho5⟩; rw [← EA.out]; have H5 := Lib.hid (H4.out.adds ho5); have O5 := Lib.hid (O4.out.thenF ho5); have L5 := L4; clear ho5)
          | (go_at_call 138; with_reducible refine (mPut_any H5.out (inR_of IA.out HV2.out) hf2 (and_bd _ _) hr3).mono ?_; rintro e v6 ⟨rfl, lg6, hm6, ho6, hl6⟩; have H6 := Lib.hid hm6; have O6 := Lib.hid (MT.trans O5.out L5.out ho6); have L6 := Lib.hid (Lg.trans L5.out hl6 O5.out.size); clear hm6 ho6 hl6))
        go_ret2
        exact ⟨rfl, lg6, _, H6.out, O6.out, L6.out⟩
      · rw [hr3] at hR
        dsimp only at hR
        obtain ⟨st3, ln3, hv3⟩ := acc_facts hr3
        have hP3 : x3.P = P := st3.P.trans hP2
        have hT3 : x3.T = T := st3.T.trans hT2
        have hf3 : x3.log.length < 100000 := by omega
        have HV3 := Lib.hid (hv3.trans HV2.out)
        clear hv3 st3
        rcases hr4 : x3.acc (.put mk 0) s3 with ⟨_ | o4, x4, s4⟩
        · rw [hr4] at hR
          dsimp only at hR
          injection hR with e1 hR; injection hR with e2 hR; injection hR with e3 e4; subst e1 e2 e3 e4
          go_enter Tryz.func141, Tryz.ntmps141
          go_wp2_with (first
            | (go_at_call 185; with_reducible refine (mWord_any (k := 13) (p := p) H0.out (hP0) (hT0) HMK.out).mono ?_; rintro e v1 ⟨rfl, ho1⟩; rw [← EK.out]; have H1 := Lib.hid (H0.out.adds ho1); have O1 := Lib.hid (O0.out.thenF ho1); have L1 := L0; clear ho1)
            | (go_at_call 184; with_reducible refine (mLoad_any H1.out (inR_of IK.out rfl) hf0 hr1).mono ?_; rintro e v2 ⟨rfl, lg2, hm2, ho2, hl2⟩; have H2 := Lib.hid hm2; have O2 := Lib.hid (MT.trans O1.out L1.out ho2); have L2 := Lib.hid (Lg.trans L1.out hl2 O1.out.size); clear hm2 ho2 hl2)
            | (go_at_call 185; with_reducible refine (mWord_any (k := 12) (p := p) H2.out (hP1) (hT1) HAL.out).mono ?_; rintro e v3 ⟨rfl, ho3⟩; rw [← EA.out]; have H3 := Lib.hid (H2.out.adds ho3); have O3 := Lib.hid (O2.out.thenF ho3); have L3 := L2; clear ho3)
            | (go_at_call 184; with_reducible refine (mLoad_any H3.out (inR_of IA.out HV1.out) hf1 hr2).mono ?_; rintro e v4 ⟨rfl, lg4, hm4, ho4, hl4⟩; have H4 := Lib.hid hm4; have O4 := Lib.hid (MT.trans O3.out L3.out ho4); have L4 := Lib.hid (Lg.trans L3.out hl4 O3.out.size); clear hm4 ho4 hl4)
            | (go_at_call 185; with_reducible refine (mWord_any (k := 12) (p := p) H4.out (hP2) (hT2) HAL.out).mono ?_; rintro e v5 ⟨rfl, ho5⟩; rw [← EA.out]; have H5 := Lib.hid (H4.out.adds ho5); have O5 := Lib.hid (O4.out.thenF ho5); have L5 := L4; clear ho5)
            | (go_at_call 138; with_reducible refine (mPut_any H5.out (inR_of IA.out HV2.out) hf2 (and_bd _ _) hr3).mono ?_; rintro e v6 ⟨rfl, lg6, hm6, ho6, hl6⟩; have H6 := Lib.hid hm6; have O6 := Lib.hid (MT.trans O5.out L5.out ho6); have L6 := Lib.hid (Lg.trans L5.out hl6 O5.out.size); clear hm6 ho6 hl6)
            | (go_at_call 188; with_reducible refine (mMark_any H6.out).mono ?_; rintro e v7 ⟨rfl, mk7, hm7, ho7⟩; have H7 := Lib.hid hm7; have O7 := Lib.hid (MT.trans O6.out L6.out ho7); have L7 := L6; clear hm7 ho7)
            | (go_at_call 185; with_reducible refine (mWord_any (k := 13) (p := p) H7.out (hP3) (hT3) HMK.out).mono ?_; rintro e v8 ⟨rfl, ho8⟩; rw [← EK.out]; have H8 := Lib.hid (H7.out.adds ho8); have O8 := Lib.hid (O7.out.thenF ho8); have L8 := L7; clear ho8)
            | (go_at_call 138; with_reducible refine (mPut_any H8.out (inR_of IK.out HV3.out) hf3 ⟨by omega, by omega⟩ hr4).mono ?_; rintro e v9 ⟨rfl, lg9, hm9, ho9, hl9⟩; have H9 := Lib.hid hm9; have O9 := Lib.hid (MT.trans O8.out L8.out ho9); have L9 := Lib.hid (Lg.trans L8.out hl9 O8.out.size); clear hm9 ho9 hl9))
          go_ret2
          exact ⟨rfl, lg9, _, H9.out, O9.out, L9.out⟩
        · rw [hr4] at hR
          dsimp only at hR
          obtain ⟨st4, ln4, hv4⟩ := acc_facts hr4
          have hP4 : x4.P = P := st4.P.trans hP3
          have hT4 : x4.T = T := st4.T.trans hT3
          have hf4 : x4.log.length < 100000 := by omega
          have HV4 := Lib.hid (hv4.trans HV3.out)
          clear hv4 st4
          injection hR with e1 hR; injection hR with e2 hR; injection hR with e3 e4; subst e1 e2 e3 e4
          go_enter Tryz.func141, Tryz.ntmps141
          go_wp2_with (first
            | (go_at_call 185; with_reducible refine (mWord_any (k := 13) (p := p) H0.out (hP0) (hT0) HMK.out).mono ?_; rintro e v1 ⟨rfl, ho1⟩; rw [← EK.out]; have H1 := Lib.hid (H0.out.adds ho1); have O1 := Lib.hid (O0.out.thenF ho1); have L1 := L0; clear ho1)
            | (go_at_call 184; with_reducible refine (mLoad_any H1.out (inR_of IK.out rfl) hf0 hr1).mono ?_; rintro e v2 ⟨rfl, lg2, hm2, ho2, hl2⟩; have H2 := Lib.hid hm2; have O2 := Lib.hid (MT.trans O1.out L1.out ho2); have L2 := Lib.hid (Lg.trans L1.out hl2 O1.out.size); clear hm2 ho2 hl2)
            | (go_at_call 185; with_reducible refine (mWord_any (k := 12) (p := p) H2.out (hP1) (hT1) HAL.out).mono ?_; rintro e v3 ⟨rfl, ho3⟩; rw [← EA.out]; have H3 := Lib.hid (H2.out.adds ho3); have O3 := Lib.hid (O2.out.thenF ho3); have L3 := L2; clear ho3)
            | (go_at_call 184; with_reducible refine (mLoad_any H3.out (inR_of IA.out HV1.out) hf1 hr2).mono ?_; rintro e v4 ⟨rfl, lg4, hm4, ho4, hl4⟩; have H4 := Lib.hid hm4; have O4 := Lib.hid (MT.trans O3.out L3.out ho4); have L4 := Lib.hid (Lg.trans L3.out hl4 O3.out.size); clear hm4 ho4 hl4)
            | (go_at_call 185; with_reducible refine (mWord_any (k := 12) (p := p) H4.out (hP2) (hT2) HAL.out).mono ?_; rintro e v5 ⟨rfl, ho5⟩; rw [← EA.out]; have H5 := Lib.hid (H4.out.adds ho5); have O5 := Lib.hid (O4.out.thenF ho5); have L5 := L4; clear ho5)
            | (go_at_call 138; with_reducible refine (mPut_any H5.out (inR_of IA.out HV2.out) hf2 (and_bd _ _) hr3).mono ?_; rintro e v6 ⟨rfl, lg6, hm6, ho6, hl6⟩; have H6 := Lib.hid hm6; have O6 := Lib.hid (MT.trans O5.out L5.out ho6); have L6 := Lib.hid (Lg.trans L5.out hl6 O5.out.size); clear hm6 ho6 hl6)
            | (go_at_call 188; with_reducible refine (mMark_any H6.out).mono ?_; rintro e v7 ⟨rfl, mk7, hm7, ho7⟩; have H7 := Lib.hid hm7; have O7 := Lib.hid (MT.trans O6.out L6.out ho7); have L7 := L6; clear hm7 ho7)
            | (go_at_call 185; with_reducible refine (mWord_any (k := 13) (p := p) H7.out (hP3) (hT3) HMK.out).mono ?_; rintro e v8 ⟨rfl, ho8⟩; rw [← EK.out]; have H8 := Lib.hid (H7.out.adds ho8); have O8 := Lib.hid (O7.out.thenF ho8); have L8 := L7; clear ho8)
            | (go_at_call 138; with_reducible refine (mPut_any H8.out (inR_of IK.out HV3.out) hf3 ⟨by omega, by omega⟩ hr4).mono ?_; rintro e v9 ⟨rfl, lg9, hm9, ho9, hl9⟩; have H9 := Lib.hid hm9; have O9 := Lib.hid (MT.trans O8.out L8.out ho9); have L9 := Lib.hid (Lg.trans L8.out hl9 O8.out.size); clear hm9 ho9 hl9))
          go_ret2
          exact ⟨rfl, lg9, _, H9.out, O9.out, L9.out⟩
end
end Go.Proofs.YtfgjacgkgonglaaGreat

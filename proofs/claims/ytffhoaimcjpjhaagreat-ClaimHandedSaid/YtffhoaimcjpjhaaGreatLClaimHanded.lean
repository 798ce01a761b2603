/- ClaimHanded: its walk. By an AI agent. -/
import Derived.Test.YtffhoaimcjpjhaaGreatZHanded
import Derived.Test.YtffhoaimcjpjhaaGreatZE
import Derived.Test.YtffhoaimcjpjhaaGreatZD
import Derived.Deep.DeepCutAuto
import Derived.Deep.CutBlock
namespace Go.Proofs.YtffhoaimcjpjhaaGreat
open Go.RowKit
theorem HS.begun : HS (StoreS.begun (Lay.words 3 1).toNat 0 1) 0 0 0 0 0 :=
  ⟨begun_len _ _ _, begun_other _ _ _ (by omega), begun_other _ _ _ (by omega), begun_other _ _ _ (by omega), begun_other _ _ _ (by omega), begun_other _ _ _ (by omega)⟩
set_option maxHeartbeats 400000 in
theorem state16_any (g k : Int) (w : World) : Calls Tryz.prog 35 #[.int .i64 g, .int .i64 k] w fun e w' => e = .returned (.int .u64 (Ph.mk g k)) ∧ w = w' := by
  go_enter Tryz.func35, Tryz.ntmps35
  go_wp2_with (go_at_call 87; refine (r6State_any g k _).mono ?_; rintro e w1 ⟨rfl, rfl⟩)
  go_ret
  exact ⟨rfl, rfl⟩
theorem HS.pile {s : StoreS} {n w a m H : Int} (h : HS s H n w a m) : HS (pileS 3 1 12 [1] s) H1 0 w a m := by
  have h1 := (h.setN 2 0).setH 2 H1
  have e : pileS 3 1 12 [1] s = (s.acc 2 89 0).acc 2 12 H1 := by
    show (s.acc 2 (nxAt 3 1 1) (-1 + 1)).acc 2 12 (Tag.mk ((1 : Nat) : Int) 1) = _
    rw [at89]
    rfl
  rw [e]; exact h1
theorem lp87 : Lay.pageAt 3 1 9 1 = 87 := by decide
theorem lp90 : Lay.pageAt 3 1 12 1 = 90 := by decide
theorem lp91 : Lay.pageAt 3 1 13 1 = 91 := by decide
theorem cell_alz {w w' : World} {b j : Nat} {v : Value} (h : w.cell? ⟨b, j, none⟩ = some v) (ho : Adds w w') : w'.cell? ⟨b, j, none⟩ = some v := (ho.cellF (p := ⟨b, j, none⟩) (cell_lt h) id).trans h
theorem may31 : Lay.may 3 1 = true := by decide
theorem HS.st {s : StoreS} {n w a m H : Int} (h : HS s H n w a m) : s.inR 87 ∧ s.inR 90 ∧ s.inR 91 := ⟨h.inR (by omega) (by omega), h.inR (by omega) (by omega), h.inR (by omega) (by omega)⟩
set_option maxRecDepth 100000 in
set_option maxHeartbeats 8000000 in
theorem claimHanded_law (c0 : Int) (f0 : (Lit.int .u8 c0).wf = true) (c1 : Int) (f1 : (Lit.int .u8 c1).wf = true) (c2 : Int) (f2 : (Lit.int .u8 c2).wf = true) (al : Int) (f3 : (Lit.int .u64 al).wf = true) (mk : Int) (f4 : (Lit.int .u64 mk).wf = true) (w : World) :
    Calls Tryz.prog 6 #[.int .u8 c0, .int .u8 c1, .int .u8 c2, .int .u64 al, .int .u64 mk] w fun e w' => e = .returned (.bool true) ∧ Below w.heap.size w w' := by
  have b0 := bd_u8 f0; have b1 := bd_u8 f1; have b2 := bd_u8 f2
  have b3 : 0 ≤ al ∧ al < 18446744073709551616 := bd_u64 f3
  have b4 : 0 ≤ mk ∧ mk < 18446744073709551616 := bd_u64 f4
  obtain ⟨g, hg⟩ : ∃ g : Int, 2 + c0 % 9 = g := ⟨_, rfl⟩
  obtain ⟨was, hwas⟩ : ∃ was : Int, 1 + c1 % (g + 1) = was := ⟨_, rfl⟩
  obtain ⟨ph, hph⟩ : ∃ ph : Int, 1 + c2 % 6 = ph := ⟨_, rfl⟩
  have g1 : 2 ≤ g := by omega
  have g2 : g ≤ 10 := by omega
  have r0 : 0 ≤ c1 % (g + 1) := Int.emod_nonneg c1 (by omega)
  have r1 : c1 % (g + 1) < g + 1 := Int.emod_lt_of_pos c1 (by omega)
  have w1 : 1 ≤ was := by omega
  have w2 : was ≤ g + 1 := by omega
  have p1 : 1 ≤ ph := by omega
  have p2 : ph ≤ 6 := by omega
  obtain ⟨w0, hw0⟩ : ∃ w0, Ph.mk was ph = w0 := ⟨_, rfl⟩
  have hw0b := Ph.mk_bd was ph
  rw [hw0] at hw0b
  have HW0 := Lib.hid hw0; have HWB := Lib.hid hw0b; have HAB := Lib.hid b3; have HMB := Lib.hid b4
  have HMAY := Lib.hid may31
  have x1 : Int.tmod c0 9 = c0 % 9 := Int.tmod_eq_emod_of_nonneg b0.1
  have x2 : Int.tmod c1 (g + 1) = c1 % (g + 1) := Int.tmod_eq_emod_of_nonneg b1.1
  have x3 : Int.tmod c2 6 = c2 % 6 := Int.tmod_eq_emod_of_nonneg b2.1
  have x4 : ¬ g + 1 = 0 := by omega
  have e1 : IntKind.i64.wrap c0 = c0 := by rw [IntKind.wrap_i64]; omega
  have e2 : IntKind.i64.wrap c1 = c1 := by rw [IntKind.wrap_i64]; omega
  have e3 : IntKind.i64.wrap c2 = c2 := by rw [IntKind.wrap_i64]; omega
  have e4 : IntKind.i64.wrap (g + 1) = g + 1 := by rw [IntKind.wrap_i64]; omega
  have e5 : IntKind.i64.wrap (2 + c0 % 9) = 2 + c0 % 9 := by rw [IntKind.wrap_i64]; omega
  have e6 : IntKind.i64.wrap (1 + c1 % (g + 1)) = 1 + c1 % (g + 1) := by rw [IntKind.wrap_i64]; omega
  have e7 : IntKind.i64.wrap (1 + c2 % 6) = 1 + c2 % 6 := by rw [IntKind.wrap_i64]; omega
  clear f0 f1 f2 f3 f4 hw0 hw0b b3 b4 r0 r1
  go_enter Tryz.func6, Tryz.ntmps6
  go_upto_region 5 with (go_at_call 9; refine (arenas_ok 3 1 _ HMAY.out).mono ?_; rintro e w3 ⟨ab, sb, sm, rb, rg, bb, tb, tm, ub, fb, rfl, hB, ho, hlow⟩; have HB := Lib.hid hB; have HO := Lib.hid ho; have HLOW := Lib.hid hlow; clear hB ho hlow)
  have hz2 := HO.out.size
  have hlow := HLOW.out
  simp only [World.size_alloc] at hz2 hlow
  have HA3 := Lib.hid (((Only.refl (fun _ => False) w).alloc (.cells #[.int .i64 3, .int .i64 1, .slice none 0 0] 25)).thenF HO.out)
  have HLO := Lib.hid (show w.heap.size ≤ ab ∧ w.heap.size ≤ sb ∧ w.heap.size ≤ sm ∧ w.heap.size ≤ bb ∧ w.heap.size ≤ tb ∧ w.heap.size ≤ tm by omega)
  obtain ⟨S0, hS0⟩ : ∃ S0, StoreS.begun (Lay.words 3 1).toNat 0 1 = S0 := ⟨_, rfl⟩
  have HS0 := HS.begun
  rw [hS0] at HS0 HB
  have HH0 := Lib.hid HS0
  have HH1 := Lib.hid (HS0.setW 2 w0)
  have HH2 := Lib.hid (HH1.out.setA 2 al)
  have HH3 := Lib.hid (HH2.out.setM 2 mk)
  have HH4 := Lib.hid HH3.out.pile
  have I87 := Lib.hid HH0.out.st.1; have I90 := Lib.hid HH1.out.st.2.1; have I91 := Lib.hid HH2.out.st.2.2
  obtain ⟨v0, hv0⟩ : ∃ v0, w3 = v0 := ⟨_, rfl⟩
  subst hv0
  have HB0 := HB
  have HO0 : Hid (Only (fun j => SB sb sm j ∨ SB tb tm j) w3 w3) := Lib.hid (Only.refl _ _)
  have HPL : Hid (∀ (t : TypeId) (v : World), 3 = t → Both v ab sb sm rb rg bb tb tm ub fb 3 1 (((S0.acc 2 87 w0).acc 2 90 al).acc 2 91 mk) (((S0.acc 2 87 w0).acc 2 90 al).acc 2 91 mk) → ∀ W, Only (fun j => SB sb sm j ∨ SB tb tm j) (v.alloc (.cells #[.int .i64 1] t)) W → ∀ (k : Nat) (p : Int), ([1] : List Int)[k]? = some p → W.cell? ⟨v.heap.size, k, none⟩ = some (.int .i64 p)) := Lib.hid (fun t v ht hB W ho k p hk => by
    subst ht
    have hb := Blk.new v #[.int .i64 1] 3
    have hB2 := hB.adds ((Only.refl (fun _ => False) v).alloc (.cells #[.int .i64 1] 3))
    have h2 := hb.only ho (fun e => by
      rcases e with (e | e) | (e | e)
      · have := (hb.uniq (e ▸ hB2.yard.st.head)).2; revert this; decide
      · have := (hb.uniq (e ▸ hB2.yard.st.row)).2; revert this; decide
      · have := (hb.uniq (e ▸ hB2.mem.st.head)).2; revert this; decide
      · have := (hb.uniq (e ▸ hB2.mem.st.row)).2; revert this; decide)
    rcases k with _ | k
    · have e1 : p = 1 := by simpa using hk.symm
      subst e1; exact h2.cell 0
    · simp at hk)
  have m0 : w3.cell? ⟨bb, 2, none⟩ = some (.int .i64 3) := HB0.out.mem.head.cell 2
  have n0 : w3.cell? ⟨bb, 3, none⟩ = some (.int .i64 1) := HB0.out.mem.head.cell 3
  clear x1 x2 x3 x4 e1 e2 e3 e4 e5 e6 e7 hz2 hlow HLOW HB HO HS0 hS0 hg hwas hph b0 b1 b2
  go_upto_region 7 with (first
    | (go_at_call 34; (with_reducible refine (playWord_any 3 1 9 1 w3 (by decide)).mono ?_); rintro e v1 ⟨rfl, ho1⟩; rw [lp87]; have HB1 := Lib.hid (HB0.out.adds ho1); have HO1 := Lib.hid (HO0.out.trans (ho1.mono (T := fun j => SB sb sm j ∨ SB tb tm j) (fun _ _ e => e.elim))); clear ho1)
    | (go_at_call 35; (with_reducible refine (state16_any was ph _).mono ?_); rintro e vp ⟨rfl, rfl⟩; rw [HW0.out])
    | (go_at_call 10; (with_reducible refine (playPut_any (v := w0) HB1.out I87.out I87.out HWB.out).mono ?_); rintro e v2 ⟨rfl, hb2, ho2⟩; have HB2 := Lib.hid hb2; have HO2 := Lib.hid (HO1.out.trans ho2); have m2 : v2.cell? ⟨bb, 2, none⟩ = some (.int .i64 3) := HB2.out.mem.head.cell 2; have n2 : v2.cell? ⟨bb, 3, none⟩ = some (.int .i64 1) := HB2.out.mem.head.cell 3; clear hb2 ho2)
    | (go_at_call 34; (with_reducible refine (playWord_any 3 1 12 1 v2 (by decide)).mono ?_); rintro e v3 ⟨rfl, ho3⟩; rw [lp90]; have HB3 := Lib.hid (HB2.out.adds ho3); have HO3 := Lib.hid (HO2.out.trans (ho3.mono (T := fun j => SB sb sm j ∨ SB tb tm j) (fun _ _ e => e.elim))); clear ho3)
    | (go_at_call 10; (with_reducible refine (playPut_any (v := al) HB3.out I90.out I90.out HAB.out).mono ?_); rintro e v4 ⟨rfl, hb4, ho4⟩; have HB4 := Lib.hid hb4; have HO4 := Lib.hid (HO3.out.trans ho4); have m4 : v4.cell? ⟨bb, 2, none⟩ = some (.int .i64 3) := HB4.out.mem.head.cell 2; have n4 : v4.cell? ⟨bb, 3, none⟩ = some (.int .i64 1) := HB4.out.mem.head.cell 3; clear hb4 ho4)
    | (go_at_call 34; (with_reducible refine (playWord_any 3 1 13 1 v4 (by decide)).mono ?_); rintro e v5 ⟨rfl, ho5⟩; rw [lp91]; have HB5 := Lib.hid (HB4.out.adds ho5); have HO5 := Lib.hid (HO4.out.trans (ho5.mono (T := fun j => SB sb sm j ∨ SB tb tm j) (fun _ _ e => e.elim))); clear ho5)
    | (go_at_call 10; (with_reducible refine (playPut_any (v := mk) HB5.out I91.out I91.out HMB.out).mono ?_); rintro e v6 ⟨rfl, hb6, ho6⟩; have HB6 := Lib.hid hb6; have HO6 := Lib.hid (HO5.out.trans ho6); have m6 : v6.cell? ⟨bb, 2, none⟩ = some (.int .i64 3) := HB6.out.mem.head.cell 2; have n6 : v6.cell? ⟨bb, 3, none⟩ = some (.int .i64 1) := HB6.out.mem.head.cell 3; clear hb6 ho6)
    | (go_at_call 36; refine (pile_any (pages := [1]) (hd := 12) (HB6.out.adds ((Only.refl (fun _ => False) v6).alloc _)) HMAY.out HH3.out.len HH3.out.len ⟨by omega, by omega⟩ (by simp) (by simp) (HPL.out _ _ rfl HB6.out)).mono ?_; rintro e v7 ⟨rfl, hb7, ho7⟩; have HB7 := Lib.hid hb7; have HO7 := Lib.hid ho7; clear hb7 ho7))
  have HHC := Lib.hid (show Lay.isHead 3 1 12 = true by decide)
  have hcy : Ph.cyc g = true := Ph.cyc_iff.2 ⟨by omega, by omega⟩
  have HCY := Lib.hid hcy
  have HHD := Lib.hid (HD.of HHC.out)
  obtain ⟨S4, hS4⟩ : ∃ S4, pileS 3 1 12 [1] (((S0.acc 2 87 w0).acc 2 90 al).acc 2 91 mk) = S4 := ⟨_, rfl⟩
  rw [hS4] at HH4 HB7
  have m7 : v7.cell? ⟨bb, 2, none⟩ = some (.int .i64 3) := HB7.out.mem.head.cell 2
  have n7 : v7.cell? ⟨bb, 3, none⟩ = some (.int .i64 1) := HB7.out.mem.head.cell 3
  have hA7 : Adds w v7 := HA3.out.andThen (((HO6.out.trans (((Only.refl (fun _ => False) v6).alloc _).mono (T := fun j => SB sb sm j ∨ SB tb tm j) (fun _ _ e => e.elim))).trans HO7.out)) (fun i hi e => by
    have := HLO.out
    rcases e with (e | e) | (e | e) <;> omega)
  obtain ⟨r, sE, kE, hE, hk9, hcase⟩ := handed_ends (g := g) HH4.out
  have HE := Lib.hid hE; have HCASE := Lib.hid hcase; have HA7 := Lib.hid hA7; have HL4 := Lib.hid HH4.out.len
  clear hcy hS4 hA7 hE hcase HO0 HO1 HO2 HO3 HO4 HO5 HO6 HO7 HB0 HB1 HB2 HB3 HB4 HB5 HB6 HH0 HH1 HH2 HH3 HH4 HPL I87 I90 I91 HA3 m0 m2 m4 m6 n0 n2 n4 n6
  go_wp2_with (go_at_call 37; refine (newClaim_ok 3 1 12 g _ HHC.out HCY.out).mono ?_; rintro e v8 ⟨mb, pb, n8, bp, bm, rfl, hc8, hp8, ho8, hl8, hl9⟩; have HC8 := Lib.hid hc8; have HP8 := Lib.hid hp8; have HO8 := Lib.hid ho8; have HL8 := Lib.hid (And.intro hl8 hl9); clear hc8 hp8 ho8 hl8 hl9)
  have hmn := fun W => claim_nonnil (some ⟨mb, 0, none⟩) W
  go_loopw [18] (fun i wr => ∃ (k pbq : Nat) (q : ClmSt ⊕ Int) (sq : StoreS), k ≤ 9 ∧ i = .int .i64 k ∧ Hid (Both wr ab sb sm rb rg bb tb tm ub fb 3 1 sq S4 ∧ ClP 3 1 12 g wr mb pbq q ∧ Adds w wr ∧ w.heap.size ≤ mb ∧ w.heap.size ≤ pbq ∧ sq.ws.length = (Lay.words 3 1).toNat) ∧ Hid ((∃ kk n, q = .inl kk ∧ k + n ≤ 9 ∧ Ends (claimA 3 1 12 g) kk sq r sE n) ∨ (q = .inr r ∧ sq = sE))) (fun i _ => 20 - (intOf i).toNat)
  case atStart =>
    have hz := HA7.out.size
    have hl := HL8.out
    refine ⟨0, pb, .inl (.pop .load), S4, by omega, rfl, Lib.hid ⟨HB7.out.adds HO8.out, ⟨⟨n8, bp, bm, 0, 0, HC8.out, ⟨0, HP8.out⟩⟩, ?_⟩, HA7.out.thenF HO8.out, by omega, by omega, HL4.out⟩, Lib.hid (.inl ⟨_, kE, rfl, by omega, HE.out⟩)⟩
    obtain ⟨nx, hb, _⟩ := Desk.blk HP8.out
    exact ⟨_, _, hb, .inl rfl, by simp⟩
  case round =>
    obtain ⟨k, pbq, q, sq, hk, rfl, HR, HQ⟩ := hrel
    clear HC8 HP8 HO8 HL8 HB7 HA7 HE m7 n7
    rcases HQ.out with ⟨kk, n, rfl, hkn, hEn⟩ | ⟨rfl, rfl⟩
    · have hn0 := hEn.pos
      have HEN := Lib.hid hEn
      have HKN := Lib.hid hkn
      clear hEn HQ hkn
      have hd := fun W (h : ClX 3 1 12 g W mb pbq (.inl kk)) => (show Calls Tryz.prog 38 #[.pointer (some ⟨mb, 0, none⟩)] W fun e w' => e = .returned (.bool false) ∧ W = w' from clX_done h)
      have HD := Lib.hid hd
      clear hd
      go_wp2_with (first
        | (go_at_call 38; refine (HD.out _ HR.out.2.1.1).mono ?_; rintro e vd ⟨rfl, rfl⟩)
        | (go_at_call 39; refine (claimA_step HHD.out HCY.out HR.out.2.1 HR.out.1.yard HR.out.2.2.2.2.2 HEN.out.ne).mono ?_; rintro e v9 ⟨rfl, ⟨⟨pb2, hpb2, hP2⟩, hY2⟩, ho9⟩; have HP2 := Lib.hid (And.intro hpb2 (And.intro hP2 (And.intro hY2 ho9))); clear hpb2 hP2 hY2 ho9))
      have hww : IntKind.i64.wrap ((k : Int) + 1) = (k : Int) + 1 := by rw [IntKind.wrap_i64]; omega
      go_wp2_with fail
      go_roundw
      case rel =>
        obtain ⟨hpb2, hP2, hY2, ho9⟩ := HP2.out
        obtain ⟨hB, hP, hA, hl1, hl2, hlen⟩ := HR.out
        have hsz := hA.size
        obtain ⟨st8, tk8, nx8, hmb8, _⟩ := hP.1.blk
        have hB2 := hB.accA (M := fun j => j = mb ∨ j = pbq) (fun b c t hb e => by
          rcases e with rfl | rfl
          · rw [(hb.uniq hmb8).2]; decide
          · obtain ⟨c2, u2, hb2, hu, _⟩ := hP.2
            rw [(hb.uniq hb2).2]
            rcases hu with rfl | rfl <;> decide) (ho9.mono (fun _ _ e => e.elim (fun e => e.elim .inl (fun e => .inr (.inl e))) (fun e => .inr (.inr e)))) hY2
        have hA2 : Adds w v9 := hA.andThen ho9 (fun i hi e => by
          have := HLO.out
          rcases e with ((e | e) | e) | e <;> omega)
        have hkn := HKN.out
        have hpl : w.heap.size ≤ pb2 := by rcases hpb2 with rfl | h <;> omega
        rcases HEN.out.inv with ⟨h1, h2, h3⟩ | ⟨k1, m1, h1, h2, h3⟩
        · rw [h1] at hP2
          exact ⟨k + 1, pb2, .inr r, _, by omega, by go_num, Lib.hid ⟨hB2, hP2, hA2, hl1, hpl, (Ac.act_len _ _).trans hlen⟩, Lib.hid (.inr ⟨rfl, h2.symm⟩)⟩
        · rw [h1] at hP2
          exact ⟨k + 1, pb2, .inl k1, _, by omega, by go_num, Lib.hid ⟨hB2, hP2, hA2, hl1, hpl, (Ac.act_len _ _).trans hlen⟩, Lib.hid (.inl ⟨k1, m1, rfl, by omega, h2⟩)⟩
      case measure => first | (simp [intOf]; done) | (simp [intOf]; omega)
    · -- ENDS
      have hd := fun W (h : ClX 3 1 12 g W mb pbq (.inr r)) => (show Calls Tryz.prog 38 #[.pointer (some ⟨mb, 0, none⟩)] W fun e w' => e = .returned (.bool true) ∧ W = w' from clX_done h)
      have HD := Lib.hid hd
      have m9 : wr.cell? ⟨bb, 2, none⟩ = some (.int .i64 3) := HR.out.1.mem.head.cell 2
      have n9 : wr.cell? ⟨bb, 3, none⟩ = some (.int .i64 1) := HR.out.1.mem.head.cell 3
      have I87 := Lib.hid (show sq.inR 87 from ⟨by omega, by rw [HR.out.2.2.2.2.2, words31]; omega⟩)
      have I90 := Lib.hid (show sq.inR 90 from ⟨by omega, by rw [HR.out.2.2.2.2.2, words31]; omega⟩)
      obtain ⟨nw, hnw⟩ : ∃ nw, sq.word 87 = nw := ⟨_, rfl⟩
      obtain ⟨xv, hxv⟩ : ∃ xv, sq.word 90 = xv := ⟨_, rfl⟩
      have HNW := Lib.hid hnw; have HXV := Lib.hid hxv
      have hk20 : k < 20 := by omega
      clear hd hnw hxv HQ
      go_upto_region 14 with (first
        | (go_at_call 38; refine (HD.out _ HR.out.2.1.1).mono ?_; rintro e vd ⟨rfl, rfl⟩))
      go_cut [19, 20] (fun a b wz => a = .int .u64 nw ∧ b = .int .u64 xv ∧ Hid (Adds wr wz))
      case first =>
        go_region_held3 (fun W => W.cell? ⟨bb, 2, none⟩ = some (.int .i64 3) ∧ W.cell? ⟨bb, 3, none⟩ = some (.int .i64 1) ∧ Adds wr W)
          (first | assumption | (exact ⟨m9, n9, (Only.refl _ wr).drew⟩) | (exact ⟨m9, n9, Only.refl _ wr⟩) | (exact ⟨cell_alz m9 HZ1.out, cell_alz n9 HZ1.out, HZ1.out⟩) | (exact ⟨cell_alz m9 HZ2.out, cell_alz n9 HZ2.out, HZ2.out⟩) | (exact ⟨cell_alz m9 HZ3.out, cell_alz n9 HZ3.out, HZ3.out⟩) | (exact ⟨cell_alz m9 HZ4.out, cell_alz n9 HZ4.out, HZ4.out⟩))
          (first
          | (go_at_call 34; (with_reducible refine (playWord_any 3 1 9 1 wr.drew (by decide)).mono ?_); rintro e z1 ⟨rfl, hz1⟩; rw [lp87]; have HZ1 := Lib.hid (((Only.refl (fun _ => False) wr).drew).thenF hz1); clear hz1)
          | (go_at_call 29; (with_reducible refine (playRead_any (i := 87) (HR.out.1.yard.adds HZ1.out) I87.out).mono ?_); rintro e z2 ⟨rfl, hz2⟩; rw [HNW.out]; have HZ2 := Lib.hid (HZ1.out.thenF hz2); clear hz2)
          | (go_at_call 34; (with_reducible refine (playWord_any 3 1 12 1 z2 (by decide)).mono ?_); rintro e z3 ⟨rfl, hz3⟩; rw [lp90]; have HZ3 := Lib.hid (HZ2.out.thenF hz3); clear hz3)
          | (go_at_call 29; (with_reducible refine (playRead_any (i := 90) (HR.out.1.yard.adds HZ3.out) I90.out).mono ?_); rintro e z4 ⟨rfl, hz4⟩; rw [HXV.out]; have HZ4 := Lib.hid (HZ3.out.thenF hz4); clear hz4))
        all_goals
          go_wp2_with fail
          go_meet
          exact ⟨rfl, rfl, HZ4⟩
      case rest =>
        obtain ⟨rfl, rfl, HZ⟩ := hcut
        have HPX := Lib.hid (HR.out.2.1.1.adds HZ.out)
        have HAZ := Lib.hid (HR.out.2.2.1.thenF HZ.out)
        have hpg := fun W (h : ClX 3 1 12 g W mb pbq (.inr r)) => (show Calls Tryz.prog 40 #[.pointer (some ⟨mb, 0, none⟩)] W fun e w' => e = .returned (.int .i64 r) ∧ W = w' from clX_page h)
        have HPG := Lib.hid hpg
        have hca := HCASE.out
        have eg1 : IntKind.i64.wrap (g - 1) = g - 1 := by rw [IntKind.wrap_i64]; omega
        obtain ⟨K2, hK2⟩ : ∃ K2, Ph.mk g 2 = K2 := ⟨_, rfl⟩
        obtain ⟨K6, hK6⟩ : ∃ K6, Ph.mk g 6 = K6 := ⟨_, rfl⟩
        have HK2 := Lib.hid hK2; have HK6 := Lib.hid hK6
        have okm : ∀ k, 1 ≤ k → k ≤ 6 → Ph.okB g k = true := fun k h1 h2 => Ph.okB_iff.2 ⟨by omega, by omega, h1, h2⟩
        have okw : Ph.okB was ph = true := Ph.okB_iff.2 ⟨by omega, by omega, p1, p2⟩
        obtain ⟨t1, t2, t3, t4, t5⟩ := Ph.st_mk okw
        rw [HW0.out] at t1 t2 t3 t4 t5
        have q4 := mk_eq (x := w0) (k := 4) (by omega) HCY.out (by decide) (by decide)
        have q5 := mk_eq (x := w0) (k := 5) (by omega) HCY.out (by decide) (by decide)
        have eg : Ph.gen w0 = was := by simp [Ph.gen, t1, t2]
        have ep : Ph.ph w0 = ph := by simp [Ph.ph, t1, t3]
        have ew : Ph.waits w0 g = true ↔ ph = 1 ∧ was + 1 = g := by simp [Ph.waits, t1, t2, t3]
        rw [eg, ep] at q4 q5
        clear hpg hK2 hK6 t1 t2 t3 t4 t5 eg ep okm okw
        by_cases cA : ph = 1 ∧ was + 1 = g
        · rcases hca with ⟨_, hr, hs⟩ | ⟨h1, _⟩ | ⟨h1, _⟩ | ⟨h1, _⟩
          · have en : nw = K2 := by rw [← HNW.out, ← HK2.out]; exact hs.w
            have ex : xv = andU al mk := by rw [← HXV.out]; exact hs.a
            obtain ⟨ca1, ca2⟩ := cA
            obtain rfl : was = g - 1 := by omega
            subst hr en ex ca1
            clear hs HCASE ew q4 q5
            go_wp2_with (first
              | (go_at_call 40; refine (HPG.out _ HPX.out).mono ?_; rintro e vp ⟨rfl, rfl⟩)
              | (go_at_call 35; (with_reducible refine (state16_any g 2 _).mono ?_); rintro e vp ⟨rfl, rfl⟩; rw [HK2.out])
              | (go_at_call 41; refine (awake16_any _).mono ?_; rintro e z9 ⟨rfl, ho9⟩))
            go_ret
            exact ⟨by simp, (HAZ.out.thenF ho9).below (Nat.le_refl _) (fun _ _ h => h)⟩
          all_goals (rw [ew.2 cA] at h1; cases h1)
        · have nA : Ph.waits w0 g = false := by
            cases h : Ph.waits w0 g
            · rfl
            · exact absurd (ew.1 h) cA
          by_cases cB : was = g ∧ ph = 4
          · have e4 := q4.2 cB
            rcases hca with ⟨h1, _⟩ | ⟨_, _, hr, hs⟩ | ⟨_, h1, _⟩ | ⟨_, h1, _⟩
            · rw [nA] at h1; cases h1
            · have en : nw = K6 := by rw [← HNW.out, ← HK6.out]; exact hs.w
              have ex : xv = al := by rw [← HXV.out]; exact hs.a
              obtain ⟨ca1, ca2⟩ := cB
              subst hr en ex ca1 ca2
              clear hs HCASE ew q4 q5 e4
              go_wp2_with (first
                | (go_at_call 40; refine (HPG.out _ HPX.out).mono ?_; rintro e vp ⟨rfl, rfl⟩)
                | (go_at_call 35; (with_reducible refine (state16_any was 6 _).mono ?_); rintro e vp ⟨rfl, rfl⟩; rw [HK6.out])
                | (go_at_call 41; refine (awake16_any _).mono ?_; rintro e z9 ⟨rfl, ho9⟩))
              go_ret
              exact ⟨by simp, (HAZ.out.thenF ho9).below (Nat.le_refl _) (fun _ _ h => h)⟩
            · exact absurd e4 h1
            · exact absurd e4 h1
          · have n4 : w0 ≠ Ph.mk g 4 := fun e => cB (q4.1 e)
            by_cases cC : was = g ∧ ph = 5
            · have e5 := q5.2 cC
              rcases hca with ⟨h1, _⟩ | ⟨_, h1, _⟩ | ⟨_, _, _, hr, hs⟩ | ⟨_, _, h1, _⟩
              · rw [nA] at h1; cases h1
              · exact absurd h1 n4
              · have en : nw = K2 := by rw [← HNW.out, ← HK2.out]; exact hs.w
                have ex : xv = al := by rw [← HXV.out]; exact hs.a
                obtain ⟨ca1, ca2⟩ := cC
                subst hr en ex ca1 ca2
                clear hs HCASE ew q4 q5 e5
                go_wp2_with (first
                  | (go_at_call 40; refine (HPG.out _ HPX.out).mono ?_; rintro e vp ⟨rfl, rfl⟩)
                  | (go_at_call 35; (with_reducible refine (state16_any was 2 _).mono ?_); rintro e vp ⟨rfl, rfl⟩; rw [HK2.out])
                  | (go_at_call 41; refine (awake16_any _).mono ?_; rintro e z9 ⟨rfl, ho9⟩))
                go_ret
                exact ⟨by simp, (HAZ.out.thenF ho9).below (Nat.le_refl _) (fun _ _ h => h)⟩
              · exact absurd e5 h1
            · have n5 : w0 ≠ Ph.mk g 5 := fun e => cC (q5.1 e)
              rcases hca with ⟨h1, _⟩ | ⟨_, h1, _⟩ | ⟨_, _, h1, _⟩ | ⟨_, _, _, hr, hs⟩
              · rw [nA] at h1; cases h1
              · exact absurd h1 n4
              · exact absurd h1 n5
              · have en : nw = w0 := by rw [← HNW.out]; exact hs.w
                have ex : xv = al := by rw [← HXV.out]; exact hs.a
                subst hr en ex
                clear hs HCASE ew q4 q5
                by_cases d1 : ph = 1
                · have d2 : ¬ was = g - 1 := fun e => cA ⟨d1, by omega⟩
                  subst d1
                  clear cA cB cC
                  go_wp2_with (first
                    | (go_at_call 40; refine (HPG.out _ HPX.out).mono ?_; rintro e vp ⟨rfl, rfl⟩)
                    | (go_at_call 35; (with_reducible refine (state16_any was 1 _).mono ?_); rintro e vp ⟨rfl, rfl⟩; rw [HW0.out])
                    | (go_at_call 41; refine (awake16_any _).mono ?_; rintro e z9 ⟨rfl, ho9⟩))
                  go_ret
                  exact ⟨by simp, (HAZ.out.thenF ho9).below (Nat.le_refl _) (fun _ _ h => h)⟩
                · by_cases d4 : ph = 4
                  · have d2 : ¬ was = g := fun e => cB ⟨e, d4⟩
                    subst d4
                    clear cA cB cC
                    go_wp2_with (first
                      | (go_at_call 40; refine (HPG.out _ HPX.out).mono ?_; rintro e vp ⟨rfl, rfl⟩)
                      | (go_at_call 35; (with_reducible refine (state16_any was 4 _).mono ?_); rintro e vp ⟨rfl, rfl⟩; rw [HW0.out])
                      | (go_at_call 41; refine (awake16_any _).mono ?_; rintro e z9 ⟨rfl, ho9⟩))
                    go_ret
                    exact ⟨by simp, (HAZ.out.thenF ho9).below (Nat.le_refl _) (fun _ _ h => h)⟩
                  · by_cases d5 : ph = 5
                    · have d2 : ¬ was = g := fun e => cC ⟨e, d5⟩
                      subst d5
                      clear cA cB cC
                      go_wp2_with (first
                        | (go_at_call 40; refine (HPG.out _ HPX.out).mono ?_; rintro e vp ⟨rfl, rfl⟩)
                        | (go_at_call 35; (with_reducible refine (state16_any was 5 _).mono ?_); rintro e vp ⟨rfl, rfl⟩; rw [HW0.out])
                        | (go_at_call 41; refine (awake16_any _).mono ?_; rintro e z9 ⟨rfl, ho9⟩))
                      go_ret
                      exact ⟨by simp, (HAZ.out.thenF ho9).below (Nat.le_refl _) (fun _ _ h => h)⟩
                    · clear cA cB cC
                      go_wp2_with (first
                        | (go_at_call 40; refine (HPG.out _ HPX.out).mono ?_; rintro e vp ⟨rfl, rfl⟩)
                        | (go_at_call 35; (with_reducible refine (state16_any was ph _).mono ?_); rintro e vp ⟨rfl, rfl⟩; rw [HW0.out])
                        | (go_at_call 41; refine (awake16_any _).mono ?_; rintro e z9 ⟨rfl, ho9⟩))
                      go_ret
                      exact ⟨by simp, (HAZ.out.thenF ho9).below (Nat.le_refl _) (fun _ _ h => h)⟩
end Go.Proofs.YtffhoaimcjpjhaaGreat

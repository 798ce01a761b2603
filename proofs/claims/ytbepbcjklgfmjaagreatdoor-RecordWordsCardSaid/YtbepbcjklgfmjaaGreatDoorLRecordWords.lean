/- RecordWords: its walk. By an AI agent. -/
import Derived.Test.YtbepbcjklgfmjaaGreatDoorZRecBoth
import Derived.Test.YtbepbcjklgfmjaaGreatDoorZRecAwake
import Derived.Test.YtbepbcjklgfmjaaGreatDoorZPlay2
import Derived.Test.YtbepbcjklgfmjaaGreatDoorZD
import Derived.Deep.DeepCutAuto
import Derived.Deep.RegionHeld3
namespace Go.Proofs.YtbepbcjklgfmjaaGreatDoor
open Go.RowKit
set_option linter.unusedSimpArgs false
set_option linter.unusedVariables false
set_option maxRecDepth 100000 in
set_option maxHeartbeats 8000000 in
theorem recordWords_walk (st bs al mk pg : Int) (w : World) (hT : Tab w) (s0 : 0 ≤ st ∧ st < 18446744073709551616) (s1 : 0 ≤ bs ∧ bs < 18446744073709551616) (s2 : 0 ≤ al ∧ al < 18446744073709551616) (s3 : 0 ≤ mk ∧ mk < 18446744073709551616) (s4 : 0 ≤ pg ∧ pg < 256) :
    Calls Tryz.prog 3 #[.int .u64 st, .int .u64 bs, .int .u64 al, .int .u64 mk, .int .u8 pg] w fun e w' => e = .returned (.bool true) ∧ Adds w w' := by
  have hmay : Lay.may 9 1 = true := Lay.may_iff.2 ⟨by omega, by omega, by omega, by omega⟩
  obtain ⟨p, hp⟩ : ∃ p, pg % 9 = p := ⟨_, rfl⟩
  have hp0 : 0 ≤ p ∧ p < 9 := by omega
  have hpt : Int.tmod pg 9 = p := by rw [Int.tmod_eq_emod_of_nonneg s4.1]; exact hp
  have hpw : IntKind.i64.wrap pg = pg := by rw [IntKind.wrap_i64]; omega
  have hpw2 : IntKind.i64.wrap p = p := by rw [IntKind.wrap_i64]; omega
  obtain ⟨sv, hsv⟩ : ∃ x, st % 17179869184 = x := ⟨_, rfl⟩
  have hst : Int.tmod st 17179869184 = sv := by rw [Int.tmod_eq_emod_of_nonneg s0.1]; exact hsv
  have hsb : 0 ≤ sv ∧ sv < 18446744073709551616 := by omega
  have hsw : IntKind.u64.wrap sv = sv := by rw [IntKind.wrap_u64]; omega
  have b1 : Int.tdiv bs 256 = bs / 256 := Int.tdiv_eq_ediv_of_nonneg s1.1
  have b2 : Int.tmod bs 256 = bs % 256 := Int.tmod_eq_emod_of_nonneg s1.1
  have b3 : Int.tmod (bs % 256) 15 = bs % 256 % 15 := Int.tmod_eq_emod_of_nonneg (by omega)
  have b4 : IntKind.u64.wrap (bs / 256) = bs / 256 := by rw [IntKind.wrap_u64]; omega
  have b5 : IntKind.u64.wrap (bs % 256) = bs % 256 := by rw [IntKind.wrap_u64]; omega
  have b6 : IntKind.u64.wrap (bs % 256 % 15) = bs % 256 % 15 := by rw [IntKind.wrap_u64]; omega
  have HT := Lib.hid hT; have HMAY := Lib.hid hmay
  have H2 := Lib.hid s2; have H3 := Lib.hid s3; have HSB := Lib.hid hsb; have HP0 := Lib.hid hp0; have H1 := Lib.hid s1
  clear hT hmay s0 s2 s3
  go_enter Tryz.func3, Tryz.ntmps3
  go_upto_region 3 with (go_at_call 5; refine (arenas_ok 9 1 _ HMAY.out).mono ?_; rintro e w3 ⟨ab, sb, sm, rb, rg, bb, tb, tm, ub, fb, rfl, hB, ho, hlow⟩; have HB := Lib.hid hB; have HO := Lib.hid ho; have HLOW := Lib.hid hlow; clear hB ho hlow)
  -- REST
  rcases Int.lt_or_le 4096 (bs / 256) with c1 | c1
  · have c2 : ¬ bs / 256 ≤ 4096 := by omega
    go_upto_region 8 with fail
    obtain ⟨bv, hbv⟩ : ∃ x, bs % 256 % 15 = x := ⟨_, rfl⟩
    have HBB := Lib.hid (show 0 ≤ bv ∧ bv < 18446744073709551616 by have := H1.out; omega)
    rw [hbv]
    clear hbv
    obtain ⟨S0, hS0⟩ : ∃ s, StoreS.begun (Lay.words 9 1).toNat 0 1 = s := ⟨_, rfl⟩
    have HLN : Hid (S0.ws.length = (Lay.words 9 1).toNat) := Lib.hid (by rw [← hS0]; exact begun_len _ _ _)
    rw [hS0] at HB
    clear hS0
    have HIN : Hid (∀ q : StoreS, q.ws.length = (Lay.words 9 1).toNat → ∀ k, 9 ≤ k → k < 15 → q.inR (recAt 9 1 k p)) := Lib.hid (fun q hq k k0 k1 => by have := recAt_bd (k := k) HMAY.out HP0.out.1 HP0.out.2 k0 k1; exact ⟨this.1, by rw [hq]; omega⟩)
    have HOK : Hid (∀ k, 9 ≤ k → k < 15 → Lay.pageOk 9 1 k p = true) := Lib.hid (fun k k0 k1 => by have := HP0.out; unfold Lay.pageOk; rw [HMAY.out, Bool.true_and, decide_eq_true_eq]; omega)
    obtain ⟨A9, hA9⟩ : ∃ x, recAt 9 1 9 p = x := ⟨_, rfl⟩
    have E9 : Hid (Lay.pageAt 9 1 9 p = A9) := Lib.hid (by rw [← hA9]; unfold recAt atV; rw [HOK.out 9 (by decide) (by decide)]; rfl)
    have I9 : Hid (∀ q : StoreS, q.ws.length = (Lay.words 9 1).toNat → q.inR A9) := Lib.hid (fun q hq => by rw [← hA9]; exact HIN.out q hq 9 (by decide) (by decide))
    have K9 := Lib.hid (HOK.out 9 (by decide) (by decide))
    clear hA9
    obtain ⟨A10, hA10⟩ : ∃ x, recAt 9 1 10 p = x := ⟨_, rfl⟩
    have E10 : Hid (Lay.pageAt 9 1 10 p = A10) := Lib.hid (by rw [← hA10]; unfold recAt atV; rw [HOK.out 10 (by decide) (by decide)]; rfl)
    have I10 : Hid (∀ q : StoreS, q.ws.length = (Lay.words 9 1).toNat → q.inR A10) := Lib.hid (fun q hq => by rw [← hA10]; exact HIN.out q hq 10 (by decide) (by decide))
    have K10 := Lib.hid (HOK.out 10 (by decide) (by decide))
    clear hA10
    obtain ⟨A12, hA12⟩ : ∃ x, recAt 9 1 12 p = x := ⟨_, rfl⟩
    have E12 : Hid (Lay.pageAt 9 1 12 p = A12) := Lib.hid (by rw [← hA12]; unfold recAt atV; rw [HOK.out 12 (by decide) (by decide)]; rfl)
    have I12 : Hid (∀ q : StoreS, q.ws.length = (Lay.words 9 1).toNat → q.inR A12) := Lib.hid (fun q hq => by rw [← hA12]; exact HIN.out q hq 12 (by decide) (by decide))
    have K12 := Lib.hid (HOK.out 12 (by decide) (by decide))
    clear hA12
    obtain ⟨A13, hA13⟩ : ∃ x, recAt 9 1 13 p = x := ⟨_, rfl⟩
    have E13 : Hid (Lay.pageAt 9 1 13 p = A13) := Lib.hid (by rw [← hA13]; unfold recAt atV; rw [HOK.out 13 (by decide) (by decide)]; rfl)
    have I13 : Hid (∀ q : StoreS, q.ws.length = (Lay.words 9 1).toNat → q.inR A13) := Lib.hid (fun q hq => by rw [← hA13]; exact HIN.out q hq 13 (by decide) (by decide))
    have K13 := Lib.hid (HOK.out 13 (by decide) (by decide))
    clear hA13
    have m2 : w3.cell? ⟨bb, 2, none⟩ = some (.int .i64 9) := HB.out.mem.head.cell 2
    have m3 : w3.cell? ⟨bb, 3, none⟩ = some (.int .i64 1) := HB.out.mem.head.cell 3
    have HX0 : Hid (Adds w w3) := Lib.hid (((Only.refl (fun _ => False) w).alloc (.cells #[.int .i64 9, .int .i64 1, .slice none 0 0] 25)).thenF HO.out)
    have HLO : Hid (∀ i, i < w.heap.size → (SB sb sm i ∨ SB tb tm i) → False) := Lib.hid (fun i hi e => by have := HLOW.out; simp only [World.size_alloc] at this; rcases e with (e | e) | (e | e) <;> omega)
    clear HLOW HO
    go_upto_region 9 with (first
        | (go_at_call 7; (with_reducible refine (playWord_any 9 1 9 p w3 K9.out).mono ?_); rintro e z1 ⟨rfl, hz⟩; rw [E9.out]; have Z1 := Lib.hid hz; have Y1 := Lib.hid (HX0.out.thenF hz); clear hz)
        | (go_at_call 6; (with_reducible refine (playPut_any (i := A9) (v := sv) (HB.out.adds Z1.out) (I9.out _ (show (S0 : StoreS).ws.length = (Lay.words 9 1).toNat by simpa [StoreS.acc] using HLN.out)) (I9.out _ (show (S0 : StoreS).ws.length = (Lay.words 9 1).toNat by simpa [StoreS.acc] using HLN.out)) HSB.out).mono ?_); rintro e v1 ⟨rfl, hB, ho⟩; have B1 := Lib.hid hB; have X1 := Lib.hid (Y1.out.andThen ho HLO.out); have k2_1 : v1.cell? ⟨bb, 2, none⟩ = some (.int .i64 9) := hB.mem.head.cell 2; have k3_1 : v1.cell? ⟨bb, 3, none⟩ = some (.int .i64 1) := hB.mem.head.cell 3; clear hB ho)
        | (go_at_call 7; (with_reducible refine (playWord_any 9 1 10 p v1 K10.out).mono ?_); rintro e z2 ⟨rfl, hz⟩; rw [E10.out]; have Z2 := Lib.hid hz; have Y2 := Lib.hid (X1.out.thenF hz); clear hz)
        | (go_at_call 6; (with_reducible refine (playPut_any (i := A10) (v := bv) (B1.out.adds Z2.out) (I10.out _ (show (((S0).acc 2 A9 sv) : StoreS).ws.length = (Lay.words 9 1).toNat by simpa [StoreS.acc] using HLN.out)) (I10.out _ (show (((S0).acc 2 A9 sv) : StoreS).ws.length = (Lay.words 9 1).toNat by simpa [StoreS.acc] using HLN.out)) HBB.out).mono ?_); rintro e v2 ⟨rfl, hB, ho⟩; have B2 := Lib.hid hB; have X2 := Lib.hid (Y2.out.andThen ho HLO.out); have k2_2 : v2.cell? ⟨bb, 2, none⟩ = some (.int .i64 9) := hB.mem.head.cell 2; have k3_2 : v2.cell? ⟨bb, 3, none⟩ = some (.int .i64 1) := hB.mem.head.cell 3; clear hB ho)
        | (go_at_call 7; (with_reducible refine (playWord_any 9 1 12 p v2 K12.out).mono ?_); rintro e z3 ⟨rfl, hz⟩; rw [E12.out]; have Z3 := Lib.hid hz; have Y3 := Lib.hid (X2.out.thenF hz); clear hz)
        | (go_at_call 6; (with_reducible refine (playPut_any (i := A12) (v := al) (B2.out.adds Z3.out) (I12.out _ (show (((((S0).acc 2 A9 sv)).acc 2 A10 bv) : StoreS).ws.length = (Lay.words 9 1).toNat by simpa [StoreS.acc] using HLN.out)) (I12.out _ (show (((((S0).acc 2 A9 sv)).acc 2 A10 bv) : StoreS).ws.length = (Lay.words 9 1).toNat by simpa [StoreS.acc] using HLN.out)) H2.out).mono ?_); rintro e v3 ⟨rfl, hB, ho⟩; have B3 := Lib.hid hB; have X3 := Lib.hid (Y3.out.andThen ho HLO.out); have k2_3 : v3.cell? ⟨bb, 2, none⟩ = some (.int .i64 9) := hB.mem.head.cell 2; have k3_3 : v3.cell? ⟨bb, 3, none⟩ = some (.int .i64 1) := hB.mem.head.cell 3; clear hB ho)
        | (go_at_call 7; (with_reducible refine (playWord_any 9 1 13 p v3 K13.out).mono ?_); rintro e z4 ⟨rfl, hz⟩; rw [E13.out]; have Z4 := Lib.hid hz; have Y4 := Lib.hid (X3.out.thenF hz); clear hz)
        | (go_at_call 6; (with_reducible refine (playPut_any (i := A13) (v := mk) (B3.out.adds Z4.out) (I13.out _ (show (((((((S0).acc 2 A9 sv)).acc 2 A10 bv)).acc 2 A12 al) : StoreS).ws.length = (Lay.words 9 1).toNat by simpa [StoreS.acc] using HLN.out)) (I13.out _ (show (((((((S0).acc 2 A9 sv)).acc 2 A10 bv)).acc 2 A12 al) : StoreS).ws.length = (Lay.words 9 1).toNat by simpa [StoreS.acc] using HLN.out)) H3.out).mono ?_); rintro e v4 ⟨rfl, hB, ho⟩; have B4 := Lib.hid hB; have X4 := Lib.hid (Y4.out.andThen ho HLO.out); clear hB ho))
    have hl4 : (((((((((S0).acc 2 A9 sv)).acc 2 A10 bv)).acc 2 A12 al)).acc 2 A13 mk)).ws.length = (Lay.words 9 1).toNat := by simpa [StoreS.acc] using HLN.out
    obtain ⟨S4, hS4⟩ : ∃ s, ((((((((S0).acc 2 A9 sv)).acc 2 A10 bv)).acc 2 A12 al)).acc 2 A13 mk) = s := ⟨_, rfl⟩
    rw [hS4] at B4 hl4
    clear hS4
    obtain ⟨x0, x1, x2, x3, x4, x5, x6, ok, hrd⟩ := read_both B4.out HMAY.out hl4 hl4 rfl p
    obtain ⟨L, hL, hsp⟩ := spans_both B4.out HMAY.out hl4 hl4 rfl
    have HRD := Lib.hid (fun W (h : Adds v4 W) => hrd W h); have HSP := Lib.hid (fun W (h : Adds v4 W) => hsp W h); have HLL := Lib.hid hL
    have heq := fun W => span_eql W x0 x1 x2 x3 x4 x5 x6
    clear hrd hsp hL hl4
    go_upto_region 11 with (first
        | (go_at_call 8; refine (HRD.out v4 (Only.refl _ _)).1.mono ?_; rintro e u1 ⟨rfl, hz⟩; have U1 := Lib.hid hz; clear hz)
        | (go_at_call 9; refine (HRD.out _ (U1.out.alloc (.cells #[.int .i64 x0, .int .i64 x1, .int .i64 x2, .int .i64 x3, .int .i64 x4, .int .u64 x5, .int .u64 x6] 39))).2.mono ?_; rintro e u2 ⟨rfl, hz⟩; have hb := (Blk.new u1 #[.int .i64 x0, .int .i64 x1, .int .i64 x2, .int .i64 x3, .int .i64 x4, .int .u64 x5, .int .u64 x6] 39).only hz id; obtain ⟨q0, q1, q2, q3, q4, q5, q6, -⟩ := hb.seven; have U2 := Lib.hid ((U1.out.alloc (.cells #[.int .i64 x0, .int .i64 x1, .int .i64 x2, .int .i64 x3, .int .i64 x4, .int .u64 x5, .int .u64 x6] 39)).thenF hz); have hq := hb.lt; clear hz hb))
    obtain ⟨W5, hW5⟩ : ∃ W, u2.alloc (.cells #[.int .i64 x0, .int .i64 x1, .int .i64 x2, .int .i64 x3, .int .i64 x4, .int .u64 x5, .int .u64 x6] 39) = W := ⟨_, rfl⟩
    obtain ⟨r0, r1, r2, r3, r4, r5, r6, -⟩ := (Blk.new u2 #[.int .i64 x0, .int .i64 x1, .int .i64 x2, .int .i64 x3, .int .i64 x4, .int .u64 x5, .int .u64 x6] 39).seven
    have hA5 : Adds u2 W5 := by rw [← hW5]; exact (Only.refl (fun _ => False) u2).alloc _
    have q0 := cellA q0 hA5; have q1 := cellA q1 hA5; have q2 := cellA q2 hA5; have q3 := cellA q3 hA5; have q4 := cellA q4 hA5; have q5 := cellA q5 hA5; have q6 := cellA q6 hA5
    rw [hW5] at r0 r1 r2 r3 r4 r5 r6 ⊢
    have U3 := Lib.hid (U2.out.thenF hA5)
    clear hW5 hA5
    go_wp2_with (first
        | (go_at_call 11; refine (HSP.out _ U3.out).1.mono ?_; rintro e t1 ⟨v, rfl, hr, hz⟩; have R1 := Lib.hid hr; have T1 := Lib.hid (U3.out.thenF hz); clear hr hz)
        | (go_at_call 12; refine (HSP.out _ T1.out).2.mono ?_; rintro e t2 ⟨v', rfl, hr, hz⟩; have R2 := Lib.hid hr; have R3 := Lib.hid (ownsRow_only R1.out hz (fun _ _ => id)); have T2 := Lib.hid (T1.out.thenF hz); clear hr hz)
        | (go_at_call 10; refine (sameSpans_any HLL.out R3.out R2.out).mono ?_; rintro e t3 ⟨rfl, kk, rfl⟩)
        | (go_at_call 13; refine (awake14_any _ (HT.out.adds ((X4.out.thenF T2.out).drewN kk))).mono ?_; rintro e t4 ⟨rfl, hz⟩))
    go_ret
    exact ⟨rfl, ((X4.out.thenF T2.out).drewN kk).thenF hz⟩
  · have c2 : ¬ 4096 < bs / 256 := by omega
    rcases Int.lt_or_le 14 (bs % 256) with c3 | c3
    · have c4 : ¬ bs % 256 ≤ 14 := by omega
      go_upto_region 8 with fail
      obtain ⟨bv, hbv⟩ : ∃ x, bs % 256 % 15 = x := ⟨_, rfl⟩
      have HBB := Lib.hid (show 0 ≤ bv ∧ bv < 18446744073709551616 by have := H1.out; omega)
      rw [hbv]
      clear hbv
      obtain ⟨S0, hS0⟩ : ∃ s, StoreS.begun (Lay.words 9 1).toNat 0 1 = s := ⟨_, rfl⟩
      have HLN : Hid (S0.ws.length = (Lay.words 9 1).toNat) := Lib.hid (by rw [← hS0]; exact begun_len _ _ _)
      rw [hS0] at HB
      clear hS0
      have HIN : Hid (∀ q : StoreS, q.ws.length = (Lay.words 9 1).toNat → ∀ k, 9 ≤ k → k < 15 → q.inR (recAt 9 1 k p)) := Lib.hid (fun q hq k k0 k1 => by have := recAt_bd (k := k) HMAY.out HP0.out.1 HP0.out.2 k0 k1; exact ⟨this.1, by rw [hq]; omega⟩)
      have HOK : Hid (∀ k, 9 ≤ k → k < 15 → Lay.pageOk 9 1 k p = true) := Lib.hid (fun k k0 k1 => by have := HP0.out; unfold Lay.pageOk; rw [HMAY.out, Bool.true_and, decide_eq_true_eq]; omega)
      obtain ⟨A9, hA9⟩ : ∃ x, recAt 9 1 9 p = x := ⟨_, rfl⟩
      have E9 : Hid (Lay.pageAt 9 1 9 p = A9) := Lib.hid (by rw [← hA9]; unfold recAt atV; rw [HOK.out 9 (by decide) (by decide)]; rfl)
      have I9 : Hid (∀ q : StoreS, q.ws.length = (Lay.words 9 1).toNat → q.inR A9) := Lib.hid (fun q hq => by rw [← hA9]; exact HIN.out q hq 9 (by decide) (by decide))
      have K9 := Lib.hid (HOK.out 9 (by decide) (by decide))
      clear hA9
      obtain ⟨A10, hA10⟩ : ∃ x, recAt 9 1 10 p = x := ⟨_, rfl⟩
      have E10 : Hid (Lay.pageAt 9 1 10 p = A10) := Lib.hid (by rw [← hA10]; unfold recAt atV; rw [HOK.out 10 (by decide) (by decide)]; rfl)
      have I10 : Hid (∀ q : StoreS, q.ws.length = (Lay.words 9 1).toNat → q.inR A10) := Lib.hid (fun q hq => by rw [← hA10]; exact HIN.out q hq 10 (by decide) (by decide))
      have K10 := Lib.hid (HOK.out 10 (by decide) (by decide))
      clear hA10
      obtain ⟨A12, hA12⟩ : ∃ x, recAt 9 1 12 p = x := ⟨_, rfl⟩
      have E12 : Hid (Lay.pageAt 9 1 12 p = A12) := Lib.hid (by rw [← hA12]; unfold recAt atV; rw [HOK.out 12 (by decide) (by decide)]; rfl)
      have I12 : Hid (∀ q : StoreS, q.ws.length = (Lay.words 9 1).toNat → q.inR A12) := Lib.hid (fun q hq => by rw [← hA12]; exact HIN.out q hq 12 (by decide) (by decide))
      have K12 := Lib.hid (HOK.out 12 (by decide) (by decide))
      clear hA12
      obtain ⟨A13, hA13⟩ : ∃ x, recAt 9 1 13 p = x := ⟨_, rfl⟩
      have E13 : Hid (Lay.pageAt 9 1 13 p = A13) := Lib.hid (by rw [← hA13]; unfold recAt atV; rw [HOK.out 13 (by decide) (by decide)]; rfl)
      have I13 : Hid (∀ q : StoreS, q.ws.length = (Lay.words 9 1).toNat → q.inR A13) := Lib.hid (fun q hq => by rw [← hA13]; exact HIN.out q hq 13 (by decide) (by decide))
      have K13 := Lib.hid (HOK.out 13 (by decide) (by decide))
      clear hA13
      have m2 : w3.cell? ⟨bb, 2, none⟩ = some (.int .i64 9) := HB.out.mem.head.cell 2
      have m3 : w3.cell? ⟨bb, 3, none⟩ = some (.int .i64 1) := HB.out.mem.head.cell 3
      have HX0 : Hid (Adds w w3) := Lib.hid (((Only.refl (fun _ => False) w).alloc (.cells #[.int .i64 9, .int .i64 1, .slice none 0 0] 25)).thenF HO.out)
      have HLO : Hid (∀ i, i < w.heap.size → (SB sb sm i ∨ SB tb tm i) → False) := Lib.hid (fun i hi e => by have := HLOW.out; simp only [World.size_alloc] at this; rcases e with (e | e) | (e | e) <;> omega)
      clear HLOW HO
      go_upto_region 9 with (first
          | (go_at_call 7; (with_reducible refine (playWord_any 9 1 9 p w3 K9.out).mono ?_); rintro e z1 ⟨rfl, hz⟩; rw [E9.out]; have Z1 := Lib.hid hz; have Y1 := Lib.hid (HX0.out.thenF hz); clear hz)
          | (go_at_call 6; (with_reducible refine (playPut_any (i := A9) (v := sv) (HB.out.adds Z1.out) (I9.out _ (show (S0 : StoreS).ws.length = (Lay.words 9 1).toNat by simpa [StoreS.acc] using HLN.out)) (I9.out _ (show (S0 : StoreS).ws.length = (Lay.words 9 1).toNat by simpa [StoreS.acc] using HLN.out)) HSB.out).mono ?_); rintro e v1 ⟨rfl, hB, ho⟩; have B1 := Lib.hid hB; have X1 := Lib.hid (Y1.out.andThen ho HLO.out); have k2_1 : v1.cell? ⟨bb, 2, none⟩ = some (.int .i64 9) := hB.mem.head.cell 2; have k3_1 : v1.cell? ⟨bb, 3, none⟩ = some (.int .i64 1) := hB.mem.head.cell 3; clear hB ho)
          | (go_at_call 7; (with_reducible refine (playWord_any 9 1 10 p v1 K10.out).mono ?_); rintro e z2 ⟨rfl, hz⟩; rw [E10.out]; have Z2 := Lib.hid hz; have Y2 := Lib.hid (X1.out.thenF hz); clear hz)
          | (go_at_call 6; (with_reducible refine (playPut_any (i := A10) (v := bv) (B1.out.adds Z2.out) (I10.out _ (show (((S0).acc 2 A9 sv) : StoreS).ws.length = (Lay.words 9 1).toNat by simpa [StoreS.acc] using HLN.out)) (I10.out _ (show (((S0).acc 2 A9 sv) : StoreS).ws.length = (Lay.words 9 1).toNat by simpa [StoreS.acc] using HLN.out)) HBB.out).mono ?_); rintro e v2 ⟨rfl, hB, ho⟩; have B2 := Lib.hid hB; have X2 := Lib.hid (Y2.out.andThen ho HLO.out); have k2_2 : v2.cell? ⟨bb, 2, none⟩ = some (.int .i64 9) := hB.mem.head.cell 2; have k3_2 : v2.cell? ⟨bb, 3, none⟩ = some (.int .i64 1) := hB.mem.head.cell 3; clear hB ho)
          | (go_at_call 7; (with_reducible refine (playWord_any 9 1 12 p v2 K12.out).mono ?_); rintro e z3 ⟨rfl, hz⟩; rw [E12.out]; have Z3 := Lib.hid hz; have Y3 := Lib.hid (X2.out.thenF hz); clear hz)
          | (go_at_call 6; (with_reducible refine (playPut_any (i := A12) (v := al) (B2.out.adds Z3.out) (I12.out _ (show (((((S0).acc 2 A9 sv)).acc 2 A10 bv) : StoreS).ws.length = (Lay.words 9 1).toNat by simpa [StoreS.acc] using HLN.out)) (I12.out _ (show (((((S0).acc 2 A9 sv)).acc 2 A10 bv) : StoreS).ws.length = (Lay.words 9 1).toNat by simpa [StoreS.acc] using HLN.out)) H2.out).mono ?_); rintro e v3 ⟨rfl, hB, ho⟩; have B3 := Lib.hid hB; have X3 := Lib.hid (Y3.out.andThen ho HLO.out); have k2_3 : v3.cell? ⟨bb, 2, none⟩ = some (.int .i64 9) := hB.mem.head.cell 2; have k3_3 : v3.cell? ⟨bb, 3, none⟩ = some (.int .i64 1) := hB.mem.head.cell 3; clear hB ho)
          | (go_at_call 7; (with_reducible refine (playWord_any 9 1 13 p v3 K13.out).mono ?_); rintro e z4 ⟨rfl, hz⟩; rw [E13.out]; have Z4 := Lib.hid hz; have Y4 := Lib.hid (X3.out.thenF hz); clear hz)
          | (go_at_call 6; (with_reducible refine (playPut_any (i := A13) (v := mk) (B3.out.adds Z4.out) (I13.out _ (show (((((((S0).acc 2 A9 sv)).acc 2 A10 bv)).acc 2 A12 al) : StoreS).ws.length = (Lay.words 9 1).toNat by simpa [StoreS.acc] using HLN.out)) (I13.out _ (show (((((((S0).acc 2 A9 sv)).acc 2 A10 bv)).acc 2 A12 al) : StoreS).ws.length = (Lay.words 9 1).toNat by simpa [StoreS.acc] using HLN.out)) H3.out).mono ?_); rintro e v4 ⟨rfl, hB, ho⟩; have B4 := Lib.hid hB; have X4 := Lib.hid (Y4.out.andThen ho HLO.out); clear hB ho))
      have hl4 : (((((((((S0).acc 2 A9 sv)).acc 2 A10 bv)).acc 2 A12 al)).acc 2 A13 mk)).ws.length = (Lay.words 9 1).toNat := by simpa [StoreS.acc] using HLN.out
      obtain ⟨S4, hS4⟩ : ∃ s, ((((((((S0).acc 2 A9 sv)).acc 2 A10 bv)).acc 2 A12 al)).acc 2 A13 mk) = s := ⟨_, rfl⟩
      rw [hS4] at B4 hl4
      clear hS4
      obtain ⟨x0, x1, x2, x3, x4, x5, x6, ok, hrd⟩ := read_both B4.out HMAY.out hl4 hl4 rfl p
      obtain ⟨L, hL, hsp⟩ := spans_both B4.out HMAY.out hl4 hl4 rfl
      have HRD := Lib.hid (fun W (h : Adds v4 W) => hrd W h); have HSP := Lib.hid (fun W (h : Adds v4 W) => hsp W h); have HLL := Lib.hid hL
      have heq := fun W => span_eql W x0 x1 x2 x3 x4 x5 x6
      clear hrd hsp hL hl4
      go_upto_region 11 with (first
          | (go_at_call 8; refine (HRD.out v4 (Only.refl _ _)).1.mono ?_; rintro e u1 ⟨rfl, hz⟩; have U1 := Lib.hid hz; clear hz)
          | (go_at_call 9; refine (HRD.out _ (U1.out.alloc (.cells #[.int .i64 x0, .int .i64 x1, .int .i64 x2, .int .i64 x3, .int .i64 x4, .int .u64 x5, .int .u64 x6] 39))).2.mono ?_; rintro e u2 ⟨rfl, hz⟩; have hb := (Blk.new u1 #[.int .i64 x0, .int .i64 x1, .int .i64 x2, .int .i64 x3, .int .i64 x4, .int .u64 x5, .int .u64 x6] 39).only hz id; obtain ⟨q0, q1, q2, q3, q4, q5, q6, -⟩ := hb.seven; have U2 := Lib.hid ((U1.out.alloc (.cells #[.int .i64 x0, .int .i64 x1, .int .i64 x2, .int .i64 x3, .int .i64 x4, .int .u64 x5, .int .u64 x6] 39)).thenF hz); have hq := hb.lt; clear hz hb))
      obtain ⟨W5, hW5⟩ : ∃ W, u2.alloc (.cells #[.int .i64 x0, .int .i64 x1, .int .i64 x2, .int .i64 x3, .int .i64 x4, .int .u64 x5, .int .u64 x6] 39) = W := ⟨_, rfl⟩
      obtain ⟨r0, r1, r2, r3, r4, r5, r6, -⟩ := (Blk.new u2 #[.int .i64 x0, .int .i64 x1, .int .i64 x2, .int .i64 x3, .int .i64 x4, .int .u64 x5, .int .u64 x6] 39).seven
      have hA5 : Adds u2 W5 := by rw [← hW5]; exact (Only.refl (fun _ => False) u2).alloc _
      have q0 := cellA q0 hA5; have q1 := cellA q1 hA5; have q2 := cellA q2 hA5; have q3 := cellA q3 hA5; have q4 := cellA q4 hA5; have q5 := cellA q5 hA5; have q6 := cellA q6 hA5
      rw [hW5] at r0 r1 r2 r3 r4 r5 r6 ⊢
      have U3 := Lib.hid (U2.out.thenF hA5)
      clear hW5 hA5
      go_wp2_with (first
          | (go_at_call 11; refine (HSP.out _ U3.out).1.mono ?_; rintro e t1 ⟨v, rfl, hr, hz⟩; have R1 := Lib.hid hr; have T1 := Lib.hid (U3.out.thenF hz); clear hr hz)
          | (go_at_call 12; refine (HSP.out _ T1.out).2.mono ?_; rintro e t2 ⟨v', rfl, hr, hz⟩; have R2 := Lib.hid hr; have R3 := Lib.hid (ownsRow_only R1.out hz (fun _ _ => id)); have T2 := Lib.hid (T1.out.thenF hz); clear hr hz)
          | (go_at_call 10; refine (sameSpans_any HLL.out R3.out R2.out).mono ?_; rintro e t3 ⟨rfl, kk, rfl⟩)
          | (go_at_call 13; refine (awake14_any _ (HT.out.adds ((X4.out.thenF T2.out).drewN kk))).mono ?_; rintro e t4 ⟨rfl, hz⟩))
      go_ret
      exact ⟨rfl, ((X4.out.thenF T2.out).drewN kk).thenF hz⟩
    · have c4 : ¬ 14 < bs % 256 := by omega
      go_upto_region 8 with fail
      obtain ⟨bv, hbv⟩ : ∃ x, bs = x := ⟨_, rfl⟩
      have HBB := Lib.hid (show 0 ≤ bv ∧ bv < 18446744073709551616 by have := H1.out; omega)
      rw [hbv]
      clear hbv
      obtain ⟨S0, hS0⟩ : ∃ s, StoreS.begun (Lay.words 9 1).toNat 0 1 = s := ⟨_, rfl⟩
      have HLN : Hid (S0.ws.length = (Lay.words 9 1).toNat) := Lib.hid (by rw [← hS0]; exact begun_len _ _ _)
      rw [hS0] at HB
      clear hS0
      have HIN : Hid (∀ q : StoreS, q.ws.length = (Lay.words 9 1).toNat → ∀ k, 9 ≤ k → k < 15 → q.inR (recAt 9 1 k p)) := Lib.hid (fun q hq k k0 k1 => by have := recAt_bd (k := k) HMAY.out HP0.out.1 HP0.out.2 k0 k1; exact ⟨this.1, by rw [hq]; omega⟩)
      have HOK : Hid (∀ k, 9 ≤ k → k < 15 → Lay.pageOk 9 1 k p = true) := Lib.hid (fun k k0 k1 => by have := HP0.out; unfold Lay.pageOk; rw [HMAY.out, Bool.true_and, decide_eq_true_eq]; omega)
      obtain ⟨A9, hA9⟩ : ∃ x, recAt 9 1 9 p = x := ⟨_, rfl⟩
      have E9 : Hid (Lay.pageAt 9 1 9 p = A9) := Lib.hid (by rw [← hA9]; unfold recAt atV; rw [HOK.out 9 (by decide) (by decide)]; rfl)
      have I9 : Hid (∀ q : StoreS, q.ws.length = (Lay.words 9 1).toNat → q.inR A9) := Lib.hid (fun q hq => by rw [← hA9]; exact HIN.out q hq 9 (by decide) (by decide))
      have K9 := Lib.hid (HOK.out 9 (by decide) (by decide))
      clear hA9
      obtain ⟨A10, hA10⟩ : ∃ x, recAt 9 1 10 p = x := ⟨_, rfl⟩
      have E10 : Hid (Lay.pageAt 9 1 10 p = A10) := Lib.hid (by rw [← hA10]; unfold recAt atV; rw [HOK.out 10 (by decide) (by decide)]; rfl)
      have I10 : Hid (∀ q : StoreS, q.ws.length = (Lay.words 9 1).toNat → q.inR A10) := Lib.hid (fun q hq => by rw [← hA10]; exact HIN.out q hq 10 (by decide) (by decide))
      have K10 := Lib.hid (HOK.out 10 (by decide) (by decide))
      clear hA10
      obtain ⟨A12, hA12⟩ : ∃ x, recAt 9 1 12 p = x := ⟨_, rfl⟩
      have E12 : Hid (Lay.pageAt 9 1 12 p = A12) := Lib.hid (by rw [← hA12]; unfold recAt atV; rw [HOK.out 12 (by decide) (by decide)]; rfl)
      have I12 : Hid (∀ q : StoreS, q.ws.length = (Lay.words 9 1).toNat → q.inR A12) := Lib.hid (fun q hq => by rw [← hA12]; exact HIN.out q hq 12 (by decide) (by decide))
      have K12 := Lib.hid (HOK.out 12 (by decide) (by decide))
      clear hA12
      obtain ⟨A13, hA13⟩ : ∃ x, recAt 9 1 13 p = x := ⟨_, rfl⟩
      have E13 : Hid (Lay.pageAt 9 1 13 p = A13) := Lib.hid (by rw [← hA13]; unfold recAt atV; rw [HOK.out 13 (by decide) (by decide)]; rfl)
      have I13 : Hid (∀ q : StoreS, q.ws.length = (Lay.words 9 1).toNat → q.inR A13) := Lib.hid (fun q hq => by rw [← hA13]; exact HIN.out q hq 13 (by decide) (by decide))
      have K13 := Lib.hid (HOK.out 13 (by decide) (by decide))
      clear hA13
      have m2 : w3.cell? ⟨bb, 2, none⟩ = some (.int .i64 9) := HB.out.mem.head.cell 2
      have m3 : w3.cell? ⟨bb, 3, none⟩ = some (.int .i64 1) := HB.out.mem.head.cell 3
      have HX0 : Hid (Adds w w3) := Lib.hid (((Only.refl (fun _ => False) w).alloc (.cells #[.int .i64 9, .int .i64 1, .slice none 0 0] 25)).thenF HO.out)
      have HLO : Hid (∀ i, i < w.heap.size → (SB sb sm i ∨ SB tb tm i) → False) := Lib.hid (fun i hi e => by have := HLOW.out; simp only [World.size_alloc] at this; rcases e with (e | e) | (e | e) <;> omega)
      clear HLOW HO
      go_upto_region 9 with (first
          | (go_at_call 7; (with_reducible refine (playWord_any 9 1 9 p w3 K9.out).mono ?_); rintro e z1 ⟨rfl, hz⟩; rw [E9.out]; have Z1 := Lib.hid hz; have Y1 := Lib.hid (HX0.out.thenF hz); clear hz)
          | (go_at_call 6; (with_reducible refine (playPut_any (i := A9) (v := sv) (HB.out.adds Z1.out) (I9.out _ (show (S0 : StoreS).ws.length = (Lay.words 9 1).toNat by simpa [StoreS.acc] using HLN.out)) (I9.out _ (show (S0 : StoreS).ws.length = (Lay.words 9 1).toNat by simpa [StoreS.acc] using HLN.out)) HSB.out).mono ?_); rintro e v1 ⟨rfl, hB, ho⟩; have B1 := Lib.hid hB; have X1 := Lib.hid (Y1.out.andThen ho HLO.out); have k2_1 : v1.cell? ⟨bb, 2, none⟩ = some (.int .i64 9) := hB.mem.head.cell 2; have k3_1 : v1.cell? ⟨bb, 3, none⟩ = some (.int .i64 1) := hB.mem.head.cell 3; clear hB ho)
          | (go_at_call 7; (with_reducible refine (playWord_any 9 1 10 p v1 K10.out).mono ?_); rintro e z2 ⟨rfl, hz⟩; rw [E10.out]; have Z2 := Lib.hid hz; have Y2 := Lib.hid (X1.out.thenF hz); clear hz)
          | (go_at_call 6; (with_reducible refine (playPut_any (i := A10) (v := bv) (B1.out.adds Z2.out) (I10.out _ (show (((S0).acc 2 A9 sv) : StoreS).ws.length = (Lay.words 9 1).toNat by simpa [StoreS.acc] using HLN.out)) (I10.out _ (show (((S0).acc 2 A9 sv) : StoreS).ws.length = (Lay.words 9 1).toNat by simpa [StoreS.acc] using HLN.out)) HBB.out).mono ?_); rintro e v2 ⟨rfl, hB, ho⟩; have B2 := Lib.hid hB; have X2 := Lib.hid (Y2.out.andThen ho HLO.out); have k2_2 : v2.cell? ⟨bb, 2, none⟩ = some (.int .i64 9) := hB.mem.head.cell 2; have k3_2 : v2.cell? ⟨bb, 3, none⟩ = some (.int .i64 1) := hB.mem.head.cell 3; clear hB ho)
          | (go_at_call 7; (with_reducible refine (playWord_any 9 1 12 p v2 K12.out).mono ?_); rintro e z3 ⟨rfl, hz⟩; rw [E12.out]; have Z3 := Lib.hid hz; have Y3 := Lib.hid (X2.out.thenF hz); clear hz)
          | (go_at_call 6; (with_reducible refine (playPut_any (i := A12) (v := al) (B2.out.adds Z3.out) (I12.out _ (show (((((S0).acc 2 A9 sv)).acc 2 A10 bv) : StoreS).ws.length = (Lay.words 9 1).toNat by simpa [StoreS.acc] using HLN.out)) (I12.out _ (show (((((S0).acc 2 A9 sv)).acc 2 A10 bv) : StoreS).ws.length = (Lay.words 9 1).toNat by simpa [StoreS.acc] using HLN.out)) H2.out).mono ?_); rintro e v3 ⟨rfl, hB, ho⟩; have B3 := Lib.hid hB; have X3 := Lib.hid (Y3.out.andThen ho HLO.out); have k2_3 : v3.cell? ⟨bb, 2, none⟩ = some (.int .i64 9) := hB.mem.head.cell 2; have k3_3 : v3.cell? ⟨bb, 3, none⟩ = some (.int .i64 1) := hB.mem.head.cell 3; clear hB ho)
          | (go_at_call 7; (with_reducible refine (playWord_any 9 1 13 p v3 K13.out).mono ?_); rintro e z4 ⟨rfl, hz⟩; rw [E13.out]; have Z4 := Lib.hid hz; have Y4 := Lib.hid (X3.out.thenF hz); clear hz)
          | (go_at_call 6; (with_reducible refine (playPut_any (i := A13) (v := mk) (B3.out.adds Z4.out) (I13.out _ (show (((((((S0).acc 2 A9 sv)).acc 2 A10 bv)).acc 2 A12 al) : StoreS).ws.length = (Lay.words 9 1).toNat by simpa [StoreS.acc] using HLN.out)) (I13.out _ (show (((((((S0).acc 2 A9 sv)).acc 2 A10 bv)).acc 2 A12 al) : StoreS).ws.length = (Lay.words 9 1).toNat by simpa [StoreS.acc] using HLN.out)) H3.out).mono ?_); rintro e v4 ⟨rfl, hB, ho⟩; have B4 := Lib.hid hB; have X4 := Lib.hid (Y4.out.andThen ho HLO.out); clear hB ho))
      have hl4 : (((((((((S0).acc 2 A9 sv)).acc 2 A10 bv)).acc 2 A12 al)).acc 2 A13 mk)).ws.length = (Lay.words 9 1).toNat := by simpa [StoreS.acc] using HLN.out
      obtain ⟨S4, hS4⟩ : ∃ s, ((((((((S0).acc 2 A9 sv)).acc 2 A10 bv)).acc 2 A12 al)).acc 2 A13 mk) = s := ⟨_, rfl⟩
      rw [hS4] at B4 hl4
      clear hS4
      obtain ⟨x0, x1, x2, x3, x4, x5, x6, ok, hrd⟩ := read_both B4.out HMAY.out hl4 hl4 rfl p
      obtain ⟨L, hL, hsp⟩ := spans_both B4.out HMAY.out hl4 hl4 rfl
      have HRD := Lib.hid (fun W (h : Adds v4 W) => hrd W h); have HSP := Lib.hid (fun W (h : Adds v4 W) => hsp W h); have HLL := Lib.hid hL
      have heq := fun W => span_eql W x0 x1 x2 x3 x4 x5 x6
      clear hrd hsp hL hl4
      go_upto_region 11 with (first
          | (go_at_call 8; refine (HRD.out v4 (Only.refl _ _)).1.mono ?_; rintro e u1 ⟨rfl, hz⟩; have U1 := Lib.hid hz; clear hz)
          | (go_at_call 9; refine (HRD.out _ (U1.out.alloc (.cells #[.int .i64 x0, .int .i64 x1, .int .i64 x2, .int .i64 x3, .int .i64 x4, .int .u64 x5, .int .u64 x6] 39))).2.mono ?_; rintro e u2 ⟨rfl, hz⟩; have hb := (Blk.new u1 #[.int .i64 x0, .int .i64 x1, .int .i64 x2, .int .i64 x3, .int .i64 x4, .int .u64 x5, .int .u64 x6] 39).only hz id; obtain ⟨q0, q1, q2, q3, q4, q5, q6, -⟩ := hb.seven; have U2 := Lib.hid ((U1.out.alloc (.cells #[.int .i64 x0, .int .i64 x1, .int .i64 x2, .int .i64 x3, .int .i64 x4, .int .u64 x5, .int .u64 x6] 39)).thenF hz); have hq := hb.lt; clear hz hb))
      obtain ⟨W5, hW5⟩ : ∃ W, u2.alloc (.cells #[.int .i64 x0, .int .i64 x1, .int .i64 x2, .int .i64 x3, .int .i64 x4, .int .u64 x5, .int .u64 x6] 39) = W := ⟨_, rfl⟩
      obtain ⟨r0, r1, r2, r3, r4, r5, r6, -⟩ := (Blk.new u2 #[.int .i64 x0, .int .i64 x1, .int .i64 x2, .int .i64 x3, .int .i64 x4, .int .u64 x5, .int .u64 x6] 39).seven
      have hA5 : Adds u2 W5 := by rw [← hW5]; exact (Only.refl (fun _ => False) u2).alloc _
      have q0 := cellA q0 hA5; have q1 := cellA q1 hA5; have q2 := cellA q2 hA5; have q3 := cellA q3 hA5; have q4 := cellA q4 hA5; have q5 := cellA q5 hA5; have q6 := cellA q6 hA5
      rw [hW5] at r0 r1 r2 r3 r4 r5 r6 ⊢
      have U3 := Lib.hid (U2.out.thenF hA5)
      clear hW5 hA5
      go_wp2_with (first
          | (go_at_call 11; refine (HSP.out _ U3.out).1.mono ?_; rintro e t1 ⟨v, rfl, hr, hz⟩; have R1 := Lib.hid hr; have T1 := Lib.hid (U3.out.thenF hz); clear hr hz)
          | (go_at_call 12; refine (HSP.out _ T1.out).2.mono ?_; rintro e t2 ⟨v', rfl, hr, hz⟩; have R2 := Lib.hid hr; have R3 := Lib.hid (ownsRow_only R1.out hz (fun _ _ => id)); have T2 := Lib.hid (T1.out.thenF hz); clear hr hz)
          | (go_at_call 10; refine (sameSpans_any HLL.out R3.out R2.out).mono ?_; rintro e t3 ⟨rfl, kk, rfl⟩)
          | (go_at_call 13; refine (awake14_any _ (HT.out.adds ((X4.out.thenF T2.out).drewN kk))).mono ?_; rintro e t4 ⟨rfl, hz⟩))
      go_ret
      exact ⟨rfl, ((X4.out.thenF T2.out).drewN kk).thenF hz⟩
theorem recordWords_law (a0 : Int) (f0 : (Lit.int .u64 a0).wf = true) (a1 : Int) (f1 : (Lit.int .u64 a1).wf = true) (a2 : Int) (f2 : (Lit.int .u64 a2).wf = true) (a3 : Int) (f3 : (Lit.int .u64 a3).wf = true) (a4 : Int) (f4 : (Lit.int .u8 a4).wf = true) (w : World) (hT : Tab w) :
    Calls Tryz.prog 3 #[.int .u64 a0, .int .u64 a1, .int .u64 a2, .int .u64 a3, .int .u8 a4] w fun e w' => e = .returned (.bool true) ∧ Below w.heap.size w w' :=
  (recordWords_walk a0 a1 a2 a3 a4 w hT (bd_u64 f0) (bd_u64 f1) (bd_u64 f2) (bd_u64 f3) (bd_u8 f4)).mono (fun _ _ h => ⟨h.1, h.2.below (Nat.le_refl _) (fun _ _ h => h)⟩)
end Go.Proofs.YtbepbcjklgfmjaaGreatDoor

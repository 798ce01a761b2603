/- ClaimOnce: its walk. By an AI agent. -/
import Derived.Test.YtmnliddjddpchaaGreatZH
import Derived.Test.YtmnliddjddpchaaGreatZE
import Derived.Test.YtmnliddjddpchaaGreatZ8
import Derived.Test.YtmnliddjddpchaaGreatZPlay2
import Derived.Test.YtmnliddjddpchaaGreatZD
import Derived.Deep.DeepCutAuto
import Derived.Deep.RegionHeld3
namespace Go.Proofs.YtmnliddjddpchaaGreat
open Go.RowKit
set_option linter.unusedSimpArgs false
set_option linter.unusedVariables false
theorem infoClaimQ : (Tryz.prog.info? 37).map (fun i => (i.zero, i.size, i.bytes)) = some (some (.pointer none), 1, 8) := by kernel_rfl
theorem infoBoolQ : (Tryz.prog.info? 4).map (fun i => (i.zero, i.size, i.bytes)) = some (some (.bool false), 1, 1) := by kernel_rfl
theorem claimP_none (W : World) (q : Option Addr) : Sem.run Tryz.prog (binOp .eql 37 (.pointer q) (.pointer none)) W = .ok (.bool q.isNone) W := by cases q <;> kernel_rfl
theorem upd_map {α β : Type} (f : α → β) (Q : Nat → Option α) (t : Nat) (o : Option α) : (fun j => (upd Q t o j).map f) = upd (fun j => (Q j).map f) t (o.map f) := by
  funext j
  by_cases e : j = t
  · subst e; rw [upd_at, upd_at]
  · rw [upd_ne _ e, upd_ne _ e]
set_option maxRecDepth 100000 in
set_option maxHeartbeats 8000000 in
theorem claimOnce_law (c0 : Int) (f0 : (Lit.int .u8 c0).wf = true) (c1 : Int) (f1 : (Lit.int .u8 c1).wf = true) (a0 : Option Addr) (len0 cap0 : Nat) (zs0 : List Int) (a1 : Option Addr) (len1 cap1 : Nat) (zs1 : List Int) (w : World) (w0 : IsRow .u8 w a0 len0 cap0 zs0) (w1 : IsRow .u64 w a1 len1 cap1 zs1) :
    Calls Tryz.prog 3 #[.int .u8 c0, .int .u8 c1, .slice a0 len0 cap0, .slice a1 len1 cap1] w fun e w' => e = .returned (.bool true) ∧ Below w.heap.size w w' := by
  have HZ := Lib.hid w0; have HW := Lib.hid w1
  obtain ⟨hl0, hcap0⟩ := rows_len w0
  obtain ⟨hl1, hcap1⟩ := rows_len w1
  have b0 := bd_u8 f0; have b1 := bd_u8 f1
  obtain ⟨pn, hP⟩ : ∃ pn : Nat, 1 + c0 % 24 = (pn : Int) := ⟨(1 + c0 % 24).toNat, by omega⟩
  obtain ⟨n, hn⟩ : ∃ n : Nat, 1 + c1 % 6 = (n : Int) := ⟨(1 + c1 % 6).toNat, by omega⟩
  have p1 : 1 ≤ pn := by omega
  have p2 : pn ≤ 24 := by omega
  have n1 : 1 ≤ n := by omega
  have n6 : n ≤ 6 := by omega
  have hmay : Lay.may pn n = true := Lay.may_iff.2 ⟨by omega, by omega, by omega, by omega⟩
  have HLAID := Lib.hid (fun (W : World) (hA : Adds w W) => laid_any (w := W) c0 c1 2 n pn b0 b1 hP hn ⟨by omega, by omega⟩ w1 hA)
  have HMAY := Lib.hid hmay
  have HHD : Hid (Lay.isHead pn n 12 = true) := Lib.hid (HD.to ⟨hmay, by decide, by decide⟩)
  have HCY : Hid (Ph.cyc 2 = true) := Lib.hid (by decide)
  have HWD := Lib.hid (fun (W : World) (hA : Adds w W) (i : Nat) (hi : i < 1000000) => words16_any w1 hA i hi)
  obtain ⟨wv, hwv⟩ : ∃ wv : Nat → Int, wordsV zs1 len1 = wv := ⟨_, rfl⟩
  rw [hwv] at HLAID
  simp only [hwv] at HWD
  have HLEN0 := Lib.hid (laid_len (n := pn) n 2 wv)
  obtain ⟨dr, hdr⟩ : ∃ k : Nat, (if (300 : Int) < (len0 : Int) then (300 : Int) else (len0 : Int)) = (k : Int) := ⟨min len0 300, by split <;> omega⟩
  have hdr2 : dr ≤ len0 ∧ dr ≤ 300 := by split at hdr <;> omega
  have HR0 : Hid (Rnd pn n wv n dr 0 (laidS pn n 2 wv) (fun _ => none) (fun _ => false) (fun _ => 0)) := Lib.hid ⟨0, once_first hmay, fun t e => (by cases e), EndI.fresh n6 (pot_max n6 p2 _ _) (Nat.zero_le _)⟩
  obtain ⟨S0, hS0⟩ : ∃ S0, laidS pn n 2 wv = S0 := ⟨_, rfl⟩
  rw [hS0] at HLAID HLEN0 HR0
  obtain ⟨i0, hi0, hz00, hz01, hz02⟩ := info_parts infoClaimQ
  have mk1 := fun W => run_make (P := Tryz.prog) W 34 37 i0 (.pointer none) Tryz.underlying34 hi0 hz00 .i64 .i64 (n : Int) (n : Int) (by omega) (by omega) (by rw [hz02]; omega) (by omega)
  obtain ⟨i1, hi1, hz10, hz11, hz12⟩ := info_parts infoBoolQ
  have mk2 := fun W => run_make (P := Tryz.prog) W 35 4 i1 (.bool false) Tryz.underlying35 hi1 hz10 .i64 .i64 (n : Int) (n : Int) (by omega) (by omega) (by rw [hz12]; omega) (by omega)
  obtain ⟨i2, hi2, hz20, hz21, hz22⟩ := info_parts infoInt
  have mk3 := fun W => run_make (P := Tryz.prog) W 36 3 i2 (.int .i64 0) Tryz.underlying36 hi2 hz20 .i64 .i64 (pn : Int) (pn : Int) (by omega) (by omega) (by rw [hz22]; omega) (by omega)
  have hcs1 : (Value.pointer none).cells = #[Value.pointer none] := rfl
  have hcs2 : (Value.bool false).cells = #[Value.bool false] := rfl
  have hcs3 : (Value.int .i64 0).cells = #[Value.int .i64 0] := rfl
  simp only [Int.toNat_natCast, hz01, Nat.mul_one, hcs1] at mk1
  simp only [Int.toNat_natCast, hz11, Nat.mul_one, hcs2] at mk2
  simp only [Int.toNat_natCast, hz21, Nat.mul_one, hcs3] at mk3
  clear hcs1 hcs2 hcs3 w0 w1 hmay f0 f1 b0 b1 hP hn hi0 hi1 hi2 hz00 hz01 hz02 hz10 hz11 hz12 hz20 hz21 hz22 hS0 hwv
  go_enter Tryz.func3, Tryz.ntmps3
  go_upto_region 4 with (go_at_call 5; refine (HLAID.out _ (Only.refl _ _)).mono ?_; rintro e w3 ⟨ab, sb, sm, rb, rg, bb, tb, tm, ub, fb, rfl, hB, ho, hlow⟩; have HB := Lib.hid hB; have HO := Lib.hid ho; have HLOW := Lib.hid hlow; clear hB ho hlow)
  have m3 : w3.cell? ⟨bb, 3, none⟩ = some (.int .i64 n) := HB.out.mem.head.cell 3
  go_upto_region 5 with fail
  clear m3 HLAID
  have hw3 := HO.out.size
  go_cut [12, 13] (fun y z wc => ∃ onb ovb, y = .slice (some ⟨onb, 0, none⟩) n n ∧ z = .slice (some ⟨ovb, 0, none⟩) n n ∧ Hid (Adds w3 wc ∧ Blk wc onb (rowOf n (fun _ => .pointer none)) 37 ∧ Blk wc ovb (rowOf n (fun _ => .bool false)) 4 ∧ w3.heap.size ≤ onb ∧ w3.heap.size ≤ ovb))
  case first =>
    go_region
    all_goals
      go_wp2_with fail
      go_meet
      first
        | exact ⟨w3.heap.size, w3.heap.size + 1, rfl, rfl, Lib.hid ⟨(((Only.refl _ w3).alloc _).alloc _).drew, by rw [← madeRow]; exact (Blk.new w3 _ _).alloc _, by rw [← madeRow]; exact blk_new1 _ _ _ _, by omega, by omega⟩⟩
        | exact ⟨w3.heap.size + 1, w3.heap.size, rfl, rfl, Lib.hid ⟨(((Only.refl _ w3).alloc _).alloc _).drew, by rw [← madeRow]; exact blk_new1 _ _ _ _, by rw [← madeRow]; exact (Blk.new w3 _ _).alloc _, by omega, by omega⟩⟩
  case rest =>
    obtain ⟨onb, ovb, rfl, rfl, HC⟩ := hcut
    clear mk1 mk2
    have m2 : wc.cell? ⟨bb, 2, none⟩ = some (.int .i64 pn) := (HB.out.adds HC.out.1).mem.head.cell 2
    obtain ⟨hdb, hhdb⟩ : ∃ b, wc.heap.size = b := ⟨_, rfl⟩
    obtain ⟨wi, hwi⟩ : ∃ W, wc.alloc (.cells (madeCells #[Value.int .i64 0] pn) 3) = W := ⟨_, rfl⟩
    have hI0 : OH w ab sb sm rb rg bb tb tm ub fb onb ovb hdb n pn wi S0 S0 (fun _ => none) (fun _ => none) (fun _ => false) (fun _ => 0) := by
      obtain ⟨a1, a2, a3, a4, a5⟩ := HC.out
      have hA : Adds wc wi := by rw [← hwi]; exact (Only.refl (fun _ => False) wc).alloc _
      have hfb := HB.out.mem.fr.lt
      have hsz := a1.size
      refine ⟨HB.out.adds (a1.thenF hA), HLEN0.out, fun t z e => (by cases e), fun t z e => (by cases e), fun t t' z z' _ e => (by cases e), fun t z e => (by cases e), fun t z e => (by cases e), ⟨HLOW.out, by omega, by omega, by omega⟩, (HO.out.thenF a1).thenF hA, a2.only hA id, a3.only hA id, ?_, by omega⟩
      rw [← hwi, ← hhdb, ← madeRow]; exact Blk.new wc _ _
    have HI0 := Lib.hid hI0
    clear hI0 HC HB HO HLOW HLEN0 hw3
    go_wp2_with fail
    clear mk3 m2 hhdb hwi
    go_loopw [16] (fun i wr => ∃ (k : Nat) (s : StoreS) (Q : Nat → Option OnL) (Ms : Nat → Option Nat) (Ov : Nat → Bool) (Hd : Nat → Int), k ≤ dr + 6000 ∧ i = .int .i64 k ∧ Hid (OH w ab sb sm rb rg bb tb tm ub fb onb ovb hdb n pn wr s S0 Q Ms Ov Hd) ∧ Hid (Rnd pn n wv n dr k s (fun j => (Q j).map (fun z => z.2.2)) Ov Hd) ∧ Hid (∀ t, t < n → Q t = none → Ms t = none)) (fun i _ => dr + 6000 - (intOf i).toNat)
    case atStart => exact ⟨0, _, _, _, _, _, Nat.zero_le _, rfl, HI0, HR0, Lib.hid (fun _ _ _ => rfl)⟩
    case round =>
      obtain ⟨k, s, Q, Ms, Ov, Hd, hk, rfl, HI, HR, HN⟩ := hrel
      clear HI0 HR0
      have hw6 : IntKind.i64.wrap ((dr : Int) + 6000) = (dr : Int) + 6000 := by rw [IntKind.wrap_i64]; omega
      by_cases c1 : k < dr + 6000
      · have hwk : IntKind.i64.wrap ((k : Int) + 1) = (k : Int) + 1 := by rw [IntKind.wrap_i64]; omega
        have hn0 : ¬ (n : Int) = 0 := by omega
        have g1 : (k : Int) < (dr : Int) + 6000 := by omega
        obtain ⟨t0, ht0⟩ : ∃ t0, k % n = t0 := ⟨_, rfl⟩
        have tq : Int.tmod (k : Int) (n : Int) = (t0 : Int) := by rw [← ht0, Int.tmod_eq_emod_of_nonneg (by omega)]; omega
        have tq2 : (k : Int) % (n : Int) = (t0 : Int) := by rw [← ht0]; omega
        have htn : t0 < n := by rw [← ht0]; exact Nat.mod_lt _ n1
        have tw : IntKind.i64.wrap (t0 : Int) = (t0 : Int) := by rw [IntKind.wrap_i64]; omega
        go_upto_if 60 with fail
        go_cut [17] (fun y wd => wd = wr ∧ ∃ t : Nat, t < n ∧ y = .int .i64 (t : Int) ∧ (dr ≤ k → t = k % n))
        case first =>
          by_cases c2 : k < dr
          · have c4 : k < len0 := by omega
            obtain ⟨b, off, rfl, hb, hc, hcw⟩ := rows_at HZ.out c4
            obtain ⟨x, hx⟩ : ∃ x, x = zs0.getD k 0 := ⟨_, rfl⟩
            rw [← hx] at hc hcw
            have hxb := bd_u8 hcw
            have d0 : wr.cell? ⟨b, off + k, none⟩ = some (.int .u8 x) := (HI.out.adds.cellF (p := ⟨b, off + k, none⟩) hb id).trans hc
            have ex : IntKind.i64.wrap x = x := by rw [IntKind.wrap_i64]; omega
            obtain ⟨t1, ht1⟩ : ∃ t1 : Nat, x % (n : Int) = t1 := ⟨(x % (n : Int)).toNat, by have := Int.emod_nonneg x hn0; omega⟩
            have hb1 : x % (n : Int) < n := Int.emod_lt_of_pos _ (by omega)
            have tq1 : Int.tmod x (n : Int) = (t1 : Int) := by rw [Int.tmod_eq_emod_of_nonneg hxb.1]; exact ht1
            have tw1 : IntKind.i64.wrap (t1 : Int) = (t1 : Int) := by rw [IntKind.wrap_i64]; omega
            have gg : (k : Int) < (dr : Int) := by omega
            clear hx hc hcw hb tq tq2 tw
            go_wp2_with fail
            go_meet
            exact ⟨rfl, t1, by omega, rfl, fun h => by omega⟩
          · have gg : ¬ (k : Int) < (dr : Int) := by omega
            go_wp2_with fail
            go_meet
            exact ⟨rfl, t0, htn, rfl, fun _ => ht0.symm⟩
        case rest =>
          obtain ⟨rfl, t, ht, rfl, htk⟩ := hcut
          clear tq tq2 tw htn ht0
          obtain ⟨o1, -, v1, -⟩ := HI.out.cells ht
          have g3 : (0 : Int) ≤ (t : Int) := by omega
          have g4 : (t : Int) < n := by omega
          have HTK := Lib.hid htk
          clear htk
          rcases Bool.eq_false_or_eq_true (Ov t) with hov | hov
          · rw [hov] at v1
            go_wp2_with fail
            go_roundw
            case rel => exact ⟨k + 1, s, Q, Ms, Ov, Hd, by omega, by go_num, HI, Lib.hid (HR.out.skip n6 n1 p2 HTK.out hov), HN⟩
            case measure => simp [intOf]; omega
          · rw [hov] at v1
            obtain ⟨qa, hqa⟩ : ∃ qa : Option Addr, ptrV (Ms t) = .pointer qa := ⟨_, rfl⟩
            rw [hqa] at o1
            have HQA := Lib.hid hqa
            have HOV := Lib.hid hov
            have hq := fun W => claimP_none W qa
            clear hqa hov
            go_upto_if 76 with fail
            clear v1
            go_cut [17] (fun y wd => y = .int .i64 (t : Int) ∧ ∃ (mb pb : Nat) (q : ClmSt) (Q' : Nat → Option OnL) (Ms' : Nat → Option Nat), Hid (OH w ab sb sm rb rg bb tb tm ub fb onb ovb hdb n pn wd s S0 Q' Ms' Ov Hd) ∧ Hid (Q' t = some (mb, pb, q)) ∧ Hid (Rnd pn n wv n dr k s (fun j => (Q' j).map (fun z => z.2.2)) Ov Hd) ∧ Hid (∀ j, j < n → Q' j = none → Ms' j = none))
            case first =>
              rcases hQt : Q t with _ | ⟨mb, pb, q⟩
              · have hmt := HN.out t ht hQt
                obtain rfl : qa = none := by have := HQA.out; rw [hmt] at this; simpa [ptrV] using this.symm
                have HMT := Lib.hid hmt; have HQT := Lib.hid hQt
                have m2 : wc.cell? ⟨bb, 2, none⟩ = some (.int .i64 pn) := HI.out.both.mem.head.cell 2
                have m3 : wc.cell? ⟨bb, 3, none⟩ = some (.int .i64 n) := HI.out.both.mem.head.cell 3
                clear hq hmt hQt
                go_wp2_with (go_at_call 6; refine (newClaim_ok pn n 12 2 _ HHD.out HCY.out).mono ?_; rintro e v2 ⟨mb, pb, nn, bp, bm, rfl, hc, hp, ho1, l1, l2⟩; have HI3 := Lib.hid (HI.out.add ho1); have HC3 := Lib.hid hc; have HP3 := Lib.hid hp; have HL3 := Lib.hid (And.intro l1 l2); obtain ⟨e1, e2, -, -⟩ := HI3.out.cells ht; clear hc hp l1 l2 ho1)
                go_meet
                have hN := HI3.out.nbm ht HMT.out HC3.out.b
                have hrow := newCl_row HC3.out HP3.out HI3.out.orow (.inl rfl) hN (only_at v2 onb t (ptrV (some mb)))
                have hX : ClX pn n 12 2 (v2.setCell ⟨onb, t, none⟩ (ptrV (some mb))) mb pb (.inl (.pop .load)) := ⟨nn, bp, bm, _, _, hrow.1, _, hrow.2⟩
                have h5 := HI3.out.setO HMAY.out ht HQT.out (some mb)
                have h6 := h5.begin (z := (mb, pb, .pop .load)) HI.out.lts HI.out.adds.size ht (upd_at _ _ _) ⟨hX, hX.run trivial⟩ HL3.out.1 HL3.out.2
                refine ⟨rfl, mb, pb, .pop .load, _, _, Lib.hid h6, Lib.hid (upd_at _ _ _), Lib.hid ?_, Lib.hid (fun j hj e => ?_)⟩
                · rw [upd_map]
                  exact HR.out.begin HMAY.out HOV.out (by show (Q t).map _ = none; rw [HQT.out]; rfl)
                · by_cases q : j = t
                  · subst q; rw [upd_at] at e; cases e
                  · rw [upd_ne _ q] at e ⊢; exact HN.out j hj e
              · have hmt := HI.out.at_ t _ hQt
                obtain rfl : qa = some ⟨mb, 0, none⟩ := by have := HQA.out; rw [hmt] at this; simpa [ptrV] using this.symm
                have HQT := Lib.hid hQt
                clear hmt hQt
                go_wp2_with fail
                go_meet
                exact ⟨rfl, mb, pb, q, Q, Ms, HI, HQT, HR, HN⟩
            case rest =>
              obtain ⟨rfl, mb, pb, q, Q', Ms', HI2, HQ, HR2, HN2⟩ := hcut
              clear HI HR HN HQA hq o1
              have hms := HI2.out.at_ t _ HQ.out
              obtain ⟨o1, -, -, -⟩ := HI2.out.cells ht
              rw [hms] at o1
              replace o1 : wc.cell? ⟨onb, t, none⟩ = some (.pointer (some ⟨mb, 0, none⟩)) := o1
              have HMS := Lib.hid hms
              have hqq : (fun j => (Q' j).map (fun z : OnL => z.2.2)) t = some q := by show (Q' t).map _ = _; rw [HQ.out]; rfl
              have hst := HR2.out.step HMAY.out n6 p2 ht HOV.out hqq
              obtain ⟨sn, hsn⟩ : ∃ x, ((claimA pn n 12 2).ac q).act s = x := ⟨_, rfl⟩
              obtain ⟨nx, hnx⟩ : ∃ x, (claimA pn n 12 2).nx q (s.word ((claimA pn n 12 2).ac q).pos) = x := ⟨_, rfl⟩
              have HDID : Hid (nx ≠ .inr (-2) → ∀ W, Adds wc W → Calls Tryz.prog 7 #[.pointer (some ⟨mb, 0, none⟩), .pointer (some ⟨ab, 0, none⟩)] W fun e w' => (∃ v, e = .returned (.agg v)) ∧ ∃ pb1, Hid (ClX pn n 12 2 w' mb pb1 nx ∧ OH w ab sb sm rb rg bb tb tm ub fb onb ovb hdb n pn w' sn S0 (upd Q' t none) Ms' Ov Hd ∧ ∀ k1, nx = .inl k1 → OH w ab sb sm rb rg bb tb tm ub fb onb ovb hdb n pn w' sn S0 (upd Q' t (some (mb, pb1, k1))) Ms' Ov Hd)) := Lib.hid (fun hb W hA => by
                have := (HI2.out.add hA).did HMAY.out HQ.out (by rw [hnx]; exact hb)
                rw [hnx, hsn] at this
                exact this)
              rw [hnx, hsn] at hst
              clear hnx hsn hms hqq
              rcases hst with ⟨k1, e1, R1⟩ | ⟨j, e1, hj, h0, h1, R1⟩ | ⟨e1, R1⟩
              · subst e1
                have HST := Lib.hid (HDID.out (by simp))
                have HR3 := Lib.hid R1
                clear HDID R1
                go_wp2_with (first
                  | (go_at_call 7; refine (HST.out _ (Only.refl _ _)).mono ?_; rintro e v1 ⟨⟨vv, rfl⟩, pb1, HV1⟩; obtain ⟨u1, -, -, -⟩ := HV1.out.2.1.cells ht; rw [HMS.out] at u1; replace u1 : v1.cell? ⟨onb, t, none⟩ = some (.pointer (some ⟨mb, 0, none⟩)) := u1)
                  | (go_at_call 8; refine (show Calls Tryz.prog 8 #[.pointer (some ⟨mb, 0, none⟩)] v1 fun e w' => e = .returned (.bool false) ∧ v1 = w' from clX_done HV1.out.1).mono ?_; rintro e v2 ⟨rfl, rfl⟩))
                go_roundw
                case rel =>
                  refine ⟨k + 1, _, _, _, _, _, by omega, by go_num, Lib.hid (HV1.out.2.2 k1 rfl), Lib.hid (by rw [upd_map]; exact HR3.out), Lib.hid (fun i hi e => ?_)⟩
                  by_cases q : i = t
                  · subst q; rw [upd_at] at e; cases e
                  · rw [upd_ne _ q] at e; exact HN2.out i hi e
                case measure => simp [intOf]; omega
              · subst e1
                have HST := Lib.hid (HDID.out (by intro e; injection e with e; omega))
                have HR3 := Lib.hid R1; have H0 := Lib.hid h0
                have H1 : Hid (pn = 1 → ∀ t' z, upd Q' t none t' = some z → ∃ k, z.2.2 = .pop k) := Lib.hid (fun e t' z hz => by
                  have h2 := h1 e t'
                  have e2 := congrFun (upd_map (fun z : OnL => z.2.2) Q' t none) t'
                  rcases z with ⟨a, b, c⟩
                  cases c with
                  | pop k => exact ⟨k, rfl⟩
                  | hv p k' =>
                    refine (h2 p k' ?_).elim
                    show upd (fun j => (Q' j).map (fun z : OnL => z.2.2)) t none t' = _
                    rw [← show (upd Q' t none t').map (fun z : OnL => z.2.2) = upd (fun j => (Q' j).map (fun z : OnL => z.2.2)) t none t' from e2, hz]; rfl)
                have gj : (0 : Int) ≤ (j : Int) := by omega
                have gj2 : (j : Int) < pn := by omega
                clear HDID R1 h0 h1
                go_wp2_with (first
                  | (go_at_call 7; refine (HST.out _ (Only.refl _ _)).mono ?_; rintro e v1 ⟨⟨vv, rfl⟩, pb1, HV1⟩; obtain ⟨u1, -, -, -⟩ := HV1.out.2.1.cells ht; rw [HMS.out] at u1; replace u1 : v1.cell? ⟨onb, t, none⟩ = some (.pointer (some ⟨mb, 0, none⟩)) := u1; have u2 : v1.cell? ⟨bb, 2, none⟩ = some (.int .i64 pn) := HV1.out.2.1.both.mem.head.cell 2; obtain ⟨u3, u4⟩ := HV1.out.2.1.hcell hj; rw [H0.out] at u3; have HH := Lib.hid (HV1.out.2.1.setH HMAY.out H0.out hj H1.out 1); obtain ⟨u5, u6, -, -⟩ := HH.out.cells ht)
                  | (go_at_call 8; refine (show Calls Tryz.prog 8 #[.pointer (some ⟨mb, 0, none⟩)] v1 fun e w' => e = .returned (.bool true) ∧ v1 = w' from clX_done HV1.out.1).mono ?_; rintro e v2 ⟨rfl, rfl⟩)
                  | (go_at_call 9; refine (show Calls Tryz.prog 9 #[.pointer (some ⟨mb, 0, none⟩)] v1 fun e w' => e = .returned (.int .i64 j) ∧ v1 = w' from clX_page HV1.out.1).mono ?_; rintro e v2 ⟨rfl, rfl⟩))
                go_roundw
                case rel =>
                  refine ⟨k + 1, _, _, _, _, _, by omega, by go_num, Lib.hid (HH.out.setO HMAY.out ht (upd_at _ _ _) none), Lib.hid (by rw [upd_map]; exact HR3.out), Lib.hid (fun i hi e => ?_)⟩
                  by_cases q : i = t
                  · subst q; rw [upd_at]
                  · rw [upd_ne _ q] at e ⊢; exact HN2.out i hi e
                case measure => simp [intOf]; omega
              · subst e1
                have HST := Lib.hid (HDID.out (by intro e; injection e with e; omega))
                have HR3 := Lib.hid R1
                clear HDID R1
                go_wp2_with (first
                  | (go_at_call 7; refine (HST.out _ (Only.refl _ _)).mono ?_; rintro e v1 ⟨⟨vv, rfl⟩, pb1, HV1⟩; obtain ⟨u1, -, u3, u4⟩ := HV1.out.2.1.cells ht; rw [HMS.out] at u1; replace u1 : v1.cell? ⟨onb, t, none⟩ = some (.pointer (some ⟨mb, 0, none⟩)) := u1; have HH := Lib.hid (HV1.out.2.1.setV HMAY.out ht (upd_at _ _ _)); obtain ⟨u5, u6, -, -⟩ := HH.out.cells ht)
                  | (go_at_call 8; refine (show Calls Tryz.prog 8 #[.pointer (some ⟨mb, 0, none⟩)] v1 fun e w' => e = .returned (.bool true) ∧ v1 = w' from clX_done HV1.out.1).mono ?_; rintro e v2 ⟨rfl, rfl⟩)
                  | (go_at_call 9; refine (show Calls Tryz.prog 9 #[.pointer (some ⟨mb, 0, none⟩)] v1 fun e w' => e = .returned (.int .i64 (-1)) ∧ v1 = w' from clX_page HV1.out.1).mono ?_; rintro e v2 ⟨rfl, rfl⟩))
                go_roundw
                case rel =>
                  refine ⟨k + 1, _, _, _, _, _, by omega, by go_num, Lib.hid (HH.out.setO HMAY.out ht (upd_at _ _ _) none), Lib.hid (by rw [upd_map]; exact HR3.out), Lib.hid (fun i hi e => ?_)⟩
                  by_cases q : i = t
                  · subst q; rw [upd_at]
                  · rw [upd_ne _ q] at e ⊢; exact HN2.out i hi e
                case measure => simp [intOf]; omega
      · have hke : k = dr + 6000 := by omega
        obtain ⟨w5, hw5⟩ : ∃ x, x = wr := ⟨_, rfl⟩
        subst hw5
        have HFIN := Lib.hid (HR.out.over n1 (fun t h => by
          rcases hQ : Q t with _ | z
          · rfl
          · have := HI.out.lt t z hQ; omega) (by omega))
        have g1 : ¬ (k : Int) < (dr : Int) + 6000 := by omega
        clear HR HN
        go_wp2_with fail
        clear g1 hw6
        go_loopw [19] (fun i wz => ∃ p : Nat, p ≤ pn ∧ i = .int .i64 p ∧ Hid (Adds w5 wz)) (fun i _ => pn - (intOf i).toNat)
        case atStart => exact ⟨0, Nat.zero_le _, rfl, Lib.hid (Only.refl _ _)⟩
        case round =>
          obtain ⟨p, hp, rfl, HZ0⟩ := hrel
          have HAZ := Lib.hid (HI.out.adds.thenF HZ0.out)
          have HM2 := Lib.hid (show w5.cell? ⟨bb, 2, none⟩ = some (.int .i64 pn) from HI.out.both.mem.head.cell 2)
          have HM3 := Lib.hid (show w5.cell? ⟨bb, 3, none⟩ = some (.int .i64 n) from HI.out.both.mem.head.cell 3)
          have m2 : wr.cell? ⟨bb, 2, none⟩ = some (.int .i64 pn) := cell_al HM2.out HZ0.out
          by_cases c2 : p < pn
          · have m3 : wr.cell? ⟨bb, 3, none⟩ = some (.int .i64 n) := cell_al HM3.out HZ0.out
            obtain ⟨h1, h2, h3, h4⟩ := HFIN.out p c2
            have m4 : wr.cell? ⟨hdb, p, none⟩ = some (.int .i64 1) := by rw [← h1]; exact cell_al (HI.out.hcell c2).1 HZ0.out
            have gp : (p : Int) < pn := by omega
            have gp0 : (0 : Int) ≤ (p : Int) := by omega
            have pos : ∀ kk : Int, 9 ≤ kk → kk ≤ 13 → Lay.pageAt pn n kk p = pgAt pn n kk p ∧ Lay.pageOk pn n kk p = true ∧ s.inR (pgAt pn n kk p) := fun kk a b => by
              have q := pgAt_eq (k := kk) (p := (p : Int)) HMAY.out a b (by omega) (by omega)
              exact ⟨rfl, q.2.1, ⟨by omega, by rw [HI.out.len]; omega⟩⟩
            have P9 := Lib.hid (pos 9 (by decide) (by decide)); have P12 := Lib.hid (pos 12 (by decide) (by decide)); have P13 := Lib.hid (pos 13 (by decide) (by decide))
            have W9 := Lib.hid h2; have W12 := Lib.hid h3; have W13 := Lib.hid h4
            have e1 : IntKind.i64.wrap (2 * (p : Int)) = 2 * (p : Int) := by rw [IntKind.wrap_i64]; omega
            have e2 : IntKind.i64.wrap (2 * (p : Int) + 1) = 2 * (p : Int) + 1 := by rw [IntKind.wrap_i64]; omega
            have e3 : IntKind.i64.wrap ((p : Int) + 1) = (p : Int) + 1 := by rw [IntKind.wrap_i64]; omega
            obtain ⟨X, hX⟩ : ∃ X, wv (2 * p) = X := ⟨_, rfl⟩
            obtain ⟨Y, hY⟩ : ∃ Y, wv (2 * p + 1) = Y := ⟨_, rfl⟩
            rw [hX, hY] at W12
            obtain ⟨KH, hKH⟩ : ∃ K, Ph.mk 2 2 = K := ⟨_, rfl⟩
            have W9' : Hid (s.word (pgAt pn n 9 p) = KH) := Lib.hid (W9.out.trans hKH)
            have HKH := Lib.hid hKH
            have HW2 : Hid (Calls Tryz.prog 10 #[.slice a1 len1 cap1, .int .i64 (2 * (p : Int))] wr fun e w' => e = .returned (.int .u64 X) ∧ wr = w') := Lib.hid (by
              have := HWD.out wr HAZ.out (2 * p) (by omega)
              rw [hX, show ((2 * p : Nat) : Int) = 2 * (p : Int) by omega] at this
              exact this)
            have HW3 : Hid (Calls Tryz.prog 10 #[.slice a1 len1 cap1, .int .i64 (2 * (p : Int) + 1)] wr fun e w' => e = .returned (.int .u64 Y) ∧ wr = w') := Lib.hid (by
              have := HWD.out wr HAZ.out (2 * p + 1) (by omega)
              rw [hY, show ((2 * p + 1 : Nat) : Int) = 2 * (p : Int) + 1 by omega] at this
              exact this)
            clear h1 h2 h3 h4 pos hX hY hKH W9
            go_wp2_with (first
              | (go_at_call 10; (with_reducible refine HW2.out.mono ?_); rintro e vp ⟨rfl, rfl⟩)
              | (go_at_call 10; (with_reducible refine HW3.out.mono ?_); rintro e vp ⟨rfl, rfl⟩)
              | (go_at_call 12; (with_reducible refine (playWord_any pn n 12 p wr P12.out.2.1).mono ?_); rintro e z1 ⟨rfl, hz⟩; rw [P12.out.1]; have HZ1 := Lib.hid (HZ0.out.thenF hz); clear hz)
              | (go_at_call 11; (with_reducible refine (playRead_any (i := pgAt pn n 12 p) (HI.out.both.yard.adds HZ1.out) P12.out.2.2).mono ?_); rintro e z2 ⟨rfl, hz⟩; rw [W12.out]; have HZ2 := Lib.hid (HZ1.out.thenF hz); have k2 := cell_al HM2.out HZ2.out; have k3 := cell_al HM3.out HZ2.out; clear hz)
              | (go_at_call 12; (with_reducible refine (playWord_any pn n 13 p z2 P13.out.2.1).mono ?_); rintro e z3 ⟨rfl, hz⟩; rw [P13.out.1]; have HZ3 := Lib.hid (HZ2.out.thenF hz); clear hz)
              | (go_at_call 11; (with_reducible refine (playRead_any (i := pgAt pn n 13 p) (HI.out.both.yard.adds HZ3.out) P13.out.2.2).mono ?_); rintro e z4 ⟨rfl, hz⟩; rw [W13.out]; have HZ4 := Lib.hid (HZ3.out.thenF hz); have k4 := cell_al HM2.out HZ4.out; have k5 := cell_al HM3.out HZ4.out; clear hz)
              | (go_at_call 12; (with_reducible refine (playWord_any pn n 9 p z4 P9.out.2.1).mono ?_); rintro e z5 ⟨rfl, hz⟩; rw [P9.out.1]; have HZ5 := Lib.hid (HZ4.out.thenF hz); clear hz)
              | (go_at_call 11; (with_reducible refine (playRead_any (i := pgAt pn n 9 p) (HI.out.both.yard.adds HZ5.out) P9.out.2.2).mono ?_); rintro e z6 ⟨rfl, hz⟩; rw [W9'.out]; have HZ6 := Lib.hid (HZ5.out.thenF hz); clear hz)
              | (go_at_call 13; (with_reducible refine (state16_any 2 2 _).mono ?_); rintro e vp ⟨rfl, rfl⟩; rw [HKH.out]))
            go_roundw
            case rel => exact ⟨p + 1, by omega, by go_num, HZ6⟩
            case measure => simp [intOf]; omega
          · have gp : ¬ (p : Int) < pn := by omega
            go_wp2_with (go_at_call 14; refine (awake16_any _).mono ?_; rintro e w4 ⟨rfl, ho4⟩)
            go_ret
            exact ⟨rfl, (HAZ.out.thenF ho4).below (Nat.le_refl _) (fun _ _ h => h)⟩
end Go.Proofs.YtmnliddjddpchaaGreat

/- SweepRuns: its walk. By an AI agent. -/
import Derived.Test.YtfgjacgkgonglaaGreatSweepInv
import Derived.Test.YtfgjacgkgonglaaGreatPlay
import Derived.Deep.DeepCutAuto
import Derived.Test.YtfgjacgkgonglaaGreatLanes
import Derived.Test.YtfgjacgkgonglaaGreatSwept
import Derived.Test.YtfgjacgkgonglaaGreatRowAt
namespace Go.Proofs.YtfgjacgkgonglaaGreat
open Go.RowKit
set_option maxRecDepth 100000 in
set_option maxHeartbeats 4000000 in
theorem sweepRuns_law (a0 : Option Addr) (len0 cap0 : Nat) (zs0 : List Int) (a1 : Option Addr) (len1 cap1 : Nat) (zs1 : List Int) (w : World) (w0 : IsRow .u8 w a0 len0 cap0 zs0) (w1 : IsRow .u64 w a1 len1 cap1 zs1) :
    Calls Tryz.prog 3 #[.slice a0 len0 cap0, .slice a1 len1 cap1] w fun e w' => e = .returned (.bool true) ∧ Below w.heap.size w w' := by
  have HZ := Lib.hid w0; have HV := Lib.hid w1
  obtain ⟨hl0, hcap0⟩ := rows_len w0
  obtain ⟨hl1, hcap1⟩ := rows_len w1
  have hmay : Lay.may 4 1 = true := by decide
  have HMAY := Lib.hid hmay
  clear w0 w1 hmay
  go_enter Tryz.func3, Tryz.ntmps3
  go_wp2_with (go_at_call 9; refine (arenas_ok 4 1 _ HMAY.out).mono ?_; rintro e w2 ⟨ab, sb, sm, rb, rg, bb, tb, tm, ub, fb, rfl, hB, ho, hlow⟩; have HB := Lib.hid hB; have HO := Lib.hid ho; have HLOW := Lib.hid hlow; clear hB ho hlow)
  have hz2 := HO.out.size
  simp only [World.size_alloc] at hz2
  have hlow2 := HLOW.out
  simp only [World.size_alloc] at hlow2
  obtain ⟨wi, hwi⟩ : ∃ wi, wi = (w2.alloc (.cells #[.pointer none, .pointer none] 32)).alloc (.cells #[.pointer none, .pointer none] 34) := ⟨_, rfl⟩
  obtain ⟨ob, hob⟩ : ∃ ob, ob = w2.heap.size := ⟨_, rfl⟩
  obtain ⟨qb, hqb⟩ : ∃ qb, qb = w2.heap.size + 1 := ⟨_, rfl⟩
  have hI0 : SI w ab sb sm rb rg bb tb tm ub fb ob qb wi (StoreS.begun (Lay.words 4 1).toNat 0 1) (StoreS.begun (Lay.words 4 1).toNat 0 1) [none, none] [none, none] := by
    have hA : Adds w2 wi := by rw [hwi]; exact ((Only.refl _ _).alloc _).alloc _
    have hlen : (StoreS.begun (Lay.words 4 1).toNat 0 1).ws.length = (Lay.words 4 1).toNat := begun_len _ _ _
    refine ⟨⟨⟨HB.out.adds hA, hlen, hlen, Lanes.empty 2, fun t z e => ?_, ⟨by omega, by omega, by omega, by omega, by omega, by omega⟩, (((Only.refl _ w).alloc _).thenF HO.out).thenF hA⟩, rfl, rfl, ?_, ?_, ⟨by omega, by omega⟩⟩, rfl, fun t z e => ?_⟩
    · rcases t with _ | _ | t <;> simp at e
    · rw [hwi, hob]; exact (Blk.new w2 _ _).alloc _
    · rw [hwi, hqb]
      have := Blk.new (w2.alloc (.cells #[.pointer none, .pointer none] 32)) #[.pointer none, .pointer none] 34
      rwa [World.size_alloc] at this
    · rcases t with _ | _ | t <;> simp at e
  have HI0 := Lib.hid hI0
  rw [← hwi, ← hqb, ← hob]
  clear hI0 hwi hob hqb hz2 hlow2 HB HO HLOW
  go_loopw [10] (fun i wr => ∃ (k : Nat) (s s' : StoreS) (L : List (Option SwL)) (on : List (Option Nat)), k ≤ len0 ∧ k ≤ 200 ∧ i = .int .i64 k ∧ Hid (SI w ab sb sm rb rg bb tb tm ub fb ob qb wr s s' L on)) (fun i _ => len0 - (intOf i).toNat)
  case atStart => exact ⟨0, _, _, _, _, Nat.zero_le _, Nat.zero_le _, rfl, HI0⟩
  case round =>
    obtain ⟨k, s, s', L, on, hk, hk3, rfl, HI⟩ := hrel
    clear HI0
    by_cases c1 : k < len0
    · by_cases c3 : k < 200
      · obtain ⟨b, off, rfl, hb, hc, hcw⟩ := rows_at HZ.out c1
        obtain ⟨x, hx⟩ : ∃ x, x = zs0.getD k 0 := ⟨_, rfl⟩
        rw [← hx] at hc hcw
        have hxb := bd_u8 hcw
        have d0 := (HI.out.sh.sc.adds.cellF (p := ⟨b, off + k, none⟩) hb id).trans hc
        obtain ⟨p, hp⟩ : ∃ p, p = x % 4 := ⟨_, rfl⟩
        obtain ⟨t, ht⟩ : ∃ t : Nat, (x / 4) % 2 = (t : Int) := ⟨((x / 4) % 2).toNat, by omega⟩
        have q1 : Int.tmod x 4 = p := by rw [Int.tmod_eq_emod_of_nonneg hxb.1, hp]
        have q2 : Int.tmod (Int.tdiv x 4) 2 = (t : Int) := by rw [Int.tdiv_eq_ediv_of_nonneg hxb.1, Int.tmod_eq_emod_of_nonneg (by omega), ht]
        have q2' : x / 4 % 2 = (t : Int) := ht
        have ht2 : t < 2 := by omega
        obtain ⟨kd, hkd⟩ : ∃ kd : Int, kd = 12 + x / 8 % 2 := ⟨_, rfl⟩
        have q3 : 12 + x / 8 % 2 = kd := hkd.symm
        have q4 : kd = 12 ∨ kd = 13 := by omega
        clear hkd
        have hp0 : 0 ≤ p := by omega
        have hp4 : p < 4 := by omega
        clear hx hc hcw hb hp ht
        by_cases c4 : 180 < x ∧ 0 < len1
        · obtain ⟨c4, c5⟩ := c4
          go_upto_region 10 with fail
          go_quiet (fail)
          go_upto_region 13 with fail
          obtain ⟨vb, voff, rfl, hvb, hvc, hvw⟩ := rows_at HV.out (i := k % len1) (Nat.mod_lt _ c5)
          obtain ⟨v, hv⟩ : ∃ v, v = zs1.getD (k % len1) 0 := ⟨_, rfl⟩
          rw [← hv] at hvc hvw
          have hvb2 := bd_u64 hvw
          have d1 := (HI.out.sh.sc.adds.cellF (p := ⟨vb, voff + k % len1, none⟩) hvb id).trans hvc
          have q5 : Int.tmod (k : Int) (len1 : Int) = ((k % len1 : Nat) : Int) := by rw [Int.tmod_eq_emod_of_nonneg (by omega)]; omega
          have q6 : (k : Int) % (len1 : Int) = ((k % len1 : Nat) : Int) := by omega
          have q7 : k % len1 < len1 := Nat.mod_lt _ c5
          obtain ⟨r, hr⟩ : ∃ r, r = k % len1 := ⟨_, rfl⟩
          rw [← hr] at d1 q5 q6 q7
          have hIn : Hid (Lay.pageOk 4 1 kd p = true ∧ s.inR (Lay.pageAt 4 1 kd p) ∧ s'.inR (Lay.pageAt 4 1 kd p)) := Lib.hid (by
            have e1 := sw_inR HI.out.sh.sc.len hp0 hp4
            have e2 := sw_inR HI.out.sh.sc.len' hp0 hp4
            rcases q4 with rfl | rfl
            · exact ⟨by rw [pageOk12]; simp [hp0, hp4]; decide, e1.1, e2.1⟩
            · exact ⟨by rw [pageOk13]; simp [hp0, hp4]; decide, e1.2, e2.2⟩)
          have HVC : Hid (∀ W, Adds w W → W.cell? ⟨vb, voff + r, none⟩ = some (.int .u64 v)) := Lib.hid (fun W hA => (hA.cellF (p := ⟨vb, voff + r, none⟩) hvb id).trans (by rw [hr]; exact hvc))
          have HS := Lib.hid (HI.out.sh.add ((Only.refl (fun _ => False) wr).drewN nq).drew)
          have HVB := Lib.hid hvb2
          have g7 : (r : Int) < len1 := by omega
          have g8 : (0 : Int) ≤ r := by omega
          have hn0 : ¬ len1 = 0 := by omega
          have hn1 : ¬ (len1 : Int) = 0 := by omega
          have hn2 : 1 ≤ len1 := by omega
          clear hr hv hvc hvw hvb2 hvb q4 d1
          go_region_held3 (fun W => W.cell? ⟨bb, 2, none⟩ = some (.int .i64 4) ∧ W.cell? ⟨bb, 3, none⟩ = some (.int .i64 1) ∧ W.cell? ⟨vb, voff + r, none⟩ = some (.int .u64 v))
            (first | (exact ⟨HS.out.sc.both.mem.head.cell 2, HS.out.sc.both.mem.head.cell 3, HVC.out _ HS.out.sc.adds⟩))
            (first
            | (go_at_call 11; refine (playWord_any 4 1 kd p _ hIn.out.1).mono ?_; rintro e v1 ⟨rfl, ho⟩; have HS := Lib.hid (HS.out.add ho); clear ho)
            | (go_at_call 10; refine (playPut_any HS.out.sc.both hIn.out.2.1 hIn.out.2.2 HVB.out).mono ?_; rintro e v2 ⟨rfl, hB, ho⟩; have HS := Lib.hid (HS.out.put hB ho); clear hB ho))
          all_goals
            go_wp2_with fail
            go_roundw
            case rel => exact ⟨k + 1, _, _, L, on, by omega, by omega, by go_num, Lib.hid ⟨HS.out, by simp [StoreS.acc, HI.out.ws], HI.out.rel⟩⟩
            case measure => simp [intOf]; omega
        · go_upto_region 10 with fail
          go_quiet (fail)
          have HS := Lib.hid (HI.out.sh.add ((Only.refl (fun _ => False) wr).drewN nq))
          go_upto_region 11 with fail
          go_cut [12, 54] (fun y g wc => y = .int .i64 (t : Int) ∧ g = .bool false ∧ Hid (SH w ab sb sm rb rg bb tb tm ub fb ob qb wc s s' L on))
          case first =>
            by_cases c5 : 180 < x
            · have c6 : len1 = 0 := by omega
              go_wp2_with fail
              go_meet
              exact ⟨by first | rfl | rw [q2'], by simp, HS⟩
            · go_wp2_with fail
              go_meet
              exact ⟨by first | rfl | rw [q2'], rfl, HS⟩
          case rest =>
            obtain ⟨rfl, rfl, HS⟩ := hcut
            obtain ⟨oz, hLt⟩ : ∃ oz, L[t]? = some oz := ⟨_, List.getElem?_eq_getElem (by rw [HI.out.sh.l2]; exact ht2)⟩
            obtain ⟨oo, hOt⟩ : ∃ oo, on[t]? = some oo := ⟨_, List.getElem?_eq_getElem (by rw [HI.out.sh.o2]; exact ht2)⟩
            obtain ⟨o1, o2, o3, o4⟩ := HS.out.cells hOt hLt
            have HLt := Lib.hid hLt; have HOt := Lib.hid hOt
            clear hLt hOt d0
            obtain ⟨qa, hqa⟩ : ∃ qa : Option Addr, ptrV (oz.map Lane.b) = .pointer qa := ⟨_, rfl⟩
            rw [hqa] at o2
            have HQA := Lib.hid hqa
            clear hqa
            have hq := fun W => refP_none W qa
            go_upto_if 84 with fail
            go_cut [12] (fun y wd => y = .int .i64 (t : Int) ∧ ∃ (z : SwL) (L' : List (Option SwL)) (on' : List (Option Nat)) (p' : Int) (l : List Int), Hid (SI w ab sb sm rb rg bb tb tm ub fb ob qb wd s s' L' on') ∧ Hid (L'[t]? = some (some z)) ∧ Hid (SR on' t z p' l) ∧ l.length < 4)
            case first =>
              rcases oz with _ | z
              · obtain rfl : qa = none := by have := HQA.out; simpa [ptrV] using this.symm
                clear hq
                go_wp2_with fail
                have m2 : wc.cell? ⟨bb, 2, none⟩ = some (.int .i64 4) := HS.out.sc.both.mem.head.cell 2
                have m3 : wc.cell? ⟨bb, 3, none⟩ = some (.int .i64 1) := HS.out.sc.both.mem.head.cell 3
                have HR : Hid (Adds wc wc.drew) := Lib.hid (Only.refl _ _).drew
                have r1 : wc.drew.cell? ⟨ob, t, none⟩ = some (ptrV oo) := o1
                have r2 : wc.drew.cell? ⟨qb, t, none⟩ = some (.pointer none) := o2
                have hok : Hid ((Lay.may 4 1 && decide (0 ≤ p ∧ p < 4)) = true) := Lib.hid (by simp [hp0, hp4]; decide)
                have hbo : bb ≠ ob := fun e => by have h1 := HS.out.sc.both.mem.head; rw [e] at h1; have := (h1.uniq HS.out.orow).2; revert this; decide
                have hbq : bb ≠ qb := fun e => by have h1 := HS.out.sc.both.mem.head; rw [e] at h1; have := (h1.uniq HS.out.qrow).2; revert this; decide
                have HK : Hid (∀ W, Adds wc W → W.cell? ⟨bb, 2, none⟩ = some (.int .i64 4) ∧ W.cell? ⟨bb, 3, none⟩ = some (.int .i64 1)) := Lib.hid (fun W hA => ⟨(hA.cellF (p := ⟨bb, 2, none⟩) (cell_lt m2) id).trans m2, (hA.cellF (p := ⟨bb, 3, none⟩) (cell_lt m3) id).trans m3⟩)
                have HKS : Hid (∀ (W : World) (b : Nat) (v : Value), bb ≠ b → (W.cell? ⟨bb, 2, none⟩ = some (.int .i64 4) ∧ W.cell? ⟨bb, 3, none⟩ = some (.int .i64 1)) → ((W.setCell ⟨b, t, none⟩ v).cell? ⟨bb, 2, none⟩ = some (.int .i64 4) ∧ (W.setCell ⟨b, t, none⟩ v).cell? ⟨bb, 3, none⟩ = some (.int .i64 1))) := Lib.hid (fun W b v hb h => by
                  have hO := (Only.refl (fun j => j = b) W).setCell (p := ⟨b, t, none⟩) (.inl rfl) v
                  exact ⟨(hO.cellF (p := ⟨bb, 2, none⟩) (cell_lt h.1) hb).trans h.1, (hO.cellF (p := ⟨bb, 3, none⟩) (cell_lt h.2) hb).trans h.2⟩)
                have g1 : (0 : Int) ≤ (t : Int) := by omega
                have g2 : (t : Int) < 2 := by omega
                have HRO : Hid (∀ W, Adds wc W → W.cell? ⟨ob, t, none⟩ = some (ptrV oo) ∧ W.cell? ⟨qb, t, none⟩ = some (.pointer none) ∧ W.frozen? ⟨ob, t, none⟩ = false ∧ W.frozen? ⟨qb, t, none⟩ = false) := Lib.hid (fun W hA => ⟨(hA.cellF (p := ⟨ob, t, none⟩) (cell_lt o1) id).trans o1, (hA.cellF (p := ⟨qb, t, none⟩) (cell_lt o2) id).trans o2, (hA.frozenF (p := ⟨ob, t, none⟩) (cell_lt o1) id).trans o3, (hA.frozenF (p := ⟨qb, t, none⟩) (cell_lt o2) id).trans o4⟩)
                have hoq : ob ≠ qb := fun e => by have h1 := HS.out.orow; rw [e] at h1; have := (h1.uniq HS.out.qrow).2; revert this; decide
                have hxo : (⟨7, 4, 1, 0, p, 0, 0, 0, 0, 0, 0, 0, [], false, 0, false, 0, 0, 0, 0, 0, 0, 0, 0, 0⟩ : MS).Ok := ⟨Nat.le_refl _, fun e => by cases e⟩
                have HXO := Lib.hid hxo
                clear o1 o2 o3 o4 hxo
                go_region_held3 (fun W => W.cell? ⟨bb, 2, none⟩ = some (.int .i64 4) ∧ W.cell? ⟨bb, 3, none⟩ = some (.int .i64 1))
                  (first | (exact HKS.out _ _ _ hbo (by assumption)) | (exact HKS.out _ _ _ hbq (by assumption)) | (exact HK.out _ HR.out))
                  (first
                  | (go_at_call 12; refine (newSweep_ok 4 1 p _ hok.out).mono ?_; rintro e v1 ⟨ma, rfl, hsw, hoA, hlA⟩; have HR := Lib.hid (HR.out.thenF hoA); obtain ⟨r1, r2, r3, r4⟩ := HRO.out _ HR.out)
                  | (go_at_call 13; refine (mNew_any (x := ⟨7, 4, 1, 0, p, 0, 0, 0, 0, 0, 0, 0, [], false, 0, false, 0, 0, 0, 0, 0, 0, 0, 0, 0⟩) rfl rfl HXO.out _).mono ?_; rintro e v2 ⟨mq, rfl, hmq, hoQ, hlQ⟩; have HR := Lib.hid (HR.out.thenF hoQ); obtain ⟨r1, r2, r3, r4⟩ := HRO.out _ HR.out))
                all_goals
                  go_wp2_with fail
                  go_meet
                  have z0 : wc.drew.heap.size = wc.heap.size := rfl
                  have z1 := hoA.size; have z2 := hoQ.size
                  have hsr : SR (on.set t (some ma)) t (⟨ma, (Lay.pageAt 4 1 12 p, Lay.pageAt 4 1 13 p, []), mq, (⟨7, 4, 1, 0, p, 0, 0, 0, 0, 0, 0, 0, [], false, 0, false, 0, 0, 0, 0, 0, 0, 0, 0, 0⟩ : MS).fresh, .slice none 0 0, .slice none 0 0, .pointer none⟩ : SwL) p [] := ⟨List.getElem?_set_self (by rw [HI.out.sh.o2]; exact ht2), hp0, hp4, rfl, ⟨rfl, rfl, rfl, rfl, rfl, rfl, rfl⟩⟩
                  first
                    | (have hb := HS.out.begin (t := t) (z := ⟨ma, (Lay.pageAt 4 1 12 p, Lay.pageAt 4 1 13 p, []), mq, (⟨7, 4, 1, 0, p, 0, 0, 0, 0, 0, 0, 0, [], false, 0, false, 0, 0, 0, 0, 0, 0, 0, 0, 0⟩ : MS).fresh, .slice none 0 0, .slice none 0 0, .pointer none⟩) HR.out (Sw1.adds hsw hoQ) hmq rfl (by show wc.heap.size ≤ ma; omega) (by show wc.heap.size ≤ mq; omega)
                       exact ⟨rfl, _, _, _, p, [], Lib.hid (HI.out.began hb hsr (by simp)), Lib.hid (hb.at ht2), Lib.hid hsr, by simp⟩)
                    | (have hb := HS.out.begin (t := t) (z := ⟨ma, (Lay.pageAt 4 1 12 p, Lay.pageAt 4 1 13 p, []), mq, (⟨7, 4, 1, 0, p, 0, 0, 0, 0, 0, 0, 0, [], false, 0, false, 0, 0, 0, 0, 0, 0, 0, 0, 0⟩ : MS).fresh, .slice none 0 0, .slice none 0 0, .pointer none⟩) HR.out hsw (hmq.adds hoA) rfl (by show wc.heap.size ≤ ma; omega) (by show wc.heap.size ≤ mq; omega)
                       exact ⟨rfl, _, _, _, p, [], Lib.hid (HI.out.began hb hsr (by simp)), Lib.hid (hb.at ht2), Lib.hid hsr, by simp⟩)
              · obtain rfl : qa = some ⟨z.b, 0, none⟩ := by have := HQA.out; simpa [ptrV] using this.symm
                obtain ⟨p', l, hsr, hl4⟩ := HI.out.rel t z HLt.out
                have HSR := Lib.hid hsr
                clear hsr
                go_wp2_with fail
                go_meet
                exact ⟨rfl, z, L, on, p', l, Lib.hid ⟨HS.out, HI.out.ws, HI.out.rel⟩, HLt, HSR, hl4⟩
            case rest =>
              obtain ⟨rfl, z, L', on', p', l, HI2, HLz, HSR, hl4⟩ := hcut
              have hsr := HSR.out
              have hp0' := hsr.p0; have hp4' := hsr.p4
              have hdl := Ac.act_len
              obtain ⟨al, hal⟩ : ∃ al, al = Lay.pageAt 4 1 12 p' := ⟨_, rfl⟩
              obtain ⟨mk, hmk⟩ : ∃ mk, mk = Lay.pageAt 4 1 13 p' := ⟨_, rfl⟩
              have e1 := sw_inR HI2.out.sh.sc.len hp0' hp4'
              have e2 := sw_inR HI2.out.sh.sc.len' hp0' hp4'
              rw [← hal, ← hmk] at e1 e2
              have HE1 := Lib.hid e1; have HE2 := Lib.hid e2
              have HAL := Lib.hid hal.symm; have HMK := Lib.hid hmk.symm
              have hk1 : z.k = (al, mk, l) := by rw [hal, hmk]; exact hsr.k
              have HK1 := Lib.hid hk1
              have HXM := Lib.hid hsr.x
              have HBIG := Lib.hid (HI2.out.sh.sc.big may41)
              have hsame := act_same (swAc al mk l) HI2.out.ws
              have hword : s.word (swAc al mk l).pos = s'.word (swAc al mk l).pos := by unfold StoreS.word; rw [HI2.out.ws]
              obtain ⟨l1, hl1'⟩ : ∃ l1, l1 = l ++ [s.word (swAc al mk l).pos] := ⟨_, rfl⟩
              have HL1 := Lib.hid hl1'.symm
              have HL1' : Hid (l ++ [s'.word (swAc al mk l).pos] = l1) := Lib.hid (by rw [← hword]; exact hl1'.symm)
              obtain ⟨d0, d1, d2, d3, hd⟩ : ∃ d0 d1 d2 d3 : Int, didV ((swAc al mk l).act s) = .agg #[.int .i64 d0, .int .i64 d1, .int .u64 d2, .int .u64 d3] := ⟨_, _, _, _, rfl⟩
              have HD := Lib.hid hd
              have HD' := Lib.hid (hsame.2.symm.trans hd)
              have HW2 := Lib.hid hsame.1
              obtain ⟨dn, hdn⟩ : ∃ dn, dn = decide (l1.length = 4) := ⟨_, rfl⟩
              obtain ⟨fr, hfr⟩ : ∃ fr, fr = swFr l1 := ⟨_, rfl⟩
              have HDN := Lib.hid hdn; have HFR := Lib.hid hfr
              have hb := fun W => did_neq W d0 d1 d2 d3 d0 d1 d2 d3
              simp only [beq_self_eq_true, Bool.and_self, Bool.not_true] at hb
              have n1 : (dn != dn) = false := by simp
              have n2 : (fr != fr) = false := by simp
              have hoz : on'[t]? = some (some z.a) := hsr.on
              have HOZ := Lib.hid hoz
              have g1 : (0 : Int) ≤ (t : Int) := by omega
              have g2 : (t : Int) < 2 := by omega
              have HS := Lib.hid (HI2.out.sh.add ((Only.refl (fun _ => False) wc).drew))
              have HT := HLz
              have hw3 : Hid ((((swAc al mk l).act s)).ws.length = s.ws.length ∧ (((swAc al mk l).act s')).ws.length = s'.ws.length) := Lib.hid ⟨Ac.act_len _ _, Ac.act_len _ _⟩
              obtain ⟨b1, b2, b3, b4⟩ := HI2.out.sh.cells hoz HLz.out
              have hqz : ∀ W, Sem.run Tryz.prog (binOp .eql 31 (.pointer (some ⟨z.a, 0, none⟩)) (.pointer none)) W = .ok (.bool false) W := fun _ => by kernel_rfl
              clear hd hsame hword hl1' hdn hfr hal hmk e1 e2 hk1 hsr hoz hdl
              go_upto_region 17 with fail
              go_cut [144] (fun g we => g = .bool false ∧ ∃ (z2 : SwL) (s2 s2' : StoreS), Hid (SH w ab sb sm rb rg bb tb tm ub fb ob qb we s2 s2' (L'.set t (some z2)) on') ∧ Hid (z2.a = z.a ∧ z2.b = z.b ∧ z2.k = (al, mk, l1) ∧ SwM z2.x 4 1 p' l1 ∧ s2.ws = s2'.ws))
              case first =>
                -- GREAT
                refine wp_region_held_drew (S := (fun W => W.cell? ⟨ob, t, none⟩ = some (.pointer (some ⟨z.a, 0, none⟩)) ∧ W.cell? ⟨qb, t, none⟩ = some (.pointer (some ⟨z.b, 0, none⟩)))) (by kernel_rfl) ⟨(HS.out.cells HOZ.out HT.out).1, (HS.out.cells HOZ.out HT.out).2.1⟩ (fun hHeld => ?_)
                refine wpAnyH_take (i := 0) (v := (.int .i64 (t : Int))) rfl (by kernel_rfl) (by kernel_rfl) (by kernel_rfl) (fun _ _ _ h => h) (Or.inl ⟨by rfl, fun W hS => by first | rfl | (go_simp; done)⟩) hHeld ?_
                try simp only [Act.put, List.getElem_toArray, List.getElem_cons_succ, List.getElem_cons_zero, List.setIfInBounds_toArray, List.set_cons_zero, List.set_cons_succ]
                refine wpAnyH_take (i := 1) (v := (.pointer (some ⟨ob, t, none⟩))) rfl (by kernel_rfl) (by kernel_rfl) (by kernel_rfl) (fun _ _ _ h => h) (Or.inl ⟨by rfl, fun W hS => by first | rfl | (go_simp; done)⟩) hHeld ?_
                try simp only [Act.put, List.getElem_toArray, List.getElem_cons_succ, List.getElem_cons_zero, List.setIfInBounds_toArray, List.set_cons_zero, List.set_cons_succ]
                refine wpAnyH_take (i := 2) (v := (.pointer (some ⟨z.a, 0, none⟩))) rfl (by kernel_rfl) (by kernel_rfl) (by kernel_rfl) (fun _ _ _ h => h) (Or.inl ⟨by rfl, fun W hS => by (obtain ⟨q1, q2⟩ := hS; go_simp; done)⟩) hHeld ?_
                try simp only [Act.put, List.getElem_toArray, List.getElem_cons_succ, List.getElem_cons_zero, List.setIfInBounds_toArray, List.set_cons_zero, List.set_cons_succ]
                refine wpAnyH_take (i := 3) (v := (.bool false)) rfl (by kernel_rfl) (by kernel_rfl) (by kernel_rfl) (fun _ _ _ h => h) (Or.inl ⟨by rfl, fun W hS => by first | rfl | (go_simp; done)⟩) hHeld ?_
                try simp only [Act.put, List.getElem_toArray, List.getElem_cons_succ, List.getElem_cons_zero, List.setIfInBounds_toArray, List.set_cons_zero, List.set_cons_succ]
                refine wpAnyH_take (i := 4) (v := (.bool false)) rfl (by kernel_rfl) (by kernel_rfl) (by kernel_rfl) (fun _ _ _ h => h) (Or.inl ⟨by rfl, fun W hS => by first | rfl | (go_simp; done)⟩) hHeld ?_
                try simp only [Act.put, List.getElem_toArray, List.getElem_cons_succ, List.getElem_cons_zero, List.setIfInBounds_toArray, List.set_cons_zero, List.set_cons_succ]
                refine wpAnyH_take (i := 5) (v := (.int .i64 (t : Int))) rfl (by kernel_rfl) (by kernel_rfl) (by kernel_rfl) (fun _ _ _ h => h) (Or.inl ⟨by rfl, fun W hS => by first | rfl | (go_simp; done)⟩) hHeld ?_
                try simp only [Act.put, List.getElem_toArray, List.getElem_cons_succ, List.getElem_cons_zero, List.setIfInBounds_toArray, List.set_cons_zero, List.set_cons_succ]
                refine wpAnyH_take (i := 6) (v := (.pointer (some ⟨ob, t, none⟩))) rfl (by kernel_rfl) (by kernel_rfl) (by kernel_rfl) (fun _ _ _ h => h) (Or.inl ⟨by rfl, fun W hS => by first | rfl | (go_simp; done)⟩) hHeld ?_
                try simp only [Act.put, List.getElem_toArray, List.getElem_cons_succ, List.getElem_cons_zero, List.setIfInBounds_toArray, List.set_cons_zero, List.set_cons_succ]
                refine wpAnyH_take (i := 7) (v := (.pointer (some ⟨z.a, 0, none⟩))) rfl (by kernel_rfl) (by kernel_rfl) (by kernel_rfl) (fun _ _ _ h => h) (Or.inl ⟨by rfl, fun W hS => by (obtain ⟨q1, q2⟩ := hS; go_simp; done)⟩) hHeld ?_
                try simp only [Act.put, List.getElem_toArray, List.getElem_cons_succ, List.getElem_cons_zero, List.setIfInBounds_toArray, List.set_cons_zero, List.set_cons_succ]
                refine wpAnyH_take (i := 8) (v := (.pointer (some ⟨ab, 0, none⟩))) rfl (by kernel_rfl) (by kernel_rfl) (by kernel_rfl) (fun _ _ _ h => h) (Or.inl ⟨by rfl, fun W hS => by first | rfl | (go_simp; done)⟩) hHeld ?_
                try simp only [Act.put, List.getElem_toArray, List.getElem_cons_succ, List.getElem_cons_zero, List.setIfInBounds_toArray, List.set_cons_zero, List.set_cons_succ]
                refine wpAnyH_take (i := 10) (v := (.int .i64 (t : Int))) rfl (by kernel_rfl) (by kernel_rfl) (by kernel_rfl) (fun _ _ _ h => h) (Or.inl ⟨by rfl, fun W hS => by first | rfl | (go_simp; done)⟩) hHeld ?_
                try simp only [Act.put, List.getElem_toArray, List.getElem_cons_succ, List.getElem_cons_zero, List.setIfInBounds_toArray, List.set_cons_zero, List.set_cons_succ]
                refine wpAnyH_take (i := 11) (v := (.pointer (some ⟨qb, t, none⟩))) rfl (by kernel_rfl) (by kernel_rfl) (by kernel_rfl) (fun _ _ _ h => h) (Or.inl ⟨by rfl, fun W hS => by first | rfl | (go_simp; done)⟩) hHeld ?_
                try simp only [Act.put, List.getElem_toArray, List.getElem_cons_succ, List.getElem_cons_zero, List.setIfInBounds_toArray, List.set_cons_zero, List.set_cons_succ]
                refine wpAnyH_take (i := 12) (v := (.pointer (some ⟨z.b, 0, none⟩))) rfl (by kernel_rfl) (by kernel_rfl) (by kernel_rfl) (fun _ _ _ h => h) (Or.inl ⟨by rfl, fun W hS => by (obtain ⟨q1, q2⟩ := hS; go_simp; done)⟩) hHeld ?_
                try simp only [Act.put, List.getElem_toArray, List.getElem_cons_succ, List.getElem_cons_zero, List.setIfInBounds_toArray, List.set_cons_zero, List.set_cons_succ]
                refine wpAnyH_take (i := 13) (v := (.pointer (some ⟨bb, 0, none⟩))) rfl (by kernel_rfl) (by kernel_rfl) (by kernel_rfl) (fun _ _ _ h => h) (Or.inl ⟨by rfl, fun W hS => by first | rfl | (go_simp; done)⟩) hHeld ?_
                try simp only [Act.put, List.getElem_toArray, List.getElem_cons_succ, List.getElem_cons_zero, List.setIfInBounds_toArray, List.set_cons_zero, List.set_cons_succ]
                refine wpAnyH_ready (rs := [9]) (by kernel_rfl) (by simp) (AllReadyH.cons rfl (fun K hK => ?_) AllReadyH.nil)
                simp only [List.getElem_toArray, List.getElem_cons_succ, List.getElem_cons_zero]
                go_simp
                refine (swAt_step (P := 4) (T := 1) (al := al) (mk := mk) (l := l) (by have h9 := HS.out.sc.lanes.A t _ HT.out; replace h9 : swLA _ z.a z.k := h9; rw [HK1.out] at h9; exact h9) hl4 HS.out.sc.both.yard HE1.out.1 HE1.out.2 HBIG.out.1).mono ?_
                rintro e v1 ⟨rfl, ⟨ha1, hy1⟩, ho1⟩
                rw [HD.out]
                rw [HL1.out] at ha1
                have HS := Lib.hid (HS.out.stepA (k' := (al, mk, l1)) HT.out ho1 ha1 hy1 hw3.out.1)
                have HT := Lib.hid (HS.out.at ht2)
                clear ha1 hy1 ho1
                refine hK.out _ _ ⟨(HS.out.cells HOZ.out HT.out).1, (HS.out.cells HOZ.out HT.out).2.1⟩ (fun hHeld => ?_)
                clear hK K
                try simp only [Act.put, List.getElem_toArray, List.getElem_cons_succ, List.getElem_cons_zero, List.setIfInBounds_toArray, List.set_cons_zero, List.set_cons_succ]
                refine wpAnyH_ready (rs := [14]) (by kernel_rfl) (by simp) (AllReadyH.cons rfl (fun K hK => ?_) AllReadyH.nil)
                simp only [List.getElem_toArray, List.getElem_cons_succ, List.getElem_cons_zero]
                go_simp
                refine (swM_step (HS.out.sc.lanes.B t _ HT.out) HS.out.sc.both.mem (HS.out.sc.lanes.nl t _ HT.out).2 HXM.out hl4 may41 hp0' hp4' HAL.out HMK.out HE2.out.1 HE2.out.2).mono ?_
                rintro e v2 ⟨rfl, y, hy2, hst2⟩
                rw [HD'.out]
                rw [HL1'.out] at hy2
                obtain ⟨lg2, mk2, hs2⟩ := HS.out.stepB HT.out hst2 hw3.out.2
                have HS := Lib.hid hs2
                have HT := Lib.hid (HS.out.at ht2)
                have hyd : y.done = dn := (by rw [HDN.out]; exact hy2.done)
                have hyf : y.freed = fr := (by rw [HFR.out]; exact hy2.freed)
                have HY2 := Lib.hid hy2
                clear hst2 hs2 hy2
                refine hK.out _ _ ⟨(HS.out.cells HOZ.out HT.out).1, (HS.out.cells HOZ.out HT.out).2.1⟩ (fun hHeld => ?_)
                clear hK K
                try simp only [Act.put, List.getElem_toArray, List.getElem_cons_succ, List.getElem_cons_zero, List.setIfInBounds_toArray, List.set_cons_zero, List.set_cons_succ]
                obtain ⟨g15, g27⟩ := HS.out.mcells HT.out
                replace g15 : _ = some (Value.bool y.done) := g15
                replace g27 : _ = some (Value.int .u64 y.freed) := g27
                rw [hyd] at g15
                rw [hyf] at g27
                clear hyd hyf
                refine wpAnyH_mono (S2 := fun W => W.cell? ⟨ob, t, none⟩ = some (.pointer (some ⟨z.a, 0, none⟩)) ∧ W.cell? ⟨qb, t, none⟩ = some (.pointer (some ⟨z.b, 0, none⟩)) ∧ W.cell? ⟨z.b, 15, none⟩ = some (.bool dn) ∧ W.cell? ⟨z.b, 27, none⟩ = some (.int .u64 fr)) (fun W h => ⟨h.1, h.2.1⟩) ?_
                replace hHeld := And.intro hHeld.1 (And.intro hHeld.2 (And.intro g15 g27))
                clear g15 g27
                refine wpAnyH_take (i := 15) (v := (.bool false)) rfl (by kernel_rfl) (by kernel_rfl) (by kernel_rfl) (fun _ _ _ h => h) (Or.inl ⟨by rfl, fun W hS => by first | rfl | (go_simp; done)⟩) hHeld ?_
                try simp only [Act.put, List.getElem_toArray, List.getElem_cons_succ, List.getElem_cons_zero, List.setIfInBounds_toArray, List.set_cons_zero, List.set_cons_succ]
                refine wpAnyH_take (i := 16) (v := (.bool false)) rfl (by kernel_rfl) (by kernel_rfl) (by kernel_rfl) (fun _ _ _ h => h) (Or.inl ⟨by rfl, fun W hS => by first | rfl | (go_simp; done)⟩) hHeld ?_
                try simp only [Act.put, List.getElem_toArray, List.getElem_cons_succ, List.getElem_cons_zero, List.setIfInBounds_toArray, List.set_cons_zero, List.set_cons_succ]
                refine wpAnyH_take (i := 17) (v := (.bool false)) rfl (by kernel_rfl) (by kernel_rfl) (by kernel_rfl) (fun _ _ _ h => h) (Or.inl ⟨by rfl, fun W hS => by first | rfl | (go_simp; done)⟩) hHeld ?_
                try simp only [Act.put, List.getElem_toArray, List.getElem_cons_succ, List.getElem_cons_zero, List.setIfInBounds_toArray, List.set_cons_zero, List.set_cons_succ]
                refine wpAnyH_take (i := 18) (v := (.int .i64 (t : Int))) rfl (by kernel_rfl) (by kernel_rfl) (by kernel_rfl) (fun _ _ _ h => h) (Or.inl ⟨by rfl, fun W hS => by first | rfl | (go_simp; done)⟩) hHeld ?_
                try simp only [Act.put, List.getElem_toArray, List.getElem_cons_succ, List.getElem_cons_zero, List.setIfInBounds_toArray, List.set_cons_zero, List.set_cons_succ]
                refine wpAnyH_take (i := 19) (v := (.pointer (some ⟨ob, t, none⟩))) rfl (by kernel_rfl) (by kernel_rfl) (by kernel_rfl) (fun _ _ _ h => h) (Or.inl ⟨by rfl, fun W hS => by first | rfl | (go_simp; done)⟩) hHeld ?_
                try simp only [Act.put, List.getElem_toArray, List.getElem_cons_succ, List.getElem_cons_zero, List.setIfInBounds_toArray, List.set_cons_zero, List.set_cons_succ]
                refine wpAnyH_take (i := 20) (v := (.pointer (some ⟨z.a, 0, none⟩))) rfl (by kernel_rfl) (by kernel_rfl) (by kernel_rfl) (fun _ _ _ h => h) (Or.inl ⟨by rfl, fun W hS => by (obtain ⟨q1, q2, q3, q4⟩ := hS; go_simp; done)⟩) hHeld ?_
                try simp only [Act.put, List.getElem_toArray, List.getElem_cons_succ, List.getElem_cons_zero, List.setIfInBounds_toArray, List.set_cons_zero, List.set_cons_succ]
                refine wpAnyH_take (i := 22) (v := (.int .i64 (t : Int))) rfl (by kernel_rfl) (by kernel_rfl) (by kernel_rfl) (fun _ _ _ h => h) (Or.inl ⟨by rfl, fun W hS => by first | rfl | (go_simp; done)⟩) hHeld ?_
                try simp only [Act.put, List.getElem_toArray, List.getElem_cons_succ, List.getElem_cons_zero, List.setIfInBounds_toArray, List.set_cons_zero, List.set_cons_succ]
                refine wpAnyH_take (i := 23) (v := (.pointer (some ⟨qb, t, none⟩))) rfl (by kernel_rfl) (by kernel_rfl) (by kernel_rfl) (fun _ _ _ h => h) (Or.inl ⟨by rfl, fun W hS => by first | rfl | (go_simp; done)⟩) hHeld ?_
                try simp only [Act.put, List.getElem_toArray, List.getElem_cons_succ, List.getElem_cons_zero, List.setIfInBounds_toArray, List.set_cons_zero, List.set_cons_succ]
                refine wpAnyH_take (i := 24) (v := (.pointer (some ⟨z.b, 0, none⟩))) rfl (by kernel_rfl) (by kernel_rfl) (by kernel_rfl) (fun _ _ _ h => h) (Or.inl ⟨by rfl, fun W hS => by (obtain ⟨q1, q2, q3, q4⟩ := hS; go_simp; done)⟩) hHeld ?_
                try simp only [Act.put, List.getElem_toArray, List.getElem_cons_succ, List.getElem_cons_zero, List.setIfInBounds_toArray, List.set_cons_zero, List.set_cons_succ]
                refine wpAnyH_take (i := 25) (v := (.pointer (some ⟨z.b, 0, none⟩))) rfl (by kernel_rfl) (by kernel_rfl) (by kernel_rfl) (fun _ _ _ h => h) (Or.inl ⟨by rfl, fun W hS => by first | rfl | (go_simp; done)⟩) hHeld ?_
                try simp only [Act.put, List.getElem_toArray, List.getElem_cons_succ, List.getElem_cons_zero, List.setIfInBounds_toArray, List.set_cons_zero, List.set_cons_succ]
                refine wpAnyH_take (i := 26) (v := (.pointer (some ⟨z.b, 15, none⟩))) rfl (by kernel_rfl) (by kernel_rfl) (by kernel_rfl) (fun _ _ _ h => h) (Or.inl ⟨by rfl, fun W hS => by first | rfl | (go_simp; done)⟩) hHeld ?_
                try simp only [Act.put, List.getElem_toArray, List.getElem_cons_succ, List.getElem_cons_zero, List.setIfInBounds_toArray, List.set_cons_zero, List.set_cons_succ]
                refine wpAnyH_take (i := 27) (v := (.bool dn)) rfl (by kernel_rfl) (by kernel_rfl) (by kernel_rfl) (fun _ _ _ h => h) (Or.inl ⟨by rfl, fun W hS => by (obtain ⟨q1, q2, q3, q4⟩ := hS; go_simp; done)⟩) hHeld ?_
                try simp only [Act.put, List.getElem_toArray, List.getElem_cons_succ, List.getElem_cons_zero, List.setIfInBounds_toArray, List.set_cons_zero, List.set_cons_succ]
                refine wpAnyH_ready (rs := [21]) (by kernel_rfl) (by simp) (AllReadyH.cons rfl (fun K hK => ?_) AllReadyH.nil)
                simp only [List.getElem_toArray, List.getElem_cons_succ, List.getElem_cons_zero]
                go_simp
                refine (swAt_done (P := 4) (T := 1) (al := al) (mk := mk) (l := l1) (HS.out.sc.lanes.A t _ HT.out)).mono ?_
                rintro e v3 ⟨rfl, rfl⟩
                rw [← HDN.out]
                refine hK.out _ _ hHeld (fun hHeld => ?_)
                clear hK K
                try simp only [Act.put, List.getElem_toArray, List.getElem_cons_succ, List.getElem_cons_zero, List.setIfInBounds_toArray, List.set_cons_zero, List.set_cons_succ]
                refine wpAnyH_take (i := 28) (v := (.bool false)) rfl (by kernel_rfl) (by kernel_rfl) (by kernel_rfl) (fun _ _ _ h => h) (Or.inl ⟨by rfl, fun W hS => by first | rfl | (go_simp; done)⟩) hHeld ?_
                try simp only [Act.put, List.getElem_toArray, List.getElem_cons_succ, List.getElem_cons_zero, List.setIfInBounds_toArray, List.set_cons_zero, List.set_cons_succ]
                refine wpAnyH_take (i := 29) (v := (.bool false)) rfl (by kernel_rfl) (by kernel_rfl) (by kernel_rfl) (fun _ _ _ h => h) (Or.inl ⟨by rfl, fun W hS => by first | rfl | (go_simp; done)⟩) hHeld ?_
                try simp only [Act.put, List.getElem_toArray, List.getElem_cons_succ, List.getElem_cons_zero, List.setIfInBounds_toArray, List.set_cons_zero, List.set_cons_succ]
                refine wpAnyH_take (i := 30) (v := (.bool false)) rfl (by kernel_rfl) (by kernel_rfl) (by kernel_rfl) (fun _ _ _ h => h) (Or.inl ⟨by rfl, fun W hS => by first | rfl | (go_simp; done)⟩) hHeld ?_
                try simp only [Act.put, List.getElem_toArray, List.getElem_cons_succ, List.getElem_cons_zero, List.setIfInBounds_toArray, List.set_cons_zero, List.set_cons_succ]
                refine wpAnyH_take (i := 31) (v := (.int .i64 (t : Int))) rfl (by kernel_rfl) (by kernel_rfl) (by kernel_rfl) (fun _ _ _ h => h) (Or.inl ⟨by rfl, fun W hS => by first | rfl | (go_simp; done)⟩) hHeld ?_
                try simp only [Act.put, List.getElem_toArray, List.getElem_cons_succ, List.getElem_cons_zero, List.setIfInBounds_toArray, List.set_cons_zero, List.set_cons_succ]
                refine wpAnyH_take (i := 32) (v := (.pointer (some ⟨ob, t, none⟩))) rfl (by kernel_rfl) (by kernel_rfl) (by kernel_rfl) (fun _ _ _ h => h) (Or.inl ⟨by rfl, fun W hS => by first | rfl | (go_simp; done)⟩) hHeld ?_
                try simp only [Act.put, List.getElem_toArray, List.getElem_cons_succ, List.getElem_cons_zero, List.setIfInBounds_toArray, List.set_cons_zero, List.set_cons_succ]
                refine wpAnyH_take (i := 33) (v := (.pointer (some ⟨z.a, 0, none⟩))) rfl (by kernel_rfl) (by kernel_rfl) (by kernel_rfl) (fun _ _ _ h => h) (Or.inl ⟨by rfl, fun W hS => by (obtain ⟨q1, q2, q3, q4⟩ := hS; go_simp; done)⟩) hHeld ?_
                try simp only [Act.put, List.getElem_toArray, List.getElem_cons_succ, List.getElem_cons_zero, List.setIfInBounds_toArray, List.set_cons_zero, List.set_cons_succ]
                refine wpAnyH_take (i := 35) (v := (.int .i64 (t : Int))) rfl (by kernel_rfl) (by kernel_rfl) (by kernel_rfl) (fun _ _ _ h => h) (Or.inl ⟨by rfl, fun W hS => by first | rfl | (go_simp; done)⟩) hHeld ?_
                try simp only [Act.put, List.getElem_toArray, List.getElem_cons_succ, List.getElem_cons_zero, List.setIfInBounds_toArray, List.set_cons_zero, List.set_cons_succ]
                refine wpAnyH_take (i := 36) (v := (.pointer (some ⟨qb, t, none⟩))) rfl (by kernel_rfl) (by kernel_rfl) (by kernel_rfl) (fun _ _ _ h => h) (Or.inl ⟨by rfl, fun W hS => by first | rfl | (go_simp; done)⟩) hHeld ?_
                try simp only [Act.put, List.getElem_toArray, List.getElem_cons_succ, List.getElem_cons_zero, List.setIfInBounds_toArray, List.set_cons_zero, List.set_cons_succ]
                refine wpAnyH_take (i := 37) (v := (.pointer (some ⟨z.b, 0, none⟩))) rfl (by kernel_rfl) (by kernel_rfl) (by kernel_rfl) (fun _ _ _ h => h) (Or.inl ⟨by rfl, fun W hS => by (obtain ⟨q1, q2, q3, q4⟩ := hS; go_simp; done)⟩) hHeld ?_
                try simp only [Act.put, List.getElem_toArray, List.getElem_cons_succ, List.getElem_cons_zero, List.setIfInBounds_toArray, List.set_cons_zero, List.set_cons_succ]
                refine wpAnyH_take (i := 38) (v := (.pointer (some ⟨z.b, 0, none⟩))) rfl (by kernel_rfl) (by kernel_rfl) (by kernel_rfl) (fun _ _ _ h => h) (Or.inl ⟨by rfl, fun W hS => by first | rfl | (go_simp; done)⟩) hHeld ?_
                try simp only [Act.put, List.getElem_toArray, List.getElem_cons_succ, List.getElem_cons_zero, List.setIfInBounds_toArray, List.set_cons_zero, List.set_cons_succ]
                refine wpAnyH_take (i := 39) (v := (.pointer (some ⟨z.b, 27, none⟩))) rfl (by kernel_rfl) (by kernel_rfl) (by kernel_rfl) (fun _ _ _ h => h) (Or.inl ⟨by rfl, fun W hS => by first | rfl | (go_simp; done)⟩) hHeld ?_
                try simp only [Act.put, List.getElem_toArray, List.getElem_cons_succ, List.getElem_cons_zero, List.setIfInBounds_toArray, List.set_cons_zero, List.set_cons_succ]
                refine wpAnyH_take (i := 40) (v := (.int .u64 fr)) rfl (by kernel_rfl) (by kernel_rfl) (by kernel_rfl) (fun _ _ _ h => h) (Or.inl ⟨by rfl, fun W hS => by (obtain ⟨q1, q2, q3, q4⟩ := hS; go_simp; done)⟩) hHeld ?_
                try simp only [Act.put, List.getElem_toArray, List.getElem_cons_succ, List.getElem_cons_zero, List.setIfInBounds_toArray, List.set_cons_zero, List.set_cons_succ]
                refine wpAnyH_ready (rs := [34]) (by kernel_rfl) (by simp) (AllReadyH.cons rfl (fun K hK => ?_) AllReadyH.nil)
                simp only [List.getElem_toArray, List.getElem_cons_succ, List.getElem_cons_zero]
                go_simp
                refine (swAt_freed (P := 4) (T := 1) (al := al) (mk := mk) (l := l1) (HS.out.sc.lanes.A t _ HT.out)).mono ?_
                rintro e v4 ⟨rfl, rfl⟩
                rw [← HFR.out]
                refine hK.out _ _ hHeld (fun hHeld => ?_)
                clear hK K
                try simp only [Act.put, List.getElem_toArray, List.getElem_cons_succ, List.getElem_cons_zero, List.setIfInBounds_toArray, List.set_cons_zero, List.set_cons_succ]
                refine wpAnyH_take (i := 41) (v := (.bool false)) rfl (by kernel_rfl) (by kernel_rfl) (by kernel_rfl) (fun _ _ _ h => h) (Or.inl ⟨by rfl, fun W hS => by first | rfl | (go_simp; done)⟩) hHeld ?_
                try simp only [Act.put, List.getElem_toArray, List.getElem_cons_succ, List.getElem_cons_zero, List.setIfInBounds_toArray, List.set_cons_zero, List.set_cons_succ]
                refine wpAnyH_take (i := 42) (v := (.bool false)) rfl (by kernel_rfl) (by kernel_rfl) (by kernel_rfl) (fun _ _ _ h => h) (Or.inl ⟨by rfl, fun W hS => by first | rfl | (go_simp; done)⟩) hHeld ?_
                try simp only [Act.put, List.getElem_toArray, List.getElem_cons_succ, List.getElem_cons_zero, List.setIfInBounds_toArray, List.set_cons_zero, List.set_cons_succ]
                refine wpAnyH_done (by kernel_rfl) ?_ _
                go_wp2_with fail
                go_meet
                have hs := HS.out
                rw [List.set_set] at hs
                exact ⟨rfl, _, _, _, Lib.hid hs, Lib.hid ⟨rfl, rfl, rfl, HY2.out, HW2.out⟩⟩
                -- END
              case rest =>
                obtain ⟨rfl, z2, s2, s2', HS2, HZ2⟩ := hcut
                obtain ⟨ha, hbz, hk9, hx9, hws⟩ := HZ2.out
                have HT2 := HS2.out.at ht2
                obtain ⟨-, c2, c3', c4'⟩ := HS2.out.cells HOZ.out HT2
                replace c2 : _ = some (Value.pointer (some ⟨z2.b, 0, none⟩)) := c2
                have c15 := (HS2.out.mcells HT2).1
                rw [hx9.done] at c15
                have hl5 : l1.length = l.length + 1 := by have := congrArg List.length HL1.out; simp at this; omega
                have HX9 := Lib.hid hx9; have HWS := Lib.hid hws; have HK9 := Lib.hid hk9; have HA9 := Lib.hid ha
                clear hx9 hws hk9 ha hbz HT2
                by_cases h4 : l1.length = 4
                · rw [decide_eq_true h4] at c15
                  go_wp2_with fail
                  go_roundw
                  case rel => exact ⟨k + 1, s2, s2', L'.set t none, on', by omega, by omega, by go_num, Lib.hid (HI2.out.over HS2.out HWS.out)⟩
                  case measure => simp [intOf]; omega
                · rw [decide_eq_false h4] at c15
                  go_wp2_with fail
                  go_roundw
                  case rel => exact ⟨k + 1, s2, s2', L'.set t (some z2), on', by omega, by omega, by go_num, Lib.hid (HI2.out.stepped HS2.out HWS.out ⟨by rw [HA9.out]; exact HOZ.out, hp0', hp4', by rw [HK9.out, HAL.out, HMK.out], HX9.out⟩ (by omega))⟩
                  case measure => simp [intOf]; omega
      · go_wp2_with (first
          | (go_at_call 18; refine (playSame_any HI.out.sh.sc.both HI.out.ws (by rw [HI.out.sh.sc.len]; decide) (by omega) (by omega)).mono ?_; rintro e w3 ⟨rfl, ho3⟩)
          | (go_at_call 19; refine (awake15_any _).mono ?_; rintro e w4 ⟨rfl, ho4⟩))
        go_ret
        exact ⟨rfl, ((HI.out.sh.sc.adds.thenF ho3).thenF ho4).below (Nat.le_refl _) (fun _ _ h => h)⟩
    · go_wp2_with (first
        | (go_at_call 18; refine (playSame_any HI.out.sh.sc.both HI.out.ws (by rw [HI.out.sh.sc.len]; decide) (by omega) (by omega)).mono ?_; rintro e w3 ⟨rfl, ho3⟩)
        | (go_at_call 19; refine (awake15_any _).mono ?_; rintro e w4 ⟨rfl, ho4⟩))
      go_ret
      exact ⟨rfl, ((HI.out.sh.sc.adds.thenF ho3).thenF ho4).below (Nat.le_refl _) (fun _ _ h => h)⟩
end Go.Proofs.YtfgjacgkgonglaaGreat

/- ClaimRuns: its walk. By an AI agent. -/
import Derived.Test.YtffhoaimcjpjhaaGreatZG
import Derived.Test.YtffhoaimcjpjhaaGreatZE
import Derived.Test.YtffhoaimcjpjhaaGreatZ8
import Derived.Test.YtffhoaimcjpjhaaGreatZPlay2
import Derived.Test.YtffhoaimcjpjhaaGreatZD
import Derived.Deep.DeepCutAuto
import Derived.Deep.RegionHeld3
namespace Go.Proofs.YtffhoaimcjpjhaaGreat
open Go.RowKit
set_option linter.unusedSimpArgs false
set_option linter.unusedVariables false
theorem infoClaimP : (Tryz.prog.info? 92).map (fun i => (i.zero, i.size, i.bytes)) = some (some (.pointer none), 1, 8) := by kernel_rfl
theorem infoMP : (Tryz.prog.info? 52).map (fun i => (i.zero, i.size, i.bytes)) = some (some (.pointer none), 1, 8) := by kernel_rfl
theorem refP_none (W : World) (q : Option Addr) : Sem.run Tryz.prog (binOp .eql 52 (.pointer q) (.pointer none)) W = .ok (.bool q.isNone) W := by cases q <;> kernel_rfl
set_option maxRecDepth 100000 in
set_option maxHeartbeats 8000000 in
theorem claimRuns_law (c0 : Int) (f0 : (Lit.int .u8 c0).wf = true) (c1 : Int) (f1 : (Lit.int .u8 c1).wf = true) (a0 : Option Addr) (len0 cap0 : Nat) (zs0 : List Int) (a1 : Option Addr) (len1 cap1 : Nat) (zs1 : List Int) (a2 : Option Addr) (len2 cap2 : Nat) (zs2 : List Int) (c5 : Int) (f5 : (Lit.int .u8 c5).wf = true) (w : World) (w0 : IsRow .u8 w a0 len0 cap0 zs0) (w1 : IsRow .u8 w a1 len1 cap1 zs1) (w2 : IsRow .u64 w a2 len2 cap2 zs2) :
    Calls Tryz.prog 7 #[.int .u8 c0, .int .u8 c1, .slice a0 len0 cap0, .slice a1 len1 cap1, .slice a2 len2 cap2, .int .u8 c5] w fun e w' => e = .returned (.bool true) ∧ Below w.heap.size w w' := by
  have HZ := Lib.hid w0; have HV := Lib.hid w1; have HW := Lib.hid w2
  obtain ⟨hl0, hcap0⟩ := rows_len w0
  obtain ⟨hl1, hcap1⟩ := rows_len w1
  have b0 := bd_u8 f0; have b1 := bd_u8 f1; have b5 := bd_u8 f5
  obtain ⟨pn, hP⟩ : ∃ pn : Nat, 1 + c0 % 24 = (pn : Int) := ⟨(1 + c0 % 24).toNat, by omega⟩
  obtain ⟨n, hn⟩ : ∃ n : Nat, 1 + c1 % 6 = (n : Int) := ⟨(1 + c1 % 6).toNat, by omega⟩
  obtain ⟨r5, hr5⟩ : ∃ r5, c5 % 5 = r5 := ⟨_, rfl⟩
  obtain ⟨g, hg⟩ : ∃ g, 2 + r5 = g := ⟨_, rfl⟩
  have q5 : Int.tmod c5 5 = r5 := by rw [Int.tmod_eq_emod_of_nonneg b5.1]; exact hr5
  have g2 : 2 ≤ g := by omega
  have g6 : g ≤ 6 := by omega
  have g0 : 0 ≤ r5 ∧ r5 < 5 := by omega
  have p1 : 1 ≤ pn := by omega
  have p2 : pn ≤ 24 := by omega
  have n1 : 1 ≤ n := by omega
  have n6 : n ≤ 6 := by omega
  have hmay : Lay.may pn n = true := Lay.may_iff.2 ⟨by omega, by omega, by omega, by omega⟩
  have HLAID := Lib.hid (fun (W : World) (hA : Adds w W) => laid_any (w := W) c0 c1 g n pn b0 b1 hP hn ⟨g2, by omega⟩ w2 hA)
  have HMAY := Lib.hid hmay
  have HHD : Hid (Lay.isHead pn n 12 = true) := Lib.hid (HD.to ⟨hmay, by decide, by decide⟩)
  have HCY : Hid (Ph.cyc g = true) := Lib.hid (by simp [Ph.cyc]; omega)
  have HSTK := Lib.hid (laid_stk (g := g) hmay (wordsV zs2 len2))
  have HLEN0 := Lib.hid (laid_len (n := pn) n g (wordsV zs2 len2))
  obtain ⟨S0, hS0⟩ : ∃ S0, laidS pn n g (wordsV zs2 len2) = S0 := ⟨_, rfl⟩
  rw [hS0] at HLAID HSTK HLEN0
  obtain ⟨P, hPP⟩ : ∃ P : Int, P = (pn : Int) := ⟨_, rfl⟩
  rw [← hPP] at HLAID HMAY HHD HSTK HLEN0
  have P1 : 1 ≤ P := by omega
  have P2 : P ≤ 24 := by omega
  obtain ⟨i0, hi0, hz00, hz01, hz02⟩ := info_parts infoClaimP
  have mk1 := fun W => run_make (P := Tryz.prog) W 96 92 i0 (.pointer none) Tryz.underlying96 hi0 hz00 .i64 .i64 (n : Int) (n : Int) (by omega) (by omega) (by rw [hz02]; omega) (by omega)
  obtain ⟨i2, hi2, hz20, hz21, hz22⟩ := info_parts infoMP
  have mk3 := fun W => run_make (P := Tryz.prog) W 97 52 i2 (.pointer none) Tryz.underlying97 hi2 hz20 .i64 .i64 (n : Int) (n : Int) (by omega) (by omega) (by rw [hz22]; omega) (by omega)
  have hcs : (Value.pointer none).cells = #[Value.pointer none] := rfl
  simp only [Int.toNat_natCast, hz01, Nat.mul_one, hcs] at mk1
  simp only [Int.toNat_natCast, hz21, Nat.mul_one, hcs] at mk3
  clear hcs w0 w1 w2 hmay f0 f1 f5 b0 b1 hP hn hi0 hi2 hz00 hz01 hz02 hz20 hz21 hz22 hr5 hS0 hPP
  have e5 : IntKind.i64.wrap c5 = c5 := by rw [IntKind.wrap_i64]; omega
  have e6 : IntKind.i64.wrap r5 = r5 := by rw [IntKind.wrap_i64]; omega
  have e7 : IntKind.i64.wrap (2 + r5) = g := by rw [IntKind.wrap_i64]; omega
  go_enter Tryz.func7, Tryz.ntmps7
  go_upto_region 5 with (go_at_call 42; refine (HLAID.out _ (Only.refl _ _)).mono ?_; rintro e w3 ⟨ab, sb, sm, rb, rg, bb, tb, tm, ub, fb, rfl, hB, ho, hlow⟩; have HB := Lib.hid hB; have HO := Lib.hid ho; have HLOW := Lib.hid hlow; clear hB ho hlow)
  have m3 : w3.cell? ⟨bb, 3, none⟩ = some (.int .i64 n) := HB.out.mem.head.cell 3
  go_upto_region 6 with fail
  clear e5 e6 e7 q5 m3 HLAID
  have hw3 := HO.out.size
  go_cut [17, 18] (fun y z wc => ∃ onb qb, y = .slice (some ⟨onb, 0, none⟩) n n ∧ z = .slice (some ⟨qb, 0, none⟩) n n ∧ Hid (Adds w3 wc ∧ Blk wc onb ((List.replicate n (none : Option Nat)).map ptrV).toArray 92 ∧ Blk wc qb ((List.replicate n (none : Option Nat)).map ptrV).toArray 52 ∧ w3.heap.size ≤ onb ∧ w3.heap.size ≤ qb))
  case first =>
    go_region
    all_goals
      go_wp2_with fail
      go_meet
      first
        | exact ⟨w3.heap.size, w3.heap.size + 1, rfl, rfl, Lib.hid ⟨(((Only.refl _ w3).alloc _).alloc _).drew, by rw [← madeCells_ptr]; exact (Blk.new w3 _ _).alloc _, by rw [← madeCells_ptr]; exact blk_new1 _ _ _ _, by omega, by omega⟩⟩
        | exact ⟨w3.heap.size + 1, w3.heap.size, rfl, rfl, Lib.hid ⟨(((Only.refl _ w3).alloc _).alloc _).drew, by rw [← madeCells_ptr]; exact blk_new1 _ _ _ _, by rw [← madeCells_ptr]; exact (Blk.new w3 _ _).alloc _, by omega, by omega⟩⟩
  case rest =>
    obtain ⟨onb, qb, rfl, rfl, HC⟩ := hcut
    clear mk1 mk3
    have hI0 : CH w ab sb sm rb rg bb tb tm ub fb onb qb n P g wc S0 S0 (List.replicate n none) (List.replicate n none) := by
      obtain ⟨a1, a2, a3, a4, a5⟩ := HC.out
      have hno : ∀ (t : Nat) (z : ClL), (List.replicate n (none : Option ClL))[t]? = some (some z) → False := fun t z e => by
        rw [List.getElem?_replicate] at e; split at e <;> simp at e
      refine ⟨⟨HB.out.adds a1, HLEN0.out, HLEN0.out, FLanes.empty n, fun t z e => (hno t z e).elim, HLOW.out, HO.out.thenF a1⟩, by simp, by simp, a2, ?_, fun t z e => (hno t z e).elim, fun t m e => ?_, by omega, by omega⟩
      · have : (List.replicate n (none : Option ClL)).map (fun o => ptrV (o.map Lane.b)) = (List.replicate n (none : Option Nat)).map ptrV := by simp
        rw [this]; exact a3
      · rw [List.getElem?_replicate] at e; split at e <;> simp at e
    have HI0 := Lib.hid hI0
    clear hI0 HC HB HO HLOW HLEN0 hw3
    go_wp2_with fail
    go_loopw [19] (fun i wr => ∃ (k : Nat) (s s' : StoreS) (L : List (Option ClL)) (Ms : List (Option Nat)), k ≤ len0 ∧ k ≤ 400 ∧ i = .int .i64 k ∧ Hid (CH w ab sb sm rb rg bb tb tm ub fb onb qb n P g wr s s' L Ms) ∧ Hid (s.ws = s'.ws ∧ StkOk P n 12 s) ∧ Hid (∀ (t : Nat) (z : ClL), L[t]? = some (some z) → ∃ q, z.k.2 = .inl q ∧ ClmM z.x P n g k q)) (fun i _ => len0 - (intOf i).toNat)
    case atStart => exact ⟨0, _, _, _, _, Nat.zero_le _, Nat.zero_le _, rfl, HI0, Lib.hid ⟨rfl, HSTK.out⟩, Lib.hid (fun t z e => by rw [List.getElem?_replicate] at e; split at e <;> simp at e)⟩
    case round =>
      obtain ⟨k, s, s', L, Ms, hk, hk3, rfl, HI, HE, HL⟩ := hrel
      clear HI0 HSTK
      by_cases c1 : k < len0
      · by_cases c3 : k < 400
        · obtain ⟨b, off, rfl, hb, hc, hcw⟩ := rows_at HZ.out c1
          obtain ⟨x, hx⟩ : ∃ x, x = zs0.getD k 0 := ⟨_, rfl⟩
          rw [← hx] at hc hcw
          have hxb := bd_u8 hcw
          have HD0 : Hid (∀ W, Adds w W → W.cell? ⟨b, off + k, none⟩ = some (.int .u8 x)) := Lib.hid (fun W hA => (hA.cellF (p := ⟨b, off + k, none⟩) hb id).trans hc)
          have d0 := HD0.out wr HI.out.sc.adds
          have hk4 : k < 1000000 := by omega
          have hwk : IntKind.i64.wrap ((k : Int) + 1) = (k : Int) + 1 := by rw [IntKind.wrap_i64]; omega
          clear hx hc hcw hb
          by_cases hx2 : 190 < x
          · have m2 : wr.cell? ⟨bb, 2, none⟩ = some (.int .i64 P) := HI.out.sc.both.mem.head.cell 2
            obtain ⟨pp, hpp⟩ : ∃ pp, x % P = pp := ⟨_, rfl⟩
            have q1 : Int.tmod x P = pp := by rw [Int.tmod_eq_emod_of_nonneg hxb.1]; exact hpp
            have pp0 : 0 ≤ pp := by rw [← hpp]; exact Int.emod_nonneg _ (by omega)
            have pp1 : pp < P := by rw [← hpp]; exact Int.emod_lt_of_pos _ (by omega)
            have hP0 : ¬ P = 0 := by omega
            have ex : IntKind.i64.wrap x = x := by rw [IntKind.wrap_i64]; omega
            have ep : IntKind.i64.wrap pp = pp := by rw [IntKind.wrap_i64]; omega
            have HBES : Hid (∀ W, Adds wr W → Calls Tryz.prog 43 #[.pointer (some ⟨ab, 0, none⟩), .pointer (some ⟨bb, 0, none⟩), .int .i64 pp, .int .i64 g] W fun e w' => e = .returned (.bool true) ∧ Hid (CH w ab sb sm rb rg bb tb tm ub fb onb qb n P g w' (besideS P n g pp (s'.word (pgAt P n 9 pp)) s) (besideS P n g pp (s'.word (pgAt P n 9 pp)) s') L Ms) ∧ Hid (w'.cell? ⟨bb, 2, none⟩ = some (.int .i64 P) ∧ w'.cell? ⟨b, off + k, none⟩ = some (.int .u8 x))) := Lib.hid (fun W hA => by
              have hI := HI.out.add hA
              refine (beside_any hI.sc.both HMAY.out hI.sc.len hI.sc.len' pp0 pp1 ⟨by omega, by omega⟩).mono (fun e w' c => ?_)
              obtain ⟨q1, q2, q3⟩ := c
              have h1 := hI.put HMAY.out q2 (besideS_len _ _ _ _ _ _) (besideS_len _ _ _ _ _ _) q3
              exact ⟨q1, Lib.hid h1, Lib.hid ⟨h1.sc.both.mem.head.cell 2, HD0.out w' h1.sc.adds⟩⟩)
            clear hpp
            go_upto_region 11 with fail
            refine wp_region_held_drew (S := (fun W => W.cell? ⟨bb, 2, none⟩ = some (.int .i64 P) ∧ W.cell? ⟨b, off + k, none⟩ = some (.int .u8 x))) (by kernel_rfl) ⟨m2, d0⟩ (fun hHeld => ?_)
            refine wpAnyH_take (i := 0) (v := (.pointer (some ⟨ab, 0, none⟩))) rfl (by kernel_rfl) (by kernel_rfl) (by kernel_rfl) (fun _ _ _ h => h) (Or.inl ⟨by rfl, fun W hS => by first | rfl | (go_simp; done)⟩) hHeld ?_
            try simp only [Act.put, List.getElem_toArray, List.getElem_cons_succ, List.getElem_cons_zero, List.setIfInBounds_toArray, List.set_cons_zero, List.set_cons_succ]
            refine wpAnyH_take (i := 1) (v := (.pointer (some ⟨bb, 0, none⟩))) rfl (by kernel_rfl) (by kernel_rfl) (by kernel_rfl) (fun _ _ _ h => h) (Or.inl ⟨by rfl, fun W hS => by first | rfl | (go_simp; done)⟩) hHeld ?_
            try simp only [Act.put, List.getElem_toArray, List.getElem_cons_succ, List.getElem_cons_zero, List.setIfInBounds_toArray, List.set_cons_zero, List.set_cons_succ]
            refine wpAnyH_take (i := 2) (v := (.slice (some ⟨b, off, none⟩) len0 cap0)) rfl (by kernel_rfl) (by kernel_rfl) (by kernel_rfl) (fun _ _ _ h => h) (Or.inl ⟨by rfl, fun W hS => by first | rfl | (go_simp; done)⟩) hHeld ?_
            try simp only [Act.put, List.getElem_toArray, List.getElem_cons_succ, List.getElem_cons_zero, List.setIfInBounds_toArray, List.set_cons_zero, List.set_cons_succ]
            refine wpAnyH_take (i := 3) (v := (.int .i64 (k : Int))) rfl (by kernel_rfl) (by kernel_rfl) (by kernel_rfl) (fun _ _ _ h => h) (Or.inl ⟨by rfl, fun W hS => by first | rfl | (go_simp; done)⟩) hHeld ?_
            try simp only [Act.put, List.getElem_toArray, List.getElem_cons_succ, List.getElem_cons_zero, List.setIfInBounds_toArray, List.set_cons_zero, List.set_cons_succ]
            refine wpAnyH_take (i := 4) (v := (.pointer (some ⟨b, off + k, none⟩))) rfl (by kernel_rfl) (by kernel_rfl) (by kernel_rfl) (fun _ _ _ h => h) (Or.inl ⟨by rfl, fun W hS => by first | rfl | (go_simp; done)⟩) hHeld ?_
            try simp only [Act.put, List.getElem_toArray, List.getElem_cons_succ, List.getElem_cons_zero, List.setIfInBounds_toArray, List.set_cons_zero, List.set_cons_succ]
            refine wpAnyH_take (i := 5) (v := (.int .u8 x)) rfl (by kernel_rfl) (by kernel_rfl) (by kernel_rfl) (fun _ _ _ h => h) (Or.inl ⟨by rfl, fun W hS => by (obtain ⟨q1, q2⟩ := hS; go_simp; done)⟩) hHeld ?_
            try simp only [Act.put, List.getElem_toArray, List.getElem_cons_succ, List.getElem_cons_zero, List.setIfInBounds_toArray, List.set_cons_zero, List.set_cons_succ]
            refine wpAnyH_take (i := 6) (v := (.int .i64 x)) rfl (by kernel_rfl) (by kernel_rfl) (by kernel_rfl) (fun _ _ _ h => h) (Or.inl ⟨by rfl, fun W hS => by first | rfl | (go_simp; done)⟩) hHeld ?_
            try simp only [Act.put, List.getElem_toArray, List.getElem_cons_succ, List.getElem_cons_zero, List.setIfInBounds_toArray, List.set_cons_zero, List.set_cons_succ]
            refine wpAnyH_take (i := 7) (v := (.pointer (some ⟨bb, 0, none⟩))) rfl (by kernel_rfl) (by kernel_rfl) (by kernel_rfl) (fun _ _ _ h => h) (Or.inl ⟨by rfl, fun W hS => by first | rfl | (go_simp; done)⟩) hHeld ?_
            try simp only [Act.put, List.getElem_toArray, List.getElem_cons_succ, List.getElem_cons_zero, List.setIfInBounds_toArray, List.set_cons_zero, List.set_cons_succ]
            refine wpAnyH_take (i := 8) (v := (.pointer (some ⟨bb, 0, none⟩))) rfl (by kernel_rfl) (by kernel_rfl) (by kernel_rfl) (fun _ _ _ h => h) (Or.inl ⟨by rfl, fun W hS => by first | rfl | (go_simp; done)⟩) hHeld ?_
            try simp only [Act.put, List.getElem_toArray, List.getElem_cons_succ, List.getElem_cons_zero, List.setIfInBounds_toArray, List.set_cons_zero, List.set_cons_succ]
            refine wpAnyH_take (i := 9) (v := (.pointer (some ⟨bb, 2, none⟩))) rfl (by kernel_rfl) (by kernel_rfl) (by kernel_rfl) (fun _ _ _ h => h) (Or.inl ⟨by rfl, fun W hS => by first | rfl | (go_simp; done)⟩) hHeld ?_
            try simp only [Act.put, List.getElem_toArray, List.getElem_cons_succ, List.getElem_cons_zero, List.setIfInBounds_toArray, List.set_cons_zero, List.set_cons_succ]
            refine wpAnyH_take (i := 10) (v := (.pointer (some ⟨bb, 2, none⟩))) rfl (by kernel_rfl) (by kernel_rfl) (by kernel_rfl) (fun _ _ _ h => h) (Or.inl ⟨by rfl, fun W hS => by first | rfl | (go_simp; done)⟩) hHeld ?_
            try simp only [Act.put, List.getElem_toArray, List.getElem_cons_succ, List.getElem_cons_zero, List.setIfInBounds_toArray, List.set_cons_zero, List.set_cons_succ]
            refine wpAnyH_take (i := 11) (v := (.int .i64 P)) rfl (by kernel_rfl) (by kernel_rfl) (by kernel_rfl) (fun _ _ _ h => h) (Or.inl ⟨by rfl, fun W hS => by (obtain ⟨q1, q2⟩ := hS; go_simp; done)⟩) hHeld ?_
            try simp only [Act.put, List.getElem_toArray, List.getElem_cons_succ, List.getElem_cons_zero, List.setIfInBounds_toArray, List.set_cons_zero, List.set_cons_succ]
            refine wpAnyH_take (i := 12) (v := (.int .i64 pp)) rfl (by kernel_rfl) (by kernel_rfl) (by kernel_rfl) (fun _ _ _ h => h) (Or.inl ⟨by rfl, fun W hS => by first | rfl | (go_simp; done)⟩) hHeld ?_
            try simp only [Act.put, List.getElem_toArray, List.getElem_cons_succ, List.getElem_cons_zero, List.setIfInBounds_toArray, List.set_cons_zero, List.set_cons_succ]
            refine wpAnyH_take (i := 13) (v := (.int .i64 g)) rfl (by kernel_rfl) (by kernel_rfl) (by kernel_rfl) (fun _ _ _ h => h) (Or.inl ⟨by rfl, fun W hS => by first | rfl | (go_simp; done)⟩) hHeld ?_
            try simp only [Act.put, List.getElem_toArray, List.getElem_cons_succ, List.getElem_cons_zero, List.setIfInBounds_toArray, List.set_cons_zero, List.set_cons_succ]
            refine wpAnyH_ready (rs := [14]) (by kernel_rfl) (by simp) (AllReadyH.cons rfl (fun K hK => ?_) AllReadyH.nil)
            simp only [List.getElem_toArray, List.getElem_cons_succ, List.getElem_cons_zero]
            go_simp
            refine (HBES.out _ ((Only.refl _ _).drew)).mono ?_
            rintro e v1 ⟨rfl, HI1, HK1⟩
            obtain ⟨r1, r2⟩ := HK1.out
            refine hK.out _ _ ⟨r1, r2⟩ (fun hHeld => ?_)
            clear hK K
            try simp only [Act.put, List.getElem_toArray, List.getElem_cons_succ, List.getElem_cons_zero, List.setIfInBounds_toArray, List.set_cons_zero, List.set_cons_succ]
            refine wpAnyH_take (i := 15) (v := (.bool false)) rfl (by kernel_rfl) (by kernel_rfl) (by kernel_rfl) (fun _ _ _ h => h) (Or.inl ⟨by rfl, fun W hS => by first | rfl | (go_simp; done)⟩) hHeld ?_
            try simp only [Act.put, List.getElem_toArray, List.getElem_cons_succ, List.getElem_cons_zero, List.setIfInBounds_toArray, List.set_cons_zero, List.set_cons_succ]
            refine wpAnyH_done (by kernel_rfl) ?_ _
            go_wp2_with fail
            go_roundw
            case rel =>
              exact ⟨k + 1, _, _, L, Ms, by omega, by omega, by go_num, HI1, Lib.hid ⟨besideS_ws HE.out.1 _ _ _ _ _, HE.out.2.beside ⟨by decide, by decide⟩ HMAY.out pp0 pp1 _⟩, Lib.hid (fun j y e => by obtain ⟨q, e1, e2⟩ := HL.out j y e; exact ⟨q, e1, e2.mono⟩)⟩
            case measure => simp [intOf]; omega
          · go_upto_region 14 with (go_at_call 11; refine (who_any HV.out HI.out.sc.adds k n ⟨by omega, by omega⟩ (by omega)).mono ?_; rintro e v1 ⟨t, rfl, ht, rfl⟩)
            have HSC := Lib.hid HI.out.sc.lanes
            obtain ⟨oz, hLt⟩ : ∃ oz, L[t]? = some oz := ⟨_, List.getElem?_eq_getElem (by rw [HI.out.ll]; exact ht)⟩
            obtain ⟨om, hMt⟩ : ∃ om, Ms[t]? = some om := ⟨_, List.getElem?_eq_getElem (by rw [HI.out.lm]; exact ht)⟩
            obtain ⟨-, -, o1, -⟩ := HI.out.cells hMt hLt
            have HLt := Lib.hid hLt; have HMt := Lib.hid hMt
            have HLEN := Lib.hid (show t < Ms.length by rw [HI.out.lm]; exact ht)
            obtain ⟨qa, hqa⟩ : ∃ qa : Option Addr, ptrV (oz.map Lane.b) = .pointer qa := ⟨_, rfl⟩
            rw [hqa] at o1
            have HQA := Lib.hid hqa
            have hq := fun W => refP_none W qa
            have g1 : (0 : Int) ≤ (t : Int) := by omega
            have g3 : (t : Int) < n := by omega
            clear hLt hMt hqa d0 HD0
            go_upto_if 83 with fail
            go_cut [20] (fun y wd => y = .int .i64 (t : Int) ∧ ∃ (z : ClL) (L' : List (Option ClL)) (Ms' : List (Option Nat)), Hid (CH w ab sb sm rb rg bb tb tm ub fb onb qb n P g wd s s' L' Ms') ∧ Hid (L'[t]? = some (some z)) ∧ Hid (∀ (j : Nat) (y : ClL), L'[j]? = some (some y) → ∃ q, y.k.2 = .inl q ∧ ClmM y.x P n g k q))
            case first =>
              rcases oz with _ | z
              · obtain rfl : qa = none := by have := HQA.out; simpa [ptrV] using this.symm
                clear hq o1
                go_upto_region 15 with fail
                have m2 : wr.cell? ⟨bb, 2, none⟩ = some (.int .i64 P) := HI.out.sc.both.mem.head.cell 2
                have m3 : wr.cell? ⟨bb, 3, none⟩ = some (.int .i64 n) := HI.out.sc.both.mem.head.cell 3
                have HXO : Hid (clM P n g).Ok := Lib.hid ⟨Nat.le_refl _, fun e => by cases e⟩
                refine wp_region_held_drew (S := (fun W => W.cell? ⟨bb, 2, none⟩ = some (.int .i64 P) ∧ W.cell? ⟨bb, 3, none⟩ = some (.int .i64 n))) (by kernel_rfl) ⟨m2, m3⟩ (fun hHeld => ?_)
                refine wpAnyH_take (i := 0) (v := (.slice (some ⟨onb, 0, none⟩) n n)) rfl (by kernel_rfl) (by kernel_rfl) (by kernel_rfl) (fun _ _ _ h => h) (Or.inl ⟨by rfl, fun W hS => by first | rfl | (go_simp; done)⟩) hHeld ?_
                try simp only [Act.put, List.getElem_toArray, List.getElem_cons_succ, List.getElem_cons_zero, List.setIfInBounds_toArray, List.set_cons_zero, List.set_cons_succ]
                refine wpAnyH_take (i := 1) (v := (.int .i64 (t : Int))) rfl (by kernel_rfl) (by kernel_rfl) (by kernel_rfl) (fun _ _ _ h => h) (Or.inl ⟨by rfl, fun W hS => by first | rfl | (go_simp; done)⟩) hHeld ?_
                try simp only [Act.put, List.getElem_toArray, List.getElem_cons_succ, List.getElem_cons_zero, List.setIfInBounds_toArray, List.set_cons_zero, List.set_cons_succ]
                refine wpAnyH_take (i := 2) (v := (.slice (some ⟨qb, 0, none⟩) n n)) rfl (by kernel_rfl) (by kernel_rfl) (by kernel_rfl) (fun _ _ _ h => h) (Or.inl ⟨by rfl, fun W hS => by first | rfl | (go_simp; done)⟩) hHeld ?_
                try simp only [Act.put, List.getElem_toArray, List.getElem_cons_succ, List.getElem_cons_zero, List.setIfInBounds_toArray, List.set_cons_zero, List.set_cons_succ]
                refine wpAnyH_take (i := 3) (v := (.int .i64 (t : Int))) rfl (by kernel_rfl) (by kernel_rfl) (by kernel_rfl) (fun _ _ _ h => h) (Or.inl ⟨by rfl, fun W hS => by first | rfl | (go_simp; done)⟩) hHeld ?_
                try simp only [Act.put, List.getElem_toArray, List.getElem_cons_succ, List.getElem_cons_zero, List.setIfInBounds_toArray, List.set_cons_zero, List.set_cons_succ]
                refine wpAnyH_take (i := 4) (v := (.pointer (some ⟨bb, 0, none⟩))) rfl (by kernel_rfl) (by kernel_rfl) (by kernel_rfl) (fun _ _ _ h => h) (Or.inl ⟨by rfl, fun W hS => by first | rfl | (go_simp; done)⟩) hHeld ?_
                try simp only [Act.put, List.getElem_toArray, List.getElem_cons_succ, List.getElem_cons_zero, List.setIfInBounds_toArray, List.set_cons_zero, List.set_cons_succ]
                refine wpAnyH_take (i := 5) (v := (.pointer (some ⟨bb, 0, none⟩))) rfl (by kernel_rfl) (by kernel_rfl) (by kernel_rfl) (fun _ _ _ h => h) (Or.inl ⟨by rfl, fun W hS => by first | rfl | (go_simp; done)⟩) hHeld ?_
                try simp only [Act.put, List.getElem_toArray, List.getElem_cons_succ, List.getElem_cons_zero, List.setIfInBounds_toArray, List.set_cons_zero, List.set_cons_succ]
                refine wpAnyH_take (i := 6) (v := (.pointer (some ⟨bb, 2, none⟩))) rfl (by kernel_rfl) (by kernel_rfl) (by kernel_rfl) (fun _ _ _ h => h) (Or.inl ⟨by rfl, fun W hS => by first | rfl | (go_simp; done)⟩) hHeld ?_
                try simp only [Act.put, List.getElem_toArray, List.getElem_cons_succ, List.getElem_cons_zero, List.setIfInBounds_toArray, List.set_cons_zero, List.set_cons_succ]
                refine wpAnyH_take (i := 7) (v := (.agg #[.int .i64 P, .int .i64 n])) rfl (by kernel_rfl) (by kernel_rfl) (by kernel_rfl) (fun _ _ _ h => h) (Or.inl ⟨by rfl, fun W hS => by (obtain ⟨q1, q2⟩ := hS; go_simp; done)⟩) hHeld ?_
                try simp only [Act.put, List.getElem_toArray, List.getElem_cons_succ, List.getElem_cons_zero, List.setIfInBounds_toArray, List.set_cons_zero, List.set_cons_succ]
                refine wpAnyH_take (i := 8) (v := (.int .i64 g)) rfl (by kernel_rfl) (by kernel_rfl) (by kernel_rfl) (fun _ _ _ h => h) (Or.inl ⟨by rfl, fun W hS => by first | rfl | (go_simp; done)⟩) hHeld ?_
                try simp only [Act.put, List.getElem_toArray, List.getElem_cons_succ, List.getElem_cons_zero, List.setIfInBounds_toArray, List.set_cons_zero, List.set_cons_succ]
                refine wpAnyH_take (i := 10) (v := (.pointer (some ⟨bb, 0, none⟩))) rfl (by kernel_rfl) (by kernel_rfl) (by kernel_rfl) (fun _ _ _ h => h) (Or.inl ⟨by rfl, fun W hS => by first | rfl | (go_simp; done)⟩) hHeld ?_
                try simp only [Act.put, List.getElem_toArray, List.getElem_cons_succ, List.getElem_cons_zero, List.setIfInBounds_toArray, List.set_cons_zero, List.set_cons_succ]
                refine wpAnyH_take (i := 11) (v := (.pointer (some ⟨bb, 0, none⟩))) rfl (by kernel_rfl) (by kernel_rfl) (by kernel_rfl) (fun _ _ _ h => h) (Or.inl ⟨by rfl, fun W hS => by first | rfl | (go_simp; done)⟩) hHeld ?_
                try simp only [Act.put, List.getElem_toArray, List.getElem_cons_succ, List.getElem_cons_zero, List.setIfInBounds_toArray, List.set_cons_zero, List.set_cons_succ]
                refine wpAnyH_take (i := 12) (v := (.pointer (some ⟨bb, 2, none⟩))) rfl (by kernel_rfl) (by kernel_rfl) (by kernel_rfl) (fun _ _ _ h => h) (Or.inl ⟨by rfl, fun W hS => by first | rfl | (go_simp; done)⟩) hHeld ?_
                try simp only [Act.put, List.getElem_toArray, List.getElem_cons_succ, List.getElem_cons_zero, List.setIfInBounds_toArray, List.set_cons_zero, List.set_cons_succ]
                refine wpAnyH_take (i := 13) (v := (.agg #[.int .i64 P, .int .i64 n])) rfl (by kernel_rfl) (by kernel_rfl) (by kernel_rfl) (fun _ _ _ h => h) (Or.inl ⟨by rfl, fun W hS => by (obtain ⟨q1, q2⟩ := hS; go_simp; done)⟩) hHeld ?_
                try simp only [Act.put, List.getElem_toArray, List.getElem_cons_succ, List.getElem_cons_zero, List.setIfInBounds_toArray, List.set_cons_zero, List.set_cons_succ]
                refine wpAnyH_take (i := 14) (v := (.int .i64 g)) rfl (by kernel_rfl) (by kernel_rfl) (by kernel_rfl) (fun _ _ _ h => h) (Or.inl ⟨by rfl, fun W hS => by first | rfl | (go_simp; done)⟩) hHeld ?_
                try simp only [Act.put, List.getElem_toArray, List.getElem_cons_succ, List.getElem_cons_zero, List.setIfInBounds_toArray, List.set_cons_zero, List.set_cons_succ]
                refine wpAnyH_take (i := 15) (v := (.agg (clMA P n g))) rfl (by kernel_rfl) (by kernel_rfl) (by kernel_rfl) (fun _ _ _ h => h) (Or.inl ⟨by rfl, fun W hS => by (go_simp; rfl)⟩) hHeld ?_
                try simp only [Act.put, List.getElem_toArray, List.getElem_cons_succ, List.getElem_cons_zero, List.setIfInBounds_toArray, List.set_cons_zero, List.set_cons_succ]
                refine wpAnyH_ready (rs := [9]) (by kernel_rfl) (by simp) (AllReadyH.cons rfl (fun K hK => ?_) AllReadyH.nil)
                simp only [List.getElem_toArray, List.getElem_cons_succ, List.getElem_cons_zero]
                go_simp
                refine (newClaim_ok P n 12 g _ HHD.out HCY.out).mono ?_
                rintro e v1 ⟨mb, pb, nn, bp, bm, rfl, hc, hp, ho1, l1, l2⟩
                have HI3 := Lib.hid (HI.out.add ((Only.refl (fun _ => False) wr).drew.thenF ho1))
                have HC3 := Lib.hid hc; have HP3 := Lib.hid hp; have HL3 := Lib.hid (And.intro l1 l2)
                have k2 := cell_al (cell_al m2 ((Only.refl (fun _ => False) wr).drew)) ho1; have k3 := cell_al (cell_al m3 ((Only.refl (fun _ => False) wr).drew)) ho1
                clear hc hp l1 l2
                refine hK.out _ _ ⟨k2, k3⟩ (fun hHeld => ?_)
                clear hK K
                try simp only [Act.put, List.getElem_toArray, List.getElem_cons_succ, List.getElem_cons_zero, List.setIfInBounds_toArray, List.set_cons_zero, List.set_cons_succ]
                refine wpAnyH_ready (rs := [16]) (by kernel_rfl) (by simp) (AllReadyH.cons rfl (fun K hK => ?_) AllReadyH.nil)
                simp only [List.getElem_toArray, List.getElem_cons_succ, List.getElem_cons_zero]
                go_simp
                refine (mNew_any (x := clM P n g) rfl rfl HXO.out _).mono ?_
                rintro e v2 ⟨mq, rfl, hmq, ho2, l3⟩
                have HI4 := Lib.hid (HI3.out.add ho2)
                have HC4 := Lib.hid (HC3.out.adds ho2)
                have HP4 : Hid (Pop1 v2 pb P n 12 0 (-1)) := Lib.hid (Desk.only HP3.out ho2 id (fun _ _ _ _ => id))
                have HM4 := Lib.hid hmq
                have HL4 := Lib.hid (And.intro l3 ho1.size)
                have k4 := cell_al k2 ho2; have k5 := cell_al k3 ho2
                obtain ⟨c1, f1, c2, f2⟩ := HI4.out.cells HMt.out HLt.out
                clear hmq l3
                refine hK.out _ _ ⟨k4, k5⟩ (fun hHeld => ?_)
                clear hK K
                try simp only [Act.put, List.getElem_toArray, List.getElem_cons_succ, List.getElem_cons_zero, List.setIfInBounds_toArray, List.set_cons_zero, List.set_cons_succ]
                refine wpAnyH_take (i := 17) (v := (.pointer (some ⟨onb, t, none⟩))) rfl (by kernel_rfl) (by kernel_rfl) (by kernel_rfl) (fun _ _ _ h => h) (Or.inl ⟨by rfl, fun W hS => by first | rfl | (go_simp; done)⟩) hHeld ?_
                try simp only [Act.put, List.getElem_toArray, List.getElem_cons_succ, List.getElem_cons_zero, List.setIfInBounds_toArray, List.set_cons_zero, List.set_cons_succ]
                refine wpAnyH_ready (rs := [18]) (by kernel_rfl) (by simp) (AllReadyH.cons rfl (fun K hK => ?_) AllReadyH.nil)
                simp only [List.getElem_toArray, List.getElem_cons_succ, List.getElem_cons_zero]
                go_simp
                have hN := HI.out.nbm HI4.out.orow HC4.out.b (by have h1 := HL3.out.1; simp only [World.size_drew] at h1; exact h1)
                have hO5 := only_at v2 onb t (.pointer (some ⟨mb, 0, none⟩))
                have hrow5 := newCl_row HC4.out HP4.out HI4.out.orow (.inl rfl) hN hO5
                have HC5 := Lib.hid hrow5.1; have HP5 := Lib.hid hrow5.2
                have HI5 : Hid (CH w ab sb sm rb rg bb tb tm ub fb onb qb n P g (v2.setCell ⟨onb, t, none⟩ (.pointer (some ⟨mb, 0, none⟩))) s s' L (Ms.set t (some mb))) := Lib.hid (HI4.out.setO HLt.out HC4.out.m.lt)
                have HM5 : Hid (IsM (v2.setCell ⟨onb, t, none⟩ (.pointer (some ⟨mb, 0, none⟩))) mq (clM P n g).fresh (.slice none 0 0) (.slice none 0 0) (.pointer none)) := Lib.hid (HM4.out.only hO5 (fun e => by have := (HI4.out.orow.uniq (e ▸ HM4.out.blk)).2; revert this; decide) (fun g hg => by cases hg))
                have hnb : ¬ onb = bb := fun e => by have h1 := HI4.out.orow; rw [e] at h1; have := (h1.uniq HI4.out.sc.both.mem.head).2; revert this; decide
                clear hrow5 hN hO5
                refine hK.out _ _ ⟨(World.cell?_setCell_far _ _ _ _ hnb).trans k4, (World.cell?_setCell_far _ _ _ _ hnb).trans k5⟩ (fun hHeld => ?_)
                clear hK K
                try simp only [Act.put, List.getElem_toArray, List.getElem_cons_succ, List.getElem_cons_zero, List.setIfInBounds_toArray, List.set_cons_zero, List.set_cons_succ]
                obtain ⟨-, -, c3, f3⟩ := HI5.out.cells (List.getElem?_set_self HLEN.out) HLt.out
                refine wpAnyH_take (i := 19) (v := (.pointer (some ⟨qb, t, none⟩))) rfl (by kernel_rfl) (by kernel_rfl) (by kernel_rfl) (fun _ _ _ h => h) (Or.inl ⟨by rfl, fun W hS => by first | rfl | (go_simp; done)⟩) hHeld ?_
                try simp only [Act.put, List.getElem_toArray, List.getElem_cons_succ, List.getElem_cons_zero, List.setIfInBounds_toArray, List.set_cons_zero, List.set_cons_succ]
                refine wpAnyH_ready (rs := [20]) (by kernel_rfl) (by simp) (AllReadyH.cons rfl (fun K hK => ?_) AllReadyH.nil)
                simp only [List.getElem_toArray, List.getElem_cons_succ, List.getElem_cons_zero]
                go_simp
                have hnq : ¬ qb = bb := fun e => by have h1 := HI5.out.qrow; rw [e] at h1; have := (h1.uniq HI5.out.sc.both.mem.head).2; revert this; decide
                refine hK.out _ _ ⟨(World.cell?_setCell_far _ _ _ _ hnq).trans ((World.cell?_setCell_far _ _ _ _ hnb).trans k4), (World.cell?_setCell_far _ _ _ _ hnq).trans ((World.cell?_setCell_far _ _ _ _ hnb).trans k5)⟩ (fun hHeld => ?_)
                clear hK K
                try simp only [Act.put, List.getElem_toArray, List.getElem_cons_succ, List.getElem_cons_zero, List.setIfInBounds_toArray, List.set_cons_zero, List.set_cons_succ]
                refine wpAnyH_done (by kernel_rfl) ?_ _
                go_wp2_with fail
                go_meet
                have hbq : bm ≠ qb := fun e => by have := (HC5.out.b.uniq (e ▸ HI5.out.qrow)).2; revert this; decide
                have hrow6 := newCl_row HC5.out HP5.out HI5.out.qrow (.inr rfl) hbq (only_at _ qb t (ptrV (some mq)))
                have hX : ClX P n 12 g ((v2.setCell ⟨onb, t, none⟩ (.pointer (some ⟨mb, 0, none⟩))).setCell ⟨qb, t, none⟩ (ptrV (some mq))) mb pb (.inl (.pop .load)) := ⟨nn, bp, bm, _, _, hrow6.1, _, hrow6.2⟩
                have hsw := HI.out.sc.adds.size
                have hl1 := HL3.out; have hl2 := HL4.out
                simp only [World.size_drew] at hl1 hl2
                have hF := HI5.out.begin (t := t) (z := (⟨mb, (pb, .inl (.pop .load)), mq, (clM P n g).fresh, .slice none 0 0, .slice none 0 0, .pointer none⟩ : ClL)) HSC.out hsw HLt.out (List.getElem?_set_self HLEN.out) ⟨hX, hX.run trivial⟩ HM5.out rfl (by show wr.heap.size ≤ mb; omega) (by show wr.heap.size ≤ mq; omega) (by show wr.heap.size ≤ pb; omega)
                refine ⟨rfl, (⟨mb, (pb, .inl (.pop .load)), mq, (clM P n g).fresh, .slice none 0 0, .slice none 0 0, .pointer none⟩ : ClL), _, _, Lib.hid hF, Lib.hid (List.getElem?_set_self (by rw [HI.out.ll]; exact ht)), Lib.hid (fun j y e => ?_)⟩
                rcases set_cases e with ⟨rfl, e2⟩ | ⟨hj, e2⟩
                · injection e2 with e2; subst e2
                  exact ⟨.pop .load, rfl, ⟨rfl, Nat.zero_le _, rfl, rfl, rfl, rfl, rfl, rfl⟩⟩
                · exact HL.out j y e2
              · obtain rfl : qa = some ⟨z.b, 0, none⟩ := by have := HQA.out; simpa [ptrV] using this.symm
                go_wp2_with fail
                go_meet
                exact ⟨rfl, z, L, Ms, HI, HLt, HL⟩
            case rest =>
              obtain ⟨rfl, z, L', Ms', HI2, HLz1, HL2⟩ := hcut
              clear HI HL HLt HMt HQA HSC hq o1 HLEN
              have HLz := Lib.hid (And.intro HLz1.out (HI2.out.at_ t z HLz1.out))
              have HLE := Lib.hid (show t < L'.length by rw [HI2.out.ll]; exact ht)
              obtain ⟨q, hq1, hx⟩ := HL2.out t z HLz1.out
              obtain ⟨o1, -, o2, -⟩ := HI2.out.cells HLz.out.2 HLz.out.1
              replace o1 : wc.cell? ⟨onb, t, none⟩ = some (.pointer (some ⟨z.a, 0, none⟩)) := o1
              replace o2 : wc.cell? ⟨qb, t, none⟩ = some (.pointer (some ⟨z.b, 0, none⟩)) := o2
              have hKA : ClA P n 12 g wc z.a z.k.1 q := by
                have := (show ClP P n 12 g wc z.a z.k.1 z.k.2 from HI2.out.sc.lanes.A t z HLz.out.1).1
                rw [hq1] at this; exact this
              have HKO := Lib.hid hKA.ok
              obtain ⟨c, hc⟩ : ∃ c, c = (claimA P n 12 g).ac q := ⟨_, rfl⟩
              obtain ⟨ka, hka⟩ : ∃ v, v = (c.act s).k := ⟨_, rfl⟩
              obtain ⟨kp, hkp⟩ : ∃ v, v = (c.act s).pos := ⟨_, rfl⟩
              obtain ⟨ko, hko⟩ : ∃ v, v = (c.act s).old := ⟨_, rfl⟩
              obtain ⟨kn, hkn⟩ : ∃ v, v = (c.act s).new := ⟨_, rfl⟩
              obtain ⟨nx, hnx⟩ : ∃ v, v = (claimA P n 12 g).nx q (s.word c.pos) := ⟨_, rfl⟩
              obtain ⟨dn, hdn0⟩ : ∃ v, v = overB nx := ⟨_, rfl⟩
              obtain ⟨gn, hgn⟩ : ∃ v, v = pgOf nx := ⟨_, rfl⟩
              have HSTA : Hid (∀ W, Adds wc W → Calls Tryz.prog 39 #[.pointer (some ⟨z.a, 0, none⟩), .pointer (some ⟨ab, 0, none⟩)] W fun e w' => e = .returned (.agg #[.int .i64 ka, .int .i64 kp, .int .u64 ko, .int .u64 kn]) ∧ ∃ pb1, Hid (CH w ab sb sm rb rg bb tb tm ub fb onb qb n P g w' (c.act s) s' (L'.set t (some { z with k := (pb1, nx) })) Ms')) := Lib.hid (fun W hA => by
                refine (ourStep (HI2.out.add hA) HLz.out.1 HMAY.out hq1 HE.out.2 HCY.out).mono (fun e w' cc => ?_)
                rw [← hc, ← hnx] at cc
                obtain ⟨q1, pb1, q2⟩ := cc
                exact ⟨by rw [q1, hka, hkp, hko, hkn], pb1, q2⟩)
              have HDOC : Hid (∀ W pb1, Hid (CH w ab sb sm rb rg bb tb tm ub fb onb qb n P g W (c.act s) s' (L'.set t (some { z with k := (pb1, nx) })) Ms') → Calls Tryz.prog 14 #[.pointer (some ⟨z.b, 0, none⟩), .pointer (some ⟨bb, 0, none⟩)] W fun e w' => e = .returned (.agg #[.int .i64 ka, .int .i64 kp, .int .u64 ko, .int .u64 kn]) ∧ ∃ z2 : ClL, Hid (z2.a = z.a ∧ z2.b = z.b ∧ z2.k = (pb1, nx)) ∧ Hid (∀ k1, nx = .inl k1 → ClmM z2.x P n g (k + 1) k1) ∧ Hid (w'.cell? ⟨z.b, 15, none⟩ = some (.bool dn) ∧ w'.cell? ⟨z.b, 23, none⟩ = some (.int .i64 gn)) ∧ Hid (CH w ab sb sm rb rg bb tb tm ub fb onb qb n P g w' (c.act s) (c.act s') ((L'.set t (some { z with k := (pb1, nx) })).set t (some z2)) Ms')) := Lib.hid (fun W pb1 hV => by
                refine (docStepC (q := q) (z := z) (pb1 := pb1) hV.out (List.getElem?_set_self HLE.out) HMAY.out (by rw [← hc]; exact hnx) hx HE.out.1 (by omega) (by omega) HE.out.2 HKO.out).mono (fun e w' cc => ?_)
                rw [← hc] at cc
                obtain ⟨q1, z2, q2, q3, q4, q5⟩ := cc
                exact ⟨by rw [q1, hka, hkp, hko, hkn], z2, Lib.hid q2, Lib.hid q3, Lib.hid (by rw [hdn0, hgn]; exact q4), Lib.hid q5⟩)
              have HLK : Hid (∀ W (z2 : ClL) pb1, CH w ab sb sm rb rg bb tb tm ub fb onb qb n P g W (c.act s) (c.act s') ((L'.set t (some { z with k := (pb1, nx) })).set t (some z2)) Ms' → (z2.a = z.a ∧ z2.b = z.b ∧ z2.k = (pb1, nx)) → ClX P n 12 g W z.a pb1 nx) := Lib.hid (fun W z2 pb1 h e => by
                have h1 : ClP P n 12 g W z2.a z2.k.1 z2.k.2 := h.sc.lanes.A t z2 (List.getElem?_set_self (by simpa using HLE.out))
                rw [e.1, e.2.2] at h1
                exact h1.1)
              have HDN : Hid (∀ W (z2 : ClL) pb1, CH w ab sb sm rb rg bb tb tm ub fb onb qb n P g W (c.act s) (c.act s') ((L'.set t (some { z with k := (pb1, nx) })).set t (some z2)) Ms' → (z2.a = z.a ∧ z2.b = z.b ∧ z2.k = (pb1, nx)) → Calls Tryz.prog 38 #[.pointer (some ⟨z.a, 0, none⟩)] W fun e w' => e = .returned (.bool dn) ∧ W = w') := Lib.hid (fun W z2 pb1 h e => by
                rw [hdn0]; exact clX_done (HLK.out W z2 pb1 h e))
              have HPG : Hid (∀ W (z2 : ClL) pb1, CH w ab sb sm rb rg bb tb tm ub fb onb qb n P g W (c.act s) (c.act s') ((L'.set t (some { z with k := (pb1, nx) })).set t (some z2)) Ms' → (z2.a = z.a ∧ z2.b = z.b ∧ z2.k = (pb1, nx)) → Calls Tryz.prog 40 #[.pointer (some ⟨z.a, 0, none⟩)] W fun e w' => e = .returned (.int .i64 gn) ∧ W = w') := Lib.hid (fun W z2 pb1 h e => by
                rw [hgn]; exact clX_page (HLK.out W z2 pb1 h e))
              have HDG := Lib.hid hdn0
              have HSA : Hid (StkOk P n 12 (c.act s)) := Lib.hid (by rw [hc]; exact HE.out.2.act HKO.out ⟨by decide, by decide⟩ HMAY.out HI2.out.sc.len)
              have HWS := Lib.hid (act_same c HE.out.1).1
              have hdn : ∀ W, Sem.run Tryz.prog (binOp .neq 45 (.agg #[.int .i64 ka, .int .i64 kp, .int .u64 ko, .int .u64 kn]) (.agg #[.int .i64 ka, .int .i64 kp, .int .u64 ko, .int .u64 kn])) W = .ok (.bool false) W := fun W => by rw [did_neq]; simp
              clear hc hka hkp hko hkn hnx hdn0 hgn hKA hq1 hx
              go_upto_region 16 with fail
              refine wp_region_held_drew (S := (fun W => W.cell? ⟨onb, t, none⟩ = some (.pointer (some ⟨z.a, 0, none⟩)) ∧ W.cell? ⟨qb, t, none⟩ = some (.pointer (some ⟨z.b, 0, none⟩)))) (by kernel_rfl) ⟨o1, o2⟩ (fun hHeld => ?_)
              refine wpAnyH_take (i := 0) (v := (.slice (some ⟨onb, 0, none⟩) n n)) rfl (by kernel_rfl) (by kernel_rfl) (by kernel_rfl) (fun _ _ _ h => h) (Or.inl ⟨by rfl, fun W hS => by first | rfl | (go_simp; done)⟩) hHeld ?_
              try simp only [Act.put, List.getElem_toArray, List.getElem_cons_succ, List.getElem_cons_zero, List.setIfInBounds_toArray, List.set_cons_zero, List.set_cons_succ]
              refine wpAnyH_take (i := 1) (v := (.int .i64 (t : Int))) rfl (by kernel_rfl) (by kernel_rfl) (by kernel_rfl) (fun _ _ _ h => h) (Or.inl ⟨by rfl, fun W hS => by first | rfl | (go_simp; done)⟩) hHeld ?_
              try simp only [Act.put, List.getElem_toArray, List.getElem_cons_succ, List.getElem_cons_zero, List.setIfInBounds_toArray, List.set_cons_zero, List.set_cons_succ]
              refine wpAnyH_take (i := 2) (v := (.pointer (some ⟨onb, t, none⟩))) rfl (by kernel_rfl) (by kernel_rfl) (by kernel_rfl) (fun _ _ _ h => h) (Or.inl ⟨by rfl, fun W hS => by first | rfl | (go_simp; done)⟩) hHeld ?_
              try simp only [Act.put, List.getElem_toArray, List.getElem_cons_succ, List.getElem_cons_zero, List.setIfInBounds_toArray, List.set_cons_zero, List.set_cons_succ]
              refine wpAnyH_take (i := 3) (v := (.pointer (some ⟨z.a, 0, none⟩))) rfl (by kernel_rfl) (by kernel_rfl) (by kernel_rfl) (fun _ _ _ h => h) (Or.inl ⟨by rfl, fun W hS => by (obtain ⟨q1, q2⟩ := hS; go_simp; done)⟩) hHeld ?_
              try simp only [Act.put, List.getElem_toArray, List.getElem_cons_succ, List.getElem_cons_zero, List.setIfInBounds_toArray, List.set_cons_zero, List.set_cons_succ]
              refine wpAnyH_take (i := 4) (v := (.bool false)) rfl (by kernel_rfl) (by kernel_rfl) (by kernel_rfl) (fun _ _ _ h => h) (Or.inl ⟨by rfl, fun W hS => by first | rfl | (go_simp; done)⟩) hHeld ?_
              try simp only [Act.put, List.getElem_toArray, List.getElem_cons_succ, List.getElem_cons_zero, List.setIfInBounds_toArray, List.set_cons_zero, List.set_cons_succ]
              refine wpAnyH_take (i := 5) (v := (.bool false)) rfl (by kernel_rfl) (by kernel_rfl) (by kernel_rfl) (fun _ _ _ h => h) (Or.inl ⟨by rfl, fun W hS => by first | rfl | (go_simp; done)⟩) hHeld ?_
              try simp only [Act.put, List.getElem_toArray, List.getElem_cons_succ, List.getElem_cons_zero, List.setIfInBounds_toArray, List.set_cons_zero, List.set_cons_succ]
              refine wpAnyH_take (i := 6) (v := (.slice (some ⟨onb, 0, none⟩) n n)) rfl (by kernel_rfl) (by kernel_rfl) (by kernel_rfl) (fun _ _ _ h => h) (Or.inl ⟨by rfl, fun W hS => by first | rfl | (go_simp; done)⟩) hHeld ?_
              try simp only [Act.put, List.getElem_toArray, List.getElem_cons_succ, List.getElem_cons_zero, List.setIfInBounds_toArray, List.set_cons_zero, List.set_cons_succ]
              refine wpAnyH_take (i := 7) (v := (.int .i64 (t : Int))) rfl (by kernel_rfl) (by kernel_rfl) (by kernel_rfl) (fun _ _ _ h => h) (Or.inl ⟨by rfl, fun W hS => by first | rfl | (go_simp; done)⟩) hHeld ?_
              try simp only [Act.put, List.getElem_toArray, List.getElem_cons_succ, List.getElem_cons_zero, List.setIfInBounds_toArray, List.set_cons_zero, List.set_cons_succ]
              refine wpAnyH_take (i := 8) (v := (.pointer (some ⟨onb, t, none⟩))) rfl (by kernel_rfl) (by kernel_rfl) (by kernel_rfl) (fun _ _ _ h => h) (Or.inl ⟨by rfl, fun W hS => by first | rfl | (go_simp; done)⟩) hHeld ?_
              try simp only [Act.put, List.getElem_toArray, List.getElem_cons_succ, List.getElem_cons_zero, List.setIfInBounds_toArray, List.set_cons_zero, List.set_cons_succ]
              refine wpAnyH_take (i := 9) (v := (.pointer (some ⟨z.a, 0, none⟩))) rfl (by kernel_rfl) (by kernel_rfl) (by kernel_rfl) (fun _ _ _ h => h) (Or.inl ⟨by rfl, fun W hS => by (obtain ⟨q1, q2⟩ := hS; go_simp; done)⟩) hHeld ?_
              try simp only [Act.put, List.getElem_toArray, List.getElem_cons_succ, List.getElem_cons_zero, List.setIfInBounds_toArray, List.set_cons_zero, List.set_cons_succ]
              refine wpAnyH_take (i := 10) (v := (.pointer (some ⟨ab, 0, none⟩))) rfl (by kernel_rfl) (by kernel_rfl) (by kernel_rfl) (fun _ _ _ h => h) (Or.inl ⟨by rfl, fun W hS => by first | rfl | (go_simp; done)⟩) hHeld ?_
              try simp only [Act.put, List.getElem_toArray, List.getElem_cons_succ, List.getElem_cons_zero, List.setIfInBounds_toArray, List.set_cons_zero, List.set_cons_succ]
              refine wpAnyH_take (i := 12) (v := (.slice (some ⟨qb, 0, none⟩) n n)) rfl (by kernel_rfl) (by kernel_rfl) (by kernel_rfl) (fun _ _ _ h => h) (Or.inl ⟨by rfl, fun W hS => by first | rfl | (go_simp; done)⟩) hHeld ?_
              try simp only [Act.put, List.getElem_toArray, List.getElem_cons_succ, List.getElem_cons_zero, List.setIfInBounds_toArray, List.set_cons_zero, List.set_cons_succ]
              refine wpAnyH_take (i := 13) (v := (.int .i64 (t : Int))) rfl (by kernel_rfl) (by kernel_rfl) (by kernel_rfl) (fun _ _ _ h => h) (Or.inl ⟨by rfl, fun W hS => by first | rfl | (go_simp; done)⟩) hHeld ?_
              try simp only [Act.put, List.getElem_toArray, List.getElem_cons_succ, List.getElem_cons_zero, List.setIfInBounds_toArray, List.set_cons_zero, List.set_cons_succ]
              refine wpAnyH_take (i := 14) (v := (.pointer (some ⟨qb, t, none⟩))) rfl (by kernel_rfl) (by kernel_rfl) (by kernel_rfl) (fun _ _ _ h => h) (Or.inl ⟨by rfl, fun W hS => by first | rfl | (go_simp; done)⟩) hHeld ?_
              try simp only [Act.put, List.getElem_toArray, List.getElem_cons_succ, List.getElem_cons_zero, List.setIfInBounds_toArray, List.set_cons_zero, List.set_cons_succ]
              refine wpAnyH_take (i := 15) (v := (.pointer (some ⟨z.b, 0, none⟩))) rfl (by kernel_rfl) (by kernel_rfl) (by kernel_rfl) (fun _ _ _ h => h) (Or.inl ⟨by rfl, fun W hS => by (obtain ⟨q1, q2⟩ := hS; go_simp; done)⟩) hHeld ?_
              try simp only [Act.put, List.getElem_toArray, List.getElem_cons_succ, List.getElem_cons_zero, List.setIfInBounds_toArray, List.set_cons_zero, List.set_cons_succ]
              refine wpAnyH_take (i := 16) (v := (.pointer (some ⟨bb, 0, none⟩))) rfl (by kernel_rfl) (by kernel_rfl) (by kernel_rfl) (fun _ _ _ h => h) (Or.inl ⟨by rfl, fun W hS => by first | rfl | (go_simp; done)⟩) hHeld ?_
              try simp only [Act.put, List.getElem_toArray, List.getElem_cons_succ, List.getElem_cons_zero, List.setIfInBounds_toArray, List.set_cons_zero, List.set_cons_succ]
              refine wpAnyH_ready (rs := [11]) (by kernel_rfl) (by simp) (AllReadyH.cons rfl (fun K hK => ?_) AllReadyH.nil)
              simp only [List.getElem_toArray, List.getElem_cons_succ, List.getElem_cons_zero]
              go_simp
              refine (HSTA.out _ ((Only.refl _ _).drew)).mono ?_
              rintro e v1 ⟨rfl, pb1, HV1⟩
              obtain ⟨u1, -, u2, -⟩ := HV1.out.cells HLz.out.2 (List.getElem?_set_self HLE.out)
              refine hK.out _ _ ⟨u1, u2⟩ (fun hHeld => ?_)
              clear hK K
              try simp only [Act.put, List.getElem_toArray, List.getElem_cons_succ, List.getElem_cons_zero, List.setIfInBounds_toArray, List.set_cons_zero, List.set_cons_succ]
              refine wpAnyH_ready (rs := [17]) (by kernel_rfl) (by simp) (AllReadyH.cons rfl (fun K hK => ?_) AllReadyH.nil)
              simp only [List.getElem_toArray, List.getElem_cons_succ, List.getElem_cons_zero]
              go_simp
              refine (HDOC.out _ _ HV1).mono ?_
              rintro e v2 ⟨rfl, z2, HZ2, HX2, HC2, HV2⟩
              obtain ⟨y1, -, y2, y5⟩ := HV2.out.cells HLz.out.2 (List.getElem?_set_self (by simpa using HLE.out))
              replace y2 : v2.cell? ⟨qb, t, none⟩ = some (.pointer (some ⟨z2.b, 0, none⟩)) := y2
              rw [HZ2.out.2.1] at y2
              obtain ⟨y3, y4⟩ := HC2.out
              refine hK.out _ _ ⟨y1, y2⟩ (fun hHeld => ?_)
              clear hK K
              try simp only [Act.put, List.getElem_toArray, List.getElem_cons_succ, List.getElem_cons_zero, List.setIfInBounds_toArray, List.set_cons_zero, List.set_cons_succ]
              refine wpAnyH_mono (S2 := fun W => W.cell? ⟨onb, t, none⟩ = some (.pointer (some ⟨z.a, 0, none⟩)) ∧ W.cell? ⟨qb, t, none⟩ = some (.pointer (some ⟨z.b, 0, none⟩)) ∧ W.cell? ⟨z.b, 15, none⟩ = some (.bool dn) ∧ W.cell? ⟨z.b, 23, none⟩ = some (.int .i64 gn)) (fun W h => ⟨h.1, h.2.1⟩) ?_
              replace hHeld := And.intro y1 (And.intro y2 (And.intro y3 y4))
              refine wpAnyH_take (i := 18) (v := (.bool false)) rfl (by kernel_rfl) (by kernel_rfl) (by kernel_rfl) (fun _ _ _ h => h) (Or.inl ⟨by rfl, fun W hS => by first | rfl | (go_simp; done) | (simp [go_sem, hdn]; done)⟩) hHeld ?_
              try simp only [Act.put, List.getElem_toArray, List.getElem_cons_succ, List.getElem_cons_zero, List.setIfInBounds_toArray, List.set_cons_zero, List.set_cons_succ]
              refine wpAnyH_take (i := 19) (v := (.bool false)) rfl (by kernel_rfl) (by kernel_rfl) (by kernel_rfl) (fun _ _ _ h => h) (Or.inl ⟨by rfl, fun W hS => by first | rfl | (go_simp; done)⟩) hHeld ?_
              try simp only [Act.put, List.getElem_toArray, List.getElem_cons_succ, List.getElem_cons_zero, List.setIfInBounds_toArray, List.set_cons_zero, List.set_cons_succ]
              refine wpAnyH_take (i := 20) (v := (.bool false)) rfl (by kernel_rfl) (by kernel_rfl) (by kernel_rfl) (fun _ _ _ h => h) (Or.inl ⟨by rfl, fun W hS => by first | rfl | (go_simp; done)⟩) hHeld ?_
              try simp only [Act.put, List.getElem_toArray, List.getElem_cons_succ, List.getElem_cons_zero, List.setIfInBounds_toArray, List.set_cons_zero, List.set_cons_succ]
              refine wpAnyH_take (i := 21) (v := (.slice (some ⟨onb, 0, none⟩) n n)) rfl (by kernel_rfl) (by kernel_rfl) (by kernel_rfl) (fun _ _ _ h => h) (Or.inl ⟨by rfl, fun W hS => by first | rfl | (go_simp; done)⟩) hHeld ?_
              try simp only [Act.put, List.getElem_toArray, List.getElem_cons_succ, List.getElem_cons_zero, List.setIfInBounds_toArray, List.set_cons_zero, List.set_cons_succ]
              refine wpAnyH_take (i := 22) (v := (.int .i64 (t : Int))) rfl (by kernel_rfl) (by kernel_rfl) (by kernel_rfl) (fun _ _ _ h => h) (Or.inl ⟨by rfl, fun W hS => by first | rfl | (go_simp; done)⟩) hHeld ?_
              try simp only [Act.put, List.getElem_toArray, List.getElem_cons_succ, List.getElem_cons_zero, List.setIfInBounds_toArray, List.set_cons_zero, List.set_cons_succ]
              refine wpAnyH_take (i := 23) (v := (.pointer (some ⟨onb, t, none⟩))) rfl (by kernel_rfl) (by kernel_rfl) (by kernel_rfl) (fun _ _ _ h => h) (Or.inl ⟨by rfl, fun W hS => by first | rfl | (go_simp; done)⟩) hHeld ?_
              try simp only [Act.put, List.getElem_toArray, List.getElem_cons_succ, List.getElem_cons_zero, List.setIfInBounds_toArray, List.set_cons_zero, List.set_cons_succ]
              refine wpAnyH_take (i := 24) (v := (.pointer (some ⟨z.a, 0, none⟩))) rfl (by kernel_rfl) (by kernel_rfl) (by kernel_rfl) (fun _ _ _ h => h) (Or.inl ⟨by rfl, fun W hS => by (obtain ⟨q1, q2, q3, q4⟩ := hS; go_simp; done)⟩) hHeld ?_
              try simp only [Act.put, List.getElem_toArray, List.getElem_cons_succ, List.getElem_cons_zero, List.setIfInBounds_toArray, List.set_cons_zero, List.set_cons_succ]
              refine wpAnyH_take (i := 26) (v := (.slice (some ⟨qb, 0, none⟩) n n)) rfl (by kernel_rfl) (by kernel_rfl) (by kernel_rfl) (fun _ _ _ h => h) (Or.inl ⟨by rfl, fun W hS => by first | rfl | (go_simp; done)⟩) hHeld ?_
              try simp only [Act.put, List.getElem_toArray, List.getElem_cons_succ, List.getElem_cons_zero, List.setIfInBounds_toArray, List.set_cons_zero, List.set_cons_succ]
              refine wpAnyH_take (i := 27) (v := (.int .i64 (t : Int))) rfl (by kernel_rfl) (by kernel_rfl) (by kernel_rfl) (fun _ _ _ h => h) (Or.inl ⟨by rfl, fun W hS => by first | rfl | (go_simp; done)⟩) hHeld ?_
              try simp only [Act.put, List.getElem_toArray, List.getElem_cons_succ, List.getElem_cons_zero, List.setIfInBounds_toArray, List.set_cons_zero, List.set_cons_succ]
              refine wpAnyH_take (i := 28) (v := (.pointer (some ⟨qb, t, none⟩))) rfl (by kernel_rfl) (by kernel_rfl) (by kernel_rfl) (fun _ _ _ h => h) (Or.inl ⟨by rfl, fun W hS => by first | rfl | (go_simp; done)⟩) hHeld ?_
              try simp only [Act.put, List.getElem_toArray, List.getElem_cons_succ, List.getElem_cons_zero, List.setIfInBounds_toArray, List.set_cons_zero, List.set_cons_succ]
              refine wpAnyH_take (i := 29) (v := (.pointer (some ⟨z.b, 0, none⟩))) rfl (by kernel_rfl) (by kernel_rfl) (by kernel_rfl) (fun _ _ _ h => h) (Or.inl ⟨by rfl, fun W hS => by (obtain ⟨q1, q2, q3, q4⟩ := hS; go_simp; done)⟩) hHeld ?_
              try simp only [Act.put, List.getElem_toArray, List.getElem_cons_succ, List.getElem_cons_zero, List.setIfInBounds_toArray, List.set_cons_zero, List.set_cons_succ]
              refine wpAnyH_take (i := 30) (v := (.pointer (some ⟨z.b, 0, none⟩))) rfl (by kernel_rfl) (by kernel_rfl) (by kernel_rfl) (fun _ _ _ h => h) (Or.inl ⟨by rfl, fun W hS => by first | rfl | (go_simp; done)⟩) hHeld ?_
              try simp only [Act.put, List.getElem_toArray, List.getElem_cons_succ, List.getElem_cons_zero, List.setIfInBounds_toArray, List.set_cons_zero, List.set_cons_succ]
              refine wpAnyH_take (i := 31) (v := (.pointer (some ⟨z.b, 15, none⟩))) rfl (by kernel_rfl) (by kernel_rfl) (by kernel_rfl) (fun _ _ _ h => h) (Or.inl ⟨by rfl, fun W hS => by first | rfl | (go_simp; done)⟩) hHeld ?_
              try simp only [Act.put, List.getElem_toArray, List.getElem_cons_succ, List.getElem_cons_zero, List.setIfInBounds_toArray, List.set_cons_zero, List.set_cons_succ]
              refine wpAnyH_take (i := 32) (v := (.bool dn)) rfl (by kernel_rfl) (by kernel_rfl) (by kernel_rfl) (fun _ _ _ h => h) (Or.inl ⟨by rfl, fun W hS => by (obtain ⟨q1, q2, q3, q4⟩ := hS; go_simp; done)⟩) hHeld ?_
              try simp only [Act.put, List.getElem_toArray, List.getElem_cons_succ, List.getElem_cons_zero, List.setIfInBounds_toArray, List.set_cons_zero, List.set_cons_succ]
              refine wpAnyH_ready (rs := [25]) (by kernel_rfl) (by simp) (AllReadyH.cons rfl (fun K hK => ?_) AllReadyH.nil)
              simp only [List.getElem_toArray, List.getElem_cons_succ, List.getElem_cons_zero]
              go_simp
              refine (HDN.out _ _ _ HV2.out HZ2.out).mono ?_
              rintro e v3 ⟨rfl, rfl⟩
              refine hK.out _ _ hHeld (fun hHeld => ?_)
              clear hK K
              try simp only [Act.put, List.getElem_toArray, List.getElem_cons_succ, List.getElem_cons_zero, List.setIfInBounds_toArray, List.set_cons_zero, List.set_cons_succ]
              refine wpAnyH_take (i := 33) (v := (.bool false)) rfl (by kernel_rfl) (by kernel_rfl) (by kernel_rfl) (fun _ _ _ h => h) (Or.inl ⟨by rfl, fun W hS => by first | rfl | (go_simp; done)⟩) hHeld ?_
              try simp only [Act.put, List.getElem_toArray, List.getElem_cons_succ, List.getElem_cons_zero, List.setIfInBounds_toArray, List.set_cons_zero, List.set_cons_succ]
              refine wpAnyH_take (i := 34) (v := (.bool false)) rfl (by kernel_rfl) (by kernel_rfl) (by kernel_rfl) (fun _ _ _ h => h) (Or.inl ⟨by rfl, fun W hS => by first | rfl | (go_simp; done)⟩) hHeld ?_
              try simp only [Act.put, List.getElem_toArray, List.getElem_cons_succ, List.getElem_cons_zero, List.setIfInBounds_toArray, List.set_cons_zero, List.set_cons_succ]
              refine wpAnyH_take (i := 35) (v := (.bool false)) rfl (by kernel_rfl) (by kernel_rfl) (by kernel_rfl) (fun _ _ _ h => h) (Or.inl ⟨by rfl, fun W hS => by first | rfl | (go_simp; done)⟩) hHeld ?_
              try simp only [Act.put, List.getElem_toArray, List.getElem_cons_succ, List.getElem_cons_zero, List.setIfInBounds_toArray, List.set_cons_zero, List.set_cons_succ]
              refine wpAnyH_take (i := 36) (v := (.slice (some ⟨onb, 0, none⟩) n n)) rfl (by kernel_rfl) (by kernel_rfl) (by kernel_rfl) (fun _ _ _ h => h) (Or.inl ⟨by rfl, fun W hS => by first | rfl | (go_simp; done)⟩) hHeld ?_
              try simp only [Act.put, List.getElem_toArray, List.getElem_cons_succ, List.getElem_cons_zero, List.setIfInBounds_toArray, List.set_cons_zero, List.set_cons_succ]
              refine wpAnyH_take (i := 37) (v := (.int .i64 (t : Int))) rfl (by kernel_rfl) (by kernel_rfl) (by kernel_rfl) (fun _ _ _ h => h) (Or.inl ⟨by rfl, fun W hS => by first | rfl | (go_simp; done)⟩) hHeld ?_
              try simp only [Act.put, List.getElem_toArray, List.getElem_cons_succ, List.getElem_cons_zero, List.setIfInBounds_toArray, List.set_cons_zero, List.set_cons_succ]
              refine wpAnyH_take (i := 38) (v := (.pointer (some ⟨onb, t, none⟩))) rfl (by kernel_rfl) (by kernel_rfl) (by kernel_rfl) (fun _ _ _ h => h) (Or.inl ⟨by rfl, fun W hS => by first | rfl | (go_simp; done)⟩) hHeld ?_
              try simp only [Act.put, List.getElem_toArray, List.getElem_cons_succ, List.getElem_cons_zero, List.setIfInBounds_toArray, List.set_cons_zero, List.set_cons_succ]
              refine wpAnyH_take (i := 39) (v := (.pointer (some ⟨z.a, 0, none⟩))) rfl (by kernel_rfl) (by kernel_rfl) (by kernel_rfl) (fun _ _ _ h => h) (Or.inl ⟨by rfl, fun W hS => by (obtain ⟨q1, q2, q3, q4⟩ := hS; go_simp; done)⟩) hHeld ?_
              try simp only [Act.put, List.getElem_toArray, List.getElem_cons_succ, List.getElem_cons_zero, List.setIfInBounds_toArray, List.set_cons_zero, List.set_cons_succ]
              refine wpAnyH_take (i := 41) (v := (.slice (some ⟨qb, 0, none⟩) n n)) rfl (by kernel_rfl) (by kernel_rfl) (by kernel_rfl) (fun _ _ _ h => h) (Or.inl ⟨by rfl, fun W hS => by first | rfl | (go_simp; done)⟩) hHeld ?_
              try simp only [Act.put, List.getElem_toArray, List.getElem_cons_succ, List.getElem_cons_zero, List.setIfInBounds_toArray, List.set_cons_zero, List.set_cons_succ]
              refine wpAnyH_take (i := 42) (v := (.int .i64 (t : Int))) rfl (by kernel_rfl) (by kernel_rfl) (by kernel_rfl) (fun _ _ _ h => h) (Or.inl ⟨by rfl, fun W hS => by first | rfl | (go_simp; done)⟩) hHeld ?_
              try simp only [Act.put, List.getElem_toArray, List.getElem_cons_succ, List.getElem_cons_zero, List.setIfInBounds_toArray, List.set_cons_zero, List.set_cons_succ]
              refine wpAnyH_take (i := 43) (v := (.pointer (some ⟨qb, t, none⟩))) rfl (by kernel_rfl) (by kernel_rfl) (by kernel_rfl) (fun _ _ _ h => h) (Or.inl ⟨by rfl, fun W hS => by first | rfl | (go_simp; done)⟩) hHeld ?_
              try simp only [Act.put, List.getElem_toArray, List.getElem_cons_succ, List.getElem_cons_zero, List.setIfInBounds_toArray, List.set_cons_zero, List.set_cons_succ]
              refine wpAnyH_take (i := 44) (v := (.pointer (some ⟨z.b, 0, none⟩))) rfl (by kernel_rfl) (by kernel_rfl) (by kernel_rfl) (fun _ _ _ h => h) (Or.inl ⟨by rfl, fun W hS => by (obtain ⟨q1, q2, q3, q4⟩ := hS; go_simp; done)⟩) hHeld ?_
              try simp only [Act.put, List.getElem_toArray, List.getElem_cons_succ, List.getElem_cons_zero, List.setIfInBounds_toArray, List.set_cons_zero, List.set_cons_succ]
              refine wpAnyH_take (i := 45) (v := (.pointer (some ⟨z.b, 0, none⟩))) rfl (by kernel_rfl) (by kernel_rfl) (by kernel_rfl) (fun _ _ _ h => h) (Or.inl ⟨by rfl, fun W hS => by first | rfl | (go_simp; done)⟩) hHeld ?_
              try simp only [Act.put, List.getElem_toArray, List.getElem_cons_succ, List.getElem_cons_zero, List.setIfInBounds_toArray, List.set_cons_zero, List.set_cons_succ]
              refine wpAnyH_take (i := 46) (v := (.pointer (some ⟨z.b, 23, none⟩))) rfl (by kernel_rfl) (by kernel_rfl) (by kernel_rfl) (fun _ _ _ h => h) (Or.inl ⟨by rfl, fun W hS => by first | rfl | (go_simp; done)⟩) hHeld ?_
              try simp only [Act.put, List.getElem_toArray, List.getElem_cons_succ, List.getElem_cons_zero, List.setIfInBounds_toArray, List.set_cons_zero, List.set_cons_succ]
              refine wpAnyH_take (i := 47) (v := (.int .i64 gn)) rfl (by kernel_rfl) (by kernel_rfl) (by kernel_rfl) (fun _ _ _ h => h) (Or.inl ⟨by rfl, fun W hS => by (obtain ⟨q1, q2, q3, q4⟩ := hS; go_simp; done)⟩) hHeld ?_
              try simp only [Act.put, List.getElem_toArray, List.getElem_cons_succ, List.getElem_cons_zero, List.setIfInBounds_toArray, List.set_cons_zero, List.set_cons_succ]
              refine wpAnyH_ready (rs := [40]) (by kernel_rfl) (by simp) (AllReadyH.cons rfl (fun K hK => ?_) AllReadyH.nil)
              simp only [List.getElem_toArray, List.getElem_cons_succ, List.getElem_cons_zero]
              go_simp
              refine (HPG.out _ _ _ HV2.out HZ2.out).mono ?_
              rintro e v3 ⟨rfl, rfl⟩
              refine hK.out _ _ hHeld (fun hHeld => ?_)
              clear hK K
              try simp only [Act.put, List.getElem_toArray, List.getElem_cons_succ, List.getElem_cons_zero, List.setIfInBounds_toArray, List.set_cons_zero, List.set_cons_succ]
              refine wpAnyH_take (i := 48) (v := (.bool false)) rfl (by kernel_rfl) (by kernel_rfl) (by kernel_rfl) (fun _ _ _ h => h) (Or.inl ⟨by rfl, fun W hS => by first | rfl | (go_simp; done)⟩) hHeld ?_
              try simp only [Act.put, List.getElem_toArray, List.getElem_cons_succ, List.getElem_cons_zero, List.setIfInBounds_toArray, List.set_cons_zero, List.set_cons_succ]
              refine wpAnyH_take (i := 49) (v := (.bool false)) rfl (by kernel_rfl) (by kernel_rfl) (by kernel_rfl) (fun _ _ _ h => h) (Or.inl ⟨by rfl, fun W hS => by first | rfl | (go_simp; done)⟩) hHeld ?_
              try simp only [Act.put, List.getElem_toArray, List.getElem_cons_succ, List.getElem_cons_zero, List.setIfInBounds_toArray, List.set_cons_zero, List.set_cons_succ]
              refine wpAnyH_done (by kernel_rfl) ?_ _
              cases dn
              · go_wp2_with fail
                go_roundw
                case rel =>
                  refine ⟨k + 1, _, _, _, Ms', by omega, by omega, by go_num, HV2, Lib.hid ⟨HWS.out, HSA.out⟩, Lib.hid (fun j y e => ?_)⟩
                  rcases set_cases e with ⟨rfl, e2⟩ | ⟨hj, e2⟩
                  · injection e2 with e2; subst e2
                    have hd := HDG.out
                    cases nx with
                    | inl k1 => exact ⟨k1, by rw [HZ2.out.2.2], HX2.out k1 rfl⟩
                    | inr z3 => cases hd
                  · rcases set_cases e2 with ⟨rfl, _⟩ | ⟨_, e3⟩
                    · exact absurd rfl hj
                    · obtain ⟨q3, e4, e5⟩ := HL2.out j y e3
                      exact ⟨q3, e4, e5.mono⟩
                case measure => simp [intOf]; omega
              · go_wp2_with fail
                go_roundw
                case rel =>
                  refine ⟨k + 1, _, _, _, Ms', by omega, by omega, by go_num, Lib.hid (HV2.out.drop (t := t) ht), Lib.hid ⟨HWS.out, HSA.out⟩, Lib.hid (fun j y e => ?_)⟩
                  rcases set_cases e with ⟨_, e2⟩ | ⟨hj, e2⟩
                  · cases e2
                  · rcases set_cases e2 with ⟨rfl, _⟩ | ⟨_, e3⟩
                    · exact absurd rfl hj
                    · rcases set_cases e3 with ⟨rfl, _⟩ | ⟨_, e4⟩
                      · exact absurd rfl hj
                      · obtain ⟨q3, e5, e6⟩ := HL2.out j y e4
                        exact ⟨q3, e5, e6.mono⟩
                case measure => simp [intOf]; omega
        · go_wp2_with (first
            | (go_at_call 15; refine (playSame_any HI.out.sc.both HE.out.1 (by have := HI.out.sc.big HMAY.out; omega) (by omega) (by omega)).mono ?_; rintro e w3 ⟨rfl, ho3⟩)
            | (go_at_call 41; refine (awake16_any _).mono ?_; rintro e w4 ⟨rfl, ho4⟩))
          go_ret
          exact ⟨rfl, ((HI.out.sc.adds.thenF ho3).thenF ho4).below (Nat.le_refl _) (fun _ _ h => h)⟩
      · go_wp2_with (first
          | (go_at_call 15; refine (playSame_any HI.out.sc.both HE.out.1 (by have := HI.out.sc.big HMAY.out; omega) (by omega) (by omega)).mono ?_; rintro e w3 ⟨rfl, ho3⟩)
          | (go_at_call 41; refine (awake16_any _).mono ?_; rintro e w4 ⟨rfl, ho4⟩))
        go_ret
        exact ⟨rfl, ((HI.out.sc.adds.thenF ho3).thenF ho4).below (Nat.le_refl _) (fun _ _ h => h)⟩
end Go.Proofs.YtffhoaimcjpjhaaGreat

/- StackRuns: its walk. By an AI agent. -/
import Derived.Test.YthhnpcniijpfeaaGreatZStkPick
import Derived.Test.YthhnpcniijpfeaaGreatZStkNew
import Derived.Test.YthhnpcniijpfeaaGreatZJ
import Derived.Test.YthhnpcniijpfeaaGreatZStackAwake
import Derived.Test.YthhnpcniijpfeaaGreatZSameInts
import Derived.Test.YthhnpcniijpfeaaGreatZPlay2
import Derived.Test.YthhnpcniijpfeaaGreatZD
import Derived.Deep.DeepCutAuto
namespace Go.Proofs.YthhnpcniijpfeaaGreat
open Go.RowKit
set_option linter.unusedSimpArgs false
set_option linter.unusedVariables false
theorem stkOk_begun {P T v : Int} {n : Nat} (hm : Lay.may P T = true) : StkOk P T (StoreS.begun n 0 v) := by
  have hmm := Lay.may_iff.1 hm
  refine ⟨fun hd h => ?_, fun q q0 q1 => ?_⟩
  · rw [begun_other _ _ _ (by have := h.bd; omega)]
    show Tag.pg 0 < P
    have : Tag.pg 0 = -1 := by decide
    omega
  · have := nxAt_eq hm q0 q1
    rw [begun_other _ _ _ (by omega)]; omega
theorem walkL_same {s s' : StoreS} {P T : Int} (h : s'.word = s.word) : ∀ (m : Nat) (p : Int), walkL s' P T m p = walkL s P T m p
  | 0, _ => rfl
  | m + 1, p => by
    unfold walkL
    rw [h, walkL_same h m]
theorem adds_drewN (W : World) : ∀ k, Adds W (W.drewN k) := fun k => (Only.refl _ W).drewN k
set_option maxRecDepth 100000 in
set_option maxHeartbeats 8000000 in
theorem stackRuns_law (c0 : Int) (f0 : (Lit.int .u8 c0).wf = true) (c1 : Int) (f1 : (Lit.int .u8 c1).wf = true) (a0 : Option Addr) (len0 cap0 : Nat) (zs0 : List Int) (a1 : Option Addr) (len1 cap1 : Nat) (zs1 : List Int) (w : World) (w0 : IsRow .u8 w a0 len0 cap0 zs0) (w1 : IsRow .u8 w a1 len1 cap1 zs1) :
    Calls Tryz.prog 4 #[.int .u8 c0, .int .u8 c1, .slice a0 len0 cap0, .slice a1 len1 cap1] w fun e w' => e = .returned (.bool true) ∧ Below w.heap.size w w' := by
  have HZ := Lib.hid w0; have HW := Lib.hid w1
  obtain ⟨hl0, hcap0⟩ := rows_len w0
  have b0 := bd_u8 f0; have b1 := bd_u8 f1
  obtain ⟨pn, hP⟩ : ∃ pn : Nat, 1 + c0 % 60 = (pn : Int) := ⟨(1 + c0 % 60).toNat, by omega⟩
  obtain ⟨n, hn⟩ : ∃ n : Nat, 1 + c1 % 6 = (n : Int) := ⟨(1 + c1 % 6).toNat, by omega⟩
  have p1 : 1 ≤ pn := by omega
  have p2 : pn ≤ 60 := by omega
  have n1 : 1 ≤ n := by omega
  have n6 : n ≤ 6 := by omega
  have hmay : Lay.may pn n = true := Lay.may_iff.2 ⟨by omega, by omega, by omega, by omega⟩
  have HMAY := Lib.hid hmay
  have HNEW := Lib.hid (newGame_any c0 c1 b0 b1 pn n hP hn w)
  have HSK0 : Hid (StkOk pn n (StoreS.begun (Lay.words pn n).toNat 0 1)) := Lib.hid (stkOk_begun hmay)
  have HWHO := Lib.hid (fun (W : World) (hA : Adds w W) (i : Nat) (hi : i < 1000000) => who_any w1 hA i n ⟨n1, by omega⟩ hi)
  clear w0 w1 hmay f0 f1 b0 b1 hP hn
  go_enter Tryz.func4, Tryz.ntmps4
  go_upto_region 2 with (go_at_call 5; refine HNEW.out.mono ?_; rintro e w3 ⟨ab, sb, sm, rb, rg, bb, tb, tm, ub, fb, gb, hvb, mb, onb, pub, Hv, rfl, hG, -⟩; have HG0 := Lib.hid hG; clear hG)
  go_upto_region 5 with fail
  clear HNEW
  go_loopw [10] (fun i wr => ∃ (k : Nat) (s s' : StoreS) (L : List (Option SkL)) (Hv Mc : Nat → Value) (On Pu : Nat → Bool), k ≤ len0 ∧ k ≤ 400 ∧ i = .int .i64 k ∧ Hid (GH w ab sb sm rb rg bb tb tm ub fb gb hvb mb onb pub n pn n (60 + k) wr s s' L Hv Mc On Pu) ∧ Hid (Lnk n L Mc On Pu) ∧ Hid (AllM pn n k L) ∧ Hid (StkOk pn n s ∧ s.ws = s'.ws)) (fun i _ => len0 - (intOf i).toNat)
  case atStart => exact ⟨0, _, _, _, _, _, _, _, Nat.zero_le _, Nat.zero_le _, rfl, HG0, Lib.hid ⟨fun t z e => by rw [List.getElem?_replicate] at e; split at e <;> simp at e, fun t e => rfl⟩, Lib.hid (fun t z e => by rw [List.getElem?_replicate] at e; split at e <;> simp at e), Lib.hid ⟨HSK0.out, rfl⟩⟩
  case round =>
    obtain ⟨k, s, s', L, Hv, Mc, On, Pu, hk, hk4, rfl, HI, HLK, HA, HS⟩ := hrel
    clear HG0 HSK0
    have hc : (k < len0 ∧ k < 400) ∨ (k < len0 ∧ k = 400) ∨ k = len0 := by omega
    rcases hc with ⟨c3, c4⟩ | hc
    · obtain ⟨b, off, rfl, hb, hc, hcw⟩ := rows_at HZ.out c3
      obtain ⟨x, hx⟩ : ∃ x, x = zs0.getD k 0 := ⟨_, rfl⟩
      rw [← hx] at hc hcw
      have hxb := bd_u8 hcw
      have d0 : wr.cell? ⟨b, off + k, none⟩ = some (.int .u8 x) := (HI.out.sc.adds.cellF (p := ⟨b, off + k, none⟩) hb id).trans hc
      have HXW := Lib.hid (And.intro (show w.cell? ⟨b, off + k, none⟩ = some (.int .u8 x) from hc) hb)
      have ex : IntKind.i64.wrap x = x := by rw [IntKind.wrap_i64]; omega
      have g1 : (k : Int) < (len0 : Int) := by omega
      have g2 : (k : Int) < 400 := by omega
      have g0 : (0 : Int) ≤ (k : Int) := by omega
      have hwk : IntKind.i64.wrap ((k : Int) + 1) = (k : Int) + 1 := by rw [IntKind.wrap_i64]; omega
      have y3 := HI.out.gcells.2.2.2.1
      have HXB := Lib.hid hxb
      clear hx hc hcw hb hxb
      go_upto_region 7 with fail
      go_cut [11, 12] (fun y z wd => True ∧ z = .bool true ∧ ∃ (s s' : StoreS) (L : List (Option SkL)) (Hv Mc : Nat → Value) (On Pu : Nat → Bool), Hid (GH w ab sb sm rb rg bb tb tm ub fb gb hvb mb onb pub n pn n (60 + (k + 1)) wd s s' L Hv Mc On Pu) ∧ Hid (Lnk n L Mc On Pu) ∧ Hid (AllM pn n (k + 1) L) ∧ Hid (StkOk pn n s ∧ s.ws = s'.ws))
      case first =>
        refine wp_region_held_drew (S := (fun V => V.cell? ⟨gb, 3, none⟩ = some (.slice (some ⟨mb, 0, none⟩) n n) ∧ V.cell? ⟨b, off + k, none⟩ = some (.int .u8 x))) (by kernel_rfl) ⟨y3, d0⟩ (fun hHeld => ?_)
        obtain ⟨D, hD⟩ : ∃ D, World.drew wr = D := ⟨_, rfl⟩
        have HGX : Hid (GH w ab sb sm rb rg bb tb tm ub fb gb hvb mb onb pub n pn n (60 + k) D s s' L Hv Mc On Pu) := Lib.hid (by rw [← hD]; exact HI.out.add ((Only.refl (fun _ => False) wr).drew))
        rw [hD] at hHeld
        try rw [hD]
        clear hD HI y3 d0
        refine wpAnyH_take (i := 0) (v := (.pointer (some ⟨gb, 0, none⟩))) rfl (by kernel_rfl) (by kernel_rfl) (by kernel_rfl) (fun _ _ _ h => h) (Or.inl ⟨by rfl, fun W hS => by first | rfl | (go_simp; done)⟩) hHeld ?_
        try simp only [Act.put, List.getElem_toArray, List.getElem_cons_succ, List.getElem_cons_zero, List.setIfInBounds_toArray, List.set_cons_zero, List.set_cons_succ]
        refine wpAnyH_take (i := 1) (v := (.slice a1 len1 cap1)) rfl (by kernel_rfl) (by kernel_rfl) (by kernel_rfl) (fun _ _ _ h => h) (Or.inl ⟨by rfl, fun W hS => by first | rfl | (go_simp; done)⟩) hHeld ?_
        try simp only [Act.put, List.getElem_toArray, List.getElem_cons_succ, List.getElem_cons_zero, List.setIfInBounds_toArray, List.set_cons_zero, List.set_cons_succ]
        refine wpAnyH_take (i := 2) (v := (.int .i64 (k : Int))) rfl (by kernel_rfl) (by kernel_rfl) (by kernel_rfl) (fun _ _ _ h => h) (Or.inl ⟨by rfl, fun W hS => by first | rfl | (go_simp; done)⟩) hHeld ?_
        try simp only [Act.put, List.getElem_toArray, List.getElem_cons_succ, List.getElem_cons_zero, List.setIfInBounds_toArray, List.set_cons_zero, List.set_cons_succ]
        refine wpAnyH_take (i := 3) (v := (.pointer (some ⟨gb, 0, none⟩))) rfl (by kernel_rfl) (by kernel_rfl) (by kernel_rfl) (fun _ _ _ h => h) (Or.inl ⟨by rfl, fun W hS => by first | rfl | (go_simp; done)⟩) hHeld ?_
        try simp only [Act.put, List.getElem_toArray, List.getElem_cons_succ, List.getElem_cons_zero, List.setIfInBounds_toArray, List.set_cons_zero, List.set_cons_succ]
        refine wpAnyH_take (i := 4) (v := (.pointer (some ⟨gb, 0, none⟩))) rfl (by kernel_rfl) (by kernel_rfl) (by kernel_rfl) (fun _ _ _ h => h) (Or.inl ⟨by rfl, fun W hS => by first | rfl | (go_simp; done)⟩) hHeld ?_
        try simp only [Act.put, List.getElem_toArray, List.getElem_cons_succ, List.getElem_cons_zero, List.setIfInBounds_toArray, List.set_cons_zero, List.set_cons_succ]
        refine wpAnyH_take (i := 5) (v := (.pointer (some ⟨gb, 3, none⟩))) rfl (by kernel_rfl) (by kernel_rfl) (by kernel_rfl) (fun _ _ _ h => h) (Or.inl ⟨by rfl, fun W hS => by first | rfl | (go_simp; done)⟩) hHeld ?_
        try simp only [Act.put, List.getElem_toArray, List.getElem_cons_succ, List.getElem_cons_zero, List.setIfInBounds_toArray, List.set_cons_zero, List.set_cons_succ]
        refine wpAnyH_take (i := 6) (v := (.slice (some ⟨mb, 0, none⟩) n n)) rfl (by kernel_rfl) (by kernel_rfl) (by kernel_rfl) (fun _ _ _ h => h) (Or.inl ⟨by rfl, fun W hS => by (obtain ⟨q1, q2⟩ := hS; go_simp; done)⟩) hHeld ?_
        try simp only [Act.put, List.getElem_toArray, List.getElem_cons_succ, List.getElem_cons_zero, List.setIfInBounds_toArray, List.set_cons_zero, List.set_cons_succ]
        refine wpAnyH_take (i := 7) (v := (.int .i64 (n : Int))) rfl (by kernel_rfl) (by kernel_rfl) (by kernel_rfl) (fun _ _ _ h => h) (Or.inl ⟨by rfl, fun W hS => by first | rfl | (go_simp; done)⟩) hHeld ?_
        try simp only [Act.put, List.getElem_toArray, List.getElem_cons_succ, List.getElem_cons_zero, List.setIfInBounds_toArray, List.set_cons_zero, List.set_cons_succ]
        refine wpAnyH_take (i := 9) (v := (.slice (some ⟨b, off, none⟩) len0 cap0)) rfl (by kernel_rfl) (by kernel_rfl) (by kernel_rfl) (fun _ _ _ h => h) (Or.inl ⟨by rfl, fun W hS => by first | rfl | (go_simp; done)⟩) hHeld ?_
        try simp only [Act.put, List.getElem_toArray, List.getElem_cons_succ, List.getElem_cons_zero, List.setIfInBounds_toArray, List.set_cons_zero, List.set_cons_succ]
        refine wpAnyH_take (i := 10) (v := (.int .i64 (k : Int))) rfl (by kernel_rfl) (by kernel_rfl) (by kernel_rfl) (fun _ _ _ h => h) (Or.inl ⟨by rfl, fun W hS => by first | rfl | (go_simp; done)⟩) hHeld ?_
        try simp only [Act.put, List.getElem_toArray, List.getElem_cons_succ, List.getElem_cons_zero, List.setIfInBounds_toArray, List.set_cons_zero, List.set_cons_succ]
        refine wpAnyH_take (i := 11) (v := (.pointer (some ⟨b, off + k, none⟩))) rfl (by kernel_rfl) (by kernel_rfl) (by kernel_rfl) (fun _ _ _ h => h) (Or.inl ⟨by rfl, fun W hS => by first | rfl | (go_simp; done)⟩) hHeld ?_
        try simp only [Act.put, List.getElem_toArray, List.getElem_cons_succ, List.getElem_cons_zero, List.setIfInBounds_toArray, List.set_cons_zero, List.set_cons_succ]
        refine wpAnyH_take (i := 12) (v := (.int .u8 x)) rfl (by kernel_rfl) (by kernel_rfl) (by kernel_rfl) (fun _ _ _ h => h) (Or.inl ⟨by rfl, fun W hS => by (obtain ⟨q1, q2⟩ := hS; go_simp; done)⟩) hHeld ?_
        try simp only [Act.put, List.getElem_toArray, List.getElem_cons_succ, List.getElem_cons_zero, List.setIfInBounds_toArray, List.set_cons_zero, List.set_cons_succ]
        refine wpAnyH_take (i := 13) (v := (.int .i64 x)) rfl (by kernel_rfl) (by kernel_rfl) (by kernel_rfl) (fun _ _ _ h => h) (Or.inl ⟨by rfl, fun W hS => by first | rfl | (go_simp; done)⟩) hHeld ?_
        try simp only [Act.put, List.getElem_toArray, List.getElem_cons_succ, List.getElem_cons_zero, List.setIfInBounds_toArray, List.set_cons_zero, List.set_cons_succ]
        refine wpAnyH_ready (rs := [8, 18]) (by kernel_rfl) (by simp) (AllReadyH.cons rfl (fun K hK => ?_) (AllReadyH.cons rfl (fun K hK => ?_) AllReadyH.nil))
        · simp only [List.getElem_toArray, List.getElem_cons_succ, List.getElem_cons_zero]
          go_simp
          refine (HWHO.out _ HGX.out.sc.adds k (by omega)).mono ?_
          rintro e v1 ⟨t, rfl, htn, rfl⟩
          have HTN := Lib.hid htn
          clear htn
          refine hK.out _ _ ⟨HGX.out.gcells.2.2.2.1, (HGX.out.sc.adds.cellF (p := ⟨b, off + k, none⟩) HXW.out.2 id).trans HXW.out.1⟩ (fun hHeld => ?_)
          clear hK
          try simp only [Act.put, List.getElem_toArray, List.getElem_cons_succ, List.getElem_cons_zero, List.setIfInBounds_toArray, List.set_cons_zero, List.set_cons_succ]
          refine wpAnyH_ready (rs := [14, 18]) (by kernel_rfl) (by simp) (AllReadyH.cons rfl (fun K hK => ?_) (AllReadyH.cons rfl (fun K hK => ?_) AllReadyH.nil))
          · simp only [List.getElem_toArray, List.getElem_cons_succ, List.getElem_cons_zero]
            go_simp
            refine (pick_any (i := k) HGX.out HLK.out HTN.out HMAY.out HXB.out (by omega) (by omega) (by omega) HA.out HS.out.1 HS.out.2).mono ?_
            rintro e Y1 ⟨hdk, ka, kp, ko, kw, rfl, s1, s1', L1, Hv1, Mc1, On1, Pu1, q1, q2, q3, q4, q5⟩
            clear HGX
            have HGX := Lib.hid q1; have HLK1 := Lib.hid q2; have HA1 := Lib.hid q3; have HS1 := Lib.hid (And.intro q4 q5)
            clear q1 q2 q3 q4 q5 hdk
            refine hK.out _ _ ⟨HGX.out.gcells.2.2.2.1, (HGX.out.sc.adds.cellF (p := ⟨b, off + k, none⟩) HXW.out.2 id).trans HXW.out.1⟩ (fun hHeld => ?_)
            clear hK
            try simp only [Act.put, List.getElem_toArray, List.getElem_cons_succ, List.getElem_cons_zero, List.setIfInBounds_toArray, List.set_cons_zero, List.set_cons_succ]
            refine wpAnyH_take (i := 15) (v := (.tuple #[(.agg #[.int .i64 ka, .int .i64 kp, .int .u64 ko, .int .u64 kw]), .bool true])) rfl (by kernel_rfl) (by kernel_rfl) (by kernel_rfl) (fun _ _ _ h => h) (Or.inl ⟨by rfl, fun W hS => by first | rfl | (go_simp; done)⟩) hHeld ?_
            try simp only [Act.put, List.getElem_toArray, List.getElem_cons_succ, List.getElem_cons_zero, List.setIfInBounds_toArray, List.set_cons_zero, List.set_cons_succ]
            refine wpAnyH_take (i := 16) (v := (.agg #[.int .i64 ka, .int .i64 kp, .int .u64 ko, .int .u64 kw])) rfl (by kernel_rfl) (by kernel_rfl) (by kernel_rfl) (fun _ _ _ h => h) (Or.inl ⟨by rfl, fun W hS => by first | rfl | (go_simp; done)⟩) hHeld ?_
            try simp only [Act.put, List.getElem_toArray, List.getElem_cons_succ, List.getElem_cons_zero, List.setIfInBounds_toArray, List.set_cons_zero, List.set_cons_succ]
            refine wpAnyH_take (i := 17) (v := (.bool true)) rfl (by kernel_rfl) (by kernel_rfl) (by kernel_rfl) (fun _ _ _ h => h) (Or.inl ⟨by rfl, fun W hS => by first | rfl | (go_simp; done)⟩) hHeld ?_
            try simp only [Act.put, List.getElem_toArray, List.getElem_cons_succ, List.getElem_cons_zero, List.setIfInBounds_toArray, List.set_cons_zero, List.set_cons_succ]
            refine wpAnyH_ready (rs := [18]) (by kernel_rfl) (by simp) (AllReadyH.cons rfl (fun K hK => ?_) AllReadyH.nil)
            simp only [List.getElem_toArray, List.getElem_cons_succ, List.getElem_cons_zero]
            go_simp
            obtain ⟨Y2, hV2⟩ : ∃ V, Y1.alloc (.cells #[.int .i64 0, .int .i64 0, .int .u64 0, .int .u64 0] 50) = V := ⟨_, rfl⟩
            obtain ⟨d8, hbb⟩ : ∃ q, Y1.heap.size = q := ⟨_, rfl⟩
            have hA2 : Adds Y1 Y2 := by rw [← hV2]; exact (Only.refl (fun _ => False) Y1).alloc _
            have HB8 : Hid (Blk Y2 d8 #[.int .i64 0, .int .i64 0, .int .u64 0, .int .u64 0] 50) := Lib.hid (by rw [← hV2, ← hbb]; exact Blk.new Y1 _ _)
            have HL8 := Lib.hid (show w.heap.size ≤ d8 by have := HGX.out.sc.adds.size; omega)
            replace HGX := Lib.hid (HGX.out.add hA2)
            try rw [hV2]
            try rw [hbb]
            refine hK.out _ _ ⟨HGX.out.gcells.2.2.2.1, (HGX.out.sc.adds.cellF (p := ⟨b, off + k, none⟩) HXW.out.2 id).trans HXW.out.1⟩ (fun hHeld => ?_)
            clear hK hV2 hA2 hbb
            try simp only [Act.put, List.getElem_toArray, List.getElem_cons_succ, List.getElem_cons_zero, List.setIfInBounds_toArray, List.set_cons_zero, List.set_cons_succ]
            have e0 := HB8.out.cell 0; have e1 := HB8.out.cell 1; have e2 := HB8.out.cell 2; have e3 := HB8.out.cell 3; have f0 := HB8.out.frozen 0; have f1 := HB8.out.frozen 1; have f2 := HB8.out.frozen 2; have f3 := HB8.out.frozen 3
            refine wpAnyH_ready (rs := [19]) (by kernel_rfl) (by simp) (AllReadyH.cons rfl (fun K hK => ?_) AllReadyH.nil)
            simp only [List.getElem_toArray, List.getElem_cons_succ, List.getElem_cons_zero]
            try rw [if_pos (by rfl)]
            go_simp
            obtain ⟨W9, hW9⟩ : ∃ W, ((((Y2.setCell ⟨d8, 0, none⟩ (.int .i64 ka)).setCell ⟨d8, 1, none⟩ (.int .i64 kp)).setCell ⟨d8, 2, none⟩ (.int .u64 ko)).setCell ⟨d8, 3, none⟩ (.int .u64 kw)) = W := ⟨_, rfl⟩
            have ho9 : Only (· = d8) Y2 W9 := by rw [← hW9]; exact did4 _ _ _ _ _ _
            replace HGX := Lib.hid (HGX.out.did HB8.out HL8.out ho9)
            rw [hW9]
            refine hK.out _ _ ⟨HGX.out.gcells.2.2.2.1, (HGX.out.sc.adds.cellF (p := ⟨b, off + k, none⟩) HXW.out.2 id).trans HXW.out.1⟩ (fun hHeld => ?_)
            clear hK
            try simp only [Act.put, List.getElem_toArray, List.getElem_cons_succ, List.getElem_cons_zero, List.setIfInBounds_toArray, List.set_cons_zero, List.set_cons_succ]
            refine wpAnyH_take (i := 20) (v := (.bool true)) rfl (by kernel_rfl) (by kernel_rfl) (by kernel_rfl) (fun _ _ _ h => h) (Or.inl ⟨by rfl, fun W hS => by first | rfl | (go_simp; done)⟩) hHeld ?_
            try simp only [Act.put, List.getElem_toArray, List.getElem_cons_succ, List.getElem_cons_zero, List.setIfInBounds_toArray, List.set_cons_zero, List.set_cons_succ]
            refine wpAnyH_done (by kernel_rfl) ?_ _
            go_wp2_with fail
            go_meet
            exact ⟨trivial, rfl, _, _, _, _, _, _, _, HGX, HLK1, HA1, HS1⟩
          · simp only [List.getElem_toArray, List.getElem_cons_succ, List.getElem_cons_zero]
            go_simp
            obtain ⟨Y3, hV2⟩ : ∃ V, D.alloc (.cells #[.int .i64 0, .int .i64 0, .int .u64 0, .int .u64 0] 50) = V := ⟨_, rfl⟩
            obtain ⟨d8, hbb⟩ : ∃ q, D.heap.size = q := ⟨_, rfl⟩
            have hA2 : Adds D Y3 := by rw [← hV2]; exact (Only.refl (fun _ => False) D).alloc _
            have HB8 : Hid (Blk Y3 d8 #[.int .i64 0, .int .i64 0, .int .u64 0, .int .u64 0] 50) := Lib.hid (by rw [← hV2, ← hbb]; exact Blk.new D _ _)
            have HL8 := Lib.hid (show w.heap.size ≤ d8 by have := HGX.out.sc.adds.size; omega)
            replace HGX := Lib.hid (HGX.out.add hA2)
            try rw [hV2]
            try rw [hbb]
            refine hK.out _ _ ⟨HGX.out.gcells.2.2.2.1, (HGX.out.sc.adds.cellF (p := ⟨b, off + k, none⟩) HXW.out.2 id).trans HXW.out.1⟩ (fun hHeld => ?_)
            clear hK hV2 hA2 hbb
            try simp only [Act.put, List.getElem_toArray, List.getElem_cons_succ, List.getElem_cons_zero, List.setIfInBounds_toArray, List.set_cons_zero, List.set_cons_succ]
            refine wpAnyH_ready (rs := [14]) (by kernel_rfl) (by simp) (AllReadyH.cons rfl (fun K hK => ?_) AllReadyH.nil)
            simp only [List.getElem_toArray, List.getElem_cons_succ, List.getElem_cons_zero]
            go_simp
            refine (pick_any (i := k) HGX.out HLK.out HTN.out HMAY.out HXB.out (by omega) (by omega) (by omega) HA.out HS.out.1 HS.out.2).mono ?_
            rintro e Y4 ⟨hdk, ka, kp, ko, kw, rfl, s1, s1', L1, Hv1, Mc1, On1, Pu1, q1, q2, q3, q4, q5⟩
            replace HB8 := Lib.hid (hdk _ _ HB8.out)
            clear HGX
            have HGX := Lib.hid q1; have HLK1 := Lib.hid q2; have HA1 := Lib.hid q3; have HS1 := Lib.hid (And.intro q4 q5)
            clear q1 q2 q3 q4 q5 hdk
            refine hK.out _ _ ⟨HGX.out.gcells.2.2.2.1, (HGX.out.sc.adds.cellF (p := ⟨b, off + k, none⟩) HXW.out.2 id).trans HXW.out.1⟩ (fun hHeld => ?_)
            clear hK
            try simp only [Act.put, List.getElem_toArray, List.getElem_cons_succ, List.getElem_cons_zero, List.setIfInBounds_toArray, List.set_cons_zero, List.set_cons_succ]
            refine wpAnyH_take (i := 15) (v := (.tuple #[(.agg #[.int .i64 ka, .int .i64 kp, .int .u64 ko, .int .u64 kw]), .bool true])) rfl (by kernel_rfl) (by kernel_rfl) (by kernel_rfl) (fun _ _ _ h => h) (Or.inl ⟨by rfl, fun W hS => by first | rfl | (go_simp; done)⟩) hHeld ?_
            try simp only [Act.put, List.getElem_toArray, List.getElem_cons_succ, List.getElem_cons_zero, List.setIfInBounds_toArray, List.set_cons_zero, List.set_cons_succ]
            refine wpAnyH_take (i := 16) (v := (.agg #[.int .i64 ka, .int .i64 kp, .int .u64 ko, .int .u64 kw])) rfl (by kernel_rfl) (by kernel_rfl) (by kernel_rfl) (fun _ _ _ h => h) (Or.inl ⟨by rfl, fun W hS => by first | rfl | (go_simp; done)⟩) hHeld ?_
            try simp only [Act.put, List.getElem_toArray, List.getElem_cons_succ, List.getElem_cons_zero, List.setIfInBounds_toArray, List.set_cons_zero, List.set_cons_succ]
            refine wpAnyH_take (i := 17) (v := (.bool true)) rfl (by kernel_rfl) (by kernel_rfl) (by kernel_rfl) (fun _ _ _ h => h) (Or.inl ⟨by rfl, fun W hS => by first | rfl | (go_simp; done)⟩) hHeld ?_
            try simp only [Act.put, List.getElem_toArray, List.getElem_cons_succ, List.getElem_cons_zero, List.setIfInBounds_toArray, List.set_cons_zero, List.set_cons_succ]
            have e0 := HB8.out.cell 0; have e1 := HB8.out.cell 1; have e2 := HB8.out.cell 2; have e3 := HB8.out.cell 3; have f0 := HB8.out.frozen 0; have f1 := HB8.out.frozen 1; have f2 := HB8.out.frozen 2; have f3 := HB8.out.frozen 3
            refine wpAnyH_ready (rs := [19]) (by kernel_rfl) (by simp) (AllReadyH.cons rfl (fun K hK => ?_) AllReadyH.nil)
            simp only [List.getElem_toArray, List.getElem_cons_succ, List.getElem_cons_zero]
            try rw [if_pos (by rfl)]
            go_simp
            obtain ⟨W9, hW9⟩ : ∃ W, ((((Y4.setCell ⟨d8, 0, none⟩ (.int .i64 ka)).setCell ⟨d8, 1, none⟩ (.int .i64 kp)).setCell ⟨d8, 2, none⟩ (.int .u64 ko)).setCell ⟨d8, 3, none⟩ (.int .u64 kw)) = W := ⟨_, rfl⟩
            have ho9 : Only (· = d8) Y4 W9 := by rw [← hW9]; exact did4 _ _ _ _ _ _
            replace HGX := Lib.hid (HGX.out.did HB8.out HL8.out ho9)
            rw [hW9]
            refine hK.out _ _ ⟨HGX.out.gcells.2.2.2.1, (HGX.out.sc.adds.cellF (p := ⟨b, off + k, none⟩) HXW.out.2 id).trans HXW.out.1⟩ (fun hHeld => ?_)
            clear hK
            try simp only [Act.put, List.getElem_toArray, List.getElem_cons_succ, List.getElem_cons_zero, List.setIfInBounds_toArray, List.set_cons_zero, List.set_cons_succ]
            refine wpAnyH_take (i := 20) (v := (.bool true)) rfl (by kernel_rfl) (by kernel_rfl) (by kernel_rfl) (fun _ _ _ h => h) (Or.inl ⟨by rfl, fun W hS => by first | rfl | (go_simp; done)⟩) hHeld ?_
            try simp only [Act.put, List.getElem_toArray, List.getElem_cons_succ, List.getElem_cons_zero, List.setIfInBounds_toArray, List.set_cons_zero, List.set_cons_succ]
            refine wpAnyH_done (by kernel_rfl) ?_ _
            go_wp2_with fail
            go_meet
            exact ⟨trivial, rfl, _, _, _, _, _, _, _, HGX, HLK1, HA1, HS1⟩
        · simp only [List.getElem_toArray, List.getElem_cons_succ, List.getElem_cons_zero]
          go_simp
          obtain ⟨Y5, hV2⟩ : ∃ V, D.alloc (.cells #[.int .i64 0, .int .i64 0, .int .u64 0, .int .u64 0] 50) = V := ⟨_, rfl⟩
          obtain ⟨d8, hbb⟩ : ∃ q, D.heap.size = q := ⟨_, rfl⟩
          have hA2 : Adds D Y5 := by rw [← hV2]; exact (Only.refl (fun _ => False) D).alloc _
          have HB8 : Hid (Blk Y5 d8 #[.int .i64 0, .int .i64 0, .int .u64 0, .int .u64 0] 50) := Lib.hid (by rw [← hV2, ← hbb]; exact Blk.new D _ _)
          have HL8 := Lib.hid (show w.heap.size ≤ d8 by have := HGX.out.sc.adds.size; omega)
          replace HGX := Lib.hid (HGX.out.add hA2)
          try rw [hV2]
          try rw [hbb]
          refine hK.out _ _ ⟨HGX.out.gcells.2.2.2.1, (HGX.out.sc.adds.cellF (p := ⟨b, off + k, none⟩) HXW.out.2 id).trans HXW.out.1⟩ (fun hHeld => ?_)
          clear hK hV2 hA2 hbb
          try simp only [Act.put, List.getElem_toArray, List.getElem_cons_succ, List.getElem_cons_zero, List.setIfInBounds_toArray, List.set_cons_zero, List.set_cons_succ]
          refine wpAnyH_ready (rs := [8]) (by kernel_rfl) (by simp) (AllReadyH.cons rfl (fun K hK => ?_) AllReadyH.nil)
          simp only [List.getElem_toArray, List.getElem_cons_succ, List.getElem_cons_zero]
          go_simp
          refine (HWHO.out _ HGX.out.sc.adds k (by omega)).mono ?_
          rintro e v1 ⟨t, rfl, htn, rfl⟩
          have HTN := Lib.hid htn
          clear htn
          refine hK.out _ _ ⟨HGX.out.gcells.2.2.2.1, (HGX.out.sc.adds.cellF (p := ⟨b, off + k, none⟩) HXW.out.2 id).trans HXW.out.1⟩ (fun hHeld => ?_)
          clear hK
          try simp only [Act.put, List.getElem_toArray, List.getElem_cons_succ, List.getElem_cons_zero, List.setIfInBounds_toArray, List.set_cons_zero, List.set_cons_succ]
          refine wpAnyH_ready (rs := [14]) (by kernel_rfl) (by simp) (AllReadyH.cons rfl (fun K hK => ?_) AllReadyH.nil)
          simp only [List.getElem_toArray, List.getElem_cons_succ, List.getElem_cons_zero]
          go_simp
          refine (pick_any (i := k) HGX.out HLK.out HTN.out HMAY.out HXB.out (by omega) (by omega) (by omega) HA.out HS.out.1 HS.out.2).mono ?_
          rintro e Y6 ⟨hdk, ka, kp, ko, kw, rfl, s1, s1', L1, Hv1, Mc1, On1, Pu1, q1, q2, q3, q4, q5⟩
          replace HB8 := Lib.hid (hdk _ _ HB8.out)
          clear HGX
          have HGX := Lib.hid q1; have HLK1 := Lib.hid q2; have HA1 := Lib.hid q3; have HS1 := Lib.hid (And.intro q4 q5)
          clear q1 q2 q3 q4 q5 hdk
          refine hK.out _ _ ⟨HGX.out.gcells.2.2.2.1, (HGX.out.sc.adds.cellF (p := ⟨b, off + k, none⟩) HXW.out.2 id).trans HXW.out.1⟩ (fun hHeld => ?_)
          clear hK
          try simp only [Act.put, List.getElem_toArray, List.getElem_cons_succ, List.getElem_cons_zero, List.setIfInBounds_toArray, List.set_cons_zero, List.set_cons_succ]
          refine wpAnyH_take (i := 15) (v := (.tuple #[(.agg #[.int .i64 ka, .int .i64 kp, .int .u64 ko, .int .u64 kw]), .bool true])) rfl (by kernel_rfl) (by kernel_rfl) (by kernel_rfl) (fun _ _ _ h => h) (Or.inl ⟨by rfl, fun W hS => by first | rfl | (go_simp; done)⟩) hHeld ?_
          try simp only [Act.put, List.getElem_toArray, List.getElem_cons_succ, List.getElem_cons_zero, List.setIfInBounds_toArray, List.set_cons_zero, List.set_cons_succ]
          refine wpAnyH_take (i := 16) (v := (.agg #[.int .i64 ka, .int .i64 kp, .int .u64 ko, .int .u64 kw])) rfl (by kernel_rfl) (by kernel_rfl) (by kernel_rfl) (fun _ _ _ h => h) (Or.inl ⟨by rfl, fun W hS => by first | rfl | (go_simp; done)⟩) hHeld ?_
          try simp only [Act.put, List.getElem_toArray, List.getElem_cons_succ, List.getElem_cons_zero, List.setIfInBounds_toArray, List.set_cons_zero, List.set_cons_succ]
          refine wpAnyH_take (i := 17) (v := (.bool true)) rfl (by kernel_rfl) (by kernel_rfl) (by kernel_rfl) (fun _ _ _ h => h) (Or.inl ⟨by rfl, fun W hS => by first | rfl | (go_simp; done)⟩) hHeld ?_
          try simp only [Act.put, List.getElem_toArray, List.getElem_cons_succ, List.getElem_cons_zero, List.setIfInBounds_toArray, List.set_cons_zero, List.set_cons_succ]
          have e0 := HB8.out.cell 0; have e1 := HB8.out.cell 1; have e2 := HB8.out.cell 2; have e3 := HB8.out.cell 3; have f0 := HB8.out.frozen 0; have f1 := HB8.out.frozen 1; have f2 := HB8.out.frozen 2; have f3 := HB8.out.frozen 3
          refine wpAnyH_ready (rs := [19]) (by kernel_rfl) (by simp) (AllReadyH.cons rfl (fun K hK => ?_) AllReadyH.nil)
          simp only [List.getElem_toArray, List.getElem_cons_succ, List.getElem_cons_zero]
          try rw [if_pos (by rfl)]
          go_simp
          obtain ⟨W9, hW9⟩ : ∃ W, ((((Y6.setCell ⟨d8, 0, none⟩ (.int .i64 ka)).setCell ⟨d8, 1, none⟩ (.int .i64 kp)).setCell ⟨d8, 2, none⟩ (.int .u64 ko)).setCell ⟨d8, 3, none⟩ (.int .u64 kw)) = W := ⟨_, rfl⟩
          have ho9 : Only (· = d8) Y6 W9 := by rw [← hW9]; exact did4 _ _ _ _ _ _
          replace HGX := Lib.hid (HGX.out.did HB8.out HL8.out ho9)
          rw [hW9]
          refine hK.out _ _ ⟨HGX.out.gcells.2.2.2.1, (HGX.out.sc.adds.cellF (p := ⟨b, off + k, none⟩) HXW.out.2 id).trans HXW.out.1⟩ (fun hHeld => ?_)
          clear hK
          try simp only [Act.put, List.getElem_toArray, List.getElem_cons_succ, List.getElem_cons_zero, List.setIfInBounds_toArray, List.set_cons_zero, List.set_cons_succ]
          refine wpAnyH_take (i := 20) (v := (.bool true)) rfl (by kernel_rfl) (by kernel_rfl) (by kernel_rfl) (fun _ _ _ h => h) (Or.inl ⟨by rfl, fun W hS => by first | rfl | (go_simp; done)⟩) hHeld ?_
          try simp only [Act.put, List.getElem_toArray, List.getElem_cons_succ, List.getElem_cons_zero, List.setIfInBounds_toArray, List.set_cons_zero, List.set_cons_succ]
          refine wpAnyH_done (by kernel_rfl) ?_ _
          go_wp2_with fail
          go_meet
          exact ⟨trivial, rfl, _, _, _, _, _, _, _, HGX, HLK1, HA1, HS1⟩
      case rest =>
        obtain ⟨-, rfl, s1, s1', L1, Hv1, Mc1, On1, Pu1, HG1, HL1, HA1, HS1⟩ := hcut
        clear HI HLK HA HS
        go_wp2_with fail
        go_roundw
        case rel => exact ⟨k + 1, s1, s1', L1, Hv1, Mc1, On1, Pu1, by omega, by omega, by go_num, HG1, HL1, HA1, HS1⟩
        case measure => simp [intOf]; omega
    · by_cases c5 : k < len0
      · have g1 : (k : Int) < (len0 : Int) := by omega
        have g2 : ¬ (k : Int) < 400 := by omega
        have HWS := Lib.hid (show s'.word = s.word from by funext i; unfold StoreS.word; rw [HS.out.2])
        have HWK : Hid (∀ (m : Nat) (p : Int), walkL s' pn n m p = walkL s pn n m p) := Lib.hid (walkL_same HWS.out)
        clear HWHO
        go_upto_region 11 with fail
        obtain ⟨wq, hwq⟩ : ∃ W, W = wr := ⟨_, rfl⟩
        subst hwq
        go_loopw [13] (fun i wz => ∃ h : Nat, h ≤ 3 ∧ i = .int .i64 h ∧ Hid (Adds wq wz)) (fun i _ => 3 - (intOf i).toNat)
        case atStart => exact ⟨0, by omega, rfl, Lib.hid (Only.refl _ _)⟩
        case round =>
          obtain ⟨h, hh, rfl, HO⟩ := hrel
          have HIX := Lib.hid (HI.out.add HO.out)
          have y0 := HIX.out.gcells.1; have y1 := HIX.out.gcells.2.1
          by_cases ch : h < 3
          · have gh : (h : Int) < 3 := by omega
            have hwh : IntKind.i64.wrap ((h : Int) + 1) = (h : Int) + 1 := by rw [IntKind.wrap_i64]; omega
            obtain ⟨h7, hh7⟩ : ∃ q, (h : Int) * 7 = q := ⟨_, rfl⟩
            have w7 : IntKind.i64.wrap ((h : Int) * 7) = h7 := by rw [hh7, IntKind.wrap_i64]; omega
            obtain ⟨hd, hhd⟩ : ∃ q, 8 + h7 % 60 = q := ⟨_, rfl⟩
            have hd3 : Hd3 hd := by
              have h3 : h7 = 0 ∨ h7 = 7 ∨ h7 = 14 := by omega
              unfold Hd3
              rcases h3 with rfl | rfl | rfl <;> omega
            have HISH : Hid (Lay.isHead pn n hd = true) := Lib.hid (HD.to ⟨HMAY.out, hd3.bd.1, hd3.bd.2⟩)
            have HHEAD : Hid (∀ W, Calls Tryz.prog 16 #[.int .i64 h7] W fun e w' => e = .returned (.int .i64 hd) ∧ W = w') := Lib.hid (fun W => by rw [← hhd]; exact playHead_any h7 W (by omega))
            obtain ⟨Lw, hLw⟩ : ∃ Lw, walkL s pn n (pn : Int).toNat (Tag.pg (s.word hd)) = Lw := ⟨_, rfl⟩
            have HLIST := Lib.hid (fun (W : World) (hA : Adds wq W) => stackListB_any (HI.out.add hA).sc.both.yard HISH.out HI.out.sc.len Lw hLw.symm)
            have HDOC := Lib.hid (fun (W : World) (hA : Adds wq W) => docListB_any (HI.out.add hA).sc.both.mem HISH.out HI.out.sc.len' (fun q q0 q1 => by rw [HWS.out, nextAt_nx HMAY.out q0 q1]; exact HS.out.1.nx q q0 q1) Lw (by rw [HWS.out, HWK.out]; exact hLw.symm))
            have HLEN : Hid (Lw.length ≤ 65536) := Lib.hid (by rw [← hLw]; have := walkL_len s pn n (pn : Int).toNat (Tag.pg (s.word hd)); omega)
            clear hh7 hhd hd3 hLw
            go_upto_region 13 with fail
            refine wp_region_held_drew (S := (fun V => V.cell? ⟨gb, 0, none⟩ = some (.pointer (some ⟨ab, 0, none⟩)) ∧ V.cell? ⟨gb, 1, none⟩ = some (.pointer (some ⟨bb, 0, none⟩)))) (by kernel_rfl) ⟨y0, y1⟩ (fun hHeld => ?_)
            obtain ⟨D, hD⟩ : ∃ D, World.drew wr = D := ⟨_, rfl⟩
            have HAD : Hid (Adds wq D) := Lib.hid (by rw [← hD]; exact HO.out.drew)
            rw [hD] at hHeld
            try rw [hD]
            clear hD y0 y1
            refine wpAnyH_take (i := 0) (v := (.pointer (some ⟨gb, 0, none⟩))) rfl (by kernel_rfl) (by kernel_rfl) (by kernel_rfl) (fun _ _ _ h => h) (Or.inl ⟨by rfl, fun W hS => by first | rfl | (go_simp; done)⟩) hHeld ?_
            try simp only [Act.put, List.getElem_toArray, List.getElem_cons_succ, List.getElem_cons_zero, List.setIfInBounds_toArray, List.set_cons_zero, List.set_cons_succ]
            refine wpAnyH_take (i := 1) (v := (.pointer (some ⟨gb, 0, none⟩))) rfl (by kernel_rfl) (by kernel_rfl) (by kernel_rfl) (fun _ _ _ h => h) (Or.inl ⟨by rfl, fun W hS => by first | rfl | (go_simp; done)⟩) hHeld ?_
            try simp only [Act.put, List.getElem_toArray, List.getElem_cons_succ, List.getElem_cons_zero, List.setIfInBounds_toArray, List.set_cons_zero, List.set_cons_succ]
            refine wpAnyH_take (i := 2) (v := (.pointer (some ⟨gb, 0, none⟩))) rfl (by kernel_rfl) (by kernel_rfl) (by kernel_rfl) (fun _ _ _ h => h) (Or.inl ⟨by rfl, fun W hS => by first | rfl | (go_simp; done)⟩) hHeld ?_
            try simp only [Act.put, List.getElem_toArray, List.getElem_cons_succ, List.getElem_cons_zero, List.setIfInBounds_toArray, List.set_cons_zero, List.set_cons_succ]
            refine wpAnyH_take (i := 3) (v := (.pointer (some ⟨ab, 0, none⟩))) rfl (by kernel_rfl) (by kernel_rfl) (by kernel_rfl) (fun _ _ _ h => h) (Or.inl ⟨by rfl, fun W hS => by (obtain ⟨q1, q2⟩ := hS; go_simp; done)⟩) hHeld ?_
            try simp only [Act.put, List.getElem_toArray, List.getElem_cons_succ, List.getElem_cons_zero, List.setIfInBounds_toArray, List.set_cons_zero, List.set_cons_succ]
            refine wpAnyH_take (i := 4) (v := (.int .i64 (h : Int))) rfl (by kernel_rfl) (by kernel_rfl) (by kernel_rfl) (fun _ _ _ h => h) (Or.inl ⟨by rfl, fun W hS => by first | rfl | (go_simp; done)⟩) hHeld ?_
            try simp only [Act.put, List.getElem_toArray, List.getElem_cons_succ, List.getElem_cons_zero, List.setIfInBounds_toArray, List.set_cons_zero, List.set_cons_succ]
            refine wpAnyH_take (i := 5) (v := (.int .i64 h7)) rfl (by kernel_rfl) (by kernel_rfl) (by kernel_rfl) (fun _ _ _ h => h) (Or.inl ⟨by rfl, fun W hS => by first | rfl | (go_simp; done)⟩) hHeld ?_
            try simp only [Act.put, List.getElem_toArray, List.getElem_cons_succ, List.getElem_cons_zero, List.setIfInBounds_toArray, List.set_cons_zero, List.set_cons_succ]
            refine wpAnyH_take (i := 8) (v := (.pointer (some ⟨gb, 0, none⟩))) rfl (by kernel_rfl) (by kernel_rfl) (by kernel_rfl) (fun _ _ _ h => h) (Or.inl ⟨by rfl, fun W hS => by first | rfl | (go_simp; done)⟩) hHeld ?_
            try simp only [Act.put, List.getElem_toArray, List.getElem_cons_succ, List.getElem_cons_zero, List.setIfInBounds_toArray, List.set_cons_zero, List.set_cons_succ]
            refine wpAnyH_take (i := 9) (v := (.pointer (some ⟨gb, 0, none⟩))) rfl (by kernel_rfl) (by kernel_rfl) (by kernel_rfl) (fun _ _ _ h => h) (Or.inl ⟨by rfl, fun W hS => by first | rfl | (go_simp; done)⟩) hHeld ?_
            try simp only [Act.put, List.getElem_toArray, List.getElem_cons_succ, List.getElem_cons_zero, List.setIfInBounds_toArray, List.set_cons_zero, List.set_cons_succ]
            refine wpAnyH_take (i := 10) (v := (.pointer (some ⟨gb, 1, none⟩))) rfl (by kernel_rfl) (by kernel_rfl) (by kernel_rfl) (fun _ _ _ h => h) (Or.inl ⟨by rfl, fun W hS => by first | rfl | (go_simp; done)⟩) hHeld ?_
            try simp only [Act.put, List.getElem_toArray, List.getElem_cons_succ, List.getElem_cons_zero, List.setIfInBounds_toArray, List.set_cons_zero, List.set_cons_succ]
            refine wpAnyH_take (i := 11) (v := (.pointer (some ⟨bb, 0, none⟩))) rfl (by kernel_rfl) (by kernel_rfl) (by kernel_rfl) (fun _ _ _ h => h) (Or.inl ⟨by rfl, fun W hS => by (obtain ⟨q1, q2⟩ := hS; go_simp; done)⟩) hHeld ?_
            try simp only [Act.put, List.getElem_toArray, List.getElem_cons_succ, List.getElem_cons_zero, List.setIfInBounds_toArray, List.set_cons_zero, List.set_cons_succ]
            refine wpAnyH_take (i := 12) (v := (.int .i64 (h : Int))) rfl (by kernel_rfl) (by kernel_rfl) (by kernel_rfl) (fun _ _ _ h => h) (Or.inl ⟨by rfl, fun W hS => by first | rfl | (go_simp; done)⟩) hHeld ?_
            try simp only [Act.put, List.getElem_toArray, List.getElem_cons_succ, List.getElem_cons_zero, List.setIfInBounds_toArray, List.set_cons_zero, List.set_cons_succ]
            refine wpAnyH_take (i := 13) (v := (.int .i64 h7)) rfl (by kernel_rfl) (by kernel_rfl) (by kernel_rfl) (fun _ _ _ h => h) (Or.inl ⟨by rfl, fun W hS => by first | rfl | (go_simp; done)⟩) hHeld ?_
            try simp only [Act.put, List.getElem_toArray, List.getElem_cons_succ, List.getElem_cons_zero, List.setIfInBounds_toArray, List.set_cons_zero, List.set_cons_succ]
            refine wpAnyH_ready (rs := [6]) (by kernel_rfl) (by simp) (AllReadyH.cons rfl (fun K hK => ?_) AllReadyH.nil)
            simp only [List.getElem_toArray, List.getElem_cons_succ, List.getElem_cons_zero]
            go_simp
            refine (HHEAD.out _).mono ?_
            rintro e V0 ⟨rfl, rfl⟩
            refine hK.out _ _ hHeld (fun hHeld => ?_)
            clear hK K
            try simp only [Act.put, List.getElem_toArray, List.getElem_cons_succ, List.getElem_cons_zero, List.setIfInBounds_toArray, List.set_cons_zero, List.set_cons_succ]
            refine wpAnyH_ready (rs := [7]) (by kernel_rfl) (by simp) (AllReadyH.cons rfl (fun K hK => ?_) AllReadyH.nil)
            simp only [List.getElem_toArray, List.getElem_cons_succ, List.getElem_cons_zero]
            go_simp
            refine (HLIST.out _ HAD.out).mono ?_
            rintro e V1 ⟨v1, rfl, hr1, ho1⟩
            have HR1 := Lib.hid (Ints.row hr1); have HAD1 := Lib.hid (HAD.out.thenF ho1)
            refine hK.out _ _ ⟨cellA hHeld.1 ho1, cellA hHeld.2 ho1⟩ (fun hHeld => ?_)
            clear hK K
            try simp only [Act.put, List.getElem_toArray, List.getElem_cons_succ, List.getElem_cons_zero, List.setIfInBounds_toArray, List.set_cons_zero, List.set_cons_succ]
            clear hr1 ho1 HAD
            refine wpAnyH_ready (rs := [14]) (by kernel_rfl) (by simp) (AllReadyH.cons rfl (fun K hK => ?_) AllReadyH.nil)
            simp only [List.getElem_toArray, List.getElem_cons_succ, List.getElem_cons_zero]
            go_simp
            refine (HHEAD.out _).mono ?_
            rintro e V0 ⟨rfl, rfl⟩
            refine hK.out _ _ hHeld (fun hHeld => ?_)
            clear hK K
            try simp only [Act.put, List.getElem_toArray, List.getElem_cons_succ, List.getElem_cons_zero, List.setIfInBounds_toArray, List.set_cons_zero, List.set_cons_succ]
            refine wpAnyH_ready (rs := [15]) (by kernel_rfl) (by simp) (AllReadyH.cons rfl (fun K hK => ?_) AllReadyH.nil)
            simp only [List.getElem_toArray, List.getElem_cons_succ, List.getElem_cons_zero]
            go_simp
            refine (HDOC.out _ HAD1.out).mono ?_
            rintro e V2 ⟨v2, rfl, hr2, ho2⟩
            have HR2 := Lib.hid (Ints.row hr2); have HR1' := Lib.hid (HR1.out.adds ho2); have HAD2 := Lib.hid (HAD1.out.thenF ho2)
            refine hK.out _ _ ⟨cellA hHeld.1 ho2, cellA hHeld.2 ho2⟩ (fun hHeld => ?_)
            clear hK K
            try simp only [Act.put, List.getElem_toArray, List.getElem_cons_succ, List.getElem_cons_zero, List.setIfInBounds_toArray, List.set_cons_zero, List.set_cons_succ]
            clear hr2 ho2 HAD1 HR1
            refine wpAnyH_ready (rs := [16]) (by kernel_rfl) (by simp) (AllReadyH.cons rfl (fun K hK => ?_) AllReadyH.nil)
            simp only [List.getElem_toArray, List.getElem_cons_succ, List.getElem_cons_zero]
            go_simp
            refine (sameInts_yes HR1'.out HR2.out HLEN.out).mono ?_
            rintro e V3 ⟨rfl, kq, rfl⟩
            have ho3 : Adds V2 (V2.drewN kq) := adds_drewN V2 kq
            have HAD3 := Lib.hid (HAD2.out.thenF ho3)
            refine hK.out _ _ ⟨cellA hHeld.1 ho3, cellA hHeld.2 ho3⟩ (fun hHeld => ?_)
            clear hK K
            try simp only [Act.put, List.getElem_toArray, List.getElem_cons_succ, List.getElem_cons_zero, List.setIfInBounds_toArray, List.set_cons_zero, List.set_cons_succ]
            clear ho3
            refine wpAnyH_take (i := 17) (v := (.bool false)) rfl (by kernel_rfl) (by kernel_rfl) (by kernel_rfl) (fun _ _ _ h => h) (Or.inl ⟨by rfl, fun W hS => by first | rfl | (go_simp; done)⟩) hHeld ?_
            try simp only [Act.put, List.getElem_toArray, List.getElem_cons_succ, List.getElem_cons_zero, List.setIfInBounds_toArray, List.set_cons_zero, List.set_cons_succ]
            refine wpAnyH_done (by kernel_rfl) ?_ _
            go_wp2_with fail
            go_roundw
            case rel => exact ⟨h + 1, by omega, by go_num, HAD3⟩
            case measure => simp [intOf]; omega
          · have gh : ¬ (h : Int) < 3 := by omega
            obtain ⟨kw, hkw⟩ : ∃ k : Nat, k = s.ws.length := ⟨_, rfl⟩
            have HBIG := Lib.hid (show 0 < s.ws.length by have := HI.out.sc.len; have := (HD.words ⟨HMAY.out, (by decide : (8 : Int) ≤ 8), (by decide : (8 : Int) < 68)⟩); omega)
            clear hkw kw
            go_upto_region 15 with fail
            refine wp_region_held_drew (S := (fun V => V.cell? ⟨gb, 0, none⟩ = some (.pointer (some ⟨ab, 0, none⟩)) ∧ V.cell? ⟨gb, 1, none⟩ = some (.pointer (some ⟨bb, 0, none⟩)))) (by kernel_rfl) ⟨y0, y1⟩ (fun hHeld => ?_)
            obtain ⟨D, hD⟩ : ∃ D, World.drew wr = D := ⟨_, rfl⟩
            have HAD : Hid (Adds wq D) := Lib.hid (by rw [← hD]; exact HO.out.drew)
            rw [hD] at hHeld
            try rw [hD]
            clear hD y0 y1
            refine wpAnyH_take (i := 0) (v := (.pointer (some ⟨gb, 0, none⟩))) rfl (by kernel_rfl) (by kernel_rfl) (by kernel_rfl) (fun _ _ _ h => h) (Or.inl ⟨by rfl, fun W hS => by first | rfl | (go_simp; done)⟩) hHeld ?_
            try simp only [Act.put, List.getElem_toArray, List.getElem_cons_succ, List.getElem_cons_zero, List.setIfInBounds_toArray, List.set_cons_zero, List.set_cons_succ]
            refine wpAnyH_take (i := 1) (v := (.pointer (some ⟨gb, 0, none⟩))) rfl (by kernel_rfl) (by kernel_rfl) (by kernel_rfl) (fun _ _ _ h => h) (Or.inl ⟨by rfl, fun W hS => by first | rfl | (go_simp; done)⟩) hHeld ?_
            try simp only [Act.put, List.getElem_toArray, List.getElem_cons_succ, List.getElem_cons_zero, List.setIfInBounds_toArray, List.set_cons_zero, List.set_cons_succ]
            refine wpAnyH_take (i := 2) (v := (.pointer (some ⟨gb, 0, none⟩))) rfl (by kernel_rfl) (by kernel_rfl) (by kernel_rfl) (fun _ _ _ h => h) (Or.inl ⟨by rfl, fun W hS => by first | rfl | (go_simp; done)⟩) hHeld ?_
            try simp only [Act.put, List.getElem_toArray, List.getElem_cons_succ, List.getElem_cons_zero, List.setIfInBounds_toArray, List.set_cons_zero, List.set_cons_succ]
            refine wpAnyH_take (i := 3) (v := (.pointer (some ⟨ab, 0, none⟩))) rfl (by kernel_rfl) (by kernel_rfl) (by kernel_rfl) (fun _ _ _ h => h) (Or.inl ⟨by rfl, fun W hS => by (obtain ⟨q1, q2⟩ := hS; go_simp; done)⟩) hHeld ?_
            try simp only [Act.put, List.getElem_toArray, List.getElem_cons_succ, List.getElem_cons_zero, List.setIfInBounds_toArray, List.set_cons_zero, List.set_cons_succ]
            refine wpAnyH_take (i := 4) (v := (.pointer (some ⟨gb, 0, none⟩))) rfl (by kernel_rfl) (by kernel_rfl) (by kernel_rfl) (fun _ _ _ h => h) (Or.inl ⟨by rfl, fun W hS => by first | rfl | (go_simp; done)⟩) hHeld ?_
            try simp only [Act.put, List.getElem_toArray, List.getElem_cons_succ, List.getElem_cons_zero, List.setIfInBounds_toArray, List.set_cons_zero, List.set_cons_succ]
            refine wpAnyH_take (i := 5) (v := (.pointer (some ⟨gb, 0, none⟩))) rfl (by kernel_rfl) (by kernel_rfl) (by kernel_rfl) (fun _ _ _ h => h) (Or.inl ⟨by rfl, fun W hS => by first | rfl | (go_simp; done)⟩) hHeld ?_
            try simp only [Act.put, List.getElem_toArray, List.getElem_cons_succ, List.getElem_cons_zero, List.setIfInBounds_toArray, List.set_cons_zero, List.set_cons_succ]
            refine wpAnyH_take (i := 6) (v := (.pointer (some ⟨gb, 1, none⟩))) rfl (by kernel_rfl) (by kernel_rfl) (by kernel_rfl) (fun _ _ _ h => h) (Or.inl ⟨by rfl, fun W hS => by first | rfl | (go_simp; done)⟩) hHeld ?_
            try simp only [Act.put, List.getElem_toArray, List.getElem_cons_succ, List.getElem_cons_zero, List.setIfInBounds_toArray, List.set_cons_zero, List.set_cons_succ]
            refine wpAnyH_take (i := 7) (v := (.pointer (some ⟨bb, 0, none⟩))) rfl (by kernel_rfl) (by kernel_rfl) (by kernel_rfl) (fun _ _ _ h => h) (Or.inl ⟨by rfl, fun W hS => by (obtain ⟨q1, q2⟩ := hS; go_simp; done)⟩) hHeld ?_
            try simp only [Act.put, List.getElem_toArray, List.getElem_cons_succ, List.getElem_cons_zero, List.setIfInBounds_toArray, List.set_cons_zero, List.set_cons_succ]
            refine wpAnyH_ready (rs := [8]) (by kernel_rfl) (by simp) (AllReadyH.cons rfl (fun K hK => ?_) AllReadyH.nil)
            simp only [List.getElem_toArray, List.getElem_cons_succ, List.getElem_cons_zero]
            go_simp
            refine (playSame_any (HI.out.add HAD.out).sc.both HS.out.2 HBIG.out (by omega) (by omega)).mono ?_
            rintro e V1 ⟨rfl, ho1⟩
            have HAD1 := Lib.hid (HAD.out.thenF ho1)
            refine hK.out _ _ ⟨cellA hHeld.1 ho1, cellA hHeld.2 ho1⟩ (fun hHeld => ?_)
            clear hK K
            try simp only [Act.put, List.getElem_toArray, List.getElem_cons_succ, List.getElem_cons_zero, List.setIfInBounds_toArray, List.set_cons_zero, List.set_cons_succ]
            clear ho1
            refine wpAnyH_take (i := 9) (v := (.bool true)) rfl (by kernel_rfl) (by kernel_rfl) (by kernel_rfl) (fun _ _ _ h => h) (Or.inl ⟨by rfl, fun W hS => by first | rfl | (go_simp; done)⟩) hHeld ?_
            try simp only [Act.put, List.getElem_toArray, List.getElem_cons_succ, List.getElem_cons_zero, List.setIfInBounds_toArray, List.set_cons_zero, List.set_cons_succ]
            refine wpAnyH_ready (rs := [10]) (by kernel_rfl) (by simp) (AllReadyH.cons rfl (fun K hK => ?_) AllReadyH.nil)
            simp only [List.getElem_toArray, List.getElem_cons_succ, List.getElem_cons_zero]
            go_simp
            refine (awake12_any _).mono ?_
            rintro e V2 ⟨rfl, ho2⟩
            have HAD2 := Lib.hid (HAD1.out.thenF ho2)
            refine hK.out _ _ ⟨cellA hHeld.1 ho2, cellA hHeld.2 ho2⟩ (fun hHeld => ?_)
            clear hK K
            try simp only [Act.put, List.getElem_toArray, List.getElem_cons_succ, List.getElem_cons_zero, List.setIfInBounds_toArray, List.set_cons_zero, List.set_cons_succ]
            clear ho2
            refine wpAnyH_take (i := 11) (v := (.bool true)) rfl (by kernel_rfl) (by kernel_rfl) (by kernel_rfl) (fun _ _ _ h => h) (Or.inl ⟨by rfl, fun W hS => by first | rfl | (go_simp; done)⟩) hHeld ?_
            try simp only [Act.put, List.getElem_toArray, List.getElem_cons_succ, List.getElem_cons_zero, List.setIfInBounds_toArray, List.set_cons_zero, List.set_cons_succ]
            refine wpAnyH_take (i := 12) (v := (.bool true)) rfl (by kernel_rfl) (by kernel_rfl) (by kernel_rfl) (fun _ _ _ h => h) (Or.inl ⟨by rfl, fun W hS => by first | rfl | (go_simp; done)⟩) hHeld ?_
            try simp only [Act.put, List.getElem_toArray, List.getElem_cons_succ, List.getElem_cons_zero, List.setIfInBounds_toArray, List.set_cons_zero, List.set_cons_succ]
            refine wpAnyH_done (by kernel_rfl) ?_ _
            go_wp2_with fail
            go_ret
            exact ⟨rfl, (HI.out.sc.adds.thenF HAD2.out).below (Nat.le_refl _) (fun _ _ h => h)⟩
      · have g1 : ¬ (k : Int) < (len0 : Int) := by omega
        have HWS := Lib.hid (show s'.word = s.word from by funext i; unfold StoreS.word; rw [HS.out.2])
        have HWK : Hid (∀ (m : Nat) (p : Int), walkL s' pn n m p = walkL s pn n m p) := Lib.hid (walkL_same HWS.out)
        clear HWHO
        go_upto_region 11 with fail
        obtain ⟨wq, hwq⟩ : ∃ W, W = wr := ⟨_, rfl⟩
        subst hwq
        go_loopw [13] (fun i wz => ∃ h : Nat, h ≤ 3 ∧ i = .int .i64 h ∧ Hid (Adds wq wz)) (fun i _ => 3 - (intOf i).toNat)
        case atStart => exact ⟨0, by omega, rfl, Lib.hid (Only.refl _ _)⟩
        case round =>
          obtain ⟨h, hh, rfl, HO⟩ := hrel
          have HIX := Lib.hid (HI.out.add HO.out)
          have y0 := HIX.out.gcells.1; have y1 := HIX.out.gcells.2.1
          by_cases ch : h < 3
          · have gh : (h : Int) < 3 := by omega
            have hwh : IntKind.i64.wrap ((h : Int) + 1) = (h : Int) + 1 := by rw [IntKind.wrap_i64]; omega
            obtain ⟨h7, hh7⟩ : ∃ q, (h : Int) * 7 = q := ⟨_, rfl⟩
            have w7 : IntKind.i64.wrap ((h : Int) * 7) = h7 := by rw [hh7, IntKind.wrap_i64]; omega
            obtain ⟨hd, hhd⟩ : ∃ q, 8 + h7 % 60 = q := ⟨_, rfl⟩
            have hd3 : Hd3 hd := by
              have h3 : h7 = 0 ∨ h7 = 7 ∨ h7 = 14 := by omega
              unfold Hd3
              rcases h3 with rfl | rfl | rfl <;> omega
            have HISH : Hid (Lay.isHead pn n hd = true) := Lib.hid (HD.to ⟨HMAY.out, hd3.bd.1, hd3.bd.2⟩)
            have HHEAD : Hid (∀ W, Calls Tryz.prog 16 #[.int .i64 h7] W fun e w' => e = .returned (.int .i64 hd) ∧ W = w') := Lib.hid (fun W => by rw [← hhd]; exact playHead_any h7 W (by omega))
            obtain ⟨Lw, hLw⟩ : ∃ Lw, walkL s pn n (pn : Int).toNat (Tag.pg (s.word hd)) = Lw := ⟨_, rfl⟩
            have HLIST := Lib.hid (fun (W : World) (hA : Adds wq W) => stackListB_any (HI.out.add hA).sc.both.yard HISH.out HI.out.sc.len Lw hLw.symm)
            have HDOC := Lib.hid (fun (W : World) (hA : Adds wq W) => docListB_any (HI.out.add hA).sc.both.mem HISH.out HI.out.sc.len' (fun q q0 q1 => by rw [HWS.out, nextAt_nx HMAY.out q0 q1]; exact HS.out.1.nx q q0 q1) Lw (by rw [HWS.out, HWK.out]; exact hLw.symm))
            have HLEN : Hid (Lw.length ≤ 65536) := Lib.hid (by rw [← hLw]; have := walkL_len s pn n (pn : Int).toNat (Tag.pg (s.word hd)); omega)
            clear hh7 hhd hd3 hLw
            go_upto_region 13 with fail
            refine wp_region_held_drew (S := (fun V => V.cell? ⟨gb, 0, none⟩ = some (.pointer (some ⟨ab, 0, none⟩)) ∧ V.cell? ⟨gb, 1, none⟩ = some (.pointer (some ⟨bb, 0, none⟩)))) (by kernel_rfl) ⟨y0, y1⟩ (fun hHeld => ?_)
            obtain ⟨D, hD⟩ : ∃ D, World.drew wr = D := ⟨_, rfl⟩
            have HAD : Hid (Adds wq D) := Lib.hid (by rw [← hD]; exact HO.out.drew)
            rw [hD] at hHeld
            try rw [hD]
            clear hD y0 y1
            refine wpAnyH_take (i := 0) (v := (.pointer (some ⟨gb, 0, none⟩))) rfl (by kernel_rfl) (by kernel_rfl) (by kernel_rfl) (fun _ _ _ h => h) (Or.inl ⟨by rfl, fun W hS => by first | rfl | (go_simp; done)⟩) hHeld ?_
            try simp only [Act.put, List.getElem_toArray, List.getElem_cons_succ, List.getElem_cons_zero, List.setIfInBounds_toArray, List.set_cons_zero, List.set_cons_succ]
            refine wpAnyH_take (i := 1) (v := (.pointer (some ⟨gb, 0, none⟩))) rfl (by kernel_rfl) (by kernel_rfl) (by kernel_rfl) (fun _ _ _ h => h) (Or.inl ⟨by rfl, fun W hS => by first | rfl | (go_simp; done)⟩) hHeld ?_
            try simp only [Act.put, List.getElem_toArray, List.getElem_cons_succ, List.getElem_cons_zero, List.setIfInBounds_toArray, List.set_cons_zero, List.set_cons_succ]
            refine wpAnyH_take (i := 2) (v := (.pointer (some ⟨gb, 0, none⟩))) rfl (by kernel_rfl) (by kernel_rfl) (by kernel_rfl) (fun _ _ _ h => h) (Or.inl ⟨by rfl, fun W hS => by first | rfl | (go_simp; done)⟩) hHeld ?_
            try simp only [Act.put, List.getElem_toArray, List.getElem_cons_succ, List.getElem_cons_zero, List.setIfInBounds_toArray, List.set_cons_zero, List.set_cons_succ]
            refine wpAnyH_take (i := 3) (v := (.pointer (some ⟨ab, 0, none⟩))) rfl (by kernel_rfl) (by kernel_rfl) (by kernel_rfl) (fun _ _ _ h => h) (Or.inl ⟨by rfl, fun W hS => by (obtain ⟨q1, q2⟩ := hS; go_simp; done)⟩) hHeld ?_
            try simp only [Act.put, List.getElem_toArray, List.getElem_cons_succ, List.getElem_cons_zero, List.setIfInBounds_toArray, List.set_cons_zero, List.set_cons_succ]
            refine wpAnyH_take (i := 4) (v := (.int .i64 (h : Int))) rfl (by kernel_rfl) (by kernel_rfl) (by kernel_rfl) (fun _ _ _ h => h) (Or.inl ⟨by rfl, fun W hS => by first | rfl | (go_simp; done)⟩) hHeld ?_
            try simp only [Act.put, List.getElem_toArray, List.getElem_cons_succ, List.getElem_cons_zero, List.setIfInBounds_toArray, List.set_cons_zero, List.set_cons_succ]
            refine wpAnyH_take (i := 5) (v := (.int .i64 h7)) rfl (by kernel_rfl) (by kernel_rfl) (by kernel_rfl) (fun _ _ _ h => h) (Or.inl ⟨by rfl, fun W hS => by first | rfl | (go_simp; done)⟩) hHeld ?_
            try simp only [Act.put, List.getElem_toArray, List.getElem_cons_succ, List.getElem_cons_zero, List.setIfInBounds_toArray, List.set_cons_zero, List.set_cons_succ]
            refine wpAnyH_take (i := 8) (v := (.pointer (some ⟨gb, 0, none⟩))) rfl (by kernel_rfl) (by kernel_rfl) (by kernel_rfl) (fun _ _ _ h => h) (Or.inl ⟨by rfl, fun W hS => by first | rfl | (go_simp; done)⟩) hHeld ?_
            try simp only [Act.put, List.getElem_toArray, List.getElem_cons_succ, List.getElem_cons_zero, List.setIfInBounds_toArray, List.set_cons_zero, List.set_cons_succ]
            refine wpAnyH_take (i := 9) (v := (.pointer (some ⟨gb, 0, none⟩))) rfl (by kernel_rfl) (by kernel_rfl) (by kernel_rfl) (fun _ _ _ h => h) (Or.inl ⟨by rfl, fun W hS => by first | rfl | (go_simp; done)⟩) hHeld ?_
            try simp only [Act.put, List.getElem_toArray, List.getElem_cons_succ, List.getElem_cons_zero, List.setIfInBounds_toArray, List.set_cons_zero, List.set_cons_succ]
            refine wpAnyH_take (i := 10) (v := (.pointer (some ⟨gb, 1, none⟩))) rfl (by kernel_rfl) (by kernel_rfl) (by kernel_rfl) (fun _ _ _ h => h) (Or.inl ⟨by rfl, fun W hS => by first | rfl | (go_simp; done)⟩) hHeld ?_
            try simp only [Act.put, List.getElem_toArray, List.getElem_cons_succ, List.getElem_cons_zero, List.setIfInBounds_toArray, List.set_cons_zero, List.set_cons_succ]
            refine wpAnyH_take (i := 11) (v := (.pointer (some ⟨bb, 0, none⟩))) rfl (by kernel_rfl) (by kernel_rfl) (by kernel_rfl) (fun _ _ _ h => h) (Or.inl ⟨by rfl, fun W hS => by (obtain ⟨q1, q2⟩ := hS; go_simp; done)⟩) hHeld ?_
            try simp only [Act.put, List.getElem_toArray, List.getElem_cons_succ, List.getElem_cons_zero, List.setIfInBounds_toArray, List.set_cons_zero, List.set_cons_succ]
            refine wpAnyH_take (i := 12) (v := (.int .i64 (h : Int))) rfl (by kernel_rfl) (by kernel_rfl) (by kernel_rfl) (fun _ _ _ h => h) (Or.inl ⟨by rfl, fun W hS => by first | rfl | (go_simp; done)⟩) hHeld ?_
            try simp only [Act.put, List.getElem_toArray, List.getElem_cons_succ, List.getElem_cons_zero, List.setIfInBounds_toArray, List.set_cons_zero, List.set_cons_succ]
            refine wpAnyH_take (i := 13) (v := (.int .i64 h7)) rfl (by kernel_rfl) (by kernel_rfl) (by kernel_rfl) (fun _ _ _ h => h) (Or.inl ⟨by rfl, fun W hS => by first | rfl | (go_simp; done)⟩) hHeld ?_
            try simp only [Act.put, List.getElem_toArray, List.getElem_cons_succ, List.getElem_cons_zero, List.setIfInBounds_toArray, List.set_cons_zero, List.set_cons_succ]
            refine wpAnyH_ready (rs := [6]) (by kernel_rfl) (by simp) (AllReadyH.cons rfl (fun K hK => ?_) AllReadyH.nil)
            simp only [List.getElem_toArray, List.getElem_cons_succ, List.getElem_cons_zero]
            go_simp
            refine (HHEAD.out _).mono ?_
            rintro e V0 ⟨rfl, rfl⟩
            refine hK.out _ _ hHeld (fun hHeld => ?_)
            clear hK K
            try simp only [Act.put, List.getElem_toArray, List.getElem_cons_succ, List.getElem_cons_zero, List.setIfInBounds_toArray, List.set_cons_zero, List.set_cons_succ]
            refine wpAnyH_ready (rs := [7]) (by kernel_rfl) (by simp) (AllReadyH.cons rfl (fun K hK => ?_) AllReadyH.nil)
            simp only [List.getElem_toArray, List.getElem_cons_succ, List.getElem_cons_zero]
            go_simp
            refine (HLIST.out _ HAD.out).mono ?_
            rintro e V1 ⟨v1, rfl, hr1, ho1⟩
            have HR1 := Lib.hid (Ints.row hr1); have HAD1 := Lib.hid (HAD.out.thenF ho1)
            refine hK.out _ _ ⟨cellA hHeld.1 ho1, cellA hHeld.2 ho1⟩ (fun hHeld => ?_)
            clear hK K
            try simp only [Act.put, List.getElem_toArray, List.getElem_cons_succ, List.getElem_cons_zero, List.setIfInBounds_toArray, List.set_cons_zero, List.set_cons_succ]
            clear hr1 ho1 HAD
            refine wpAnyH_ready (rs := [14]) (by kernel_rfl) (by simp) (AllReadyH.cons rfl (fun K hK => ?_) AllReadyH.nil)
            simp only [List.getElem_toArray, List.getElem_cons_succ, List.getElem_cons_zero]
            go_simp
            refine (HHEAD.out _).mono ?_
            rintro e V0 ⟨rfl, rfl⟩
            refine hK.out _ _ hHeld (fun hHeld => ?_)
            clear hK K
            try simp only [Act.put, List.getElem_toArray, List.getElem_cons_succ, List.getElem_cons_zero, List.setIfInBounds_toArray, List.set_cons_zero, List.set_cons_succ]
            refine wpAnyH_ready (rs := [15]) (by kernel_rfl) (by simp) (AllReadyH.cons rfl (fun K hK => ?_) AllReadyH.nil)
            simp only [List.getElem_toArray, List.getElem_cons_succ, List.getElem_cons_zero]
            go_simp
            refine (HDOC.out _ HAD1.out).mono ?_
            rintro e V2 ⟨v2, rfl, hr2, ho2⟩
            have HR2 := Lib.hid (Ints.row hr2); have HR1' := Lib.hid (HR1.out.adds ho2); have HAD2 := Lib.hid (HAD1.out.thenF ho2)
            refine hK.out _ _ ⟨cellA hHeld.1 ho2, cellA hHeld.2 ho2⟩ (fun hHeld => ?_)
            clear hK K
            try simp only [Act.put, List.getElem_toArray, List.getElem_cons_succ, List.getElem_cons_zero, List.setIfInBounds_toArray, List.set_cons_zero, List.set_cons_succ]
            clear hr2 ho2 HAD1 HR1
            refine wpAnyH_ready (rs := [16]) (by kernel_rfl) (by simp) (AllReadyH.cons rfl (fun K hK => ?_) AllReadyH.nil)
            simp only [List.getElem_toArray, List.getElem_cons_succ, List.getElem_cons_zero]
            go_simp
            refine (sameInts_yes HR1'.out HR2.out HLEN.out).mono ?_
            rintro e V3 ⟨rfl, kq, rfl⟩
            have ho3 : Adds V2 (V2.drewN kq) := adds_drewN V2 kq
            have HAD3 := Lib.hid (HAD2.out.thenF ho3)
            refine hK.out _ _ ⟨cellA hHeld.1 ho3, cellA hHeld.2 ho3⟩ (fun hHeld => ?_)
            clear hK K
            try simp only [Act.put, List.getElem_toArray, List.getElem_cons_succ, List.getElem_cons_zero, List.setIfInBounds_toArray, List.set_cons_zero, List.set_cons_succ]
            clear ho3
            refine wpAnyH_take (i := 17) (v := (.bool false)) rfl (by kernel_rfl) (by kernel_rfl) (by kernel_rfl) (fun _ _ _ h => h) (Or.inl ⟨by rfl, fun W hS => by first | rfl | (go_simp; done)⟩) hHeld ?_
            try simp only [Act.put, List.getElem_toArray, List.getElem_cons_succ, List.getElem_cons_zero, List.setIfInBounds_toArray, List.set_cons_zero, List.set_cons_succ]
            refine wpAnyH_done (by kernel_rfl) ?_ _
            go_wp2_with fail
            go_roundw
            case rel => exact ⟨h + 1, by omega, by go_num, HAD3⟩
            case measure => simp [intOf]; omega
          · have gh : ¬ (h : Int) < 3 := by omega
            obtain ⟨kw, hkw⟩ : ∃ k : Nat, k = s.ws.length := ⟨_, rfl⟩
            have HBIG := Lib.hid (show 0 < s.ws.length by have := HI.out.sc.len; have := (HD.words ⟨HMAY.out, (by decide : (8 : Int) ≤ 8), (by decide : (8 : Int) < 68)⟩); omega)
            clear hkw kw
            go_upto_region 15 with fail
            refine wp_region_held_drew (S := (fun V => V.cell? ⟨gb, 0, none⟩ = some (.pointer (some ⟨ab, 0, none⟩)) ∧ V.cell? ⟨gb, 1, none⟩ = some (.pointer (some ⟨bb, 0, none⟩)))) (by kernel_rfl) ⟨y0, y1⟩ (fun hHeld => ?_)
            obtain ⟨D, hD⟩ : ∃ D, World.drew wr = D := ⟨_, rfl⟩
            have HAD : Hid (Adds wq D) := Lib.hid (by rw [← hD]; exact HO.out.drew)
            rw [hD] at hHeld
            try rw [hD]
            clear hD y0 y1
            refine wpAnyH_take (i := 0) (v := (.pointer (some ⟨gb, 0, none⟩))) rfl (by kernel_rfl) (by kernel_rfl) (by kernel_rfl) (fun _ _ _ h => h) (Or.inl ⟨by rfl, fun W hS => by first | rfl | (go_simp; done)⟩) hHeld ?_
            try simp only [Act.put, List.getElem_toArray, List.getElem_cons_succ, List.getElem_cons_zero, List.setIfInBounds_toArray, List.set_cons_zero, List.set_cons_succ]
            refine wpAnyH_take (i := 1) (v := (.pointer (some ⟨gb, 0, none⟩))) rfl (by kernel_rfl) (by kernel_rfl) (by kernel_rfl) (fun _ _ _ h => h) (Or.inl ⟨by rfl, fun W hS => by first | rfl | (go_simp; done)⟩) hHeld ?_
            try simp only [Act.put, List.getElem_toArray, List.getElem_cons_succ, List.getElem_cons_zero, List.setIfInBounds_toArray, List.set_cons_zero, List.set_cons_succ]
            refine wpAnyH_take (i := 2) (v := (.pointer (some ⟨gb, 0, none⟩))) rfl (by kernel_rfl) (by kernel_rfl) (by kernel_rfl) (fun _ _ _ h => h) (Or.inl ⟨by rfl, fun W hS => by first | rfl | (go_simp; done)⟩) hHeld ?_
            try simp only [Act.put, List.getElem_toArray, List.getElem_cons_succ, List.getElem_cons_zero, List.setIfInBounds_toArray, List.set_cons_zero, List.set_cons_succ]
            refine wpAnyH_take (i := 3) (v := (.pointer (some ⟨ab, 0, none⟩))) rfl (by kernel_rfl) (by kernel_rfl) (by kernel_rfl) (fun _ _ _ h => h) (Or.inl ⟨by rfl, fun W hS => by (obtain ⟨q1, q2⟩ := hS; go_simp; done)⟩) hHeld ?_
            try simp only [Act.put, List.getElem_toArray, List.getElem_cons_succ, List.getElem_cons_zero, List.setIfInBounds_toArray, List.set_cons_zero, List.set_cons_succ]
            refine wpAnyH_take (i := 4) (v := (.pointer (some ⟨gb, 0, none⟩))) rfl (by kernel_rfl) (by kernel_rfl) (by kernel_rfl) (fun _ _ _ h => h) (Or.inl ⟨by rfl, fun W hS => by first | rfl | (go_simp; done)⟩) hHeld ?_
            try simp only [Act.put, List.getElem_toArray, List.getElem_cons_succ, List.getElem_cons_zero, List.setIfInBounds_toArray, List.set_cons_zero, List.set_cons_succ]
            refine wpAnyH_take (i := 5) (v := (.pointer (some ⟨gb, 0, none⟩))) rfl (by kernel_rfl) (by kernel_rfl) (by kernel_rfl) (fun _ _ _ h => h) (Or.inl ⟨by rfl, fun W hS => by first | rfl | (go_simp; done)⟩) hHeld ?_
            try simp only [Act.put, List.getElem_toArray, List.getElem_cons_succ, List.getElem_cons_zero, List.setIfInBounds_toArray, List.set_cons_zero, List.set_cons_succ]
            refine wpAnyH_take (i := 6) (v := (.pointer (some ⟨gb, 1, none⟩))) rfl (by kernel_rfl) (by kernel_rfl) (by kernel_rfl) (fun _ _ _ h => h) (Or.inl ⟨by rfl, fun W hS => by first | rfl | (go_simp; done)⟩) hHeld ?_
            try simp only [Act.put, List.getElem_toArray, List.getElem_cons_succ, List.getElem_cons_zero, List.setIfInBounds_toArray, List.set_cons_zero, List.set_cons_succ]
            refine wpAnyH_take (i := 7) (v := (.pointer (some ⟨bb, 0, none⟩))) rfl (by kernel_rfl) (by kernel_rfl) (by kernel_rfl) (fun _ _ _ h => h) (Or.inl ⟨by rfl, fun W hS => by (obtain ⟨q1, q2⟩ := hS; go_simp; done)⟩) hHeld ?_
            try simp only [Act.put, List.getElem_toArray, List.getElem_cons_succ, List.getElem_cons_zero, List.setIfInBounds_toArray, List.set_cons_zero, List.set_cons_succ]
            refine wpAnyH_ready (rs := [8]) (by kernel_rfl) (by simp) (AllReadyH.cons rfl (fun K hK => ?_) AllReadyH.nil)
            simp only [List.getElem_toArray, List.getElem_cons_succ, List.getElem_cons_zero]
            go_simp
            refine (playSame_any (HI.out.add HAD.out).sc.both HS.out.2 HBIG.out (by omega) (by omega)).mono ?_
            rintro e V1 ⟨rfl, ho1⟩
            have HAD1 := Lib.hid (HAD.out.thenF ho1)
            refine hK.out _ _ ⟨cellA hHeld.1 ho1, cellA hHeld.2 ho1⟩ (fun hHeld => ?_)
            clear hK K
            try simp only [Act.put, List.getElem_toArray, List.getElem_cons_succ, List.getElem_cons_zero, List.setIfInBounds_toArray, List.set_cons_zero, List.set_cons_succ]
            clear ho1
            refine wpAnyH_take (i := 9) (v := (.bool true)) rfl (by kernel_rfl) (by kernel_rfl) (by kernel_rfl) (fun _ _ _ h => h) (Or.inl ⟨by rfl, fun W hS => by first | rfl | (go_simp; done)⟩) hHeld ?_
            try simp only [Act.put, List.getElem_toArray, List.getElem_cons_succ, List.getElem_cons_zero, List.setIfInBounds_toArray, List.set_cons_zero, List.set_cons_succ]
            refine wpAnyH_ready (rs := [10]) (by kernel_rfl) (by simp) (AllReadyH.cons rfl (fun K hK => ?_) AllReadyH.nil)
            simp only [List.getElem_toArray, List.getElem_cons_succ, List.getElem_cons_zero]
            go_simp
            refine (awake12_any _).mono ?_
            rintro e V2 ⟨rfl, ho2⟩
            have HAD2 := Lib.hid (HAD1.out.thenF ho2)
            refine hK.out _ _ ⟨cellA hHeld.1 ho2, cellA hHeld.2 ho2⟩ (fun hHeld => ?_)
            clear hK K
            try simp only [Act.put, List.getElem_toArray, List.getElem_cons_succ, List.getElem_cons_zero, List.setIfInBounds_toArray, List.set_cons_zero, List.set_cons_succ]
            clear ho2
            refine wpAnyH_take (i := 11) (v := (.bool true)) rfl (by kernel_rfl) (by kernel_rfl) (by kernel_rfl) (fun _ _ _ h => h) (Or.inl ⟨by rfl, fun W hS => by first | rfl | (go_simp; done)⟩) hHeld ?_
            try simp only [Act.put, List.getElem_toArray, List.getElem_cons_succ, List.getElem_cons_zero, List.setIfInBounds_toArray, List.set_cons_zero, List.set_cons_succ]
            refine wpAnyH_take (i := 12) (v := (.bool true)) rfl (by kernel_rfl) (by kernel_rfl) (by kernel_rfl) (fun _ _ _ h => h) (Or.inl ⟨by rfl, fun W hS => by first | rfl | (go_simp; done)⟩) hHeld ?_
            try simp only [Act.put, List.getElem_toArray, List.getElem_cons_succ, List.getElem_cons_zero, List.setIfInBounds_toArray, List.set_cons_zero, List.set_cons_succ]
            refine wpAnyH_done (by kernel_rfl) ?_ _
            go_wp2_with fail
            go_ret
            exact ⟨rfl, (HI.out.sc.adds.thenF HAD2.out).below (Nat.le_refl _) (fun _ _ h => h)⟩
end Go.Proofs.YthhnpcniijpfeaaGreat

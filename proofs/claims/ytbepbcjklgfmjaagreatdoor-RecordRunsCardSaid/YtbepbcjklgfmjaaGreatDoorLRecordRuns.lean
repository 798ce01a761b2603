/- RecordRuns: its walk. By an AI agent. -/
import Derived.Test.YtbepbcjklgfmjaaGreatDoorZRecMade
import Derived.Test.YtbepbcjklgfmjaaGreatDoorZRecBoth
import Derived.Test.YtbepbcjklgfmjaaGreatDoorZRecAwake
import Derived.Test.YtbepbcjklgfmjaaGreatDoorZPlay2
import Derived.Test.YtbepbcjklgfmjaaGreatDoorZD
import Derived.Laws.Shifts
import Derived.Deep.DeepCutAuto
import Derived.Deep.RegionHeld3
namespace Go.Proofs.YtbepbcjklgfmjaaGreatDoor
open Go.RowKit
set_option linter.unusedSimpArgs false
set_option linter.unusedVariables false
theorem rmachP_none (W : World) (q : Option Addr) : Sem.run Tryz.prog (binOp .eql 51 (.pointer q) (.pointer none)) W = .ok (.bool q.isNone) W := by cases q <;> kernel_rfl
theorem cell_setRow_far {W : World} {b g o : Nat} {cs : Array Value} (h : b ≠ g) : (W.setRow g cs).cell? ⟨b, o, none⟩ = W.cell? ⟨b, o, none⟩ := World.cell?_of_block (setRow_other W g b cs h)
theorem step_any {w wr : World} {ab sb sm rb rg bb tb tm ub fb onb stb t m : Nat} {P : Int} {s s' : StoreS} {L : List (Option RcL)} {Ms : List (Option Nat)} {z : RcL} (h : RH w ab sb sm rb rg bb tb tm ub fb onb stb P wr s s' L Ms) (hz : L[t]? = some (some z)) (hM : Ms[t]? = some (some m)) (hm : Lay.may P 2 = true) (hx : RcM z.x P 2 z.k) (hq : z.k.q.Ok P) (he : s.ws = s'.ws) :
    Calls Tryz.prog 18 #[.pointer (some ⟨m, 0, none⟩), .pointer (some ⟨ab, 0, none⟩), .pointer (some ⟨bb, 0, none⟩)] wr fun e w' => e = .returned (.bool true) ∧ ∃ z2 : RcL, (z2.a = z.a ∧ z2.b = z.b ∧ z2.k = z.k.nx) ∧ (z.k.nx.got = false → RcM z2.x P 2 z.k.nx) ∧ w'.cell? ⟨z.b, 15, none⟩ = some (.bool z.k.nx.got) ∧ RH w ab sb sm rb rg bb tb tm ub fb onb stb P w' ((z.k.ac P 2).act s) ((z.k.ac P 2).act s') (L.set t (some z2)) Ms := by
  cases hk : z.k with
  | lay q i => rw [hk] at hq; have := stepLay_any h hz hM hm hk hx hq he; rw [hk] at this; exact this
  | gone q i => rw [hk] at hq; have := stepGone_any h hz hM hm hk hx hq he; rw [hk] at this; exact this
  | laid q => rw [hk] at hx; exact hx.elim
  | went q => rw [hk] at hx; exact hx.elim
set_option maxRecDepth 100000 in
set_option maxHeartbeats 8000000 in
theorem recordRuns_walk (c0 : Int) (b0 : 0 ≤ c0 ∧ c0 < 256) (a0 : Option Addr) (len0 cap0 : Nat) (zs0 : List Int) (a1 : Option Addr) (len1 cap1 : Nat) (zs1 : List Int) (mk : Int) (w : World) (w0 : IsRow .u8 w a0 len0 cap0 zs0) (w1 : IsRow .u8 w a1 len1 cap1 zs1) (hT : Tab w) :
    Calls Tryz.prog 4 #[.int .u8 c0, .slice a0 len0 cap0, .slice a1 len1 cap1, .int .u64 mk] w fun e w' => e = .returned (.bool true) ∧ Adds w w' := by
  have HZ := Lib.hid w0; have HV := Lib.hid w1; have HT := Lib.hid hT
  obtain ⟨hl0, hcap0⟩ := rows_len w0
  obtain ⟨hl1, hcap1⟩ := rows_len w1
  obtain ⟨P, hP⟩ : ∃ P : Int, 1 + c0 % 60 = P := ⟨_, rfl⟩
  have p1 : 1 ≤ P := by omega
  have p2 : P ≤ 60 := by omega
  have hmay : Lay.may P 2 = true := Lay.may_iff.2 ⟨by omega, by omega, by omega, by omega⟩
  have HSET := fun W => setup_nil c0 1 60 W b0 ⟨by omega, by omega⟩ (by omega)
  have e6 : (1 : Int) + 1 % 6 = 2 := by decide
  rw [hP, e6] at HSET
  replace HSET := Lib.hid HSET
  have HMAY := Lib.hid hmay
  clear w0 w1 hT hmay b0 hP e6
  go_enter Tryz.func4, Tryz.ntmps4
  go_upto_region 5 with (first
    | (go_at_call 14; refine (HSET.out _).mono ?_; rintro e w2 ⟨rfl, ho⟩; have HO0 := Lib.hid ho; clear ho)
    | (go_at_call 5; refine (arenas_ok P 2 _ HMAY.out).mono ?_; rintro e w3 ⟨ab, sb, sm, rb, rg, bb, tb, tm, ub, fb, rfl, hB, ho, hlow⟩; have HB := Lib.hid hB; have HO := Lib.hid ho; have HLOW := Lib.hid hlow; clear hB ho hlow))
  obtain ⟨stb, hstb⟩ : ∃ stb, stb = w2.heap.size := ⟨_, rfl⟩
  have hset : Blk w3 w2.heap.size #[.int .i64 P, .int .i64 2, .slice none 0 0] 25 := (Blk.new w2 _ _).only HO.out id
  rw [← hstb] at hset ⊢
  have HST := Lib.hid hset
  have hz3 := HO.out.size
  have hlow := HLOW.out
  simp only [World.size_alloc] at hz3 hlow
  have hz2 := HO0.out.size
  have HA3 := Lib.hid ((HO0.out.alloc (.cells #[.int .i64 P, .int .i64 2, .slice none 0 0] 25)).thenF HO.out)
  have HLO := Lib.hid (show w.heap.size ≤ ab ∧ w.heap.size ≤ sb ∧ w.heap.size ≤ sm ∧ w.heap.size ≤ bb ∧ w.heap.size ≤ tb ∧ w.heap.size ≤ tm by omega)
  clear hset hlow HLOW HO HO0 HSET hstb
  obtain ⟨onb, honb⟩ : ∃ onb, w3.heap.size = onb := ⟨_, rfl⟩
  obtain ⟨wi, hwi⟩ : ∃ wi, w3.alloc (.cells #[.pointer none, .pointer none] 52) = wi := ⟨_, rfl⟩
  have hA : Adds w3 wi := by rw [← hwi]; exact (Only.refl (fun _ => False) w3).alloc _
  have hrow : Blk wi onb #[.pointer none, .pointer none] 52 := by rw [← hwi, ← honb]; exact Blk.new w3 _ _
  have hlen : (StoreS.begun (Lay.words P 2).toNat 0 1).ws.length = (Lay.words P 2).toNat := begun_len _ _ _
  have hI0 : RH w ab sb sm rb rg bb tb tm ub fb onb stb P wi (StoreS.begun (Lay.words P 2).toNat 0 1) (StoreS.begun (Lay.words P 2).toNat 0 1) (List.replicate 2 none) (List.replicate 2 none) := by
    have hno : ∀ (t : Nat) (z : RcL), (List.replicate 2 (none : Option RcL))[t]? = some (some z) → False := fun t z e => by
      rw [List.getElem?_replicate] at e; split at e <;> simp at e
    refine ⟨⟨HB.out.adds hA, hlen, hlen, Lanes.empty 2, fun t z e => (hno t z e).elim, HLO.out, HA3.out.thenF hA⟩, by simp, by simp, hrow, fun t z e => (hno t z e).elim, fun t e => ?_, HST.out.only hA id, by have := HA3.out.size; omega⟩
    rw [List.getElem?_replicate] at e ⊢
    split at e
    · rename_i h; rw [if_pos h]
    · cases e
  have HI0 := Lib.hid hI0
  clear hI0 hrow hA hlen HB HST HA3 HLO hz3 hz2
  go_wp2_with fail
  clear hwi honb
  go_loopw [13] (fun i wr => ∃ (k : Nat) (s s' : StoreS) (L : List (Option RcL)) (Ms : List (Option Nat)), k ≤ len0 ∧ k ≤ 300 ∧ i = .int .i64 k ∧ Hid (RH w ab sb sm rb rg bb tb tm ub fb onb stb P wr s s' L Ms) ∧ Hid (s.ws = s'.ws) ∧ Hid (∀ (t : Nat) (z : RcL), L[t]? = some (some z) → RcM z.x P 2 z.k ∧ z.k.q.Ok P)) (fun i _ => len0 - (intOf i).toNat)
  case atStart => exact ⟨0, _, _, _, _, Nat.zero_le _, Nat.zero_le _, rfl, HI0, Lib.hid rfl, Lib.hid (fun t z e => by rw [List.getElem?_replicate] at e; split at e <;> simp at e)⟩
  case round =>
    obtain ⟨k, s, s', L, Ms, hk, hk3, rfl, HI, HE, HL⟩ := hrel
    clear HI0
    by_cases c1 : k < len0
    · by_cases c3 : k < 300
      · obtain ⟨b, off, rfl, hb, hc, hcw⟩ := rows_at HZ.out c1
        obtain ⟨x, hx⟩ : ∃ x, x = zs0.getD k 0 := ⟨_, rfl⟩
        rw [← hx] at hc hcw
        have hxb := bd_u8 hcw
        have HD0 : Hid (∀ W, Adds w W → W.cell? ⟨b, off + k, none⟩ = some (.int .u8 x)) := Lib.hid (fun W hA => (hA.cellF (p := ⟨b, off + k, none⟩) hb id).trans hc)
        have hwk : IntKind.i64.wrap ((k : Int) + 1) = (k : Int) + 1 := by rw [IntKind.wrap_i64]; omega
        have HBW := Lib.hid hb
        have gk1 : (k : Int) < (len0 : Int) := by omega
        have gk2 : (k : Int) < 300 := by omega
        have gk0 : (0 : Int) ≤ (k : Int) := by omega
        have ex : IntKind.i64.wrap x = x := by rw [IntKind.wrap_i64]; omega
        clear hx hc hcw hb
        go_upto_region 10 with (go_at_call 15; refine (who_any HV.out HI.out.sc.adds k 2 ⟨by omega, by omega⟩ (by omega)).mono ?_; rintro e v1 ⟨t, rfl, ht, rfl⟩)
        obtain ⟨oz, hLt⟩ : ∃ oz, L[t]? = some oz := ⟨_, List.getElem?_eq_getElem (by rw [HI.out.ll]; exact ht)⟩
        obtain ⟨om, hMt⟩ : ∃ om, Ms[t]? = some om := ⟨_, List.getElem?_eq_getElem (by rw [HI.out.lm]; exact ht)⟩
        have o1 := (HI.out.cells hMt).1
        have hone : (∃ z m, oz = some z ∧ om = some m) ∨ (oz = none ∧ om = none) := by
          rcases oz with _ | z
          · have h1 := HI.out.empty t hLt
            rw [hMt] at h1; injection h1 with h1
            exact .inr ⟨rfl, h1⟩
          · obtain ⟨m, h1, _⟩ := HI.out.mach t z hLt
            rw [hMt] at h1; injection h1 with h1
            exact .inl ⟨z, m, rfl, h1⟩
        have HLt := Lib.hid hLt; have HMt := Lib.hid hMt; have HONE := Lib.hid hone
        obtain ⟨qa, hqa⟩ : ∃ qa : Option Addr, ptrV om = .pointer qa := ⟨_, rfl⟩
        rw [hqa] at o1
        have HQA := Lib.hid hqa
        clear hLt hMt hone hqa
        have hq := fun W => rmachP_none W qa
        have g1 : (0 : Int) ≤ (t : Int) := by omega
        have g2 : (t : Int) < 2 := by omega
        go_upto_if 46 with fail
        go_cut [14] (fun y wd => y = .int .i64 (t : Int) ∧ ∃ (z : RcL) (m : Nat) (L' : List (Option RcL)) (Ms' : List (Option Nat)), Hid (RH w ab sb sm rb rg bb tb tm ub fb onb stb P wd s s' L' Ms') ∧ Hid (L'[t]? = some (some z) ∧ Ms'[t]? = some (some m)) ∧ Hid (∀ (j : Nat) (y : RcL), L'[j]? = some (some y) → RcM y.x P 2 y.k ∧ y.k.q.Ok P))
        case first => as_aux_lemma =>
          rcases HONE.out with ⟨z, m, hz1, hz2⟩ | ⟨hz1, hz2⟩
          · obtain rfl : qa = some ⟨m, 0, none⟩ := by have := HQA.out; rw [hz2] at this; simpa [ptrV] using this.symm
            subst hz1 hz2
            go_wp2_with fail
            go_meet
            exact ⟨rfl, z, m, L, Ms, HI, Lib.hid ⟨HLt.out, HMt.out⟩, HL⟩
          · obtain rfl : qa = none := by have := HQA.out; rw [hz2] at this; simpa [ptrV] using this.symm
            subst hz1 hz2
            obtain ⟨pg, hpg⟩ : ∃ pg, x % P = pg := ⟨_, rfl⟩
            have hpb : 0 ≤ pg ∧ pg < P := by rw [← hpg]; exact ⟨Int.emod_nonneg _ (by omega), Int.emod_lt_of_pos _ (by omega)⟩
            have tpg : Int.tmod x P = pg := by rw [Int.tmod_eq_emod_of_nonneg hxb.1]; exact hpg
            have hP0 : ¬ P = 0 := by omega
            have wpg : IntKind.i64.wrap pg = pg := by rw [IntKind.wrap_i64]; omega
            obtain ⟨x3, hx3⟩ : ∃ x3, x / 3 = x3 := ⟨_, rfl⟩
            have tx3 : Int.tdiv x 3 = x3 := by rw [Int.tdiv_eq_ediv_of_nonneg hxb.1]; exact hx3
            have wx3 : IntKind.i64.wrap x3 = x3 := by rw [IntKind.wrap_i64]; omega
            obtain ⟨kk, hkk⟩ : ∃ kk, x3 + (k : Int) = kk := ⟨_, rfl⟩
            have HKK := Lib.hid (show 0 ≤ kk ∧ kk < 400 by omega)
            have wkk : IntKind.i64.wrap kk = kk := by rw [IntKind.wrap_i64]; omega
            have HPG := Lib.hid hpb
            have s0 : wr.cell? ⟨stb, 0, none⟩ = some (.int .i64 P) := HI.out.set.cell 0
            have m2 : wr.cell? ⟨bb, 2, none⟩ = some (.int .i64 P) := HI.out.sc.both.mem.head.cell 2
            have m3 : wr.cell? ⟨bb, 3, none⟩ = some (.int .i64 2) := HI.out.sc.both.mem.head.cell 3
            have d0 := HD0.out wr HI.out.sc.adds
            have HWR := Lib.hid HI.out.sc.adds.size
            have HBBW := Lib.hid HI.out.sc.both.mem.head.lt
            have HSTB := Lib.hid HI.out.set.lt
            obtain ⟨k50, hk50⟩ : ∃ r, (k : Int) % 50 = r := ⟨_, rfl⟩
            have gk50 : 0 ≤ k50 := by omega
            have tk50 : Int.tmod (k : Int) 50 = k50 := by rw [Int.tmod_eq_emod_of_nonneg gk0]; exact hk50
            obtain ⟨mv, hmv⟩ : ∃ r, mk / 2 ^ min k50.toNat 64 = r := ⟨_, rfl⟩
            clear hk50
            go_upto_region 11 with fail
            go_quiet ((fail))
            have HAW : Hid (Adds wr (wr.drewN nq)) := Lib.hid ((Only.refl _ _).drewN _)
            go_upto_region 12 with fail
            go_cut [16] (fun y wd => ∃ (xb : Nat) (mv : Int), y = .pointer (some ⟨xb, 0, none⟩) ∧ Hid (Adds wr wd ∧ Blk wd xb (mCellsZ 5 P 2 0 pg (lyC P pg kk) (lyN P pg kk) (1 + kk) 0 0 0 (lyA P pg kk mv)) 61 ∧ wr.heap.size ≤ xb))
            case first => as_aux_lemma =>
              refine wp_region_held_drew (S := (fun V => V.cell? ⟨bb, 2, none⟩ = some (.int .i64 P) ∧ V.cell? ⟨bb, 3, none⟩ = some (.int .i64 2) ∧ V.cell? ⟨b, off + k, none⟩ = some (.int .u8 x) ∧ Adds wr V)) (by kernel_rfl) ⟨m2, m3, d0, HAW.out.drew⟩ (fun hHeld => ?_)
              refine wpAnyH_take (i := 0) (v := (.pointer (some ⟨bb, 0, none⟩))) rfl (by kernel_rfl) (by kernel_rfl) (by kernel_rfl) (fun _ _ _ h => h) (Or.inl ⟨by rfl, fun W hS => by first | rfl | (go_simp; done)⟩) hHeld ?_
              try simp only [Act.put, List.getElem_toArray, List.getElem_cons_succ, List.getElem_cons_zero, List.setIfInBounds_toArray, List.set_cons_zero, List.set_cons_succ]
              refine wpAnyH_take (i := 1) (v := (.pointer (some ⟨bb, 0, none⟩))) rfl (by kernel_rfl) (by kernel_rfl) (by kernel_rfl) (fun _ _ _ h => h) (Or.inl ⟨by rfl, fun W hS => by first | rfl | (go_simp; done)⟩) hHeld ?_
              try simp only [Act.put, List.getElem_toArray, List.getElem_cons_succ, List.getElem_cons_zero, List.setIfInBounds_toArray, List.set_cons_zero, List.set_cons_succ]
              refine wpAnyH_take (i := 2) (v := (.pointer (some ⟨bb, 2, none⟩))) rfl (by kernel_rfl) (by kernel_rfl) (by kernel_rfl) (fun _ _ _ h => h) (Or.inl ⟨by rfl, fun W hS => by first | rfl | (go_simp; done)⟩) hHeld ?_
              try simp only [Act.put, List.getElem_toArray, List.getElem_cons_succ, List.getElem_cons_zero, List.setIfInBounds_toArray, List.set_cons_zero, List.set_cons_succ]
              refine wpAnyH_take (i := 3) (v := (.agg #[.int .i64 P, .int .i64 2])) rfl (by kernel_rfl) (by kernel_rfl) (by kernel_rfl) (fun _ _ _ h => h) (Or.inl ⟨by rfl, fun W hS => by (obtain ⟨q1, q2, q3, q4⟩ := hS; go_simp; done)⟩) hHeld ?_
              try simp only [Act.put, List.getElem_toArray, List.getElem_cons_succ, List.getElem_cons_zero, List.setIfInBounds_toArray, List.set_cons_zero, List.set_cons_succ]
              refine wpAnyH_take (i := 4) (v := (.int .i64 pg)) rfl (by kernel_rfl) (by kernel_rfl) (by kernel_rfl) (fun _ _ _ h => h) (Or.inl ⟨by rfl, fun W hS => by first | rfl | (go_simp; done)⟩) hHeld ?_
              try simp only [Act.put, List.getElem_toArray, List.getElem_cons_succ, List.getElem_cons_zero, List.setIfInBounds_toArray, List.set_cons_zero, List.set_cons_succ]
              refine wpAnyH_take (i := 5) (v := (.slice (some ⟨b, off, none⟩) len0 cap0)) rfl (by kernel_rfl) (by kernel_rfl) (by kernel_rfl) (fun _ _ _ h => h) (Or.inl ⟨by rfl, fun W hS => by first | rfl | (go_simp; done)⟩) hHeld ?_
              try simp only [Act.put, List.getElem_toArray, List.getElem_cons_succ, List.getElem_cons_zero, List.setIfInBounds_toArray, List.set_cons_zero, List.set_cons_succ]
              refine wpAnyH_take (i := 6) (v := (.int .i64 (k : Int))) rfl (by kernel_rfl) (by kernel_rfl) (by kernel_rfl) (fun _ _ _ h => h) (Or.inl ⟨by rfl, fun W hS => by first | rfl | (go_simp; done)⟩) hHeld ?_
              try simp only [Act.put, List.getElem_toArray, List.getElem_cons_succ, List.getElem_cons_zero, List.setIfInBounds_toArray, List.set_cons_zero, List.set_cons_succ]
              refine wpAnyH_take (i := 7) (v := (.pointer (some ⟨b, off + k, none⟩))) rfl (by kernel_rfl) (by kernel_rfl) (by kernel_rfl) (fun _ _ _ h => h) (Or.inl ⟨by rfl, fun W hS => by first | rfl | (go_simp; done)⟩) hHeld ?_
              try simp only [Act.put, List.getElem_toArray, List.getElem_cons_succ, List.getElem_cons_zero, List.setIfInBounds_toArray, List.set_cons_zero, List.set_cons_succ]
              refine wpAnyH_take (i := 8) (v := (.int .u8 x)) rfl (by kernel_rfl) (by kernel_rfl) (by kernel_rfl) (fun _ _ _ h => h) (Or.inl ⟨by rfl, fun W hS => by (obtain ⟨q1, q2, q3, q4⟩ := hS; go_simp; done)⟩) hHeld ?_
              try simp only [Act.put, List.getElem_toArray, List.getElem_cons_succ, List.getElem_cons_zero, List.setIfInBounds_toArray, List.set_cons_zero, List.set_cons_succ]
              refine wpAnyH_take (i := 9) (v := (.int .i64 x)) rfl (by kernel_rfl) (by kernel_rfl) (by kernel_rfl) (fun _ _ _ h => h) (Or.inl ⟨by rfl, fun W hS => by first | rfl | (go_simp; done)⟩) hHeld ?_
              try simp only [Act.put, List.getElem_toArray, List.getElem_cons_succ, List.getElem_cons_zero, List.setIfInBounds_toArray, List.set_cons_zero, List.set_cons_succ]
              refine wpAnyH_take (i := 10) (v := (.int .i64 x3)) rfl (by kernel_rfl) (by kernel_rfl) (by kernel_rfl) (fun _ _ _ h => h) (Or.inl ⟨by rfl, fun W hS => by first | rfl | (go_simp; done)⟩) hHeld ?_
              try simp only [Act.put, List.getElem_toArray, List.getElem_cons_succ, List.getElem_cons_zero, List.setIfInBounds_toArray, List.set_cons_zero, List.set_cons_succ]
              refine wpAnyH_take (i := 11) (v := (.int .i64 (k : Int))) rfl (by kernel_rfl) (by kernel_rfl) (by kernel_rfl) (fun _ _ _ h => h) (Or.inl ⟨by rfl, fun W hS => by first | rfl | (go_simp; done)⟩) hHeld ?_
              try simp only [Act.put, List.getElem_toArray, List.getElem_cons_succ, List.getElem_cons_zero, List.setIfInBounds_toArray, List.set_cons_zero, List.set_cons_succ]
              refine wpAnyH_take (i := 12) (v := (.int .i64 kk)) rfl (by kernel_rfl) (by kernel_rfl) (by kernel_rfl) (fun _ _ _ h => h) (Or.inl ⟨by rfl, fun W hS => by first | rfl | (go_simp; done)⟩) hHeld ?_
              try simp only [Act.put, List.getElem_toArray, List.getElem_cons_succ, List.getElem_cons_zero, List.setIfInBounds_toArray, List.set_cons_zero, List.set_cons_succ]
              refine wpAnyH_take (i := 13) (v := (.int .u64 mk)) rfl (by kernel_rfl) (by kernel_rfl) (by kernel_rfl) (fun _ _ _ h => h) (Or.inl ⟨by rfl, fun W hS => by first | rfl | (go_simp; done)⟩) hHeld ?_
              try simp only [Act.put, List.getElem_toArray, List.getElem_cons_succ, List.getElem_cons_zero, List.setIfInBounds_toArray, List.set_cons_zero, List.set_cons_succ]
              refine wpAnyH_take (i := 14) (v := (.int .i64 (k : Int))) rfl (by kernel_rfl) (by kernel_rfl) (by kernel_rfl) (fun _ _ _ h => h) (Or.inl ⟨by rfl, fun W hS => by first | rfl | (go_simp; done)⟩) hHeld ?_
              try simp only [Act.put, List.getElem_toArray, List.getElem_cons_succ, List.getElem_cons_zero, List.setIfInBounds_toArray, List.set_cons_zero, List.set_cons_succ]
              refine wpAnyH_take (i := 15) (v := (.int .i64 k50)) rfl (by kernel_rfl) (by kernel_rfl) (by kernel_rfl) (fun _ _ _ h => h) (Or.inl ⟨by rfl, fun W hS => by first | rfl | (go_simp; done)⟩) hHeld ?_
              try simp only [Act.put, List.getElem_toArray, List.getElem_cons_succ, List.getElem_cons_zero, List.setIfInBounds_toArray, List.set_cons_zero, List.set_cons_succ]
              refine wpAnyH_take (i := 16) (v := (.int .u64 mv)) rfl (by kernel_rfl) (by kernel_rfl) (by kernel_rfl) (fun _ _ _ h => h) (Or.inl ⟨by rfl, fun W hS => by first | rfl | (go_simp; done) | (go_simp; rw [shift_shr_any _ _ _ _ gk50]; rw [← hmv]; rfl)⟩) hHeld ?_
              try simp only [Act.put, List.getElem_toArray, List.getElem_cons_succ, List.getElem_cons_zero, List.setIfInBounds_toArray, List.set_cons_zero, List.set_cons_succ]
              refine wpAnyH_ready (rs := [17, 18]) (by kernel_rfl) (by simp) (AllReadyH.cons rfl (fun K hK => ?_) (AllReadyH.cons rfl (fun K hK => ?_) AllReadyH.nil))
              · simp only [List.getElem_toArray, List.getElem_cons_succ, List.getElem_cons_zero]
                go_simp
                refine (lawLay_any P 2 pg kk _ _ HPG.out.1 HPG.out.2 (by omega) HKK.out.1 (by have := HKK.out.2; omega)).mono ?_
                rintro e v1 ⟨rfl, ho1⟩
                refine hK.out _ _ ⟨cell_al hHeld.1 ho1, cell_al hHeld.2.1 ho1, cell_al hHeld.2.2.1 ho1, hHeld.2.2.2.thenF ho1⟩ (fun hHeld => ?_)
                clear hK
                try simp only [Act.put, List.getElem_toArray, List.getElem_cons_succ, List.getElem_cons_zero, List.setIfInBounds_toArray, List.set_cons_zero, List.set_cons_succ]
                have hz2 := hHeld.2.2.2.size
                refine wpAnyH_ready (rs := [18]) (by kernel_rfl) (by simp) (AllReadyH.cons rfl (fun K hK => ?_) AllReadyH.nil)
                simp only [List.getElem_toArray, List.getElem_cons_succ, List.getElem_cons_zero]
                go_simp
                have hal : Adds v1 (v1.alloc (.cells mZ 61)) := (Only.refl (fun _ => False) v1).alloc _
                refine hK.out _ _ ⟨cell_al hHeld.1 hal, cell_al hHeld.2.1 hal, cell_al hHeld.2.2.1 hal, hHeld.2.2.2.thenF hal⟩ (fun hHeld => ?_)
                clear hK
                try simp only [Act.put, List.getElem_toArray, List.getElem_cons_succ, List.getElem_cons_zero, List.setIfInBounds_toArray, List.set_cons_zero, List.set_cons_succ]
                have hxb := Blk.new v1 mZ 61
                have hz1 := HBW.out; have hz4 := HBBW.out; have hz5 := HWR.out
                refine wpAnyH_ready (rs := [19]) (by kernel_rfl) (by simp) (AllReadyH.cons rfl (fun K hK => ?_) AllReadyH.nil)
                simp only [List.getElem_toArray, List.getElem_cons_succ, List.getElem_cons_zero]
                rw [if_pos (by rfl)]
                refine wp_store_row 61 _ _ rfl v1.heap.size (mCellsZ 5 P 2 0 pg (lyC P pg kk) (lyN P pg kk) (1 + kk) 0 0 0 (lyA P pg kk mv)) rfl rfl (run_storeVar_row _ _ 61 61 mZ (mCellsZ 5 P 2 0 pg (lyC P pg kk) (lyN P pg kk) (1 + kk) 0 0 0 (lyA P pg kk mv)) hxb infoM rfl (by simp [Value.oneCell'])) ?_
                obtain ⟨wF, hwF⟩ : ∃ W, World.setRow (v1.alloc (.cells mZ 61)) v1.heap.size (mCellsZ 5 P 2 0 pg (lyC P pg kk) (lyN P pg kk) (1 + kk) 0 0 0 (lyA P pg kk mv)) = W := ⟨_, rfl⟩
                have hF : Blk wF v1.heap.size (mCellsZ 5 P 2 0 pg (lyC P pg kk) (lyN P pg kk) (1 + kk) 0 0 0 (lyA P pg kk mv)) 61 := by rw [← hwF]; exact setRow_heap _ _ mZ _ _ _ hxb
                have hE : Adds wr wF := by rw [← hwF]; exact adds_setRow hHeld.2.2.2 (by omega) _
                rw [hwF]
                refine hK.out _ _ ⟨?_, ?_, ?_, hE⟩ (fun hHeld => ?_)
                · rw [← hwF]; exact (cell_setRow_far (by omega)).trans hHeld.1
                · rw [← hwF]; exact (cell_setRow_far (by omega)).trans hHeld.2.1
                · rw [← hwF]; exact (cell_setRow_far (by omega)).trans hHeld.2.2.1
                clear hK
                try simp only [Act.put, List.getElem_toArray, List.getElem_cons_succ, List.getElem_cons_zero, List.setIfInBounds_toArray, List.set_cons_zero, List.set_cons_succ]
                refine wpAnyH_done (by kernel_rfl) ?_ _
                go_wp2_with fail
                go_meet
                exact ⟨v1.heap.size, mv, rfl, Lib.hid ⟨hE, hF, by omega⟩⟩
              · simp only [List.getElem_toArray, List.getElem_cons_succ, List.getElem_cons_zero]
                go_simp
                have hz2 : wr.heap.size ≤ (World.drewN wr (nq + 1)).heap.size := hHeld.2.2.2.size
                have hal : Adds (World.drewN wr (nq + 1)) ((World.drewN wr (nq + 1)).alloc (.cells mZ 61)) := (Only.refl (fun _ => False) (World.drewN wr (nq + 1))).alloc _
                refine hK.out _ _ ⟨cell_al hHeld.1 hal, cell_al hHeld.2.1 hal, cell_al hHeld.2.2.1 hal, hHeld.2.2.2.thenF hal⟩ (fun hHeld => ?_)
                clear hK
                try simp only [Act.put, List.getElem_toArray, List.getElem_cons_succ, List.getElem_cons_zero, List.setIfInBounds_toArray, List.set_cons_zero, List.set_cons_succ]
                refine wpAnyH_ready (rs := [17]) (by kernel_rfl) (by simp) (AllReadyH.cons rfl (fun K hK => ?_) AllReadyH.nil)
                simp only [List.getElem_toArray, List.getElem_cons_succ, List.getElem_cons_zero]
                go_simp
                refine (lawLay_any P 2 pg kk _ _ HPG.out.1 HPG.out.2 (by omega) HKK.out.1 (by have := HKK.out.2; omega)).mono ?_
                rintro e v1 ⟨rfl, ho1⟩
                refine hK.out _ _ ⟨cell_al hHeld.1 ho1, cell_al hHeld.2.1 ho1, cell_al hHeld.2.2.1 ho1, hHeld.2.2.2.thenF ho1⟩ (fun hHeld => ?_)
                clear hK
                try simp only [Act.put, List.getElem_toArray, List.getElem_cons_succ, List.getElem_cons_zero, List.setIfInBounds_toArray, List.set_cons_zero, List.set_cons_succ]
                have hxb : Blk v1 (World.drewN wr (nq + 1)).heap.size mZ 61 := (Blk.new (World.drewN wr (nq + 1)) mZ 61).only ho1 id
                have hz1 := HBW.out; have hz4 := HBBW.out; have hz5 := HWR.out
                refine wpAnyH_ready (rs := [19]) (by kernel_rfl) (by simp) (AllReadyH.cons rfl (fun K hK => ?_) AllReadyH.nil)
                simp only [List.getElem_toArray, List.getElem_cons_succ, List.getElem_cons_zero]
                rw [if_pos (by rfl)]
                refine wp_store_row 61 _ _ rfl (World.drewN wr (nq + 1)).heap.size (mCellsZ 5 P 2 0 pg (lyC P pg kk) (lyN P pg kk) (1 + kk) 0 0 0 (lyA P pg kk mv)) rfl rfl (run_storeVar_row _ _ 61 61 mZ (mCellsZ 5 P 2 0 pg (lyC P pg kk) (lyN P pg kk) (1 + kk) 0 0 0 (lyA P pg kk mv)) hxb infoM rfl (by simp [Value.oneCell'])) ?_
                obtain ⟨wF, hwF⟩ : ∃ W, World.setRow v1 (World.drewN wr (nq + 1)).heap.size (mCellsZ 5 P 2 0 pg (lyC P pg kk) (lyN P pg kk) (1 + kk) 0 0 0 (lyA P pg kk mv)) = W := ⟨_, rfl⟩
                have hF : Blk wF (World.drewN wr (nq + 1)).heap.size (mCellsZ 5 P 2 0 pg (lyC P pg kk) (lyN P pg kk) (1 + kk) 0 0 0 (lyA P pg kk mv)) 61 := by rw [← hwF]; exact setRow_heap _ _ mZ _ _ _ hxb
                have hE : Adds wr wF := by rw [← hwF]; exact adds_setRow hHeld.2.2.2 (by omega) _
                rw [hwF]
                refine hK.out _ _ ⟨?_, ?_, ?_, hE⟩ (fun hHeld => ?_)
                · rw [← hwF]; exact (cell_setRow_far (by omega)).trans hHeld.1
                · rw [← hwF]; exact (cell_setRow_far (by omega)).trans hHeld.2.1
                · rw [← hwF]; exact (cell_setRow_far (by omega)).trans hHeld.2.2.1
                clear hK
                try simp only [Act.put, List.getElem_toArray, List.getElem_cons_succ, List.getElem_cons_zero, List.setIfInBounds_toArray, List.set_cons_zero, List.set_cons_succ]
                refine wpAnyH_done (by kernel_rfl) ?_ _
                go_wp2_with fail
                go_meet
                exact ⟨(World.drewN wr (nq + 1)).heap.size, mv, rfl, Lib.hid ⟨hE, hF, by omega⟩⟩
            case rest => as_aux_lemma =>
              obtain ⟨xb, mv, rfl, HC⟩ := hcut
              have HXB := Lib.hid HC.out.2.1
              have d1 := HD0.out wc (HI.out.sc.adds.thenF HC.out.1)
              have m4 := cellA m2 HC.out.1; have m5 := cellA m3 HC.out.1; have s1 := cellA s0 HC.out.1
              clear m2 m3 s0 d0
              obtain ⟨r3, hr3⟩ : ∃ r, x % 3 = r := ⟨_, rfl⟩
              have t3 : Int.tmod x 3 = r3 := by rw [Int.tmod_eq_emod_of_nonneg hxb.1]; exact hr3
              have HT2 := Lib.hid ht
              by_cases c5 : r3 = 0
              · subst c5
                obtain ⟨dd, hdd⟩ : ∃ d, P - pg = d := ⟨_, rfl⟩
                have hd1 : 1 ≤ dd ∧ dd ≤ 60 := by have := HPG.out; omega
                obtain ⟨km, hkm⟩ : ∃ d, (k : Int) % dd = d := ⟨_, rfl⟩
                have hk1 : 0 ≤ km ∧ km < dd := by rw [← hkm]; exact ⟨Int.emod_nonneg _ (by omega), Int.emod_lt_of_pos _ (by omega)⟩
                have tkm : Int.tmod (k : Int) dd = km := by rw [Int.tmod_eq_emod_of_nonneg gk0]; exact hkm
                have wdd : IntKind.i64.wrap (P - pg) = dd := by rw [hdd, IntKind.wrap_i64]; omega
                have hd0 : ¬ dd = 0 := by omega
                have wkm : IntKind.i64.wrap km = km := by rw [IntKind.wrap_i64]; omega
                obtain ⟨nn, hnn⟩ : ∃ n : Nat, 1 + km = (n : Int) := ⟨(1 + km).toNat, by omega⟩
                have wnn : IntKind.i64.wrap (1 + km) = (nn : Int) := by rw [hnn, IntKind.wrap_i64]; omega
                have HNN := Lib.hid (show 1 ≤ nn ∧ pg + nn ≤ P by omega)
                clear hdd hkm hnn
                go_upto_region 14 with fail
                refine wp_region_held_drew (S := (fun V => V.cell? ⟨bb, 2, none⟩ = some (.int .i64 P) ∧ V.cell? ⟨bb, 3, none⟩ = some (.int .i64 2) ∧ V.cell? ⟨stb, 0, none⟩ = some (.int .i64 P) ∧ Adds wr V)) (by kernel_rfl) ⟨m4, m5, s1, HC.out.1.drew⟩ (fun hHeld => ?_)
                refine wpAnyH_take (i := 0) (v := (.pointer (some ⟨bb, 0, none⟩))) rfl (by kernel_rfl) (by kernel_rfl) (by kernel_rfl) (fun _ _ _ h => h) (Or.inl ⟨by rfl, fun W hS => by first | rfl | (go_simp; done)⟩) hHeld ?_
                try simp only [Act.put, List.getElem_toArray, List.getElem_cons_succ, List.getElem_cons_zero, List.setIfInBounds_toArray, List.set_cons_zero, List.set_cons_succ]
                refine wpAnyH_take (i := 1) (v := (.pointer (some ⟨bb, 0, none⟩))) rfl (by kernel_rfl) (by kernel_rfl) (by kernel_rfl) (fun _ _ _ h => h) (Or.inl ⟨by rfl, fun W hS => by first | rfl | (go_simp; done)⟩) hHeld ?_
                try simp only [Act.put, List.getElem_toArray, List.getElem_cons_succ, List.getElem_cons_zero, List.setIfInBounds_toArray, List.set_cons_zero, List.set_cons_succ]
                refine wpAnyH_take (i := 2) (v := (.pointer (some ⟨bb, 2, none⟩))) rfl (by kernel_rfl) (by kernel_rfl) (by kernel_rfl) (fun _ _ _ h => h) (Or.inl ⟨by rfl, fun W hS => by first | rfl | (go_simp; done)⟩) hHeld ?_
                try simp only [Act.put, List.getElem_toArray, List.getElem_cons_succ, List.getElem_cons_zero, List.setIfInBounds_toArray, List.set_cons_zero, List.set_cons_succ]
                refine wpAnyH_take (i := 3) (v := (.agg #[.int .i64 P, .int .i64 2])) rfl (by kernel_rfl) (by kernel_rfl) (by kernel_rfl) (fun _ _ _ h => h) (Or.inl ⟨by rfl, fun W hS => by (obtain ⟨q1, q2, q3, q4⟩ := hS; go_simp; done)⟩) hHeld ?_
                try simp only [Act.put, List.getElem_toArray, List.getElem_cons_succ, List.getElem_cons_zero, List.setIfInBounds_toArray, List.set_cons_zero, List.set_cons_succ]
                refine wpAnyH_take (i := 4) (v := (.int .i64 pg)) rfl (by kernel_rfl) (by kernel_rfl) (by kernel_rfl) (fun _ _ _ h => h) (Or.inl ⟨by rfl, fun W hS => by first | rfl | (go_simp; done)⟩) hHeld ?_
                try simp only [Act.put, List.getElem_toArray, List.getElem_cons_succ, List.getElem_cons_zero, List.setIfInBounds_toArray, List.set_cons_zero, List.set_cons_succ]
                refine wpAnyH_take (i := 5) (v := (.int .i64 (k : Int))) rfl (by kernel_rfl) (by kernel_rfl) (by kernel_rfl) (fun _ _ _ h => h) (Or.inl ⟨by rfl, fun W hS => by first | rfl | (go_simp; done)⟩) hHeld ?_
                try simp only [Act.put, List.getElem_toArray, List.getElem_cons_succ, List.getElem_cons_zero, List.setIfInBounds_toArray, List.set_cons_zero, List.set_cons_succ]
                refine wpAnyH_take (i := 6) (v := (.pointer (some ⟨stb, 0, none⟩))) rfl (by kernel_rfl) (by kernel_rfl) (by kernel_rfl) (fun _ _ _ h => h) (Or.inl ⟨by rfl, fun W hS => by first | rfl | (go_simp; done)⟩) hHeld ?_
                try simp only [Act.put, List.getElem_toArray, List.getElem_cons_succ, List.getElem_cons_zero, List.setIfInBounds_toArray, List.set_cons_zero, List.set_cons_succ]
                refine wpAnyH_take (i := 7) (v := (.int .i64 P)) rfl (by kernel_rfl) (by kernel_rfl) (by kernel_rfl) (fun _ _ _ h => h) (Or.inl ⟨by rfl, fun W hS => by (obtain ⟨q1, q2, q3, q4⟩ := hS; go_simp; done)⟩) hHeld ?_
                try simp only [Act.put, List.getElem_toArray, List.getElem_cons_succ, List.getElem_cons_zero, List.setIfInBounds_toArray, List.set_cons_zero, List.set_cons_succ]
                refine wpAnyH_take (i := 8) (v := (.int .i64 pg)) rfl (by kernel_rfl) (by kernel_rfl) (by kernel_rfl) (fun _ _ _ h => h) (Or.inl ⟨by rfl, fun W hS => by first | rfl | (go_simp; done)⟩) hHeld ?_
                try simp only [Act.put, List.getElem_toArray, List.getElem_cons_succ, List.getElem_cons_zero, List.setIfInBounds_toArray, List.set_cons_zero, List.set_cons_succ]
                refine wpAnyH_take (i := 9) (v := (.int .i64 dd)) rfl (by kernel_rfl) (by kernel_rfl) (by kernel_rfl) (fun _ _ _ h => h) (Or.inl ⟨by rfl, fun W hS => by first | rfl | (go_simp; done)⟩) hHeld ?_
                try simp only [Act.put, List.getElem_toArray, List.getElem_cons_succ, List.getElem_cons_zero, List.setIfInBounds_toArray, List.set_cons_zero, List.set_cons_succ]
                refine wpAnyH_take (i := 10) (v := (.int .i64 km)) rfl (by kernel_rfl) (by kernel_rfl) (by kernel_rfl) (fun _ _ _ h => h) (Or.inl ⟨by rfl, fun W hS => by first | rfl | (go_simp; done)⟩) hHeld ?_
                try simp only [Act.put, List.getElem_toArray, List.getElem_cons_succ, List.getElem_cons_zero, List.setIfInBounds_toArray, List.set_cons_zero, List.set_cons_succ]
                refine wpAnyH_take (i := 11) (v := (.int .i64 (nn : Int))) rfl (by kernel_rfl) (by kernel_rfl) (by kernel_rfl) (fun _ _ _ h => h) (Or.inl ⟨by rfl, fun W hS => by first | rfl | (go_simp; done)⟩) hHeld ?_
                try simp only [Act.put, List.getElem_toArray, List.getElem_cons_succ, List.getElem_cons_zero, List.setIfInBounds_toArray, List.set_cons_zero, List.set_cons_succ]
                refine wpAnyH_take (i := 12) (v := (.agg (mCellsZ 6 P 2 0 pg 0 nn 0 0 0 0 0))) rfl (by kernel_rfl) (by kernel_rfl) (by kernel_rfl) (fun _ _ _ h => h) (Or.inl ⟨by rfl, fun W hS => by first | rfl | (go_simp; done)⟩) hHeld ?_
                try simp only [Act.put, List.getElem_toArray, List.getElem_cons_succ, List.getElem_cons_zero, List.setIfInBounds_toArray, List.set_cons_zero, List.set_cons_succ]
                have hxb : Blk (World.drew wc) xb (mCellsZ 5 P 2 0 pg (lyC P pg kk) (lyN P pg kk) (1 + kk) 0 0 0 (lyA P pg kk mv)) 61 := HXB.out.only ((Only.refl (fun _ => False) wc).drew) id
                have hz1 := HBW.out; have hz4 := HBBW.out; have hz5 := HWR.out; have hz6 := HC.out.2.2; have hz7 := HSTB.out
                refine wpAnyH_ready (rs := [13]) (by kernel_rfl) (by simp) (AllReadyH.cons rfl (fun K hK => ?_) AllReadyH.nil)
                simp only [List.getElem_toArray, List.getElem_cons_succ, List.getElem_cons_zero]
                rw [if_pos (by rfl)]
                refine wp_store_row 61 _ _ rfl xb (mCellsZ 6 P 2 0 pg 0 nn 0 0 0 0 0) rfl rfl (run_storeVar_row _ _ 61 61 (mCellsZ 5 P 2 0 pg (lyC P pg kk) (lyN P pg kk) (1 + kk) 0 0 0 (lyA P pg kk mv)) (mCellsZ 6 P 2 0 pg 0 nn 0 0 0 0 0) hxb infoM rfl (by simp [Value.oneCell'])) ?_
                obtain ⟨wF, hwF⟩ : ∃ W, World.setRow (World.drew wc) xb (mCellsZ 6 P 2 0 pg 0 nn 0 0 0 0 0) = W := ⟨_, rfl⟩
                have hF : Blk wF xb (mCellsZ 6 P 2 0 pg 0 nn 0 0 0 0 0) 61 := by rw [← hwF]; exact setRow_heap _ _ (mCellsZ 5 P 2 0 pg (lyC P pg kk) (lyN P pg kk) (1 + kk) 0 0 0 (lyA P pg kk mv)) _ _ _ hxb
                have hE : Adds wr wF := by rw [← hwF]; exact adds_setRow hHeld.2.2.2 (by omega) _
                rw [hwF]
                refine hK.out _ _ ⟨?_, ?_, ?_, hE⟩ (fun hHeld => ?_)
                · rw [← hwF]; exact (cell_setRow_far (by omega)).trans hHeld.1
                · rw [← hwF]; exact (cell_setRow_far (by omega)).trans hHeld.2.1
                · rw [← hwF]; exact (cell_setRow_far (by omega)).trans hHeld.2.2.1
                clear hK
                try simp only [Act.put, List.getElem_toArray, List.getElem_cons_succ, List.getElem_cons_zero, List.setIfInBounds_toArray, List.set_cons_zero, List.set_cons_succ]
                refine wpAnyH_done (by kernel_rfl) ?_ _
                have HV0 := Lib.hid (HI.out.add hE)
                have HE9 := Lib.hid hE; have HF9 := Lib.hid hF
                clear hE hF
                go_upto_region 15 with fail
                iterate 3 go_step
                first | refine wpList_load_row rfl 61 _ rfl xb rfl 61 (mCellsZ 6 P 2 0 pg 0 nn 0 0 0 0 0) (0, 0) _ HF9.out Tryz.underlying61 rfl infoM ?_ | (go_step; refine wpList_load_row rfl 61 _ rfl xb rfl 61 (mCellsZ 6 P 2 0 pg 0 nn 0 0 0 0 0) (0, 0) _ HF9.out Tryz.underlying61 rfl infoM ?_) | (iterate 2 go_step; refine wpList_load_row rfl 61 _ rfl xb rfl 61 (mCellsZ 6 P 2 0 pg 0 nn 0 0 0 0 0) (0, 0) _ HF9.out Tryz.underlying61 rfl infoM ?_)
                go_wp2_with (go_at_call 17; refine (madeGone_any HMAY.out HPG.out.1 HNN.out.1 HNN.out.2).mono ?_; rintro e v2 hmade; obtain ⟨m, p, bq, y, rfl, q1, q2, q3, q4, q5, q6, q7, q8⟩ := hmade; have HV := Lib.hid (HI.out.add (HE9.out.thenF q5)); have o2 : v2.cell? ⟨onb, t, none⟩ = some (.pointer none) := (HV.out.cells HMt.out).1; have f2 : v2.frozen? ⟨onb, t, none⟩ = false := (HV.out.cells HMt.out).2; have HQ := Lib.hid (And.intro q1 (And.intro q2 (And.intro q3 (And.intro q4 (And.intro q6 (And.intro q7 q8)))))); clear q1 q2 q3 q4 q5 q6 q7 q8)
                obtain ⟨q1, q2, q3, q4, q6, q7, q8⟩ := HQ.out
                have hzw := HE9.out.size
                go_meet
                refine ⟨rfl, ⟨p, .gone ⟨pg, nn, 0, 0, 0⟩ 0, bq, y, .slice none 0 0, .slice none 0 0, .pointer none⟩, m, L.set t _, Ms.set t _, Lib.hid (HV.out.begin (w0 := wr) HI.out.sc.lanes HI.out.sc.adds.size q1 q2 q3 rfl (by show wr.heap.size ≤ p; omega) (by show wr.heap.size ≤ bq; omega) HT2.out), Lib.hid ⟨List.getElem?_set_self (by rw [HI.out.ll]; exact HT2.out), List.getElem?_set_self (by rw [HI.out.lm]; exact HT2.out)⟩, Lib.hid (fun j y2 e => ?_)⟩
                rcases set_cases e with ⟨rfl, e2⟩ | ⟨hj, e2⟩
                · injection e2 with e2; subst e2; exact ⟨q4, ⟨HPG.out.1, HNN.out.1, HNN.out.2, ⟨Int.le_refl _, (show (0 : Int) < 256 by decide)⟩, ⟨Int.le_refl _, (show (0 : Int) < 18446744073709551616 by decide)⟩, ⟨Int.le_refl _, (show (0 : Int) < 18446744073709551616 by decide)⟩⟩⟩
                · exact HL.out j y2 e2
              · obtain ⟨F, ha9, hc9⟩ := ly_fix P pg kk mv HPG.out.1 HPG.out.2 (by omega) HKK.out.1 (by have := HKK.out.2; omega)
                have hE := HC.out.1; have hF := HC.out.2.1
                generalize lyC P pg kk = cl at hF F ha9 hc9 HXB
                generalize lyA P pg kk mv = al at hF F ha9 HXB
                obtain ⟨n, hn⟩ : ∃ n : Nat, lyN P pg kk = (n : Int) := ⟨(lyN P pg kk).toNat, by have := F.h1; omega⟩
                rw [hn] at hF F hc9
                have HFX := Lib.hid F; have HA9 := Lib.hid ha9; have HC9 := Lib.hid hc9
                clear F ha9 hc9 HC HXB
                have HV0 := Lib.hid (HI.out.add hE)
                have HE9 := Lib.hid hE; have HF9 := Lib.hid hF
                clear hE hF
                go_upto_region 15 with fail
                iterate 3 go_step
                first | refine wpList_load_row rfl 61 _ rfl xb rfl 61 (mCellsZ 5 P 2 0 pg cl n (1 + kk) 0 0 0 al) (0, 0) _ HF9.out Tryz.underlying61 rfl infoM ?_ | (go_step; refine wpList_load_row rfl 61 _ rfl xb rfl 61 (mCellsZ 5 P 2 0 pg cl n (1 + kk) 0 0 0 al) (0, 0) _ HF9.out Tryz.underlying61 rfl infoM ?_) | (iterate 2 go_step; refine wpList_load_row rfl 61 _ rfl xb rfl 61 (mCellsZ 5 P 2 0 pg cl n (1 + kk) 0 0 0 al) (0, 0) _ HF9.out Tryz.underlying61 rfl infoM ?_)
                go_wp2_with (go_at_call 17; refine (madeLay_any (HT.out.adds (HI.out.sc.adds.thenF HE9.out)) HFX.out HA9.out HC9.out).mono ?_; rintro e v2 hmade; obtain ⟨m, p, bq, y, rfl, q1, q2, q3, q4, q5, q6, q7, q8⟩ := hmade; have HV := Lib.hid (HI.out.add (HE9.out.thenF q5)); have o2 : v2.cell? ⟨onb, t, none⟩ = some (.pointer none) := (HV.out.cells HMt.out).1; have f2 : v2.frozen? ⟨onb, t, none⟩ = false := (HV.out.cells HMt.out).2; have HQ := Lib.hid (And.intro q1 (And.intro q2 (And.intro q3 (And.intro q4 (And.intro q6 (And.intro q7 q8)))))); clear q1 q2 q3 q4 q5 q6 q7 q8)
                obtain ⟨q1, q2, q3, q4, q6, q7, q8⟩ := HQ.out
                have hzw := HE9.out.size
                go_meet
                refine ⟨rfl, ⟨p, .lay ⟨pg, n, cl, al, Ph.mk (1 + kk) 2⟩ 0, bq, y, .slice none 0 0, .slice none 0 0, .pointer none⟩, m, L.set t _, Ms.set t _, Lib.hid (HV.out.begin (w0 := wr) HI.out.sc.lanes HI.out.sc.adds.size q1 q2 q3 rfl (by show wr.heap.size ≤ p; omega) (by show wr.heap.size ≤ bq; omega) HT2.out), Lib.hid ⟨List.getElem?_set_self (by rw [HI.out.ll]; exact HT2.out), List.getElem?_set_self (by rw [HI.out.lm]; exact HT2.out)⟩, Lib.hid (fun j y2 e => ?_)⟩
                rcases set_cases e with ⟨rfl, e2⟩ | ⟨hj, e2⟩
                · injection e2 with e2; subst e2; exact ⟨q4, ⟨HFX.out.h0, by have := HFX.out.h1; exact Int.ofNat_le.1 this, HFX.out.h2, HFX.out.hc, HFX.out.ha, by have := Ph.mk2_all HFX.out.hg; exact ⟨Int.le_trans (by decide) this.2.2.1, this.2.2.2⟩⟩⟩
                · exact HL.out j y2 e2
        case rest => as_aux_lemma =>
          obtain ⟨rfl, z, m, L', Ms', HV, HLz, HR⟩ := hcut
          clear HLt HMt HONE HQA HI HL hq o1
          have o1 : wc.cell? ⟨onb, t, none⟩ = some (.pointer (some ⟨m, 0, none⟩)) := (HV.out.cells HLz.out.2).1
          have hq := fun W => rmachP_none W (some ⟨m, 0, none⟩)
          have hstep := step_any HV.out HLz.out.1 HLz.out.2 HMAY.out (HR.out _ _ HLz.out.1).1 (HR.out _ _ HLz.out.1).2 HE.out
          have HST := Lib.hid hstep
          clear hstep
          go_upto_region 18 with (go_at_call 18; refine HST.out.mono ?_; rintro e v3 ⟨rfl, z2, hz9, hx9, hd9, hR9⟩; have HZ2 := Lib.hid hz9; have HX2 := Lib.hid hx9; have HDN := Lib.hid hd9; have HV2 := Lib.hid hR9; clear hz9 hx9 hd9 hR9)
          clear HST o1 hq
          obtain ⟨x70, hx70⟩ : ∃ r, x % 70 = r := ⟨_, rfl⟩
          have t70 : Int.tmod x 70 = x70 := by rw [Int.tmod_eq_emod_of_nonneg hxb.1]; exact hx70
          have h70 : 0 ≤ x70 ∧ x70 < 70 := by omega
          have w70 : IntKind.i64.wrap x70 = x70 := by rw [IntKind.wrap_i64]; omega
          obtain ⟨pq, hpq⟩ : ∃ r, x70 - 1 = r := ⟨_, rfl⟩
          have wpq : IntKind.i64.wrap (x70 - 1) = pq := by rw [hpq, IntKind.wrap_i64]; omega
          clear hx70 h70 hpq
          have HWS := Lib.hid (act_same (z.k.ac P 2) HE.out).1
          obtain ⟨S1, hS1⟩ : ∃ q, (z.k.ac P 2).act s = q := ⟨_, rfl⟩
          obtain ⟨S2, hS2⟩ : ∃ q, (z.k.ac P 2).act s' = q := ⟨_, rfl⟩
          rw [hS1, hS2] at HV2 HWS
          clear hS1 hS2
          obtain ⟨x0, x1, x2, x3, x4, x5, x6, ok, hrd⟩ := read_both HV2.out.sc.both HMAY.out HV2.out.sc.len HV2.out.sc.len' HWS.out pq
          have HRD := Lib.hid (fun W (h : Adds v3 W) => hrd W h)
          have hne := fun W => span_neq' W x0 x1 x2 x3 x4 x5 x6
          clear hrd
          have d3 := HD0.out v3 HV2.out.sc.adds
          go_upto_region 20 with (first
              | (go_at_call 8; refine (HRD.out v3 (Only.refl _ _)).1.mono ?_; rintro e u1 ⟨rfl, hz⟩; have U1 := Lib.hid hz; have d4 := HD0.out _ (HV2.out.sc.adds.thenF (hz.alloc (.cells #[.int .i64 x0, .int .i64 x1, .int .i64 x2, .int .i64 x3, .int .i64 x4, .int .u64 x5, .int .u64 x6] 39))); clear hz)
              | (go_at_call 9; refine (HRD.out _ (U1.out.alloc (.cells #[.int .i64 x0, .int .i64 x1, .int .i64 x2, .int .i64 x3, .int .i64 x4, .int .u64 x5, .int .u64 x6] 39))).2.mono ?_; rintro e u2 ⟨rfl, hz⟩; have hb := (Blk.new u1 #[.int .i64 x0, .int .i64 x1, .int .i64 x2, .int .i64 x3, .int .i64 x4, .int .u64 x5, .int .u64 x6] 39).only hz id; obtain ⟨q0, q1, q2, q3, q4, q5, q6, -⟩ := hb.seven; have U2 := Lib.hid ((U1.out.alloc (.cells #[.int .i64 x0, .int .i64 x1, .int .i64 x2, .int .i64 x3, .int .i64 x4, .int .u64 x5, .int .u64 x6] 39)).thenF hz); have hq := hb.lt; clear hz hb))
          obtain ⟨W5, hW5⟩ : ∃ W, u2.alloc (.cells #[.int .i64 x0, .int .i64 x1, .int .i64 x2, .int .i64 x3, .int .i64 x4, .int .u64 x5, .int .u64 x6] 39) = W := ⟨_, rfl⟩
          obtain ⟨r0, r1, r2, r3, r4, r5, r6, -⟩ := (Blk.new u2 #[.int .i64 x0, .int .i64 x1, .int .i64 x2, .int .i64 x3, .int .i64 x4, .int .u64 x5, .int .u64 x6] 39).seven
          have hA5 : Adds u2 W5 := by rw [← hW5]; exact (Only.refl (fun _ => False) u2).alloc _
          have q0 := cellA q0 hA5; have q1 := cellA q1 hA5; have q2 := cellA q2 hA5; have q3 := cellA q3 hA5; have q4 := cellA q4 hA5; have q5 := cellA q5 hA5; have q6 := cellA q6 hA5
          rw [hW5] at r0 r1 r2 r3 r4 r5 r6
          try rw [hW5]
          have U3 := Lib.hid (U2.out.thenF hA5)
          clear hW5 hA5 d3 d4
          have HV3 := Lib.hid (HV2.out.add U3.out)
          have hLz2 : (L'.set t (some z2))[t]? = some (some z2) := List.getElem?_set_self (List.getElem?_eq_some_iff.1 HLz.out.1).1
          have HLZ2 := Lib.hid hLz2
          have hmz := (HV3.out.cellsM hLz2 HLz.out.2).cell 2
          have o3 : W5.cell? ⟨onb, t, none⟩ = some (.pointer (some ⟨m, 0, none⟩)) := (HV3.out.cells HLz.out.2).1
          have f3 : W5.frozen? ⟨onb, t, none⟩ = false := (HV3.out.cells HLz.out.2).2
          have m9 : W5.cell? ⟨m, 2, none⟩ = some (.pointer (some ⟨z.b, 0, none⟩)) := by rw [← HZ2.out.2.1]; exact hmz
          obtain ⟨dn, hdn⟩ : ∃ d, z.k.nx.got = d := ⟨_, rfl⟩
          have d9 : W5.cell? ⟨z.b, 15, none⟩ = some (.bool dn) := by rw [← hdn]; exact cellA HDN.out U3.out
          have HDE := Lib.hid hdn
          clear hmz hLz2 hdn
          go_upto_if 149 with fail
          have HQ2 := Lib.hid (show z2.k.q.Ok P by rw [HZ2.out.2.2, RcS.nx_q]; exact (HR.out _ _ HLz.out.1).2)
          cases dn
          · go_wp2_with fail
            go_roundw
            case rel =>
              refine ⟨k + 1, S1, S2, _, _, by omega, by omega, by go_num, Lib.hid HV3.out, HWS, Lib.hid (fun j y e => ?_)⟩
              rcases set_cases e with ⟨rfl, e2⟩ | ⟨hj, e2⟩
              · injection e2 with e2; subst e2; exact ⟨by rw [HZ2.out.2.2]; exact HX2.out HDE.out, HQ2.out⟩
              · exact HR.out j y e2
            case measure => simp [intOf]; omega
          · go_wp2_with fail
            go_roundw
            case rel =>
              refine ⟨k + 1, S1, S2, _, _, by omega, by omega, by go_num, Lib.hid (HV3.out.drop (t := t)), HWS, Lib.hid (fun j y e => ?_)⟩
              rcases set_cases e with ⟨_, e2⟩ | ⟨hj, e2⟩
              · cases e2
              · rcases set_cases e2 with ⟨rfl, _⟩ | ⟨_, e3⟩
                · exact absurd rfl hj
                · exact HR.out j y e3
            case measure => simp [intOf]; omega
      · have c4 : ¬ (k : Int) < 300 := by omega
        have c2 : (k : Int) < (len0 : Int) := by omega
        clear c1 c3 HL
        obtain ⟨LS, hLS, hsp⟩ := spans_both HI.out.sc.both HMAY.out HI.out.sc.len HI.out.sc.len' HE.out
        have HSP := Lib.hid (fun W (h : Adds wr W) => hsp W h); have HLL := Lib.hid hLS
        clear hsp hLS
        go_wp2_with (first
            | (go_at_call 11; refine (HSP.out _ (Only.refl _ _)).1.mono ?_; rintro e t1 ⟨v, rfl, hr, hz⟩; have R1 := Lib.hid hr; have T1 := Lib.hid hz; clear hr hz)
            | (go_at_call 12; refine (HSP.out _ T1.out).2.mono ?_; rintro e t2 ⟨v', rfl, hr, hz⟩; have R2 := Lib.hid hr; have R3 := Lib.hid (ownsRow_only R1.out hz (fun _ _ => id)); have T2 := Lib.hid (T1.out.thenF hz); clear hr hz)
            | (go_at_call 10; refine (sameSpans_any HLL.out R3.out R2.out).mono ?_; rintro e t3 ⟨rfl, kk, rfl⟩; have T3 := Lib.hid (T2.out.drewN kk))
            | (go_at_call 19; refine (playSame_any (HI.out.sc.both.adds T3.out) HE.out (by have := HI.out.sc.big HMAY.out; omega) (by omega) (by omega)).mono ?_; rintro e t4 ⟨rfl, hz⟩; have T4 := Lib.hid (T3.out.thenF hz); clear hz)
            | (go_at_call 13; refine (awake14_any _ (HT.out.adds (HI.out.sc.adds.thenF T4.out))).mono ?_; rintro e t5 ⟨rfl, hz⟩; have T5 := Lib.hid (T4.out.thenF hz); clear hz))
        go_ret
        exact ⟨rfl, HI.out.sc.adds.thenF T5.out⟩
    · have c2 : ¬ (k : Int) < (len0 : Int) := by omega
      clear c1 HL
      obtain ⟨LS, hLS, hsp⟩ := spans_both HI.out.sc.both HMAY.out HI.out.sc.len HI.out.sc.len' HE.out
      have HSP := Lib.hid (fun W (h : Adds wr W) => hsp W h); have HLL := Lib.hid hLS
      clear hsp hLS
      go_wp2_with (first
          | (go_at_call 11; refine (HSP.out _ (Only.refl _ _)).1.mono ?_; rintro e t1 ⟨v, rfl, hr, hz⟩; have R1 := Lib.hid hr; have T1 := Lib.hid hz; clear hr hz)
          | (go_at_call 12; refine (HSP.out _ T1.out).2.mono ?_; rintro e t2 ⟨v', rfl, hr, hz⟩; have R2 := Lib.hid hr; have R3 := Lib.hid (ownsRow_only R1.out hz (fun _ _ => id)); have T2 := Lib.hid (T1.out.thenF hz); clear hr hz)
          | (go_at_call 10; refine (sameSpans_any HLL.out R3.out R2.out).mono ?_; rintro e t3 ⟨rfl, kk, rfl⟩; have T3 := Lib.hid (T2.out.drewN kk))
          | (go_at_call 19; refine (playSame_any (HI.out.sc.both.adds T3.out) HE.out (by have := HI.out.sc.big HMAY.out; omega) (by omega) (by omega)).mono ?_; rintro e t4 ⟨rfl, hz⟩; have T4 := Lib.hid (T3.out.thenF hz); clear hz)
          | (go_at_call 13; refine (awake14_any _ (HT.out.adds (HI.out.sc.adds.thenF T4.out))).mono ?_; rintro e t5 ⟨rfl, hz⟩; have T5 := Lib.hid (T4.out.thenF hz); clear hz))
      go_ret
      exact ⟨rfl, HI.out.sc.adds.thenF T5.out⟩
theorem recordRuns_law (c0 : Int) (f0 : (Lit.int .u8 c0).wf = true) (a0 : Option Addr) (len0 cap0 : Nat) (zs0 : List Int) (a1 : Option Addr) (len1 cap1 : Nat) (zs1 : List Int) (mk : Int) (f1 : (Lit.int .u64 mk).wf = true) (w : World) (w0 : IsRow .u8 w a0 len0 cap0 zs0) (w1 : IsRow .u8 w a1 len1 cap1 zs1) (hT : Tab w) :
    Calls Tryz.prog 4 #[.int .u8 c0, .slice a0 len0 cap0, .slice a1 len1 cap1, .int .u64 mk] w fun e w' => e = .returned (.bool true) ∧ Below w.heap.size w w' :=
  (recordRuns_walk c0 (bd_u8 f0) a0 len0 cap0 zs0 a1 len1 cap1 zs1 mk w w0 w1 hT).mono (fun _ _ h => ⟨h.1, h.2.below (Nat.le_refl _) (fun _ _ h => h)⟩)
end Go.Proofs.YtbepbcjklgfmjaaGreatDoor

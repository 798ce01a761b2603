/- StackOnce: its walk. By an AI agent. -/
import Derived.Test.YthhnpcniijpfeaaGreatZK
import Derived.Test.YthhnpcniijpfeaaGreatZStackAwake
import Derived.Test.YthhnpcniijpfeaaGreatZPlay2
import Derived.Test.YthhnpcniijpfeaaGreatZD
import Derived.Deep.DeepCutAuto
import Derived.Deep.CutBlock
namespace Go.Proofs.YthhnpcniijpfeaaGreat
open Go.RowKit
set_option linter.unusedSimpArgs false
set_option linter.unusedVariables false
theorem stkOk_begun {P T v : Int} {n : Nat} (hm : Lay.may P T = true) : StkOk P T (StoreS.begun n 0 v) := by
  have hmm := Lay.may_iff.1 hm
  refine ⟨fun hd h => ?_, fun q q0 q1 => ?_⟩
  · rw [begun_other _ _ _ (by have := h.bd; omega)]
    show Tag.pg 0 < P
    have : Tag.pg 0 = -1 := by decide
    omega
  · have := nxAt_eq hm q0 q1
    rw [begun_other _ _ _ (by omega)]; omega
theorem got_live {k : SkS} (h : k.over = false) : k.got = -1 := by
  rcases k with ⟨hd, k | p⟩ | ⟨hd, pg, k | p⟩ <;> first | rfl | cases h
theorem got_push {k : SkS} (h : k.isPush = true) : k.got = -1 := by cases k <;> first | rfl | cases h
theorem pushP_neq (W : World) (q : Option Addr) : Sem.run Tryz.prog (binOp .neq 44 (.pointer q) (.pointer none)) W = .ok (.bool q.isSome) W := by cases q <;> kernel_rfl
set_option maxRecDepth 100000 in
set_option maxHeartbeats 80000000 in
theorem stackOnce_law (c0 : Int) (f0 : (Lit.int .u8 c0).wf = true) (c1 : Int) (f1 : (Lit.int .u8 c1).wf = true) (a0 : Option Addr) (len0 cap0 : Nat) (zs0 : List Int) (a1 : Option Addr) (len1 cap1 : Nat) (zs1 : List Int) (w : World) (w0 : IsRow .u8 w a0 len0 cap0 zs0) (w1 : IsRow .u8 w a1 len1 cap1 zs1) :
    Calls Tryz.prog 3 #[.int .u8 c0, .int .u8 c1, .slice a0 len0 cap0, .slice a1 len1 cap1] w fun e w' => e = .returned (.bool true) ∧ Below w.heap.size w w' := by
  have HZ := Lib.hid w0; have HW := Lib.hid w1
  have HLC := Lib.hid (rows_len w0)
  have b0 := bd_u8 f0; have b1 := bd_u8 f1
  obtain ⟨pn, hP⟩ : ∃ pn : Nat, 1 + c0 % 60 = (pn : Int) := ⟨(1 + c0 % 60).toNat, by omega⟩
  obtain ⟨n, hn⟩ : ∃ n : Nat, 1 + c1 % 6 = (n : Int) := ⟨(1 + c1 % 6).toNat, by omega⟩
  have p1 : 1 ≤ pn := by omega
  have p2 : pn ≤ 60 := by omega
  have n1 : 1 ≤ n := by omega
  have n6 : n ≤ 6 := by omega
  have hmay : Lay.may pn n = true := Lay.may_iff.2 ⟨by omega, by omega, by omega, by omega⟩
  have HMAY := Lib.hid hmay
  have HNEW := Lib.hid (newGame_any c0 c1 b0 b1 pn n hP hn w)
  have HSK0 : Hid (StkOk pn n (StoreS.begun (Lay.words pn n).toNat 0 1)) := Lib.hid (stkOk_begun hmay)
  have HWHO := Lib.hid (fun (W : World) (hA : Adds w W) (i : Nat) (hi : i < 1000000) => who_any w1 hA i n ⟨n1, by omega⟩ hi)
  obtain ⟨dr, hdr⟩ : ∃ k : Nat, (if (300 : Int) < (len0 : Int) then (300 : Int) else (len0 : Int)) = (k : Int) := ⟨min len0 300, by have := HLC.out; split <;> omega⟩
  have hdr2 : dr ≤ len0 ∧ dr ≤ 300 := by split at hdr <;> omega
  obtain ⟨d3, hd3⟩ : ∃ d3 : Nat, dr + 3000 = d3 := ⟨_, rfl⟩
  have HD3 := Lib.hid (And.intro hd3 hdr2)
  have hdl := hdr2.1
  clear w0 w1 hmay f0 f1 b0 b1 hP hn hd3 hdr2
  go_enter Tryz.func3, Tryz.ntmps3
  go_upto_region 2 with (go_at_call 5; refine HNEW.out.mono ?_; rintro e w3 ⟨ab, sb, sm, rb, rg, bb, tb, tm, ub, fb, gb, hvb, mb, onb, pub, Hv, rfl, hG, hH⟩; have HG0 := Lib.hid hG; have HH0 := Lib.hid hH; clear hG hH)
  clear HNEW
  have y1 : w3.cell? ⟨gb, 1, none⟩ = some (.pointer (some ⟨bb, 0, none⟩)) := HG0.out.gcells.2.1
  have y2 : w3.cell? ⟨bb, 2, none⟩ = some (.int .i64 pn) := HG0.out.sc.both.mem.head.cell 2
  obtain ⟨tnb, htnb⟩ : ∃ q, w3.heap.size = q := ⟨_, rfl⟩
  obtain ⟨w4, hw4⟩ : ∃ W, w3.alloc (.cells #[.int .u32 0, .int .u32 0, .int .u32 0] 39) = W := ⟨_, rfl⟩
  have HA4 : Hid (Adds w3 w4) := Lib.hid (by rw [← hw4]; exact (Only.refl (fun _ => False) w3).alloc _)
  have HT0 : Hid (Blk w4 tnb #[.int .u32 0, .int .u32 0, .int .u32 0] 39) := Lib.hid (by rw [← hw4, ← htnb]; exact Blk.new w3 _ _)
  have HI0 : Hid (OS w ab sb sm rb rg bb tb tm ub fb gb hvb mb onb pub tnb n pn dr 0 (StoreS.begun (Lay.words pn n).toNat 0 1) w4 (StoreS.begun (Lay.words pn n).toNat 0 1) (List.replicate n none) Hv (fun _ => .pointer none) (fun _ => false) (fun _ => false) (fun t => if t < n then dealt n pn t else []) (fun _ => 0) (fun _ => [])) := by
    have hq : qOf (List.replicate n (none : Option SkL)) = fun _ => none := by
      funext t; unfold qOf; rw [List.getElem?_replicate]; split
      · rename_i z e; split at e <;> simp at e
      · rfl
    have hrep : ∀ (t : Nat) (z : SkL), (List.replicate n (none : Option SkL))[t]? = some (some z) → False := fun t z e => by
      rw [List.getElem?_replicate] at e; split at e <;> simp at e
    refine Lib.hid ⟨(HG0.out.add HA4.out).more (by omega), ⟨fun t z e => (hrep t z e).elim, fun t e => rfl⟩, ?_, RestI.fresh n6 (pot_max _ n6 _) (Nat.zero_le _), fun j hj => Nat.le_refl 0, fun t ht => ?_, fun t => ?_, HT0.out, by have := HG0.out.sc.adds.size; omega⟩
    · rw [hq]
      exact SO.first HMAY.out n1 HSK0.out (begun_len _ _ _) (fun i hi => begun_other _ _ _ (by omega)) (fun t ht => if_pos ht) (fun t ht => if_neg (by omega))
    · show w4.ownsRow 0 3 1 (Hv t) (if t < n then dealt n pn t else []).length ((if t < n then dealt n pn t else []).map (Value.int .i64))
      rw [if_pos ht]
      exact row_zero (row_adds (HH0.out t ht) HA4.out)
    · show (if t < n then dealt n pn t else []).length ≤ 60 + 0
      split
      · have := dealt_len n t pn; omega
      · simp
  clear HT0 HA4 HG0 HH0 HSK0
  go_upto_block 0 with fail
  try rw [hw4]
  try rw [htnb]
  clear y1 y2 hw4 htnb hdr
  obtain ⟨S0, hS0⟩ : ∃ S0, StoreS.begun (Lay.words pn n).toNat 0 1 = S0 := ⟨_, rfl⟩
  rw [hS0] at HI0
  clear hS0
  go_cut [13] (fun y wd => y = y ∧ ∃ (k : Nat) (s : StoreS) (L : List (Option SkL)) (Hv Mc : Nat → Value) (On Pu : Nat → Bool) (Hl : Nat → List Int) (tn : Nat → Nat) (C : Nat → List Int), Hid (OS w ab sb sm rb rg bb tb tm ub fb gb hvb mb onb pub tnb n pn dr k S0 wd s L Hv Mc On Pu Hl tn C ∧ k ≤ d3 ∧ ∀ t, t < n → qOf L t = none))
  case first =>
    go_upto_region 8 with fail
    go_loopw [13] (fun i wr => ∃ (k : Nat) (s : StoreS) (L : List (Option SkL)) (Hv Mc : Nat → Value) (On Pu : Nat → Bool) (Hl : Nat → List Int) (tn : Nat → Nat) (C : Nat → List Int), k ≤ d3 ∧ i = .int .i64 k ∧ Hid (OS w ab sb sm rb rg bb tb tm ub fb gb hvb mb onb pub tnb n pn dr k S0 wr s L Hv Mc On Pu Hl tn C)) (fun i _ => d3 - (intOf i).toNat)
    case atStart => exact ⟨0, _, _, _, _, _, _, _, _, _, Nat.zero_le _, rfl, HI0⟩
    case round =>
      obtain ⟨k, s, L, Hv, Mc, On, Pu, Hl, tn, C, hk, rfl, HI⟩ := hrel
      clear HI0
      have hw3 : IntKind.i64.wrap ((dr : Int) + 3000) = (d3 : Int) := by have := HD3.out; rw [IntKind.wrap_i64]; omega
      have HKB : Hid (k < 5000) := Lib.hid (by have := HD3.out; omega)
      have HKD := Lib.hid hk
      by_cases c1 : k < d3
      · have hwk : IntKind.i64.wrap ((k : Int) + 1) = (k : Int) + 1 := by have := HKB.out; rw [IntKind.wrap_i64]; omega
        have hn0 : ¬ (n : Int) = 0 := by omega
        have hn00 : ¬ n = 0 := by omega
        have g1 : (k : Int) < (d3 : Int) := by omega
        obtain ⟨t0, ht0⟩ : ∃ t0, k % n = t0 := ⟨_, rfl⟩
        have tq : Int.tmod (k : Int) (n : Int) = (t0 : Int) := by rw [← ht0, Int.tmod_eq_emod_of_nonneg (by omega)]; omega
        have tq2 : (k : Int) % (n : Int) = (t0 : Int) := by rw [← ht0]; omega
        have htn : t0 < n := by rw [← ht0]; exact Nat.mod_lt _ n1
        have tw : IntKind.i64.wrap (t0 : Int) = (t0 : Int) := by have := HKB.out; rw [IntKind.wrap_i64]; omega
        have y3 := HI.out.g.gcells.2.2.2.1
        go_upto_region 10 with fail
        clear hw3 hk
        go_upto_if 57 with fail
        go_cut [14] (fun y wd => wd = wr ∧ ∃ t : Nat, t < n ∧ y = .int .i64 (t : Int) ∧ (dr ≤ k → t = k % n))
        case first => as_aux_lemma =>
          by_cases c2 : k < dr
          · have gg : (k : Int) < (dr : Int) := by omega
            go_wp2_with (go_at_call 6; refine (HWHO.out _ HI.out.g.sc.adds k (by have := HKB.out; omega)).mono ?_; rintro e v1 ⟨t, rfl, htt, rfl⟩)
            go_meet
            exact ⟨rfl, t, htt, rfl, fun h => by omega⟩
          · have gg : ¬ (k : Int) < (dr : Int) := by omega
            go_wp2_with fail
            go_meet
            exact ⟨rfl, t0, htn, rfl, fun _ => ht0.symm⟩
        case rest =>
          obtain ⟨hww, t, ht, rfl, htk⟩ := hcut
          replace hww := hww.symm
          subst hww
          clear tq tq2 tw htn ht0 y3
          have HTK := Lib.hid htk; have HT := Lib.hid ht
          have g3 : (0 : Int) ≤ (t : Int) := by omega
          have g4 : (t : Int) < n := by omega
          clear htk
          obtain ⟨⟨-, o1, -⟩, -⟩ := HI.out.g.cells ht
          have y4 := HI.out.g.gcells.2.2.2.2.1
          obtain ⟨on, hon⟩ : ∃ b, On t = b := ⟨_, rfl⟩
          rw [hon] at o1
          have HON := Lib.hid hon
          clear hon ht
          have hcc : (dr ≤ k ∧ on = false) ∨ ¬ (dr ≤ k ∧ on = false) := Decidable.em _
          rcases hcc with ⟨c2, rfl⟩ | c2
          · as_aux_lemma =>
            have gg : (dr : Int) ≤ (k : Int) := by omega
            go_wp2_with (go_at_call 7; refine (rest_any HI.out.g.gcells.2.2.2.2.1 HI.out.g.on (by omega)).mono ?_; rintro e v1 ⟨rfl, b, rfl, hb⟩; have HB := Lib.hid hb; clear hb; cases b)
            · go_roundw
              case rel => exact ⟨k + 1, s, L, Hv, Mc, On, Pu, Hl, tn, C, by omega, by go_num, Lib.hid ⟨HI.out.g.more (by omega), HI.out.l, HI.out.o, HI.out.r.skip c2 (HTK.out c2) ((HI.out.l.off HI.out.g.ll HT.out).1 HON.out), fun j hj => Nat.le_succ_of_le (HI.out.tnk j hj), HI.out.h, fun t' => Nat.le_succ_of_le (HI.out.hl t'), HI.out.tb, HI.out.low⟩⟩
              case measure => simp [intOf]; omega
            · go_meet
              exact ⟨by trivial, k, s, L, Hv, Mc, On, Pu, Hl, tn, C, Lib.hid ⟨HI.out, HKD.out, fun t' ht' => (HI.out.l.off HI.out.g.ll ht').1 (HB.out.1 (by first | rfl | trivial) t' ht')⟩⟩
          · have hq78 : (k < dr ∧ dr ≤ len0) ∨ (dr ≤ k ∧ on = true) := by
              by_cases c3 : k < dr
              · exact .inl ⟨c3, hdl⟩
              · exact .inr ⟨by omega, by cases on <;> first | rfl | exact absurd ⟨by omega, rfl⟩ c2⟩
            go_upto_region 13 with fail
            go_cut [78] (fun y wd => wd = wr ∧ y = .bool false)
            case first => as_aux_lemma =>
              rcases hq78 with ⟨c3, -⟩ | ⟨c3, rfl⟩
              · have gg : ¬ (dr : Int) ≤ (k : Int) := by omega
                go_wp2_with fail
                go_meet
                exact ⟨rfl, rfl⟩
              · have gg : (dr : Int) ≤ (k : Int) := by omega
                go_wp2_with fail
                go_meet
                exact ⟨rfl, rfl⟩
            case rest =>
              obtain ⟨hww, rfl⟩ := hcut
              replace hww := hww.symm
              subst hww
              go_upto_if 84 with fail
              go_cut [15] (fun y wd => wd = wr ∧ ∃ x : Int, (0 ≤ x ∧ x < 256) ∧ y = .int .i64 x)
              case first => as_aux_lemma =>
                by_cases c4 : k < len0
                · obtain ⟨b, off, rfl, hb, hc, hcw⟩ := rows_at HZ.out c4
                  obtain ⟨x, hx⟩ : ∃ x, x = zs0.getD k 0 := ⟨_, rfl⟩
                  rw [← hx] at hc hcw
                  have hxb := bd_u8 hcw
                  have d0 : wr.cell? ⟨b, off + k, none⟩ = some (.int .u8 x) := (HI.out.g.sc.adds.cellF (p := ⟨b, off + k, none⟩) hb id).trans hc
                  have ex : IntKind.i64.wrap x = x := by rw [IntKind.wrap_i64]; omega
                  have gg : (k : Int) < (len0 : Int) := by omega
                  have gg0 : (0 : Int) ≤ (k : Int) := by omega
                  clear hx hc hcw hb
                  go_wp2_with fail
                  go_meet
                  exact ⟨rfl, x, hxb, rfl⟩
                · have gg : ¬ (k : Int) < (len0 : Int) := by omega
                  go_wp2_with fail
                  go_meet
                  exact ⟨rfl, 0, by omega, rfl⟩
              case rest =>
                obtain ⟨hww, x, hx, rfl⟩ := hcut
                replace hww := hww.symm
                subst hww
                have HX := Lib.hid hx
                have HQ78 := Lib.hid hq78
                clear hx hq78 c2
                go_upto_region 18 with fail
                go_cut [104] (fun y wd => y = .bool false ∧ ∃ (z : SkL) (L' : List (Option SkL)) (Hv' Mc' : Nat → Value) (On' Pu' : Nat → Bool) (Hl' : Nat → List Int), Hid (OS w ab sb sm rb rg bb tb tm ub fb gb hvb mb onb pub tnb n pn dr k S0 wd s L' Hv' Mc' On' Pu' Hl' tn C) ∧ Hid (L'[t]? = some (some z)))
                case first => as_aux_lemma =>
                  cases on
                  · have c3 : k < dr := by
                      rcases HQ78.out with h | h
                      · exact h.1
                      · cases h.2
                    go_wp2_with fail
                    refine (begin_any HI.out.g HI.out.l HT.out HMAY.out HX.out (by omega) (by have := HKB.out; omega)).mono ?_
                    rintro e v1 ⟨⟨rfl, hdd⟩, z, Hv', Mc', On', Pu', q1, q2, -, q4, q5⟩
                    go_wp2_with fail
                    go_meet
                    obtain ⟨Hl', h⟩ := HI.out.begun HT.out n6 c3 HON.out hdd q1 q2 q4 q5
                    exact ⟨rfl, z, _, Hv', Mc', On', Pu', Hl', Lib.hid h, Lib.hid (List.getElem?_set_self (by rw [HI.out.g.ll]; exact HT.out))⟩
                  · obtain ⟨z, hz⟩ : ∃ z, L[t]? = some (some z) := by
                      obtain ⟨oz, hoz⟩ : ∃ oz, L[t]? = some oz := ⟨_, List.getElem?_eq_getElem (by rw [HI.out.g.ll]; exact HT.out)⟩
                      cases oz with
                      | none => have := HI.out.l.idle t hoz; rw [HON.out] at this; cases this
                      | some z => exact ⟨z, hoz⟩
                    have HZ9 := Lib.hid hz
                    clear hz
                    go_wp2_with fail
                    go_meet
                    exact ⟨rfl, z, L, Hv, Mc, On, Pu, Hl, HI, HZ9⟩
                case rest =>
                  obtain ⟨rfl, z, L', Hv', Mc', On', Pu', Hl', HO, HZ9⟩ := hcut
                  clear HI HON HX HQ78 o1 y4
                  obtain ⟨⟨p0, o1, p2⟩, m0, m1, m2⟩ := HO.out.g.cells HT.out
                  obtain ⟨l1, l2, l3, l4, l5⟩ := HO.out.l.live t z HZ9.out
                  rw [l3] at m0; rw [l4] at m1; rw [l5] at m2
                  obtain ⟨g0, -, g2, g3, g4, -⟩ := HO.out.g.gcells
                  have HL3 := Lib.hid (And.intro l3 (And.intro l4 l5))
                  obtain ⟨ip, hip⟩ : ∃ b, z.k.isPush = b := ⟨_, rfl⟩
                  rw [hip] at m0 m1
                  have HIP := Lib.hid hip
                  obtain ⟨mA, hmA⟩ : ∃ q : Option Addr, ptrV (if ip = true then none else some z.a) = .pointer q := ⟨_, rfl⟩
                  obtain ⟨mB, hmB⟩ : ∃ q : Option Addr, ptrV (if ip = true then some z.a else none) = .pointer q := ⟨_, rfl⟩
                  have hneq := fun W => pushP_neq W mB
                  rw [hmA] at m0; rw [hmB] at m1
                  have HMM := Lib.hid (And.intro hmA hmB)
                  clear hip hmA hmB l1 l2 l3 l4 l5 p2
                  go_upto_if 115 with fail
                  obtain ⟨wq, hwq⟩ : ∃ W, W = wc := ⟨_, rfl⟩
                  subst hwq
                  obtain ⟨W1, hW1⟩ : ∃ W, ((wq.alloc (.cells #[.pointer mA, .pointer mB, .pointer (some ⟨z.b, 0, none⟩)] 47)).alloc (.cells #[.int .i64 0, .int .i64 0, .int .u64 0, .int .u64 0] 50)) = W := ⟨_, rfl⟩
                  obtain ⟨m8, hm8⟩ : ∃ q, wq.heap.size = q := ⟨_, rfl⟩
                  obtain ⟨d8, hd8⟩ : ∃ q, m8 + 1 = q := ⟨_, rfl⟩
                  have HAW : Hid (Adds wq W1) := Lib.hid (by rw [← hW1]; exact ((Only.refl (fun _ => False) wq).alloc _).alloc _)
                  have HM8 : Hid (Blk W1 m8 #[.pointer mA, .pointer mB, .pointer (some ⟨z.b, 0, none⟩)] 47) := Lib.hid (by rw [← hW1, ← hm8]; exact (Blk.new wq _ _).alloc _)
                  have HD8 : Hid (Blk W1 d8 #[.int .i64 0, .int .i64 0, .int .u64 0, .int .u64 0] 50) := Lib.hid (by rw [← hW1, ← hd8, ← hm8]; exact blk_new1 _ _ _ _)
                  have HDL := Lib.hid (show w.heap.size ≤ d8 ∧ m8 ≠ d8 ∧ wq.heap.size ≤ d8 by have := HO.out.g.sc.adds.size; omega)
                  try rw [hW1]
                  try rw [hm8]
                  try rw [hd8]
                  have HO1 := Lib.hid (HO.out.add HAW.out)
                  obtain ⟨nk, hnk⟩ : ∃ q, z.k.nx pn n (s.word (z.k.ac pn n).pos) = q := ⟨_, rfl⟩
                  obtain ⟨S1, hS1⟩ : ∃ q, (z.k.ac pn n).act s = q := ⟨_, rfl⟩
                  obtain ⟨ka, hka⟩ : ∃ v, S1.k = v := ⟨_, rfl⟩
                  obtain ⟨kp, hkp⟩ : ∃ v, S1.pos = v := ⟨_, rfl⟩
                  obtain ⟨ko, hko⟩ : ∃ v, S1.old = v := ⟨_, rfl⟩
                  obtain ⟨kw, hkw⟩ : ∃ v, S1.new = v := ⟨_, rfl⟩
                  have HLN := Lib.hid (HO.out.o.lane t z.k (qOf_some HZ9.out))
                  have HNP : Hid (nk.isPush = ip) := Lib.hid (by rw [← hnk, SkS.nx_isPush]; exact HIP.out)
                  have HPUSH : Hid (∀ W, GH w ab sb sm rb rg bb tb tm ub fb gb hvb mb onb pub n pn n (60 + k) W s S0 L' Hv' Mc' On' Pu' → ip = true → Calls Tryz.prog 9 #[.pointer (some ⟨z.a, 0, none⟩), .pointer (some ⟨ab, 0, none⟩)] W fun e w' => e = .returned (.agg #[.int .i64 ka, .int .i64 kp, .int .u64 ko, .int .u64 kw]) ∧ Hid (GH w ab sb sm rb rg bb tb tm ub fb gb hvb mb onb pub n pn n (60 + k) w' S1 S0 (L'.set t (some { z with k := nk })) Hv' Mc' On' Pu') ∧ Hid (∀ r c u, Blk W r c u → RowOk skTy u → Blk w' r c u)) := Lib.hid (fun W hW hi => by
                    have := onePush hW HZ9.out HMAY.out HLN.out.2.2.1 (HIP.out.trans hi)
                    rw [hnk, hS1] at this
                    rw [← hka, ← hkp, ← hko, ← hkw]
                    exact this)
                  have HPOP : Hid (∀ W, GH w ab sb sm rb rg bb tb tm ub fb gb hvb mb onb pub n pn n (60 + k) W s S0 L' Hv' Mc' On' Pu' → ip = false → Calls Tryz.prog 11 #[.pointer (some ⟨z.a, 0, none⟩), .pointer (some ⟨ab, 0, none⟩)] W fun e w' => e = .returned (.agg #[.int .i64 ka, .int .i64 kp, .int .u64 ko, .int .u64 kw]) ∧ Hid (GH w ab sb sm rb rg bb tb tm ub fb gb hvb mb onb pub n pn n (60 + k) w' S1 S0 (L'.set t (some { z with k := nk })) Hv' Mc' On' Pu') ∧ Hid (∀ r c u, Blk W r c u → RowOk skTy u → Blk w' r c u)) := Lib.hid (fun W hW hi => by
                    have := onePop hW HZ9.out HMAY.out HLN.out.2.2.1 (HIP.out.trans hi) HLN.out.2.1 HO.out.o.stk
                    rw [hnk, hS1] at this
                    rw [← hka, ← hkp, ← hko, ← hkw]
                    exact this)
                  have HDID := Lib.hid (And.intro hka hkp)
                  have HNK := Lib.hid (And.intro hnk hS1)
                  clear hnk hS1 hka hkp hko hkw hW1 hm8 hd8 m0 m1 m2 g0 g2 g3 g4 p0 o1 hneq
                  go_cut [18, 19] (fun y yy wd => y = .bool nk.over ∧ yy = .int .i64 nk.got ∧ Hid (GH w ab sb sm rb rg bb tb tm ub fb gb hvb mb onb pub n pn n (60 + k) wd S1 S0 (L'.set t (some { z with k := nk })) Hv' Mc' On' Pu') ∧ Hid (Blk wd d8 #[.int .i64 ka, .int .i64 kp, .int .u64 ko, .int .u64 kw] 50) ∧ Hid (∀ r c u, Blk wq r c u → RowOk skTy u → Blk wd r c u))
                  case first => as_aux_lemma =>
                    cases ip
                    · have hm9 : mA = some ⟨z.a, 0, none⟩ ∧ mB = none := by have h1 := HMM.out.1; have h2 := HMM.out.2; exact ⟨by simpa [ptrV] using h1.symm, by simpa [ptrV] using h2.symm⟩
                      obtain ⟨rfl, rfl⟩ := hm9
                      have x0 := HM8.out.cell 0
                      go_upto_region 25 with fail
                      refine wp_region_held_drew (S := (fun V => V.cell? ⟨m8, 0, none⟩ = some (.pointer (some ⟨z.a, 0, none⟩)) ∧ V.cell? ⟨gb, 0, none⟩ = some (.pointer (some ⟨ab, 0, none⟩)))) (by kernel_rfl) ⟨x0, HO1.out.g.gcells.1⟩ (fun hHeld => ?_)
                      have HGX := Lib.hid (HO1.out.g.add ((Only.refl (fun _ => False) W1).drew))
                      have HBX := Lib.hid (HM8.out.only ((Only.refl (fun _ => False) W1).drew) id)
                      refine wpAnyH_take (i := 0) (v := (.pointer (some ⟨m8, 0, none⟩))) rfl (by kernel_rfl) (by kernel_rfl) (by kernel_rfl) (fun _ _ _ h => h) (Or.inl ⟨by rfl, fun W hS => by first | rfl | (go_simp; done)⟩) hHeld ?_
                      try simp only [Act.put, List.getElem_toArray, List.getElem_cons_succ, List.getElem_cons_zero, List.setIfInBounds_toArray, List.set_cons_zero, List.set_cons_succ]
                      refine wpAnyH_take (i := 1) (v := (.pointer (some ⟨z.a, 0, none⟩))) rfl (by kernel_rfl) (by kernel_rfl) (by kernel_rfl) (fun _ _ _ h => h) (Or.inl ⟨by rfl, fun W hS => by (obtain ⟨q1, q2⟩ := hS; go_simp; done)⟩) hHeld ?_
                      try simp only [Act.put, List.getElem_toArray, List.getElem_cons_succ, List.getElem_cons_zero, List.setIfInBounds_toArray, List.set_cons_zero, List.set_cons_succ]
                      refine wpAnyH_take (i := 2) (v := (.pointer (some ⟨gb, 0, none⟩))) rfl (by kernel_rfl) (by kernel_rfl) (by kernel_rfl) (fun _ _ _ h => h) (Or.inl ⟨by rfl, fun W hS => by first | rfl | (go_simp; done)⟩) hHeld ?_
                      try simp only [Act.put, List.getElem_toArray, List.getElem_cons_succ, List.getElem_cons_zero, List.setIfInBounds_toArray, List.set_cons_zero, List.set_cons_succ]
                      refine wpAnyH_take (i := 3) (v := (.pointer (some ⟨gb, 0, none⟩))) rfl (by kernel_rfl) (by kernel_rfl) (by kernel_rfl) (fun _ _ _ h => h) (Or.inl ⟨by rfl, fun W hS => by first | rfl | (go_simp; done)⟩) hHeld ?_
                      try simp only [Act.put, List.getElem_toArray, List.getElem_cons_succ, List.getElem_cons_zero, List.setIfInBounds_toArray, List.set_cons_zero, List.set_cons_succ]
                      refine wpAnyH_take (i := 4) (v := (.pointer (some ⟨gb, 0, none⟩))) rfl (by kernel_rfl) (by kernel_rfl) (by kernel_rfl) (fun _ _ _ h => h) (Or.inl ⟨by rfl, fun W hS => by first | rfl | (go_simp; done)⟩) hHeld ?_
                      try simp only [Act.put, List.getElem_toArray, List.getElem_cons_succ, List.getElem_cons_zero, List.setIfInBounds_toArray, List.set_cons_zero, List.set_cons_succ]
                      refine wpAnyH_take (i := 5) (v := (.pointer (some ⟨ab, 0, none⟩))) rfl (by kernel_rfl) (by kernel_rfl) (by kernel_rfl) (fun _ _ _ h => h) (Or.inl ⟨by rfl, fun W hS => by (obtain ⟨q1, q2⟩ := hS; go_simp; done)⟩) hHeld ?_
                      try simp only [Act.put, List.getElem_toArray, List.getElem_cons_succ, List.getElem_cons_zero, List.setIfInBounds_toArray, List.set_cons_zero, List.set_cons_succ]
                      refine wpAnyH_ready (rs := [6]) (by kernel_rfl) (by simp) (AllReadyH.cons rfl (fun K hK => ?_) AllReadyH.nil)
                      simp only [List.getElem_toArray, List.getElem_cons_succ, List.getElem_cons_zero]
                      go_simp
                      refine (HPOP.out _ HGX.out rfl).mono ?_
                      rintro e V1 ⟨rfl, HG1, HK1⟩
                      have HB1 := Lib.hid (HK1.out _ _ _ HBX.out (by unfold RowOk; decide))
                      have HK9 : Hid (∀ r c u, Blk W1 r c u → RowOk skTy u → Blk V1 r c u) := Lib.hid (fun r c u hb hu => HK1.out r c u (hb.only ((Only.refl (fun _ => False) W1).drew) id) hu)
                      have HD9 := Lib.hid (HK9.out _ _ _ HD8.out (by unfold RowOk; decide))
                      refine hK.out _ _ ⟨HB1.out.cell 0, HG1.out.gcells.1⟩ (fun hHeld => ?_)
                      clear hK HGX HBX HK1
                      try simp only [Act.put, List.getElem_toArray, List.getElem_cons_succ, List.getElem_cons_zero, List.setIfInBounds_toArray, List.set_cons_zero, List.set_cons_succ]
                      have e0 := HD9.out.cell 0; have e1 := HD9.out.cell 1; have e2 := HD9.out.cell 2; have e3 := HD9.out.cell 3; have f0 := HD9.out.frozen 0; have f1 := HD9.out.frozen 1; have f2 := HD9.out.frozen 2; have f3 := HD9.out.frozen 3
                      refine wpAnyH_ready (rs := [7]) (by kernel_rfl) (by simp) (AllReadyH.cons rfl (fun K hK => ?_) AllReadyH.nil)
                      simp only [List.getElem_toArray, List.getElem_cons_succ, List.getElem_cons_zero]
                      try rw [if_pos (by rfl)]
                      go_simp
                      obtain ⟨W9, hW9⟩ : ∃ W, ((((V1.setCell ⟨d8, 0, none⟩ (.int .i64 ka)).setCell ⟨d8, 1, none⟩ (.int .i64 kp)).setCell ⟨d8, 2, none⟩ (.int .u64 ko)).setCell ⟨d8, 3, none⟩ (.int .u64 kw)) = W := ⟨_, rfl⟩
                      have ho9 : Only (· = d8) V1 W9 := by rw [← hW9]; exact did4 _ _ _ _ _ _
                      have hb9 : Blk W9 d8 #[.int .i64 ka, .int .i64 kp, .int .u64 ko, .int .u64 kw] 50 := by rw [← hW9]; exact did4b HD9.out _ _ _ _
                      have HG9 := Lib.hid (HG1.out.did HD9.out HDL.out.1 ho9)
                      have HB9 := Lib.hid (HB1.out.only ho9 (fun e => HDL.out.2.1 e))
                      have HKF : Hid (∀ r c u, Blk wq r c u → RowOk skTy u → Blk W9 r c u) := Lib.hid (fun r c u hb hu => (HK9.out r c u (hb.only HAW.out id) hu).only ho9 (fun e => by have := hb.lt; have := HDL.out.2.2; omega))
                      have HDF := Lib.hid hb9
                      rw [hW9]
                      refine hK.out _ _ ⟨HB9.out.cell 0, HG9.out.gcells.1⟩ (fun hHeld => ?_)
                      clear hK hW9 ho9 hb9 e0 e1 e2 e3 f0 f1 f2 f3
                      try simp only [Act.put, List.getElem_toArray, List.getElem_cons_succ, List.getElem_cons_zero, List.setIfInBounds_toArray, List.set_cons_zero, List.set_cons_succ]
                      refine wpAnyH_done (by kernel_rfl) ?_ _
                      have x09 := HB9.out.cell 0
                      have HLA := Lib.hid (HG9.out.sc.lanes.A t _ (List.getElem?_set_self (by rw [HO.out.g.ll]; exact HT.out)))
                      go_upto_region 26 with fail
                      refine wp_region_held_drew (S := (fun V => V.cell? ⟨m8, 0, none⟩ = some (.pointer (some ⟨z.a, 0, none⟩)))) (by kernel_rfl) x09 (fun hHeld => ?_)
                      have HLB := Lib.hid (HG9.out.add ((Only.refl (fun _ => False) W9).drew))
                      have HLD := Lib.hid (HLB.out.sc.lanes.A t _ (List.getElem?_set_self (by rw [HO.out.g.ll]; exact HT.out)))
                      have HDF2 := Lib.hid (HDF.out.only ((Only.refl (fun _ => False) W9).drew) id)
                      have HKF2 : Hid (∀ r c u, Blk wq r c u → RowOk skTy u → Blk W9.drew r c u) := Lib.hid (fun r c u hb hu => (HKF.out r c u hb hu).only ((Only.refl (fun _ => False) W9).drew) id)
                      refine wpAnyH_take (i := 0) (v := (.pointer (some ⟨m8, 0, none⟩))) rfl (by kernel_rfl) (by kernel_rfl) (by kernel_rfl) (fun _ _ _ h => h) (Or.inl ⟨by rfl, fun W hS => by first | rfl | (go_simp; done)⟩) hHeld ?_
                      try simp only [Act.put, List.getElem_toArray, List.getElem_cons_succ, List.getElem_cons_zero, List.setIfInBounds_toArray, List.set_cons_zero, List.set_cons_succ]
                      refine wpAnyH_take (i := 1) (v := (.pointer (some ⟨z.a, 0, none⟩))) rfl (by kernel_rfl) (by kernel_rfl) (by kernel_rfl) (fun _ _ _ h => h) (Or.inl ⟨by rfl, fun W hS => by (obtain q1 := hS; go_simp; done)⟩) hHeld ?_
                      try simp only [Act.put, List.getElem_toArray, List.getElem_cons_succ, List.getElem_cons_zero, List.setIfInBounds_toArray, List.set_cons_zero, List.set_cons_succ]
                      refine wpAnyH_take (i := 3) (v := (.pointer (some ⟨m8, 0, none⟩))) rfl (by kernel_rfl) (by kernel_rfl) (by kernel_rfl) (fun _ _ _ h => h) (Or.inl ⟨by rfl, fun W hS => by first | rfl | (go_simp; done)⟩) hHeld ?_
                      try simp only [Act.put, List.getElem_toArray, List.getElem_cons_succ, List.getElem_cons_zero, List.setIfInBounds_toArray, List.set_cons_zero, List.set_cons_succ]
                      refine wpAnyH_take (i := 4) (v := (.pointer (some ⟨z.a, 0, none⟩))) rfl (by kernel_rfl) (by kernel_rfl) (by kernel_rfl) (fun _ _ _ h => h) (Or.inl ⟨by rfl, fun W hS => by (obtain q1 := hS; go_simp; done)⟩) hHeld ?_
                      try simp only [Act.put, List.getElem_toArray, List.getElem_cons_succ, List.getElem_cons_zero, List.setIfInBounds_toArray, List.set_cons_zero, List.set_cons_succ]
                      refine wpAnyH_ready (rs := [2]) (by kernel_rfl) (by simp) (AllReadyH.cons rfl (fun K hK => ?_) AllReadyH.nil)
                      simp only [List.getElem_toArray, List.getElem_cons_succ, List.getElem_cons_zero]
                      go_simp
                      refine (oneDonePop HLD.out HNP.out).mono ?_
                      rintro e v1 ⟨rfl, rfl⟩
                      refine hK.out _ _ hHeld (fun hHeld => ?_)
                      clear hK K
                      try simp only [Act.put, List.getElem_toArray, List.getElem_cons_succ, List.getElem_cons_zero, List.setIfInBounds_toArray, List.set_cons_zero, List.set_cons_succ]
                      refine wpAnyH_ready (rs := [5]) (by kernel_rfl) (by simp) (AllReadyH.cons rfl (fun K hK => ?_) AllReadyH.nil)
                      simp only [List.getElem_toArray, List.getElem_cons_succ, List.getElem_cons_zero]
                      go_simp
                      refine (onePagePop HLD.out HNP.out).mono ?_
                      rintro e v1 ⟨rfl, rfl⟩
                      refine hK.out _ _ hHeld (fun hHeld => ?_)
                      clear hK K
                      try simp only [Act.put, List.getElem_toArray, List.getElem_cons_succ, List.getElem_cons_zero, List.setIfInBounds_toArray, List.set_cons_zero, List.set_cons_succ]
                      refine wpAnyH_take (i := 6) (v := (.bool nk.over)) rfl (by kernel_rfl) (by kernel_rfl) (by kernel_rfl) (fun _ _ _ h => h) (Or.inl ⟨by rfl, fun W hS => by first | rfl | (go_simp; done)⟩) hHeld ?_
                      try simp only [Act.put, List.getElem_toArray, List.getElem_cons_succ, List.getElem_cons_zero, List.setIfInBounds_toArray, List.set_cons_zero, List.set_cons_succ]
                      refine wpAnyH_take (i := 7) (v := (.int .i64 nk.got)) rfl (by kernel_rfl) (by kernel_rfl) (by kernel_rfl) (fun _ _ _ h => h) (Or.inl ⟨by rfl, fun W hS => by first | rfl | (go_simp; done)⟩) hHeld ?_
                      try simp only [Act.put, List.getElem_toArray, List.getElem_cons_succ, List.getElem_cons_zero, List.setIfInBounds_toArray, List.set_cons_zero, List.set_cons_succ]
                      refine wpAnyH_done (by kernel_rfl) ?_ _
                      go_wp2_with fail
                      go_meet
                      exact ⟨rfl, rfl, HLB, HDF2, HKF2⟩
                    · have hm9 : mA = none ∧ mB = some ⟨z.a, 0, none⟩ := by have h1 := HMM.out.1; have h2 := HMM.out.2; exact ⟨by simpa [ptrV] using h1.symm, by simpa [ptrV] using h2.symm⟩
                      obtain ⟨rfl, rfl⟩ := hm9
                      have x1 := HM8.out.cell 1
                      go_upto_region 23 with fail
                      refine wp_region_held_drew (S := (fun V => V.cell? ⟨m8, 1, none⟩ = some (.pointer (some ⟨z.a, 0, none⟩)) ∧ V.cell? ⟨gb, 0, none⟩ = some (.pointer (some ⟨ab, 0, none⟩)))) (by kernel_rfl) ⟨x1, HO1.out.g.gcells.1⟩ (fun hHeld => ?_)
                      have HGX := Lib.hid (HO1.out.g.add ((Only.refl (fun _ => False) W1).drew))
                      have HBX := Lib.hid (HM8.out.only ((Only.refl (fun _ => False) W1).drew) id)
                      refine wpAnyH_take (i := 0) (v := (.pointer (some ⟨m8, 1, none⟩))) rfl (by kernel_rfl) (by kernel_rfl) (by kernel_rfl) (fun _ _ _ h => h) (Or.inl ⟨by rfl, fun W hS => by first | rfl | (go_simp; done)⟩) hHeld ?_
                      try simp only [Act.put, List.getElem_toArray, List.getElem_cons_succ, List.getElem_cons_zero, List.setIfInBounds_toArray, List.set_cons_zero, List.set_cons_succ]
                      refine wpAnyH_take (i := 1) (v := (.pointer (some ⟨z.a, 0, none⟩))) rfl (by kernel_rfl) (by kernel_rfl) (by kernel_rfl) (fun _ _ _ h => h) (Or.inl ⟨by rfl, fun W hS => by (obtain ⟨q1, q2⟩ := hS; go_simp; done)⟩) hHeld ?_
                      try simp only [Act.put, List.getElem_toArray, List.getElem_cons_succ, List.getElem_cons_zero, List.setIfInBounds_toArray, List.set_cons_zero, List.set_cons_succ]
                      refine wpAnyH_take (i := 2) (v := (.pointer (some ⟨gb, 0, none⟩))) rfl (by kernel_rfl) (by kernel_rfl) (by kernel_rfl) (fun _ _ _ h => h) (Or.inl ⟨by rfl, fun W hS => by first | rfl | (go_simp; done)⟩) hHeld ?_
                      try simp only [Act.put, List.getElem_toArray, List.getElem_cons_succ, List.getElem_cons_zero, List.setIfInBounds_toArray, List.set_cons_zero, List.set_cons_succ]
                      refine wpAnyH_take (i := 3) (v := (.pointer (some ⟨gb, 0, none⟩))) rfl (by kernel_rfl) (by kernel_rfl) (by kernel_rfl) (fun _ _ _ h => h) (Or.inl ⟨by rfl, fun W hS => by first | rfl | (go_simp; done)⟩) hHeld ?_
                      try simp only [Act.put, List.getElem_toArray, List.getElem_cons_succ, List.getElem_cons_zero, List.setIfInBounds_toArray, List.set_cons_zero, List.set_cons_succ]
                      refine wpAnyH_take (i := 4) (v := (.pointer (some ⟨gb, 0, none⟩))) rfl (by kernel_rfl) (by kernel_rfl) (by kernel_rfl) (fun _ _ _ h => h) (Or.inl ⟨by rfl, fun W hS => by first | rfl | (go_simp; done)⟩) hHeld ?_
                      try simp only [Act.put, List.getElem_toArray, List.getElem_cons_succ, List.getElem_cons_zero, List.setIfInBounds_toArray, List.set_cons_zero, List.set_cons_succ]
                      refine wpAnyH_take (i := 5) (v := (.pointer (some ⟨ab, 0, none⟩))) rfl (by kernel_rfl) (by kernel_rfl) (by kernel_rfl) (fun _ _ _ h => h) (Or.inl ⟨by rfl, fun W hS => by (obtain ⟨q1, q2⟩ := hS; go_simp; done)⟩) hHeld ?_
                      try simp only [Act.put, List.getElem_toArray, List.getElem_cons_succ, List.getElem_cons_zero, List.setIfInBounds_toArray, List.set_cons_zero, List.set_cons_succ]
                      refine wpAnyH_ready (rs := [6]) (by kernel_rfl) (by simp) (AllReadyH.cons rfl (fun K hK => ?_) AllReadyH.nil)
                      simp only [List.getElem_toArray, List.getElem_cons_succ, List.getElem_cons_zero]
                      go_simp
                      refine (HPUSH.out _ HGX.out rfl).mono ?_
                      rintro e V1 ⟨rfl, HG1, HK1⟩
                      have HB1 := Lib.hid (HK1.out _ _ _ HBX.out (by unfold RowOk; decide))
                      have HK9 : Hid (∀ r c u, Blk W1 r c u → RowOk skTy u → Blk V1 r c u) := Lib.hid (fun r c u hb hu => HK1.out r c u (hb.only ((Only.refl (fun _ => False) W1).drew) id) hu)
                      have HD9 := Lib.hid (HK9.out _ _ _ HD8.out (by unfold RowOk; decide))
                      refine hK.out _ _ ⟨HB1.out.cell 1, HG1.out.gcells.1⟩ (fun hHeld => ?_)
                      clear hK HGX HBX HK1
                      try simp only [Act.put, List.getElem_toArray, List.getElem_cons_succ, List.getElem_cons_zero, List.setIfInBounds_toArray, List.set_cons_zero, List.set_cons_succ]
                      have e0 := HD9.out.cell 0; have e1 := HD9.out.cell 1; have e2 := HD9.out.cell 2; have e3 := HD9.out.cell 3; have f0 := HD9.out.frozen 0; have f1 := HD9.out.frozen 1; have f2 := HD9.out.frozen 2; have f3 := HD9.out.frozen 3
                      refine wpAnyH_ready (rs := [7]) (by kernel_rfl) (by simp) (AllReadyH.cons rfl (fun K hK => ?_) AllReadyH.nil)
                      simp only [List.getElem_toArray, List.getElem_cons_succ, List.getElem_cons_zero]
                      try rw [if_pos (by rfl)]
                      go_simp
                      obtain ⟨W9, hW9⟩ : ∃ W, ((((V1.setCell ⟨d8, 0, none⟩ (.int .i64 ka)).setCell ⟨d8, 1, none⟩ (.int .i64 kp)).setCell ⟨d8, 2, none⟩ (.int .u64 ko)).setCell ⟨d8, 3, none⟩ (.int .u64 kw)) = W := ⟨_, rfl⟩
                      have ho9 : Only (· = d8) V1 W9 := by rw [← hW9]; exact did4 _ _ _ _ _ _
                      have hb9 : Blk W9 d8 #[.int .i64 ka, .int .i64 kp, .int .u64 ko, .int .u64 kw] 50 := by rw [← hW9]; exact did4b HD9.out _ _ _ _
                      have HG9 := Lib.hid (HG1.out.did HD9.out HDL.out.1 ho9)
                      have HB9 := Lib.hid (HB1.out.only ho9 (fun e => HDL.out.2.1 e))
                      have HKF : Hid (∀ r c u, Blk wq r c u → RowOk skTy u → Blk W9 r c u) := Lib.hid (fun r c u hb hu => (HK9.out r c u (hb.only HAW.out id) hu).only ho9 (fun e => by have := hb.lt; have := HDL.out.2.2; omega))
                      have HDF := Lib.hid hb9
                      rw [hW9]
                      refine hK.out _ _ ⟨HB9.out.cell 1, HG9.out.gcells.1⟩ (fun hHeld => ?_)
                      clear hK hW9 ho9 hb9 e0 e1 e2 e3 f0 f1 f2 f3
                      try simp only [Act.put, List.getElem_toArray, List.getElem_cons_succ, List.getElem_cons_zero, List.setIfInBounds_toArray, List.set_cons_zero, List.set_cons_succ]
                      refine wpAnyH_done (by kernel_rfl) ?_ _
                      have x19 := HB9.out.cell 1
                      have HLA := Lib.hid (HG9.out.sc.lanes.A t _ (List.getElem?_set_self (by rw [HO.out.g.ll]; exact HT.out)))
                      go_wp2_with (go_at_call 10; refine (oneDonePush HLA.out HNP.out).mono ?_; rintro e v1 ⟨rfl, rfl⟩)
                      go_meet
                      exact ⟨rfl, by rw [got_push HNP.out], HG9, HDF, HKF⟩
                  case rest =>
                    obtain ⟨rfl, rfl, HG2, HD2, HK2⟩ := hcut
                    have HTB : Hid (Blk wc tnb #[.int .u32 (tn 0), .int .u32 (tn 1), .int .u32 (tn 2)] 39) := Lib.hid (HK2.out _ _ _ HO.out.tb (by unfold RowOk; decide))
                    have HRW : Hid (∀ t', t' < n → wc.ownsRow 0 3 1 (Hv' t') (Hl' t').length ((Hl' t').map (Value.int .i64))) := Lib.hid (fun t' ht' => row_keepI (HO.out.h t' ht') (fun r cc hb => HK2.out r cc _ hb (by unfold RowOk; decide)))
                    have hcs : (ka = 3 ∧ ∃ j, j < 3 ∧ kp = hdOf j) ∨ ¬ ka = 3 := by
                      by_cases e : ka = 3
                      · refine .inl ⟨e, ?_⟩
                        have := turned_at HLN.out.2.1 HLN.out.2.2.1 (by rw [HNK.out.2, HDID.out.1]; exact e)
                        rw [HNK.out.2, HDID.out.2] at this
                        exact this
                      · exact .inr e
                    have HCS := Lib.hid hcs
                    clear hcs HPUSH HPOP HM8 HD8 HO1
                    go_upto_region 27 with fail
                    have z1 := HD2.out.cell 1
                    obtain ⟨q8, hq8⟩ : ∃ q, IntKind.i64.wrap (kp - 8) = q := ⟨_, rfl⟩
                    obtain ⟨q7, hq7⟩ : ∃ q, Int.tdiv q8 7 = q := ⟨_, rfl⟩
                    obtain ⟨q9, hq9⟩ : ∃ q, IntKind.i64.wrap q7 = q := ⟨_, rfl⟩
                    have HQ9 := Lib.hid (And.intro hq8 (And.intro hq7 hq9))
                    go_upto_region 28 with fail
                    clear hq8 hq7 hq9 z1
                    obtain ⟨cb, hcb⟩ : ∃ b, decide (ka = 3) = b := ⟨_, rfl⟩
                    have HCB := Lib.hid hcb
                    clear hcb
                    go_cut [155] (fun y wd => wd = wc ∧ y = .bool cb)
                    case first => as_aux_lemma =>
                      have z0 := HD2.out.cell 0; have z1 := HD2.out.cell 1
                      rcases HCS.out with ⟨h3, j, hj, h4⟩ | h3
                      · have hb9 : cb = true := by rw [← HCB.out, h3]; rfl
                        subst hb9
                        subst h3
                        have hj3 : j = 0 ∨ j = 1 ∨ j = 2 := by omega
                        rcases hj3 with rfl | rfl | rfl
                        · obtain rfl : kp = 8 := h4
                          go_wp2_with fail
                          go_meet
                          exact ⟨rfl, rfl⟩
                        · obtain rfl : kp = 15 := h4
                          go_wp2_with fail
                          go_meet
                          exact ⟨rfl, rfl⟩
                        · obtain rfl : kp = 22 := h4
                          go_wp2_with fail
                          go_meet
                          exact ⟨rfl, rfl⟩
                      · have hb9 : cb = false := by rw [← HCB.out]; exact decide_eq_false h3
                        subst hb9
                        have h3b : (ka == 3) = false := by simpa using h3
                        go_wp2_with fail
                        go_meet
                        exact ⟨rfl, rfl⟩
                    case rest =>
                    obtain ⟨hww, rfl⟩ := hcut
                    replace hww := hww.symm
                    subst hww
                    go_upto_if 155 with fail
                    go_cut [20] (fun y wd => True ∧ Hid (GH w ab sb sm rb rg bb tb tm ub fb gb hvb mb onb pub n pn n (60 + k) wd S1 S0 (L'.set t (some { z with k := nk })) Hv' Mc' On' Pu') ∧ Hid (Blk wd tnb #[.int .u32 (tnS tn S1 0), .int .u32 (tnS tn S1 1), .int .u32 (tnS tn S1 2)] 39) ∧ Hid (∀ t', t' < n → wd.ownsRow 0 3 1 (Hv' t') (Hl' t').length ((Hl' t').map (Value.int .i64))))
                    case first => as_aux_lemma =>
                      cases cb
                      · have h3 : ¬ ka = 3 := fun e => by have := HCB.out; rw [e] at this; cases this
                        go_wp2_with fail
                        go_meet
                        exact ⟨trivial, HG2, Lib.hid (by rw [tnS_no (by rw [HDID.out.1]; exact h3)]; exact HTB.out), HRW⟩
                      · have h3 : ka = 3 := of_decide_eq_true HCB.out
                        rcases HCS.out with ⟨-, j, hj, h4⟩ | h3'
                        · have hj3 : j = 0 ∨ j = 1 ∨ j = 2 := by omega
                          rcases hj3 with rfl | rfl | rfl
                          · have hq := HQ9.out
                            obtain ⟨rfl, rfl⟩ : ka = 3 ∧ kp = 8 := ⟨h3, h4⟩
                            obtain ⟨rfl, rfl, rfl⟩ : q8 = 0 ∧ q7 = 0 ∧ q9 = 0 := by
                              have e1 : q8 = 0 := by rw [← hq.1, IntKind.wrap_i64]; decide
                              subst e1
                              have e2 : q7 = 0 := by rw [← hq.2.1]; decide
                              subst e2
                              exact ⟨rfl, rfl, by rw [← hq.2.2, IntKind.wrap_i64]; decide⟩
                            clear hq
                            have zt : wc.cell? ⟨tnb, 0, none⟩ = some (.int .u32 (tn 0 : Nat)) := HTB.out.cell 0
                            have zf := HTB.out.frozen 0
                            have zw : IntKind.u32.wrap ((tn 0 : Nat) + 1 : Int) = ((tn 0 + 1 : Nat) : Int) := by have := HO.out.tnk 0 (by omega); have := HKB.out; rw [IntKind.wrap_u32]; omega
                            obtain ⟨tj, htj⟩ : ∃ v : Int, ((tn 0 : Nat) : Int) = v := ⟨_, rfl⟩
                            obtain ⟨tj1, htj1⟩ : ∃ v : Int, ((tn 0 + 1 : Nat) : Int) = v := ⟨_, rfl⟩
                            rw [htj] at zt zw
                            rw [htj1] at zw
                            go_wp2_with fail
                            go_meet
                            have ho := only_at wc tnb 0 (.int .u32 tj1)
                            refine ⟨trivial, Lib.hid (HG2.out.trow HTB.out HO.out.low ho), Lib.hid ?_, Lib.hid (fun t' ht' => row_keepI (HRW.out t' ht') (fun r cc hb => hb.rowT HTB.out (by decide) ho))⟩
                            have h5 := HTB.out.setCell 0 (.int .u32 tj1)
                            rw [← htj1, turn3 tn (by omega : 0 < 3)] at h5
                            rw [tnS_at (j := 0) HDID.out.1 (HDID.out.2.trans (by decide)), ← htj1]
                            exact h5
                          · have hq := HQ9.out
                            obtain ⟨rfl, rfl⟩ : ka = 3 ∧ kp = 15 := ⟨h3, h4⟩
                            obtain ⟨rfl, rfl, rfl⟩ : q8 = 7 ∧ q7 = 1 ∧ q9 = 1 := by
                              have e1 : q8 = 7 := by rw [← hq.1, IntKind.wrap_i64]; decide
                              subst e1
                              have e2 : q7 = 1 := by rw [← hq.2.1]; decide
                              subst e2
                              exact ⟨rfl, rfl, by rw [← hq.2.2, IntKind.wrap_i64]; decide⟩
                            clear hq
                            have zt : wc.cell? ⟨tnb, 1, none⟩ = some (.int .u32 (tn 1 : Nat)) := HTB.out.cell 1
                            have zf := HTB.out.frozen 1
                            have zw : IntKind.u32.wrap ((tn 1 : Nat) + 1 : Int) = ((tn 1 + 1 : Nat) : Int) := by have := HO.out.tnk 1 (by omega); have := HKB.out; rw [IntKind.wrap_u32]; omega
                            obtain ⟨tj, htj⟩ : ∃ v : Int, ((tn 1 : Nat) : Int) = v := ⟨_, rfl⟩
                            obtain ⟨tj1, htj1⟩ : ∃ v : Int, ((tn 1 + 1 : Nat) : Int) = v := ⟨_, rfl⟩
                            rw [htj] at zt zw
                            rw [htj1] at zw
                            go_wp2_with fail
                            go_meet
                            have ho := only_at wc tnb 1 (.int .u32 tj1)
                            refine ⟨trivial, Lib.hid (HG2.out.trow HTB.out HO.out.low ho), Lib.hid ?_, Lib.hid (fun t' ht' => row_keepI (HRW.out t' ht') (fun r cc hb => hb.rowT HTB.out (by decide) ho))⟩
                            have h5 := HTB.out.setCell 1 (.int .u32 tj1)
                            rw [← htj1, turn3 tn (by omega : 1 < 3)] at h5
                            rw [tnS_at (j := 1) HDID.out.1 (HDID.out.2.trans (by decide)), ← htj1]
                            exact h5
                          · have hq := HQ9.out
                            obtain ⟨rfl, rfl⟩ : ka = 3 ∧ kp = 22 := ⟨h3, h4⟩
                            obtain ⟨rfl, rfl, rfl⟩ : q8 = 14 ∧ q7 = 2 ∧ q9 = 2 := by
                              have e1 : q8 = 14 := by rw [← hq.1, IntKind.wrap_i64]; decide
                              subst e1
                              have e2 : q7 = 2 := by rw [← hq.2.1]; decide
                              subst e2
                              exact ⟨rfl, rfl, by rw [← hq.2.2, IntKind.wrap_i64]; decide⟩
                            clear hq
                            have zt : wc.cell? ⟨tnb, 2, none⟩ = some (.int .u32 (tn 2 : Nat)) := HTB.out.cell 2
                            have zf := HTB.out.frozen 2
                            have zw : IntKind.u32.wrap ((tn 2 : Nat) + 1 : Int) = ((tn 2 + 1 : Nat) : Int) := by have := HO.out.tnk 2 (by omega); have := HKB.out; rw [IntKind.wrap_u32]; omega
                            obtain ⟨tj, htj⟩ : ∃ v : Int, ((tn 2 : Nat) : Int) = v := ⟨_, rfl⟩
                            obtain ⟨tj1, htj1⟩ : ∃ v : Int, ((tn 2 + 1 : Nat) : Int) = v := ⟨_, rfl⟩
                            rw [htj] at zt zw
                            rw [htj1] at zw
                            go_wp2_with fail
                            go_meet
                            have ho := only_at wc tnb 2 (.int .u32 tj1)
                            refine ⟨trivial, Lib.hid (HG2.out.trow HTB.out HO.out.low ho), Lib.hid ?_, Lib.hid (fun t' ht' => row_keepI (HRW.out t' ht') (fun r cc hb => hb.rowT HTB.out (by decide) ho))⟩
                            have h5 := HTB.out.setCell 2 (.int .u32 tj1)
                            rw [← htj1, turn3 tn (by omega : 2 < 3)] at h5
                            rw [tnS_at (j := 2) HDID.out.1 (HDID.out.2.trans (by decide)), ← htj1]
                            exact h5
                        · exact absurd h3 h3'
                    case rest =>
                      obtain ⟨-, HG3, HTB3, HRW3⟩ := hcut
                      obtain ⟨ov, hov⟩ : ∃ b, nk.over = b := ⟨_, rfl⟩
                      obtain ⟨gt, hgt⟩ : ∃ v, nk.got = v := ⟨_, rfl⟩
                      simp only [hov, hgt]
                      have HOV := Lib.hid (And.intro hov hgt)
                      have HPS := Lib.hid (HNP.out.trans HIP.out.symm)
                      have HL3' := Lib.hid (HO.out.l.step (z2 := { z with k := nk }) HZ9.out rfl rfl HPS.out)
                      have HNX : Hid (∀ (W : World) (On9 : Nat → Bool) (Hv9 : Nat → Value) (o : Option SkL), o.map (fun z => z.k) = nxo nk → GH w ab sb sm rb rg bb tb tm ub fb gb hvb mb onb pub n pn n (60 + (k + 1)) W S1 S0 (L'.set t o) Hv9 Mc' On9 Pu' → Lnk n (L'.set t o) Mc' On9 Pu' →
                          (∀ t', t' < n → W.ownsRow 0 3 1 (Hv9 t') (handU Hl' t gt t').length ((handU Hl' t gt t').map (Value.int .i64))) →
                          Blk W tnb #[.int .u32 (tnS tn S1 0), .int .u32 (tnS tn S1 1), .int .u32 (tnS tn S1 2)] 39 →
                          ∃ C', OS w ab sb sm rb rg bb tb tm ub fb gb hvb mb onb pub tnb n pn dr (k + 1) S0 W S1 (L'.set t o) Hv9 Mc' On9 Pu' (handU Hl' t gt) (tnS tn S1) C') := Lib.hid (fun W On9 Hv9 o h1 h2 h3 h4 h5 => by
                        obtain ⟨e1, e2⟩ := HNK.out
                        have e3 := HOV.out.2
                        subst e3; subst e1; subst e2
                        exact HO.out.next HT.out n6 HMAY.out (by have := HKB.out; omega) HZ9.out h1 h2 h3 h4 h5)
                      have hos := HG3.out.on.frozen t
                      have o4 := HG3.out.gcells.2.2.2.2.1
                      have o5 := (HG3.out.cells HT.out).1.2.1
                      clear hov hgt
                      go_upto_if 161 with fail
                      cases ov
                      · as_aux_lemma =>
                        have hgl : gt = -1 := by rw [← HOV.out.2]; exact got_live HOV.out.1
                        have HGE : Hid (handU Hl' t gt = Hl') := Lib.hid (by unfold handU; rw [if_neg (by omega)])
                        go_wp2_with fail
                        go_roundw
                        case rel =>
                          obtain ⟨C', h⟩ := HNX.out _ _ _ (some { z with k := nk }) (by show some nk = nxo nk; unfold nxo; rw [HOV.out.1]; rfl) (HG3.out.more (by omega)) HL3'.out (by rw [HGE.out]; exact HRW3.out) HTB3.out
                          exact ⟨k + 1, _, _, _, _, _, _, _, _, C', by omega, by go_num, Lib.hid h⟩
                        case measure => simp [intOf]; omega
                      · have hnn : nxo nk = none := by unfold nxo; rw [HOV.out.1]; rfl
                        have HNN := Lib.hid hnn
                        clear hnn
                        go_upto_if 169 with fail
                        obtain ⟨W5, hW5⟩ : ∃ W, wc.setCell ⟨onb, t, none⟩ (.bool false) = W := ⟨_, rfl⟩
                        have ho5 : Only (· = onb) wc W5 := by rw [← hW5]; exact only_at _ _ _ _
                        have h5 := (HG3.out.setOn t false).drop t
                        rw [hW5, List.set_set] at h5
                        try rw [hW5]
                        have hl5 := HL3'.out.drop t
                        rw [List.set_set] at hl5
                        have HRW5 : Hid (∀ t', t' < n → W5.ownsRow 0 3 1 (Hv' t') (Hl' t').length ((Hl' t').map (Value.int .i64))) := Lib.hid (fun t' ht' => row_keepI (HRW3.out t' ht') (fun r cc hb => hb.rowT HG3.out.on (by decide) ho5))
                        have HTB5 := Lib.hid (HTB3.out.rowT HG3.out.on (by decide) ho5)
                        have H5 := Lib.hid h5; have HL5 := Lib.hid hl5
                        clear ho5 hW5 h5 hl5 hos o4 o5
                        by_cases hgp : 0 ≤ gt
                        · as_aux_lemma =>
                          have HGE : Hid (handU Hl' t gt = upd Hl' t (Hl' t ++ [gt])) := Lib.hid (by unfold handU; rw [if_pos hgp])
                          have HGB : Hid (0 ≤ gt ∧ gt < pn) := Lib.hid ⟨hgp, by
                            have h1 := sk_nx HO.out.o.stk HMAY.out (fun i => (StoreS.word_bd HO.out.g.sc.both.yard.st.fit i).1) HLN.out.2.1
                            rw [HNK.out.1] at h1
                            rcases sk_got h1 HOV.out.1 HOV.out.2 with e | e <;> omega⟩
                          have HXS := Lib.hid (And.intro (HRW5.out t HT.out) (HO.out.hl t))
                          have HCI := Lib.hid (show 60 + k ≤ 6000 by have := HKB.out; omega)
                          obtain ⟨⟨p0, -, -⟩, -, -, -⟩ := H5.out.cells HT.out
                          have g2 := H5.out.gcells.2.2.1
                          go_upto_region 33 with fail
                          obtain ⟨i0, hi, hz0, hz1, hz2⟩ := info_parts infoInt
                          refine wp_region_held_drew (S := (fun V => V.cell? ⟨gb, 2, none⟩ = some (.slice (some ⟨hvb, 0, none⟩) n n))) (by kernel_rfl) g2 (fun hHeld => ?_)
                          obtain ⟨D, hD⟩ : ∃ D, World.drew W5 = D := ⟨_, rfl⟩
                          have HAD : Hid (Adds W5 D) := Lib.hid (by rw [← hD]; exact (Only.refl (fun _ => False) W5).drew)
                          rw [hD] at hHeld
                          rw [hD]
                          clear hD
                          refine wpAnyH_take (i := 0) (v := (.pointer (some ⟨gb, 0, none⟩))) rfl (by kernel_rfl) (by kernel_rfl) (by kernel_rfl) (fun _ _ _ h => h) (Or.inl ⟨by rfl, fun W hS => by first | rfl | (go_simp; done)⟩) hHeld ?_
                          try simp only [Act.put, List.getElem_toArray, List.getElem_cons_succ, List.getElem_cons_zero, List.setIfInBounds_toArray, List.set_cons_zero, List.set_cons_succ]
                          refine wpAnyH_take (i := 1) (v := (.pointer (some ⟨gb, 0, none⟩))) rfl (by kernel_rfl) (by kernel_rfl) (by kernel_rfl) (fun _ _ _ h => h) (Or.inl ⟨by rfl, fun W hS => by first | rfl | (go_simp; done)⟩) hHeld ?_
                          try simp only [Act.put, List.getElem_toArray, List.getElem_cons_succ, List.getElem_cons_zero, List.setIfInBounds_toArray, List.set_cons_zero, List.set_cons_succ]
                          refine wpAnyH_take (i := 2) (v := (.pointer (some ⟨gb, 2, none⟩))) rfl (by kernel_rfl) (by kernel_rfl) (by kernel_rfl) (fun _ _ _ h => h) (Or.inl ⟨by rfl, fun W hS => by first | rfl | (go_simp; done)⟩) hHeld ?_
                          try simp only [Act.put, List.getElem_toArray, List.getElem_cons_succ, List.getElem_cons_zero, List.setIfInBounds_toArray, List.set_cons_zero, List.set_cons_succ]
                          refine wpAnyH_take (i := 3) (v := (.slice (some ⟨hvb, 0, none⟩) n n)) rfl (by kernel_rfl) (by kernel_rfl) (by kernel_rfl) (fun _ _ _ h => h) (Or.inl ⟨by rfl, fun W hS => by (obtain q1 := hS; go_simp; done)⟩) hHeld ?_
                          try simp only [Act.put, List.getElem_toArray, List.getElem_cons_succ, List.getElem_cons_zero, List.setIfInBounds_toArray, List.set_cons_zero, List.set_cons_succ]
                          refine wpAnyH_take (i := 4) (v := (.int .i64 (t : Int))) rfl (by kernel_rfl) (by kernel_rfl) (by kernel_rfl) (fun _ _ _ h => h) (Or.inl ⟨by rfl, fun W hS => by first | rfl | (go_simp; done)⟩) hHeld ?_
                          try simp only [Act.put, List.getElem_toArray, List.getElem_cons_succ, List.getElem_cons_zero, List.setIfInBounds_toArray, List.set_cons_zero, List.set_cons_succ]
                          refine wpAnyH_take (i := 6) (v := (.pointer (some ⟨gb, 0, none⟩))) rfl (by kernel_rfl) (by kernel_rfl) (by kernel_rfl) (fun _ _ _ h => h) (Or.inl ⟨by rfl, fun W hS => by first | rfl | (go_simp; done)⟩) hHeld ?_
                          try simp only [Act.put, List.getElem_toArray, List.getElem_cons_succ, List.getElem_cons_zero, List.setIfInBounds_toArray, List.set_cons_zero, List.set_cons_succ]
                          refine wpAnyH_take (i := 7) (v := (.pointer (some ⟨gb, 0, none⟩))) rfl (by kernel_rfl) (by kernel_rfl) (by kernel_rfl) (fun _ _ _ h => h) (Or.inl ⟨by rfl, fun W hS => by first | rfl | (go_simp; done)⟩) hHeld ?_
                          try simp only [Act.put, List.getElem_toArray, List.getElem_cons_succ, List.getElem_cons_zero, List.setIfInBounds_toArray, List.set_cons_zero, List.set_cons_succ]
                          refine wpAnyH_take (i := 8) (v := (.pointer (some ⟨gb, 2, none⟩))) rfl (by kernel_rfl) (by kernel_rfl) (by kernel_rfl) (fun _ _ _ h => h) (Or.inl ⟨by rfl, fun W hS => by first | rfl | (go_simp; done)⟩) hHeld ?_
                          try simp only [Act.put, List.getElem_toArray, List.getElem_cons_succ, List.getElem_cons_zero, List.setIfInBounds_toArray, List.set_cons_zero, List.set_cons_succ]
                          refine wpAnyH_take (i := 9) (v := (.slice (some ⟨hvb, 0, none⟩) n n)) rfl (by kernel_rfl) (by kernel_rfl) (by kernel_rfl) (fun _ _ _ h => h) (Or.inl ⟨by rfl, fun W hS => by (obtain q1 := hS; go_simp; done)⟩) hHeld ?_
                          try simp only [Act.put, List.getElem_toArray, List.getElem_cons_succ, List.getElem_cons_zero, List.setIfInBounds_toArray, List.set_cons_zero, List.set_cons_succ]
                          refine wpAnyH_take (i := 10) (v := (.int .i64 (t : Int))) rfl (by kernel_rfl) (by kernel_rfl) (by kernel_rfl) (fun _ _ _ h => h) (Or.inl ⟨by rfl, fun W hS => by first | rfl | (go_simp; done)⟩) hHeld ?_
                          try simp only [Act.put, List.getElem_toArray, List.getElem_cons_succ, List.getElem_cons_zero, List.setIfInBounds_toArray, List.set_cons_zero, List.set_cons_succ]
                          refine wpAnyH_take (i := 11) (v := (.pointer (some ⟨hvb, t, none⟩))) rfl (by kernel_rfl) (by kernel_rfl) (by kernel_rfl) (fun _ _ _ h => h) (Or.inl ⟨by rfl, fun W hS => by first | rfl | (go_simp; done)⟩) hHeld ?_
                          try simp only [Act.put, List.getElem_toArray, List.getElem_cons_succ, List.getElem_cons_zero, List.setIfInBounds_toArray, List.set_cons_zero, List.set_cons_succ]
                          refine wpAnyH_take (i := 14) (v := (.int .i64 gt)) rfl (by kernel_rfl) (by kernel_rfl) (by kernel_rfl) (fun _ _ _ h => h) (Or.inl ⟨by rfl, fun W hS => by first | rfl | (go_simp; done)⟩) hHeld ?_
                          try simp only [Act.put, List.getElem_toArray, List.getElem_cons_succ, List.getElem_cons_zero, List.setIfInBounds_toArray, List.set_cons_zero, List.set_cons_succ]
                          refine wpAnyH_ready (rs := [5, 12, 15]) (by kernel_rfl) (by simp) (AllReadyH.cons rfl (fun K hK => ?_) (AllReadyH.cons rfl (fun K hK => ?_) (AllReadyH.cons rfl (fun K hK => ?_) AllReadyH.nil)))
                          · simp only [List.getElem_toArray, List.getElem_cons_succ, List.getElem_cons_zero]
                            go_simp
                            obtain ⟨Y1, hV2⟩ : ∃ V, D.alloc (.cells #[] 3) = V := ⟨_, rfl⟩
                            have hA2 : Adds D Y1 := by rw [← hV2]; exact (Only.refl (fun _ => False) D).alloc _
                            obtain ⟨e8, hbb⟩ : ∃ q, D.heap.size = q := ⟨_, rfl⟩
                            have hblk8 : Blk Y1 e8 #[] 3 := by rw [← hV2, ← hbb]; exact Blk.new D _ _
                            have hlow8 : W5.heap.size ≤ e8 := by rw [← hbb]; exact HAD.out.size
                            have HE8 : Hid (Y1.ownsRow W5.heap.size 3 1 (.slice (some ⟨e8, 0, none⟩) 0 0) 0 []) := Lib.hid ⟨rfl, .inr ⟨e8, 0, #[], rfl, hlow8, hblk8, Nat.le_refl _, Nat.zero_le _, rfl, rfl⟩⟩
                            try rw [hV2]
                            try rw [hbb]
                            have hg9 := cellA hHeld hA2
                            replace HAD := Lib.hid (HAD.out.thenF hA2)
                            refine hK.out _ _ hg9 (fun hHeld => ?_)
                            clear hK hV2 hA2 hblk8 hlow8 hbb hg9
                            try simp only [Act.put, List.getElem_toArray, List.getElem_cons_succ, List.getElem_cons_zero, List.setIfInBounds_toArray, List.set_cons_zero, List.set_cons_succ]
                            refine wpAnyH_ready (rs := [12, 15]) (by kernel_rfl) (by simp) (AllReadyH.cons rfl (fun K hK => ?_) (AllReadyH.cons rfl (fun K hK => ?_) AllReadyH.nil))
                            · simp only [List.getElem_toArray, List.getElem_cons_succ, List.getElem_cons_zero]
                              rw [if_pos (by rfl)]
                              have p9 : Y1.cell? ⟨hvb, t, none⟩ = some (Hv' t) := cellA p0 HAD.out
                              go_simp
                              refine hK.out _ _ hHeld (fun hHeld => ?_)
                              clear hK p9
                              try simp only [Act.put, List.getElem_toArray, List.getElem_cons_succ, List.getElem_cons_zero, List.setIfInBounds_toArray, List.set_cons_zero, List.set_cons_succ]
                              refine wpAnyH_ready (rs := [13, 15]) (by kernel_rfl) (by simp) (AllReadyH.cons rfl (fun K hK => ?_) (AllReadyH.cons rfl (fun K hK => ?_) AllReadyH.nil))
                              · simp only [List.getElem_toArray, List.getElem_cons_succ, List.getElem_cons_zero]
                                rw [if_pos (by rfl)]
                                refine wp_append_src _ _ 54 3 rfl i0 (.int .i64 0) 1 8 Tryz.underlying54 hi hz0 hz1 hz2 rfl (by decide) W5.heap.size _ _ _ rfl HE8.out (Hv' t) _ ((Hl' t).map (Value.int .i64)) rfl (Src.of_owns (row_adds HXS.out.1 HAD.out)) (by simp) (by intro y hy; obtain ⟨z, _, rfl⟩ := List.mem_map.1 hy; rfl) (by have := HXS.out.2; have := HCI.out; unfold maxLen; omega) (by have := HXS.out.2; have := HCI.out; omega) HAD.out.size ?_
                                intro v8 Y3 hR9 hO9
                                have hAo : Adds W5 Y3 := HAD.out.andThen hO9 (fun i hi e => by have := row_base9 HE8.out _ e; omega)
                                have g9 : Y3.cell? ⟨gb, 2, none⟩ = some (.slice (some ⟨hvb, 0, none⟩) n n) := (hAo.cellF (p := ⟨gb, 2, none⟩) (cell_lt g2) id).trans g2
                                refine hK.out _ _ g9 (fun hHeld => ?_)
                                replace HAD := Lib.hid hAo
                                replace HE8 := Lib.hid hR9
                                clear hK hAo hO9 hR9 g9
                                try simp only [Act.put, List.getElem_toArray, List.getElem_cons_succ, List.getElem_cons_zero, List.setIfInBounds_toArray, List.set_cons_zero, List.set_cons_succ]
                                refine wpAnyH_ready (rs := [15]) (by kernel_rfl) (by simp) (AllReadyH.cons rfl (fun K hK => ?_) AllReadyH.nil)
                                simp only [List.getElem_toArray, List.getElem_cons_succ, List.getElem_cons_zero]
                                go_simp
                                obtain ⟨Y4, hV2⟩ : ∃ V, Y3.alloc (.cells #[.int .i64 gt] 3) = V := ⟨_, rfl⟩
                                have hA2 : Adds Y3 Y4 := by rw [← hV2]; exact (Only.refl (fun _ => False) Y3).alloc _
                                obtain ⟨g8, hbb⟩ : ∃ q, Y3.heap.size = q := ⟨_, rfl⟩
                                have hblk8 : Blk Y4 g8 #[.int .i64 gt] 3 := by rw [← hV2, ← hbb]; exact Blk.new Y3 _ _
                                have hlow8 : W5.heap.size ≤ g8 := by rw [← hbb]; exact HAD.out.size
                                replace HE8 := Lib.hid (row_adds HE8.out hA2)
                                have HG8 : Hid (Y4.cell? ⟨g8, 0, none⟩ = some (.int .i64 gt)) := Lib.hid (hblk8.cell 0)
                                try rw [hV2]
                                try rw [hbb]
                                have hg9 := cellA hHeld hA2
                                replace HAD := Lib.hid (HAD.out.thenF hA2)
                                refine hK.out _ _ hg9 (fun hHeld => ?_)
                                clear hK hV2 hA2 hblk8 hlow8 hbb hg9
                                try simp only [Act.put, List.getElem_toArray, List.getElem_cons_succ, List.getElem_cons_zero, List.setIfInBounds_toArray, List.set_cons_zero, List.set_cons_succ]
                                refine wpAnyH_ready (rs := [16]) (by kernel_rfl) (by simp) (AllReadyH.cons rfl (fun K hK => ?_) AllReadyH.nil)
                                simp only [List.getElem_toArray, List.getElem_cons_succ, List.getElem_cons_zero]
                                rw [if_pos (by rfl)]
                                refine wp_append_src _ _ 54 3 rfl i0 (.int .i64 0) 1 8 Tryz.underlying54 hi hz0 hz1 hz2 rfl (by decide) W5.heap.size _ _ _ rfl HE8.out (.slice (some ⟨g8, 0, none⟩) 1 1) 1 [.int .i64 gt] rfl (.inr (.inl ⟨g8, 0, 1, rfl, fun j y hj => by cases j with | zero => (simp at hj; subst hj; exact HG8.out) | succ j => simp at hj⟩)) rfl (by intro y hy; simp at hy; subst hy; rfl) (by have := HXS.out.2; have := HCI.out; unfold maxLen; omega) (by have := HXS.out.2; have := HCI.out; omega) HAD.out.size ?_
                                intro v9 V9 hR9 hO9
                                have hAo : Adds W5 V9 := HAD.out.andThen hO9 (fun i hi e => by have := row_base9 HE8.out _ e; omega)
                                have g9 : V9.cell? ⟨gb, 2, none⟩ = some (.slice (some ⟨hvb, 0, none⟩) n n) := (hAo.cellF (p := ⟨gb, 2, none⟩) (cell_lt g2) id).trans g2
                                refine hK.out _ _ g9 (fun hHeld => ?_)
                                replace HAD := Lib.hid hAo
                                have HR9 := Lib.hid hR9
                                clear hK hAo hO9 hR9 g9
                                try simp only [Act.put, List.getElem_toArray, List.getElem_cons_succ, List.getElem_cons_zero, List.setIfInBounds_toArray, List.set_cons_zero, List.set_cons_succ]
                                refine wpAnyH_take (i := 17) (v := (.pointer (some ⟨hvb, t, none⟩))) rfl (by kernel_rfl) (by kernel_rfl) (by kernel_rfl) (fun _ _ _ h => h) (Or.inl ⟨by rfl, fun W hS => by first | rfl | (go_simp; done)⟩) hHeld ?_
                                try simp only [Act.put, List.getElem_toArray, List.getElem_cons_succ, List.getElem_cons_zero, List.setIfInBounds_toArray, List.set_cons_zero, List.set_cons_succ]
                                obtain ⟨a9, c9, rfl⟩ := ownsRow_slice HR9.out
                                have h9 := (H5.out.add HAD.out).more (d := 60 + (k + 1)) (by omega)
                                have vf := h9.hv.frozen t; have vc := cellA p0 HAD.out
                                have hrow : V9.ownsRow 0 3 1 (.slice a9 ((Hl' t).length + 1) c9) (Hl' t ++ [gt]).length ((Hl' t ++ [gt]).map (Value.int .i64)) := by
                                  have := row_zero HR9.out
                                  simpa using this
                                have h10 := h9.setHv t (v := .slice a9 ((Hl' t).length + 1) c9) ⟨Hl' t ++ [gt], hrow, fun x hx => (by
                                  rcases List.mem_append.1 hx with hx | hx
                                  · exact HO.out.o.hands t x hx
                                  · simp at hx; subst hx; exact HGB.out), by have := HXS.out.2; simp; omega⟩
                                have ho9 := only_at V9 hvb t (.slice a9 ((Hl' t).length + 1) c9)
                                have HRW9 : Hid (∀ t', t' < n → (V9.setCell ⟨hvb, t, none⟩ (.slice a9 ((Hl' t).length + 1) c9)).ownsRow 0 3 1 (upd Hv' t (.slice a9 ((Hl' t).length + 1) c9) t') (upd Hl' t (Hl' t ++ [gt]) t').length ((upd Hl' t (Hl' t ++ [gt]) t').map (Value.int .i64))) := Lib.hid (fun t' ht' => (by
                                  by_cases e : t' = t
                                  · subst e; rw [upd_at, upd_at]; exact row_keepI hrow (fun r cc hb => hb.rowT h9.hv (by decide) ho9)
                                  · rw [upd_ne _ e, upd_ne _ e]; exact row_keepI (HRW5.out t' ht') (fun r cc hb => (hb.only HAD.out id).rowT h9.hv (by decide) ho9)))
                                have HTB9 := Lib.hid ((HTB5.out.only HAD.out id).rowT h9.hv (by decide) ho9)
                                have HG10 := Lib.hid h10
                                clear h9 h10 hrow ho9
                                refine wpAnyH_ready (rs := [18]) (by kernel_rfl) (by simp) (AllReadyH.cons rfl (fun K hK => ?_) AllReadyH.nil)
                                simp only [List.getElem_toArray, List.getElem_cons_succ, List.getElem_cons_zero]
                                rw [if_pos (by rfl)]
                                go_simp
                                refine hK.out _ _ HG10.out.gcells.2.2.1 (fun hHeld => ?_)
                                clear hK
                                try simp only [Act.put, List.getElem_toArray, List.getElem_cons_succ, List.getElem_cons_zero, List.setIfInBounds_toArray, List.set_cons_zero, List.set_cons_succ]
                                refine wpAnyH_done (by kernel_rfl) ?_ _
                                go_wp2_with fail
                                go_roundw
                                case rel =>
                                  obtain ⟨C', h⟩ := HNX.out _ _ _ none HNN.out.symm HG10.out HL5.out (by rw [HGE.out]; exact HRW9.out) HTB9.out
                                  exact ⟨k + 1, _, _, _, _, _, _, _, _, C', by omega, by go_num, Lib.hid h⟩
                                case measure => simp [intOf]; omega
                              · simp only [List.getElem_toArray, List.getElem_cons_succ, List.getElem_cons_zero]
                                go_simp
                                obtain ⟨Y5, hV2⟩ : ∃ V, Y1.alloc (.cells #[.int .i64 gt] 3) = V := ⟨_, rfl⟩
                                have hA2 : Adds Y1 Y5 := by rw [← hV2]; exact (Only.refl (fun _ => False) Y1).alloc _
                                obtain ⟨g8, hbb⟩ : ∃ q, Y1.heap.size = q := ⟨_, rfl⟩
                                have hblk8 : Blk Y5 g8 #[.int .i64 gt] 3 := by rw [← hV2, ← hbb]; exact Blk.new Y1 _ _
                                have hlow8 : W5.heap.size ≤ g8 := by rw [← hbb]; exact HAD.out.size
                                have HNE := Lib.hid (show g8 ≠ e8 by obtain ⟨c9, hb9⟩ := ownsRow_blk HE8.out (g := e8) rfl; have := hb9.lt; omega)
                                replace HE8 := Lib.hid (row_adds HE8.out hA2)
                                have HG8 : Hid (Y5.cell? ⟨g8, 0, none⟩ = some (.int .i64 gt)) := Lib.hid (hblk8.cell 0)
                                try rw [hV2]
                                try rw [hbb]
                                have hg9 := cellA hHeld hA2
                                replace HAD := Lib.hid (HAD.out.thenF hA2)
                                refine hK.out _ _ hg9 (fun hHeld => ?_)
                                clear hK hV2 hA2 hblk8 hlow8 hbb hg9
                                try simp only [Act.put, List.getElem_toArray, List.getElem_cons_succ, List.getElem_cons_zero, List.setIfInBounds_toArray, List.set_cons_zero, List.set_cons_succ]
                                refine wpAnyH_ready (rs := [13]) (by kernel_rfl) (by simp) (AllReadyH.cons rfl (fun K hK => ?_) AllReadyH.nil)
                                simp only [List.getElem_toArray, List.getElem_cons_succ, List.getElem_cons_zero]
                                rw [if_pos (by rfl)]
                                refine wp_append_src _ _ 54 3 rfl i0 (.int .i64 0) 1 8 Tryz.underlying54 hi hz0 hz1 hz2 rfl (by decide) W5.heap.size _ _ _ rfl HE8.out (Hv' t) _ ((Hl' t).map (Value.int .i64)) rfl (Src.of_owns (row_adds HXS.out.1 HAD.out)) (by simp) (by intro y hy; obtain ⟨z, _, rfl⟩ := List.mem_map.1 hy; rfl) (by have := HXS.out.2; have := HCI.out; unfold maxLen; omega) (by have := HXS.out.2; have := HCI.out; omega) HAD.out.size ?_
                                intro v8 Y6 hR9 hO9
                                have hAo : Adds W5 Y6 := HAD.out.andThen hO9 (fun i hi e => by have := row_base9 HE8.out _ e; omega)
                                have g9 : Y6.cell? ⟨gb, 2, none⟩ = some (.slice (some ⟨hvb, 0, none⟩) n n) := (hAo.cellF (p := ⟨gb, 2, none⟩) (cell_lt g2) id).trans g2
                                replace HG8 := Lib.hid ((hO9.cellF (p := ⟨g8, 0, none⟩) (cell_lt HG8.out) (fun e => HNE.out (by have e9 : some g8 = (Value.slice (some ⟨e8, 0, none⟩) 0 0).ownBlock := e; simpa [Value.ownBlock] using e9))).trans HG8.out)
                                refine hK.out _ _ g9 (fun hHeld => ?_)
                                replace HAD := Lib.hid hAo
                                replace HE8 := Lib.hid hR9
                                clear hK hAo hO9 hR9 g9
                                try simp only [Act.put, List.getElem_toArray, List.getElem_cons_succ, List.getElem_cons_zero, List.setIfInBounds_toArray, List.set_cons_zero, List.set_cons_succ]
                                refine wpAnyH_ready (rs := [16]) (by kernel_rfl) (by simp) (AllReadyH.cons rfl (fun K hK => ?_) AllReadyH.nil)
                                simp only [List.getElem_toArray, List.getElem_cons_succ, List.getElem_cons_zero]
                                rw [if_pos (by rfl)]
                                refine wp_append_src _ _ 54 3 rfl i0 (.int .i64 0) 1 8 Tryz.underlying54 hi hz0 hz1 hz2 rfl (by decide) W5.heap.size _ _ _ rfl HE8.out (.slice (some ⟨g8, 0, none⟩) 1 1) 1 [.int .i64 gt] rfl (.inr (.inl ⟨g8, 0, 1, rfl, fun j y hj => by cases j with | zero => (simp at hj; subst hj; exact HG8.out) | succ j => simp at hj⟩)) rfl (by intro y hy; simp at hy; subst hy; rfl) (by have := HXS.out.2; have := HCI.out; unfold maxLen; omega) (by have := HXS.out.2; have := HCI.out; omega) HAD.out.size ?_
                                intro v9 V9 hR9 hO9
                                have hAo : Adds W5 V9 := HAD.out.andThen hO9 (fun i hi e => by have := row_base9 HE8.out _ e; omega)
                                have g9 : V9.cell? ⟨gb, 2, none⟩ = some (.slice (some ⟨hvb, 0, none⟩) n n) := (hAo.cellF (p := ⟨gb, 2, none⟩) (cell_lt g2) id).trans g2
                                refine hK.out _ _ g9 (fun hHeld => ?_)
                                replace HAD := Lib.hid hAo
                                have HR9 := Lib.hid hR9
                                clear hK hAo hO9 hR9 g9
                                try simp only [Act.put, List.getElem_toArray, List.getElem_cons_succ, List.getElem_cons_zero, List.setIfInBounds_toArray, List.set_cons_zero, List.set_cons_succ]
                                refine wpAnyH_take (i := 17) (v := (.pointer (some ⟨hvb, t, none⟩))) rfl (by kernel_rfl) (by kernel_rfl) (by kernel_rfl) (fun _ _ _ h => h) (Or.inl ⟨by rfl, fun W hS => by first | rfl | (go_simp; done)⟩) hHeld ?_
                                try simp only [Act.put, List.getElem_toArray, List.getElem_cons_succ, List.getElem_cons_zero, List.setIfInBounds_toArray, List.set_cons_zero, List.set_cons_succ]
                                obtain ⟨a9, c9, rfl⟩ := ownsRow_slice HR9.out
                                have h9 := (H5.out.add HAD.out).more (d := 60 + (k + 1)) (by omega)
                                have vf := h9.hv.frozen t; have vc := cellA p0 HAD.out
                                have hrow : V9.ownsRow 0 3 1 (.slice a9 ((Hl' t).length + 1) c9) (Hl' t ++ [gt]).length ((Hl' t ++ [gt]).map (Value.int .i64)) := by
                                  have := row_zero HR9.out
                                  simpa using this
                                have h10 := h9.setHv t (v := .slice a9 ((Hl' t).length + 1) c9) ⟨Hl' t ++ [gt], hrow, fun x hx => (by
                                  rcases List.mem_append.1 hx with hx | hx
                                  · exact HO.out.o.hands t x hx
                                  · simp at hx; subst hx; exact HGB.out), by have := HXS.out.2; simp; omega⟩
                                have ho9 := only_at V9 hvb t (.slice a9 ((Hl' t).length + 1) c9)
                                have HRW9 : Hid (∀ t', t' < n → (V9.setCell ⟨hvb, t, none⟩ (.slice a9 ((Hl' t).length + 1) c9)).ownsRow 0 3 1 (upd Hv' t (.slice a9 ((Hl' t).length + 1) c9) t') (upd Hl' t (Hl' t ++ [gt]) t').length ((upd Hl' t (Hl' t ++ [gt]) t').map (Value.int .i64))) := Lib.hid (fun t' ht' => (by
                                  by_cases e : t' = t
                                  · subst e; rw [upd_at, upd_at]; exact row_keepI hrow (fun r cc hb => hb.rowT h9.hv (by decide) ho9)
                                  · rw [upd_ne _ e, upd_ne _ e]; exact row_keepI (HRW5.out t' ht') (fun r cc hb => (hb.only HAD.out id).rowT h9.hv (by decide) ho9)))
                                have HTB9 := Lib.hid ((HTB5.out.only HAD.out id).rowT h9.hv (by decide) ho9)
                                have HG10 := Lib.hid h10
                                clear h9 h10 hrow ho9
                                refine wpAnyH_ready (rs := [18]) (by kernel_rfl) (by simp) (AllReadyH.cons rfl (fun K hK => ?_) AllReadyH.nil)
                                simp only [List.getElem_toArray, List.getElem_cons_succ, List.getElem_cons_zero]
                                rw [if_pos (by rfl)]
                                go_simp
                                refine hK.out _ _ HG10.out.gcells.2.2.1 (fun hHeld => ?_)
                                clear hK
                                try simp only [Act.put, List.getElem_toArray, List.getElem_cons_succ, List.getElem_cons_zero, List.setIfInBounds_toArray, List.set_cons_zero, List.set_cons_succ]
                                refine wpAnyH_done (by kernel_rfl) ?_ _
                                go_wp2_with fail
                                go_roundw
                                case rel =>
                                  obtain ⟨C', h⟩ := HNX.out _ _ _ none HNN.out.symm HG10.out HL5.out (by rw [HGE.out]; exact HRW9.out) HTB9.out
                                  exact ⟨k + 1, _, _, _, _, _, _, _, _, C', by omega, by go_num, Lib.hid h⟩
                                case measure => simp [intOf]; omega
                            · simp only [List.getElem_toArray, List.getElem_cons_succ, List.getElem_cons_zero]
                              go_simp
                              obtain ⟨Y7, hV2⟩ : ∃ V, Y1.alloc (.cells #[.int .i64 gt] 3) = V := ⟨_, rfl⟩
                              have hA2 : Adds Y1 Y7 := by rw [← hV2]; exact (Only.refl (fun _ => False) Y1).alloc _
                              obtain ⟨g8, hbb⟩ : ∃ q, Y1.heap.size = q := ⟨_, rfl⟩
                              have hblk8 : Blk Y7 g8 #[.int .i64 gt] 3 := by rw [← hV2, ← hbb]; exact Blk.new Y1 _ _
                              have hlow8 : W5.heap.size ≤ g8 := by rw [← hbb]; exact HAD.out.size
                              have HNE := Lib.hid (show g8 ≠ e8 by obtain ⟨c9, hb9⟩ := ownsRow_blk HE8.out (g := e8) rfl; have := hb9.lt; omega)
                              replace HE8 := Lib.hid (row_adds HE8.out hA2)
                              have HG8 : Hid (Y7.cell? ⟨g8, 0, none⟩ = some (.int .i64 gt)) := Lib.hid (hblk8.cell 0)
                              try rw [hV2]
                              try rw [hbb]
                              have hg9 := cellA hHeld hA2
                              replace HAD := Lib.hid (HAD.out.thenF hA2)
                              refine hK.out _ _ hg9 (fun hHeld => ?_)
                              clear hK hV2 hA2 hblk8 hlow8 hbb hg9
                              try simp only [Act.put, List.getElem_toArray, List.getElem_cons_succ, List.getElem_cons_zero, List.setIfInBounds_toArray, List.set_cons_zero, List.set_cons_succ]
                              refine wpAnyH_ready (rs := [12]) (by kernel_rfl) (by simp) (AllReadyH.cons rfl (fun K hK => ?_) AllReadyH.nil)
                              simp only [List.getElem_toArray, List.getElem_cons_succ, List.getElem_cons_zero]
                              rw [if_pos (by rfl)]
                              have p9 : Y7.cell? ⟨hvb, t, none⟩ = some (Hv' t) := cellA p0 HAD.out
                              go_simp
                              refine hK.out _ _ hHeld (fun hHeld => ?_)
                              clear hK p9
                              try simp only [Act.put, List.getElem_toArray, List.getElem_cons_succ, List.getElem_cons_zero, List.setIfInBounds_toArray, List.set_cons_zero, List.set_cons_succ]
                              refine wpAnyH_ready (rs := [13]) (by kernel_rfl) (by simp) (AllReadyH.cons rfl (fun K hK => ?_) AllReadyH.nil)
                              simp only [List.getElem_toArray, List.getElem_cons_succ, List.getElem_cons_zero]
                              rw [if_pos (by rfl)]
                              refine wp_append_src _ _ 54 3 rfl i0 (.int .i64 0) 1 8 Tryz.underlying54 hi hz0 hz1 hz2 rfl (by decide) W5.heap.size _ _ _ rfl HE8.out (Hv' t) _ ((Hl' t).map (Value.int .i64)) rfl (Src.of_owns (row_adds HXS.out.1 HAD.out)) (by simp) (by intro y hy; obtain ⟨z, _, rfl⟩ := List.mem_map.1 hy; rfl) (by have := HXS.out.2; have := HCI.out; unfold maxLen; omega) (by have := HXS.out.2; have := HCI.out; omega) HAD.out.size ?_
                              intro v8 Y9 hR9 hO9
                              have hAo : Adds W5 Y9 := HAD.out.andThen hO9 (fun i hi e => by have := row_base9 HE8.out _ e; omega)
                              have g9 : Y9.cell? ⟨gb, 2, none⟩ = some (.slice (some ⟨hvb, 0, none⟩) n n) := (hAo.cellF (p := ⟨gb, 2, none⟩) (cell_lt g2) id).trans g2
                              replace HG8 := Lib.hid ((hO9.cellF (p := ⟨g8, 0, none⟩) (cell_lt HG8.out) (fun e => HNE.out (by have e9 : some g8 = (Value.slice (some ⟨e8, 0, none⟩) 0 0).ownBlock := e; simpa [Value.ownBlock] using e9))).trans HG8.out)
                              refine hK.out _ _ g9 (fun hHeld => ?_)
                              replace HAD := Lib.hid hAo
                              replace HE8 := Lib.hid hR9
                              clear hK hAo hO9 hR9 g9
                              try simp only [Act.put, List.getElem_toArray, List.getElem_cons_succ, List.getElem_cons_zero, List.setIfInBounds_toArray, List.set_cons_zero, List.set_cons_succ]
                              refine wpAnyH_ready (rs := [16]) (by kernel_rfl) (by simp) (AllReadyH.cons rfl (fun K hK => ?_) AllReadyH.nil)
                              simp only [List.getElem_toArray, List.getElem_cons_succ, List.getElem_cons_zero]
                              rw [if_pos (by rfl)]
                              refine wp_append_src _ _ 54 3 rfl i0 (.int .i64 0) 1 8 Tryz.underlying54 hi hz0 hz1 hz2 rfl (by decide) W5.heap.size _ _ _ rfl HE8.out (.slice (some ⟨g8, 0, none⟩) 1 1) 1 [.int .i64 gt] rfl (.inr (.inl ⟨g8, 0, 1, rfl, fun j y hj => by cases j with | zero => (simp at hj; subst hj; exact HG8.out) | succ j => simp at hj⟩)) rfl (by intro y hy; simp at hy; subst hy; rfl) (by have := HXS.out.2; have := HCI.out; unfold maxLen; omega) (by have := HXS.out.2; have := HCI.out; omega) HAD.out.size ?_
                              intro v9 V9 hR9 hO9
                              have hAo : Adds W5 V9 := HAD.out.andThen hO9 (fun i hi e => by have := row_base9 HE8.out _ e; omega)
                              have g9 : V9.cell? ⟨gb, 2, none⟩ = some (.slice (some ⟨hvb, 0, none⟩) n n) := (hAo.cellF (p := ⟨gb, 2, none⟩) (cell_lt g2) id).trans g2
                              refine hK.out _ _ g9 (fun hHeld => ?_)
                              replace HAD := Lib.hid hAo
                              have HR9 := Lib.hid hR9
                              clear hK hAo hO9 hR9 g9
                              try simp only [Act.put, List.getElem_toArray, List.getElem_cons_succ, List.getElem_cons_zero, List.setIfInBounds_toArray, List.set_cons_zero, List.set_cons_succ]
                              refine wpAnyH_take (i := 17) (v := (.pointer (some ⟨hvb, t, none⟩))) rfl (by kernel_rfl) (by kernel_rfl) (by kernel_rfl) (fun _ _ _ h => h) (Or.inl ⟨by rfl, fun W hS => by first | rfl | (go_simp; done)⟩) hHeld ?_
                              try simp only [Act.put, List.getElem_toArray, List.getElem_cons_succ, List.getElem_cons_zero, List.setIfInBounds_toArray, List.set_cons_zero, List.set_cons_succ]
                              obtain ⟨a9, c9, rfl⟩ := ownsRow_slice HR9.out
                              have h9 := (H5.out.add HAD.out).more (d := 60 + (k + 1)) (by omega)
                              have vf := h9.hv.frozen t; have vc := cellA p0 HAD.out
                              have hrow : V9.ownsRow 0 3 1 (.slice a9 ((Hl' t).length + 1) c9) (Hl' t ++ [gt]).length ((Hl' t ++ [gt]).map (Value.int .i64)) := by
                                have := row_zero HR9.out
                                simpa using this
                              have h10 := h9.setHv t (v := .slice a9 ((Hl' t).length + 1) c9) ⟨Hl' t ++ [gt], hrow, fun x hx => (by
                                rcases List.mem_append.1 hx with hx | hx
                                · exact HO.out.o.hands t x hx
                                · simp at hx; subst hx; exact HGB.out), by have := HXS.out.2; simp; omega⟩
                              have ho9 := only_at V9 hvb t (.slice a9 ((Hl' t).length + 1) c9)
                              have HRW9 : Hid (∀ t', t' < n → (V9.setCell ⟨hvb, t, none⟩ (.slice a9 ((Hl' t).length + 1) c9)).ownsRow 0 3 1 (upd Hv' t (.slice a9 ((Hl' t).length + 1) c9) t') (upd Hl' t (Hl' t ++ [gt]) t').length ((upd Hl' t (Hl' t ++ [gt]) t').map (Value.int .i64))) := Lib.hid (fun t' ht' => (by
                                by_cases e : t' = t
                                · subst e; rw [upd_at, upd_at]; exact row_keepI hrow (fun r cc hb => hb.rowT h9.hv (by decide) ho9)
                                · rw [upd_ne _ e, upd_ne _ e]; exact row_keepI (HRW5.out t' ht') (fun r cc hb => (hb.only HAD.out id).rowT h9.hv (by decide) ho9)))
                              have HTB9 := Lib.hid ((HTB5.out.only HAD.out id).rowT h9.hv (by decide) ho9)
                              have HG10 := Lib.hid h10
                              clear h9 h10 hrow ho9
                              refine wpAnyH_ready (rs := [18]) (by kernel_rfl) (by simp) (AllReadyH.cons rfl (fun K hK => ?_) AllReadyH.nil)
                              simp only [List.getElem_toArray, List.getElem_cons_succ, List.getElem_cons_zero]
                              rw [if_pos (by rfl)]
                              go_simp
                              refine hK.out _ _ HG10.out.gcells.2.2.1 (fun hHeld => ?_)
                              clear hK
                              try simp only [Act.put, List.getElem_toArray, List.getElem_cons_succ, List.getElem_cons_zero, List.setIfInBounds_toArray, List.set_cons_zero, List.set_cons_succ]
                              refine wpAnyH_done (by kernel_rfl) ?_ _
                              go_wp2_with fail
                              go_roundw
                              case rel =>
                                obtain ⟨C', h⟩ := HNX.out _ _ _ none HNN.out.symm HG10.out HL5.out (by rw [HGE.out]; exact HRW9.out) HTB9.out
                                exact ⟨k + 1, _, _, _, _, _, _, _, _, C', by omega, by go_num, Lib.hid h⟩
                              case measure => simp [intOf]; omega
                          · simp only [List.getElem_toArray, List.getElem_cons_succ, List.getElem_cons_zero]
                            rw [if_pos (by rfl)]
                            have p9 : D.cell? ⟨hvb, t, none⟩ = some (Hv' t) := cellA p0 HAD.out
                            go_simp
                            refine hK.out _ _ hHeld (fun hHeld => ?_)
                            clear hK p9
                            try simp only [Act.put, List.getElem_toArray, List.getElem_cons_succ, List.getElem_cons_zero, List.setIfInBounds_toArray, List.set_cons_zero, List.set_cons_succ]
                            refine wpAnyH_ready (rs := [5, 15]) (by kernel_rfl) (by simp) (AllReadyH.cons rfl (fun K hK => ?_) (AllReadyH.cons rfl (fun K hK => ?_) AllReadyH.nil))
                            · simp only [List.getElem_toArray, List.getElem_cons_succ, List.getElem_cons_zero]
                              go_simp
                              obtain ⟨Y11, hV2⟩ : ∃ V, D.alloc (.cells #[] 3) = V := ⟨_, rfl⟩
                              have hA2 : Adds D Y11 := by rw [← hV2]; exact (Only.refl (fun _ => False) D).alloc _
                              obtain ⟨e8, hbb⟩ : ∃ q, D.heap.size = q := ⟨_, rfl⟩
                              have hblk8 : Blk Y11 e8 #[] 3 := by rw [← hV2, ← hbb]; exact Blk.new D _ _
                              have hlow8 : W5.heap.size ≤ e8 := by rw [← hbb]; exact HAD.out.size
                              have HE8 : Hid (Y11.ownsRow W5.heap.size 3 1 (.slice (some ⟨e8, 0, none⟩) 0 0) 0 []) := Lib.hid ⟨rfl, .inr ⟨e8, 0, #[], rfl, hlow8, hblk8, Nat.le_refl _, Nat.zero_le _, rfl, rfl⟩⟩
                              try rw [hV2]
                              try rw [hbb]
                              have hg9 := cellA hHeld hA2
                              replace HAD := Lib.hid (HAD.out.thenF hA2)
                              refine hK.out _ _ hg9 (fun hHeld => ?_)
                              clear hK hV2 hA2 hblk8 hlow8 hbb hg9
                              try simp only [Act.put, List.getElem_toArray, List.getElem_cons_succ, List.getElem_cons_zero, List.setIfInBounds_toArray, List.set_cons_zero, List.set_cons_succ]
                              refine wpAnyH_ready (rs := [13, 15]) (by kernel_rfl) (by simp) (AllReadyH.cons rfl (fun K hK => ?_) (AllReadyH.cons rfl (fun K hK => ?_) AllReadyH.nil))
                              · simp only [List.getElem_toArray, List.getElem_cons_succ, List.getElem_cons_zero]
                                rw [if_pos (by rfl)]
                                refine wp_append_src _ _ 54 3 rfl i0 (.int .i64 0) 1 8 Tryz.underlying54 hi hz0 hz1 hz2 rfl (by decide) W5.heap.size _ _ _ rfl HE8.out (Hv' t) _ ((Hl' t).map (Value.int .i64)) rfl (Src.of_owns (row_adds HXS.out.1 HAD.out)) (by simp) (by intro y hy; obtain ⟨z, _, rfl⟩ := List.mem_map.1 hy; rfl) (by have := HXS.out.2; have := HCI.out; unfold maxLen; omega) (by have := HXS.out.2; have := HCI.out; omega) HAD.out.size ?_
                                intro v8 Y12 hR9 hO9
                                have hAo : Adds W5 Y12 := HAD.out.andThen hO9 (fun i hi e => by have := row_base9 HE8.out _ e; omega)
                                have g9 : Y12.cell? ⟨gb, 2, none⟩ = some (.slice (some ⟨hvb, 0, none⟩) n n) := (hAo.cellF (p := ⟨gb, 2, none⟩) (cell_lt g2) id).trans g2
                                refine hK.out _ _ g9 (fun hHeld => ?_)
                                replace HAD := Lib.hid hAo
                                replace HE8 := Lib.hid hR9
                                clear hK hAo hO9 hR9 g9
                                try simp only [Act.put, List.getElem_toArray, List.getElem_cons_succ, List.getElem_cons_zero, List.setIfInBounds_toArray, List.set_cons_zero, List.set_cons_succ]
                                refine wpAnyH_ready (rs := [15]) (by kernel_rfl) (by simp) (AllReadyH.cons rfl (fun K hK => ?_) AllReadyH.nil)
                                simp only [List.getElem_toArray, List.getElem_cons_succ, List.getElem_cons_zero]
                                go_simp
                                obtain ⟨Y13, hV2⟩ : ∃ V, Y12.alloc (.cells #[.int .i64 gt] 3) = V := ⟨_, rfl⟩
                                have hA2 : Adds Y12 Y13 := by rw [← hV2]; exact (Only.refl (fun _ => False) Y12).alloc _
                                obtain ⟨g8, hbb⟩ : ∃ q, Y12.heap.size = q := ⟨_, rfl⟩
                                have hblk8 : Blk Y13 g8 #[.int .i64 gt] 3 := by rw [← hV2, ← hbb]; exact Blk.new Y12 _ _
                                have hlow8 : W5.heap.size ≤ g8 := by rw [← hbb]; exact HAD.out.size
                                replace HE8 := Lib.hid (row_adds HE8.out hA2)
                                have HG8 : Hid (Y13.cell? ⟨g8, 0, none⟩ = some (.int .i64 gt)) := Lib.hid (hblk8.cell 0)
                                try rw [hV2]
                                try rw [hbb]
                                have hg9 := cellA hHeld hA2
                                replace HAD := Lib.hid (HAD.out.thenF hA2)
                                refine hK.out _ _ hg9 (fun hHeld => ?_)
                                clear hK hV2 hA2 hblk8 hlow8 hbb hg9
                                try simp only [Act.put, List.getElem_toArray, List.getElem_cons_succ, List.getElem_cons_zero, List.setIfInBounds_toArray, List.set_cons_zero, List.set_cons_succ]
                                refine wpAnyH_ready (rs := [16]) (by kernel_rfl) (by simp) (AllReadyH.cons rfl (fun K hK => ?_) AllReadyH.nil)
                                simp only [List.getElem_toArray, List.getElem_cons_succ, List.getElem_cons_zero]
                                rw [if_pos (by rfl)]
                                refine wp_append_src _ _ 54 3 rfl i0 (.int .i64 0) 1 8 Tryz.underlying54 hi hz0 hz1 hz2 rfl (by decide) W5.heap.size _ _ _ rfl HE8.out (.slice (some ⟨g8, 0, none⟩) 1 1) 1 [.int .i64 gt] rfl (.inr (.inl ⟨g8, 0, 1, rfl, fun j y hj => by cases j with | zero => (simp at hj; subst hj; exact HG8.out) | succ j => simp at hj⟩)) rfl (by intro y hy; simp at hy; subst hy; rfl) (by have := HXS.out.2; have := HCI.out; unfold maxLen; omega) (by have := HXS.out.2; have := HCI.out; omega) HAD.out.size ?_
                                intro v9 V9 hR9 hO9
                                have hAo : Adds W5 V9 := HAD.out.andThen hO9 (fun i hi e => by have := row_base9 HE8.out _ e; omega)
                                have g9 : V9.cell? ⟨gb, 2, none⟩ = some (.slice (some ⟨hvb, 0, none⟩) n n) := (hAo.cellF (p := ⟨gb, 2, none⟩) (cell_lt g2) id).trans g2
                                refine hK.out _ _ g9 (fun hHeld => ?_)
                                replace HAD := Lib.hid hAo
                                have HR9 := Lib.hid hR9
                                clear hK hAo hO9 hR9 g9
                                try simp only [Act.put, List.getElem_toArray, List.getElem_cons_succ, List.getElem_cons_zero, List.setIfInBounds_toArray, List.set_cons_zero, List.set_cons_succ]
                                refine wpAnyH_take (i := 17) (v := (.pointer (some ⟨hvb, t, none⟩))) rfl (by kernel_rfl) (by kernel_rfl) (by kernel_rfl) (fun _ _ _ h => h) (Or.inl ⟨by rfl, fun W hS => by first | rfl | (go_simp; done)⟩) hHeld ?_
                                try simp only [Act.put, List.getElem_toArray, List.getElem_cons_succ, List.getElem_cons_zero, List.setIfInBounds_toArray, List.set_cons_zero, List.set_cons_succ]
                                obtain ⟨a9, c9, rfl⟩ := ownsRow_slice HR9.out
                                have h9 := (H5.out.add HAD.out).more (d := 60 + (k + 1)) (by omega)
                                have vf := h9.hv.frozen t; have vc := cellA p0 HAD.out
                                have hrow : V9.ownsRow 0 3 1 (.slice a9 ((Hl' t).length + 1) c9) (Hl' t ++ [gt]).length ((Hl' t ++ [gt]).map (Value.int .i64)) := by
                                  have := row_zero HR9.out
                                  simpa using this
                                have h10 := h9.setHv t (v := .slice a9 ((Hl' t).length + 1) c9) ⟨Hl' t ++ [gt], hrow, fun x hx => (by
                                  rcases List.mem_append.1 hx with hx | hx
                                  · exact HO.out.o.hands t x hx
                                  · simp at hx; subst hx; exact HGB.out), by have := HXS.out.2; simp; omega⟩
                                have ho9 := only_at V9 hvb t (.slice a9 ((Hl' t).length + 1) c9)
                                have HRW9 : Hid (∀ t', t' < n → (V9.setCell ⟨hvb, t, none⟩ (.slice a9 ((Hl' t).length + 1) c9)).ownsRow 0 3 1 (upd Hv' t (.slice a9 ((Hl' t).length + 1) c9) t') (upd Hl' t (Hl' t ++ [gt]) t').length ((upd Hl' t (Hl' t ++ [gt]) t').map (Value.int .i64))) := Lib.hid (fun t' ht' => (by
                                  by_cases e : t' = t
                                  · subst e; rw [upd_at, upd_at]; exact row_keepI hrow (fun r cc hb => hb.rowT h9.hv (by decide) ho9)
                                  · rw [upd_ne _ e, upd_ne _ e]; exact row_keepI (HRW5.out t' ht') (fun r cc hb => (hb.only HAD.out id).rowT h9.hv (by decide) ho9)))
                                have HTB9 := Lib.hid ((HTB5.out.only HAD.out id).rowT h9.hv (by decide) ho9)
                                have HG10 := Lib.hid h10
                                clear h9 h10 hrow ho9
                                refine wpAnyH_ready (rs := [18]) (by kernel_rfl) (by simp) (AllReadyH.cons rfl (fun K hK => ?_) AllReadyH.nil)
                                simp only [List.getElem_toArray, List.getElem_cons_succ, List.getElem_cons_zero]
                                rw [if_pos (by rfl)]
                                go_simp
                                refine hK.out _ _ HG10.out.gcells.2.2.1 (fun hHeld => ?_)
                                clear hK
                                try simp only [Act.put, List.getElem_toArray, List.getElem_cons_succ, List.getElem_cons_zero, List.setIfInBounds_toArray, List.set_cons_zero, List.set_cons_succ]
                                refine wpAnyH_done (by kernel_rfl) ?_ _
                                go_wp2_with fail
                                go_roundw
                                case rel =>
                                  obtain ⟨C', h⟩ := HNX.out _ _ _ none HNN.out.symm HG10.out HL5.out (by rw [HGE.out]; exact HRW9.out) HTB9.out
                                  exact ⟨k + 1, _, _, _, _, _, _, _, _, C', by omega, by go_num, Lib.hid h⟩
                                case measure => simp [intOf]; omega
                              · simp only [List.getElem_toArray, List.getElem_cons_succ, List.getElem_cons_zero]
                                go_simp
                                obtain ⟨Y14, hV2⟩ : ∃ V, Y11.alloc (.cells #[.int .i64 gt] 3) = V := ⟨_, rfl⟩
                                have hA2 : Adds Y11 Y14 := by rw [← hV2]; exact (Only.refl (fun _ => False) Y11).alloc _
                                obtain ⟨g8, hbb⟩ : ∃ q, Y11.heap.size = q := ⟨_, rfl⟩
                                have hblk8 : Blk Y14 g8 #[.int .i64 gt] 3 := by rw [← hV2, ← hbb]; exact Blk.new Y11 _ _
                                have hlow8 : W5.heap.size ≤ g8 := by rw [← hbb]; exact HAD.out.size
                                have HNE := Lib.hid (show g8 ≠ e8 by obtain ⟨c9, hb9⟩ := ownsRow_blk HE8.out (g := e8) rfl; have := hb9.lt; omega)
                                replace HE8 := Lib.hid (row_adds HE8.out hA2)
                                have HG8 : Hid (Y14.cell? ⟨g8, 0, none⟩ = some (.int .i64 gt)) := Lib.hid (hblk8.cell 0)
                                try rw [hV2]
                                try rw [hbb]
                                have hg9 := cellA hHeld hA2
                                replace HAD := Lib.hid (HAD.out.thenF hA2)
                                refine hK.out _ _ hg9 (fun hHeld => ?_)
                                clear hK hV2 hA2 hblk8 hlow8 hbb hg9
                                try simp only [Act.put, List.getElem_toArray, List.getElem_cons_succ, List.getElem_cons_zero, List.setIfInBounds_toArray, List.set_cons_zero, List.set_cons_succ]
                                refine wpAnyH_ready (rs := [13]) (by kernel_rfl) (by simp) (AllReadyH.cons rfl (fun K hK => ?_) AllReadyH.nil)
                                simp only [List.getElem_toArray, List.getElem_cons_succ, List.getElem_cons_zero]
                                rw [if_pos (by rfl)]
                                refine wp_append_src _ _ 54 3 rfl i0 (.int .i64 0) 1 8 Tryz.underlying54 hi hz0 hz1 hz2 rfl (by decide) W5.heap.size _ _ _ rfl HE8.out (Hv' t) _ ((Hl' t).map (Value.int .i64)) rfl (Src.of_owns (row_adds HXS.out.1 HAD.out)) (by simp) (by intro y hy; obtain ⟨z, _, rfl⟩ := List.mem_map.1 hy; rfl) (by have := HXS.out.2; have := HCI.out; unfold maxLen; omega) (by have := HXS.out.2; have := HCI.out; omega) HAD.out.size ?_
                                intro v8 Y15 hR9 hO9
                                have hAo : Adds W5 Y15 := HAD.out.andThen hO9 (fun i hi e => by have := row_base9 HE8.out _ e; omega)
                                have g9 : Y15.cell? ⟨gb, 2, none⟩ = some (.slice (some ⟨hvb, 0, none⟩) n n) := (hAo.cellF (p := ⟨gb, 2, none⟩) (cell_lt g2) id).trans g2
                                replace HG8 := Lib.hid ((hO9.cellF (p := ⟨g8, 0, none⟩) (cell_lt HG8.out) (fun e => HNE.out (by have e9 : some g8 = (Value.slice (some ⟨e8, 0, none⟩) 0 0).ownBlock := e; simpa [Value.ownBlock] using e9))).trans HG8.out)
                                refine hK.out _ _ g9 (fun hHeld => ?_)
                                replace HAD := Lib.hid hAo
                                replace HE8 := Lib.hid hR9
                                clear hK hAo hO9 hR9 g9
                                try simp only [Act.put, List.getElem_toArray, List.getElem_cons_succ, List.getElem_cons_zero, List.setIfInBounds_toArray, List.set_cons_zero, List.set_cons_succ]
                                refine wpAnyH_ready (rs := [16]) (by kernel_rfl) (by simp) (AllReadyH.cons rfl (fun K hK => ?_) AllReadyH.nil)
                                simp only [List.getElem_toArray, List.getElem_cons_succ, List.getElem_cons_zero]
                                rw [if_pos (by rfl)]
                                refine wp_append_src _ _ 54 3 rfl i0 (.int .i64 0) 1 8 Tryz.underlying54 hi hz0 hz1 hz2 rfl (by decide) W5.heap.size _ _ _ rfl HE8.out (.slice (some ⟨g8, 0, none⟩) 1 1) 1 [.int .i64 gt] rfl (.inr (.inl ⟨g8, 0, 1, rfl, fun j y hj => by cases j with | zero => (simp at hj; subst hj; exact HG8.out) | succ j => simp at hj⟩)) rfl (by intro y hy; simp at hy; subst hy; rfl) (by have := HXS.out.2; have := HCI.out; unfold maxLen; omega) (by have := HXS.out.2; have := HCI.out; omega) HAD.out.size ?_
                                intro v9 V9 hR9 hO9
                                have hAo : Adds W5 V9 := HAD.out.andThen hO9 (fun i hi e => by have := row_base9 HE8.out _ e; omega)
                                have g9 : V9.cell? ⟨gb, 2, none⟩ = some (.slice (some ⟨hvb, 0, none⟩) n n) := (hAo.cellF (p := ⟨gb, 2, none⟩) (cell_lt g2) id).trans g2
                                refine hK.out _ _ g9 (fun hHeld => ?_)
                                replace HAD := Lib.hid hAo
                                have HR9 := Lib.hid hR9
                                clear hK hAo hO9 hR9 g9
                                try simp only [Act.put, List.getElem_toArray, List.getElem_cons_succ, List.getElem_cons_zero, List.setIfInBounds_toArray, List.set_cons_zero, List.set_cons_succ]
                                refine wpAnyH_take (i := 17) (v := (.pointer (some ⟨hvb, t, none⟩))) rfl (by kernel_rfl) (by kernel_rfl) (by kernel_rfl) (fun _ _ _ h => h) (Or.inl ⟨by rfl, fun W hS => by first | rfl | (go_simp; done)⟩) hHeld ?_
                                try simp only [Act.put, List.getElem_toArray, List.getElem_cons_succ, List.getElem_cons_zero, List.setIfInBounds_toArray, List.set_cons_zero, List.set_cons_succ]
                                obtain ⟨a9, c9, rfl⟩ := ownsRow_slice HR9.out
                                have h9 := (H5.out.add HAD.out).more (d := 60 + (k + 1)) (by omega)
                                have vf := h9.hv.frozen t; have vc := cellA p0 HAD.out
                                have hrow : V9.ownsRow 0 3 1 (.slice a9 ((Hl' t).length + 1) c9) (Hl' t ++ [gt]).length ((Hl' t ++ [gt]).map (Value.int .i64)) := by
                                  have := row_zero HR9.out
                                  simpa using this
                                have h10 := h9.setHv t (v := .slice a9 ((Hl' t).length + 1) c9) ⟨Hl' t ++ [gt], hrow, fun x hx => (by
                                  rcases List.mem_append.1 hx with hx | hx
                                  · exact HO.out.o.hands t x hx
                                  · simp at hx; subst hx; exact HGB.out), by have := HXS.out.2; simp; omega⟩
                                have ho9 := only_at V9 hvb t (.slice a9 ((Hl' t).length + 1) c9)
                                have HRW9 : Hid (∀ t', t' < n → (V9.setCell ⟨hvb, t, none⟩ (.slice a9 ((Hl' t).length + 1) c9)).ownsRow 0 3 1 (upd Hv' t (.slice a9 ((Hl' t).length + 1) c9) t') (upd Hl' t (Hl' t ++ [gt]) t').length ((upd Hl' t (Hl' t ++ [gt]) t').map (Value.int .i64))) := Lib.hid (fun t' ht' => (by
                                  by_cases e : t' = t
                                  · subst e; rw [upd_at, upd_at]; exact row_keepI hrow (fun r cc hb => hb.rowT h9.hv (by decide) ho9)
                                  · rw [upd_ne _ e, upd_ne _ e]; exact row_keepI (HRW5.out t' ht') (fun r cc hb => (hb.only HAD.out id).rowT h9.hv (by decide) ho9)))
                                have HTB9 := Lib.hid ((HTB5.out.only HAD.out id).rowT h9.hv (by decide) ho9)
                                have HG10 := Lib.hid h10
                                clear h9 h10 hrow ho9
                                refine wpAnyH_ready (rs := [18]) (by kernel_rfl) (by simp) (AllReadyH.cons rfl (fun K hK => ?_) AllReadyH.nil)
                                simp only [List.getElem_toArray, List.getElem_cons_succ, List.getElem_cons_zero]
                                rw [if_pos (by rfl)]
                                go_simp
                                refine hK.out _ _ HG10.out.gcells.2.2.1 (fun hHeld => ?_)
                                clear hK
                                try simp only [Act.put, List.getElem_toArray, List.getElem_cons_succ, List.getElem_cons_zero, List.setIfInBounds_toArray, List.set_cons_zero, List.set_cons_succ]
                                refine wpAnyH_done (by kernel_rfl) ?_ _
                                go_wp2_with fail
                                go_roundw
                                case rel =>
                                  obtain ⟨C', h⟩ := HNX.out _ _ _ none HNN.out.symm HG10.out HL5.out (by rw [HGE.out]; exact HRW9.out) HTB9.out
                                  exact ⟨k + 1, _, _, _, _, _, _, _, _, C', by omega, by go_num, Lib.hid h⟩
                                case measure => simp [intOf]; omega
                            · simp only [List.getElem_toArray, List.getElem_cons_succ, List.getElem_cons_zero]
                              go_simp
                              obtain ⟨Y16, hV2⟩ : ∃ V, D.alloc (.cells #[.int .i64 gt] 3) = V := ⟨_, rfl⟩
                              have hA2 : Adds D Y16 := by rw [← hV2]; exact (Only.refl (fun _ => False) D).alloc _
                              obtain ⟨g8, hbb⟩ : ∃ q, D.heap.size = q := ⟨_, rfl⟩
                              have hblk8 : Blk Y16 g8 #[.int .i64 gt] 3 := by rw [← hV2, ← hbb]; exact Blk.new D _ _
                              have hlow8 : W5.heap.size ≤ g8 := by rw [← hbb]; exact HAD.out.size
                              have HG8 : Hid (Y16.cell? ⟨g8, 0, none⟩ = some (.int .i64 gt)) := Lib.hid (hblk8.cell 0)
                              try rw [hV2]
                              try rw [hbb]
                              have hg9 := cellA hHeld hA2
                              replace HAD := Lib.hid (HAD.out.thenF hA2)
                              refine hK.out _ _ hg9 (fun hHeld => ?_)
                              clear hK hV2 hA2 hblk8 hlow8 hbb hg9
                              try simp only [Act.put, List.getElem_toArray, List.getElem_cons_succ, List.getElem_cons_zero, List.setIfInBounds_toArray, List.set_cons_zero, List.set_cons_succ]
                              refine wpAnyH_ready (rs := [5]) (by kernel_rfl) (by simp) (AllReadyH.cons rfl (fun K hK => ?_) AllReadyH.nil)
                              simp only [List.getElem_toArray, List.getElem_cons_succ, List.getElem_cons_zero]
                              go_simp
                              obtain ⟨Y17, hV2⟩ : ∃ V, Y16.alloc (.cells #[] 3) = V := ⟨_, rfl⟩
                              have hA2 : Adds Y16 Y17 := by rw [← hV2]; exact (Only.refl (fun _ => False) Y16).alloc _
                              obtain ⟨e8, hbb⟩ : ∃ q, Y16.heap.size = q := ⟨_, rfl⟩
                              have hblk8 : Blk Y17 e8 #[] 3 := by rw [← hV2, ← hbb]; exact Blk.new Y16 _ _
                              have hlow8 : W5.heap.size ≤ e8 := by rw [← hbb]; exact HAD.out.size
                              have HNE := Lib.hid (show g8 ≠ e8 by have := cell_lt HG8.out; omega)
                              have HE8 : Hid (Y17.ownsRow W5.heap.size 3 1 (.slice (some ⟨e8, 0, none⟩) 0 0) 0 []) := Lib.hid ⟨rfl, .inr ⟨e8, 0, #[], rfl, hlow8, hblk8, Nat.le_refl _, Nat.zero_le _, rfl, rfl⟩⟩
                              replace HG8 := Lib.hid (cellA HG8.out hA2)
                              try rw [hV2]
                              try rw [hbb]
                              have hg9 := cellA hHeld hA2
                              replace HAD := Lib.hid (HAD.out.thenF hA2)
                              refine hK.out _ _ hg9 (fun hHeld => ?_)
                              clear hK hV2 hA2 hblk8 hlow8 hbb hg9
                              try simp only [Act.put, List.getElem_toArray, List.getElem_cons_succ, List.getElem_cons_zero, List.setIfInBounds_toArray, List.set_cons_zero, List.set_cons_succ]
                              refine wpAnyH_ready (rs := [13]) (by kernel_rfl) (by simp) (AllReadyH.cons rfl (fun K hK => ?_) AllReadyH.nil)
                              simp only [List.getElem_toArray, List.getElem_cons_succ, List.getElem_cons_zero]
                              rw [if_pos (by rfl)]
                              refine wp_append_src _ _ 54 3 rfl i0 (.int .i64 0) 1 8 Tryz.underlying54 hi hz0 hz1 hz2 rfl (by decide) W5.heap.size _ _ _ rfl HE8.out (Hv' t) _ ((Hl' t).map (Value.int .i64)) rfl (Src.of_owns (row_adds HXS.out.1 HAD.out)) (by simp) (by intro y hy; obtain ⟨z, _, rfl⟩ := List.mem_map.1 hy; rfl) (by have := HXS.out.2; have := HCI.out; unfold maxLen; omega) (by have := HXS.out.2; have := HCI.out; omega) HAD.out.size ?_
                              intro v8 Y18 hR9 hO9
                              have hAo : Adds W5 Y18 := HAD.out.andThen hO9 (fun i hi e => by have := row_base9 HE8.out _ e; omega)
                              have g9 : Y18.cell? ⟨gb, 2, none⟩ = some (.slice (some ⟨hvb, 0, none⟩) n n) := (hAo.cellF (p := ⟨gb, 2, none⟩) (cell_lt g2) id).trans g2
                              replace HG8 := Lib.hid ((hO9.cellF (p := ⟨g8, 0, none⟩) (cell_lt HG8.out) (fun e => HNE.out (by have e9 : some g8 = (Value.slice (some ⟨e8, 0, none⟩) 0 0).ownBlock := e; simpa [Value.ownBlock] using e9))).trans HG8.out)
                              refine hK.out _ _ g9 (fun hHeld => ?_)
                              replace HAD := Lib.hid hAo
                              replace HE8 := Lib.hid hR9
                              clear hK hAo hO9 hR9 g9
                              try simp only [Act.put, List.getElem_toArray, List.getElem_cons_succ, List.getElem_cons_zero, List.setIfInBounds_toArray, List.set_cons_zero, List.set_cons_succ]
                              refine wpAnyH_ready (rs := [16]) (by kernel_rfl) (by simp) (AllReadyH.cons rfl (fun K hK => ?_) AllReadyH.nil)
                              simp only [List.getElem_toArray, List.getElem_cons_succ, List.getElem_cons_zero]
                              rw [if_pos (by rfl)]
                              refine wp_append_src _ _ 54 3 rfl i0 (.int .i64 0) 1 8 Tryz.underlying54 hi hz0 hz1 hz2 rfl (by decide) W5.heap.size _ _ _ rfl HE8.out (.slice (some ⟨g8, 0, none⟩) 1 1) 1 [.int .i64 gt] rfl (.inr (.inl ⟨g8, 0, 1, rfl, fun j y hj => by cases j with | zero => (simp at hj; subst hj; exact HG8.out) | succ j => simp at hj⟩)) rfl (by intro y hy; simp at hy; subst hy; rfl) (by have := HXS.out.2; have := HCI.out; unfold maxLen; omega) (by have := HXS.out.2; have := HCI.out; omega) HAD.out.size ?_
                              intro v9 V9 hR9 hO9
                              have hAo : Adds W5 V9 := HAD.out.andThen hO9 (fun i hi e => by have := row_base9 HE8.out _ e; omega)
                              have g9 : V9.cell? ⟨gb, 2, none⟩ = some (.slice (some ⟨hvb, 0, none⟩) n n) := (hAo.cellF (p := ⟨gb, 2, none⟩) (cell_lt g2) id).trans g2
                              refine hK.out _ _ g9 (fun hHeld => ?_)
                              replace HAD := Lib.hid hAo
                              have HR9 := Lib.hid hR9
                              clear hK hAo hO9 hR9 g9
                              try simp only [Act.put, List.getElem_toArray, List.getElem_cons_succ, List.getElem_cons_zero, List.setIfInBounds_toArray, List.set_cons_zero, List.set_cons_succ]
                              refine wpAnyH_take (i := 17) (v := (.pointer (some ⟨hvb, t, none⟩))) rfl (by kernel_rfl) (by kernel_rfl) (by kernel_rfl) (fun _ _ _ h => h) (Or.inl ⟨by rfl, fun W hS => by first | rfl | (go_simp; done)⟩) hHeld ?_
                              try simp only [Act.put, List.getElem_toArray, List.getElem_cons_succ, List.getElem_cons_zero, List.setIfInBounds_toArray, List.set_cons_zero, List.set_cons_succ]
                              obtain ⟨a9, c9, rfl⟩ := ownsRow_slice HR9.out
                              have h9 := (H5.out.add HAD.out).more (d := 60 + (k + 1)) (by omega)
                              have vf := h9.hv.frozen t; have vc := cellA p0 HAD.out
                              have hrow : V9.ownsRow 0 3 1 (.slice a9 ((Hl' t).length + 1) c9) (Hl' t ++ [gt]).length ((Hl' t ++ [gt]).map (Value.int .i64)) := by
                                have := row_zero HR9.out
                                simpa using this
                              have h10 := h9.setHv t (v := .slice a9 ((Hl' t).length + 1) c9) ⟨Hl' t ++ [gt], hrow, fun x hx => (by
                                rcases List.mem_append.1 hx with hx | hx
                                · exact HO.out.o.hands t x hx
                                · simp at hx; subst hx; exact HGB.out), by have := HXS.out.2; simp; omega⟩
                              have ho9 := only_at V9 hvb t (.slice a9 ((Hl' t).length + 1) c9)
                              have HRW9 : Hid (∀ t', t' < n → (V9.setCell ⟨hvb, t, none⟩ (.slice a9 ((Hl' t).length + 1) c9)).ownsRow 0 3 1 (upd Hv' t (.slice a9 ((Hl' t).length + 1) c9) t') (upd Hl' t (Hl' t ++ [gt]) t').length ((upd Hl' t (Hl' t ++ [gt]) t').map (Value.int .i64))) := Lib.hid (fun t' ht' => (by
                                by_cases e : t' = t
                                · subst e; rw [upd_at, upd_at]; exact row_keepI hrow (fun r cc hb => hb.rowT h9.hv (by decide) ho9)
                                · rw [upd_ne _ e, upd_ne _ e]; exact row_keepI (HRW5.out t' ht') (fun r cc hb => (hb.only HAD.out id).rowT h9.hv (by decide) ho9)))
                              have HTB9 := Lib.hid ((HTB5.out.only HAD.out id).rowT h9.hv (by decide) ho9)
                              have HG10 := Lib.hid h10
                              clear h9 h10 hrow ho9
                              refine wpAnyH_ready (rs := [18]) (by kernel_rfl) (by simp) (AllReadyH.cons rfl (fun K hK => ?_) AllReadyH.nil)
                              simp only [List.getElem_toArray, List.getElem_cons_succ, List.getElem_cons_zero]
                              rw [if_pos (by rfl)]
                              go_simp
                              refine hK.out _ _ HG10.out.gcells.2.2.1 (fun hHeld => ?_)
                              clear hK
                              try simp only [Act.put, List.getElem_toArray, List.getElem_cons_succ, List.getElem_cons_zero, List.setIfInBounds_toArray, List.set_cons_zero, List.set_cons_succ]
                              refine wpAnyH_done (by kernel_rfl) ?_ _
                              go_wp2_with fail
                              go_roundw
                              case rel =>
                                obtain ⟨C', h⟩ := HNX.out _ _ _ none HNN.out.symm HG10.out HL5.out (by rw [HGE.out]; exact HRW9.out) HTB9.out
                                exact ⟨k + 1, _, _, _, _, _, _, _, _, C', by omega, by go_num, Lib.hid h⟩
                              case measure => simp [intOf]; omega
                          · simp only [List.getElem_toArray, List.getElem_cons_succ, List.getElem_cons_zero]
                            go_simp
                            obtain ⟨Y19, hV2⟩ : ∃ V, D.alloc (.cells #[.int .i64 gt] 3) = V := ⟨_, rfl⟩
                            have hA2 : Adds D Y19 := by rw [← hV2]; exact (Only.refl (fun _ => False) D).alloc _
                            obtain ⟨g8, hbb⟩ : ∃ q, D.heap.size = q := ⟨_, rfl⟩
                            have hblk8 : Blk Y19 g8 #[.int .i64 gt] 3 := by rw [← hV2, ← hbb]; exact Blk.new D _ _
                            have hlow8 : W5.heap.size ≤ g8 := by rw [← hbb]; exact HAD.out.size
                            have HG8 : Hid (Y19.cell? ⟨g8, 0, none⟩ = some (.int .i64 gt)) := Lib.hid (hblk8.cell 0)
                            try rw [hV2]
                            try rw [hbb]
                            have hg9 := cellA hHeld hA2
                            replace HAD := Lib.hid (HAD.out.thenF hA2)
                            refine hK.out _ _ hg9 (fun hHeld => ?_)
                            clear hK hV2 hA2 hblk8 hlow8 hbb hg9
                            try simp only [Act.put, List.getElem_toArray, List.getElem_cons_succ, List.getElem_cons_zero, List.setIfInBounds_toArray, List.set_cons_zero, List.set_cons_succ]
                            refine wpAnyH_ready (rs := [5, 12]) (by kernel_rfl) (by simp) (AllReadyH.cons rfl (fun K hK => ?_) (AllReadyH.cons rfl (fun K hK => ?_) AllReadyH.nil))
                            · simp only [List.getElem_toArray, List.getElem_cons_succ, List.getElem_cons_zero]
                              go_simp
                              obtain ⟨Y20, hV2⟩ : ∃ V, Y19.alloc (.cells #[] 3) = V := ⟨_, rfl⟩
                              have hA2 : Adds Y19 Y20 := by rw [← hV2]; exact (Only.refl (fun _ => False) Y19).alloc _
                              obtain ⟨e8, hbb⟩ : ∃ q, Y19.heap.size = q := ⟨_, rfl⟩
                              have hblk8 : Blk Y20 e8 #[] 3 := by rw [← hV2, ← hbb]; exact Blk.new Y19 _ _
                              have hlow8 : W5.heap.size ≤ e8 := by rw [← hbb]; exact HAD.out.size
                              have HNE := Lib.hid (show g8 ≠ e8 by have := cell_lt HG8.out; omega)
                              have HE8 : Hid (Y20.ownsRow W5.heap.size 3 1 (.slice (some ⟨e8, 0, none⟩) 0 0) 0 []) := Lib.hid ⟨rfl, .inr ⟨e8, 0, #[], rfl, hlow8, hblk8, Nat.le_refl _, Nat.zero_le _, rfl, rfl⟩⟩
                              replace HG8 := Lib.hid (cellA HG8.out hA2)
                              try rw [hV2]
                              try rw [hbb]
                              have hg9 := cellA hHeld hA2
                              replace HAD := Lib.hid (HAD.out.thenF hA2)
                              refine hK.out _ _ hg9 (fun hHeld => ?_)
                              clear hK hV2 hA2 hblk8 hlow8 hbb hg9
                              try simp only [Act.put, List.getElem_toArray, List.getElem_cons_succ, List.getElem_cons_zero, List.setIfInBounds_toArray, List.set_cons_zero, List.set_cons_succ]
                              refine wpAnyH_ready (rs := [12]) (by kernel_rfl) (by simp) (AllReadyH.cons rfl (fun K hK => ?_) AllReadyH.nil)
                              simp only [List.getElem_toArray, List.getElem_cons_succ, List.getElem_cons_zero]
                              rw [if_pos (by rfl)]
                              have p9 : Y20.cell? ⟨hvb, t, none⟩ = some (Hv' t) := cellA p0 HAD.out
                              go_simp
                              refine hK.out _ _ hHeld (fun hHeld => ?_)
                              clear hK p9
                              try simp only [Act.put, List.getElem_toArray, List.getElem_cons_succ, List.getElem_cons_zero, List.setIfInBounds_toArray, List.set_cons_zero, List.set_cons_succ]
                              refine wpAnyH_ready (rs := [13]) (by kernel_rfl) (by simp) (AllReadyH.cons rfl (fun K hK => ?_) AllReadyH.nil)
                              simp only [List.getElem_toArray, List.getElem_cons_succ, List.getElem_cons_zero]
                              rw [if_pos (by rfl)]
                              refine wp_append_src _ _ 54 3 rfl i0 (.int .i64 0) 1 8 Tryz.underlying54 hi hz0 hz1 hz2 rfl (by decide) W5.heap.size _ _ _ rfl HE8.out (Hv' t) _ ((Hl' t).map (Value.int .i64)) rfl (Src.of_owns (row_adds HXS.out.1 HAD.out)) (by simp) (by intro y hy; obtain ⟨z, _, rfl⟩ := List.mem_map.1 hy; rfl) (by have := HXS.out.2; have := HCI.out; unfold maxLen; omega) (by have := HXS.out.2; have := HCI.out; omega) HAD.out.size ?_
                              intro v8 Y22 hR9 hO9
                              have hAo : Adds W5 Y22 := HAD.out.andThen hO9 (fun i hi e => by have := row_base9 HE8.out _ e; omega)
                              have g9 : Y22.cell? ⟨gb, 2, none⟩ = some (.slice (some ⟨hvb, 0, none⟩) n n) := (hAo.cellF (p := ⟨gb, 2, none⟩) (cell_lt g2) id).trans g2
                              replace HG8 := Lib.hid ((hO9.cellF (p := ⟨g8, 0, none⟩) (cell_lt HG8.out) (fun e => HNE.out (by have e9 : some g8 = (Value.slice (some ⟨e8, 0, none⟩) 0 0).ownBlock := e; simpa [Value.ownBlock] using e9))).trans HG8.out)
                              refine hK.out _ _ g9 (fun hHeld => ?_)
                              replace HAD := Lib.hid hAo
                              replace HE8 := Lib.hid hR9
                              clear hK hAo hO9 hR9 g9
                              try simp only [Act.put, List.getElem_toArray, List.getElem_cons_succ, List.getElem_cons_zero, List.setIfInBounds_toArray, List.set_cons_zero, List.set_cons_succ]
                              refine wpAnyH_ready (rs := [16]) (by kernel_rfl) (by simp) (AllReadyH.cons rfl (fun K hK => ?_) AllReadyH.nil)
                              simp only [List.getElem_toArray, List.getElem_cons_succ, List.getElem_cons_zero]
                              rw [if_pos (by rfl)]
                              refine wp_append_src _ _ 54 3 rfl i0 (.int .i64 0) 1 8 Tryz.underlying54 hi hz0 hz1 hz2 rfl (by decide) W5.heap.size _ _ _ rfl HE8.out (.slice (some ⟨g8, 0, none⟩) 1 1) 1 [.int .i64 gt] rfl (.inr (.inl ⟨g8, 0, 1, rfl, fun j y hj => by cases j with | zero => (simp at hj; subst hj; exact HG8.out) | succ j => simp at hj⟩)) rfl (by intro y hy; simp at hy; subst hy; rfl) (by have := HXS.out.2; have := HCI.out; unfold maxLen; omega) (by have := HXS.out.2; have := HCI.out; omega) HAD.out.size ?_
                              intro v9 V9 hR9 hO9
                              have hAo : Adds W5 V9 := HAD.out.andThen hO9 (fun i hi e => by have := row_base9 HE8.out _ e; omega)
                              have g9 : V9.cell? ⟨gb, 2, none⟩ = some (.slice (some ⟨hvb, 0, none⟩) n n) := (hAo.cellF (p := ⟨gb, 2, none⟩) (cell_lt g2) id).trans g2
                              refine hK.out _ _ g9 (fun hHeld => ?_)
                              replace HAD := Lib.hid hAo
                              have HR9 := Lib.hid hR9
                              clear hK hAo hO9 hR9 g9
                              try simp only [Act.put, List.getElem_toArray, List.getElem_cons_succ, List.getElem_cons_zero, List.setIfInBounds_toArray, List.set_cons_zero, List.set_cons_succ]
                              refine wpAnyH_take (i := 17) (v := (.pointer (some ⟨hvb, t, none⟩))) rfl (by kernel_rfl) (by kernel_rfl) (by kernel_rfl) (fun _ _ _ h => h) (Or.inl ⟨by rfl, fun W hS => by first | rfl | (go_simp; done)⟩) hHeld ?_
                              try simp only [Act.put, List.getElem_toArray, List.getElem_cons_succ, List.getElem_cons_zero, List.setIfInBounds_toArray, List.set_cons_zero, List.set_cons_succ]
                              obtain ⟨a9, c9, rfl⟩ := ownsRow_slice HR9.out
                              have h9 := (H5.out.add HAD.out).more (d := 60 + (k + 1)) (by omega)
                              have vf := h9.hv.frozen t; have vc := cellA p0 HAD.out
                              have hrow : V9.ownsRow 0 3 1 (.slice a9 ((Hl' t).length + 1) c9) (Hl' t ++ [gt]).length ((Hl' t ++ [gt]).map (Value.int .i64)) := by
                                have := row_zero HR9.out
                                simpa using this
                              have h10 := h9.setHv t (v := .slice a9 ((Hl' t).length + 1) c9) ⟨Hl' t ++ [gt], hrow, fun x hx => (by
                                rcases List.mem_append.1 hx with hx | hx
                                · exact HO.out.o.hands t x hx
                                · simp at hx; subst hx; exact HGB.out), by have := HXS.out.2; simp; omega⟩
                              have ho9 := only_at V9 hvb t (.slice a9 ((Hl' t).length + 1) c9)
                              have HRW9 : Hid (∀ t', t' < n → (V9.setCell ⟨hvb, t, none⟩ (.slice a9 ((Hl' t).length + 1) c9)).ownsRow 0 3 1 (upd Hv' t (.slice a9 ((Hl' t).length + 1) c9) t') (upd Hl' t (Hl' t ++ [gt]) t').length ((upd Hl' t (Hl' t ++ [gt]) t').map (Value.int .i64))) := Lib.hid (fun t' ht' => (by
                                by_cases e : t' = t
                                · subst e; rw [upd_at, upd_at]; exact row_keepI hrow (fun r cc hb => hb.rowT h9.hv (by decide) ho9)
                                · rw [upd_ne _ e, upd_ne _ e]; exact row_keepI (HRW5.out t' ht') (fun r cc hb => (hb.only HAD.out id).rowT h9.hv (by decide) ho9)))
                              have HTB9 := Lib.hid ((HTB5.out.only HAD.out id).rowT h9.hv (by decide) ho9)
                              have HG10 := Lib.hid h10
                              clear h9 h10 hrow ho9
                              refine wpAnyH_ready (rs := [18]) (by kernel_rfl) (by simp) (AllReadyH.cons rfl (fun K hK => ?_) AllReadyH.nil)
                              simp only [List.getElem_toArray, List.getElem_cons_succ, List.getElem_cons_zero]
                              rw [if_pos (by rfl)]
                              go_simp
                              refine hK.out _ _ HG10.out.gcells.2.2.1 (fun hHeld => ?_)
                              clear hK
                              try simp only [Act.put, List.getElem_toArray, List.getElem_cons_succ, List.getElem_cons_zero, List.setIfInBounds_toArray, List.set_cons_zero, List.set_cons_succ]
                              refine wpAnyH_done (by kernel_rfl) ?_ _
                              go_wp2_with fail
                              go_roundw
                              case rel =>
                                obtain ⟨C', h⟩ := HNX.out _ _ _ none HNN.out.symm HG10.out HL5.out (by rw [HGE.out]; exact HRW9.out) HTB9.out
                                exact ⟨k + 1, _, _, _, _, _, _, _, _, C', by omega, by go_num, Lib.hid h⟩
                              case measure => simp [intOf]; omega
                            · simp only [List.getElem_toArray, List.getElem_cons_succ, List.getElem_cons_zero]
                              rw [if_pos (by rfl)]
                              have p9 : Y19.cell? ⟨hvb, t, none⟩ = some (Hv' t) := cellA p0 HAD.out
                              go_simp
                              refine hK.out _ _ hHeld (fun hHeld => ?_)
                              clear hK p9
                              try simp only [Act.put, List.getElem_toArray, List.getElem_cons_succ, List.getElem_cons_zero, List.setIfInBounds_toArray, List.set_cons_zero, List.set_cons_succ]
                              refine wpAnyH_ready (rs := [5]) (by kernel_rfl) (by simp) (AllReadyH.cons rfl (fun K hK => ?_) AllReadyH.nil)
                              simp only [List.getElem_toArray, List.getElem_cons_succ, List.getElem_cons_zero]
                              go_simp
                              obtain ⟨Y24, hV2⟩ : ∃ V, Y19.alloc (.cells #[] 3) = V := ⟨_, rfl⟩
                              have hA2 : Adds Y19 Y24 := by rw [← hV2]; exact (Only.refl (fun _ => False) Y19).alloc _
                              obtain ⟨e8, hbb⟩ : ∃ q, Y19.heap.size = q := ⟨_, rfl⟩
                              have hblk8 : Blk Y24 e8 #[] 3 := by rw [← hV2, ← hbb]; exact Blk.new Y19 _ _
                              have hlow8 : W5.heap.size ≤ e8 := by rw [← hbb]; exact HAD.out.size
                              have HNE := Lib.hid (show g8 ≠ e8 by have := cell_lt HG8.out; omega)
                              have HE8 : Hid (Y24.ownsRow W5.heap.size 3 1 (.slice (some ⟨e8, 0, none⟩) 0 0) 0 []) := Lib.hid ⟨rfl, .inr ⟨e8, 0, #[], rfl, hlow8, hblk8, Nat.le_refl _, Nat.zero_le _, rfl, rfl⟩⟩
                              replace HG8 := Lib.hid (cellA HG8.out hA2)
                              try rw [hV2]
                              try rw [hbb]
                              have hg9 := cellA hHeld hA2
                              replace HAD := Lib.hid (HAD.out.thenF hA2)
                              refine hK.out _ _ hg9 (fun hHeld => ?_)
                              clear hK hV2 hA2 hblk8 hlow8 hbb hg9
                              try simp only [Act.put, List.getElem_toArray, List.getElem_cons_succ, List.getElem_cons_zero, List.setIfInBounds_toArray, List.set_cons_zero, List.set_cons_succ]
                              refine wpAnyH_ready (rs := [13]) (by kernel_rfl) (by simp) (AllReadyH.cons rfl (fun K hK => ?_) AllReadyH.nil)
                              simp only [List.getElem_toArray, List.getElem_cons_succ, List.getElem_cons_zero]
                              rw [if_pos (by rfl)]
                              refine wp_append_src _ _ 54 3 rfl i0 (.int .i64 0) 1 8 Tryz.underlying54 hi hz0 hz1 hz2 rfl (by decide) W5.heap.size _ _ _ rfl HE8.out (Hv' t) _ ((Hl' t).map (Value.int .i64)) rfl (Src.of_owns (row_adds HXS.out.1 HAD.out)) (by simp) (by intro y hy; obtain ⟨z, _, rfl⟩ := List.mem_map.1 hy; rfl) (by have := HXS.out.2; have := HCI.out; unfold maxLen; omega) (by have := HXS.out.2; have := HCI.out; omega) HAD.out.size ?_
                              intro v8 Y25 hR9 hO9
                              have hAo : Adds W5 Y25 := HAD.out.andThen hO9 (fun i hi e => by have := row_base9 HE8.out _ e; omega)
                              have g9 : Y25.cell? ⟨gb, 2, none⟩ = some (.slice (some ⟨hvb, 0, none⟩) n n) := (hAo.cellF (p := ⟨gb, 2, none⟩) (cell_lt g2) id).trans g2
                              replace HG8 := Lib.hid ((hO9.cellF (p := ⟨g8, 0, none⟩) (cell_lt HG8.out) (fun e => HNE.out (by have e9 : some g8 = (Value.slice (some ⟨e8, 0, none⟩) 0 0).ownBlock := e; simpa [Value.ownBlock] using e9))).trans HG8.out)
                              refine hK.out _ _ g9 (fun hHeld => ?_)
                              replace HAD := Lib.hid hAo
                              replace HE8 := Lib.hid hR9
                              clear hK hAo hO9 hR9 g9
                              try simp only [Act.put, List.getElem_toArray, List.getElem_cons_succ, List.getElem_cons_zero, List.setIfInBounds_toArray, List.set_cons_zero, List.set_cons_succ]
                              refine wpAnyH_ready (rs := [16]) (by kernel_rfl) (by simp) (AllReadyH.cons rfl (fun K hK => ?_) AllReadyH.nil)
                              simp only [List.getElem_toArray, List.getElem_cons_succ, List.getElem_cons_zero]
                              rw [if_pos (by rfl)]
                              refine wp_append_src _ _ 54 3 rfl i0 (.int .i64 0) 1 8 Tryz.underlying54 hi hz0 hz1 hz2 rfl (by decide) W5.heap.size _ _ _ rfl HE8.out (.slice (some ⟨g8, 0, none⟩) 1 1) 1 [.int .i64 gt] rfl (.inr (.inl ⟨g8, 0, 1, rfl, fun j y hj => by cases j with | zero => (simp at hj; subst hj; exact HG8.out) | succ j => simp at hj⟩)) rfl (by intro y hy; simp at hy; subst hy; rfl) (by have := HXS.out.2; have := HCI.out; unfold maxLen; omega) (by have := HXS.out.2; have := HCI.out; omega) HAD.out.size ?_
                              intro v9 V9 hR9 hO9
                              have hAo : Adds W5 V9 := HAD.out.andThen hO9 (fun i hi e => by have := row_base9 HE8.out _ e; omega)
                              have g9 : V9.cell? ⟨gb, 2, none⟩ = some (.slice (some ⟨hvb, 0, none⟩) n n) := (hAo.cellF (p := ⟨gb, 2, none⟩) (cell_lt g2) id).trans g2
                              refine hK.out _ _ g9 (fun hHeld => ?_)
                              replace HAD := Lib.hid hAo
                              have HR9 := Lib.hid hR9
                              clear hK hAo hO9 hR9 g9
                              try simp only [Act.put, List.getElem_toArray, List.getElem_cons_succ, List.getElem_cons_zero, List.setIfInBounds_toArray, List.set_cons_zero, List.set_cons_succ]
                              refine wpAnyH_take (i := 17) (v := (.pointer (some ⟨hvb, t, none⟩))) rfl (by kernel_rfl) (by kernel_rfl) (by kernel_rfl) (fun _ _ _ h => h) (Or.inl ⟨by rfl, fun W hS => by first | rfl | (go_simp; done)⟩) hHeld ?_
                              try simp only [Act.put, List.getElem_toArray, List.getElem_cons_succ, List.getElem_cons_zero, List.setIfInBounds_toArray, List.set_cons_zero, List.set_cons_succ]
                              obtain ⟨a9, c9, rfl⟩ := ownsRow_slice HR9.out
                              have h9 := (H5.out.add HAD.out).more (d := 60 + (k + 1)) (by omega)
                              have vf := h9.hv.frozen t; have vc := cellA p0 HAD.out
                              have hrow : V9.ownsRow 0 3 1 (.slice a9 ((Hl' t).length + 1) c9) (Hl' t ++ [gt]).length ((Hl' t ++ [gt]).map (Value.int .i64)) := by
                                have := row_zero HR9.out
                                simpa using this
                              have h10 := h9.setHv t (v := .slice a9 ((Hl' t).length + 1) c9) ⟨Hl' t ++ [gt], hrow, fun x hx => (by
                                rcases List.mem_append.1 hx with hx | hx
                                · exact HO.out.o.hands t x hx
                                · simp at hx; subst hx; exact HGB.out), by have := HXS.out.2; simp; omega⟩
                              have ho9 := only_at V9 hvb t (.slice a9 ((Hl' t).length + 1) c9)
                              have HRW9 : Hid (∀ t', t' < n → (V9.setCell ⟨hvb, t, none⟩ (.slice a9 ((Hl' t).length + 1) c9)).ownsRow 0 3 1 (upd Hv' t (.slice a9 ((Hl' t).length + 1) c9) t') (upd Hl' t (Hl' t ++ [gt]) t').length ((upd Hl' t (Hl' t ++ [gt]) t').map (Value.int .i64))) := Lib.hid (fun t' ht' => (by
                                by_cases e : t' = t
                                · subst e; rw [upd_at, upd_at]; exact row_keepI hrow (fun r cc hb => hb.rowT h9.hv (by decide) ho9)
                                · rw [upd_ne _ e, upd_ne _ e]; exact row_keepI (HRW5.out t' ht') (fun r cc hb => (hb.only HAD.out id).rowT h9.hv (by decide) ho9)))
                              have HTB9 := Lib.hid ((HTB5.out.only HAD.out id).rowT h9.hv (by decide) ho9)
                              have HG10 := Lib.hid h10
                              clear h9 h10 hrow ho9
                              refine wpAnyH_ready (rs := [18]) (by kernel_rfl) (by simp) (AllReadyH.cons rfl (fun K hK => ?_) AllReadyH.nil)
                              simp only [List.getElem_toArray, List.getElem_cons_succ, List.getElem_cons_zero]
                              rw [if_pos (by rfl)]
                              go_simp
                              refine hK.out _ _ HG10.out.gcells.2.2.1 (fun hHeld => ?_)
                              clear hK
                              try simp only [Act.put, List.getElem_toArray, List.getElem_cons_succ, List.getElem_cons_zero, List.setIfInBounds_toArray, List.set_cons_zero, List.set_cons_succ]
                              refine wpAnyH_done (by kernel_rfl) ?_ _
                              go_wp2_with fail
                              go_roundw
                              case rel =>
                                obtain ⟨C', h⟩ := HNX.out _ _ _ none HNN.out.symm HG10.out HL5.out (by rw [HGE.out]; exact HRW9.out) HTB9.out
                                exact ⟨k + 1, _, _, _, _, _, _, _, _, C', by omega, by go_num, Lib.hid h⟩
                              case measure => simp [intOf]; omega
                        · as_aux_lemma =>
                          have HGE : Hid (handU Hl' t gt = Hl') := Lib.hid (by unfold handU; rw [if_neg hgp])
                          go_wp2_with fail
                          go_roundw
                          case rel =>
                            obtain ⟨C', h⟩ := HNX.out _ _ _ none (by show none = nxo nk; exact HNN.out.symm) (H5.out.more (by omega)) HL5.out (by rw [HGE.out]; exact HRW5.out) HTB5.out
                            exact ⟨k + 1, _, _, _, _, _, _, _, _, C', by omega, by go_num, Lib.hid h⟩
                          case measure => simp [intOf]; omega
      · have g1 : ¬ (k : Int) < (d3 : Int) := by omega
        go_wp2_with fail
        go_meet
        exact ⟨by trivial, k, s, L, Hv, Mc, On, Pu, Hl, tn, C, Lib.hid ⟨HI.out, hk, HI.out.r.over (by have := HD3.out; omega)⟩⟩
  case rest =>
    obtain ⟨-, k, s, L, Hv, Mc, On, Pu, Hl, tn, C, HF⟩ := hcut
    clear HI0 HWHO HW HZ
    obtain ⟨i2, hi2, hz20, hz21, hz22⟩ := info_parts infoInt
    have mk3 := fun W => run_make (P := Tryz.prog) W 54 3 i2 (.int .i64 0) Tryz.underlying54 hi2 hz20 .i64 .i64 (pn : Int) (pn : Int) (by omega) (by omega) (by rw [hz22]; omega) (by omega)
    have hcs3 : (Value.int .i64 0).cells = #[Value.int .i64 0] := rfl
    simp only [Int.toNat_natCast, hz21, Nat.mul_one, hcs3, madeRow] at mk3
    clear hcs3 hi2 hz20 hz21 hz22
    go_upto_region 35 with fail
    clear mk3
    obtain ⟨qb, hqb⟩ : ∃ q, wc.heap.size = q := ⟨_, rfl⟩
    obtain ⟨w5, hw5⟩ : ∃ W, wc.alloc (.cells (rowOf pn (fun _ => .int .i64 0)) 3) = W := ⟨_, rfl⟩
    have HA5 : Hid (Adds wc w5) := Lib.hid (by rw [← hw5]; exact (Only.refl (fun _ => False) wc).alloc _)
    have HQ5 : Hid (Blk w5 qb (rowOf pn (fun _ => .int .i64 0)) 3) := Lib.hid (by rw [← hw5, ← hqb]; exact Blk.new wc _ _)
    have HQL := Lib.hid (Nat.le_of_eq hqb)
    try rw [hw5]
    try rw [hqb]
    clear hw5 hqb
    have HO5 := Lib.hid (HF.out.1.add HA5.out)
    have HAT := Lib.hid HF.out.2.2
    go_upto_region 36 with (go_at_call 7; refine (rest_any HO5.out.g.gcells.2.2.2.2.1 HO5.out.g.on (by omega)).mono ?_; rintro e v1 ⟨hv1, b, rfl, hb⟩; replace hv1 := hv1.symm; subst hv1; obtain rfl : b = true := hb.2 (fun t ht => (HO5.out.l.off HO5.out.g.ll ht).2 (HAT.out t ht)); clear hb)
    go_upto_region 37 with fail
    go_loopw [22, 23] (fun y i wz => y = .bool true ∧ ∃ t : Nat, t ≤ n ∧ i = .int .i64 t ∧ Hid (Adds wc wz) ∧ Hid (Blk wz qb (rowOf pn (fun p => .int .i64 ((sumN (fun i => (Hl i).count (p : Int)) t : Nat) : Int))) 3)) (fun _ i _ => n - (intOf i).toNat)
    case atStart => exact ⟨rfl, 0, Nat.zero_le _, rfl, HA5, HQ5⟩
    case round =>
      obtain ⟨rfl, t, ht, rfl, HW2, HB2⟩ := hrel
      have HOz := Lib.hid (HF.out.1.add HW2.out)
      have g2 := HOz.out.g.gcells.2.2.1
      by_cases c1 : t < n
      · have gt1 : (t : Int) < (n : Int) := by omega
        have gt0 : (0 : Int) ≤ (t : Int) := by omega
        have hwk : IntKind.i64.wrap ((t : Int) + 1) = (t : Int) + 1 := by rw [IntKind.wrap_i64]; omega
        obtain ⟨⟨p0, -, -⟩, -⟩ := HOz.out.g.cells c1
        obtain ⟨a, cp, hv, hc, hne⟩ := row_count (HF.out.1.h t c1) HW2.out HQL.out
        rw [hv] at p0
        have HC := Lib.hid (And.intro hc hne)
        have HFB : Hid (∀ p : Nat, (0 : Int) ≤ ((sumN (fun i => (Hl i).count (p : Int)) t : Nat) : Int) ∧ ((sumN (fun i => (Hl i).count (p : Int)) t : Nat) : Int) ≤ 1000000) := Lib.hid (fun p => by
          have h1 := sumN_max (f := fun i => (Hl i).count (p : Int)) (c := 4000) (n := t) (fun i _ => by
            have h2 := HF.out.1.hl i
            have h3 := HF.out.2.1; have h4 := HD3.out
            have h5 : (Hl i).count (p : Int) ≤ (Hl i).length := List.count_le_length
            omega)
          omega)
        have HLL : Hid ((Hl t).length ≤ 65536) := Lib.hid (by have h2 := HF.out.1.hl t; have h3 := HF.out.2.1; have h4 := HD3.out; omega)
        obtain ⟨ln, hln⟩ : ∃ ln, (Hl t).length = ln := ⟨_, rfl⟩
        have HCT : Hid (Calls Tryz.prog 14 #[.slice (some ⟨qb, 0, none⟩) pn pn, .slice a ln cp] wr (CountQ pn qb (fun p => ((sumN (fun i => (Hl i).count (p : Int)) t : Nat) : Int)) (Hl t) wr)) := Lib.hid (by rw [← hln]; exact count_any HB2.out HC.out.1 HC.out.2 (HF.out.1.o.hands t) HFB.out HLL.out (by omega))
        rw [hln] at p0
        clear hv hc hne hln
        go_wp2_with (go_at_call 14; refine HCT.out.mono ?_; rintro e v1 ⟨rfl, hb1, ho1⟩; have HB1 := Lib.hid hb1; have HO1 := Lib.hid ho1; clear hb1 ho1)
        go_roundw
        case rel =>
          refine ⟨rfl, t + 1, by omega, by go_num, Lib.hid (HW2.out.andThen HO1.out (fun i hi e => by have := HQL.out; omega)), Lib.hid ?_⟩
          have e : (fun p : Nat => Value.int .i64 (((sumN (fun i => (Hl i).count (p : Int)) t : Nat) : Int) + ((Hl t).count (p : Int) : Nat))) = (fun p : Nat => Value.int .i64 ((sumN (fun i => (Hl i).count (p : Int)) (t + 1) : Nat) : Int)) := by
            funext p
            simp only [sumN]
            rw [Int.natCast_add]
          have h1 := HB1.out
          rw [e] at h1
          exact h1
        case measure => simp [intOf]; omega
      · have gt1 : ¬ (t : Int) < (n : Int) := by omega
        obtain rfl : n = t := by omega
        go_upto_region 41 with fail
        go_loopw [22, 24] (fun y i wz => y = .bool true ∧ ∃ h : Nat, h ≤ 3 ∧ i = .int .i64 h ∧ Hid (Adds wc wz) ∧ Hid (Blk wz qb (rowOf pn (fun p => .int .i64 ((sumN (fun i => (Hl i).count (p : Int)) n + sumN (fun j => (C j).count (p : Int)) h : Nat) : Int))) 3)) (fun _ i _ => 3 - (intOf i).toNat)
        case atStart => exact ⟨rfl, 0, by omega, rfl, HW2, HB2⟩
        case round =>
          obtain ⟨rfl, h, hh, rfl, HW3, HB3⟩ := hrel
          clear HOz HW2 HB2 g2
          have HOz := Lib.hid (HF.out.1.add HW3.out)
          have g0 := HOz.out.g.gcells.1
          by_cases c3 : h < 3
          · have gh : (h : Int) < 3 := by omega
            have gh0 : (0 : Int) ≤ (h : Int) := by omega
            have hwh : IntKind.i64.wrap ((h : Int) + 1) = (h : Int) + 1 := by rw [IntKind.wrap_i64]; omega
            obtain ⟨h7, hh7⟩ : ∃ q, (h : Int) * 7 = q := ⟨_, rfl⟩
            have w7 : IntKind.i64.wrap ((h : Int) * 7) = h7 := by rw [hh7, IntKind.wrap_i64]; omega
            obtain ⟨hd, hhd⟩ : ∃ q, hdOf h = q := ⟨_, rfl⟩
            have hd3 : Hd3 hd := by rw [← hhd]; exact hdOf_3 c3
            have HISH : Hid (Lay.isHead pn n hd = true) := Lib.hid (HD.to ⟨HMAY.out, hd3.bd.1, hd3.bd.2⟩)
            have HHEAD : Hid (∀ W, Calls Tryz.prog 16 #[.int .i64 h7] W fun e w' => e = .returned (.int .i64 hd) ∧ W = w') := Lib.hid (fun W => by rw [← hhd, show hdOf h = 8 + h7 % 60 by unfold hdOf; omega]; exact playHead_any h7 W (by omega))
            have hf : ∀ i, 0 ≤ s.word i := fun i => (StoreS.word_bd HF.out.1.g.sc.both.yard.st.fit i).1
            have HLIST := Lib.hid (fun (W : World) (hA : Adds wc W) => stackListB_any (hd := hd) (HF.out.1.g.add hA).sc.both.yard HISH.out HF.out.1.g.sc.len (C h) (by rw [← hhd]; exact (HF.out.1.o.list HMAY.out hf c3).symm))
            have HGQ : Hid (gb ≠ qb) := Lib.hid (by have := HF.out.1.g.game.lt; have := HQL.out; omega)
            have HBD : Hid (∀ x ∈ C h, 0 ≤ x ∧ x < (pn : Int)) := Lib.hid (HF.out.1.o.down h c3).mem
            have HLL : Hid ((C h).length ≤ 65536) := Lib.hid (by have := HF.out.1.o.short c3; omega)
            have HFB : Hid (∀ p : Nat, (0 : Int) ≤ ((sumN (fun i => (Hl i).count (p : Int)) n + sumN (fun j => (C j).count (p : Int)) h : Nat) : Int) ∧ ((sumN (fun i => (Hl i).count (p : Int)) n + sumN (fun j => (C j).count (p : Int)) h : Nat) : Int) ≤ 1000000) := Lib.hid (fun p => by
              have h1 := sumN_max (f := fun i => (Hl i).count (p : Int)) (c := 4000) (n := n) (fun i _ => by
                have h2 := HF.out.1.hl i
                have h3 := HF.out.2.1; have h4 := HD3.out
                have h5 : (Hl i).count (p : Int) ≤ (Hl i).length := List.count_le_length
                omega)
              have h2 := sumN_max (f := fun i => (C i).count (p : Int)) (c := 60) (n := h) (fun i hi => by
                have h2 := HF.out.1.o.short (j := i) (by omega)
                have h5 : (C i).count (p : Int) ≤ (C i).length := List.count_le_length
                omega)
              omega)
            have HLQ : Hid (qb < wr.heap.size) := Lib.hid HB3.out.lt
            have HHD := Lib.hid hhd
            have HIN : Hid (s.inR hd) := Lib.hid ((HF.out.1.o.inR HMAY.out).1 hd hd3)
            clear hh7 hhd hd3 hf
            go_upto_region 43 with fail
            refine wp_region_held_drew (S := (fun V => V.cell? ⟨gb, 0, none⟩ = some (.pointer (some ⟨ab, 0, none⟩)))) (by kernel_rfl) g0 (fun hHeld => ?_)
            obtain ⟨D, hD⟩ : ∃ D, World.drew wr = D := ⟨_, rfl⟩
            have HAD : Hid (Adds wr D) := Lib.hid (by rw [← hD]; exact (Only.refl (fun _ => False) wr).drew)
            rw [hD] at hHeld
            try rw [hD]
            clear hD
            refine wpAnyH_take (i := 0) (v := (.slice (some ⟨qb, 0, none⟩) pn pn)) rfl (by kernel_rfl) (by kernel_rfl) (by kernel_rfl) (fun _ _ _ h => h) (Or.inl ⟨by rfl, fun W hS => by first | rfl | (go_simp; done)⟩) hHeld ?_
            try simp only [Act.put, List.getElem_toArray, List.getElem_cons_succ, List.getElem_cons_zero, List.setIfInBounds_toArray, List.set_cons_zero, List.set_cons_succ]
            refine wpAnyH_take (i := 1) (v := (.pointer (some ⟨gb, 0, none⟩))) rfl (by kernel_rfl) (by kernel_rfl) (by kernel_rfl) (fun _ _ _ h => h) (Or.inl ⟨by rfl, fun W hS => by first | rfl | (go_simp; done)⟩) hHeld ?_
            try simp only [Act.put, List.getElem_toArray, List.getElem_cons_succ, List.getElem_cons_zero, List.setIfInBounds_toArray, List.set_cons_zero, List.set_cons_succ]
            refine wpAnyH_take (i := 2) (v := (.pointer (some ⟨gb, 0, none⟩))) rfl (by kernel_rfl) (by kernel_rfl) (by kernel_rfl) (fun _ _ _ h => h) (Or.inl ⟨by rfl, fun W hS => by first | rfl | (go_simp; done)⟩) hHeld ?_
            try simp only [Act.put, List.getElem_toArray, List.getElem_cons_succ, List.getElem_cons_zero, List.setIfInBounds_toArray, List.set_cons_zero, List.set_cons_succ]
            refine wpAnyH_take (i := 3) (v := (.pointer (some ⟨gb, 0, none⟩))) rfl (by kernel_rfl) (by kernel_rfl) (by kernel_rfl) (fun _ _ _ h => h) (Or.inl ⟨by rfl, fun W hS => by first | rfl | (go_simp; done)⟩) hHeld ?_
            try simp only [Act.put, List.getElem_toArray, List.getElem_cons_succ, List.getElem_cons_zero, List.setIfInBounds_toArray, List.set_cons_zero, List.set_cons_succ]
            refine wpAnyH_take (i := 4) (v := (.pointer (some ⟨ab, 0, none⟩))) rfl (by kernel_rfl) (by kernel_rfl) (by kernel_rfl) (fun _ _ _ h => h) (Or.inl ⟨by rfl, fun W hS => by (obtain q1 := hS; go_simp; done)⟩) hHeld ?_
            try simp only [Act.put, List.getElem_toArray, List.getElem_cons_succ, List.getElem_cons_zero, List.setIfInBounds_toArray, List.set_cons_zero, List.set_cons_succ]
            refine wpAnyH_take (i := 5) (v := (.int .i64 (h : Int))) rfl (by kernel_rfl) (by kernel_rfl) (by kernel_rfl) (fun _ _ _ h => h) (Or.inl ⟨by rfl, fun W hS => by first | rfl | (go_simp; done)⟩) hHeld ?_
            try simp only [Act.put, List.getElem_toArray, List.getElem_cons_succ, List.getElem_cons_zero, List.setIfInBounds_toArray, List.set_cons_zero, List.set_cons_succ]
            refine wpAnyH_take (i := 6) (v := (.int .i64 h7)) rfl (by kernel_rfl) (by kernel_rfl) (by kernel_rfl) (fun _ _ _ h => h) (Or.inl ⟨by rfl, fun W hS => by first | rfl | (go_simp; done)⟩) hHeld ?_
            try simp only [Act.put, List.getElem_toArray, List.getElem_cons_succ, List.getElem_cons_zero, List.setIfInBounds_toArray, List.set_cons_zero, List.set_cons_succ]
            refine wpAnyH_ready (rs := [7]) (by kernel_rfl) (by simp) (AllReadyH.cons rfl (fun K hK => ?_) AllReadyH.nil)
            simp only [List.getElem_toArray, List.getElem_cons_succ, List.getElem_cons_zero]
            go_simp
            refine (HHEAD.out _).mono ?_
            rintro e V0 ⟨rfl, rfl⟩
            refine hK.out _ _ hHeld (fun hHeld => ?_)
            clear hK K
            try simp only [Act.put, List.getElem_toArray, List.getElem_cons_succ, List.getElem_cons_zero, List.setIfInBounds_toArray, List.set_cons_zero, List.set_cons_succ]
            refine wpAnyH_ready (rs := [8]) (by kernel_rfl) (by simp) (AllReadyH.cons rfl (fun K hK => ?_) AllReadyH.nil)
            simp only [List.getElem_toArray, List.getElem_cons_succ, List.getElem_cons_zero]
            go_simp
            refine (HLIST.out _ (HW3.out.thenF HAD.out)).mono ?_
            rintro e V1 ⟨v1, rfl, hr1, ho1⟩
            have HAD1 := Lib.hid (HAD.out.thenF ho1)
            obtain ⟨a, cp, rfl, hc, hne⟩ := row_count2 hr1 (show qb < D.heap.size by have := HLQ.out; have := HAD.out.size; omega)
            have HC := Lib.hid (And.intro hc hne)
            clear hc hne hr1
            refine hK.out _ _ (cellA hHeld ho1) (fun hHeld => ?_)
            clear hK K
            try simp only [Act.put, List.getElem_toArray, List.getElem_cons_succ, List.getElem_cons_zero, List.setIfInBounds_toArray, List.set_cons_zero, List.set_cons_succ]
            clear ho1
            refine wpAnyH_ready (rs := [9]) (by kernel_rfl) (by simp) (AllReadyH.cons rfl (fun K hK => ?_) AllReadyH.nil)
            simp only [List.getElem_toArray, List.getElem_cons_succ, List.getElem_cons_zero]
            go_simp
            refine (count_any (HB3.out.only HAD1.out id) HC.out.1 HC.out.2 HBD.out HFB.out HLL.out (by omega)).mono ?_
            rintro e V2 ⟨rfl, hb2, ho2⟩
            have HB2' := Lib.hid hb2; have HO2 := Lib.hid ho2
            have hg2 := cellO ho2 (fun e => HGQ.out e) hHeld
            refine hK.out _ _ hg2 (fun hHeld => ?_)
            clear hK K
            try simp only [Act.put, List.getElem_toArray, List.getElem_cons_succ, List.getElem_cons_zero, List.setIfInBounds_toArray, List.set_cons_zero, List.set_cons_succ]
            clear hb2 ho2 hg2
            refine wpAnyH_take (i := 10) (v := (.bool true)) rfl (by kernel_rfl) (by kernel_rfl) (by kernel_rfl) (fun _ _ _ h => h) (Or.inl ⟨by rfl, fun W hS => by first | rfl | (go_simp; done)⟩) hHeld ?_
            try simp only [Act.put, List.getElem_toArray, List.getElem_cons_succ, List.getElem_cons_zero, List.setIfInBounds_toArray, List.set_cons_zero, List.set_cons_succ]
            refine wpAnyH_take (i := 11) (v := (.bool true)) rfl (by kernel_rfl) (by kernel_rfl) (by kernel_rfl) (fun _ _ _ h => h) (Or.inl ⟨by rfl, fun W hS => by first | rfl | (go_simp; done)⟩) hHeld ?_
            try simp only [Act.put, List.getElem_toArray, List.getElem_cons_succ, List.getElem_cons_zero, List.setIfInBounds_toArray, List.set_cons_zero, List.set_cons_succ]
            refine wpAnyH_take (i := 12) (v := (.bool true)) rfl (by kernel_rfl) (by kernel_rfl) (by kernel_rfl) (fun _ _ _ h => h) (Or.inl ⟨by rfl, fun W hS => by first | rfl | (go_simp; done)⟩) hHeld ?_
            try simp only [Act.put, List.getElem_toArray, List.getElem_cons_succ, List.getElem_cons_zero, List.setIfInBounds_toArray, List.set_cons_zero, List.set_cons_succ]
            refine wpAnyH_take (i := 13) (v := (.bool true)) rfl (by kernel_rfl) (by kernel_rfl) (by kernel_rfl) (fun _ _ _ h => h) (Or.inl ⟨by rfl, fun W hS => by first | rfl | (go_simp; done)⟩) hHeld ?_
            try simp only [Act.put, List.getElem_toArray, List.getElem_cons_succ, List.getElem_cons_zero, List.setIfInBounds_toArray, List.set_cons_zero, List.set_cons_succ]
            refine wpAnyH_done (by kernel_rfl) ?_ _
            go_upto_region 44 with fail
            have HWV := Lib.hid ((HW3.out.thenF HAD1.out).andThen HO2.out (fun i hi e => by have := HQL.out; omega))
            have HOV := Lib.hid (HF.out.1.add HWV.out)
            have g0' := HOV.out.g.gcells.1
            obtain ⟨tv, htv⟩ : ∃ v : Int, ((tn h : Nat) : Int) = v := ⟨_, rfl⟩
            have zt : V2.cell? ⟨tnb, h, none⟩ = some (.int .u32 tv) := by
              rw [HOV.out.tb.cell h, ← htv]
              have h3 : h = 0 ∨ h = 1 ∨ h = 2 := by omega
              rcases h3 with rfl | rfl | rfl <;> rfl
            have HREAD : Hid (∀ W, Adds V2 W → Calls Tryz.prog 18 #[.pointer (some ⟨ab, 0, none⟩), .int .i64 hd] W fun e w' => ∃ x : Int, (0 ≤ x ∧ x < 18446744073709551616) ∧ Tag.tg x = tv ∧ e = .returned (.int .u64 x) ∧ Adds W w') := Lib.hid (fun W hA => (playRead_any (HOV.out.g.add hA).sc.both.yard (HIN.out)).mono (fun e w' z => ⟨s.word hd, StoreS.word_bd HF.out.1.g.sc.both.yard.st.fit hd, by rw [← htv, ← HHD.out]; exact HF.out.1.o.tag c3, z.1, z.2⟩))
            clear htv
            refine wp_region_held_drew (S := (fun V => V.cell? ⟨gb, 0, none⟩ = some (.pointer (some ⟨ab, 0, none⟩)) ∧ V.cell? ⟨tnb, h, none⟩ = some (.int .u32 tv))) (by kernel_rfl) ⟨g0', zt⟩ (fun hHeld => ?_)
            have HDV := Lib.hid ((Only.refl (fun _ => False) V2).drew)
            refine wpAnyH_take (i := 0) (v := (.bool true)) rfl (by kernel_rfl) (by kernel_rfl) (by kernel_rfl) (fun _ _ _ h => h) (Or.inl ⟨by rfl, fun W hS => by first | rfl | (go_simp; done)⟩) hHeld ?_
            try simp only [Act.put, List.getElem_toArray, List.getElem_cons_succ, List.getElem_cons_zero, List.setIfInBounds_toArray, List.set_cons_zero, List.set_cons_succ]
            refine wpAnyH_take (i := 1) (v := (.bool true)) rfl (by kernel_rfl) (by kernel_rfl) (by kernel_rfl) (fun _ _ _ h => h) (Or.inl ⟨by rfl, fun W hS => by first | rfl | (go_simp; done)⟩) hHeld ?_
            try simp only [Act.put, List.getElem_toArray, List.getElem_cons_succ, List.getElem_cons_zero, List.setIfInBounds_toArray, List.set_cons_zero, List.set_cons_succ]
            refine wpAnyH_take (i := 2) (v := (.pointer (some ⟨gb, 0, none⟩))) rfl (by kernel_rfl) (by kernel_rfl) (by kernel_rfl) (fun _ _ _ h => h) (Or.inl ⟨by rfl, fun W hS => by first | rfl | (go_simp; done)⟩) hHeld ?_
            try simp only [Act.put, List.getElem_toArray, List.getElem_cons_succ, List.getElem_cons_zero, List.setIfInBounds_toArray, List.set_cons_zero, List.set_cons_succ]
            refine wpAnyH_take (i := 3) (v := (.pointer (some ⟨gb, 0, none⟩))) rfl (by kernel_rfl) (by kernel_rfl) (by kernel_rfl) (fun _ _ _ h => h) (Or.inl ⟨by rfl, fun W hS => by first | rfl | (go_simp; done)⟩) hHeld ?_
            try simp only [Act.put, List.getElem_toArray, List.getElem_cons_succ, List.getElem_cons_zero, List.setIfInBounds_toArray, List.set_cons_zero, List.set_cons_succ]
            refine wpAnyH_take (i := 4) (v := (.pointer (some ⟨gb, 0, none⟩))) rfl (by kernel_rfl) (by kernel_rfl) (by kernel_rfl) (fun _ _ _ h => h) (Or.inl ⟨by rfl, fun W hS => by first | rfl | (go_simp; done)⟩) hHeld ?_
            try simp only [Act.put, List.getElem_toArray, List.getElem_cons_succ, List.getElem_cons_zero, List.setIfInBounds_toArray, List.set_cons_zero, List.set_cons_succ]
            refine wpAnyH_take (i := 5) (v := (.pointer (some ⟨ab, 0, none⟩))) rfl (by kernel_rfl) (by kernel_rfl) (by kernel_rfl) (fun _ _ _ h => h) (Or.inl ⟨by rfl, fun W hS => by (obtain ⟨q1, q2⟩ := hS; go_simp; done)⟩) hHeld ?_
            try simp only [Act.put, List.getElem_toArray, List.getElem_cons_succ, List.getElem_cons_zero, List.setIfInBounds_toArray, List.set_cons_zero, List.set_cons_succ]
            refine wpAnyH_take (i := 6) (v := (.int .i64 (h : Int))) rfl (by kernel_rfl) (by kernel_rfl) (by kernel_rfl) (fun _ _ _ h => h) (Or.inl ⟨by rfl, fun W hS => by first | rfl | (go_simp; done)⟩) hHeld ?_
            try simp only [Act.put, List.getElem_toArray, List.getElem_cons_succ, List.getElem_cons_zero, List.setIfInBounds_toArray, List.set_cons_zero, List.set_cons_succ]
            refine wpAnyH_take (i := 7) (v := (.int .i64 h7)) rfl (by kernel_rfl) (by kernel_rfl) (by kernel_rfl) (fun _ _ _ h => h) (Or.inl ⟨by rfl, fun W hS => by first | rfl | (go_simp; done)⟩) hHeld ?_
            try simp only [Act.put, List.getElem_toArray, List.getElem_cons_succ, List.getElem_cons_zero, List.setIfInBounds_toArray, List.set_cons_zero, List.set_cons_succ]
            refine wpAnyH_take (i := 11) (v := (.int .i64 (h : Int))) rfl (by kernel_rfl) (by kernel_rfl) (by kernel_rfl) (fun _ _ _ h => h) (Or.inl ⟨by rfl, fun W hS => by first | rfl | (go_simp; done)⟩) hHeld ?_
            try simp only [Act.put, List.getElem_toArray, List.getElem_cons_succ, List.getElem_cons_zero, List.setIfInBounds_toArray, List.set_cons_zero, List.set_cons_succ]
            refine wpAnyH_take (i := 12) (v := (.pointer (some ⟨tnb, h, none⟩))) rfl (by kernel_rfl) (by kernel_rfl) (by kernel_rfl) (fun _ _ _ h => h) (Or.inl ⟨by rfl, fun W hS => by first | rfl | (go_simp; done)⟩) hHeld ?_
            try simp only [Act.put, List.getElem_toArray, List.getElem_cons_succ, List.getElem_cons_zero, List.setIfInBounds_toArray, List.set_cons_zero, List.set_cons_succ]
            refine wpAnyH_take (i := 13) (v := (.int .u32 tv)) rfl (by kernel_rfl) (by kernel_rfl) (by kernel_rfl) (fun _ _ _ h => h) (Or.inl ⟨by rfl, fun W hS => by (obtain ⟨q1, q2⟩ := hS; go_simp; done)⟩) hHeld ?_
            try simp only [Act.put, List.getElem_toArray, List.getElem_cons_succ, List.getElem_cons_zero, List.setIfInBounds_toArray, List.set_cons_zero, List.set_cons_succ]
            refine wpAnyH_ready (rs := [8]) (by kernel_rfl) (by simp) (AllReadyH.cons rfl (fun K hK => ?_) AllReadyH.nil)
            simp only [List.getElem_toArray, List.getElem_cons_succ, List.getElem_cons_zero]
            go_simp
            refine (HHEAD.out _).mono ?_
            rintro e V0 ⟨rfl, rfl⟩
            refine hK.out _ _ hHeld (fun hHeld => ?_)
            clear hK K
            try simp only [Act.put, List.getElem_toArray, List.getElem_cons_succ, List.getElem_cons_zero, List.setIfInBounds_toArray, List.set_cons_zero, List.set_cons_succ]
            refine wpAnyH_ready (rs := [9]) (by kernel_rfl) (by simp) (AllReadyH.cons rfl (fun K hK => ?_) AllReadyH.nil)
            simp only [List.getElem_toArray, List.getElem_cons_succ, List.getElem_cons_zero]
            go_simp
            refine (HREAD.out _ HDV.out).mono ?_
            rintro e V3 ⟨x, hxb, hxt, rfl, ho3⟩
            have HDV3 := Lib.hid (HDV.out.thenF ho3)
            have HXB := Lib.hid hxb; have HXT := Lib.hid hxt
            refine hK.out _ _ ⟨cellA hHeld.1 ho3, cellA hHeld.2 ho3⟩ (fun hHeld => ?_)
            clear hK K
            try simp only [Act.put, List.getElem_toArray, List.getElem_cons_succ, List.getElem_cons_zero, List.setIfInBounds_toArray, List.set_cons_zero, List.set_cons_succ]
            clear ho3 hxb hxt
            refine wpAnyH_ready (rs := [10]) (by kernel_rfl) (by simp) (AllReadyH.cons rfl (fun K hK => ?_) AllReadyH.nil)
            simp only [List.getElem_toArray, List.getElem_cons_succ, List.getElem_cons_zero]
            go_simp
            refine (tagTag_any x _ HXB.out.1 HXB.out.2).mono ?_
            rintro e V4 ⟨rfl, kq, rfl⟩
            rw [HXT.out]
            have ho4 : Adds V3 (V3.drewN kq) := (Only.refl _ V3).drewN kq
            have HDV4 := Lib.hid (HDV3.out.thenF ho4)
            refine hK.out _ _ ⟨cellA hHeld.1 ho4, cellA hHeld.2 ho4⟩ (fun hHeld => ?_)
            clear hK K
            try simp only [Act.put, List.getElem_toArray, List.getElem_cons_succ, List.getElem_cons_zero, List.setIfInBounds_toArray, List.set_cons_zero, List.set_cons_succ]
            clear ho4
            refine wpAnyH_take (i := 14) (v := (.bool true)) rfl (by kernel_rfl) (by kernel_rfl) (by kernel_rfl) (fun _ _ _ h => h) (Or.inl ⟨by rfl, fun W hS => by first | rfl | (go_simp; done) | (simp [go_sem]; done)⟩) hHeld ?_
            try simp only [Act.put, List.getElem_toArray, List.getElem_cons_succ, List.getElem_cons_zero, List.setIfInBounds_toArray, List.set_cons_zero, List.set_cons_succ]
            refine wpAnyH_take (i := 15) (v := (.bool true)) rfl (by kernel_rfl) (by kernel_rfl) (by kernel_rfl) (fun _ _ _ h => h) (Or.inl ⟨by rfl, fun W hS => by first | rfl | (go_simp; done)⟩) hHeld ?_
            try simp only [Act.put, List.getElem_toArray, List.getElem_cons_succ, List.getElem_cons_zero, List.setIfInBounds_toArray, List.set_cons_zero, List.set_cons_succ]
            refine wpAnyH_take (i := 16) (v := (.bool true)) rfl (by kernel_rfl) (by kernel_rfl) (by kernel_rfl) (fun _ _ _ h => h) (Or.inl ⟨by rfl, fun W hS => by first | rfl | (go_simp; done)⟩) hHeld ?_
            try simp only [Act.put, List.getElem_toArray, List.getElem_cons_succ, List.getElem_cons_zero, List.setIfInBounds_toArray, List.set_cons_zero, List.set_cons_succ]
            refine wpAnyH_done (by kernel_rfl) ?_ _
            go_wp2_with fail
            go_roundw
            case rel =>
              refine ⟨rfl, h + 1, by omega, by go_num, Lib.hid (HWV.out.thenF HDV4.out), Lib.hid ?_⟩
              have h1 := HB2'.out.only HDV4.out id
              have e : (fun p : Nat => Value.int .i64 (((sumN (fun i => (Hl i).count (p : Int)) n + sumN (fun j => (C j).count (p : Int)) h : Nat) : Int) + ((C h).count (p : Int) : Nat))) = (fun p : Nat => Value.int .i64 ((sumN (fun i => (Hl i).count (p : Int)) n + sumN (fun j => (C j).count (p : Int)) (h + 1) : Nat) : Int)) := by
                funext p
                congr 1
                simp only [sumN]
                omega
              rw [e] at h1
              exact h1
            case measure => simp [intOf]; omega
          · have gh : ¬ (h : Int) < 3 := by omega
            obtain rfl : h = 3 := by omega
            have HONE : Hid (∀ p : Nat, p < pn → ((sumN (fun i => (Hl i).count (p : Int)) n + sumN (fun j => (C j).count (p : Int)) 3 : Nat) : Int) = 1) := Lib.hid (fun p hp => by
              have h1 := HF.out.1.o.rest HAT.out (p := (p : Int)) (by omega) (by omega)
              omega)
            clear HOz
            go_upto_region 46 with fail
            go_loopw [22, 25] (fun y i wz => y = .bool true ∧ ∃ p : Nat, p ≤ pn ∧ i = .int .i64 p ∧ Hid (Adds wc wz) ∧ Hid (Blk wz qb (rowOf pn (fun p => .int .i64 ((sumN (fun i => (Hl i).count (p : Int)) n + sumN (fun j => (C j).count (p : Int)) 3 : Nat) : Int))) 3)) (fun _ i _ => pn - (intOf i).toNat)
            case atStart => exact ⟨rfl, 0, Nat.zero_le _, rfl, HW3, HB3⟩
            case round =>
              clear HW3 HB3
              obtain ⟨rfl, p, hp, rfl, HW4, HB4⟩ := hrel
              by_cases c4 : p < pn
              · have gp : (p : Int) < (pn : Int) := by omega
                have gp0 : (0 : Int) ≤ (p : Int) := by omega
                have hwp : IntKind.i64.wrap ((p : Int) + 1) = (p : Int) + 1 := by rw [IntKind.wrap_i64]; omega
                have x9 : wr.cell? ⟨qb, p, none⟩ = some (.int .i64 1) := by
                  rw [HB4.out.cell p, rowOf_get _ c4, HONE.out p c4]
                go_wp2_with fail
                go_roundw
                case rel => exact ⟨rfl, p + 1, by omega, by go_num, HW4, HB4⟩
                case measure => simp [intOf]; omega
              · have gp : ¬ (p : Int) < (pn : Int) := by omega
                go_wp2_with (go_at_call 19; refine (awake12_any _).mono ?_; rintro e V2 ⟨rfl, ho2⟩; have HAD2 := Lib.hid ho2; clear ho2)
                go_ret
                exact ⟨rfl, ((HF.out.1.g.sc.adds.thenF HW4.out).thenF HAD2.out).below (Nat.le_refl _) (fun _ _ h => h)⟩
end Go.Proofs.YthhnpcniijpfeaaGreat

/- ClaimRuns, ClaimOnce: words by numbers; what a sweeper does beside; the arenas that are laid. ClaimRuns, ClaimOnce: the arenas that are laid. ClaimRuns: the stack's words keep within the arena; a claim of each side in step. ClaimRuns: what holds at each round. ClaimRuns: the arenas that are laid; a step of each side, in step. By an AI agent. -/
import Derived.Test.YtmnliddjddpchaaGreatZPile
import Derived.Test.YtmnliddjddpchaaGreatZDocClaim
import Derived.Test.YtmnliddjddpchaaGreatZD
import Derived.Test.YtmnliddjddpchaaGreatZPlay2
import Derived.Test.YtmnliddjddpchaaGreatZF
import Derived.Test.YtmnliddjddpchaaGreatZFLanes
import Derived.Test.YtmnliddjddpchaaGreatZLaneBase
import Derived.Test.YtmnliddjddpchaaGreatZC
namespace Go.Proofs.YtmnliddjddpchaaGreat
open Go.RowKit
set_option linter.unusedSimpArgs false
set_option linter.unusedVariables false
/-- A word by numbers, at a place. -/
def wordsV (zs : List Int) (len i : Nat) : Int := if len = 0 then ((i : Int) * 11400714819323198485) % 18446744073709551616 else zs.getD (i % len) 0
theorem wordsV_bd {w0 : World} {a : Option Addr} {len cap : Nat} {zs : List Int} (h : IsRow .u64 w0 a len cap zs) (i : Nat) : 0 ≤ wordsV zs len i ∧ wordsV zs len i < 18446744073709551616 := by
  unfold wordsV
  by_cases c : len = 0
  · rw [if_pos c]; omega
  · rw [if_neg c]
    obtain ⟨_, _, _, _, _, hw⟩ := rows_at h (Nat.mod_lt i (by omega))
    exact bd_u64 hw
set_option maxHeartbeats 1000000 in
theorem words16_any {w0 w : World} {a : Option Addr} {len cap : Nat} {zs : List Int} (h : IsRow .u64 w0 a len cap zs) (ho : Adds w0 w) (i : Nat) (hi : i < 1000000) :
    Calls Tryz.prog 10 #[.slice a len cap, .int .i64 (i : Int)] w fun e w' => e = .returned (.int .u64 (wordsV zs len i)) ∧ w = w' := by
  obtain ⟨hl, hcap⟩ := rows_len h
  have e0 : IntKind.u64.wrap (i : Int) = (i : Int) := by rw [IntKind.wrap_u64]; omega
  have e1 : IntKind.u64.wrap ((i : Int) * 11400714819323198485) = ((i : Int) * 11400714819323198485) % 18446744073709551616 := by rw [IntKind.wrap_u64]
  by_cases c : len = 0
  · have hv : wordsV zs len i = ((i : Int) * 11400714819323198485) % 18446744073709551616 := by unfold wordsV; rw [if_pos c]
    rw [hv]
    subst c
    clear h ho hv
    go_enter Tryz.func10, Tryz.ntmps10
    go_wp2_with fail
    go_ret
    exact ⟨rfl, rfl⟩
  · have hm : i % len < len := Nat.mod_lt i (by omega)
    obtain ⟨b, off, rfl, hb, hc, hcw⟩ := rows_at h hm
    obtain ⟨x, hx⟩ : ∃ x, x = zs.getD (i % len) 0 := ⟨_, rfl⟩
    have hv : wordsV zs len i = x := by unfold wordsV; rw [if_neg c, hx]
    rw [← hx] at hc hcw
    rw [hv]
    have d0 := (ho.cellF (p := ⟨b, off + i % len, none⟩) hb id).trans hc
    obtain ⟨t, ht⟩ : ∃ t : Nat, i % len = t := ⟨_, rfl⟩
    rw [ht] at d0 hm
    have q2 : (i : Int) % (len : Int) = (t : Int) := by rw [← ht]; simp
    have q1 : Int.tmod (i : Int) (len : Int) = (t : Int) := by rw [Int.tmod_eq_emod_of_nonneg (by omega)]; exact q2
    have hn0 : ¬ (len : Int) = 0 := by omega
    clear h ho hb hc hcw hx hv ht
    go_enter Tryz.func10, Tryz.ntmps10
    go_wp2_with fail
    go_ret
    exact ⟨rfl, rfl⟩
/-- What a sweeper turns a page's state to, beside the claims. -/
def besideV (g v : Int) : Option Int := if v = Ph.mk (g - 1) 1 then some (Ph.mk g 4) else if v = Ph.mk g 4 then some (Ph.mk g 5) else if v = Ph.mk g 6 then some (Ph.mk g 2) else none
def besideS (P T g p v : Int) (s : StoreS) : StoreS := match besideV g v with
  | some x => s.acc 2 (pgAt P T 9 p) x
  | none => s
set_option maxHeartbeats 400000 in
theorem state16_any (g k : Int) (w : World) : Calls Tryz.prog 13 #[.int .i64 g, .int .i64 k] w fun e w' => e = .returned (.int .u64 (Ph.mk g k)) ∧ w = w' := by
  go_enter Tryz.func13, Tryz.ntmps13
  go_wp2_with (go_at_call 33; refine (r6State_any g k _).mono ?_; rintro e w1 ⟨rfl, rfl⟩)
  go_ret
  exact ⟨rfl, rfl⟩
section
variable {w : World} {ab sb sm rb rg bb tb tm ub fb : Nat} {P T g p : Int} {s s' : StoreS}
set_option maxRecDepth 100000 in
set_option maxHeartbeats 4000000 in
theorem beside_any (h : Both w ab sb sm rb rg bb tb tm ub fb P T s s') (hm : Lay.may P T = true) (hlen : s.ws.length = (Lay.words P T).toNat) (hlen' : s'.ws.length = (Lay.words P T).toNat) (hp0 : 0 ≤ p) (hp1 : p < P) (hg : 1 ≤ g ∧ g ≤ 1000) :
    Calls Tryz.prog 15 #[.pointer (some ⟨ab, 0, none⟩), .pointer (some ⟨bb, 0, none⟩), .int .i64 p, .int .i64 g] w fun e w' => e = .returned (.bool true) ∧ Both w' ab sb sm rb rg bb tb tm ub fb P T (besideS P T g p (s'.word (pgAt P T 9 p)) s) (besideS P T g p (s'.word (pgAt P T 9 p)) s') ∧ Only (fun j => SB sb sm j ∨ SB tb tm j) w w' := by
  have q2 := pgAt_eq (k := 9) hm (by decide) (by decide) hp0 hp1
  have hT1 := (Lay.may_iff.1 hm)
  obtain ⟨st, hst⟩ : ∃ st, pgAt P T 9 p = st := ⟨_, rfl⟩
  have IS := Lib.hid (show s.inR st ∧ s'.inR st from ⟨⟨by omega, by rw [hlen]; omega⟩, ⟨by omega, by rw [hlen']; omega⟩⟩)
  have KS := Lib.hid q2.2.1
  have ES : Hid (Lay.pageAt P T 9 p = st) := Lib.hid hst
  rw [hst]
  obtain ⟨x, hx⟩ : ∃ x, s'.word st = x := ⟨_, rfl⟩
  have HRS : Hid (∀ q, besideS P T g p x q = match besideV g x with | some y => q.acc 2 st y | none => q) := Lib.hid (fun q => by unfold besideS; rw [hst])
  rw [hx]
  obtain ⟨R1, hR1⟩ : ∃ R, besideS P T g p x s = R := ⟨_, rfl⟩
  obtain ⟨R2, hR2⟩ : ∃ R, besideS P T g p x s' = R := ⟨_, rfl⟩
  rw [hR1, hR2]
  have HRR : Hid (∀ o, besideV g x = o → R1 = (match o with | some y => s.acc 2 st y | none => s) ∧ R2 = (match o with | some y => s'.acc 2 st y | none => s')) := Lib.hid (fun o ho => by rw [← hR1, ← hR2, HRS.out, HRS.out, ho]; exact ⟨rfl, rfl⟩)
  clear hR1 hR2
  have HX := Lib.hid hx
  obtain ⟨k1, hk1⟩ : ∃ k, Ph.mk (g - 1) 1 = k := ⟨_, rfl⟩
  obtain ⟨k4, hk4⟩ : ∃ k, Ph.mk g 4 = k := ⟨_, rfl⟩
  obtain ⟨k5, hk5⟩ : ∃ k, Ph.mk g 5 = k := ⟨_, rfl⟩
  obtain ⟨k6, hk6⟩ : ∃ k, Ph.mk g 6 = k := ⟨_, rfl⟩
  obtain ⟨k2, hk2⟩ : ∃ k, Ph.mk g 2 = k := ⟨_, rfl⟩
  have B4 := Ph.mk_bd g 4; have B5 := Ph.mk_bd g 5; have B2 := Ph.mk_bd g 2
  rw [hk4] at B4; rw [hk5] at B5; rw [hk2] at B2
  have HB4 := Lib.hid B4; have HB5 := Lib.hid B5; have HB2 := Lib.hid B2
  have K1 := Lib.hid hk1; have K4 := Lib.hid hk4; have K5 := Lib.hid hk5; have K6 := Lib.hid hk6; have K2 := Lib.hid hk2
  have hv : besideV g x = if x = k1 then some k4 else if x = k4 then some k5 else if x = k6 then some k2 else none := by unfold besideV; rw [hk1, hk4, hk5, hk6, hk2]
  have HV := Lib.hid hv
  have m2 : w.cell? ⟨bb, 2, none⟩ = some (.int .i64 P) := h.mem.head.cell 2
  have m3 : w.cell? ⟨bb, 3, none⟩ = some (.int .i64 T) := h.mem.head.cell 3
  have eg : IntKind.i64.wrap (g - 1) = g - 1 := by rw [IntKind.wrap_i64]; omega
  have HB := Lib.hid h
  have HN : Hid (∀ W, Adds w W → W.cell? ⟨bb, 0, none⟩ = some (.pointer (some ⟨tb, 0, none⟩)) ∧ W.cell? ⟨tb, 0, none⟩ = some (.slice (some ⟨tm, 0, none⟩) s'.ws.length s'.ws.length) ∧ W.cell? ⟨tm, st.toNat, none⟩ = some (.int .u64 x)) := Lib.hid (fun W hA => by
    have h2 := h.adds hA
    refine ⟨h2.mem.head.cell 0, h2.mem.st.cells.1, ?_⟩
    rw [← hx]; exact h2.mem.st.wordCell IS.out.2)
  obtain ⟨n, hn⟩ : ∃ n, n = s'.ws.length := ⟨_, rfl⟩
  rw [← hn] at HN
  have hr := IS.out.2
  have g1 : 0 ≤ st := hr.1
  have g2 : st < n := by rw [hn]; exact hr.2
  clear h hm hlen hlen' q2 hT1 hst hx hk1 hk2 hk4 hk5 hk6 B4 B5 B2 hv hn hr
  go_enter Tryz.func15, Tryz.ntmps15
  go_upto_region 2 with (go_at_call 12; refine (playWord_any P T 9 p _ KS.out).mono ?_; rintro e v1 ⟨rfl, ho1⟩; rw [ES.out]; have HB1 := Lib.hid (HB.out.adds ho1); have HO1 := Lib.hid ho1; obtain ⟨y0, y1, y2⟩ := HN.out _ ho1; clear ho1)
  by_cases c1 : x = k1
  · have hv : besideV g x = some k4 := by rw [HV.out, if_pos c1]
    have HVV := Lib.hid hv
    subst c1
    clear hv HV
    go_wp2_with (first
        | (go_at_call 13; (with_reducible refine (state16_any (g - 1) 1 _).mono ?_); rintro e vp ⟨rfl, rfl⟩; rw [K1.out])
        | (go_at_call 13; (with_reducible refine (state16_any g 4 _).mono ?_); rintro e vp ⟨rfl, rfl⟩; rw [K4.out])
        | (go_at_call 13; (with_reducible refine (state16_any g 5 _).mono ?_); rintro e vp ⟨rfl, rfl⟩; rw [K5.out])
        | (go_at_call 13; (with_reducible refine (state16_any g 6 _).mono ?_); rintro e vp ⟨rfl, rfl⟩; rw [K6.out])
        | (go_at_call 13; (with_reducible refine (state16_any g 2 _).mono ?_); rintro e vp ⟨rfl, rfl⟩; rw [K2.out])
        | (go_at_call 22; (with_reducible refine (playPut_any (v := k4) HB1.out IS.out.1 IS.out.2 HB4.out).mono ?_); rintro e v2 ⟨rfl, hb2, ho2⟩; have HBF := Lib.hid hb2; have HOF := Lib.hid ((HO1.out.mono (T := fun j => SB sb sm j ∨ SB tb tm j) (fun _ _ e => e.elim)).trans ho2); clear hb2 ho2))
    go_ret
    rw [(HRR.out _ HVV.out).1, (HRR.out _ HVV.out).2]
    exact ⟨rfl, HBF.out, HOF.out⟩
  · by_cases c4 : x = k4
    · have hv : besideV g x = some k5 := by rw [HV.out, if_neg c1, if_pos c4]
      have HVV := Lib.hid hv
      have e1 : (x == k1) = false := by simpa using c1
      have e4 : (x == k4) = true := by simpa using c4
      clear hv HV c1 c4
      go_wp2_with (first
          | (go_at_call 13; (with_reducible refine (state16_any (g - 1) 1 _).mono ?_); rintro e vp ⟨rfl, rfl⟩; rw [K1.out])
          | (go_at_call 13; (with_reducible refine (state16_any g 4 _).mono ?_); rintro e vp ⟨rfl, rfl⟩; rw [K4.out])
          | (go_at_call 13; (with_reducible refine (state16_any g 5 _).mono ?_); rintro e vp ⟨rfl, rfl⟩; rw [K5.out])
          | (go_at_call 13; (with_reducible refine (state16_any g 6 _).mono ?_); rintro e vp ⟨rfl, rfl⟩; rw [K6.out])
          | (go_at_call 13; (with_reducible refine (state16_any g 2 _).mono ?_); rintro e vp ⟨rfl, rfl⟩; rw [K2.out])
          | (go_at_call 22; (with_reducible refine (playPut_any (v := k5) HB1.out IS.out.1 IS.out.2 HB5.out).mono ?_); rintro e v2 ⟨rfl, hb2, ho2⟩; have HBF := Lib.hid hb2; have HOF := Lib.hid ((HO1.out.mono (T := fun j => SB sb sm j ∨ SB tb tm j) (fun _ _ e => e.elim)).trans ho2); clear hb2 ho2))
      go_ret
      rw [(HRR.out _ HVV.out).1, (HRR.out _ HVV.out).2]
      exact ⟨rfl, HBF.out, HOF.out⟩
    · by_cases c6 : x = k6
      · have hv : besideV g x = some k2 := by rw [HV.out, if_neg c1, if_neg c4, if_pos c6]
        have HVV := Lib.hid hv
        have e1 : (x == k1) = false := by simpa using c1
        have e4 : (x == k4) = false := by simpa using c4
        have e6 : (x == k6) = true := by simpa using c6
        clear hv HV c1 c4 c6
        go_wp2_with (first
            | (go_at_call 13; (with_reducible refine (state16_any (g - 1) 1 _).mono ?_); rintro e vp ⟨rfl, rfl⟩; rw [K1.out])
            | (go_at_call 13; (with_reducible refine (state16_any g 4 _).mono ?_); rintro e vp ⟨rfl, rfl⟩; rw [K4.out])
            | (go_at_call 13; (with_reducible refine (state16_any g 5 _).mono ?_); rintro e vp ⟨rfl, rfl⟩; rw [K5.out])
            | (go_at_call 13; (with_reducible refine (state16_any g 6 _).mono ?_); rintro e vp ⟨rfl, rfl⟩; rw [K6.out])
            | (go_at_call 13; (with_reducible refine (state16_any g 2 _).mono ?_); rintro e vp ⟨rfl, rfl⟩; rw [K2.out])
            | (go_at_call 22; (with_reducible refine (playPut_any (v := k2) HB1.out IS.out.1 IS.out.2 HB2.out).mono ?_); rintro e v2 ⟨rfl, hb2, ho2⟩; have HBF := Lib.hid hb2; have HOF := Lib.hid ((HO1.out.mono (T := fun j => SB sb sm j ∨ SB tb tm j) (fun _ _ e => e.elim)).trans ho2); clear hb2 ho2))
        go_ret
        rw [(HRR.out _ HVV.out).1, (HRR.out _ HVV.out).2]
        exact ⟨rfl, HBF.out, HOF.out⟩
      · have hv : besideV g x = none := by rw [HV.out, if_neg c1, if_neg c4, if_neg c6]
        have HVV := Lib.hid hv
        have e1 : (x == k1) = false := by simpa using c1
        have e4 : (x == k4) = false := by simpa using c4
        have e6 : (x == k6) = false := by simpa using c6
        clear hv HV c1 c4 c6
        go_wp2_with (first
            | (go_at_call 13; (with_reducible refine (state16_any (g - 1) 1 _).mono ?_); rintro e vp ⟨rfl, rfl⟩; rw [K1.out])
            | (go_at_call 13; (with_reducible refine (state16_any g 4 _).mono ?_); rintro e vp ⟨rfl, rfl⟩; rw [K4.out])
            | (go_at_call 13; (with_reducible refine (state16_any g 5 _).mono ?_); rintro e vp ⟨rfl, rfl⟩; rw [K5.out])
            | (go_at_call 13; (with_reducible refine (state16_any g 6 _).mono ?_); rintro e vp ⟨rfl, rfl⟩; rw [K6.out])
            | (go_at_call 13; (with_reducible refine (state16_any g 2 _).mono ?_); rintro e vp ⟨rfl, rfl⟩; rw [K2.out]))
        go_ret
        rw [(HRR.out _ HVV.out).1, (HRR.out _ HVV.out).2]
        exact ⟨rfl, HB1.out, HO1.out.mono (fun _ _ e => e.elim)⟩
end
/-- A page's words are laid: it waits, its two maps are words by numbers. -/
def laid1 (P T g : Int) (wv : Nat → Int) (p : Nat) (s : StoreS) : StoreS := ((s.acc 2 (pgAt P T 9 p) (Ph.mk (g - 1) 1)).acc 2 (pgAt P T 12 p) (wv (2 * p))).acc 2 (pgAt P T 13 p) (wv (2 * p + 1))
def laidN (P T g : Int) (wv : Nat → Int) : Nat → StoreS → StoreS
  | 0, s => s
  | n + 1, s => laid1 P T g wv n (laidN P T g wv n s)
def pagesL (n : Nat) : List Int := (List.range n).map (fun (i : Nat) => (i : Int))
theorem pagesL_succ (n : Nat) : pagesL (n + 1) = pagesL n ++ [(n : Int)] := by simp [pagesL, List.range_succ]
theorem pagesL_get {n : Nat} (h : 0 < n) : ((pagesL n).map (Value.int .i64))[0]? = some (.int .i64 0) := by
  have : (List.range n)[0]? = some 0 := by rw [List.getElem?_range h]
  simp only [pagesL, List.getElem?_map, this]; rfl
theorem pagesL_len (n : Nat) : (pagesL n).length = n := by simp [pagesL]
theorem pagesL_mem {n : Nat} {p : Int} (h : p ∈ pagesL n) : 0 ≤ p ∧ p < n := by
  simp only [pagesL, List.mem_map, List.mem_range] at h
  obtain ⟨i, h1, rfl⟩ := h
  omega
theorem laid1_len (P T g : Int) (wv : Nat → Int) (p : Nat) (s : StoreS) : (laid1 P T g wv p s).ws.length = s.ws.length := by simp [laid1, StoreS.acc]
theorem laidN_len (P T g : Int) (wv : Nat → Int) : ∀ (n : Nat) (s : StoreS), (laidN P T g wv n s).ws.length = s.ws.length
  | 0, s => rfl
  | n + 1, s => by rw [laidN, laid1_len, laidN_len]
theorem pile_len (P T hd : Int) (l : List Int) (s : StoreS) : (pileS P T hd l s).ws.length = s.ws.length := by unfold pileS; simp [StoreS.acc, pileF_len]
/-- What is laid. -/
def laidS (n : Nat) (T g : Int) (wv : Nat → Int) : StoreS := pileS n T 12 (pagesL n) (laidN n T g wv n (StoreS.begun (Lay.words n T).toNat 0 1))
theorem infoInt : (Tryz.prog.info? 3).map (fun i => (i.zero, i.size, i.bytes)) = some (some (.int .i64 0), 1, 8) := by kernel_rfl
set_option maxRecDepth 100000 in
set_option maxHeartbeats 8000000 in
theorem laid_any (c0 c1 g T : Int) (n : Nat) (b0 : 0 ≤ c0 ∧ c0 < 256) (b1 : 0 ≤ c1 ∧ c1 < 256) (hn : 1 + c0 % 24 = (n : Int)) (hT : 1 + c1 % 6 = T) (hg : 2 ≤ g ∧ g ≤ 1000) {w0 w : World} {a : Option Addr} {len cap : Nat} {zs : List Int} (hz : IsRow .u64 w0 a len cap zs) (ho : Adds w0 w) :
    Calls Tryz.prog 5 #[.int .u8 c0, .int .u8 c1, .int .i64 g, .slice a len cap] w fun e w' => ∃ ab sb sm rb rg bb tb tm ub fb, e = .returned (.tuple #[.pointer (some ⟨ab, 0, none⟩), .pointer (some ⟨bb, 0, none⟩)]) ∧
      Both w' ab sb sm rb rg bb tb tm ub fb n T (laidS n T g (wordsV zs len)) (laidS n T g (wordsV zs len)) ∧ Adds w w' ∧ (w.heap.size ≤ ab ∧ w.heap.size ≤ sb ∧ w.heap.size ≤ sm ∧ w.heap.size ≤ bb ∧ w.heap.size ≤ tb ∧ w.heap.size ≤ tm) := by
  have p1 : 1 ≤ n := by omega
  have p2 : n ≤ 24 := by omega
  have t1 : 1 ≤ T := by omega
  have t2 : T ≤ 6 := by omega
  have hmay : Lay.may n T = true := Lay.may_iff.2 ⟨by omega, by omega, by omega, by omega⟩
  have HSET := fun W => setup_nil c0 c1 24 W b0 b1 (by omega)
  rw [hn, hT] at HSET
  replace HSET := Lib.hid HSET
  have HMAY := Lib.hid hmay
  have hwd := fun (p : Int) k (k0 : 9 ≤ k) (k1 : k ≤ 13) (h0 : 0 ≤ p) (h1 : p < n) => pgAt_eq (k := k) hmay k0 k1 h0 h1
  have HOK := Lib.hid (fun (p : Int) k (k0 : 9 ≤ k) (k1 : k ≤ 13) (h0 : 0 ≤ p) (h1 : p < n) => (hwd p k k0 k1 h0 h1).2.1)
  have HIN : Hid (∀ q : StoreS, q.ws.length = (Lay.words n T).toNat → ∀ (p : Int) k, 9 ≤ k → k ≤ 13 → 0 ≤ p → p < n → q.inR (pgAt n T k p)) := Lib.hid (fun q hq p k k0 k1 h0 h1 => by
    have := hwd p k k0 k1 h0 h1
    exact ⟨by omega, by rw [hq]; omega⟩)
  have HAT : Hid (∀ k p, Lay.pageAt n T k p = pgAt n T k p) := Lib.hid (fun k p => rfl)
  have HZ := Lib.hid hz; have HO0 := Lib.hid ho
  have HWB := Lib.hid (fun i => wordsV_bd hz i)
  obtain ⟨wv, hwv⟩ : ∃ wv : Nat → Int, wordsV zs len = wv := ⟨_, rfl⟩
  rw [hwv] at HWB ⊢
  have HWV : Hid (∀ i, wordsV zs len i = wv i) := Lib.hid (fun i => by rw [hwv])
  obtain ⟨K1, hK1⟩ : ∃ K1, Ph.mk (g - 1) 1 = K1 := ⟨_, rfl⟩
  have hkb := Ph.mk_bd (g - 1) 1
  rw [hK1] at hkb
  have HK := Lib.hid hK1; have HKB := Lib.hid hkb
  have eg : IntKind.i64.wrap (g - 1) = g - 1 := by rw [IntKind.wrap_i64]; omega
  have HLAID : Hid (laidS n T g wv = pileS n T 12 (pagesL n) (laidN n T g wv n (StoreS.begun (Lay.words n T).toNat 0 1))) := Lib.hid rfl
  obtain ⟨SE, hSE⟩ : ∃ SE, laidS n T g wv = SE := ⟨_, rfl⟩
  rw [hSE] at HLAID ⊢
  obtain ⟨i0, hi, hz0, hz1, hz2⟩ := info_parts infoInt
  clear hmay hwd hz ho hwv hK1 hkb hSE b0 b1 hn hT
  go_enter Tryz.func5, Tryz.ntmps5
  go_upto_region 5 with (first
    | (go_at_call 20; refine (HSET.out _).mono ?_; rintro e w2 ⟨rfl, ho⟩; have HO2 := Lib.hid ho; clear ho)
    | (go_at_call 21; refine (arenas_ok n T _ HMAY.out).mono ?_; rintro e w3 ⟨ab, sb, sm, rb, rg, bb, tb, tm, ub, fb, rfl, hB, ho, hlow⟩; have HB := Lib.hid hB; have HO := Lib.hid ho; have HLOW := Lib.hid hlow; clear hB ho hlow))
  obtain ⟨stb, hstb⟩ : ∃ stb, stb = w2.heap.size := ⟨_, rfl⟩
  have hset : Blk w3 w2.heap.size #[.int .i64 n, .int .i64 T, .slice none 0 0] 64 := (Blk.new w2 _ _).only HO.out id
  rw [← hstb] at hset ⊢
  have HST := Lib.hid hset
  have hz3 := HO.out.size
  have hlow := HLOW.out
  simp only [World.size_alloc] at hz3 hlow
  have hz2' := HO2.out.size
  have HA3 := Lib.hid ((HO2.out.alloc (.cells #[.int .i64 n, .int .i64 T, .slice none 0 0] 64)).thenF HO.out)
  have HLO := Lib.hid (show w.heap.size ≤ ab ∧ w.heap.size ≤ sb ∧ w.heap.size ≤ sm ∧ w.heap.size ≤ bb ∧ w.heap.size ≤ tb ∧ w.heap.size ≤ tm by omega)
  have HLEN : Hid (∀ k, (laidN n T g wv k (StoreS.begun (Lay.words n T).toNat 0 1)).ws.length = (Lay.words n T).toNat) := Lib.hid (fun k => by rw [laidN_len]; exact begun_len _ _ _)
  have HB0 : Hid (Both w3 ab sb sm rb rg bb tb tm ub fb n T (laidN n T g wv 0 (StoreS.begun (Lay.words n T).toNat 0 1)) (laidN n T g wv 0 (StoreS.begun (Lay.words n T).toNat 0 1))) := HB
  clear hset hlow HLOW HO HO2 HSET hstb hz3 hz2' HB
  go_wp2_with fail
  go_loopw [13, 14] (fun lv i wr => ∃ (k : Nat) (al : Option Addr) (cl : Nat), k ≤ n ∧ i = .int .i64 k ∧ lv = .slice al k cl ∧ Hid (wr.ownsRow 0 3 1 (.slice al k cl) k ((pagesL k).map (Value.int .i64)) ∧ (k = 0 → (Value.slice al k cl) = .slice none 0 0) ∧ ∀ q, (Value.slice al k cl).ownBlock = some q → w.heap.size ≤ q) ∧ Hid (Both wr ab sb sm rb rg bb tb tm ub fb n T (laidN n T g wv k (StoreS.begun (Lay.words n T).toNat 0 1)) (laidN n T g wv k (StoreS.begun (Lay.words n T).toNat 0 1)) ∧ Adds w wr ∧ Blk wr stb #[.int .i64 n, .int .i64 T, .slice none 0 0] 64)) (fun _ i _ => n - (intOf i).toNat)
  case atStart => exact ⟨0, none, 0, Nat.zero_le _, rfl, rfl, Lib.hid ⟨World.ownsRow_nil _ _ _ _, fun _ => rfl, fun q hq => by cases hq⟩, Lib.hid ⟨HB0.out, HA3.out, HST.out⟩⟩
  case round =>
    obtain ⟨k, al, cl, hk, rfl, rfl, HOW, HR⟩ := hrel
    clear HB0 HA3 HST
    have s0 : wr.cell? ⟨stb, 0, none⟩ = some (.int .i64 n) := HR.out.2.2.cell 0
    by_cases c1 : k < n
    · have hd : decide ((k : Int) < (n : Int)) = true := by simpa using c1
      have gk : (k : Int) < (n : Int) := by omega
      have HGK := Lib.hid (show (0 : Int) ≤ (k : Int) ∧ (k : Int) < (n : Int) by omega)
      obtain ⟨wi, hwi⟩ : ∃ wi, wr.alloc (.cells #[.int .i64 (k : Int)] 3) = wi := ⟨_, rfl⟩
      have hA : Adds wr wi := by rw [← hwi]; exact (Only.refl (fun _ => False) wr).alloc _
      have hRi : Both wi ab sb sm rb rg bb tb tm ub fb n T (laidN n T g wv k (StoreS.begun (Lay.words n T).toNat 0 1)) (laidN n T g wv k (StoreS.begun (Lay.words n T).toNat 0 1)) ∧ Adds w wi ∧ Blk wi stb #[.int .i64 n, .int .i64 T, .slice none 0 0] 64 := ⟨HR.out.1.adds hA, HR.out.2.1.thenF hA, HR.out.2.2.only hA id⟩
      have HRI := Lib.hid hRi
      have hroww : wi.ownsRow 0 3 1 (.slice al k cl) k ((pagesL k).map (Value.int .i64)) := ownsRow_only HOW.out.1 hA (fun _ _ => id)
      have HROW := Lib.hid hroww; have HNIL := Lib.hid HOW.out.2.1
      have c1i : wi.cell? ⟨wr.heap.size, 0, none⟩ = some (.int .i64 (k : Int)) := by rw [← hwi]; exact (Blk.new wr _ _).cell 0
      have HC1 : Hid (∀ j x, [Value.int .i64 (k : Int)][j]? = some x → wi.cell? ((⟨wr.heap.size, 0, none⟩ : Addr).add j) = some x) := Lib.hid (by rw [← hwi]; exact cell_one_new _ _ _)
      have HWI := Lib.hid hwi
      have hl2 : k + 1 ≤ maxLen := by unfold maxLen; omega
      have hl3 : (k + 1) * 8 ≤ 140737488355328 := by omega
      clear hA hRi hroww hwi c1i
      go_upto_region 10 with (at_builtin; rw [HWI.out]; refine wpList_append_big _ rfl _ _ 36 rfl 0 3 i0 (.int .i64 0) 8 Tryz.underlying36 hi hz0 hz1 hz2 rfl (.slice al k cl) k ((pagesL k).map (Value.int .i64)) rfl HROW.out HNIL.out ⟨wr.heap.size, 0, none⟩ 1 (.int .i64 (k : Int)) rfl HC1.out rfl hl2 hl3 (Nat.zero_le _) ?_; intro v' w4 hown4 ho4 hat4; obtain ⟨a4, c4, rfl⟩ := ownsRow_slice hown4; have HR4 := Lib.hid (And.intro hown4 (And.intro ho4 hat4)); clear hown4 ho4 hat4)
      obtain ⟨hown4, ho4, hat4⟩ := HR4.out
      have hne : ∀ {b : Nat} {c : Array Value} {t : TypeId}, Blk wi b c t → t ≠ 3 → ¬ ((Value.slice al k cl).ownBlock = some b ∧ Big wi b) := fun hb ht e => by
        obtain ⟨c2, hc2⟩ := ownsRow_blk HROW.out e.1
        exact ht (hb.uniq hc2).2
      have hB4 := HRI.out.1.keep ho4 (fun b c t hb ht => hne hb (by rintro rfl; revert ht; decide)) (hne HRI.out.1.yard.st.head (by decide)) (hne HRI.out.1.yard.st.row (by decide)) (hne HRI.out.1.mem.st.head (by decide)) (hne HRI.out.1.mem.st.row (by decide)) (hne HRI.out.1.mem.fr (by decide))
      have hA4 : Adds w w4 := HRI.out.2.1.andThen ho4 (fun i hi e => by have := HOW.out.2.2 i e.1; omega)
      have hT4 := HRI.out.2.2.only ho4 (hne HRI.out.2.2 (by decide))
      obtain ⟨v0, hv0⟩ : ∃ v0, w4 = v0 := ⟨_, rfl⟩
      have hlow4 : ∀ q, (Value.slice a4 (k + 1) c4).ownBlock = some q → w.heap.size ≤ q := fun q hq => by
        rcases hat4 with e | e
        · exact HOW.out.2.2 q (e ▸ hq)
        · rw [e] at hq; injection hq with hq; have := HRI.out.2.1.size; omega
      have HL4 := Lib.hid hlow4; have HROW4 := Lib.hid hown4
      have HB0 := Lib.hid hB4; have HA0 := Lib.hid hA4; have HT0 := Lib.hid hT4
      have HX0 : Hid (Only (fun j => SB sb sm j ∨ SB tb tm j) w4 w4) := Lib.hid (Only.refl _ _)
      subst hv0
      have HLW : Hid (∀ i, i < w.heap.size → (SB sb sm i ∨ SB tb tm i) → False) := Lib.hid (fun i hi e => by
        have := HLO.out
        rcases e with (e | e) | (e | e) <;> omega)
      have HNT : Hid (∀ (V : World) {q q' : StoreS}, Both V ab sb sm rb rg bb tb tm ub fb n T q q' → ∀ (b : Nat) (c : Array Value) (t : TypeId), Blk V b c t → (t ≠ 110 ∧ t ≠ 84 ∧ t ≠ 39) → ¬ (SB sb sm b ∨ SB tb tm b)) := Lib.hid (fun V q q' hB b c t hb ht e => by
        rcases e with (e | e) | (e | e)
        · exact ht.1 (hb.uniq (e ▸ hB.yard.st.head)).2
        · exact ht.2.2 (hb.uniq (e ▸ hB.yard.st.row)).2
        · exact ht.2.1 (hb.uniq (e ▸ hB.mem.st.head)).2
        · exact ht.2.2 (hb.uniq (e ▸ hB.mem.st.row)).2)
      obtain ⟨S0, hS0⟩ : ∃ S0, laidN n T g wv k (StoreS.begun (Lay.words n T).toNat 0 1) = S0 := ⟨_, rfl⟩
      have HLS := HLEN.out k
      rw [hS0] at HLS HB0
      have HS0 := Lib.hid hS0
      have I9 := Lib.hid (HIN.out S0 HLS (k : Int) 9 (by decide) (by decide) HGK.out.1 HGK.out.2)
      have I12 := Lib.hid (HIN.out (S0.acc 2 (pgAt n T 9 k) K1) (by simpa [StoreS.acc] using HLS) (k : Int) 12 (by decide) (by decide) HGK.out.1 HGK.out.2)
      have I13 := Lib.hid (HIN.out ((S0.acc 2 (pgAt n T 9 k) K1).acc 2 (pgAt n T 12 k) (wv (2 * k))) (by simpa [StoreS.acc] using HLS) (k : Int) 13 (by decide) (by decide) HGK.out.1 HGK.out.2)
      have HW2 : Hid (∀ V, Adds w V → Calls Tryz.prog 10 #[.slice a len cap, .int .i64 (2 * (k : Int))] V fun e w' => e = .returned (.int .u64 (wv (2 * k))) ∧ V = w') := Lib.hid (fun V hA => by
        have := words16_any HZ.out (HO0.out.thenF hA) (2 * k) (by omega)
        rw [HWV.out, show ((2 * k : Nat) : Int) = 2 * (k : Int) by omega] at this
        exact this)
      have HW3 : Hid (∀ V, Adds w V → Calls Tryz.prog 10 #[.slice a len cap, .int .i64 (2 * (k : Int) + 1)] V fun e w' => e = .returned (.int .u64 (wv (2 * k + 1))) ∧ V = w') := Lib.hid (fun V hA => by
        have := words16_any HZ.out (HO0.out.thenF hA) (2 * k + 1) (by omega)
        rw [HWV.out, show ((2 * k + 1 : Nat) : Int) = 2 * (k : Int) + 1 by omega] at this
        exact this)
      have m0 : w4.cell? ⟨bb, 2, none⟩ = some (.int .i64 n) := HB0.out.mem.head.cell 2
      have n0 : w4.cell? ⟨bb, 3, none⟩ = some (.int .i64 T) := HB0.out.mem.head.cell 3
      have e1 : IntKind.i64.wrap (2 * (k : Int)) = 2 * (k : Int) := by rw [IntKind.wrap_i64]; omega
      have e2 : IntKind.i64.wrap (2 * (k : Int) + 1) = 2 * (k : Int) + 1 := by rw [IntKind.wrap_i64]; omega
      have e3 : IntKind.i64.wrap ((k : Int) + 1) = (k : Int) + 1 := by rw [IntKind.wrap_i64]; omega
      clear hown4 ho4 hat4 hne hB4 hA4 hT4 hlow4 hS0 HLS HR4 HR HOW HRI HROW HNIL HC1 HWI s0 hd gk hl2 hl3
      go_wp2_with (first
        | (go_at_call 12; (with_reducible refine (playWord_any n T 9 (k : Int) w4 (HOK.out _ 9 (by decide) (by decide) HGK.out.1 HGK.out.2)).mono ?_); rintro e v1 ⟨rfl, ho1⟩; rw [HAT.out]; have HB1 := Lib.hid (HB0.out.adds ho1); have HA1 := Lib.hid (HA0.out.thenF ho1); have HT1 := Lib.hid (HT0.out.only ho1 id); have HX1 := Lib.hid (HX0.out.trans (ho1.mono (fun _ _ e => e.elim))); clear ho1)
        | (go_at_call 13; (with_reducible refine (state16_any (g - 1) 1 _).mono ?_); rintro e vp ⟨rfl, rfl⟩; rw [HK.out])
        | (go_at_call 22; (with_reducible refine (playPut_any (v := K1) HB1.out I9.out I9.out HKB.out).mono ?_); rintro e v2 ⟨rfl, hb2, ho2⟩; have HB2 := Lib.hid hb2; have HA2 := Lib.hid (HA1.out.andThen ho2 (HLW.out)); have HT2 := Lib.hid (HT1.out.only ho2 (HNT.out _ HB1.out _ _ _ HT1.out (by decide))); have HX2 := Lib.hid (HX1.out.trans ho2); have m2 : v2.cell? ⟨bb, 2, none⟩ = some (.int .i64 n) := HB2.out.mem.head.cell 2; have n2 : v2.cell? ⟨bb, 3, none⟩ = some (.int .i64 T) := HB2.out.mem.head.cell 3; clear hb2 ho2)
        | (go_at_call 12; (with_reducible refine (playWord_any n T 12 (k : Int) v2 (HOK.out _ 12 (by decide) (by decide) HGK.out.1 HGK.out.2)).mono ?_); rintro e v3 ⟨rfl, ho3⟩; rw [HAT.out]; have HB3 := Lib.hid (HB2.out.adds ho3); have HA3 := Lib.hid (HA2.out.thenF ho3); have HT3 := Lib.hid (HT2.out.only ho3 id); have HX3 := Lib.hid (HX2.out.trans (ho3.mono (fun _ _ e => e.elim))); clear ho3)
        | (go_at_call 10; (with_reducible refine (HW2.out _ HA3.out).mono ?_); rintro e vp ⟨rfl, rfl⟩)
        | (go_at_call 22; (with_reducible refine (playPut_any (v := (wv (2 * k))) HB3.out I12.out I12.out (HWB.out _)).mono ?_); rintro e v4 ⟨rfl, hb4, ho4⟩; have HB4 := Lib.hid hb4; have HA4 := Lib.hid (HA3.out.andThen ho4 (HLW.out)); have HT4 := Lib.hid (HT3.out.only ho4 (HNT.out _ HB3.out _ _ _ HT3.out (by decide))); have HX4 := Lib.hid (HX3.out.trans ho4); have m4 : v4.cell? ⟨bb, 2, none⟩ = some (.int .i64 n) := HB4.out.mem.head.cell 2; have n4 : v4.cell? ⟨bb, 3, none⟩ = some (.int .i64 T) := HB4.out.mem.head.cell 3; clear hb4 ho4)
        | (go_at_call 12; (with_reducible refine (playWord_any n T 13 (k : Int) v4 (HOK.out _ 13 (by decide) (by decide) HGK.out.1 HGK.out.2)).mono ?_); rintro e v5 ⟨rfl, ho5⟩; rw [HAT.out]; have HB5 := Lib.hid (HB4.out.adds ho5); have HA5 := Lib.hid (HA4.out.thenF ho5); have HT5 := Lib.hid (HT4.out.only ho5 id); have HX5 := Lib.hid (HX4.out.trans (ho5.mono (fun _ _ e => e.elim))); clear ho5)
        | (go_at_call 10; (with_reducible refine (HW3.out _ HA5.out).mono ?_); rintro e vp ⟨rfl, rfl⟩)
        | (go_at_call 22; (with_reducible refine (playPut_any (v := (wv (2 * k + 1))) HB5.out I13.out I13.out (HWB.out _)).mono ?_); rintro e v6 ⟨rfl, hb6, ho6⟩; have HB6 := Lib.hid hb6; have HA6 := Lib.hid (HA5.out.andThen ho6 (HLW.out)); have HT6 := Lib.hid (HT5.out.only ho6 (HNT.out _ HB5.out _ _ _ HT5.out (by decide))); have HX6 := Lib.hid (HX5.out.trans ho6); have m6 : v6.cell? ⟨bb, 2, none⟩ = some (.int .i64 n) := HB6.out.mem.head.cell 2; have n6 : v6.cell? ⟨bb, 3, none⟩ = some (.int .i64 T) := HB6.out.mem.head.cell 3; clear hb6 ho6))
      go_roundw
      case measure => first | (simp [intOf]; done) | (simp [intOf]; omega)
      case rel =>
        refine ⟨k + 1, a4, c4, by omega, by go_num, rfl, Lib.hid ⟨?_, fun e => by omega, HL4.out⟩, Lib.hid ⟨?_, HA6.out, HT6.out⟩⟩
        · rw [pagesL_succ, List.map_append]
          refine ownsRow_only HROW4.out HX6.out (fun q hq => ?_)
          obtain ⟨c2, hc2⟩ := ownsRow_blk HROW4.out hq
          exact HNT.out _ HB0.out _ _ _ hc2 (by decide)
        · have := HB6.out
          rw [← HS0.out, ← HK.out] at this
          exact this
    · have hke : k = n := by omega
      subst hke
      have hd : decide ((k : Int) < (k : Int)) = false := by simp
      obtain ⟨v0, cp, hve, -⟩ := row_at HOW.out.1 (k := 0) (x := .int .i64 0) (by omega) (pagesL_get (by omega))
      cases hve
      obtain ⟨S0, hS0⟩ : ∃ S0, laidN k T g wv k (StoreS.begun (Lay.words k T).toNat 0 1) = S0 := ⟨_, rfl⟩
      have HLS := Lib.hid (HLEN.out k)
      rw [hS0] at HLS HLAID HR
      have HLEQ := HLAID.out
      have HP : Hid (∀ q ∈ pagesL k, 0 ≤ q ∧ q < (k : Int)) := Lib.hid (fun q hq => pagesL_mem hq)
      have HCC : Hid (∀ W, Only (fun j => SB sb sm j ∨ SB tb tm j) wr W → ∀ q p, (pagesL k)[q]? = some p → W.cell? ⟨v0, q, none⟩ = some (.int .i64 p)) := Lib.hid (fun W hW q p hqp => by
        have hq : q < k := by have := (List.getElem?_eq_some_iff.1 hqp).1; rwa [pagesL_len] at this
        have hrow := ownsRow_only HOW.out.1 hW (fun i hi e => by
          obtain ⟨c2, hc2⟩ := ownsRow_blk HOW.out.1 hi
          rcases e with (e | e) | (e | e)
          · have := (hc2.uniq (e ▸ HR.out.1.yard.st.head)).2; revert this; decide
          · have := (hc2.uniq (e ▸ HR.out.1.yard.st.row)).2; revert this; decide
          · have := (hc2.uniq (e ▸ HR.out.1.mem.st.head)).2; revert this; decide
          · have := (hc2.uniq (e ▸ HR.out.1.mem.st.row)).2; revert this; decide)
        obtain ⟨g2, cp2, e2, hc⟩ := row_at hrow hq (x := .int .i64 p) (by rw [List.getElem?_map, hqp]; rfl)
        cases e2
        exact hc)
      have s0 : wr.cell? ⟨stb, 0, none⟩ = some (.int .i64 (k : Int)) := HR.out.2.2.cell 0
      clear HOW HLAID hS0
      go_wp2_with (go_at_call 23; (have hpile := pile_any (pages := pagesL k) (cap := cl) (hd := 12) HR.out.1 HMAY.out HLS.out HLS.out (by decide) HP.out (by rw [pagesL_len]; omega) (HCC.out)); rw [pagesL_len] at hpile; refine hpile.mono ?_; rintro e v2 ⟨rfl, hb2, ho2⟩; have HB2 := Lib.hid hb2; have HO2 := Lib.hid ho2; clear hb2 ho2)
      go_ret2
      rw [HLEQ]
      exact ⟨_, _, _, _, _, _, _, _, _, _, rfl, HB2.out, HR.out.2.1.andThen HO2.out (fun i hi e => by
        have := HLO.out
        rcases e with (e | e) | (e | e) <;> omega), HLO.out⟩
/-- The stack's words: no page that the arena has not. -/
structure StkOk (P T hd : Int) (s : StoreS) : Prop where
  hd : Tag.pg (s.word hd) < P
  nx : ∀ q, 0 ≤ q → q < P → s.word (nxAt P T q) ≤ P
theorem tagPg_mk {t p : Int} (h : -1 ≤ p ∧ p < 4096) : Tag.pg (Tag.mk t p) = p := by
  unfold Tag.mk Tag.okB
  rw [if_pos (by simpa using h)]
  unfold Tag.pg
  have : (t * 4294967296 + (p + 1)) % 4294967296 = p + 1 := by omega
  rw [this, if_neg (by omega)]; omega
theorem tagPg_nx {x p : Int} (h : -1 ≤ p ∧ p < 4096) : Tag.pg (Tag.nx x p) = p := tagPg_mk h
/-- What a claim's state has of the arena. -/
def KOk (P : Int) : ClmSt → Prop
  | .pop .load => True
  | .pop (.next v) => 0 ≤ Tag.pg v ∧ Tag.pg v < P
  | .pop (.cas v x) => (0 ≤ Tag.pg v ∧ Tag.pg v < P) ∧ 0 ≤ x ∧ x ≤ P
  | .hv p _ => 0 ≤ p ∧ p < P
section
variable {w w' : World} {mb pb ab sb sm rb bb tb tm ub fb i : Nat} {P T hd g p : Int} {s : StoreS} {k : ClmSt} {x : MS} {lg mkv mem : Value}
theorem ClA.ok (h : ClA P T hd g w mb pb k) : KOk P k := by
  cases k with
  | pop k =>
    obtain ⟨n, bp, bm, st, tk, _, h2⟩ := h
    cases k with
    | load => trivial
    | next v => exact h2.2.1
    | cas v x => exact ⟨h2.2.1, h2.2.2.1⟩
  | hv p k =>
    cases k with
    | look => exact h.1
    | held v => exact h.1
    | hand v => exact h.1
    | put => exact h.1
    | sw k => exact h.1
theorem nx_ok (h : StkOk P T hd s) (hk : KOk P k) : (claimA P T hd g).nx k (s.word ((claimA P T hd g).ac k).pos) ≠ .inr (-2) := by
  cases k with
  | pop k =>
    have key : (∀ k1, (popA P T hd).nx k (s.word ((popA P T hd).ac k).pos) = .inl k1 → True) ∧ ∀ r, (popA P T hd).nx k (s.word ((popA P T hd).ac k).pos) = .inr r → -1 ≤ r ∧ r < P := by
      refine ⟨fun _ _ => trivial, fun r hr => ?_⟩
      cases k with
      | load =>
        have h1 := h.hd
        have h2 := (tagPg_bd (s.word hd)).1
        change (if Tag.pg (s.word hd) < 0 then Sum.inr (-1) else if P ≤ Tag.pg (s.word hd) then Sum.inr (-2) else Sum.inl (PopSt.next (s.word hd))) = Sum.inr r at hr
        split at hr
        · injection hr with hr; omega
        · split at hr
          · omega
          · cases hr
      | next v =>
        have h1 := h.nx _ hk.1 hk.2
        change (if P < s.word (nxAt P T (Tag.pg v)) then Sum.inr (-2) else Sum.inl (PopSt.cas v (s.word (nxAt P T (Tag.pg v))))) = Sum.inr r at hr
        split at hr
        · omega
        · cases hr
      | cas v x =>
        have h1 := hk.1
        change (if s.word hd = v then Sum.inr (Tag.pg v) else Sum.inl PopSt.load) = Sum.inr r at hr
        split at hr
        · injection hr with hr; omega
        · cases hr
    show (match (popA P T hd).nx k (s.word ((popA P T hd).ac k).pos) with | .inl k1 => Sum.inl (ClmSt.pop k1) | .inr p => if p = -2 then .inr (-2) else if p < 0 then .inr (-1) else if P ≤ p then .inr (-2) else .inl (.hv p .look)) ≠ .inr (-2)
    rcases hn : (popA P T hd).nx k (s.word ((popA P T hd).ac k).pos) with k1 | r
    · simp
    · have := key.2 r hn
      dsimp only
      rw [if_neg (by omega)]
      split
      · simp
      · rw [if_neg (by omega)]; simp
  | hv p k =>
    show (match (haveA P T g p).nx k (s.word ((haveA P T g p).ac k).pos) with | .inl k1 => Sum.inl (ClmSt.hv p k1) | .inr b => if b = 0 then .inl (.pop .load) else .inr p) ≠ .inr (-2)
    have h1 : 0 ≤ p := hk.1
    split
    · simp
    · split
      · simp
      · intro e; injection e with e; omega
theorem StkOk.far (h : StkOk P T hd s) {j : Int} (hj : 0 ≤ j) (hhd : 0 ≤ hd) (hm : Lay.may P T = true) (h1 : j ≠ hd) (h2 : ∀ q, 0 ≤ q → q < P → j ≠ nxAt P T q) (a v : Int) : StkOk P T hd (s.acc a j v) :=
  ⟨by rw [StoreS.acc_word_other hj hhd (Ne.symm h1)]; exact h.hd, fun q q0 q1 => by
    have := (nxAt_eq hm q0 q1).1
    have := Lay.may_iff.1 hm
    rw [StoreS.acc_word_other hj (by omega) (Ne.symm (h2 q q0 q1))]; exact h.nx q q0 q1⟩
theorem StkOk.same (h : StkOk P T hd s) {j : Int} (hj : s.inR j) (hhd : 0 ≤ hd) (hm : Lay.may P T = true) (a : Int) : StkOk P T hd (s.acc a j (s.word j)) := by
  have e : ∀ i, 0 ≤ i → (s.acc a j (s.word j)).word i = s.word i := fun i hi => by
    by_cases e : i = j
    · subst e; exact StoreS.acc_word hj _ _
    · exact StoreS.acc_word_other hj.1 hi e _ _
  exact ⟨by rw [e _ hhd]; exact h.hd, fun q q0 q1 => by
    have := (nxAt_eq hm q0 q1).1
    have := Lay.may_iff.1 hm
    rw [e _ (by omega)]; exact h.nx q q0 q1⟩
theorem StkOk.head (h : StkOk P T hd s) {v : Int} (hi : s.inR hd) (hh : hd < 68) (hm : Lay.may P T = true) (hv : Tag.pg v < P) (a : Int) : StkOk P T hd (s.acc a hd v) :=
  ⟨by rw [StoreS.acc_word hi]; exact hv, fun q q0 q1 => by
    have := (nxAt_eq hm q0 q1).1
    have := Lay.may_iff.1 hm
    rw [StoreS.acc_word_other hi.1 (by omega) (by omega)]; exact h.nx q q0 q1⟩
/-- At a page's state, what is allocated, its marks. -/
theorem StkOk.page (h : StkOk P T hd s) {kk : Int} (hh : 8 ≤ hd ∧ hd < 68) (hm : Lay.may P T = true) (k0 : 9 ≤ kk) (k1 : kk ≤ 13) (k2 : kk ≠ 11) (p0 : 0 ≤ p) (p1 : p < P) (a v : Int) : StkOk P T hd (s.acc a (pgAt P T kk p) v) := by
  have e := (pgAt_eq hm k0 k1 p0 p1).1
  have := Lay.may_iff.1 hm
  refine h.far (by omega) (by omega) hm (by omega) (fun q q0 q1 => ?_) a v
  have := (nxAt_eq hm q0 q1).1
  omega
theorem StkOk.act (h : StkOk P T hd s) (hk : KOk P k) (hh : 8 ≤ hd ∧ hd < 68) (hm : Lay.may P T = true) (hlen : s.ws.length = (Lay.words P T).toNat) : StkOk P T hd (((claimA P T hd g).ac k).act s) := by
  have hmm := Lay.may_iff.1 hm
  have hi : s.inR hd := ⟨by omega, by rw [hlen]; have := (pgAt_eq (k := 9) (p := 0) hm (by decide) (by decide) (Int.le_refl 0) (by omega)).2.2; omega⟩
  have cas : ∀ (a o v : Int), (∀ b, StkOk P T hd (s.acc b a v)) → (∀ b, StkOk P T hd (s.acc b a (s.word a))) → StkOk P T hd ((Ac.cas a o v).act s) := fun a o v h1 h2 => by
    simp only [Ac.act]; split
    · exact h1 _
    · exact h2 _
  cases k with
  | pop k =>
    cases k with
    | load => exact h.same hi (by omega) hm _
    | next v =>
      have e := nxAt_eq hm hk.1 hk.2
      have q0 : 0 ≤ Tag.pg v := hk.1
      have hj : s.inR (nxAt P T (Tag.pg v)) := ⟨by omega, by rw [hlen]; omega⟩
      exact h.same hj (by omega) hm _
    | cas v x =>
      have h1 := hk.1; have h2 := hk.2
      exact cas _ _ _ (fun b => h.head hi hh.2 hm (by rw [tagPg_nx (by omega)]; omega) b) (fun b => h.same hi (by omega) hm b)
  | hv p k =>
    have hp0 : 0 ≤ p := hk.1
    have hp1 : p < P := hk.2
    have st := fun (b v : Int) => h.page (kk := 9) hh hm (by decide) (by decide) (by decide) hp0 hp1 b v
    have al := fun (b v : Int) => h.page (kk := 12) hh hm (by decide) (by decide) (by decide) hp0 hp1 b v
    have mk := fun (b v : Int) => h.page (kk := 13) hh hm (by decide) (by decide) (by decide) hp0 hp1 b v
    cases k with
    | look => exact st _ _
    | held v => exact cas _ _ _ (fun b => st b _) (fun b => st b _)
    | hand v => exact cas _ _ _ (fun b => st b _) (fun b => st b _)
    | put => exact st _ _
    | sw k =>
      cases k with
      | mark => exact mk _ _
      | alloc b => exact al _ _
      | put b a => exact al _ _
      | zero b a => exact mk _ _
theorem StkOk.beside (h : StkOk P T hd s) (hh : 8 ≤ hd ∧ hd < 68) (hm : Lay.may P T = true) (p0 : 0 ≤ p) (p1 : p < P) (v : Int) : StkOk P T hd (besideS P T g p v s) := by
  unfold besideS
  split
  · exact h.page hh hm (by decide) (by decide) (by decide) p0 p1 _ _
  · exact h
theorem besideS_len (P T g p v : Int) (s : StoreS) : (besideS P T g p v s).ws.length = s.ws.length := by
  unfold besideS; split
  · simp [StoreS.acc]
  · rfl
theorem besideS_ws {s s' : StoreS} (h : s.ws = s'.ws) (P T g p v : Int) : (besideS P T g p v s).ws = (besideS P T g p v s').ws := by
  unfold besideS; split
  · simp [StoreS.acc, h]
  · exact h
/-- The document's claim, behind what it was told. -/
structure ClmM (x : MS) (P T g : Int) (i : Nat) (k : ClmSt) : Prop where
  log : (claimA P T 12 g).feed (.pop .load) x.log = some k
  few : x.log.length ≤ i
  what : x.what = 8
  P : x.P = P
  T : x.T = T
  head : x.head = 12
  gen : x.gen = g
  done : x.done = false
theorem ClmM.mono (h : ClmM x P T g i k) : ClmM x P T g (i + 1) k := ⟨h.log, by have := h.few; omega, h.what, h.P, h.T, h.head, h.gen, h.done⟩
set_option maxHeartbeats 4000000 in
theorem claimM_step (h : IsM w mb x lg mkv mem) (hM : IsMem w bb tb tm ub fb P T s) (hne : lg.ownBlock ≠ some tm) (hx : ClmM x P T g i k) (hil : i < 90000) (hm : Lay.may P T = true) (hlen : s.ws.length = (Lay.words P T).toNat) (hg : g < 9223372036854775808) (hbad : (claimA P T 12 g).nx k (s.word ((claimA P T 12 g).ac k).pos) ≠ .inr (-2)) :
    Calls Tryz.prog 18 #[.pointer (some ⟨mb, 0, none⟩), .pointer (some ⟨bb, 0, none⟩)] w fun e w' => e = .returned (didV (((claimA P T 12 g).ac k).act s)) ∧ ∃ y : MS, y.done = overB ((claimA P T 12 g).nx k (s.word ((claimA P T 12 g).ac k).pos)) ∧ y.got = pgOf ((claimA P T 12 g).nx k (s.word ((claimA P T 12 g).ac k).pos)) ∧ (∀ k1, (claimA P T 12 g).nx k (s.word ((claimA P T 12 g).ac k).pos) = .inl k1 → ClmM y P T g (i + 1) k1) ∧ Steps w w' mb bb tb tm ub fb P T (((claimA P T 12 g).ac k).act s) y lg := by
  have law := Aut.law (claimA P T 12 g) (s := s) x.log (.pop .load) k x.fresh rfl (by show x.log.drop 0 = x.log; rfl) hx.log
  have hfew := hx.few
  have hroom : x.fresh.room < 100000 := by show x.log.length + 1 < 100000; omega
  have hsn := Aut.feed_snoc (claimA P T 12 g) x.log (.pop .load) k (s.word ((claimA P T 12 g).ac k).pos) hx.log
  obtain ⟨c, hc⟩ : ∃ c, (claimA P T 12 g).ac k = c := ⟨_, rfl⟩
  rw [hc] at law hsn hbad ⊢
  have body : ∀ w1, MM w1 mb bb tb tm ub fb P T s x.fresh lg (.slice none 0 0) → ∀ (v : Int) (d : Bool) (o : Option Int), (claimA P T 12 g).go (.pop .load) x.fresh s = (o, (x.fresh.on x.log.length).live c s, c.act s) → o ≠ some (-2) → o.getD (-1) = v → o.isSome = d → Calls Tryz.prog 36 #[.pointer (some ⟨mb, 0, none⟩)] w1 fun e w' => e = .returned (.bool d) ∧ Steps w1 w' mb bb tb tm ub fb P T (c.act s) (MS.fin d { ((x.fresh.on x.log.length).live c s) with got := v }) lg := fun w1 hm1 v d o hgo ho hv hd => by
    refine mBodyClaim (x' := (x.fresh.on x.log.length).live c s) hm1 hx.what rfl ?_
    have e1 : x.fresh.head = 12 := hx.head
    have e2 : x.fresh.gen = g := hx.gen
    rw [e1, e2]
    refine (qClaim (Ra.refl (hm1.adds ((Only.refl _ _).drew))) hx.P hx.T hm (by decide) hg hlen hroom hgo ho).mono (fun e w2 q => ?_)
    obtain ⟨q1, mk2, q2⟩ := q
    dsimp only at q1 q2
    rw [hv, hd] at q1
    exact ⟨q1, q2.steps⟩
  rcases hn : (claimA P T 12 g).nx k (s.word c.pos) with k1 | z
  · rw [hn] at law hsn
    have key := mStep_any (x1 := MS.fin false { ((x.fresh.on x.log.length).live c s) with got := -1 }) (s1 := c.act s) (d := false) h hM hne hx.done hx.P hx.T (fun w1 hm1 => body w1 hm1 (-1) false none law (by simp) rfl rfl)
    obtain ⟨Y, hY⟩ : ∃ Y, Y = ({ MS.fin false { ((x.fresh.on x.log.length).live c s) with got := -1 } with done := false } : MS) := ⟨_, rfl⟩
    have hc1 : ClmM Y P T g (i + 1) k1 := by
      subst hY
      exact ⟨hsn, by show (x.log ++ [s.word c.pos]).length ≤ i + 1; simp; omega, hx.what, hx.P, hx.T, hx.head, hx.gen, rfl⟩
    have y1 : Y.done = false := by subst hY; rfl
    have y2 : Y.got = -1 := by subst hY; rfl
    rw [← hY] at key
    refine key.mono (fun e w1 q => ⟨q.1, Y, y1, y2, fun k2 e2 => ?_, q.2⟩)
    injection e2 with e2
    subst e2
    exact hc1
  · rw [hn] at law hbad
    have key := mStep_any (x1 := MS.fin true { ((x.fresh.on x.log.length).live c s) with got := z }) (s1 := c.act s) (d := true) h hM hne hx.done hx.P hx.T (fun w1 hm1 => body w1 hm1 z true (some z) law (fun e => hbad (by injection e with e; rw [e])) rfl rfl)
    obtain ⟨Y, hY⟩ : ∃ Y, Y = ({ MS.fin true { ((x.fresh.on x.log.length).live c s) with got := z } with done := true } : MS) := ⟨_, rfl⟩
    have y1 : Y.done = true := by subst hY; rfl
    have y2 : Y.got = z := by subst hY; rfl
    rw [← hY] at key
    exact key.mono (fun e w1 q => ⟨q.1, Y, y1, y2, fun k2 e2 => (by cases e2), q.2⟩)
end
abbrev ClK := Nat × (ClmSt ⊕ Int)
abbrev ClL := Lane ClK
def ClLA (P T g : Int) (w : World) (m : Nat) (k : ClK) : Prop := ClP P T 12 g w m k.1 k.2
def clFp (k : ClK) (j : Nat) : Prop := j = k.1
def clTy (t : TypeId) : Prop := t = 76 ∨ t = 146 ∨ t = 219
instance (t : TypeId) : Decidable (clTy t) := inferInstanceAs (Decidable (_ ∨ _))
instance (t : TypeId) : Decidable (RowOk clTy t) := inferInstanceAs (Decidable (_ ∧ _))
theorem clO (P T g : Int) : FOps (ClLA P T g) clTy clFp where
  keep h ho hm hp hs := ClP.keep h ho hm (hp _ rfl) hs
  blk h := by obtain ⟨st, tk, nx, hb, _⟩ := h.1.blk; exact ⟨_, _, hb, by simp, .inl rfl⟩
  fblk h j hj := by
    obtain ⟨c, u, h1, h2, h3⟩ := h.2
    have e : j = _ := hj
    subst e
    exact ⟨c, u, h1, h3, .inr h2⟩
  ty t h := by rcases h with rfl | rfl | rfl <;> decide
/-- The arenas, the machines, the two rows. -/
structure CH (w : World) (ab sb sm rb rg bb tb tm ub fb onb qb n : Nat) (P g : Int) (wr : World) (s s' : StoreS) (L : List (Option ClL)) (Ms : List (Option Nat)) : Prop where
  sc : FC (ClLA P n g) clFp w ab sb sm rb rg bb tb tm ub fb P n wr s s' L
  ll : L.length = n
  lm : Ms.length = n
  orow : Blk wr onb (Ms.map ptrV).toArray 37
  qrow : Blk wr qb (L.map (fun o => ptrV (o.map Lane.b))).toArray 53
  at_ : ∀ (t : Nat) (z : ClL), L[t]? = some (some z) → Ms[t]? = some (some z.a)
  ml : ∀ (t m : Nat), Ms[t]? = some (some m) → m < wr.heap.size
  low : w.heap.size ≤ onb ∧ w.heap.size ≤ qb
section
variable {w wr w' : World} {ab sb sm rb rg bb tb tm ub fb onb qb n t : Nat} {P g : Int} {s s' s2 : StoreS} {L : List (Option ClL)} {Ms : List (Option Nat)} {z : ClL}
theorem CH.add (h : CH w ab sb sm rb rg bb tb tm ub fb onb qb n P g wr s s' L Ms) (ho : Adds wr w') : CH w ab sb sm rb rg bb tb tm ub fb onb qb n P g w' s s' L Ms :=
  ⟨h.sc.add (clO P n g) ho, h.ll, h.lm, h.orow.only ho id, h.qrow.only ho id, h.at_, fun t m e => Nat.lt_of_lt_of_le (h.ml t m e) ho.size, h.low⟩
theorem CH.ne (h : CH w ab sb sm rb rg bb tb tm ub fb onb qb n P g wr s s' L Ms) : onb ≠ qb := fun e => by
  have h1 := h.orow; rw [e] at h1; have := (h1.uniq h.qrow).2; revert this; decide
theorem CH.cells (h : CH w ab sb sm rb rg bb tb tm ub fb onb qb n P g wr s s' L Ms) {om : Option Nat} {oz : Option ClL} (hm : Ms[t]? = some om) (hz : L[t]? = some oz) : wr.cell? ⟨onb, t, none⟩ = some (ptrV om) ∧ wr.frozen? ⟨onb, t, none⟩ = false ∧ wr.cell? ⟨qb, t, none⟩ = some (ptrV (oz.map Lane.b)) ∧ wr.frozen? ⟨qb, t, none⟩ = false := by
  refine ⟨?_, h.orow.frozen t, ?_, h.qrow.frozen t⟩
  · rw [h.orow.cell]; simp [hm]
  · rw [h.qrow.cell]; simp [hz]
/-- Both sides' words are turned. -/
theorem CH.put {s1 s1' : StoreS} (h : CH w ab sb sm rb rg bb tb tm ub fb onb qb n P g wr s s' L Ms) (hm : Lay.may P n = true) (hB : Both w' ab sb sm rb rg bb tb tm ub fb P n s1 s1') (hl : s1.ws.length = s.ws.length) (hl' : s1'.ws.length = s'.ws.length) (ho : Only (fun j => SB sb sm j ∨ SB tb tm j) wr w') : CH w ab sb sm rb rg bb tb tm ub fb onb qb n P g w' s1 s1' L Ms := by
  obtain ⟨h1, h2⟩ := h.sc.put (clO P n g) hm hB hl hl' ho
  refine ⟨h1, h.ll, h.lm, h2 _ _ _ h.orow (by decide), h.qrow.only ho (fun e => ?_), h.at_, fun t m e => Nat.lt_of_lt_of_le (h.ml t m e) ho.size, h.low⟩
  rcases e with (e | e) | (e | e)
  · have := (h.qrow.uniq (e ▸ h.sc.both.yard.st.head)).2; revert this; decide
  · have := (h.qrow.uniq (e ▸ h.sc.both.yard.st.row)).2; revert this; decide
  · have := (h.qrow.uniq (e ▸ h.sc.both.mem.st.head)).2; revert this; decide
  · have := (h.qrow.uniq (e ▸ h.sc.both.mem.st.row)).2; revert this; decide
theorem CH.stepA (h : CH w ab sb sm rb rg bb tb tm ub fb onb qb n P g wr s s' L Ms) (hm : Lay.may P n = true) (hz : L[t]? = some (some z)) {k' : ClK} (ho : Only (fun j => (SB sb sm j ∨ j = z.a) ∨ j = z.k.1) wr w') (ha : ClLA P n g w' z.a k') (hf : k'.1 = z.k.1 ∨ wr.heap.size ≤ k'.1) (hy : Yard w' ab sb sm rb P n s2) (hl : s2.ws.length = s.ws.length) :
    CH w ab sb sm rb rg bb tb tm ub fb onb qb n P g w' s2 s' (L.set t (some { z with k := k' })) Ms := by
  obtain ⟨h1, h2⟩ := h.sc.stepA (clO P n g) hm hz ho ha (fun j hj => by have e : j = k'.1 := hj; subst e; exact hf.imp id id) hy hl
  refine ⟨h1, by simpa using h.ll, h.lm, h2 _ _ _ h.orow (by decide), ?_, fun j y e => ?_, fun t m e => Nat.lt_of_lt_of_le (h.ml t m e) ho.size, h.low⟩
  · rw [mapL_b (z' := ({ z with k := k' } : ClL)) hz rfl]; exact h2 _ _ _ h.qrow (by decide)
  · rcases set_cases e with ⟨rfl, e2⟩ | ⟨_, e2⟩
    · injection e2 with e2; subst e2; exact h.at_ _ z hz
    · exact h.at_ j y e2
theorem CH.stepB (h : CH w ab sb sm rb rg bb tb tm ub fb onb qb n P g wr s s' L Ms) (hm : Lay.may P n = true) (hz : L[t]? = some (some z)) {x1 : MS} {s1 : StoreS} (hst : Steps wr w' z.b bb tb tm ub fb P n s1 x1 z.lg) (hl : s1.ws.length = s'.ws.length) :
    ∃ lg1 mk1, CH w ab sb sm rb rg bb tb tm ub fb onb qb n P g w' s s1 (L.set t (some { z with x := x1, lg := lg1, mr := mk1, mem := .pointer (some ⟨bb, 0, none⟩) })) Ms := by
  obtain ⟨lg1, mk1, h1, h2⟩ := h.sc.stepB (clO P n g) hm hz hst hl
  have hsz : wr.heap.size ≤ w'.heap.size := by obtain ⟨_, _, _, ho, _⟩ := hst; exact ho.size
  refine ⟨lg1, mk1, h1, by simpa using h.ll, h.lm, h2 _ _ _ h.orow (by decide), ?_, fun j y e => ?_, fun t m e => Nat.lt_of_lt_of_le (h.ml t m e) hsz, h.low⟩
  · rw [mapL_b (z' := ({ z with x := x1, lg := lg1, mr := mk1, mem := .pointer (some ⟨bb, 0, none⟩) } : ClL)) hz rfl]; exact h2 _ _ _ h.qrow (by decide)
  · rcases set_cases e with ⟨rfl, e2⟩ | ⟨_, e2⟩
    · injection e2 with e2; subst e2; exact h.at_ _ z hz
    · exact h.at_ j y e2
/-- Lanes that are no lane's, and a row that is turned. -/
theorem CH.hk (h : FLanes (ClLA P n g) clFp wr sm tm L) (hll : L.length = n) (ht : L[t]? = some none) {r : Nat} {c : Array Value} {u : TypeId} (hr : Blk wr r c u) (hc : c.size = n) (hu : u = 37 ∨ u = 53) (ho : Only (· = r) wr w') : ∀ (j : Nat) (y : ClL), L[j]? = some (some y) → ClLA P n g w' y.a y.k := fun j y e => by
  have hj : j ≠ t := fun q => by subst q; rw [ht] at e; cases e
  have l1 := (List.getElem?_eq_some_iff.1 e).1
  have l2 := (List.getElem?_eq_some_iff.1 ht).1
  have hA := h.A j y e
  obtain ⟨c1, u1, b1, _, t1⟩ := (clO P n g).blk hA
  obtain ⟨c2, u2, b2, _, t2⟩ := (clO P n g).fblk hA _ rfl
  have nt : ∀ {v : TypeId}, clTy v → u ≠ v := fun hv e => by subst e; rcases hu with rfl | rfl <;> revert hv <;> decide
  refine (clO P n g).keep hA ho (fun q => ?_) (fun i hi q => ?_) (fun b x v hb q => ?_)
  · exact nt t1 (hr.uniq (q ▸ b1)).2
  · have e2 : i = y.k.1 := hi
    subst e2
    exact nt t2 (hr.uniq (q ▸ b2)).2
  · have q2 : b = r := q
    subst q2
    have := congrArg Array.size (hr.uniq hb).1
    simp at this
    omega
theorem CH.setO (h : CH w ab sb sm rb rg bb tb tm ub fb onb qb n P g wr s s' L Ms) (ht : L[t]? = some none) {m : Nat} (hml : m < wr.heap.size) : CH w ab sb sm rb rg bb tb tm ub fb onb qb n P g (wr.setCell ⟨onb, t, none⟩ (ptrV (some m))) s s' L (Ms.set t (some m)) := by
  have ho := only_at wr onb t (ptrV (some m))
  refine ⟨h.sc.rowK (ty := clTy) h.orow (by decide) (by decide) (CH.hk h.sc.lanes h.ll ht h.orow (by simp [h.lm]) (.inl rfl) ho) h.low.1 ho, h.ll, by simpa using h.lm, ?_, h.qrow.setCell_other (Ne.symm h.ne) t _, fun j y e => ?_, fun j m2 e => ?_, h.low⟩
  · have := h.orow.setCell t (ptrV (some m))
    rw [List.map_set]
    simpa using this
  · have hj : t ≠ j := fun q => by subst q; rw [ht] at e; cases e
    rw [List.getElem?_set_ne hj]; exact h.at_ j y e
  · have hsz := ho.size
    by_cases hj : t = j
    · subst hj
      rw [List.getElem?_set_self (by rw [h.lm, ← h.ll]; exact (List.getElem?_eq_some_iff.1 ht).1)] at e
      injection e with e; injection e with e; omega
    · rw [List.getElem?_set_ne hj] at e
      have := h.ml j m2 e; omega
/-- A lane is given up. -/
theorem CH.drop (h : CH w ab sb sm rb rg bb tb tm ub fb onb qb n P g wr s s' L Ms) (ht : t < n) : CH w ab sb sm rb rg bb tb tm ub fb onb qb n P g (wr.setCell ⟨qb, t, none⟩ (.pointer none)) s s' (L.set t none) Ms := by
  have ho := only_at wr qb t (.pointer none)
  have hd := h.sc.drop t
  have hl : (L.set t none).length = n := by simpa using h.ll
  have ht2 : (L.set t none)[t]? = some none := List.getElem?_set_self (by rw [h.ll]; exact ht)
  refine ⟨hd.rowK (ty := clTy) h.qrow (by decide) (by decide) (CH.hk hd.lanes hl ht2 h.qrow (by simp [h.ll]) (.inr rfl) ho) h.low.2 ho, hl, h.lm, h.orow.setCell_other h.ne t _, ?_, fun j y e => ?_, fun j m2 e => Nat.lt_of_lt_of_le (h.ml j m2 e) ho.size, h.low⟩
  · have := h.qrow.setCell t (.pointer none)
    rw [List.map_set]
    simpa [ptrV] using this
  · rcases set_cases e with ⟨_, e2⟩ | ⟨_, e2⟩
    · cases e2
    · exact h.at_ j y e2
/-- A lane begins; L stood in an elder world, too. -/
theorem CH.begin {w0 : World} (h : CH w ab sb sm rb rg bb tb tm ub fb onb qb n P g wr s s' L Ms) (h0 : FLanes (ClLA P n g) clFp w0 sm tm L) (hw : w.heap.size ≤ w0.heap.size) (ht : L[t]? = some none) (hmt : Ms[t]? = some (some z.a)) (ha : ClLA P n g (wr.setCell ⟨qb, t, none⟩ (ptrV (some z.b))) z.a z.k) (hb : IsM wr z.b z.x z.lg z.mr z.mem) (hl : z.lg = .slice none 0 0) (na : w0.heap.size ≤ z.a) (nb : w0.heap.size ≤ z.b) (nf : w0.heap.size ≤ z.k.1) :
    CH w ab sb sm rb rg bb tb tm ub fb onb qb n P g (wr.setCell ⟨qb, t, none⟩ (ptrV (some z.b))) s s' (L.set t (some z)) Ms := by
  have ho := only_at wr qb t (ptrV (some z.b))
  have htn := (List.getElem?_eq_some_iff.1 ht).1
  have hb2 : IsM (wr.setCell ⟨qb, t, none⟩ (ptrV (some z.b))) z.b z.x z.lg z.mr z.mem := hb.only ho (fun e => by have := (h.qrow.uniq (e ▸ hb.blk)).2; revert this; decide) (fun g hg => by rw [hl] at hg; cases hg)
  have hs := h.sc.rowK (ty := clTy) h.qrow (by decide) (by decide) (CH.hk h.sc.lanes h.ll ht h.qrow (by simp [h.ll]) (.inr rfl) ho) h.low.2 ho
  refine ⟨hs.begin (clO P n g) h0 hw ha hb2 hl na nb (fun j hj => by have e : j = z.k.1 := hj; subst e; exact nf), by simpa using h.ll, h.lm, h.orow.setCell_other h.ne t _, ?_, fun j y e => ?_, fun j m2 e => Nat.lt_of_lt_of_le (h.ml j m2 e) ho.size, h.low⟩
  · have := h.qrow.setCell t (ptrV (some z.b))
    rw [List.map_set]
    simpa using this
  · rcases set_cases e with ⟨rfl, e2⟩ | ⟨_, e2⟩
    · injection e2 with e2; subst e2; exact hmt
    · exact h.at_ j y e2
/-- A row is turned beside a claim that is new. -/
theorem newCl_row {mb pb nn bp bm : Nat} {P T hd was pg : Int} {c : Value → Array Value} (h1 : ClPop wr mb pb c nn bp bm) (h2 : Pop1 wr pb P T hd was pg) {r : Nat} {cr : Array Value} {u : TypeId} (hr : Blk wr r cr u) (hu : u = 37 ∨ u = 53) (hbm : bm ≠ r) (ho : Only (· = r) wr w') : ClPop w' mb pb c nn bp bm ∧ Pop1 w' pb P T hd was pg := by
  refine ⟨⟨h1.m.rowT hr (by rcases hu with rfl | rfl <;> decide) ho, ⟨h1.r.b0.rowT hr (by rcases hu with rfl | rfl <;> decide) ho, h1.r.b1.rowT hr (by rcases hu with rfl | rfl <;> decide) ho⟩, h1.p.rowT hr (by rcases hu with rfl | rfl <;> decide) ho, h1.b.only ho hbm⟩, Desk.rowT h2 hr (by rcases hu with rfl | rfl <;> decide) (by rcases hu with rfl | rfl <;> decide) ho⟩
theorem CH.nbm {v : World} {mb bm : Nat} (h : CH w ab sb sm rb rg bb tb tm ub fb onb qb n P g wr s s' L Ms) (h2 : Blk v onb (Ms.map ptrV).toArray 37) (hb : Blk v bm #[.pointer (some ⟨mb, 0, none⟩)] 37) (hl : wr.heap.size ≤ mb) : bm ≠ onb := fun e => by
  subst e
  have e1 := congrArg Array.toList (hb.uniq h2).1
  simp only [List.toList_toArray] at e1
  match hMs : Ms, e1 with
  | [], e1 => simp at e1
  | [o], e1 =>
    have e2 : ptrV o = .pointer (some ⟨mb, 0, none⟩) := by simpa using e1.symm
    rcases o with _ | m
    · cases e2
    · have : m = mb := by simpa [ptrV] using e2
      subst this
      have := h.ml 0 m rfl
      omega
  | _ :: _ :: _, e1 => simp at e1
end
section
variable {P T hd g : Int} {s s' : StoreS}
theorem pileF_lt {P : Int} (hP : 1 ≤ P) : ∀ (l : List Int) (s : StoreS), (∀ p ∈ l, 0 ≤ p ∧ p < P) → -1 ≤ (pileF P T l s).1 ∧ (pileF P T l s).1 < P
  | [], s, _ => by simp [pileF]; omega
  | p :: l, s, h => by rw [pileF_cons]; have := h p (List.mem_cons_self ..); dsimp only; omega
/-- No page's word of the page below is beyond the arena. -/
def NxS (P T : Int) (s : StoreS) : Prop := ∀ q, 0 ≤ q → q < P → s.word (nxAt P T q) ≤ P
theorem NxS.far (h : NxS P T s) {j : Int} (hj : 0 ≤ j) (hm : Lay.may P T = true) (h2 : ∀ q, 0 ≤ q → q < P → j ≠ nxAt P T q) (a v : Int) : NxS P T (s.acc a j v) := fun q q0 q1 => by
  have := (nxAt_eq hm q0 q1).1
  have := Lay.may_iff.1 hm
  rw [StoreS.acc_word_other hj (by omega) (Ne.symm (h2 q q0 q1))]; exact h q q0 q1
theorem NxS.page (h : NxS P T s) {kk p : Int} (hm : Lay.may P T = true) (k0 : 9 ≤ kk) (k1 : kk ≤ 13) (k2 : kk ≠ 11) (p0 : 0 ≤ p) (p1 : p < P) (a v : Int) : NxS P T (s.acc a (pgAt P T kk p) v) := by
  have e := (pgAt_eq hm k0 k1 p0 p1).1
  have := Lay.may_iff.1 hm
  refine h.far (by omega) hm (fun q q0 q1 => ?_) a v
  have := (nxAt_eq hm q0 q1).1
  omega
theorem NxS.pile (hm : Lay.may P T = true) : ∀ (l : List Int) (s : StoreS), s.ws.length = (Lay.words P T).toNat → NxS P T s → (∀ p ∈ l, 0 ≤ p ∧ p < P) → NxS P T (pileF P T l s).2
  | [], s, _, h, _ => h
  | p :: l, s, hlen, h, hl => by
    rw [pileF_cons]
    have hm2 := Lay.may_iff.1 hm
    have ih := NxS.pile hm l s hlen h (fun q hq => hl q (List.mem_cons_of_mem _ hq))
    have hp := hl p (List.mem_cons_self ..)
    have e := nxAt_eq hm hp.1 hp.2
    have hi : (pileF P T l s).2.inR (nxAt P T p) := ⟨by omega, by rw [pileF_len, hlen]; omega⟩
    have hb := pileF_lt (T := T) hm2.1 l s (fun q hq => hl q (List.mem_cons_of_mem _ hq))
    intro q q0 q1
    show ((pileF P T l s).2.acc 2 (nxAt P T p) _).word (nxAt P T q) ≤ P
    have e2 := nxAt_eq hm q0 q1
    by_cases hq : q = p
    · subst hq; rw [StoreS.acc_word hi]; omega
    · rw [StoreS.acc_word_other hi.1 (by omega) (by omega)]; exact ih q q0 q1
theorem laid_nx (hm : Lay.may P T = true) (wv : Nat → Int) (s : StoreS) (h : NxS P T s) : ∀ (n : Nat), (n : Int) ≤ P → NxS P T (laidN P T g wv n s)
  | 0, _ => h
  | n + 1, hn => by
    have ih := laid_nx hm wv s h n (by omega)
    exact ((ih.page hm (by decide) (by decide) (by decide) (by omega) (by omega) 2 _).page hm (by decide) (by decide) (by decide) (by omega) (by omega) 2 _).page hm (by decide) (by decide) (by decide) (by omega) (by omega) 2 _
theorem laid_stk {n : Nat} (hm : Lay.may n T = true) (wv : Nat → Int) : StkOk n T 12 (laidS n T g wv) := by
  have hm2 := Lay.may_iff.1 hm
  have h0 : NxS n T (StoreS.begun (Lay.words n T).toNat 0 1) := fun q q0 q1 => by
    have e := nxAt_eq hm q0 q1
    rw [begun_other _ _ _ (by omega)]; omega
  have hlen : (laidN n T g wv n (StoreS.begun (Lay.words n T).toNat 0 1)).ws.length = (Lay.words n T).toNat := by rw [laidN_len]; exact begun_len _ _ _
  have h1 := NxS.pile hm (pagesL n) _ hlen (laid_nx (g := g) hm wv _ h0 n (Int.le_refl _)) (fun p hp => pagesL_mem hp)
  have hb := pileF_lt (T := T) hm2.1 (pagesL n) (laidN n T g wv n (StoreS.begun (Lay.words n T).toNat 0 1)) (fun p hp => pagesL_mem hp)
  have hw := (nxAt_eq hm (p := 0) (Int.le_refl 0) (by omega)).2
  have hi : (pileF n T (pagesL n) (laidN n T g wv n (StoreS.begun (Lay.words n T).toNat 0 1))).2.inR 12 := ⟨by omega, by rw [pileF_len, hlen]; omega⟩
  unfold laidS pileS
  refine ⟨?_, fun q q0 q1 => ?_⟩
  · rw [StoreS.acc_word hi, tagPg_mk (by omega)]; omega
  · have e := nxAt_eq hm q0 q1
    rw [StoreS.acc_word_other (by omega) (by omega) (by omega)]; exact h1 q q0 q1
theorem laid_len {n : Nat} (T g : Int) (wv : Nat → Int) : (laidS n T g wv).ws.length = (Lay.words n T).toNat := by
  unfold laidS; rw [pile_len, laidN_len]; exact begun_len _ _ _
end
abbrev didA (s : StoreS) : Array Value := #[.int .i64 s.k, .int .i64 s.pos, .int .u64 s.old, .int .u64 s.new]
abbrev clM (P T g : Int) : MS := ⟨8, P, T, 0, 0, 0, 0, g, 12, 0, 0, 0, [], false, 0, false, 0, 0, 0, 0, 0, 0, 0, 0, 0⟩
abbrev clMA (P T g : Int) : Array Value := (clM P T g).arr (.slice none 0 0) (.slice none 0 0) (.pointer none)
section
variable {w W : World} {ab sb sm rb rg bb tb tm ub fb onb qb n i t : Nat} {P g : Int} {s s' s1 : StoreS} {L : List (Option ClL)} {Ms : List (Option Nat)} {z : ClL} {q : ClmSt}
/-- A step of the program's claim of thread t. -/
theorem ourStep (h : CH w ab sb sm rb rg bb tb tm ub fb onb qb n P g W s s' L Ms) (hz : L[t]? = some (some z)) (hm : Lay.may P n = true) (hk : z.k.2 = .inl q) (hS : StkOk P n 12 s) (hg : Ph.cyc g = true) :
    Calls Tryz.prog 7 #[.pointer (some ⟨z.a, 0, none⟩), .pointer (some ⟨ab, 0, none⟩)] W fun e w' => e = .returned (.agg (didA (((claimA P n 12 g).ac q).act s))) ∧ ∃ pb1, Hid (CH w ab sb sm rb rg bb tb tm ub fb onb qb n P g w' (((claimA P n 12 g).ac q).act s) s' (L.set t (some { z with k := (pb1, (claimA P n 12 g).nx q (s.word ((claimA P n 12 g).ac q).pos)) })) Ms) := by
  have hA : ClP P n 12 g W z.a z.k.1 z.k.2 := h.sc.lanes.A t z hz
  rw [hk] at hA
  have hKA : ClA P n 12 g W z.a z.k.1 q := hA.1
  refine (claimA_step ⟨hm, by decide, by decide⟩ hg hA h.sc.both.yard h.sc.len (nx_ok hS hKA.ok)).mono (fun e w' c => ?_)
  obtain ⟨q1, ⟨⟨pb1, q2, q3⟩, q4⟩, q5⟩ := c
  exact ⟨q1, pb1, Lib.hid (h.stepA hm hz (k' := (pb1, _)) q5 q3 q2 q4 (Ac.act_len _ _))⟩
/-- A step of the document's, behind it. -/
theorem docStepC (h : CH w ab sb sm rb rg bb tb tm ub fb onb qb n P g W s1 s' L Ms) {pb1 : Nat} {nx : ClmSt ⊕ Int} (hz : L[t]? = some (some { z with k := (pb1, nx) })) (hm : Lay.may P n = true) (hnx : nx = (claimA P n 12 g).nx q (s.word ((claimA P n 12 g).ac q).pos)) (hx : ClmM z.x P n g i q) (he : s.ws = s'.ws) (hil : i < 90000) (hg : g < 9223372036854775808) (hS : StkOk P n 12 s) (hK : KOk P q) :
    Calls Tryz.prog 18 #[.pointer (some ⟨z.b, 0, none⟩), .pointer (some ⟨bb, 0, none⟩)] W fun e w' => e = .returned (.agg (didA (((claimA P n 12 g).ac q).act s))) ∧ ∃ z2 : ClL, (z2.a = z.a ∧ z2.b = z.b ∧ z2.k = (pb1, nx)) ∧ (∀ k1, nx = .inl k1 → ClmM z2.x P n g (i + 1) k1) ∧ (w'.cell? ⟨z.b, 15, none⟩ = some (.bool (overB nx)) ∧ w'.cell? ⟨z.b, 23, none⟩ = some (.int .i64 (pgOf nx))) ∧ CH w ab sb sm rb rg bb tb tm ub fb onb qb n P g w' s1 (((claimA P n 12 g).ac q).act s') (L.set t (some z2)) Ms := by
  have hw : ∀ j, s.word j = s'.word j := fun j => by unfold StoreS.word; rw [he]
  have hB := h.sc.lanes.B t _ hz
  have hN := (h.sc.lanes.nl t _ hz).2
  have hbad := nx_ok (g := g) hS hK
  rw [hw, ← hw] at hbad
  have hbad' : (claimA P n 12 g).nx q (s'.word ((claimA P n 12 g).ac q).pos) ≠ .inr (-2) := by rw [← hw]; exact hbad
  refine (claimM_step hB h.sc.both.mem hN hx hil hm h.sc.len' hg hbad').mono (fun e w' c => ?_)
  rw [← hw, ← hnx] at c
  obtain ⟨q1, y, y1, y2, y3, q3⟩ := c
  obtain ⟨lg1, mk1, h1⟩ := h.stepB hm hz q3 (Ac.act_len _ _)
  have hm2 := h1.sc.lanes.B t _ (List.getElem?_set_self (by have := (List.getElem?_eq_some_iff.1 hz).1; exact this))
  refine ⟨by show e = .returned (didV (((claimA P n 12 g).ac q).act s)); rw [(act_same _ he).2]; exact q1, (⟨z.a, (pb1, nx), z.b, y, lg1, mk1, .pointer (some ⟨bb, 0, none⟩)⟩ : ClL), ⟨rfl, rfl, rfl⟩, y3, ⟨?_, ?_⟩, h1⟩
  · have := hm2.blk.cell 15
    rw [← y1]; exact this
  · have := hm2.blk.cell 23
    rw [← y2]; exact this
end
end Go.Proofs.YtmnliddjddpchaaGreat

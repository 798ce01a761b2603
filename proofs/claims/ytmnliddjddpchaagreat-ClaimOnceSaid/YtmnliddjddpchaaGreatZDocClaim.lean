/- The document's sweep, have and claim as automata. By an AI agent. -/
import Derived.Test.YtmnliddjddpchaaGreatZC
import Derived.Test.YtmnliddjddpchaaGreatZ9
import Derived.Test.YtmnliddjddpchaaGreatZA
namespace Go.Proofs.YtmnliddjddpchaaGreat
open Go.RowKit
set_option linter.unusedSimpArgs false
set_option linter.unusedVariables false
/-- Where a page's words are. -/
def pgAt (P T k p : Int) : Int := Lay.pageAt P T k p
inductive SwpSt where
  | mark
  | alloc (b : Int)
  | put (b a : Int)
  | zero (b a : Int)
def sweepA (P T p : Int) : Aut SwpSt Int where
  ac
    | .mark => .load (pgAt P T 13 p)
    | .alloc _ => .load (pgAt P T 12 p)
    | .put b a => .put (pgAt P T 12 p) (andU a b)
    | .zero _ _ => .put (pgAt P T 13 p) 0
  nx
    | .mark, b => .inl (.alloc b)
    | .alloc b, a => .inl (.put b a)
    | .put b a, _ => .inl (.zero b a)
    | .zero b a, _ => .inr (clrU a b)
inductive HvSt where
  | look
  | held (v : Int)
  | sw (k : SwpSt)
  | hand (v : Int)
  | put
/-- A page that was popped: have we got it (1), swept? -/
def haveA (P T g p : Int) : Aut HvSt Int where
  ac
    | .look => .load (pgAt P T 9 p)
    | .held v => .cas (pgAt P T 9 p) v (Ph.mk g 2)
    | .sw k => (sweepA P T p).ac k
    | .hand v => .cas (pgAt P T 9 p) v (Ph.mk g 6)
    | .put => .put (pgAt P T 9 p) (Ph.mk g 2)
  nx
    | .look, v => if Ph.waits v g = true then .inl (.held v) else if v = Ph.mk g 4 then .inl (.hand v) else if v = Ph.mk g 5 then .inl .put else .inr 0
    | .held v, u => if u = v then .inl (.sw .mark) else .inl .look
    | .sw k, u => match (sweepA P T p).nx k u with
      | .inl k1 => .inl (.sw k1)
      | .inr _ => .inr 1
    | .hand v, u => if u = v then .inr 0 else .inl .look
    | .put, _ => .inr 1
inductive ClmSt where
  | pop (k : PopSt)
  | hv (p : Int) (k : HvSt)
def claimA (P T hd g : Int) : Aut ClmSt Int where
  ac
    | .pop k => (popA P T hd).ac k
    | .hv p k => (haveA P T g p).ac k
  nx
    | .pop k, v => match (popA P T hd).nx k v with
      | .inl k1 => .inl (.pop k1)
      | .inr p => if p = -2 then .inr (-2) else if p < 0 then .inr (-1) else if P ≤ p then .inr (-2) else .inl (.hv p .look)
    | .hv p k, v => match (haveA P T g p).nx k v with
      | .inl k1 => .inl (.hv p k1)
      | .inr b => if b = 0 then .inl (.pop .load) else .inr p
theorem have_sw (P T g p : Int) (k : SwpSt) (x : MS) (s : StoreS) : (haveA P T g p).go (.sw k) x s = match (sweepA P T p).go k x s with
      | (none, x1, s1) => (none, x1, s1)
      | (some _, x1, s1) => (some 1, x1, s1) := by
  rw [Aut.into (sweepA P T p) (haveA P T g p) HvSt.sw (fun _ => .inr 1) (fun _ => rfl) (fun k v => by simp only [haveA]; cases (sweepA P T p).nx k v <;> rfl) x.mu k x s (Nat.le_refl _)]
  rcases (sweepA P T p).go k x s with ⟨_ | r, x1, s1⟩ <;> rfl
theorem claim_pop (P T hd g : Int) (k : PopSt) (x : MS) (s : StoreS) : (claimA P T hd g).go (.pop k) x s = match (popA P T hd).go k x s with
      | (none, x1, s1) => (none, x1, s1)
      | (some p, x1, s1) => if p = -2 then (some (-2), x1, s1) else if p < 0 then (some (-1), x1, s1) else if P ≤ p then (some (-2), x1, s1) else (claimA P T hd g).go (.hv p .look) x1 s1 := by
  rw [Aut.into (popA P T hd) (claimA P T hd g) ClmSt.pop (fun p => if p = -2 then .inr (-2) else if p < 0 then .inr (-1) else if P ≤ p then .inr (-2) else .inl (.hv p .look)) (fun _ => rfl) (fun k v => by simp only [claimA]; cases (popA P T hd).nx k v <;> rfl) x.mu k x s (Nat.le_refl _)]
  rcases (popA P T hd).go k x s with ⟨_ | p, x1, s1⟩
  · rfl
  · dsimp only
    by_cases h1 : p = -2
    · simp only [if_pos h1]
    · by_cases h2 : p < 0
      · simp only [if_neg h1, if_pos h2]
      · by_cases h3 : P ≤ p
        · simp only [if_neg h1, if_neg h2, if_pos h3]
        · simp only [if_neg h1, if_neg h2, if_neg h3]
theorem claim_hv (P T hd g p : Int) (k : HvSt) (x : MS) (s : StoreS) : (claimA P T hd g).go (.hv p k) x s = match (haveA P T g p).go k x s with
      | (none, x1, s1) => (none, x1, s1)
      | (some b, x1, s1) => if b = 0 then (claimA P T hd g).go (.pop .load) x1 s1 else (some p, x1, s1) := by
  rw [Aut.into (haveA P T g p) (claimA P T hd g) (ClmSt.hv p) (fun b => if b = 0 then .inl (.pop .load) else .inr p) (fun _ => rfl) (fun k v => by simp only [claimA]; cases (haveA P T g p).nx k v <;> rfl) x.mu k x s (Nat.le_refl _)]
  rcases (haveA P T g p).go k x s with ⟨_ | b, x1, s1⟩
  · rfl
  · dsimp only
    by_cases h1 : b = 0
    · simp only [if_pos h1]
    · simp only [if_neg h1]
theorem pgAt_eq {P T k p : Int} (hm : Lay.may P T = true) (k0 : 9 ≤ k) (k1 : k ≤ 13) (h0 : 0 ≤ p) (h1 : p < P) : pgAt P T k p = 59 + 14 * T + 5 * p + k ∧ Lay.pageOk P T k p = true ∧ 59 + 14 * T + 5 * p + k < Lay.words P T := by
  have hb := Lay.may_iff.1 hm
  have hmb := Lay.many_bd hb.1 hb.2.1
  have hw : Lay.words P T = 68 + 14 * T + 6 * P + 2 * Lay.many P := by simp [Lay.words, hm]
  unfold pgAt Lay.pageAt
  rw [if_neg (by omega), hw]
  refine ⟨by omega, ?_, by omega⟩
  unfold Lay.pageOk; rw [hm, Bool.true_and, decide_eq_true_eq]; omega
set_option maxHeartbeats 400000 in
theorem qState (g k : Int) (w : World) : Calls Tryz.prog 115 #[.int .i64 g, .int .i64 k] w fun e w' => e = .returned (.int .u64 (Ph.mk g k)) ∧ w = w' := by
  go_enter Tryz.func115, Tryz.ntmps115
  go_wp2_with (go_at_call 33; refine (r6State_any g k _).mono ?_; rintro e w1 ⟨rfl, rfl⟩)
  go_ret
  exact ⟨rfl, rfl⟩
section
variable {w wr : World} {mb bb sb sm rb fb : Nat} {P T hd g p : Int} {s s0 s1 ss : StoreS} {x0 y : MS} {lg mkv : Value}
set_option maxRecDepth 100000 in
set_option maxHeartbeats 4000000 in
theorem qSweep {R : Option Int × MS × StoreS} (h : Ra w wr mb bb sb sm rb fb P T lg mkv x0 s0 y ss) (hP : x0.P = P) (hT : x0.T = T) (hm : Lay.may P T = true) (hp0 : 0 ≤ p) (hp1 : p < P) (hlen : s0.ws.length = (Lay.words P T).toNat) (hf : x0.room < 100000) (hR : (sweepA P T p).go .mark y ss = R) :
    Calls Tryz.prog 67 #[.pointer (some ⟨mb, 0, none⟩), .int .i64 p] wr fun e w' => (∃ v, e = .returned (.tuple #[.int .u64 v, .bool R.1.isSome])) ∧ ∃ mk, Ra w w' mb bb sb sm rb fb P T lg mk x0 s0 R.2.1 R.2.2 := by
  have q2 := pgAt_eq (k := 12) hm (by decide) (by decide) hp0 hp1
  have q3 := pgAt_eq (k := 13) hm (by decide) (by decide) hp0 hp1
  have hT1 := (Lay.may_iff.1 hm)
  obtain ⟨al, hal⟩ : ∃ al, pgAt P T 12 p = al := ⟨_, rfl⟩
  obtain ⟨mk, hmk⟩ : ∃ mk, pgAt P T 13 p = mk := ⟨_, rfl⟩
  have IA := Lib.hid (show s0.inR al from ⟨by omega, by rw [hlen]; omega⟩)
  have IK := Lib.hid (show s0.inR mk from ⟨by omega, by rw [hlen]; omega⟩)
  have KA := Lib.hid q2.2.1; have KK := Lib.hid q3.2.1
  have EA : Hid (Lay.pageAt P T 12 p = al) := Lib.hid hal
  have EK : Hid (Lay.pageAt P T 13 p = mk) := Lib.hid hmk
  have H0 := Lib.hid h; have HPT := Lib.hid (And.intro hP hT); have HF := Lib.hid hf; have HRS := Lib.hid hR
  have a1 : (sweepA P T p).ac .mark = .load mk := by rw [← hmk]; rfl
  have a2 : ∀ b, (sweepA P T p).ac (.alloc b) = .load al := fun b => by rw [← hal]; rfl
  have a3 : ∀ b a, (sweepA P T p).ac (.put b a) = .put al (andU a b) := fun b a => by rw [← hal]; rfl
  have a4 : ∀ b a, (sweepA P T p).ac (.zero b a) = .put mk 0 := fun b a => by rw [← hmk]; rfl
  clear h hP hT hf hm hlen hR q2 q3 hT1 hp0 hp1 hal hmk
  obtain ⟨o1, z1, s1, hr1⟩ : ∃ o z1 s1, y.acc ((sweepA P T p).ac .mark) ss = (o, z1, s1) := ⟨_, _, _, rfl⟩
  have hr1' := hr1
  rw [a1] at hr1'
  have HR1 := Lib.hid hr1'
  clear hr1' 
  rcases o1 with _ | b
  · have HT1 := Lib.hid (HRS.out.symm.trans (Aut.go_off hr1)).symm
    clear hr1 a1 a2 a3 a4
    go_enter Tryz.func67, Tryz.ntmps67
    go_wp2_with (first
      | (go_at_call 107; with_reducible refine (qWord (k := 13) (p := p) H0.out HPT.out.1 HPT.out.2 KK.out EK.out).mono ?_; rintro e v1 ⟨rfl, hm1⟩; have H1 := Lib.hid hm1; clear hm1)
      | (go_at_call 105; with_reducible refine (qLoad H1.out IK.out HF.out  HR1.out).mono ?_; rintro e v2 ⟨rfl, hm2⟩; have H2 := Lib.hid hm2; clear hm2))
    go_ret2
    rw [← HT1.out]
    exact ⟨⟨_, rfl⟩, _, H2.out⟩
  · obtain rfl := H0.out.nil hr1
    have hT2 := HRS.out.symm.trans (Aut.go_on (k1 := .alloc b) hr1 rfl)
    obtain ⟨o2, z2, s2, hr2⟩ : ∃ o z2 s2, z1.acc ((sweepA P T p).ac (.alloc b)) s1 = (o, z2, s2) := ⟨_, _, _, rfl⟩
    have hr2' := hr2
    rw [a2] at hr2'
    have HR2 := Lib.hid hr2'
    clear hr2' hr1
    rcases o2 with _ | a
    · have HT1 := Lib.hid (hT2.trans (Aut.go_off hr2)).symm
      clear hr2 hT2 a1 a2 a3 a4
      go_enter Tryz.func67, Tryz.ntmps67
      go_wp2_with (first
        | (go_at_call 107; with_reducible refine (qWord (k := 13) (p := p) H0.out HPT.out.1 HPT.out.2 KK.out EK.out).mono ?_; rintro e v1 ⟨rfl, hm1⟩; have H1 := Lib.hid hm1; clear hm1)
        | (go_at_call 105; with_reducible refine (qLoad H1.out IK.out HF.out  HR1.out).mono ?_; rintro e v2 ⟨rfl, hm2⟩; have H2 := Lib.hid hm2; clear hm2)
        | (go_at_call 107; with_reducible refine (qWord (k := 12) (p := p) H2.out HPT.out.1 HPT.out.2 KA.out EA.out).mono ?_; rintro e v3 ⟨rfl, hm3⟩; have H3 := Lib.hid hm3; clear hm3)
        | (go_at_call 105; with_reducible refine (qLoad H3.out IA.out HF.out  HR2.out).mono ?_; rintro e v4 ⟨rfl, hm4⟩; have H4 := Lib.hid hm4; clear hm4))
      go_ret2
      rw [← HT1.out]
      exact ⟨⟨_, rfl⟩, _, H4.out⟩
    · have hT3 := hT2.trans (Aut.go_on (k1 := .put b a) hr2 rfl)
      obtain ⟨o3, z3, s3, hr3⟩ : ∃ o z3 s3, z2.acc ((sweepA P T p).ac (.put b a)) s2 = (o, z3, s3) := ⟨_, _, _, rfl⟩
      have hr3' := hr3
      rw [a3] at hr3'
      have HR3 := Lib.hid hr3'
      clear hr3' hr2 hT2
      rcases o3 with _ | c
      · have HT1 := Lib.hid (hT3.trans (Aut.go_off hr3)).symm
        clear hr3 hT3 a1 a2 a3 a4
        go_enter Tryz.func67, Tryz.ntmps67
        go_wp2_with (first
          | (go_at_call 107; with_reducible refine (qWord (k := 13) (p := p) H0.out HPT.out.1 HPT.out.2 KK.out EK.out).mono ?_; rintro e v1 ⟨rfl, hm1⟩; have H1 := Lib.hid hm1; clear hm1)
          | (go_at_call 105; with_reducible refine (qLoad H1.out IK.out HF.out  HR1.out).mono ?_; rintro e v2 ⟨rfl, hm2⟩; have H2 := Lib.hid hm2; clear hm2)
          | (go_at_call 107; with_reducible refine (qWord (k := 12) (p := p) H2.out HPT.out.1 HPT.out.2 KA.out EA.out).mono ?_; rintro e v3 ⟨rfl, hm3⟩; have H3 := Lib.hid hm3; clear hm3)
          | (go_at_call 105; with_reducible refine (qLoad H3.out IA.out HF.out  HR2.out).mono ?_; rintro e v4 ⟨rfl, hm4⟩; have H4 := Lib.hid hm4; clear hm4)
          | (go_at_call 107; with_reducible refine (qWord (k := 12) (p := p) H4.out HPT.out.1 HPT.out.2 KA.out EA.out).mono ?_; rintro e v5 ⟨rfl, hm5⟩; have H5 := Lib.hid hm5; clear hm5)
          | (go_at_call 64; with_reducible refine (qPut H5.out IA.out HF.out (and_bd _ _) HR3.out).mono ?_; rintro e v6 ⟨rfl, hm6⟩; have H6 := Lib.hid hm6; clear hm6))
        go_ret2
        rw [← HT1.out]
        exact ⟨⟨_, rfl⟩, _, H6.out⟩
      · have hT4 := hT3.trans (Aut.go_on (k1 := .zero b a) hr3 rfl)
        obtain ⟨o4, z4, s4, hr4⟩ : ∃ o z4 s4, z3.acc ((sweepA P T p).ac (.zero b a)) s3 = (o, z4, s4) := ⟨_, _, _, rfl⟩
        have hr4' := hr4
        rw [a4] at hr4'
        have HR4 := Lib.hid hr4'
        clear hr4' hr3 hT3
        rcases o4 with _ | c2
        · have HT1 := Lib.hid (hT4.trans (Aut.go_off hr4)).symm
          clear hr4 hT4 a1 a2 a3 a4
          go_enter Tryz.func67, Tryz.ntmps67
          go_wp2_with (first
            | (go_at_call 107; with_reducible refine (qWord (k := 13) (p := p) H0.out HPT.out.1 HPT.out.2 KK.out EK.out).mono ?_; rintro e v1 ⟨rfl, hm1⟩; have H1 := Lib.hid hm1; clear hm1)
            | (go_at_call 105; with_reducible refine (qLoad H1.out IK.out HF.out  HR1.out).mono ?_; rintro e v2 ⟨rfl, hm2⟩; have H2 := Lib.hid hm2; clear hm2)
            | (go_at_call 107; with_reducible refine (qWord (k := 12) (p := p) H2.out HPT.out.1 HPT.out.2 KA.out EA.out).mono ?_; rintro e v3 ⟨rfl, hm3⟩; have H3 := Lib.hid hm3; clear hm3)
            | (go_at_call 105; with_reducible refine (qLoad H3.out IA.out HF.out  HR2.out).mono ?_; rintro e v4 ⟨rfl, hm4⟩; have H4 := Lib.hid hm4; clear hm4)
            | (go_at_call 107; with_reducible refine (qWord (k := 12) (p := p) H4.out HPT.out.1 HPT.out.2 KA.out EA.out).mono ?_; rintro e v5 ⟨rfl, hm5⟩; have H5 := Lib.hid hm5; clear hm5)
            | (go_at_call 64; with_reducible refine (qPut H5.out IA.out HF.out (and_bd _ _) HR3.out).mono ?_; rintro e v6 ⟨rfl, hm6⟩; have H6 := Lib.hid hm6; clear hm6)
            | (go_at_call 110; with_reducible refine (qMark H6.out).mono ?_; rintro e v7 ⟨rfl, mk7, hm7⟩; have H7 := Lib.hid hm7; clear hm7)
            | (go_at_call 107; with_reducible refine (qWord (k := 13) (p := p) H7.out HPT.out.1 HPT.out.2 KK.out EK.out).mono ?_; rintro e v8 ⟨rfl, hm8⟩; have H8 := Lib.hid hm8; clear hm8)
            | (go_at_call 64; with_reducible refine (qPut H8.out IK.out HF.out ⟨by omega, by omega⟩ HR4.out).mono ?_; rintro e v9 ⟨rfl, hm9⟩; have H9 := Lib.hid hm9; clear hm9))
          go_ret2
          rw [← HT1.out]
          exact ⟨⟨_, rfl⟩, _, H9.out⟩
        · have HT1 := Lib.hid (hT4.trans (Aut.go_end (r := clrU a b) hr4 rfl)).symm
          clear hr4 hT4 a1 a2 a3 a4
          go_enter Tryz.func67, Tryz.ntmps67
          go_wp2_with (first
            | (go_at_call 107; with_reducible refine (qWord (k := 13) (p := p) H0.out HPT.out.1 HPT.out.2 KK.out EK.out).mono ?_; rintro e v1 ⟨rfl, hm1⟩; have H1 := Lib.hid hm1; clear hm1)
            | (go_at_call 105; with_reducible refine (qLoad H1.out IK.out HF.out  HR1.out).mono ?_; rintro e v2 ⟨rfl, hm2⟩; have H2 := Lib.hid hm2; clear hm2)
            | (go_at_call 107; with_reducible refine (qWord (k := 12) (p := p) H2.out HPT.out.1 HPT.out.2 KA.out EA.out).mono ?_; rintro e v3 ⟨rfl, hm3⟩; have H3 := Lib.hid hm3; clear hm3)
            | (go_at_call 105; with_reducible refine (qLoad H3.out IA.out HF.out  HR2.out).mono ?_; rintro e v4 ⟨rfl, hm4⟩; have H4 := Lib.hid hm4; clear hm4)
            | (go_at_call 107; with_reducible refine (qWord (k := 12) (p := p) H4.out HPT.out.1 HPT.out.2 KA.out EA.out).mono ?_; rintro e v5 ⟨rfl, hm5⟩; have H5 := Lib.hid hm5; clear hm5)
            | (go_at_call 64; with_reducible refine (qPut H5.out IA.out HF.out (and_bd _ _) HR3.out).mono ?_; rintro e v6 ⟨rfl, hm6⟩; have H6 := Lib.hid hm6; clear hm6)
            | (go_at_call 110; with_reducible refine (qMark H6.out).mono ?_; rintro e v7 ⟨rfl, mk7, hm7⟩; have H7 := Lib.hid hm7; clear hm7)
            | (go_at_call 107; with_reducible refine (qWord (k := 13) (p := p) H7.out HPT.out.1 HPT.out.2 KK.out EK.out).mono ?_; rintro e v8 ⟨rfl, hm8⟩; have H8 := Lib.hid hm8; clear hm8)
            | (go_at_call 64; with_reducible refine (qPut H8.out IK.out HF.out ⟨by omega, by omega⟩ HR4.out).mono ?_; rintro e v9 ⟨rfl, hm9⟩; have H9 := Lib.hid hm9; clear hm9))
          go_ret2
          rw [← HT1.out]
          exact ⟨⟨_, rfl⟩, _, H9.out⟩
set_option maxRecDepth 100000 in
set_option maxHeartbeats 8000000 in
theorem qHave {R : Option Int × MS × StoreS} (h : Ra w wr mb bb sb sm rb fb P T lg mkv x0 s0 y ss) (hP : x0.P = P) (hT : x0.T = T) (hm : Lay.may P T = true) (hp0 : 0 ≤ p) (hp1 : p < P) (hg : g < 9223372036854775808) (hlen : s0.ws.length = (Lay.words P T).toNat) (hf : x0.room < 100000) (hR : (haveA P T g p).go .look y ss = R) :
    Calls Tryz.prog 116 #[.pointer (some ⟨mb, 0, none⟩), .int .i64 p, .int .i64 g] wr fun e w' => e = .returned (.tuple #[.bool (R.1.getD 0 != 0), .bool R.1.isSome]) ∧ ∃ mk, Ra w w' mb bb sb sm rb fb P T lg mk x0 s0 R.2.1 R.2.2 := by
  have q2 := pgAt_eq (k := 9) hm (by decide) (by decide) hp0 hp1
  have hT1 := (Lay.may_iff.1 hm)
  obtain ⟨st, hst⟩ : ∃ st, pgAt P T 9 p = st := ⟨_, rfl⟩
  obtain ⟨k2, hk2⟩ : ∃ k2, Ph.mk g 2 = k2 := ⟨_, rfl⟩
  obtain ⟨k6, hk6⟩ : ∃ k6, Ph.mk g 6 = k6 := ⟨_, rfl⟩
  obtain ⟨k4, hk4⟩ : ∃ k4, Ph.mk g 4 = k4 := ⟨_, rfl⟩
  obtain ⟨k5, hk5⟩ : ∃ k5, Ph.mk g 5 = k5 := ⟨_, rfl⟩
  have B2 := Lib.hid (Ph.mk_bd g 2); have B6 := Lib.hid (Ph.mk_bd g 6)
  rw [hk2] at B2; rw [hk6] at B6
  have K2 := Lib.hid hk2; have K6 := Lib.hid hk6; have K4 := Lib.hid hk4; have K5 := Lib.hid hk5
  have IS := Lib.hid (show s0.inR st from ⟨by omega, by rw [hlen]; omega⟩)
  have KS := Lib.hid q2.2.1
  have ES : Hid (Lay.pageAt P T 9 p = st) := Lib.hid hst
  have H0 := Lib.hid h; have HPT := Lib.hid (And.intro hP hT); have HF := Lib.hid hf; have HRS := Lib.hid hR
  have a1 : (haveA P T g p).ac .look = .load st := by rw [← hst]; rfl
  have a2 : ∀ v, (haveA P T g p).ac (.held v) = .cas st v k2 := fun b => by rw [← hst, ← hk2]; rfl
  have a3 : ∀ v, (haveA P T g p).ac (.hand v) = .cas st v k6 := fun b => by rw [← hst, ← hk6]; rfl
  have a4 : (haveA P T g p).ac .put = .put st k2 := by rw [← hst, ← hk2]; rfl
  have n1 : ∀ v, (haveA P T g p).nx .look v = if Ph.waits v g = true then .inl (.held v) else if v = k4 then .inl (.hand v) else if v = k5 then .inl .put else .inr 0 := fun v => by rw [← hk4, ← hk5]; rfl
  have HA := Lib.hid (And.intro a1 (And.intro a2 (And.intro a3 (And.intro a4 n1))))
  have HSW : Hid (∀ (V : World) (mk2 : Value) (z : MS) (sz : StoreS), Ra w V mb bb sb sm rb fb P T lg mk2 x0 s0 z sz → Calls Tryz.prog 67 #[.pointer (some ⟨mb, 0, none⟩), .int .i64 p] V fun e w' => (∃ v, e = .returned (.tuple #[.int .u64 v, .bool ((sweepA P T p).go .mark z sz).1.isSome])) ∧ ∃ mk, Ra w w' mb bb sb sm rb fb P T lg mk x0 s0 ((sweepA P T p).go .mark z sz).2.1 ((sweepA P T p).go .mark z sz).2.2) :=
    Lib.hid (fun V mk2 z sz hz => qSweep hz hP hT hm hp0 hp1 hlen hf rfl)
  have HG := Lib.hid hg
  clear h hP hT hf hm hlen hR q2 hT1 hp0 hp1 hst hk2 hk4 hk5 hk6 a1 a2 a3 a4 n1 hg
  go_enter Tryz.func116, Tryz.ntmps116
  go_wp2_with (go_at_call 107; with_reducible refine (qWord (k := 9) (p := p) H0.out HPT.out.1 HPT.out.2 KS.out ES.out).mono ?_; rintro e v1 ⟨rfl, hm1⟩; have HW := Lib.hid hm1; clear hm1)
  go_loopg [9, 10] (y.mu + 1) (fun gg _ _ wq => ∃ (z : MS) (sz : StoreS) (mk : Value), Hid (Ra w wq mb bb sb sm rb fb P T lg mk x0 s0 z sz) ∧ z.mu < gg ∧ Hid ((haveA P T g p).go .look z sz = R))
  case atStart => exact ⟨y, ss, mkv, HW, Nat.lt_succ_self _, HRS⟩
  case round =>
    clear H0 HRS HW
    obtain ⟨z, sz, mk0, H0, hg, HT⟩ := hrel
    obtain ⟨g1, rfl⟩ : ∃ g1, gk = g1 + 1 := ⟨gk - 1, by omega⟩
    obtain ⟨o1, z1, s1, hr1⟩ : ∃ o z1 s1, z.acc ((haveA P T g p).ac .look) sz = (o, z1, s1) := ⟨_, _, _, rfl⟩
    have HR1 : Hid (z.acc (.load st) sz = (o1, z1, s1)) := by rw [HA.out.1] at hr1; exact Lib.hid hr1
    rcases o1 with _ | v
    · have HT1 := Lib.hid (HT.out.symm.trans (Aut.go_off hr1)).symm
      clear hr1
      go_wp2_with (first
        | (go_at_call 105; with_reducible refine (qLoad H0.out IS.out HF.out  HR1.out).mono ?_; rintro e v1 ⟨rfl, hm1⟩; have H1 := Lib.hid hm1; clear hm1))
      go_ret2
      rw [← HT1.out]
      exact ⟨rfl, _, H1.out⟩
    · obtain rfl := H0.out.nil hr1
      have hvb := H0.out.bd hr1
      have hm1 := acc_mu hr1
      have HVB := Lib.hid hvb
      obtain ⟨wb, hwb⟩ : ∃ wb, Ph.waits v g = wb := ⟨_, rfl⟩
      have HWB := Lib.hid hwb
      have hn := HA.out.2.2.2.2 v
      rw [hwb] at hn
      clear hvb hwb
      cases wb
      case true =>
        have hT2 := HT.out.symm.trans (Aut.go_on (k1 := .held v) hr1 (by rw [hn]; simp))
        obtain ⟨o2, z2, s2, hr2⟩ : ∃ o z2 s2, z1.acc ((haveA P T g p).ac (.held v)) s1 = (o, z2, s2) := ⟨_, _, _, rfl⟩
        have HR2 : Hid (z1.acc (.cas st v k2) s1 = (o2, z2, s2)) := by rw [HA.out.2.1] at hr2; exact Lib.hid hr2
        clear hr1 hn
        rcases o2 with _ | u
        · have HT1 := Lib.hid (hT2.trans (Aut.go_off hr2)).symm
          have hcr : casR none v = false := rfl
          clear hr2 hT2
          go_wp2_with (first
            | (go_at_call 105; with_reducible refine (qLoad H0.out IS.out HF.out  HR1.out).mono ?_; rintro e v1 ⟨rfl, hm1⟩; have H1 := Lib.hid hm1; clear hm1)
            | (go_at_call 166; with_reducible refine (r6Waits_any v g _ HVB.out.1 HVB.out.2 HG.out).mono ?_; rintro e vp ⟨rfl, rfl⟩; rw [HWB.out])
            | (go_at_call 115; with_reducible refine (qState g 2 _).mono ?_; rintro e vp ⟨rfl, rfl⟩; rw [K2.out])
            | (go_at_call 109; with_reducible refine (qCas H1.out IS.out HF.out B2.out HR2.out).mono ?_; rintro e v2 ⟨rfl, hm2⟩; have H2 := Lib.hid hm2; clear hm2))
          go_ret2
          rw [← HT1.out]
          exact ⟨rfl, _, H2.out⟩
        · have hm2 := acc_mu hr2
          by_cases c4 : u = v
          · have hT3 := hT2.trans (Aut.go_on (k1 := .sw .mark) hr2 (by show (if u = v then _ else _) = _; rw [if_pos c4]))
            rw [have_sw] at hT3
            have hcr : casR (some u) v = true := by simp [casR, c4]
            obtain ⟨o3, z3, s3, hr3⟩ : ∃ o z3 s3, (sweepA P T p).go .mark z2 s2 = (o, z3, s3) := ⟨_, _, _, rfl⟩
            rw [hr3] at hT3
            have HSW2 : Hid (∀ (V : World) (mk2 : Value), Ra w V mb bb sb sm rb fb P T lg mk2 x0 s0 z2 s2 → Calls Tryz.prog 67 #[.pointer (some ⟨mb, 0, none⟩), .int .i64 p] V fun e w' => (∃ v, e = .returned (.tuple #[.int .u64 v, .bool o3.isSome])) ∧ ∃ mk, Ra w w' mb bb sb sm rb fb P T lg mk x0 s0 z3 s3) := Lib.hid (fun V mk2 hz => by have := HSW.out V mk2 z2 s2 hz; rw [hr3] at this; exact this)
            clear hr2 hT2 hr3 c4
            rcases o3 with _ | c3
            · have HT1 := Lib.hid hT3.symm
              clear hT3
              go_wp2_with (first
                | (go_at_call 105; with_reducible refine (qLoad H0.out IS.out HF.out  HR1.out).mono ?_; rintro e v1 ⟨rfl, hm1⟩; have H1 := Lib.hid hm1; clear hm1)
                | (go_at_call 166; with_reducible refine (r6Waits_any v g _ HVB.out.1 HVB.out.2 HG.out).mono ?_; rintro e vp ⟨rfl, rfl⟩; rw [HWB.out])
                | (go_at_call 115; with_reducible refine (qState g 2 _).mono ?_; rintro e vp ⟨rfl, rfl⟩; rw [K2.out])
                | (go_at_call 109; with_reducible refine (qCas H1.out IS.out HF.out B2.out HR2.out).mono ?_; rintro e v2 ⟨rfl, hm2⟩; have H2 := Lib.hid hm2; clear hm2)
                | (go_at_call 110; with_reducible refine (qMark H2.out).mono ?_; rintro e v3 ⟨rfl, mk3, hm3⟩; have H3 := Lib.hid hm3; clear hm3)
                | (go_at_call 67; with_reducible refine (HSW2.out _ _ H3.out).mono ?_; rintro e v4 ⟨⟨fr, rfl⟩, mk4, hm4⟩; have H4 := Lib.hid hm4; clear hm4))
              go_ret2
              rw [← HT1.out]
              exact ⟨rfl, _, H4.out⟩
            · have HT1 := Lib.hid hT3.symm
              clear hT3
              go_wp2_with (first
                | (go_at_call 105; with_reducible refine (qLoad H0.out IS.out HF.out  HR1.out).mono ?_; rintro e v1 ⟨rfl, hm1⟩; have H1 := Lib.hid hm1; clear hm1)
                | (go_at_call 166; with_reducible refine (r6Waits_any v g _ HVB.out.1 HVB.out.2 HG.out).mono ?_; rintro e vp ⟨rfl, rfl⟩; rw [HWB.out])
                | (go_at_call 115; with_reducible refine (qState g 2 _).mono ?_; rintro e vp ⟨rfl, rfl⟩; rw [K2.out])
                | (go_at_call 109; with_reducible refine (qCas H1.out IS.out HF.out B2.out HR2.out).mono ?_; rintro e v2 ⟨rfl, hm2⟩; have H2 := Lib.hid hm2; clear hm2)
                | (go_at_call 110; with_reducible refine (qMark H2.out).mono ?_; rintro e v3 ⟨rfl, mk3, hm3⟩; have H3 := Lib.hid hm3; clear hm3)
                | (go_at_call 67; with_reducible refine (HSW2.out _ _ H3.out).mono ?_; rintro e v4 ⟨⟨fr, rfl⟩, mk4, hm4⟩; have H4 := Lib.hid hm4; clear hm4))
              go_ret2
              rw [← HT1.out]
              exact ⟨rfl, _, H4.out⟩
          · have HT1 := Lib.hid (hT2.trans (Aut.go_on (k1 := .look) hr2 (by show (if u = v then _ else _) = _; rw [if_neg c4])))
            have hcr : casR (some u) v = false := by simp [casR, c4]
            clear hr2 hT2 c4
            go_wp2_with (first
              | (go_at_call 105; with_reducible refine (qLoad H0.out IS.out HF.out  HR1.out).mono ?_; rintro e v1 ⟨rfl, hm1⟩; have H1 := Lib.hid hm1; clear hm1)
              | (go_at_call 166; with_reducible refine (r6Waits_any v g _ HVB.out.1 HVB.out.2 HG.out).mono ?_; rintro e vp ⟨rfl, rfl⟩; rw [HWB.out])
              | (go_at_call 115; with_reducible refine (qState g 2 _).mono ?_; rintro e vp ⟨rfl, rfl⟩; rw [K2.out])
              | (go_at_call 109; with_reducible refine (qCas H1.out IS.out HF.out B2.out HR2.out).mono ?_; rintro e v2 ⟨rfl, hm2⟩; have H2 := Lib.hid hm2; clear hm2))
            go_roundg g1
            case measure => omega
            case rel => exact ⟨z2, s2, _, H2, by omega, Lib.hid HT1.out.symm⟩
      case false =>
        rw [if_neg (by simp)] at hn
        by_cases c4 : v = k4
        · rw [if_pos c4] at hn
          have hT2 := HT.out.symm.trans (Aut.go_on (k1 := .hand v) hr1 hn)
          have e4 : (v == k4) = true := by simp [c4]
          obtain ⟨o2, z2, s2, hr2⟩ : ∃ o z2 s2, z1.acc ((haveA P T g p).ac (.hand v)) s1 = (o, z2, s2) := ⟨_, _, _, rfl⟩
          have HR2 : Hid (z1.acc (.cas st v k6) s1 = (o2, z2, s2)) := by rw [HA.out.2.2.1] at hr2; exact Lib.hid hr2
          clear hr1 hn c4
          rcases o2 with _ | u
          · have HT1 := Lib.hid (hT2.trans (Aut.go_off hr2)).symm
            have hcr : casR none v = false := rfl
            clear hr2 hT2
            go_wp2_with (first
              | (go_at_call 105; with_reducible refine (qLoad H0.out IS.out HF.out  HR1.out).mono ?_; rintro e v1 ⟨rfl, hm1⟩; have H1 := Lib.hid hm1; clear hm1)
              | (go_at_call 166; with_reducible refine (r6Waits_any v g _ HVB.out.1 HVB.out.2 HG.out).mono ?_; rintro e vp ⟨rfl, rfl⟩; rw [HWB.out])
              | (go_at_call 115; with_reducible refine (qState g 4 _).mono ?_; rintro e vp ⟨rfl, rfl⟩; rw [K4.out])
              | (go_at_call 115; with_reducible refine (qState g 6 _).mono ?_; rintro e vp ⟨rfl, rfl⟩; rw [K6.out])
              | (go_at_call 109; with_reducible refine (qCas H1.out IS.out HF.out B6.out HR2.out).mono ?_; rintro e v2 ⟨rfl, hm2⟩; have H2 := Lib.hid hm2; clear hm2))
            go_ret2
            rw [← HT1.out]
            exact ⟨rfl, _, H2.out⟩
          · have hm2 := acc_mu hr2
            by_cases c5 : u = v
            · have HT1 := Lib.hid (hT2.trans (Aut.go_end (r := 0) hr2 (by show (if u = v then _ else _) = _; rw [if_pos c5]))).symm
              have hcr : casR (some u) v = true := by simp [casR, c5]
              clear hr2 hT2 c5
              go_wp2_with (first
                | (go_at_call 105; with_reducible refine (qLoad H0.out IS.out HF.out  HR1.out).mono ?_; rintro e v1 ⟨rfl, hm1⟩; have H1 := Lib.hid hm1; clear hm1)
                | (go_at_call 166; with_reducible refine (r6Waits_any v g _ HVB.out.1 HVB.out.2 HG.out).mono ?_; rintro e vp ⟨rfl, rfl⟩; rw [HWB.out])
                | (go_at_call 115; with_reducible refine (qState g 4 _).mono ?_; rintro e vp ⟨rfl, rfl⟩; rw [K4.out])
                | (go_at_call 115; with_reducible refine (qState g 6 _).mono ?_; rintro e vp ⟨rfl, rfl⟩; rw [K6.out])
                | (go_at_call 109; with_reducible refine (qCas H1.out IS.out HF.out B6.out HR2.out).mono ?_; rintro e v2 ⟨rfl, hm2⟩; have H2 := Lib.hid hm2; clear hm2)
                | (go_at_call 110; with_reducible refine (qMark H2.out).mono ?_; rintro e v3 ⟨rfl, mk3, hm3⟩; have H3 := Lib.hid hm3; clear hm3))
              go_ret2
              rw [← HT1.out]
              exact ⟨rfl, _, H3.out⟩
            · have HT1 := Lib.hid (hT2.trans (Aut.go_on (k1 := .look) hr2 (by show (if u = v then _ else _) = _; rw [if_neg c5])))
              have hcr : casR (some u) v = false := by simp [casR, c5]
              clear hr2 hT2 c5
              go_wp2_with (first
                | (go_at_call 105; with_reducible refine (qLoad H0.out IS.out HF.out  HR1.out).mono ?_; rintro e v1 ⟨rfl, hm1⟩; have H1 := Lib.hid hm1; clear hm1)
                | (go_at_call 166; with_reducible refine (r6Waits_any v g _ HVB.out.1 HVB.out.2 HG.out).mono ?_; rintro e vp ⟨rfl, rfl⟩; rw [HWB.out])
                | (go_at_call 115; with_reducible refine (qState g 4 _).mono ?_; rintro e vp ⟨rfl, rfl⟩; rw [K4.out])
                | (go_at_call 115; with_reducible refine (qState g 6 _).mono ?_; rintro e vp ⟨rfl, rfl⟩; rw [K6.out])
                | (go_at_call 109; with_reducible refine (qCas H1.out IS.out HF.out B6.out HR2.out).mono ?_; rintro e v2 ⟨rfl, hm2⟩; have H2 := Lib.hid hm2; clear hm2))
              go_roundg g1
              case measure => omega
              case rel => exact ⟨z2, s2, _, H2, by omega, Lib.hid HT1.out.symm⟩
        · rw [if_neg c4] at hn
          have e4 : (v == k4) = false := by simp [c4]
          by_cases c5 : v = k5
          · rw [if_pos c5] at hn
            have hT2 := HT.out.symm.trans (Aut.go_on (k1 := .put) hr1 hn)
            have e5 : (v == k5) = true := by simp [c5]
            obtain ⟨o2, z2, s2, hr2⟩ : ∃ o z2 s2, z1.acc ((haveA P T g p).ac .put) s1 = (o, z2, s2) := ⟨_, _, _, rfl⟩
            have HR2 : Hid (z1.acc (.put st k2) s1 = (o2, z2, s2)) := by rw [HA.out.2.2.2.1] at hr2; exact Lib.hid hr2
            clear hr1 hn c4 c5
            rcases o2 with _ | u
            · have HT1 := Lib.hid (hT2.trans (Aut.go_off hr2)).symm
              clear hr2 hT2
              go_wp2_with (first
                | (go_at_call 105; with_reducible refine (qLoad H0.out IS.out HF.out  HR1.out).mono ?_; rintro e v1 ⟨rfl, hm1⟩; have H1 := Lib.hid hm1; clear hm1)
                | (go_at_call 166; with_reducible refine (r6Waits_any v g _ HVB.out.1 HVB.out.2 HG.out).mono ?_; rintro e vp ⟨rfl, rfl⟩; rw [HWB.out])
                | (go_at_call 115; with_reducible refine (qState g 4 _).mono ?_; rintro e vp ⟨rfl, rfl⟩; rw [K4.out])
                | (go_at_call 115; with_reducible refine (qState g 5 _).mono ?_; rintro e vp ⟨rfl, rfl⟩; rw [K5.out])
                | (go_at_call 115; with_reducible refine (qState g 2 _).mono ?_; rintro e vp ⟨rfl, rfl⟩; rw [K2.out])
                | (go_at_call 64; with_reducible refine (qPut H1.out IS.out HF.out B2.out HR2.out).mono ?_; rintro e v2 ⟨rfl, hm2⟩; have H2 := Lib.hid hm2; clear hm2))
              go_ret2
              rw [← HT1.out]
              exact ⟨rfl, _, H2.out⟩
            · have HT1 := Lib.hid (hT2.trans (Aut.go_end (r := 1) hr2 rfl)).symm
              clear hr2 hT2
              go_wp2_with (first
                | (go_at_call 105; with_reducible refine (qLoad H0.out IS.out HF.out  HR1.out).mono ?_; rintro e v1 ⟨rfl, hm1⟩; have H1 := Lib.hid hm1; clear hm1)
                | (go_at_call 166; with_reducible refine (r6Waits_any v g _ HVB.out.1 HVB.out.2 HG.out).mono ?_; rintro e vp ⟨rfl, rfl⟩; rw [HWB.out])
                | (go_at_call 115; with_reducible refine (qState g 4 _).mono ?_; rintro e vp ⟨rfl, rfl⟩; rw [K4.out])
                | (go_at_call 115; with_reducible refine (qState g 5 _).mono ?_; rintro e vp ⟨rfl, rfl⟩; rw [K5.out])
                | (go_at_call 115; with_reducible refine (qState g 2 _).mono ?_; rintro e vp ⟨rfl, rfl⟩; rw [K2.out])
                | (go_at_call 64; with_reducible refine (qPut H1.out IS.out HF.out B2.out HR2.out).mono ?_; rintro e v2 ⟨rfl, hm2⟩; have H2 := Lib.hid hm2; clear hm2)
                | (go_at_call 110; with_reducible refine (qMark H2.out).mono ?_; rintro e v3 ⟨rfl, mk3, hm3⟩; have H3 := Lib.hid hm3; clear hm3))
              go_ret2
              rw [← HT1.out]
              exact ⟨rfl, _, H3.out⟩
          · rw [if_neg c5] at hn
            have HT1 := Lib.hid (HT.out.symm.trans (Aut.go_end (r := 0) hr1 hn)).symm
            have e5 : (v == k5) = false := by simp [c5]
            clear hr1 hn c4 c5
            go_wp2_with (first
              | (go_at_call 105; with_reducible refine (qLoad H0.out IS.out HF.out  HR1.out).mono ?_; rintro e v1 ⟨rfl, hm1⟩; have H1 := Lib.hid hm1; clear hm1)
              | (go_at_call 166; with_reducible refine (r6Waits_any v g _ HVB.out.1 HVB.out.2 HG.out).mono ?_; rintro e vp ⟨rfl, rfl⟩; rw [HWB.out])
              | (go_at_call 115; with_reducible refine (qState g 4 _).mono ?_; rintro e vp ⟨rfl, rfl⟩; rw [K4.out])
              | (go_at_call 115; with_reducible refine (qState g 5 _).mono ?_; rintro e vp ⟨rfl, rfl⟩; rw [K5.out]))
            go_ret2
            rw [← HT1.out]
            exact ⟨rfl, _, H1.out⟩
set_option maxRecDepth 100000 in
set_option maxHeartbeats 8000000 in
theorem qClaim {R : Option Int × MS × StoreS} (h : Ra w wr mb bb sb sm rb fb P T lg mkv x0 s0 y ss) (hP : x0.P = P) (hT : x0.T = T) (hm : Lay.may P T = true) (hh : 8 ≤ hd ∧ hd < 68) (hg : g < 9223372036854775808) (hlen : s0.ws.length = (Lay.words P T).toNat) (hf : x0.room < 100000) (hR : (claimA P T hd g).go (.pop .load) y ss = R) (hbad : R.1 ≠ some (-2)) :
    Calls Tryz.prog 68 #[.pointer (some ⟨mb, 0, none⟩), .int .i64 hd, .int .i64 g] wr fun e w' => e = .returned (.tuple #[.int .i64 (R.1.getD (-1)), .bool R.1.isSome]) ∧ ∃ mk, Ra w w' mb bb sb sm rb fb P T lg mk x0 s0 R.2.1 R.2.2 := by
  have HPOP : Hid (∀ (V : World) (mk2 : Value) (z : MS) (sz : StoreS), Ra w V mb bb sb sm rb fb P T lg mk2 x0 s0 z sz → ((popA P T hd).go .load z sz).1 ≠ some (-2) → Calls Tryz.prog 61 #[.pointer (some ⟨mb, 0, none⟩), .int .i64 hd, .int .i64 4] V fun e w' => e = .returned (.tuple #[.int .i64 (((popA P T hd).go .load z sz).1.getD (-1)), .bool ((popA P T hd).go .load z sz).1.isSome]) ∧ ∃ mk, Ra w w' mb bb sb sm rb fb P T lg mk x0 s0 ((popA P T hd).go .load z sz).2.1 ((popA P T hd).go .load z sz).2.2) :=
    Lib.hid (fun V mk2 z sz hz hb => qPop hz hP hT hm hh hlen hf rfl hb)
  have HHV : Hid (∀ (V : World) (mk2 : Value) (z : MS) (sz : StoreS) (p : Int), 0 ≤ p → p < P → Ra w V mb bb sb sm rb fb P T lg mk2 x0 s0 z sz → Calls Tryz.prog 116 #[.pointer (some ⟨mb, 0, none⟩), .int .i64 p, .int .i64 g] V fun e w' => e = .returned (.tuple #[.bool (((haveA P T g p).go .look z sz).1.getD 0 != 0), .bool ((haveA P T g p).go .look z sz).1.isSome]) ∧ ∃ mk, Ra w w' mb bb sb sm rb fb P T lg mk x0 s0 ((haveA P T g p).go .look z sz).2.1 ((haveA P T g p).go .look z sz).2.2) :=
    Lib.hid (fun V mk2 z sz p hp0 hp1 hz => qHave hz hP hT hm hp0 hp1 hg hlen hf rfl)
  have H0 := Lib.hid h; have HRS := Lib.hid hR; have HBAD := Lib.hid hbad
  clear h hP hT hf hm hlen hR hg hh hbad
  go_enter Tryz.func68, Tryz.ntmps68
  go_wp2_with fail
  go_loopg [8, 9] (y.mu + 1) (fun gg _ _ wq => ∃ (z : MS) (sz : StoreS) (mk : Value), Hid (Ra w wq mb bb sb sm rb fb P T lg mk x0 s0 z sz) ∧ z.mu < gg ∧ Hid ((claimA P T hd g).go (.pop .load) z sz = R))
  case atStart => exact ⟨y, ss, mkv, H0, Nat.lt_succ_self _, HRS⟩
  case round =>
    clear H0 HRS
    obtain ⟨z, sz, mk0, H0, hg, HT⟩ := hrel
    obtain ⟨g1, rfl⟩ : ∃ g1, gk = g1 + 1 := ⟨gk - 1, by omega⟩
    have hT := HT.out
    rw [claim_pop] at hT
    obtain ⟨o1, z1, s1, hr1⟩ : ∃ o z1 s1, (popA P T hd).go .load z sz = (o, z1, s1) := ⟨_, _, _, rfl⟩
    rw [hr1] at hT
    have hp := fun V mk2 => HPOP.out V mk2 z sz
    rw [hr1] at hp
    have HP1 := Lib.hid hp
    clear hp
    rcases o1 with _ | p
    · have HT1 := Lib.hid hT
      clear hT hr1
      go_wp2_with (first
        | (go_at_call 61; with_reducible refine (HP1.out _ _ H0.out (by simp)).mono ?_; rintro e v1 ⟨rfl, mk1, hm1⟩; have H1 := Lib.hid hm1; clear hm1))
      go_ret2
      rw [← HT1.out]
      exact ⟨rfl, _, H1.out⟩
    · have hm1 := Aut.go_mu_lt hr1
      clear hr1
      try dsimp only at hT
      by_cases c1 : p = -2
      · rw [if_pos c1] at hT
        exact absurd (congrArg Prod.fst hT).symm HBAD.out
      · rw [if_neg c1] at hT
        have NB := Lib.hid (show (some p : Option Int) ≠ some (-2) by simp; omega)
        by_cases c2 : p < 0
        · rw [if_pos c2] at hT
          have HT1 := Lib.hid hT
          clear hT
          go_wp2_with (first
            | (go_at_call 61; with_reducible refine (HP1.out _ _ H0.out NB.out).mono ?_; rintro e v1 ⟨rfl, mk1, hm1⟩; have H1 := Lib.hid hm1; clear hm1))
          go_ret2
          rw [← HT1.out]
          exact ⟨rfl, _, H1.out⟩
        · rw [if_neg c2] at hT
          by_cases c3 : P ≤ p
          · rw [if_pos c3] at hT
            exact absurd (congrArg Prod.fst hT).symm HBAD.out
          · rw [if_neg c3, claim_hv] at hT
            have p0 : 0 ≤ p := by omega
            have p1 : p < P := by omega
            obtain ⟨o2, z2, s2, hr2⟩ : ∃ o z2 s2, (haveA P T g p).go .look z1 s1 = (o, z2, s2) := ⟨_, _, _, rfl⟩
            have hv := fun V mk2 => HHV.out V mk2 z1 s1 p p0 p1
            rw [hr2] at hT hv
            have HV1 := Lib.hid hv
            clear hv
            rcases o2 with _ | b
            · have HT1 := Lib.hid hT
              clear hT hr2
              go_wp2_with (first
                | (go_at_call 61; with_reducible refine (HP1.out _ _ H0.out NB.out).mono ?_; rintro e v1 ⟨rfl, mk1, hm1⟩; have H1 := Lib.hid hm1; clear hm1)
                | (go_at_call 116; with_reducible refine (HV1.out _ _ H1.out).mono ?_; rintro e v2 ⟨rfl, mk2, hm2⟩; have H2 := Lib.hid hm2; clear hm2))
              go_ret2
              rw [← HT1.out]
              exact ⟨rfl, _, H2.out⟩
            · have hm2 := Aut.go_mu_lt hr2
              clear hr2
              try dsimp only at hT
              by_cases c4 : b = 0
              · rw [if_pos c4] at hT
                have e4 : (b != 0) = false := by simp [c4]
                have HT1 := Lib.hid hT
                clear hT c4
                go_wp2_with (first
                  | (go_at_call 61; with_reducible refine (HP1.out _ _ H0.out NB.out).mono ?_; rintro e v1 ⟨rfl, mk1, hm1⟩; have H1 := Lib.hid hm1; clear hm1)
                  | (go_at_call 116; with_reducible refine (HV1.out _ _ H1.out).mono ?_; rintro e v2 ⟨rfl, mk2, hm2⟩; have H2 := Lib.hid hm2; clear hm2))
                go_roundg g1
                case measure => omega
                case rel => exact ⟨z2, s2, _, H2, by omega, HT1⟩
              · rw [if_neg c4] at hT
                have e4 : (b != 0) = true := by simp [c4]
                have HT1 := Lib.hid hT
                clear hT c4
                go_wp2_with (first
                  | (go_at_call 61; with_reducible refine (HP1.out _ _ H0.out NB.out).mono ?_; rintro e v1 ⟨rfl, mk1, hm1⟩; have H1 := Lib.hid hm1; clear hm1)
                  | (go_at_call 116; with_reducible refine (HV1.out _ _ H1.out).mono ?_; rintro e v2 ⟨rfl, mk2, hm2⟩; have H2 := Lib.hid hm2; clear hm2))
                go_ret2
                rw [← HT1.out]
                exact ⟨rfl, _, H2.out⟩
end
end Go.Proofs.YtmnliddjddpchaaGreat

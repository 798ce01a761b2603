/- ClaimHanded: one claim alone, in an arena of three pages: plain law. By an AI agent. -/
import Derived.Test.YtffhoaimcjpjhaaGreatZF
import Derived.Test.YtffhoaimcjpjhaaGreatZPile
namespace Go.Proofs.YtffhoaimcjpjhaaGreat
open Go.RowKit
/-- An automaton that nobody disturbs goes on to its end. -/
inductive Ends {σ : Type} (A : Aut σ Int) : σ → StoreS → Int → StoreS → Nat → Prop
  | stop {k : σ} {s : StoreS} {r : Int} (h : A.nx k (s.word (A.ac k).pos) = .inr r) (hr : r ≠ -2) : Ends A k s r ((A.ac k).act s) 1
  | next {k k1 : σ} {s sE : StoreS} {r : Int} {n : Nat} (h : A.nx k (s.word (A.ac k).pos) = .inl k1) (hn : Ends A k1 ((A.ac k).act s) r sE n) : Ends A k s r sE (n + 1)
theorem Ends.pos {σ : Type} {A : Aut σ Int} {k : σ} {s sE : StoreS} {r : Int} {n : Nat} (h : Ends A k s r sE n) : 0 < n := by cases h <;> omega
theorem Ends.ne {σ : Type} {A : Aut σ Int} {k : σ} {s sE : StoreS} {r : Int} {n : Nat} (h : Ends A k s r sE n) : A.nx k (s.word (A.ac k).pos) ≠ .inr (-2) := by
  cases h with
  | stop h hr => rw [h]; intro e; injection e with e; exact hr e
  | next h _ => rw [h]; intro e; cases e
theorem act_win {s : StoreS} {a o v : Int} (h : s.word a = o) : (Ac.cas a o v).act s = s.acc 3 a v := by simp only [Ac.act]; rw [if_pos h]
theorem act_lost {s : StoreS} {a o v : Int} (h : s.word a ≠ o) : (Ac.cas a o v).act s = s.acc 4 a (s.word a) := by simp only [Ac.act]; rw [if_neg h]
theorem pop_no {P T hd v : Int} (h : Tag.pg v < 0) : (popA P T hd).nx .load v = .inr (-1) := by simp only [popA]; rw [if_pos h]
theorem pop_on {P T hd v : Int} (h : 0 ≤ Tag.pg v) (h2 : Tag.pg v < P) : (popA P T hd).nx .load v = .inl (.next v) := by simp only [popA]; rw [if_neg (by omega), if_neg (by omega)]
theorem pop_win (P T hd v x : Int) : (popA P T hd).nx (.cas v x) v = .inr (Tag.pg v) := by simp [popA]
theorem Ends.inv {σ : Type} {A : Aut σ Int} {k : σ} {s sE : StoreS} {r : Int} {n : Nat} (h : Ends A k s r sE n) : (A.nx k (s.word (A.ac k).pos) = .inr r ∧ sE = (A.ac k).act s ∧ n = 1) ∨ ∃ k1 m, A.nx k (s.word (A.ac k).pos) = .inl k1 ∧ Ends A k1 ((A.ac k).act s) r sE m ∧ n = m + 1 := by
  cases h with
  | stop h hr => exact .inl ⟨h, rfl, rfl⟩
  | next h hn => exact .inr ⟨_, _, h, hn, rfl⟩
/-- The words that count: the head, below page 1, its state, what is allocated, and marked. -/
structure HS (s : StoreS) (H n w a m : Int) : Prop where
  len : s.ws.length = (Lay.words 3 1).toNat
  h : s.word 12 = H
  n : s.word 89 = n
  w : s.word 87 = w
  a : s.word 90 = a
  m : s.word 91 = m
theorem words31 : (Lay.words 3 1).toNat = 102 := by decide
section
variable {s : StoreS} {H n w a m : Int}
theorem HS.inR (h : HS s H n w a m) {i : Int} (h0 : 0 ≤ i) (h1 : i < 102) : s.inR i := ⟨h0, by rw [h.len, words31]; omega⟩
theorem HS.load (h : HS s H n w a m) {i : Int} (h0 : 0 ≤ i) (h1 : i < 102) (k : Int) : HS (s.acc k i (s.word i)) H n w a m := by
  have e : ∀ j, 0 ≤ j → (s.acc k i (s.word i)).word j = s.word j := fun j hj => by
    by_cases e : j = i
    · subst e; exact StoreS.acc_word (h.inR h0 h1) _ _
    · exact StoreS.acc_word_other h0 hj e _ _
  exact ⟨by simpa [StoreS.acc] using h.len, (e _ (by omega)).trans h.h, (e _ (by omega)).trans h.n, (e _ (by omega)).trans h.w, (e _ (by omega)).trans h.a, (e _ (by omega)).trans h.m⟩
theorem HS.set (h : HS s H n w a m) {i : Int} (h0 : 0 ≤ i) (h1 : i < 102) (k v : Int) : HS (s.acc k i v) (if i = 12 then v else H) (if i = 89 then v else n) (if i = 87 then v else w) (if i = 90 then v else a) (if i = 91 then v else m) := by
  have e : ∀ j, 0 ≤ j → (s.acc k i v).word j = if i = j then v else s.word j := fun j hj => by
    by_cases e : i = j
    · subst e; rw [if_pos rfl]; exact StoreS.acc_word (h.inR h0 h1) _ _
    · rw [if_neg e]; exact StoreS.acc_word_other h0 hj (Ne.symm e) _ _
  exact ⟨by simpa [StoreS.acc] using h.len, by rw [e _ (by omega), h.h], by rw [e _ (by omega), h.n], by rw [e _ (by omega), h.w], by rw [e _ (by omega), h.a], by rw [e _ (by omega), h.m]⟩
theorem HS.setH (h : HS s H n w a m) (k v : Int) : HS (s.acc k 12 v) v n w a m := by simpa using h.set (i := 12) (by omega) (by omega) k v
theorem HS.setW (h : HS s H n w a m) (k v : Int) : HS (s.acc k 87 v) H n v a m := by simpa using h.set (i := 87) (by omega) (by omega) k v
theorem HS.setA (h : HS s H n w a m) (k v : Int) : HS (s.acc k 90 v) H n w v m := by simpa using h.set (i := 90) (by omega) (by omega) k v
theorem HS.setM (h : HS s H n w a m) (k v : Int) : HS (s.acc k 91 v) H n w a v := by simpa using h.set (i := 91) (by omega) (by omega) k v
theorem HS.setN (h : HS s H n w a m) (k v : Int) : HS (s.acc k 89 v) H v w a m := by simpa using h.set (i := 89) (by omega) (by omega) k v
theorem at87 : pgAt 3 1 9 1 = 87 := by decide
theorem at90 : pgAt 3 1 12 1 = 90 := by decide
theorem at91 : pgAt 3 1 13 1 = 91 := by decide
theorem at89 : nxAt 3 1 1 = 89 := by decide
abbrev H1 : Int := 4294967298
abbrev H2 : Int := 8589934592
theorem pgH1 : Tag.pg H1 = 1 := by decide
theorem pgH2 : Tag.pg H2 = -1 := by decide
theorem nxH1 : Tag.nx H1 (0 - 1) = H2 := by decide
/-- Behind a stack that is empty. -/
theorem ends_empty {g : Int} (h : HS s H2 n w a m) : ∃ sE, Ends (claimA 3 1 12 g) (.pop .load) s (-1) sE 1 ∧ HS sE H2 n w a m := by
  refine ⟨_, Ends.stop ?_ (by omega), h.load (i := 12) (by omega) (by omega) 1⟩
  show (match (popA 3 1 12).nx .load (s.word 12) with | .inl k1 => Sum.inl (ClmSt.pop k1) | .inr p => if p = -2 then .inr (-2) else if p < 0 then .inr (-1) else if 3 ≤ p then .inr (-2) else .inl (.hv p .look)) = _
  rw [h.h]
  have e : (popA 3 1 12).nx .load H2 = .inr (-1) := pop_no (by rw [pgH2]; omega)
  rw [e]
  rfl
theorem sweep_ends {g : Int} (h : HS s H n w a m) : ∃ sE, Ends (claimA 3 1 12 g) (.hv 1 (.sw .mark)) s 1 sE 4 ∧ HS sE H n w (andU a m) 0 := by
  have q1 : HS ((Ac.load 91).act s) H n w a m := h.load (i := 91) (by omega) (by omega) 1
  have q2 : HS ((Ac.load 90).act ((Ac.load 91).act s)) H n w a m := q1.load (i := 90) (by omega) (by omega) 1
  have q3 := q2.setA 2 (andU a m)
  have q4 := q3.setM 2 0
  have a1 : (claimA 3 1 12 g).ac (.hv 1 (.sw .mark)) = .load 91 := by show Ac.load (pgAt 3 1 13 1) = _; rw [at91]
  have a2 : ∀ b, (claimA 3 1 12 g).ac (.hv 1 (.sw (.alloc b))) = .load 90 := fun b => by show Ac.load (pgAt 3 1 12 1) = _; rw [at90]
  have a3 : ∀ b a, (claimA 3 1 12 g).ac (.hv 1 (.sw (.put b a))) = .put 90 (andU a b) := fun b a => by show Ac.put (pgAt 3 1 12 1) _ = _; rw [at90]
  have a4 : ∀ b a, (claimA 3 1 12 g).ac (.hv 1 (.sw (.zero b a))) = .put 91 0 := fun b a => by show Ac.put (pgAt 3 1 13 1) _ = _; rw [at91]
  refine ⟨_, ?_, q4⟩
  refine Ends.next (k1 := .hv 1 (.sw (.alloc m))) (by rw [a1]; show _ = _; rw [show s.word (Ac.load 91).pos = m from h.m]; rfl) ?_
  rw [a1]
  refine Ends.next (k1 := .hv 1 (.sw (.put m a))) (by rw [a2]; rw [show ((Ac.load 91).act s).word (Ac.load 90).pos = a from q1.a]; rfl) ?_
  rw [a2]
  refine Ends.next (k1 := .hv 1 (.sw (.zero m a))) rfl ?_
  rw [a3]
  have e := Ends.stop (A := claimA 3 1 12 g) (k := .hv 1 (.sw (.zero m a))) (s := (Ac.put 90 (andU a m)).act ((Ac.load 90).act ((Ac.load 91).act s))) (r := 1) rfl (by omega)
  rw [a4] at e
  exact e
/-- What comes of a claim of that page, by the state that it is in. -/
theorem handed_ends {g : Int} (h : HS s H1 0 w a m) : ∃ r sE k, Ends (claimA 3 1 12 g) (.pop .load) s r sE k ∧ k ≤ 9 ∧
    ((Ph.waits w g = true ∧ r = 1 ∧ HS sE H2 0 (Ph.mk g 2) (andU a m) 0) ∨ (Ph.waits w g = false ∧ w = Ph.mk g 4 ∧ r = -1 ∧ HS sE H2 0 (Ph.mk g 6) a m) ∨
     (Ph.waits w g = false ∧ w ≠ Ph.mk g 4 ∧ w = Ph.mk g 5 ∧ r = 1 ∧ HS sE H2 0 (Ph.mk g 2) a m) ∨ (Ph.waits w g = false ∧ w ≠ Ph.mk g 4 ∧ w ≠ Ph.mk g 5 ∧ r = -1 ∧ HS sE H2 0 w a m)) := by
  have q1 : HS ((Ac.load 12).act s) H1 0 w a m := h.load (i := 12) (by omega) (by omega) 1
  have q2 : HS ((Ac.load 89).act ((Ac.load 12).act s)) H1 0 w a m := q1.load (i := 89) (by omega) (by omega) 1
  have e3 : (Ac.cas 12 H1 H2).act ((Ac.load 89).act ((Ac.load 12).act s)) = ((Ac.load 89).act ((Ac.load 12).act s)).acc 3 12 H2 := act_win q2.h
  have q3 := q2.setH 3 H2
  rw [← e3] at q3
  obtain ⟨s3, hs3⟩ : ∃ s3, (Ac.cas 12 H1 H2).act ((Ac.load 89).act ((Ac.load 12).act s)) = s3 := ⟨_, rfl⟩
  rw [hs3] at q3
  have a2 : (claimA 3 1 12 g).ac (.pop (.next H1)) = .load 89 := by show Ac.load (nxAt 3 1 (Tag.pg H1)) = _; rw [pgH1, at89]
  have a3 : (claimA 3 1 12 g).ac (.pop (.cas H1 0)) = .cas 12 H1 H2 := by show Ac.cas 12 H1 (Tag.nx H1 (0 - 1)) = _; rw [nxH1]
  have first : ∀ {r : Int} {sE : StoreS} {k : Nat}, Ends (claimA 3 1 12 g) (.hv 1 .look) s3 r sE k → Ends (claimA 3 1 12 g) (.pop .load) s r sE (k + 1 + 1 + 1) := fun hE => by
    refine Ends.next (k1 := .pop (.next H1)) ?_ (Ends.next (k1 := .pop (.cas H1 0)) ?_ (Ends.next (k1 := .hv 1 .look) ?_ ?_))
    · show (claimA 3 1 12 g).nx (.pop .load) (s.word 12) = _
      rw [h.h]
      have e : (popA 3 1 12).nx .load H1 = .inl (.next H1) := pop_on (by rw [pgH1]; omega) (by rw [pgH1]; omega)
      simp only [claimA, e]
    · rw [a2]
      show (claimA 3 1 12 g).nx (.pop (.next H1)) (((Ac.load 12).act s).word 89) = _
      rw [q1.n]
      rfl
    · rw [a2, a3]
      show (claimA 3 1 12 g).nx (.pop (.cas H1 0)) (((Ac.load 89).act ((Ac.load 12).act s)).word 12) = _
      rw [q2.h]
      have e : (popA 3 1 12).nx (.cas H1 0) H1 = .inr 1 := by rw [pop_win, pgH1]
      simp only [claimA, e]
      rfl
    · rw [a2, a3]
      show Ends _ _ ((Ac.cas 12 H1 H2).act ((Ac.load 89).act ((Ac.load 12).act s))) _ _ _
      rw [hs3]
      exact hE
  have q4 : HS ((Ac.load 87).act s3) H2 0 w a m := q3.load (i := 87) (by omega) (by omega) 1
  have b1 : (claimA 3 1 12 g).ac (.hv 1 .look) = .load 87 := by show Ac.load (pgAt 3 1 9 1) = _; rw [at87]
  have b2 : ∀ v, (claimA 3 1 12 g).ac (.hv 1 (.held v)) = .cas 87 v (Ph.mk g 2) := fun v => by show Ac.cas (pgAt 3 1 9 1) _ _ = _; rw [at87]
  have b3 : ∀ v, (claimA 3 1 12 g).ac (.hv 1 (.hand v)) = .cas 87 v (Ph.mk g 6) := fun v => by show Ac.cas (pgAt 3 1 9 1) _ _ = _; rw [at87]
  have b4 : (claimA 3 1 12 g).ac (.hv 1 .put) = .put 87 (Ph.mk g 2) := by show Ac.put (pgAt 3 1 9 1) _ = _; rw [at87]
  have look : ∀ {r : Int} {sE : StoreS} {k : Nat} {k1 : ClmSt}, (claimA 3 1 12 g).nx (.hv 1 .look) w = .inl k1 → Ends (claimA 3 1 12 g) k1 ((Ac.load 87).act s3) r sE k → Ends (claimA 3 1 12 g) (.hv 1 .look) s3 r sE (k + 1) := fun {r sE k k1} hn hE => by
    refine Ends.next (k1 := k1) ?_ ?_
    · rw [b1]; show (claimA 3 1 12 g).nx (.hv 1 .look) (s3.word 87) = _; rw [q3.w]; exact hn
    · rw [b1]; exact hE
  by_cases c1 : Ph.waits w g = true
  · have e5 : (Ac.cas 87 w (Ph.mk g 2)).act ((Ac.load 87).act s3) = ((Ac.load 87).act s3).acc 3 87 (Ph.mk g 2) := act_win q4.w
    have q5 := q4.setW 3 (Ph.mk g 2)
    rw [← e5] at q5
    obtain ⟨sE, hE, hS⟩ := sweep_ends (g := g) q5
    refine ⟨1, sE, 4 + 1 + 1 + 1 + 1 + 1, first (look (k1 := .hv 1 (.held w)) (by simp only [claimA, haveA]; rw [if_pos c1]) (Ends.next (k1 := .hv 1 (.sw .mark)) ?_ ?_)), by omega, .inl ⟨c1, rfl, hS⟩⟩
    · rw [b2]; show (claimA 3 1 12 g).nx (.hv 1 (.held w)) (((Ac.load 87).act s3).word 87) = _; rw [q4.w]; simp only [claimA, haveA]; rfl
    · rw [b2]; exact hE
  · have c1' : Ph.waits w g = false := by simpa using c1
    by_cases c2 : w = Ph.mk g 4
    · have e5 : (Ac.cas 87 w (Ph.mk g 6)).act ((Ac.load 87).act s3) = ((Ac.load 87).act s3).acc 3 87 (Ph.mk g 6) := act_win q4.w
      have q5 := q4.setW 3 (Ph.mk g 6)
      rw [← e5] at q5
      obtain ⟨sE, hE, hS⟩ := ends_empty (g := g) q5
      refine ⟨-1, sE, 1 + 1 + 1 + 1 + 1 + 1, first (look (k1 := .hv 1 (.hand w)) (by simp only [claimA, haveA]; rw [if_neg c1, if_pos c2]) (Ends.next (k1 := .pop .load) ?_ ?_)), by omega, .inr (.inl ⟨c1', c2, rfl, hS⟩)⟩
      · rw [b3]; show (claimA 3 1 12 g).nx (.hv 1 (.hand w)) (((Ac.load 87).act s3).word 87) = _; rw [q4.w]; simp only [claimA, haveA]; rfl
      · rw [b3]; exact hE
    · by_cases c3 : w = Ph.mk g 5
      · have q5 := q4.setW 2 (Ph.mk g 2)
        have hE := Ends.stop (A := claimA 3 1 12 g) (k := .hv 1 .put) (s := (Ac.load 87).act s3) (r := 1) (by simp only [claimA, haveA]; rfl) (by omega)
        rw [b4] at hE
        exact ⟨1, _, 1 + 1 + 1 + 1 + 1, first (look (k1 := .hv 1 .put) (by simp only [claimA, haveA]; rw [if_neg c1, if_neg c2, if_pos c3]) hE), by omega, .inr (.inr (.inl ⟨c1', c2, c3, rfl, q5⟩))⟩
      · obtain ⟨sE, hE, hS⟩ := ends_empty (g := g) q4
        exact ⟨-1, sE, 1 + 1 + 1 + 1 + 1, first (look (k1 := .pop .load) (by simp only [claimA, haveA]; rw [if_neg c1, if_neg c2, if_neg c3]; rfl) hE), by omega, .inr (.inr (.inr ⟨c1', c2, c3, rfl, hS⟩))⟩
end
end Go.Proofs.YtffhoaimcjpjhaaGreat

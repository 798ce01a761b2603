/- StackOnce: the plain law: each page is in one hand, or lies once in one stack, or is on its way. StackOnce: the plain law: each step keeps it, and there is an end. StackOnce: the plain law: the beginning, the end, what is counted. StackOnce: rest, count, a step of the program's side alone. StackOnce: what holds at each round. By an AI agent. -/
import Derived.Test.YthhnpcniijpfeaaGreatZI
import Derived.Test.YthhnpcniijpfeaaGreatZJ
import Derived.Test.YthhnpcniijpfeaaGreatZStkNew
import Derived.Test.YthhnpcniijpfeaaGreatZSameInts
import Derived.Deep.DeepCutAuto
import Derived.Test.YthhnpcniijpfeaaGreatZStkPick
namespace Go.Proofs.YthhnpcniijpfeaaGreat
open Go.RowKit
set_option linter.unusedSimpArgs false
set_option linter.unusedVariables false
def hdOf (h : Nat) : Int := 8 + 7 * (h : Int)
theorem hd3_of {hd : Int} (h : Hd3 hd) : ∃ j, j < 3 ∧ hd = hdOf j := by
  rcases h with rfl | rfl | rfl
  · exact ⟨0, by omega, rfl⟩
  · exact ⟨1, by omega, rfl⟩
  · exact ⟨2, by omega, rfl⟩
theorem hdOf_3 {j : Nat} (h : j < 3) : Hd3 (hdOf j) := by
  unfold Hd3 hdOf; omega
theorem hdOf_inj {i j : Nat} (h : hdOf i = hdOf j) : i = j := by unfold hdOf at h; omega
/-- A way down a stack. -/
def Down (P T : Int) (s : StoreS) : Int → List Int → Prop
  | p, [] => p = -1
  | p, q :: l => p = q ∧ (0 ≤ q ∧ q < P) ∧ Down P T s (s.word (nxAt P T q) - 1) l
theorem Down.same {P T : Int} {s s' : StoreS} : ∀ {l : List Int} {p : Int}, Down P T s p l → (∀ q ∈ l, s'.word (nxAt P T q) = s.word (nxAt P T q)) → Down P T s' p l
  | [], _, h, _ => h
  | q :: l, p, h, e => ⟨h.1, h.2.1, by
      rw [e q (List.mem_cons_self ..)]
      exact Down.same h.2.2 (fun x hx => e x (List.mem_cons_of_mem _ hx))⟩
theorem Down.mem {P T : Int} {s : StoreS} : ∀ {l : List Int} {p : Int}, Down P T s p l → ∀ q ∈ l, 0 ≤ q ∧ q < P
  | [], _, _, q, h => by cases h
  | x :: l, p, h, q, hq => by
    rcases List.mem_cons.1 hq with rfl | hq
    · exact h.2.1
    · exact Down.mem h.2.2 q hq
/-- The page that a push has. -/
def ownP (p : Int) : Option SkS → Nat
  | some (.push _ q (.inl _)) => if q = p then 1 else 0
  | _ => 0
def tot (n : Nat) (C Hl : Nat → List Int) (Q : Nat → Option SkS) (p : Int) : Nat := sumN (fun j => (C j).count p) 3 + sumN (fun t => (Hl t).count p) n + sumN (fun t => ownP p (Q t)) n
/-- A head that was seen. -/
def Seen (s : StoreS) (tn : Nat → Nat) (hd v : Int) : Prop := ∀ j, j < 3 → hd = hdOf j → Tag.tg v ≤ (tn j : Int) ∧ (Tag.tg v = (tn j : Int) → v = s.word hd)
def LaneOk (P T : Int) (s : StoreS) (tn : Nat → Nat) : SkS → Prop
  | .pop hd (.inl (.next v)) => Seen s tn hd v
  | .pop hd (.inl (.cas v x)) => Seen s tn hd v ∧ (v = s.word hd → x = s.word (nxAt P T (Tag.pg v)))
  | .push hd _ (.inl (.put v)) => Seen s tn hd v
  | .push hd pg (.inl (.cas v)) => Seen s tn hd v ∧ s.word (nxAt P T pg) = Tag.pg v + 1
  | _ => True
structure SO (P T : Int) (n : Nat) (s : StoreS) (Q : Nat → Option SkS) (Hl : Nat → List Int) (tn : Nat → Nat) (C : Nat → List Int) : Prop where
  stk : StkOk P T s
  len : s.ws.length = (Lay.words P T).toNat
  word : ∀ j, j < 3 → s.word (hdOf j) = (tn j : Int) * 4294967296 + (Tag.pg (s.word (hdOf j)) + 1)
  down : ∀ j, j < 3 → Down P T s (Tag.pg (s.word (hdOf j))) (C j)
  one : ∀ p, 0 ≤ p → p < P → tot n C Hl Q p = 1
  lane : ∀ t k, Q t = some k → t < n ∧ SkOk P k ∧ k.over = false ∧ LaneOk P T s tn k
  hands : ∀ t, ∀ x ∈ Hl t, 0 ≤ x ∧ x < P
section
variable {P T : Int} {n t : Nat} {s s' : StoreS} {Q : Nat → Option SkS} {Hl : Nat → List Int} {tn : Nat → Nat} {C : Nat → List Int} {k k' : SkS}
theorem Seen.same {hd v : Int} (h : Seen s tn hd v) (e : s'.word hd = s.word hd) : Seen s' tn hd v := fun j hj he => by rw [e]; exact h j hj he
theorem hd_ne_nx (hm : Lay.may P T = true) {p hd : Int} (h : Hd3 hd) (p0 : 0 ≤ p) (p1 : p < P) : nxAt P T p ≠ hd ∧ 0 ≤ nxAt P T p := by
  have e := nxAt_eq hm p0 p1
  have hmm := Lay.may_iff.1 hm
  have := h.bd
  constructor
  · rcases h with rfl | rfl | rfl <;> omega
  · omega
theorem LaneOk.same (h : LaneOk P T s tn k) (hk : SkOk P k) (hm : Lay.may P T = true) (e : ∀ i, 0 ≤ i → s'.word i = s.word i) : LaneOk P T s' tn k := by
  rcases k with ⟨hd, k | p⟩ | ⟨hd, pg, k | p⟩
  · cases k with
    | load => trivial
    | next v => exact Seen.same h (e _ (by have := Hd3.bd hk.1; omega))
    | cas v x =>
      have h0 := (hd_ne_nx hm hk.1 hk.2.1.1 hk.2.1.2).2
      exact ⟨Seen.same h.1 (e _ (by have := Hd3.bd hk.1; omega)), fun e2 => by rw [e _ (by have := Hd3.bd hk.1; omega)] at e2; rw [e _ h0]; exact h.2 e2⟩
  · trivial
  · cases k with
    | load => trivial
    | put v => exact Seen.same h (e _ (by have := Hd3.bd hk.1; omega))
    | cas v =>
      have h0 := (hd_ne_nx hm hk.1 hk.2.1 hk.2.2).2
      exact ⟨Seen.same h.1 (e _ (by have := Hd3.bd hk.1; omega)), by rw [e _ h0]; exact h.2⟩
  · trivial
theorem tot_Q {o : Option SkS} {p : Int} (ht : t < n) (hq : Q t = some k) : tot n C Hl (upd Q t o) p + ownP p (some k) = tot n C Hl Q p + ownP p o := by
  have := sumN_upd (ownP p) Q (t := t) o ht
  rw [hq] at this
  unfold tot; omega
theorem tot_Q0 {o : Option SkS} {p : Int} (ht : t < n) (hq : Q t = none) : tot n C Hl (upd Q t o) p = tot n C Hl Q p + ownP p o := by
  have := sumN_upd (ownP p) Q (t := t) o ht
  rw [hq] at this
  have e : ownP p none = 0 := rfl
  unfold tot; omega
theorem tot_H {l : List Int} {p : Int} (ht : t < n) : tot n C (upd Hl t l) Q p + (Hl t).count p = tot n C Hl Q p + l.count p := by
  have := sumN_upd (fun l : List Int => l.count p) Hl (t := t) l ht
  unfold tot; omega
theorem tot_C {l : List Int} {p : Int} {j : Nat} (hj : j < 3) : tot n (upd C j l) Hl Q p + (C j).count p = tot n C Hl Q p + l.count p := by
  have := sumN_upd (fun l : List Int => l.count p) C (t := j) l hj
  unfold tot; omega
theorem sumN_at {f : Nat → Nat} : ∀ {n t : Nat}, t < n → f t ≤ sumN f n
  | 0, t, h => by omega
  | n + 1, t, h => by
    simp only [sumN]
    by_cases e : t = n
    · subst e; omega
    · have := sumN_at (f := f) (n := n) (t := t) (by omega); omega
/-- Who has a page alone. -/
theorem SO.excl (h : SO P T n s Q Hl tn C) {hd pg : Int} {c : PushSt} (hq : Q t = some (.push hd pg (.inl c))) (p0 : 0 ≤ pg) (p1 : pg < P) : (∀ j, j < 3 → ∀ q ∈ C j, q ≠ pg) ∧ ∀ t' hd' c', t' ≠ t → Q t' ≠ some (.push hd' pg (.inl c')) := by
  have h1 := h.one pg p0 p1
  have ht := (h.lane t _ hq).1
  have h2 := tot_Q (o := none) (p := pg) (C := C) (Hl := Hl) ht hq
  have e1 : ownP pg (some (.push hd pg (.inl c))) = 1 := by simp [ownP]
  have e2 : ownP pg none = 0 := rfl
  have h0 : tot n C Hl (upd Q t none) pg = 0 := by omega
  refine ⟨fun j hj q hqm e => ?_, fun t' hd' c' hne e => ?_⟩
  · subst e
    have h3 := sumN_at (f := fun j => (C j).count q) hj
    have h4 := List.count_pos_iff.2 hqm
    unfold tot at h0; omega
  · have ht' := (h.lane t' _ e).1
    have h3 := sumN_at (f := fun j => ownP pg (upd Q t none j)) ht'
    have h4 : ownP pg (upd Q t none t') = 1 := by rw [upd_ne _ hne, e]; simp [ownP]
    unfold tot at h0; omega
/-- No word is turned. -/
theorem SO.same (h : SO P T n s Q Hl tn C) (hm : Lay.may P T = true) (hq : Q t = some k) (hl : s'.ws.length = s.ws.length) (e : ∀ i, 0 ≤ i → s'.word i = s.word i) {o : Option SkS} (ho : ∀ p, ownP p o = ownP p (some k)) (hk : ∀ k', o = some k' → SkOk P k' ∧ k'.over = false ∧ LaneOk P T s tn k') (hs : StkOk P T s') : SO P T n s' (upd Q t o) Hl tn C := by
  have ht := (h.lane t _ hq).1
  have ehd : ∀ j, j < 3 → s'.word (hdOf j) = s.word (hdOf j) := fun j hj => e _ (by have := (hdOf_3 hj).bd; omega)
  refine ⟨hs, hl.trans h.len, fun j hj => by rw [ehd j hj]; exact h.word j hj, fun j hj => ?_, fun p p0 p1 => ?_, fun t' k' e' => ?_, h.hands⟩
  · rw [ehd j hj]
    have hd := h.down j hj
    exact hd.same (fun q hq => e _ (hd_ne_nx hm (hdOf_3 hj) (hd.mem q hq).1 (hd.mem q hq).2).2)
  · have := tot_Q (o := o) (p := p) (C := C) (Hl := Hl) ht hq
    rw [ho p] at this
    have := h.one p p0 p1; omega
  · rcases upd_or e' with ⟨rfl, e2⟩ | ⟨_, e2⟩
    · obtain ⟨a, b, c⟩ := hk k' e2
      exact ⟨ht, a, b, c.same a hm e⟩
    · obtain ⟨a, b, c, d⟩ := h.lane t' k' e2
      exact ⟨a, b, c, d.same b hm e⟩
theorem SO.tag (h : SO P T n s Q Hl tn C) {j : Nat} (hj : j < 3) : Tag.tg (s.word (hdOf j)) = tn j := by
  have h1 := h.word j hj
  have h2 := tagPg_bd (s.word (hdOf j))
  unfold Tag.tg; omega
theorem SO.seen (h : SO P T n s Q Hl tn C) {hd : Int} : Seen s tn hd (s.word hd) := fun j hj e => by
  subst e
  exact ⟨by rw [h.tag hj]; exact Int.le_refl _, fun _ => rfl⟩
theorem mk_next {x p : Int} (tj : Nat) (ht : Tag.tg x = tj) (hb : (tj : Int) + 1 < 4294967296) (hp : -1 ≤ p ∧ p < 4096) : Tag.nx x p = ((tj + 1 : Nat) : Int) * 4294967296 + (p + 1) ∧ Tag.pg (Tag.nx x p) = p := by
  refine ⟨?_, tagPg_nx hp⟩
  unfold Tag.nx Tag.mk Tag.okB
  rw [if_pos (by simpa using hp), ht]
  omega
/-- A head is turned. -/
theorem SO.head (h : SO P T n s Q Hl tn C) (hm : Lay.may P T = true) {j : Nat} (hj : j < 3) (hb : (tn j : Int) + 1 < 4294967296) {p : Int} (hp : -1 ≤ p ∧ p < P) {a : Int} (hs : StkOk P T (s.acc a (hdOf j) (Tag.nx (s.word (hdOf j)) p)))
    {l : List Int} (hl : Down P T s p l) {Hl' : Nat → List Int} (hH : ∀ t, ∀ x ∈ Hl' t, 0 ≤ x ∧ x < P) (h1 : ∀ p, 0 ≤ p → p < P → tot n (upd C j l) Hl' (upd Q t none) p = 1) :
    SO P T n (s.acc a (hdOf j) (Tag.nx (s.word (hdOf j)) p)) (upd Q t none) Hl' (upd tn j (tn j + 1)) (upd C j l) := by
  have hmm := Lay.may_iff.1 hm
  have hw := (nxAt_eq (p := 0) hm (Int.le_refl 0) (by omega)).2
  have hi : s.inR (hdOf j) := ⟨by have := (hdOf_3 hj).bd; omega, by rw [h.len]; have := (hdOf_3 hj).bd; omega⟩
  obtain ⟨n1, n2⟩ := mk_next (x := s.word (hdOf j)) (p := p) (tn j) (h.tag hj) hb (by omega)
  obtain ⟨v, hv⟩ : ∃ v, Tag.nx (s.word (hdOf j)) p = v := ⟨_, rfl⟩
  rw [hv] at n1 n2 hs ⊢
  have wj : (s.acc a (hdOf j) v).word (hdOf j) = v := StoreS.acc_word hi _ _
  have wo : ∀ i, 0 ≤ i → i ≠ hdOf j → (s.acc a (hdOf j) v).word i = s.word i := fun i h0 hne => StoreS.acc_word_other hi.1 h0 hne _ _
  have ws : ∀ i, i < 3 → i ≠ j → (s.acc a (hdOf j) v).word (hdOf i) = s.word (hdOf i) := fun i h3 hne => wo _ (by have := (hdOf_3 h3).bd; omega) (fun e => hne (hdOf_inj e))
  have wn : ∀ q, 0 ≤ q → q < P → (s.acc a (hdOf j) v).word (nxAt P T q) = s.word (nxAt P T q) := fun q q0 q1 => by
    obtain ⟨b1, b2⟩ := hd_ne_nx hm (hdOf_3 hj) q0 q1
    exact wo _ b2 b1
  have hseen : ∀ {hd x : Int}, Seen s tn hd x → Seen (s.acc a (hdOf j) v) (upd tn j (tn j + 1)) hd x := fun {hd x} hx i hi' he => by
    by_cases e : i = j
    · subst e
      have := (hx i hi' he).1
      rw [upd_at]; exact ⟨by omega, fun e2 => by omega⟩
    · subst he
      rw [upd_ne _ e, ws i hi' e]; exact hx i hi' rfl
  have hnew : ∀ {hd x : Int}, Hd3 hd → Seen s tn hd x → x = (s.acc a (hdOf j) v).word hd → x = s.word hd := fun {hd x} h3 hx e => by
    obtain ⟨i, hi', rfl⟩ := hd3_of h3
    by_cases e2 : i = j
    · subst e2
      rw [wj] at e
      have h4 := (hx i hi' rfl).1
      rw [e, n1] at h4
      unfold Tag.tg at h4; omega
    · rw [ws i hi' e2] at e; exact e
  refine ⟨hs, by simpa [StoreS.acc] using h.len, fun i hi' => ?_, fun i hi' => ?_, h1, fun t' k' e' => ?_, hH⟩
  · by_cases e : i = j
    · subst e
      rw [wj, upd_at, n2]; exact n1
    · rw [ws i hi' e, upd_ne _ e]; exact h.word i hi'
  · by_cases e : i = j
    · subst e
      rw [wj, upd_at, n2]
      exact hl.same (fun q hq => wn q (hl.mem q hq).1 (hl.mem q hq).2)
    · rw [ws i hi' e, upd_ne _ e]
      have hd := h.down i hi'
      exact hd.same (fun q hq => wn q (hd.mem q hq).1 (hd.mem q hq).2)
  · rcases upd_or e' with ⟨_, e2⟩ | ⟨hne, e2⟩
    · cases e2
    obtain ⟨a1, a2, a3, a4⟩ := h.lane t' k' e2
    refine ⟨a1, a2, a3, ?_⟩
    rcases k' with ⟨hd, c | r⟩ | ⟨hd, pg, c | r⟩
    · cases c with
      | load => trivial
      | next x => exact hseen a4
      | cas x y =>
        refine ⟨hseen a4.1, fun e => ?_⟩
        rw [wn _ a2.2.1.1 a2.2.1.2]
        exact a4.2 (hnew a2.1 a4.1 e)
    · trivial
    · cases c with
      | load => trivial
      | put x => exact hseen a4
      | cas x => exact ⟨hseen a4.1, by rw [wn _ a2.2.1 a2.2.2]; exact a4.2⟩
    · trivial
/-- A push lays its page's word. -/
theorem SO.put (h : SO P T n s Q Hl tn C) (hm : Lay.may P T = true) {hd pg v : Int} (hq : Q t = some (.push hd pg (.inl (.put v)))) {a : Int} (hs : StkOk P T (s.acc a (nxAt P T pg) (Tag.pg v + 1))) :
    SO P T n (s.acc a (nxAt P T pg) (Tag.pg v + 1)) (upd Q t (some (.push hd pg (.inl (.cas v))))) Hl tn C := by
  obtain ⟨ht, hk, -, hl⟩ := h.lane t _ hq
  have p0 := hk.2.1.1; have p1 := hk.2.1.2
  obtain ⟨x1, x2⟩ := h.excl hq p0 p1
  have hn := nxAt_eq hm p0 p1
  have hmm := Lay.may_iff.1 hm
  have hi : s.inR (nxAt P T pg) := ⟨by omega, by rw [h.len]; omega⟩
  have wj : (s.acc a (nxAt P T pg) (Tag.pg v + 1)).word (nxAt P T pg) = Tag.pg v + 1 := StoreS.acc_word hi _ _
  have wo : ∀ i, 0 ≤ i → i ≠ nxAt P T pg → (s.acc a (nxAt P T pg) (Tag.pg v + 1)).word i = s.word i := fun i h0 hne => StoreS.acc_word_other hi.1 h0 hne _ _
  have wh : ∀ {d : Int}, Hd3 d → (s.acc a (nxAt P T pg) (Tag.pg v + 1)).word d = s.word d := fun {d} h3 => wo _ (by have := h3.bd; omega) (fun e => (hd_ne_nx hm h3 p0 p1).1 e.symm)
  have wn : ∀ q, 0 ≤ q → q < P → q ≠ pg → (s.acc a (nxAt P T pg) (Tag.pg v + 1)).word (nxAt P T q) = s.word (nxAt P T q) := fun q q0 q1 hne => by
    have := nxAt_eq hm q0 q1
    exact wo _ (by omega) (by omega)
  refine ⟨hs, by simpa [StoreS.acc] using h.len, fun j hj => by rw [wh (hdOf_3 hj)]; exact h.word j hj, fun j hj => ?_, fun p q0 q1 => ?_, fun t' k' e' => ?_, h.hands⟩
  · rw [wh (hdOf_3 hj)]
    have hd := h.down j hj
    exact hd.same (fun q hq => wn q (hd.mem q hq).1 (hd.mem q hq).2 (x1 j hj q hq))
  · have := tot_Q (o := some (.push hd pg (.inl (.cas v)))) (p := p) (C := C) (Hl := Hl) ht hq
    have e : ownP p (some (.push hd pg (.inl (.cas v)))) = ownP p (some (.push hd pg (.inl (.put v)))) := rfl
    have := h.one p q0 q1; omega
  · rcases upd_or e' with ⟨rfl, e2⟩ | ⟨hne, e2⟩
    · injection e2 with e2; subst e2
      exact ⟨ht, ⟨hk.1, hk.2.1⟩, rfl, Seen.same hl (wh hk.1), wj⟩
    · obtain ⟨a1, a2, a3, a4⟩ := h.lane t' k' e2
      refine ⟨a1, a2, a3, ?_⟩
      rcases k' with ⟨d, c | r⟩ | ⟨d, q, c | r⟩
      · cases c with
        | load => trivial
        | next x => exact Seen.same a4 (wh a2.1)
        | cas x y =>
          refine ⟨Seen.same a4.1 (wh a2.1), fun e => ?_⟩
          rw [wh a2.1] at e
          have e3 := a4.2 e
          obtain ⟨j, hj, rfl⟩ := hd3_of a2.1
          have hd := h.down j hj
          rw [← e] at hd
          rw [wn _ a2.2.1.1 a2.2.1.2]
          · exact e3
          · cases hc : C j with
            | nil => rw [hc] at hd; have : Tag.pg x = -1 := hd; have := a2.2.1.1; omega
            | cons q l =>
              rw [hc] at hd
              rw [hd.1]
              exact x1 j hj q (by rw [hc]; exact List.mem_cons_self ..)
      · trivial
      · cases c with
        | load => trivial
        | put x => exact Seen.same a4 (wh a2.1)
        | cas x =>
          refine ⟨Seen.same a4.1 (wh a2.1), ?_⟩
          rw [wn _ a2.2.1 a2.2.2]
          · exact a4.2
          · intro e; subst e; exact x2 t' d _ hne e2
      · trivial
end
def nxo (r : SkS) : Option SkS := if r.over = true then none else some r
def handU (Hl : Nat → List Int) (t : Nat) (g : Int) : Nat → List Int := if 0 ≤ g then upd Hl t (Hl t ++ [g]) else Hl
def tnS (tn : Nat → Nat) (s1 : StoreS) (j : Nat) : Nat := if s1.k = 3 ∧ s1.pos = hdOf j then tn j + 1 else tn j
def stl (s : StoreS) (hd v : Int) : Nat := if v = s.word hd then 0 else 3
def wt (s : StoreS) : Option SkS → Nat
  | some (.pop _ (.inl .load)) => 23
  | some (.pop hd (.inl (.next v))) => 22 + stl s hd v
  | some (.pop hd (.inl (.cas v _))) => 21 + stl s hd v
  | some (.push _ _ (.inl .load)) => 23
  | some (.push hd _ (.inl (.put v))) => 22 + stl s hd v
  | some (.push hd _ (.inl (.cas v))) => 21 + stl s hd v
  | _ => 0
def pot (s : StoreS) (n : Nat) (Q : Nat → Option SkS) : Nat := sumN (fun t => wt s (Q t)) n
theorem stl_le (s : StoreS) (hd v : Int) : stl s hd v ≤ 3 := by unfold stl; split <;> omega
theorem wt_le (s : StoreS) (o : Option SkS) : wt s o ≤ 25 := by
  unfold wt
  split <;> first | omega | (rename_i hd v; have := stl_le s hd v; omega) | (rename_i hd v x; have := stl_le s hd v; omega) | (rename_i hd x v; have := stl_le s hd v; omega)
theorem wt_any (s s' : StoreS) (o : Option SkS) : wt s' o ≤ wt s o + 3 := by
  have key : ∀ hd v, stl s' hd v ≤ stl s hd v + 3 := fun hd v => by have := stl_le s' hd v; omega
  rcases o with _ | k
  · simp [wt]
  · rcases k with ⟨hd, k | p⟩ | ⟨hd, pg, k | p⟩
    · cases k with
      | load => simp [wt]
      | next v => have := key hd v; simp only [wt]; omega
      | cas v x => have := key hd v; simp only [wt]; omega
    · simp [wt]
    · cases k with
      | load => simp [wt]
      | put v => have := key hd v; simp only [wt]; omega
      | cas v => have := key hd v; simp only [wt]; omega
    · simp [wt]
theorem wt_same {P : Int} {s s' : StoreS} {k : SkS} (hk : SkOk P k) (e : ∀ hd, Hd3 hd → s'.word hd = s.word hd) : wt s' (some k) = wt s (some k) := by
  have key : ∀ hd v, Hd3 hd → stl s' hd v = stl s hd v := fun hd v h => by unfold stl; rw [e hd h]
  rcases k with ⟨hd, k | p⟩ | ⟨hd, pg, k | p⟩
  · cases k with
    | load => rfl
    | next v => simp only [wt]; rw [key hd v hk.1]
    | cas v x => simp only [wt]; rw [key hd v hk.1]
  · rfl
  · cases k with
    | load => rfl
    | put v => simp only [wt]; rw [key hd v hk.1]
    | cas v => simp only [wt]; rw [key hd v hk.1]
  · rfl
theorem pot_max (s : StoreS) {n : Nat} (hn : n ≤ 6) (Q : Nat → Option SkS) : pot s n Q ≤ 150 := by
  have := sumN_max (f := fun t => wt s (Q t)) (c := 25) (n := n) (fun t _ => wt_le s (Q t))
  unfold pot; omega
section
variable {P T : Int} {n t : Nat} {s s' : StoreS} {Q : Nat → Option SkS} {Hl : Nat → List Int} {tn : Nat → Nat} {C : Nat → List Int} {k k' : SkS}
theorem pot_quiet (h : SO P T n s Q Hl tn C) (e : ∀ hd, Hd3 hd → s'.word hd = s.word hd) (hq : Q t = some k) {o : Option SkS} (hw : wt s' o + 1 ≤ wt s (some k)) : pot s' n (upd Q t o) + 1 ≤ pot s n Q := by
  have ht := (h.lane t _ hq).1
  have h1 := sumN_upd (wt s') Q (t := t) o ht
  have h2 : sumN (fun j => wt s' (Q j)) n = sumN (fun j => wt s (Q j)) n := sumN_congr (fun j hj => by
    cases hj2 : Q j with
    | none => rfl
    | some k2 => exact wt_same (h.lane j k2 hj2).2.1 e)
  have h3 : wt s' (Q t) = wt s (some k) := by rw [hq]; exact wt_same (h.lane t k hq).2.1 e
  rw [h2, h3] at h1
  unfold pot; omega
theorem pot_turn (h : SO P T n s Q Hl tn C) (hn : n ≤ 6) (hq : Q t = some k) (hw : 21 ≤ wt s (some k)) : pot s' n (upd Q t none) + 1 ≤ pot s n Q := by
  have ht := (h.lane t _ hq).1
  have h1 := sumN_but (f := fun j => wt s' (upd Q t none j)) (g := fun j => wt s (Q j)) (c := 3) ht (fun j _ hne => by
    rw [upd_ne _ hne]; exact wt_any s s' (Q j))
  have e1 : wt s' (upd Q t none t) = 0 := by rw [upd_at]; rfl
  rw [e1, hq] at h1
  unfold pot; omega
/-- What a step leaves. -/
def StG (P T : Int) (n : Nat) (s : StoreS) (Q : Nat → Option SkS) (Hl : Nat → List Int) (tn : Nat → Nat) (t : Nat) (s1 : StoreS) (r : SkS) : Prop :=
  ∃ C', SO P T n s1 (upd Q t (nxo r)) (handU Hl t r.got) (tnS tn s1) C' ∧ pot s1 n (upd Q t (nxo r)) + 1 ≤ pot s n Q
theorem tnS_same {a i v : Int} (ha : a ≠ 3) : tnS tn (s.acc a i v) = tn := by
  funext j
  unfold tnS
  rw [if_neg (fun e => ha e.1)]
theorem tnS_turn {v : Int} (j : Nat) : tnS tn (s.acc 3 (hdOf j) v) = upd tn j (tn j + 1) := by
  funext i
  unfold tnS
  by_cases e : i = j
  · subst e; rw [upd_at]; exact if_pos ⟨rfl, rfl⟩
  · rw [upd_ne _ e]; exact if_neg (fun e2 => e (hdOf_inj e2.2).symm)
theorem acc_same {j : Int} (hj : s.inR j) (a : Int) : ∀ i, 0 ≤ i → (s.acc a j (s.word j)).word i = s.word i := fun i hi => by
  by_cases e : i = j
  · subst e; exact StoreS.acc_word hj _ _
  · exact StoreS.acc_word_other hj.1 hi e _ _
theorem SO.inR (h : SO P T n s Q Hl tn C) (hm : Lay.may P T = true) : (∀ hd, Hd3 hd → s.inR hd) ∧ ∀ p, 0 ≤ p → p < P → s.inR (nxAt P T p) := by
  have hmm := Lay.may_iff.1 hm
  have hw := (nxAt_eq (p := 0) hm (Int.le_refl 0) (by omega)).2
  refine ⟨fun hd hh => ⟨by have := hh.bd; omega, by rw [h.len]; have := hh.bd; omega⟩, fun p p0 p1 => ?_⟩
  have e := nxAt_eq hm p0 p1
  exact ⟨by omega, by rw [h.len]; omega⟩
theorem SO.quiet (h : SO P T n s Q Hl tn C) (hm : Lay.may P T = true) (hq : Q t = some k) {a i : Int} (ha : a ≠ 3) (hi : s.inR i) (r : SkS) (hg : r.got < 0) (hs : StkOk P T (s.acc a i (s.word i)))
    (ho : ∀ p, ownP p (nxo r) = ownP p (some k)) (hk : r.over = false → SkOk P r ∧ LaneOk P T s tn r) (hw : wt (s.acc a i (s.word i)) (nxo r) + 1 ≤ wt s (some k)) : StG P T n s Q Hl tn t (s.acc a i (s.word i)) r := by
  refine ⟨C, ?_, pot_quiet h (fun hd hh => acc_same hi a hd (by have := hh.bd; omega)) hq hw⟩
  rw [tnS_same ha]
  unfold handU
  rw [if_neg (by omega)]
  refine h.same hm hq (by simp [StoreS.acc]) (acc_same hi a) ho (fun k' e => ?_) hs
  unfold nxo at e
  cases hr : r.over with
  | true => rw [hr] at e; cases e
  | false =>
    rw [hr] at e
    injection e with e; subst e
    exact ⟨(hk hr).1, hr, (hk hr).2⟩
theorem SO.step (h : SO P T n s Q Hl tn C) (hm : Lay.may P T = true) (hn : n ≤ 6) (hf : ∀ i, 0 ≤ s.word i) (hq : Q t = some k) (hsm : ∀ j, j < 3 → (tn j : Int) + 1 < 4294967296) : StG P T n s Q Hl tn t ((k.ac P T).act s) (k.nx P T (s.word (k.ac P T).pos)) := by
  obtain ⟨ht, hk, hov, hlo⟩ := h.lane t _ hq
  have hs1 := h.stk.act hk hm h.len hov
  have hk1 := sk_nx h.stk hm hf hk
  obtain ⟨i1, i2⟩ := h.inR hm
  have hmm := Lay.may_iff.1 hm
  rcases k with ⟨hd, c | r⟩ | ⟨hd, pg, c | r⟩
  · cases c with
    | load =>
      change SkOk P (.pop hd (if Tag.pg (s.word hd) < 0 then .inr (-1) else if P ≤ Tag.pg (s.word hd) then .inr (-2) else .inl (.next (s.word hd)))) at hk1
      show StG P T n s Q Hl tn t (s.acc 1 hd (s.word hd)) (.pop hd (if Tag.pg (s.word hd) < 0 then .inr (-1) else if P ≤ Tag.pg (s.word hd) then .inr (-2) else .inl (.next (s.word hd))))
      by_cases c1 : Tag.pg (s.word hd) < 0
      · rw [if_pos c1]
        exact h.quiet hm hq (by omega) (i1 hd hk) _ (by show (-1 : Int) < 0; omega) hs1 (fun _ => rfl) (fun e => by cases e) (by show (0 : Nat) + 1 ≤ 23; omega)
      · rw [if_neg c1] at hk1 ⊢
        by_cases c2 : P ≤ Tag.pg (s.word hd)
        · rw [if_pos c2] at hk1; have := hk1.1; omega
        · rw [if_neg c2] at hk1 ⊢
          refine h.quiet hm hq (by omega) (i1 hd hk) _ (by show (-1 : Int) < 0; omega) hs1 (fun _ => rfl) (fun _ => ⟨hk1, h.seen⟩) ?_
          show 22 + stl _ hd (s.word hd) + 1 ≤ 23
          unfold stl
          rw [if_pos (acc_same (i1 hd hk) 1 hd (by have := Hd3.bd hk; omega)).symm]; omega
    | next v =>
      change SkOk P (.pop hd (if P < s.word (nxAt P T (Tag.pg v)) then .inr (-2) else .inl (.cas v (s.word (nxAt P T (Tag.pg v)))))) at hk1
      show StG P T n s Q Hl tn t (s.acc 1 (nxAt P T (Tag.pg v)) (s.word (nxAt P T (Tag.pg v)))) (.pop hd (if P < s.word (nxAt P T (Tag.pg v)) then .inr (-2) else .inl (.cas v (s.word (nxAt P T (Tag.pg v))))))
      have hin := i2 _ hk.2.1 hk.2.2
      by_cases c1 : P < s.word (nxAt P T (Tag.pg v))
      · rw [if_pos c1] at hk1; have := hk1.1; omega
      · rw [if_neg c1] at hk1 ⊢
        refine h.quiet hm hq (by omega) hin _ (by show (-1 : Int) < 0; omega) hs1 (fun _ => rfl) (fun _ => ⟨hk1, hlo, fun _ => rfl⟩) ?_
        show 21 + stl _ hd v + 1 ≤ 22 + stl s hd v
        unfold stl
        rw [acc_same hin 1 hd (by have := Hd3.bd hk.1; omega)]; omega
    | cas v x =>
      change SkOk P (.pop hd (if s.word hd = v then .inr (Tag.pg v) else .inl .load)) at hk1
      have ea : (SkS.ac P T (.pop hd (.inl (.cas v x)))).act s = if s.word hd = v then s.acc 3 hd (Tag.nx v (x - 1)) else s.acc 4 hd (s.word hd) := rfl
      show StG P T n s Q Hl tn t ((SkS.ac P T (.pop hd (.inl (.cas v x)))).act s) (.pop hd (if s.word hd = v then .inr (Tag.pg v) else .inl .load))
      rw [ea] at hs1 ⊢
      by_cases c1 : s.word hd = v
      · rw [if_pos c1] at hk1 hs1 ⊢
        rw [if_pos c1]
        obtain ⟨j, hj, rfl⟩ := hd3_of hk.1
        subst c1
        have hx := hlo.2 rfl
        have hp := hk.2.1
        have hd := h.down j hj
        cases hC : C j with
        | nil => rw [hC] at hd; have : Tag.pg (s.word (hdOf j)) = -1 := hd; omega
        | cons q l =>
          rw [hC] at hd
          obtain ⟨e1, e2, e3⟩ := hd
          obtain ⟨p, hpp⟩ : ∃ p, Tag.pg (s.word (hdOf j)) = p := ⟨_, rfl⟩
          rw [hpp] at e1 hx hp ⊢
          subst e1
          rw [← hx] at e3
          refine ⟨upd C j l, ?_, ?_⟩
          · rw [tnS_turn j]
            have hb2 : -1 ≤ x - 1 ∧ x - 1 < P := by have := hk.2.2; omega
            show SO P T n _ (upd Q t none) (handU Hl t p) _ _
            unfold handU
            rw [if_pos hp.1]
            refine h.head hm hj (hsm j hj) hb2 hs1 e3 (fun t' y hy => ?_) (fun p' q0 q1 => ?_)
            · by_cases e : t' = t
              · subst e; rw [upd_at] at hy
                rcases List.mem_append.1 hy with hy | hy
                · exact h.hands t' y hy
                · simp at hy; subst hy; exact hp
              · rw [upd_ne _ e] at hy; exact h.hands t' y hy
            · have h1 := h.one p' q0 q1
              have h2 := tot_C (n := n) (Hl := upd Hl t (Hl t ++ [p])) (Q := upd Q t none) (C := C) (l := l) (p := p') hj
              have h3 := tot_H (C := C) (Q := upd Q t none) (Hl := Hl) (l := Hl t ++ [p]) (p := p') ht
              have h4 := tot_Q (o := none) (p := p') (C := C) (Hl := Hl) ht hq
              rw [hC, List.count_cons] at h2
              rw [List.count_append, List.count_singleton] at h3
              have e5 : ownP p' (some (.pop (hdOf j) (.inl (.cas (s.word (hdOf j)) x)))) = 0 := rfl
              have e6 : ownP p' none = 0 := rfl
              omega
          · exact pot_turn h hn hq (by simp only [wt]; omega)
      · rw [if_neg c1] at hk1 hs1 ⊢
        rw [if_neg c1]
        refine h.quiet hm hq (by omega) (i1 hd hk.1) _ (by show (-1 : Int) < 0; omega) hs1 (fun _ => rfl) (fun _ => ⟨hk1, trivial⟩) ?_
        show (23 : Nat) + 1 ≤ 21 + stl s hd v
        unfold stl
        rw [if_neg (fun e => c1 e.symm)]; omega
  · cases hov
  · cases c with
    | load =>
      show StG P T n s Q Hl tn t (s.acc 1 hd (s.word hd)) (.push hd pg (.inl (.put (s.word hd))))
      refine h.quiet hm hq (by omega) (i1 hd hk.1) _ (by show (-1 : Int) < 0; omega) hs1 (fun _ => rfl) (fun _ => ⟨hk1, h.seen⟩) ?_
      show 22 + stl _ hd (s.word hd) + 1 ≤ 23
      unfold stl
      rw [if_pos (acc_same (i1 hd hk.1) 1 hd (by have := Hd3.bd hk.1; omega)).symm]; omega
    | put v =>
      show StG P T n s Q Hl tn t (s.acc 2 (nxAt P T pg) (Tag.pg v + 1)) (.push hd pg (.inl (.cas v)))
      have hin := i2 _ hk.2.1.1 hk.2.1.2
      have e : ∀ d, Hd3 d → (s.acc 2 (nxAt P T pg) (Tag.pg v + 1)).word d = s.word d := fun d h3 => StoreS.acc_word_other hin.1 (by have := h3.bd; omega) (fun e => (hd_ne_nx hm h3 hk.2.1.1 hk.2.1.2).1 e.symm) _ _
      refine ⟨C, ?_, pot_quiet h e hq ?_⟩
      · rw [tnS_same (by omega)]
        show SO P T n _ (upd Q t (some _)) (handU Hl t (-1)) _ _
        unfold handU
        rw [if_neg (by omega)]
        exact h.put hm hq hs1
      · show 21 + stl _ hd v + 1 ≤ 22 + stl s hd v
        unfold stl
        rw [e hd hk.1]; omega
    | cas v =>
      change SkOk P (.push hd pg (if s.word hd = v then .inr 0 else .inl .load)) at hk1
      have ea : (SkS.ac P T (.push hd pg (.inl (.cas v)))).act s = if s.word hd = v then s.acc 3 hd (Tag.nx v pg) else s.acc 4 hd (s.word hd) := rfl
      show StG P T n s Q Hl tn t ((SkS.ac P T (.push hd pg (.inl (.cas v)))).act s) (.push hd pg (if s.word hd = v then .inr 0 else .inl .load))
      rw [ea] at hs1 ⊢
      by_cases c1 : s.word hd = v
      · rw [if_pos c1] at hs1 ⊢
        rw [if_pos c1]
        obtain ⟨j, hj, rfl⟩ := hd3_of hk.1
        subst c1
        have hp := hk.2
        have hd := h.down j hj
        refine ⟨upd C j (pg :: C j), ?_, ?_⟩
        · rw [tnS_turn j]
          show SO P T n _ (upd Q t none) (handU Hl t (-1)) _ _
          unfold handU
          rw [if_neg (by omega)]
          refine h.head (l := pg :: C j) hm hj (hsm j hj) ⟨by omega, hp.2⟩ hs1 ⟨rfl, hp, ?_⟩ h.hands (fun p' q0 q1 => ?_)
          · rw [hlo.2, Int.add_sub_cancel]; exact hd
          · have h1 := h.one p' q0 q1
            have h2 := tot_C (n := n) (Hl := Hl) (Q := upd Q t none) (C := C) (l := pg :: C j) (p := p') hj
            have h4 := tot_Q (o := none) (p := p') (C := C) (Hl := Hl) ht hq
            rw [List.count_cons] at h2
            have e5 : ownP p' (some (.push (hdOf j) pg (.inl (.cas (s.word (hdOf j)))))) = if pg = p' then 1 else 0 := rfl
            have e6 : ownP p' none = 0 := rfl
            rw [e5, e6] at h4
            by_cases e : pg = p'
            · subst e; simp only [beq_self_eq_true, if_true] at h2 h4; omega
            · have eb : (pg == p') = false := by simpa using e
              rw [eb] at h2
              rw [if_neg e] at h4
              simp only [Bool.false_eq_true, if_false] at h2
              omega
        · exact pot_turn h hn hq (by simp only [wt]; omega)
      · rw [if_neg c1] at hk1 hs1 ⊢
        rw [if_neg c1]
        refine h.quiet hm hq (by omega) (i1 hd hk.1) _ (by show (-1 : Int) < 0; omega) hs1 (fun _ => rfl) (fun _ => ⟨hk1, trivial⟩) ?_
        show (23 : Nat) + 1 ≤ 21 + stl s hd v
        unfold stl
        rw [if_neg (fun e => c1 e.symm)]; omega
  · cases hov
end
section
variable {P T : Int} {n t : Nat} {s s' : StoreS} {Q : Nat → Option SkS} {Hl : Nat → List Int} {tn : Nat → Nat} {C : Nat → List Int} {k k' : SkS}
/-- A pop begins. -/
theorem SO.beginPop (h : SO P T n s Q Hl tn C) (ht : t < n) (hq : Q t = none) {hd : Int} (hh : Hd3 hd) : SO P T n s (upd Q t (some (.pop hd (.inl .load)))) Hl tn C := by
  refine ⟨h.stk, h.len, h.word, h.down, fun p q0 q1 => ?_, fun t' k' e => ?_, h.hands⟩
  · have h1 := tot_Q0 (o := some (.pop hd (.inl .load))) (p := p) (C := C) (Hl := Hl) ht hq
    have e : ownP p (some (.pop hd (.inl .load))) = 0 := rfl
    have := h.one p q0 q1; omega
  · rcases upd_or e with ⟨rfl, e2⟩ | ⟨_, e2⟩
    · injection e2 with e2; subst e2; exact ⟨ht, hh, rfl, trivial⟩
    · exact h.lane t' k' e2
/-- A push begins. -/
theorem SO.beginPush (h : SO P T n s Q Hl tn C) (ht : t < n) (hq : Q t = none) {hd pg : Int} (hh : Hd3 hd) {l : List Int} (hl : Hl t = l ++ [pg]) : SO P T n s (upd Q t (some (.push hd pg (.inl .load)))) (upd Hl t l) tn C := by
  have hp := h.hands t pg (by rw [hl]; simp)
  refine ⟨h.stk, h.len, h.word, h.down, fun p q0 q1 => ?_, fun t' k' e => ?_, fun t' x hx => ?_⟩
  · have h1 := tot_Q0 (o := some (.push hd pg (.inl .load))) (p := p) (C := C) (Hl := upd Hl t l) ht hq
    have h2 := tot_H (C := C) (Q := Q) (Hl := Hl) (l := l) (p := p) ht
    rw [hl, List.count_append, List.count_singleton] at h2
    have e5 : ownP p (some (.push hd pg (.inl .load))) = if pg = p then 1 else 0 := rfl
    have := h.one p q0 q1
    by_cases e : pg = p
    · subst e; rw [if_pos rfl] at e5; simp only [beq_self_eq_true, if_true] at h2; omega
    · have eb : (pg == p) = false := by simpa using e
      rw [if_neg e] at e5
      rw [eb] at h2
      simp only [Bool.false_eq_true, if_false] at h2
      omega
  · rcases upd_or e with ⟨rfl, e2⟩ | ⟨_, e2⟩
    · injection e2 with e2; subst e2; exact ⟨ht, ⟨hh, hp⟩, rfl, trivial⟩
    · exact h.lane t' k' e2
  · by_cases e : t' = t
    · subst e; rw [upd_at] at hx; exact h.hands t' x (by rw [hl]; exact List.mem_append_left _ hx)
    · rw [upd_ne _ e] at hx; exact h.hands t' x hx
theorem count_range (p : Int) : ∀ (k : Nat), 0 < n → sumN (fun t => (dealt n k t).count p) n = if 0 ≤ p ∧ p < (k : Int) then 1 else 0
  | 0, _ => by
    rw [if_neg (by omega)]
    have : ∀ t, (dealt n 0 t).count p = 0 := fun t => rfl
    rw [sumN_congr (g := fun _ => 0) (fun t _ => this t)]
    have := sumN_max (f := fun _ => 0) (c := 0) (n := n) (fun _ _ => Nat.le_refl _)
    omega
  | k + 1, hn => by
    have ih := count_range p k hn
    have e : (fun t => dealt n (k + 1) t) = upd (fun t => dealt n k t) (k % n) (dealt n k (k % n) ++ [(k : Int)]) := by
      funext t
      by_cases e : t = k % n
      · subst e; rw [upd_at]; exact dealt_at rfl
      · rw [upd_ne _ e]; exact dealt_ne (fun e2 => e e2.symm)
    have h2 := sumN_upd (fun l : List Int => l.count p) (fun t => dealt n k t) (t := k % n) (dealt n k (k % n) ++ [(k : Int)]) (Nat.mod_lt k hn)
    rw [← e, List.count_append, List.count_singleton] at h2
    have h3 : sumN (fun t => (dealt n (k + 1) t).count p) n = sumN (fun t => (dealt n k t).count p) n + if (k : Int) == p then 1 else 0 := by
      have h4 : sumN (fun j => List.count p ((fun t => dealt n k t) j)) n = sumN (fun t => (dealt n k t).count p) n := rfl
      have h5 : sumN (fun j => List.count p ((fun t => dealt n (k + 1) t) j)) n = sumN (fun t => (dealt n (k + 1) t).count p) n := rfl
      rw [h4, h5] at h2
      have h6 : List.count p ((fun t => dealt n k t) (k % n)) = List.count p (dealt n k (k % n)) := rfl
      rw [h6] at h2
      omega
    rw [h3, ih]
    by_cases c : (k : Int) = p
    · have x1 : ¬ (0 ≤ p ∧ p < (k : Int)) := by omega
      have x2 : 0 ≤ p ∧ p < ((k + 1 : Nat) : Int) := by omega
      have eb : ((k : Int) == p) = true := by simpa using c
      rw [if_neg x1, if_pos x2, if_pos eb]
    · have eb : ¬ ((k : Int) == p) = true := by simpa using c
      rw [if_neg eb]
      by_cases c2 : 0 ≤ p ∧ p < (k : Int)
      · have x2 : 0 ≤ p ∧ p < ((k + 1 : Nat) : Int) := by omega
        rw [if_pos c2, if_pos x2]
      · have x2 : ¬ (0 ≤ p ∧ p < ((k + 1 : Nat) : Int)) := by omega
        rw [if_neg c2, if_neg x2]
/-- Ahead of the first pick. -/
theorem SO.first {pn : Nat} (hm : Lay.may pn T = true) (hn : 0 < n) (hs : StkOk pn T s) (hl : s.ws.length = (Lay.words pn T).toNat) (hw : ∀ i, 0 < i → s.word i = 0) {Hl : Nat → List Int} (hH : ∀ t, t < n → Hl t = dealt n pn t) (hH2 : ∀ t, n ≤ t → Hl t = []) : SO pn T n s (fun _ => none) Hl (fun _ => 0) (fun _ => []) := by
  have w0 : ∀ j, s.word (hdOf j) = 0 := fun j => hw _ (by unfold hdOf; omega)
  have pg0 : Tag.pg 0 = -1 := by decide
  refine ⟨hs, hl, fun j hj => by rw [w0, pg0]; rfl, fun j hj => by rw [w0, pg0]; rfl, fun p q0 q1 => ?_, fun t k e => (by cases e), fun t x hx => ?_⟩
  · unfold tot
    have h1 : sumN (fun j => List.count p ((fun _ => ([] : List Int)) j)) 3 = 0 := rfl
    have h2 : sumN (fun t => ownP p ((fun _ => (none : Option SkS)) t)) n = 0 := by
      have := sumN_max (f := fun t => ownP p ((fun _ => (none : Option SkS)) t)) (c := 0) (n := n) (fun _ _ => Nat.le_refl _)
      omega
    rw [h1, h2, sumN_congr (g := fun t => (dealt n pn t).count p) (fun t ht => by rw [hH t ht]), count_range p pn hn, if_pos ⟨q0, q1⟩]
  · by_cases ht : t < n
    · rw [hH t ht] at hx; exact dealt_mem hx
    · rw [hH2 t (by omega)] at hx; cases hx
/-- What a list tells of a stack is what lies there. -/
theorem walk_down (hm : Lay.may P T = true) (hx : ∀ q, 0 ≤ q → q < P → s.word (nxAt P T q) ≤ P ∧ 0 ≤ s.word (nxAt P T q)) : ∀ {l : List Int} {p : Int} {f : Nat}, Down P T s p l → l.length ≤ f → walkL s P T f p = l
  | [], p, f, h, _ => by
    have hp : p = -1 := h
    subst hp
    cases f with
    | zero => rfl
    | succ f => unfold walkL; rw [if_neg (by omega)]
  | q :: l, p, f, h, hl => by
    obtain ⟨rfl, h2, h3⟩ := h
    cases f with
    | zero => simp at hl
    | succ f =>
      unfold walkL
      rw [if_pos h2, nextAt_nx hm h2.1 h2.2, under_eq (hx p h2.1 h2.2).2 (by have := (hx p h2.1 h2.2).1; have := Lay.may_iff.1 hm; omega)]
      rw [walk_down hm hx h3 (by simpa using hl)]
theorem sum_ind (P : Nat) (x : Int) (h0 : 0 ≤ x) : ∀ {m : Nat}, sumN (fun p => if x = (p : Int) then 1 else 0) m = if x < (m : Int) then 1 else 0
  | 0 => by rw [if_neg (by omega)]; rfl
  | m + 1 => by
    simp only [sumN]
    rw [sum_ind P x h0 (m := m)]
    by_cases c : x = (m : Int)
    · subst c; rw [if_neg (by omega), if_pos rfl, if_pos (by omega)]
    · by_cases c2 : x < (m : Int)
      · rw [if_pos c2, if_neg c, if_pos (by omega)]
      · rw [if_neg c2, if_neg c, if_neg (by omega)]
theorem sum_count {m : Nat} : ∀ (l : List Int), (∀ x ∈ l, 0 ≤ x ∧ x < (m : Int)) → sumN (fun p => l.count (p : Int)) m = l.length
  | [], _ => by
    have := sumN_max (f := fun p : Nat => List.count (p : Int) ([] : List Int)) (c := 0) (n := m) (fun _ _ => Nat.le_refl _)
    simp only [List.length_nil]; omega
  | x :: l, h => by
    have ih := sum_count l (fun y hy => h y (List.mem_cons_of_mem _ hy))
    have hx := h x (List.mem_cons_self ..)
    have e : sumN (fun p : Nat => List.count (p : Int) (x :: l)) m = sumN (fun p : Nat => List.count (p : Int) l + if x = (p : Int) then 1 else 0) m := sumN_congr (fun p _ => by
      rw [List.count_cons]
      by_cases c : x = (p : Int)
      · simp [c]
      · simp [c])
    rw [e, sumN_add, ih, sum_ind m x hx.1, if_pos hx.2, List.length_cons]
theorem SO.short {pn : Nat} (h : SO pn T n s Q Hl tn C) {j : Nat} (hj : j < 3) : (C j).length ≤ pn := by
  rw [← sum_count (m := pn) (C j) (fun x hx => (h.down j hj).mem x hx)]
  have := sumN_max (f := fun p : Nat => List.count (p : Int) (C j)) (c := 1) (n := pn) (fun p hp => by
    have h1 := h.one p (by omega) (by omega)
    have h3 := sumN_at (f := fun j => (C j).count (p : Int)) hj
    unfold tot at h1; omega)
  omega
theorem SO.list {pn : Nat} (h : SO pn T n s Q Hl tn C) (hm : Lay.may pn T = true) (hf : ∀ i, 0 ≤ s.word i) {j : Nat} (hj : j < 3) : walkL s pn T (pn : Int).toNat (Tag.pg (s.word (hdOf j))) = C j :=
  walk_down hm (fun q q0 q1 => ⟨h.stk.nx q q0 q1, hf _⟩) (h.down j hj) (by have := h.short hj; omega)
/-- When all are at rest. -/
theorem SO.rest (h : SO P T n s Q Hl tn C) (hr : ∀ t, t < n → Q t = none) {p : Int} (q0 : 0 ≤ p) (q1 : p < P) : sumN (fun j => (C j).count p) 3 + sumN (fun t => (Hl t).count p) n = 1 := by
  have h1 := h.one p q0 q1
  have h2 : sumN (fun t => ownP p (Q t)) n = 0 := by
    rw [sumN_congr (g := fun _ => 0) (fun t ht => by rw [hr t ht]; rfl)]
    have := sumN_max (f := fun _ => 0) (c := 0) (n := n) (fun _ _ => Nat.le_refl _)
    omega
  unfold tot at h1; omega
end
/-- Behind the drawn ones all are at rest, or one that is not comes soon. -/
def RestI (n drawn i pt : Nat) (Q : Nat → Option SkS) : Prop := drawn ≤ i → (∀ t, t < n → Q t = none) ∨ ∃ d, d < n ∧ Q ((i + d) % n) ≠ none ∧ n * pt + d + (i - drawn) ≤ 1000
theorem none_or {n : Nat} (Q : Nat → Option SkS) : (∀ t, t < n → Q t = none) ∨ ∃ t, t < n ∧ Q t ≠ none := by
  induction n with
  | zero => exact .inl (fun t ht => by omega)
  | succ n ih =>
    rcases ih with h | ⟨t, h1, h2⟩
    · by_cases e : Q n = none
      · exact .inl (fun t ht => by
          by_cases q : t = n
          · subst q; exact e
          · exact h t (by omega))
      · exact .inr ⟨n, by omega, e⟩
    · exact .inr ⟨t, by omega, h2⟩
theorem RestI.fresh {n drawn i pt : Nat} {Q : Nat → Option SkS} (hn : n ≤ 6) (hp : pt ≤ 150) (h : i ≤ drawn) : RestI n drawn i pt Q := fun hd => by
  rcases none_or (n := n) Q with h1 | ⟨t, h1, h2⟩
  · exact .inl h1
  · obtain ⟨d, d1, d2⟩ := next_at (i := i) h1
    refine .inr ⟨d, d1, by rw [d2]; exact h2, ?_⟩
    have : n * pt ≤ 6 * 150 := Nat.mul_le_mul hn hp
    omega
theorem RestI.skip {n drawn i t pt : Nat} {Q : Nat → Option SkS} (h : RestI n drawn i pt Q) (hd : drawn ≤ i) (ht : t = i % n) (ho : Q t = none) : RestI n drawn (i + 1) pt Q := fun _ => by
  rcases h hd with h1 | ⟨d, d1, d2, d3⟩
  · exact .inl h1
  · have hd : d ≠ 0 := fun e => by
      subst e
      rw [Nat.add_zero, ← ht, ho] at d2; exact d2 rfl
    refine .inr ⟨d - 1, by omega, ?_, by omega⟩
    rw [show i + 1 + (d - 1) = i + d by omega]; exact d2
theorem RestI.step {n drawn i t pt pt' : Nat} {Q Q' : Nat → Option SkS} (h : RestI n drawn i pt Q) (hn : n ≤ 6) (hp : pt' + 1 ≤ pt) (hp2 : pt ≤ 150) (htn : t < n) (ho : Q t ≠ none) : RestI n drawn (i + 1) pt' Q' := by
  by_cases c : drawn ≤ i
  · intro _
    rcases h c with h1 | ⟨d, d1, d2, d3⟩
    · exact absurd (h1 t htn) ho
    · rcases none_or (n := n) Q' with h1 | ⟨t', h1, h2⟩
      · exact .inl h1
      · obtain ⟨d', e1, e2⟩ := next_at (i := i + 1) h1
        refine .inr ⟨d', e1, by rw [e2]; exact h2, ?_⟩
        have e : n * (pt' + 1) ≤ n * pt := Nat.mul_le_mul_left n hp
        rw [Nat.mul_add, Nat.mul_one] at e
        omega
  · exact RestI.fresh hn (by omega) (by omega)
theorem RestI.over {n drawn i pt : Nat} {Q : Nat → Option SkS} (h : RestI n drawn i pt Q) (hi : drawn + 3000 ≤ i) : ∀ t, t < n → Q t = none := by
  rcases h (by omega) with h1 | ⟨d, d1, d2, d3⟩
  · exact h1
  · omega
section
variable {w wr : World} {ab sb sm rb rg bb tb tm ub fb gb hvb mb onb pub n c t : Nat} {P T : Int} {s s' : StoreS} {L : List (Option SkL)} {Hv Mc : Nat → Value} {On Pu : Nat → Bool} {z : SkL}
/-- What rest tells. -/
def RestQ (n : Nat) (On : Nat → Bool) (wr : World) (e : Ending) (w' : World) : Prop := w' = wr ∧ ∃ b, e = .returned (.bool b) ∧ (b = true ↔ ∀ t, t < n → On t = false)
set_option maxHeartbeats 2000000 in
theorem rest_any (hg : wr.cell? ⟨gb, 4, none⟩ = some (.slice (some ⟨onb, 0, none⟩) n n)) (hr : Blk wr onb (rowOf n (fun j => .bool (On j))) 4) (hn : n ≤ 1000) :
    Calls Tryz.prog 7 #[.pointer (some ⟨gb, 0, none⟩)] wr (RestQ n On wr) := by
  have HR := Lib.hid hr
  clear hr
  go_enter Tryz.func7, Tryz.ntmps7
  go_upto_region 2 with fail
  go_loopw [3] (fun i w1 => ∃ k : Nat, k ≤ n ∧ i = .int .i64 k ∧ w1 = wr ∧ Hid (∀ t, t < k → On t = false)) (fun i _ => n - (intOf i).toNat)
  case atStart => exact ⟨0, Nat.zero_le _, rfl, rfl, Lib.hid (fun t h => by omega)⟩
  case round =>
    obtain ⟨k, hk, rfl, rfl, HA⟩ := hrel
    by_cases c1 : k < n
    · have g1 : (k : Int) < (n : Int) := by omega
      have g0 : (0 : Int) ≤ (k : Int) := by omega
      have hwk : IntKind.i64.wrap ((k : Int) + 1) = (k : Int) + 1 := by rw [IntKind.wrap_i64]; omega
      have o1 : wr.cell? ⟨onb, k, none⟩ = some (.bool (On k)) := by rw [HR.out.cell k, rowOf_get _ c1]
      obtain ⟨b, hb⟩ : ∃ b, On k = b := ⟨_, rfl⟩
      rw [hb] at o1
      have HB := Lib.hid hb
      clear hb
      cases b
      · go_wp2_with fail
        go_roundw
        case rel => exact ⟨k + 1, by omega, by go_num, (by first | trivial | rfl), Lib.hid (fun t h => by
          by_cases e : t = k
          · subst e; exact HB.out
          · exact HA.out t (by omega))⟩
        case measure => simp [intOf]; omega
      · go_wp2_with fail
        go_ret
        exact ⟨rfl, false, rfl, ⟨fun h => (by cases h), fun h => (by have := h k c1; rw [HB.out] at this; cases this)⟩⟩
    · have g1 : ¬ (k : Int) < (n : Int) := by omega
      obtain rfl : k = n := by omega
      go_wp2_with fail
      go_ret
      exact ⟨rfl, true, rfl, ⟨fun _ => HA.out, fun _ => rfl⟩⟩
/-- What count leaves. -/
def CountQ (m sb : Nat) (f : Nat → Int) (xs : List Int) (w : World) (e : Ending) (w' : World) : Prop := e = .returned (.bool true) ∧ Blk w' sb (rowOf m (fun p => .int .i64 (f p + (xs.count (p : Int) : Nat)))) 3 ∧ Only (· = sb) w w'
set_option maxHeartbeats 4000000 in
theorem count_any {w : World} {sb m : Nat} {f : Nat → Int} {a : Option Addr} {cp : Nat} {xs : List Int} (hs : Blk w sb (rowOf m (fun p => .int .i64 (f p))) 3) (hv : ∀ i, i < xs.length → ∃ b off, a = some ⟨b, off, none⟩ ∧ w.cell? ⟨b, off + i, none⟩ = some (.int .i64 (xs.getD i 0)))
    (hne : ∀ b off, a = some ⟨b, off, none⟩ → b ≠ sb) (hx : ∀ x ∈ xs, 0 ≤ x ∧ x < (m : Int)) (hf : ∀ p, 0 ≤ f p ∧ f p ≤ 1000000) (hl : xs.length ≤ 65536) (hm : m ≤ 65536) :
    Calls Tryz.prog 14 #[.slice (some ⟨sb, 0, none⟩) m m, .slice a xs.length cp] w (CountQ m sb f xs w) := by
  obtain ⟨ln, hln⟩ : ∃ ln, xs.length = ln := ⟨_, rfl⟩
  rw [hln]
  have HS := Lib.hid hs; have HV := Lib.hid hv; have HNE := Lib.hid hne; have HX := Lib.hid hx; have HF := Lib.hid hf; have HLN := Lib.hid hln
  rw [hln] at hl
  clear hs hv hne hx hf hln
  go_enter Tryz.func14, Tryz.ntmps14
  go_upto_region 2 with fail
  go_loopw [5] (fun i w1 => ∃ k : Nat, k ≤ ln ∧ i = .int .i64 k ∧ Hid (Blk w1 sb (rowOf m (fun p => .int .i64 (f p + ((xs.take k).count (p : Int) : Nat)))) 3) ∧ Hid (Only (· = sb) w w1)) (fun i _ => ln - (intOf i).toNat)
  case atStart => exact ⟨0, Nat.zero_le _, rfl, Lib.hid (by simpa using HS.out), Lib.hid (Only.refl _ _)⟩
  case round =>
    obtain ⟨k, hk, rfl, HR, HO⟩ := hrel
    by_cases c1 : k < ln
    · have g1 : (k : Int) < (ln : Int) := by omega
      have g0 : (0 : Int) ≤ (k : Int) := by omega
      have hwk : IntKind.i64.wrap ((k : Int) + 1) = (k : Int) + 1 := by rw [IntKind.wrap_i64]; omega
      obtain ⟨b, off, rfl, hc⟩ := HV.out k (by rw [HLN.out]; exact c1)
      obtain ⟨x, hx⟩ : ∃ x, xs.getD k 0 = x := ⟨_, rfl⟩
      rw [hx] at hc
      have hget : xs[k]? = some x := by
        have hk2 : k < xs.length := by rw [HLN.out]; exact c1
        rw [List.getElem?_eq_getElem hk2, ← hx]; simp [List.getD_eq_getElem?_getD, List.getElem?_eq_getElem hk2]
      have hxb := HX.out x (List.mem_of_getElem? hget)
      obtain ⟨j, hj⟩ : ∃ j : Nat, x = (j : Int) := ⟨x.toNat, by omega⟩
      subst hj
      have hjm : j < m := by omega
      have hbs := HNE.out b off rfl
      have d0 : wr.cell? ⟨b, off + k, none⟩ = some (.int .i64 (j : Int)) := cellO HO.out hbs hc
      have f0 := HR.out.frozen j
      have hcnt : ((xs.take k).count (j : Int)) ≤ 65536 := Nat.le_trans List.count_le_length (by rw [List.length_take]; omega)
      obtain ⟨y, hy⟩ : ∃ y, f j + ((xs.take k).count (j : Int) : Nat) = y := ⟨_, rfl⟩
      have d1 : wr.cell? ⟨sb, j, none⟩ = some (.int .i64 y) := by rw [HR.out.cell j, rowOf_get _ hjm, hy]
      have wy : IntKind.i64.wrap (y + 1) = y + 1 := by have := HF.out j; rw [IntKind.wrap_i64]; omega
      have g2 : ¬ (j : Int) < 0 := by omega
      have g3 : ¬ (m : Int) ≤ (j : Int) := by omega
      have g4 : (0 : Int) ≤ (j : Int) := by omega
      have g5 : (j : Int) < (m : Int) := by omega
      have HG := Lib.hid hget; have HY := Lib.hid hy
      clear hx hget hxb hcnt hc hy
      go_wp2_with fail
      go_roundw
      case rel =>
        refine ⟨k + 1, by omega, by go_num, Lib.hid ?_, Lib.hid (HO.out.setCell (p := ⟨sb, j, none⟩) (.inl rfl) _)⟩
        have h1 := HR.out.setCell j (.int .i64 (y + 1))
        rw [rowOf_set] at h1
        have e : upd (fun p : Nat => Value.int .i64 (f p + ((xs.take k).count (p : Int) : Nat))) j (.int .i64 (y + 1)) = fun p : Nat => Value.int .i64 (f p + ((xs.take (k + 1)).count (p : Int) : Nat)) := by
          funext p
          rw [List.take_add_one, HG.out, List.count_append]
          by_cases q : p = j
          · subst q
            rw [upd_at, ← HY.out]
            have : List.count (p : Int) (some (p : Int)).toList = 1 := by simp
            rw [this]; congr 1; omega
          · rw [upd_ne _ q]
            have : List.count (p : Int) (some (j : Int)).toList = 0 := by
              simp only [Option.toList, List.count_singleton]
              rw [if_neg]
              intro e2
              have := eq_of_beq e2
              omega
            rw [this]; rfl
        rw [e] at h1
        exact h1
      case measure => simp [intOf]; omega
    · have g1 : ¬ (k : Int) < (ln : Int) := by omega
      obtain rfl : k = ln := by omega
      go_wp2_with fail
      go_ret
      refine ⟨rfl, ?_, HO.out⟩
      have h1 := HR.out
      rw [← HLN.out, List.take_length] at h1
      exact h1
/-- A step of the program's side. -/
theorem onePop (h : GH w ab sb sm rb rg bb tb tm ub fb gb hvb mb onb pub n P T c wr s s' L Hv Mc On Pu) (hz : L[t]? = some (some z)) (hm : Lay.may P T = true) (hov : z.k.over = false) (hp : z.k.isPush = false) (hq : SkOk P z.k) (hs : StkOk P T s) :
    Calls Tryz.prog 11 #[.pointer (some ⟨z.a, 0, none⟩), .pointer (some ⟨ab, 0, none⟩)] wr fun e w' => e = .returned (didV ((z.k.ac P T).act s)) ∧ Hid (GH w ab sb sm rb rg bb tb tm ub fb gb hvb mb onb pub n P T c w' ((z.k.ac P T).act s) s' (L.set t (some { z with k := z.k.nx P T (s.word (z.k.ac P T).pos) })) Hv Mc On Pu) ∧ Hid (∀ r c u, Blk wr r c u → RowOk skTy u → Blk w' r c u) := by
  have hA := h.sc.lanes.A t z hz
  have hf : ∀ i, 0 ≤ s.word i := fun i => (StoreS.word_bd h.sc.both.yard.st.fit i).1
  rcases hk : z.k with ⟨hd, k | p⟩ | ⟨hd, pg, k | p⟩
  · rw [hk] at hA hq
    refine (popA_step hA.1 hA.2 h.sc.both.yard h.sc.len (sk_bad hs hm hf hq)).mono (fun e w' c => ?_)
    obtain ⟨c1, ⟨c2, c3⟩, c4⟩ := c
    obtain ⟨a1, a2⟩ := h.sc.stepA (k' := .pop hd ((popA P T hd).nx k (s.word ((popA P T hd).ac k).pos))) (skO P T) hm hz c4 (show SkA P T w' z.a (.pop hd ((popA P T hd).nx k (s.word ((popA P T hd).ac k).pos))) from ⟨hA.1, c2⟩) c3 (Ac.act_len _ _)
    exact ⟨c1, Lib.hid (h.kept a1 a2 (by simpa using h.ll)), Lib.hid a2⟩
  · rw [hk] at hov; cases hov
  · rw [hk] at hp; cases hp
  · rw [hk] at hov; cases hov
theorem onePush (h : GH w ab sb sm rb rg bb tb tm ub fb gb hvb mb onb pub n P T c wr s s' L Hv Mc On Pu) (hz : L[t]? = some (some z)) (hm : Lay.may P T = true) (hov : z.k.over = false) (hp : z.k.isPush = true) :
    Calls Tryz.prog 9 #[.pointer (some ⟨z.a, 0, none⟩), .pointer (some ⟨ab, 0, none⟩)] wr fun e w' => e = .returned (didV ((z.k.ac P T).act s)) ∧ Hid (GH w ab sb sm rb rg bb tb tm ub fb gb hvb mb onb pub n P T c w' ((z.k.ac P T).act s) s' (L.set t (some { z with k := z.k.nx P T (s.word (z.k.ac P T).pos) })) Hv Mc On Pu) ∧ Hid (∀ r c u, Blk wr r c u → RowOk skTy u → Blk w' r c u) := by
  have hA := h.sc.lanes.A t z hz
  rcases hk : z.k with ⟨hd, k | p⟩ | ⟨hd, pg, k | p⟩
  · rw [hk] at hp; cases hp
  · rw [hk] at hp; cases hp
  · rw [hk] at hA
    refine (pushA_step hA.1.1 hA.1.2.1 hA.1.2.2 hA.2 h.sc.both.yard h.sc.len).mono (fun e w' c => ?_)
    obtain ⟨c1, ⟨c2, c3⟩, c4⟩ := c
    obtain ⟨a1, a2⟩ := h.sc.stepA (k' := .push hd pg ((pushA P T hd pg).nx k (s.word ((pushA P T hd pg).ac k).pos))) (skO P T) hm hz c4 (show SkA P T w' z.a (.push hd pg ((pushA P T hd pg).nx k (s.word ((pushA P T hd pg).ac k).pos))) from ⟨hA.1, c2⟩) c3 (Ac.act_len _ _)
    exact ⟨c1, Lib.hid (h.kept a1 a2 (by simpa using h.ll)), Lib.hid a2⟩
  · rw [hk] at hov; cases hov
theorem oneDonePop {m : Nat} {k : SkS} (h : SkA P T w m k) (hp : k.isPush = false) : Calls Tryz.prog 12 #[.pointer (some ⟨m, 0, none⟩)] w fun e w' => e = .returned (.bool k.over) ∧ w = w' := by
  rcases k with ⟨hd, k⟩ | ⟨hd, pg, k⟩
  · exact popX_done h.2
  · cases hp
theorem onePagePop {m : Nat} {k : SkS} (h : SkA P T w m k) (hp : k.isPush = false) : Calls Tryz.prog 13 #[.pointer (some ⟨m, 0, none⟩)] w fun e w' => e = .returned (.int .i64 k.got) ∧ w = w' := by
  rcases k with ⟨hd, k⟩ | ⟨hd, pg, k⟩
  · exact popX_page h.2
  · cases hp
theorem oneDonePush {m : Nat} {k : SkS} (h : SkA P T w m k) (hp : k.isPush = true) : Calls Tryz.prog 10 #[.pointer (some ⟨m, 0, none⟩)] w fun e w' => e = .returned (.bool k.over) ∧ w = w' := by
  rcases k with ⟨hd, k⟩ | ⟨hd, pg, k⟩
  · cases hp
  · exact pushX_done h.2
end
/-- The machines' states, by threads. -/
def qOf (L : List (Option SkL)) (t : Nat) : Option SkS := match L[t]? with
  | some (some z) => some z.k
  | _ => none
theorem qOf_some {L : List (Option SkL)} {t : Nat} {z : SkL} (h : L[t]? = some (some z)) : qOf L t = some z.k := by unfold qOf; rw [h]
theorem qOf_set {L : List (Option SkL)} {t : Nat} (ht : t < L.length) (o : Option SkL) : qOf (L.set t o) = upd (qOf L) t (o.map (fun z => z.k)) := by
  funext j
  by_cases e : j = t
  · subst e
    rw [upd_at]; unfold qOf
    rw [List.getElem?_set_self ht]
    cases o <;> rfl
  · rw [upd_ne _ e]; unfold qOf
    rw [List.getElem?_set_ne (fun e2 => e e2.symm)]
theorem Lnk.off {n t : Nat} {L : List (Option SkL)} {Mc : Nat → Value} {On Pu : Nat → Bool} (h : Lnk n L Mc On Pu) (hl : L.length = n) (ht : t < n) : On t = false ↔ qOf L t = none := by
  obtain ⟨o, ho⟩ : ∃ o, L[t]? = some o := ⟨_, List.getElem?_eq_getElem (by omega)⟩
  cases o with
  | none => exact ⟨fun _ => by unfold qOf; rw [ho], fun _ => h.idle t ho⟩
  | some z => exact ⟨fun e => (by have := (h.live t z ho).1; rw [e] at this; cases this), fun e => (by rw [qOf_some ho] at e; cases e)⟩
structure OS (w : World) (ab sb sm rb rg bb tb tm ub fb gb hvb mb onb pub tnb n pn dr k : Nat) (S0 : StoreS) (wr : World) (s : StoreS) (L : List (Option SkL)) (Hv Mc : Nat → Value) (On Pu : Nat → Bool) (Hl : Nat → List Int) (tn : Nat → Nat) (C : Nat → List Int) : Prop where
  g : GH w ab sb sm rb rg bb tb tm ub fb gb hvb mb onb pub n pn n (60 + k) wr s S0 L Hv Mc On Pu
  l : Lnk n L Mc On Pu
  o : SO pn n n s (qOf L) Hl tn C
  r : RestI n dr k (pot s n (qOf L)) (qOf L)
  tnk : ∀ j, j < 3 → tn j ≤ k
  h : ∀ t, t < n → wr.ownsRow 0 3 1 (Hv t) (Hl t).length ((Hl t).map (Value.int .i64))
  hl : ∀ t, (Hl t).length ≤ 60 + k
  tb : Blk wr tnb #[.int .u32 (tn 0), .int .u32 (tn 1), .int .u32 (tn 2)] 39
  low : w.heap.size ≤ tnb
/-- Rows of integers are kept where their blocks are. -/
theorem row_keepI {w w' : World} {v : Value} {m : Nat} {xs : List Value} (h : w.ownsRow 0 3 1 v m xs) (hk : ∀ r cc, Blk w r cc 3 → Blk w' r cc 3) : w'.ownsRow 0 3 1 v m xs := by
  obtain ⟨a1, a2⟩ := h
  refine ⟨a1, ?_⟩
  rcases a2 with a2 | ⟨g, cap, cur, b1, b2, b3, b4⟩
  · exact .inl a2
  · exact .inr ⟨g, cap, cur, b1, b2, hk g cur b3, b4⟩
theorem row_pop {w : World} {g j cap : Nat} {xs : List Int} (h : w.ownsRow 0 3 1 (.slice (some ⟨g, 0, none⟩) (j + 1) cap) xs.length (xs.map (Value.int .i64))) {pg : Int} (hc : w.cell? ⟨g, j, none⟩ = some (.int .i64 pg)) : ∃ l, xs = l ++ [pg] ∧ w.ownsRow 0 3 1 (.slice (some ⟨g, 0, none⟩) j cap) l.length (l.map (Value.int .i64)) := by
  obtain ⟨a1, a2⟩ := h
  rcases a2 with ⟨e1, e2⟩ | ⟨g', cp, cur, b1, b2, b3, b4, b5, b6, b7⟩
  · cases e1
  · injection b1 with b1 e7 e8
    injection b1 with b1
    injection b1 with b1
    subst b1; subst e8
    have hl : (xs.take j).length = j := by rw [List.length_take]; omega
    have hx : ∃ x, xs[j]? = some x := ⟨_, List.getElem?_eq_getElem (by omega)⟩
    obtain ⟨x, hx⟩ := hx
    have hxc : w.cell? ⟨g, j, none⟩ = some (.int .i64 x) := by
      have h1 : (cur.toList.take (xs.length * 1))[j]? = some (.int .i64 x) := by rw [b7, List.getElem?_map, hx]; rfl
      rw [List.getElem?_take_of_lt (by omega)] at h1
      simpa [World.cell?, b3] using h1
    rw [hc] at hxc
    injection hxc with hxc; injection hxc with _ hxc
    subst hxc
    have hsp : xs = xs.take j ++ [pg] := by
      have h1 : xs.take (j + 1) = xs := List.take_of_length_le (by omega)
      rw [List.take_add_one, hx] at h1
      exact h1.symm
    refine ⟨xs.take j, hsp, by simp, .inr ⟨g, cap, cur, by rw [hl], b2, b3, by omega, b5, b6, ?_⟩⟩
    rw [hl]
    simp only [Nat.mul_one] at b7 ⊢
    have : cur.toList.take j = (cur.toList.take xs.length).take j := by rw [List.take_take]; congr 1; omega
    rw [this, b7, List.map_take]
/-- A row that is older than another block, as count wants it. -/
theorem row_count {w wc : World} {v : Value} {xs : List Int} {base qb : Nat} (h : wc.ownsRow base 3 1 v xs.length (xs.map (Value.int .i64))) (ho : Adds wc w) (hq : wc.heap.size ≤ qb) : ∃ a cp, v = .slice a xs.length cp ∧ (∀ i, i < xs.length → ∃ b off, a = some ⟨b, off, none⟩ ∧ w.cell? ⟨b, off + i, none⟩ = some (.int .i64 (xs.getD i 0))) ∧ ∀ b off, a = some ⟨b, off, none⟩ → b ≠ qb := by
  obtain ⟨a, cp, hv, hc⟩ := Ints.row h
  refine ⟨a, cp, hv, fun i hi => ?_, fun b off e => ?_⟩
  · obtain ⟨b, off, e, _, hcell⟩ := hc i hi
    exact ⟨b, off, e, cellA hcell ho⟩
  · rcases h.2 with ⟨e1, _⟩ | ⟨g, cap, cur, e1, _, hb, _⟩
    · rw [hv] at e1; injection e1 with e1; rw [e] at e1; cases e1
    · rw [hv] at e1; injection e1 with e1; rw [e] at e1; injection e1 with e1; injection e1 with e1 _ _
      have := Blk.lt (t := 3) (c := cur) (w := wc) (b := g) hb
      omega
/-- A row that is newer than another block. -/
theorem row_count2 {w : World} {v : Value} {xs : List Int} {base qb : Nat} (h : w.ownsRow base 3 1 v xs.length (xs.map (Value.int .i64))) (hq : qb < base) : ∃ a cp, v = .slice a xs.length cp ∧ (∀ i, i < xs.length → ∃ b off, a = some ⟨b, off, none⟩ ∧ w.cell? ⟨b, off + i, none⟩ = some (.int .i64 (xs.getD i 0))) ∧ ∀ b off, a = some ⟨b, off, none⟩ → b ≠ qb := by
  obtain ⟨a, cp, hv, hc⟩ := Ints.row h
  refine ⟨a, cp, hv, fun i hi => ?_, fun b off e => ?_⟩
  · obtain ⟨b, off, e, _, hcell⟩ := hc i hi
    exact ⟨b, off, e, hcell⟩
  · rcases h.2 with ⟨e1, _⟩ | ⟨g, cap, cur, e1, hb, _⟩
    · rw [hv] at e1; injection e1 with e1; rw [e] at e1; cases e1
    · rw [hv] at e1; injection e1 with e1; rw [e] at e1; injection e1 with e1; injection e1 with e1 _ _
      omega
section
variable {w wr W : World} {ab sb sm rb rg bb tb tm ub fb gb hvb mb onb pub tnb n pn dr k t : Nat} {S0 s : StoreS} {L : List (Option SkL)} {Hv Mc : Nat → Value} {On Pu : Nat → Bool} {Hl : Nat → List Int} {tn : Nat → Nat} {C : Nat → List Int}
theorem OS.add (h : OS w ab sb sm rb rg bb tb tm ub fb gb hvb mb onb pub tnb n pn dr k S0 wr s L Hv Mc On Pu Hl tn C) (ho : Adds wr W) : OS w ab sb sm rb rg bb tb tm ub fb gb hvb mb onb pub tnb n pn dr k S0 W s L Hv Mc On Pu Hl tn C :=
  ⟨h.g.add ho, h.l, h.o, h.r, h.tnk, fun t ht => row_keepI (h.h t ht) (fun _ _ hb => hb.only ho id), h.hl, h.tb.only ho id, h.low⟩
/-- The row of turns is turned. -/
theorem GH.trow {c : Nat} {T P : Int} {s' : StoreS} {r : Nat} {cr : Array Value} {w' : World} (h : GH w ab sb sm rb rg bb tb tm ub fb gb hvb mb onb pub n P T c wr s s' L Hv Mc On Pu) (hr : Blk wr r cr 39) (hlow : w.heap.size ≤ r) (ho : Only (· = r) wr w') : GH w ab sb sm rb rg bb tb tm ub fb gb hvb mb onb pub n P T c w' s s' L Hv Mc On Pu :=
  ⟨h.sc.rowK (ty := skTy) hr (by unfold RowOk; decide) (by unfold BT; decide) (fun t z e => (h.sc.lanes.A t z e).rowT hr (by decide) ho) hlow ho, h.ll, h.game.rowT hr (by decide) ho, h.hv.rowT hr (by decide) ho, h.mm.rowT hr (by decide) ho, h.on.rowT hr (by decide) ho, h.pu.rowT hr (by decide) ho, h.ne, h.low, fun j hj => (h.hands j hj).keep hr (by decide) ho⟩
theorem turn3 (tn : Nat → Nat) {j : Nat} (hj : j < 3) : (#[Value.int .u32 (tn 0), .int .u32 (tn 1), .int .u32 (tn 2)] : Array Value).setIfInBounds j (.int .u32 ((tn j + 1 : Nat) : Int)) = #[.int .u32 (upd tn j (tn j + 1) 0 : Nat), .int .u32 (upd tn j (tn j + 1) 1 : Nat), .int .u32 (upd tn j (tn j + 1) 2 : Nat)] := by
  match j, hj with
  | 0, _ => rfl
  | 1, _ => rfl
  | 2, _ => rfl
theorem tnS_at {tn : Nat → Nat} {s1 : StoreS} {j : Nat} (h1 : s1.k = 3) (h2 : s1.pos = hdOf j) : tnS tn s1 = upd tn j (tn j + 1) := by
  funext i
  unfold tnS
  by_cases e : i = j
  · subst e; rw [upd_at]; exact if_pos ⟨h1, h2⟩
  · rw [upd_ne _ e]; exact if_neg (fun e2 => e (hdOf_inj (h2.symm.trans e2.2)).symm)
theorem tnS_no {tn : Nat → Nat} {s1 : StoreS} (h1 : ¬ s1.k = 3) : tnS tn s1 = tn := by
  funext i; unfold tnS; exact if_neg (fun e => h1 e.1)
/-- A thread begins. -/
theorem OS.begun (h : OS w ab sb sm rb rg bb tb tm ub fb gb hvb mb onb pub tnb n pn dr k S0 wr s L Hv Mc On Pu Hl tn C) (ht : t < n) (hn : n ≤ 6) (hk : k < dr) (hon : On t = false) {z : SkL} {Hv' Mc' : Nat → Value} {On' Pu' : Nat → Bool} (hkeep : ∀ r cc u, (u = 50 ∨ u = 3 ∨ u = 39) → Blk wr r cc u → Blk W r cc u)
    (hg : GH w ab sb sm rb rg bb tb tm ub fb gb hvb mb onb pub n pn n (60 + k) W s S0 (L.set t (some z)) Hv' Mc' On' Pu') (hl : Lnk n (L.set t (some z)) Mc' On' Pu') (hq : SkOk pn z.k) (hh : HandTo wr Hv Hv' t z.k) :
    ∃ Hl', OS w ab sb sm rb rg bb tb tm ub fb gb hvb mb onb pub tnb n pn dr k S0 W s (L.set t (some z)) Hv' Mc' On' Pu' Hl' tn C := by
  have htl : t < L.length := by rw [h.g.ll]; exact ht
  have hqn : qOf L t = none := (h.l.off h.g.ll ht).1 hon
  have hq2 : qOf (L.set t (some z)) = upd (qOf L) t (some z.k) := qOf_set htl (some z)
  have hp := fun Q => pot_max s hn Q
  have hI : ∀ {v : Value} {m : Nat} {xs : List Value}, wr.ownsRow 0 3 1 v m xs → W.ownsRow 0 3 1 v m xs := fun hx => row_keepI hx (fun r cc hb => hkeep r cc _ (.inr (.inl rfl)) hb)
  rcases hh with ⟨⟨hd, hz⟩, rfl⟩ | ⟨g, j, cap, hd, pg, e1, rfl, hz, hc⟩
  · rw [hz] at hq2 hq
    refine ⟨Hl, hg, hl, ?_, RestI.fresh hn (hp _) (by omega), h.tnk, fun t' ht' => hI (h.h t' ht'), h.hl, hkeep _ _ _ (.inr (.inr rfl)) h.tb, h.low⟩
    rw [hq2]; exact h.o.beginPop ht hqn hq
  · rw [hz] at hq2 hq
    have h1 := h.h t ht
    rw [e1] at h1
    obtain ⟨l, e2, h2⟩ := row_pop h1 hc
    refine ⟨upd Hl t l, hg, hl, ?_, RestI.fresh hn (hp _) (by omega), h.tnk, fun t' ht' => ?_, fun t' => ?_, hkeep _ _ _ (.inr (.inr rfl)) h.tb, h.low⟩
    · rw [hq2]; exact h.o.beginPush ht hqn hq.1 e2
    · by_cases e : t' = t
      · subst e; rw [upd_at, upd_at]; exact hI h2
      · rw [upd_ne _ e, upd_ne _ e]; exact hI (h.h t' ht')
    · by_cases e : t' = t
      · subst e; rw [upd_at]; have := h.hl t'; rw [e2] at this; simp at this; omega
      · rw [upd_ne _ e]; exact h.hl t'
/-- Where a swap was done. -/
theorem turned_at {P T : Int} {k : SkS} (hk : SkOk P k) (hov : k.over = false) (e : ((k.ac P T).act s).k = 3) : ∃ j, j < 3 ∧ ((k.ac P T).act s).pos = hdOf j := by
  rcases k with ⟨hd, c | r⟩ | ⟨hd, pg, c | r⟩
  · cases c with
    | load => cases e
    | next v => cases e
    | cas v x =>
      obtain ⟨j, hj, rfl⟩ := hd3_of hk.1
      exact ⟨j, hj, Ac.act_pos _ _⟩
  · cases hov
  · cases c with
    | load => cases e
    | put v => cases e
    | cas v =>
      obtain ⟨j, hj, rfl⟩ := hd3_of hk.1
      exact ⟨j, hj, Ac.act_pos _ _⟩
  · cases hov
/-- A round's end. -/
theorem OS.next (h : OS w ab sb sm rb rg bb tb tm ub fb gb hvb mb onb pub tnb n pn dr k S0 wr s L Hv Mc On Pu Hl tn C) (ht : t < n) (hn : n ≤ 6) (hm : Lay.may pn n = true) (hkk : k < 100000) {z : SkL} (hz : L[t]? = some (some z)) {o : Option SkL} (ho : o.map (fun z => z.k) = nxo (z.k.nx pn n (s.word (z.k.ac pn n).pos))) {Hv' : Nat → Value} {On' : Nat → Bool}
    (hg : GH w ab sb sm rb rg bb tb tm ub fb gb hvb mb onb pub n pn n (60 + (k + 1)) W ((z.k.ac pn n).act s) S0 (L.set t o) Hv' Mc On' Pu) (hl : Lnk n (L.set t o) Mc On' Pu)
    (hh : ∀ t', t' < n → W.ownsRow 0 3 1 (Hv' t') (handU Hl t (z.k.nx pn n (s.word (z.k.ac pn n).pos)).got t').length ((handU Hl t (z.k.nx pn n (s.word (z.k.ac pn n).pos)).got t').map (Value.int .i64)))
    (htb : Blk W tnb #[.int .u32 (tnS tn ((z.k.ac pn n).act s) 0), .int .u32 (tnS tn ((z.k.ac pn n).act s) 1), .int .u32 (tnS tn ((z.k.ac pn n).act s) 2)] 39) :
    ∃ C', OS w ab sb sm rb rg bb tb tm ub fb gb hvb mb onb pub tnb n pn dr (k + 1) S0 W ((z.k.ac pn n).act s) (L.set t o) Hv' Mc On' Pu (handU Hl t (z.k.nx pn n (s.word (z.k.ac pn n).pos)).got) (tnS tn ((z.k.ac pn n).act s)) C' := by
  have htl : t < L.length := by rw [h.g.ll]; exact ht
  have hf : ∀ i, 0 ≤ s.word i := fun i => (StoreS.word_bd h.g.sc.both.yard.st.fit i).1
  have hq := qOf_some hz
  obtain ⟨C', h1, h2⟩ := h.o.step hm hn hf hq (fun j hj => by have := h.tnk j hj; omega)
  have hq2 : qOf (L.set t o) = upd (qOf L) t (nxo (z.k.nx pn n (s.word (z.k.ac pn n).pos))) := by rw [qOf_set htl o, ho]
  refine ⟨C', hg, hl, by rw [hq2]; exact h1, ?_, fun j hj => ?_, hh, fun t' => ?_, htb, h.low⟩
  · rw [hq2]
    exact h.r.step hn h2 (pot_max _ hn _) ht (by rw [hq]; exact fun e => by cases e)
  · have := h.tnk j hj
    unfold tnS; split <;> omega
  · have h3 := h.hl t'
    unfold handU
    split
    · by_cases e : t' = t
      · subst e; rw [upd_at, List.length_append]; simp; omega
      · rw [upd_ne _ e]; omega
    · omega
end
end Go.Proofs.YthhnpcniijpfeaaGreat

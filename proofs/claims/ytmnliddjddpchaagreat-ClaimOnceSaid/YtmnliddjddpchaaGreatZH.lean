/- ClaimOnce: the plain law: of pages that wait in a stack each is had once. ClaimOnce: it ends; what is laid ahead of it. ClaimOnce: what holds at each round. By an AI agent. -/
import Derived.Test.YtmnliddjddpchaaGreatZG
namespace Go.Proofs.YtmnliddjddpchaaGreat
open Go.RowKit
set_option linter.unusedSimpArgs false
set_option linter.unusedVariables false
/-- A function, turned at one place. -/
def upd {α : Type} (f : Nat → α) (t : Nat) (a : α) : Nat → α := fun j => if j = t then a else f j
theorem upd_at {α : Type} (f : Nat → α) (t : Nat) (a : α) : upd f t a t = a := if_pos rfl
theorem upd_ne {α : Type} (f : Nat → α) {t j : Nat} (h : j ≠ t) (a : α) : upd f t a j = f j := if_neg h
theorem upd_or {α : Type} {f : Nat → Option α} {t j : Nat} {a : Option α} {b : α} (h : upd f t a j = some b) : (j = t ∧ a = some b) ∨ (j ≠ t ∧ f j = some b) := by
  by_cases e : j = t
  · subst e; rw [upd_at] at h; exact .inl ⟨rfl, h⟩
  · rw [upd_ne _ e] at h; exact .inr ⟨e, h⟩
def sumN (f : Nat → Nat) : Nat → Nat
  | 0 => 0
  | n + 1 => sumN f n + f n
theorem sumN_le {f g : Nat → Nat} {c : Nat} : ∀ {n : Nat}, (∀ t, t < n → f t ≤ g t + c) → sumN f n ≤ sumN g n + n * c
  | 0, _ => by simp [sumN]
  | n + 1, h => by
    have h1 := sumN_le (n := n) (fun t ht => h t (by omega))
    have h2 := h n (by omega)
    simp only [sumN]
    have : (n + 1) * c = n * c + c := by rw [Nat.succ_mul]
    omega
/-- But for one place. -/
theorem sumN_but {f g : Nat → Nat} {c t : Nat} : ∀ {n : Nat}, t < n → (∀ j, j < n → j ≠ t → f j ≤ g j + c) → sumN f n + g t + c ≤ sumN g n + f t + n * c
  | 0, ht, _ => by omega
  | n + 1, ht, h => by
    simp only [sumN]
    have e : (n + 1) * c = n * c + c := by rw [Nat.succ_mul]
    by_cases q : t = n
    · subst q
      have h1 := sumN_le (n := t) (f := f) (g := g) (c := c) (fun j hj => h j (by omega) (by omega))
      omega
    · have h1 := sumN_but (n := n) (f := f) (g := g) (c := c) (t := t) (by omega) (fun j hj hn => h j (by omega) hn)
      have h2 := h n (by omega) (Ne.symm q)
      omega
theorem sumN_max {f : Nat → Nat} {c : Nat} : ∀ {n : Nat}, (∀ t, t < n → f t ≤ c) → sumN f n ≤ n * c
  | 0, _ => by simp [sumN]
  | n + 1, h => by
    have h1 := sumN_max (n := n) (fun t ht => h t (by omega))
    have h2 := h n (by omega)
    have e : (n + 1) * c = n * c + c := by rw [Nat.succ_mul]
    simp only [sumN]; omega
abbrev wI : Int := Ph.mk 1 1
abbrev wH : Int := Ph.mk 2 2
theorem wI_waits : Ph.waits wI 2 = true := by decide
/-- The head behind so many pops; what lies below a page. -/
def hw (pn m : Nat) : Int := Tag.mk ((pn : Int) + m) (if m < pn then m else -1)
def nxw (pn j : Nat) : Int := if j + 1 < pn then (j : Int) + 2 else 0
theorem hw_pg {pn m : Nat} (h : pn ≤ 4096) : Tag.pg (hw pn m) = if m < pn then (m : Int) else -1 := by
  unfold hw; exact tagPg_mk (by split <;> omega)
theorem hw_inj {pn m m' : Nat} (h : pn ≤ 4096) (e : hw pn m = hw pn m') : m = m' := by
  have key : ∀ k : Nat, hw pn k = ((pn : Int) + k) * 4294967296 + ((if k < pn then (k : Int) else -1) + 1) := fun k => by
    unfold hw Tag.mk Tag.okB
    rw [if_pos (by simp; split <;> omega)]
  rw [key, key] at e
  split at e <;> split at e <;> omega
theorem hw_nx {pn m : Nat} (h : pn ≤ 4096) (hm : m < pn) : Tag.nx (hw pn m) (nxw pn m - 1) = hw pn (m + 1) := by
  have key : hw pn m = ((pn : Int) + m) * 4294967296 + ((m : Int) + 1) := by
    unfold hw Tag.mk Tag.okB
    rw [if_pos hm, if_pos (by simp; omega)]
  have e : Tag.tg (hw pn m) = (pn : Int) + m := by rw [key]; unfold Tag.tg; omega
  unfold Tag.nx
  rw [e]
  unfold hw nxw
  have e2 : ((pn : Int) + m + 1) % 4294967296 = (pn : Int) + ((m + 1 : Nat) : Int) := by omega
  rw [e2]
  congr 1
  split <;> omega
/-- A page's state, what is allocated, what is marked. -/
def PgW (pn : Nat) (T : Int) (s : StoreS) (j : Nat) (a b c : Int) : Prop := s.word (pgAt pn T 9 j) = a ∧ s.word (pgAt pn T 12 j) = b ∧ s.word (pgAt pn T 13 j) = c
def HvOk (pn : Nat) (T : Int) (wv : Nat → Int) (s : StoreS) (j : Nat) : HvSt → Prop
  | .look => PgW pn T s j wI (wv (2 * j)) (wv (2 * j + 1))
  | .held v => v = wI ∧ PgW pn T s j wI (wv (2 * j)) (wv (2 * j + 1))
  | .sw .mark => PgW pn T s j wH (wv (2 * j)) (wv (2 * j + 1))
  | .sw (.alloc b) => b = wv (2 * j + 1) ∧ PgW pn T s j wH (wv (2 * j)) (wv (2 * j + 1))
  | .sw (.put b a) => b = wv (2 * j + 1) ∧ a = wv (2 * j) ∧ PgW pn T s j wH (wv (2 * j)) (wv (2 * j + 1))
  | .sw (.zero b a) => b = wv (2 * j + 1) ∧ a = wv (2 * j) ∧ PgW pn T s j wH (andU (wv (2 * j)) (wv (2 * j + 1))) (wv (2 * j + 1))
  | .hand _ => False
  | .put => False
def QOk (pn : Nat) (T : Int) (wv : Nat → Int) (s : StoreS) (m : Nat) : ClmSt → Prop
  | .pop .load => True
  | .pop (.next v) => ∃ m', m' ≤ m ∧ m' < pn ∧ v = hw pn m'
  | .pop (.cas v x) => ∃ m', m' ≤ m ∧ m' < pn ∧ v = hw pn m' ∧ x = nxw pn m'
  | .hv p k => ∃ j : Nat, p = j ∧ j < m ∧ HvOk pn T wv s j k
/-- What holds whoever has stepped. -/
structure Once (pn : Nat) (T : Int) (wv : Nat → Int) (s : StoreS) (m : Nat) (Q : Nat → Option ClmSt) (Hd : Nat → Int) : Prop where
  len : s.ws.length = (Lay.words pn T).toNat
  le : m ≤ pn
  h : s.word 12 = hw pn m
  nx : ∀ j : Nat, j < pn → s.word (nxAt pn T j) = nxw pn j
  q : ∀ t k, Q t = some k → QOk pn T wv s m k
  ne : ∀ t t' p k k', t ≠ t' → Q t = some (.hv p k) → Q t' = some (.hv p k') → False
  own : ∀ t (j : Nat) k, Q t = some (.hv j k) → Hd j = 0
  wait : ∀ j : Nat, m ≤ j → j < pn → PgW pn T s j wI (wv (2 * j)) (wv (2 * j + 1)) ∧ Hd j = 0
  had : ∀ j : Nat, j < m → (Hd j = 1 ∧ PgW pn T s j wH (andU (wv (2 * j)) (wv (2 * j + 1))) 0) ∨ ∃ t k, Q t = some (.hv j k)
section
variable {pn m t j : Nat} {T : Int} {wv : Nat → Int} {s s' : StoreS} {Q : Nat → Option ClmSt} {Hd : Nat → Int} {k k' : ClmSt}
theorem PgW.same {a b c : Int} (h : PgW pn T s j a b c) (e : ∀ kk : Int, kk = 9 ∨ kk = 12 ∨ kk = 13 → s'.word (pgAt pn T kk j) = s.word (pgAt pn T kk j)) : PgW pn T s' j a b c :=
  ⟨(e 9 (.inl rfl)).trans h.1, (e 12 (.inr (.inl rfl))).trans h.2.1, (e 13 (.inr (.inr rfl))).trans h.2.2⟩
theorem HvOk.same {k : HvSt} (h : HvOk pn T wv s j k) (e : ∀ kk : Int, kk = 9 ∨ kk = 12 ∨ kk = 13 → s'.word (pgAt pn T kk j) = s.word (pgAt pn T kk j)) : HvOk pn T wv s' j k := by
  cases k with
  | look => exact PgW.same h e
  | held v => exact ⟨h.1, PgW.same h.2 e⟩
  | hand v => exact h.elim
  | put => exact h.elim
  | sw k =>
    cases k with
    | mark => exact PgW.same h e
    | alloc b => exact ⟨h.1, PgW.same h.2 e⟩
    | put b a => exact ⟨h.1, h.2.1, PgW.same h.2.2 e⟩
    | zero b a => exact ⟨h.1, h.2.1, PgW.same h.2.2 e⟩
/-- Lane t goes on to k'; the words of no page but j turn. -/
theorem Once.page (h : Once pn T wv s m Q Hd) (hm : Lay.may pn T = true) {p : Int} {k0 k1 : HvSt} (hp : p = j) (hq : Q t = some (.hv p k0)) (hjm : j < m) (hl : s'.ws.length = s.ws.length) (e : ∀ i : Int, 0 ≤ i → i ≠ pgAt pn T 9 j → i ≠ pgAt pn T 12 j → i ≠ pgAt pn T 13 j → s'.word i = s.word i) (hk : HvOk pn T wv s' j k1) :
    Once pn T wv s' m (upd Q t (some (.hv p k1))) Hd := by
  have hmm := Lay.may_iff.1 hm
  have hle := h.le
  have pos : ∀ (i : Nat) (kk : Int), i < pn → 9 ≤ kk → kk ≤ 13 → pgAt pn T kk i = 59 + 14 * T + 5 * i + kk := fun i kk hi h9 h13 => (pgAt_eq hm h9 h13 (by omega) (by omega)).1
  have oth : ∀ i : Nat, i < pn → i ≠ j → ∀ kk : Int, kk = 9 ∨ kk = 12 ∨ kk = 13 → s'.word (pgAt pn T kk i) = s.word (pgAt pn T kk i) := fun i hi hne kk hkk => by
    rw [pos i kk hi (by omega) (by omega)]
    refine e _ (by omega) ?_ ?_ ?_ <;> rw [pos j _ (by omega) (by omega) (by omega)] <;> omega
  refine ⟨hl.trans h.len, h.le, ?_, fun i hi => ?_, fun t' k hk' => ?_, fun t1 t2 p2 k2 k3 hne h1 h2 => ?_, fun t' i k2 h1 => ?_, fun i h1 h2 => ?_, fun i h1 => ?_⟩
  · rw [e 12 (by omega) (by rw [pos j _ (by omega) (by omega) (by omega)]; omega) (by rw [pos j _ (by omega) (by omega) (by omega)]; omega) (by rw [pos j _ (by omega) (by omega) (by omega)]; omega)]; exact h.h
  · have e2 := (nxAt_eq hm (p := (i : Int)) (by omega) (by omega)).1
    rw [e _ (by omega) (by rw [pos j _ (by omega) (by omega) (by omega)]; omega) (by rw [pos j _ (by omega) (by omega) (by omega)]; omega) (by rw [pos j _ (by omega) (by omega) (by omega)]; omega)]; exact h.nx i hi
  · rcases upd_or hk' with ⟨_, e2⟩ | ⟨hne, e2⟩
    · injection e2 with e2; subst e2; exact ⟨j, hp, hjm, hk⟩
    · have h3 := h.q t' k e2
      cases k with
      | pop k => cases k <;> exact h3
      | hv p2 k2 =>
        obtain ⟨i, hi, h4, h5⟩ := h3
        have hij : i ≠ j := fun q => by subst q; exact h.ne t' t p k2 k0 hne (by rw [e2, hp, hi]) hq
        exact ⟨i, hi, h4, h5.same (oth i (by omega) hij)⟩
  · rcases upd_or h1 with ⟨r1, e1⟩ | ⟨n1, e1⟩ <;> rcases upd_or h2 with ⟨r2, e2⟩ | ⟨n2, e2⟩
    · exact hne (r1.trans r2.symm)
    · injection e1 with e1; injection e1 with e1 _; subst e1
      exact h.ne t t2 p k0 k3 (Ne.symm n2) hq e2
    · injection e2 with e2; injection e2 with e2 _; subst e2
      exact h.ne t t1 p k0 k2 (Ne.symm n1) hq e1
    · exact h.ne t1 t2 p2 k2 k3 hne e1 e2
  · rcases upd_or h1 with ⟨_, e1⟩ | ⟨_, e1⟩
    · injection e1 with e1; injection e1 with e1 _
      exact h.own t i k0 (by rw [hq, e1])
    · exact h.own t' i k2 e1
  · exact ⟨(h.wait i h1 h2).1.same (oth i h2 (by omega)), (h.wait i h1 h2).2⟩
  · rcases h.had i h1 with ⟨a, b⟩ | ⟨t', k2, e1⟩
    · by_cases hij : i = j
      · subst hij
        have := h.own t i k0 (by rw [hq, hp]); omega
      · exact .inl ⟨a, b.same (oth i (by omega) hij)⟩
    · by_cases ht : t' = t
      · subst ht
        rw [hq] at e1; injection e1 with e1; injection e1 with e1 _
        exact .inr ⟨t', k1, by rw [upd_at, e1]⟩
      · exact .inr ⟨t', k2, by rw [upd_ne _ ht]; exact e1⟩
/-- Lane t has page j, swept. -/
theorem Once.done (h : Once pn T wv s m Q Hd) (hm : Lay.may pn T = true) {p : Int} {k0 : HvSt} (hp : p = j) (hq : Q t = some (.hv p k0)) (hjm : j < m) (hl : s'.ws.length = s.ws.length) (e : ∀ i : Int, 0 ≤ i → i ≠ pgAt pn T 9 j → i ≠ pgAt pn T 12 j → i ≠ pgAt pn T 13 j → s'.word i = s.word i) (hk : PgW pn T s' j wH (andU (wv (2 * j)) (wv (2 * j + 1))) 0) :
    Once pn T wv s' m (upd Q t none) (upd Hd j 1) := by
  have hmm := Lay.may_iff.1 hm
  have hle := h.le
  have pos : ∀ (i : Nat) (kk : Int), i < pn → 9 ≤ kk → kk ≤ 13 → pgAt pn T kk i = 59 + 14 * T + 5 * i + kk := fun i kk hi h9 h13 => (pgAt_eq hm h9 h13 (by omega) (by omega)).1
  have oth : ∀ i : Nat, i < pn → i ≠ j → ∀ kk : Int, kk = 9 ∨ kk = 12 ∨ kk = 13 → s'.word (pgAt pn T kk i) = s.word (pgAt pn T kk i) := fun i hi hne kk hkk => by
    rw [pos i kk hi (by omega) (by omega)]
    refine e _ (by omega) ?_ ?_ ?_ <;> rw [pos j _ (by omega) (by omega) (by omega)] <;> omega
  refine ⟨hl.trans h.len, h.le, ?_, fun i hi => ?_, fun t' k hk' => ?_, fun t1 t2 p2 k2 k3 hne h1 h2 => ?_, fun t' i k2 h1 => ?_, fun i h1 h2 => ?_, fun i h1 => ?_⟩
  · rw [e 12 (by omega) (by rw [pos j _ (by omega) (by omega) (by omega)]; omega) (by rw [pos j _ (by omega) (by omega) (by omega)]; omega) (by rw [pos j _ (by omega) (by omega) (by omega)]; omega)]; exact h.h
  · have e2 := (nxAt_eq hm (p := (i : Int)) (by omega) (by omega)).1
    rw [e _ (by omega) (by rw [pos j _ (by omega) (by omega) (by omega)]; omega) (by rw [pos j _ (by omega) (by omega) (by omega)]; omega) (by rw [pos j _ (by omega) (by omega) (by omega)]; omega)]; exact h.nx i hi
  · rcases upd_or hk' with ⟨_, e2⟩ | ⟨hne, e2⟩
    · cases e2
    · have h3 := h.q t' k e2
      cases k with
      | pop k => cases k <;> exact h3
      | hv p2 k2 =>
        obtain ⟨i, hi, h4, h5⟩ := h3
        have hij : i ≠ j := fun q => by subst q; exact h.ne t' t p k2 k0 hne (by rw [e2, hp, hi]) hq
        exact ⟨i, hi, h4, h5.same (oth i (by omega) hij)⟩
  · rcases upd_or h1 with ⟨r1, e1⟩ | ⟨n1, e1⟩ <;> rcases upd_or h2 with ⟨r2, e2⟩ | ⟨n2, e2⟩
    · cases e1
    · cases e1
    · cases e2
    · exact h.ne t1 t2 p2 k2 k3 hne e1 e2
  · rcases upd_or h1 with ⟨_, e1⟩ | ⟨ht, e1⟩
    · cases e1
    · have hij : i ≠ j := fun q => by subst q; exact h.ne t' t p k2 k0 ht (by rw [e1, hp]) hq
      rw [upd_ne _ hij]; exact h.own t' i k2 e1
  · have hij : i ≠ j := by omega
    rw [upd_ne _ hij]
    exact ⟨(h.wait i h1 h2).1.same (oth i h2 hij), (h.wait i h1 h2).2⟩
  · by_cases hij : i = j
    · subst hij; exact .inl ⟨upd_at _ _ _, hk⟩
    · rw [upd_ne _ hij]
      rcases h.had i h1 with ⟨a, b⟩ | ⟨t', k2, e1⟩
      · exact .inl ⟨a, b.same (oth i (by omega) hij)⟩
      · refine .inr ⟨t', k2, ?_⟩
        rw [upd_ne _ (fun ht => ?_)]
        · exact e1
        · subst ht; rw [hq] at e1; injection e1 with e1; injection e1 with e1 _; omega
/-- No word turns; lane t stands elsewhere, at no page. -/
theorem Once.move (h : Once pn T wv s m Q Hd) (hl : s'.ws.length = s.ws.length) (e : ∀ i : Int, 0 ≤ i → s'.word i = s.word i) (hm : Lay.may pn T = true) (hq : ∀ p k, Q t ≠ some (.hv p k)) {o : Option ClmSt} (ho : ∀ p k, o ≠ some (.hv p k)) (hk : ∀ k, o = some k → QOk pn T wv s' m k) : Once pn T wv s' m (upd Q t o) Hd := by
  have hmm := Lay.may_iff.1 hm
  have hle := h.le
  have pos : ∀ (i : Nat) (kk : Int), i < pn → kk = 9 ∨ kk = 12 ∨ kk = 13 → s'.word (pgAt pn T kk i) = s.word (pgAt pn T kk i) := fun i kk hi hkk => e _ (by
    have := (pgAt_eq (k := kk) (p := (i : Int)) hm (by omega) (by omega) (by omega) (by omega)).1
    omega)
  refine ⟨hl.trans h.len, h.le, (e 12 (by omega)).trans h.h, fun i hi => ?_, fun t' k hk' => ?_, fun t1 t2 p2 k2 k3 hne h1 h2 => ?_, fun t' i k2 h1 => ?_, fun i h1 h2 => ?_, fun i h1 => ?_⟩
  · have e2 := (nxAt_eq hm (p := (i : Int)) (by omega) (by omega)).1
    rw [e _ (by omega)]; exact h.nx i hi
  · rcases upd_or hk' with ⟨_, e2⟩ | ⟨_, e2⟩
    · exact hk k e2
    · have h3 := h.q t' k e2
      cases k with
      | pop k => cases k <;> exact h3
      | hv p2 k2 =>
        obtain ⟨i, hi, h4, h5⟩ := h3
        exact ⟨i, hi, h4, h5.same (fun kk hkk => pos i kk (by omega) hkk)⟩
  · rcases upd_or h1 with ⟨_, e1⟩ | ⟨_, e1⟩
    · exact ho _ _ e1
    · rcases upd_or h2 with ⟨_, e2⟩ | ⟨_, e2⟩
      · exact ho _ _ e2
      · exact h.ne t1 t2 p2 k2 k3 hne e1 e2
  · rcases upd_or h1 with ⟨_, e1⟩ | ⟨_, e1⟩
    · exact (ho _ _ e1).elim
    · exact h.own t' i k2 e1
  · exact ⟨(h.wait i h1 h2).1.same (fun kk hkk => pos i kk h2 hkk), (h.wait i h1 h2).2⟩
  · rcases h.had i h1 with ⟨a, b⟩ | ⟨t', k2, e1⟩
    · exact .inl ⟨a, b.same (fun kk hkk => pos i kk (by omega) hkk)⟩
    · refine .inr ⟨t', k2, ?_⟩
      rw [upd_ne _ (fun ht => ?_)]
      · exact e1
      · subst ht; exact hq _ _ e1
/-- The head goes on: lane t has the page that was on top. -/
theorem Once.popped (h : Once pn T wv s m Q Hd) (hl : s'.ws.length = s.ws.length) (hlt : m < pn) (e : ∀ i : Int, 0 ≤ i → i ≠ 12 → s'.word i = s.word i) (hw1 : s'.word 12 = hw pn (m + 1)) (hm : Lay.may pn T = true) (hq : ∀ p k, Q t ≠ some (.hv p k)) : Once pn T wv s' (m + 1) (upd Q t (some (.hv m .look))) Hd := by
  have hmm := Lay.may_iff.1 hm
  have pos : ∀ (i : Nat) (kk : Int), i < pn → kk = 9 ∨ kk = 12 ∨ kk = 13 → s'.word (pgAt pn T kk i) = s.word (pgAt pn T kk i) := fun i kk hi hkk => by
    have := (pgAt_eq (k := kk) (p := (i : Int)) hm (by omega) (by omega) (by omega) (by omega)).1
    exact e _ (by omega) (by omega)
  have hno : ∀ t' k2, Q t' = some (.hv m k2) → False := fun t' k2 e1 => by
    obtain ⟨i, hi, h4, _⟩ := h.q t' _ e1
    omega
  refine ⟨hl.trans h.len, by omega, hw1, fun i hi => ?_, fun t' k hk' => ?_, fun t1 t2 p2 k2 k3 hne h1 h2 => ?_, fun t' i k2 h1 => ?_, fun i h1 h2 => ?_, fun i h1 => ?_⟩
  · have e2 := (nxAt_eq hm (p := (i : Int)) (by omega) (by omega)).1
    rw [e _ (by omega) (by omega)]; exact h.nx i hi
  · rcases upd_or hk' with ⟨_, e2⟩ | ⟨_, e2⟩
    · injection e2 with e2; subst e2
      exact ⟨m, rfl, by omega, (h.wait m (Nat.le_refl _) hlt).1.same (fun kk hkk => pos m kk hlt hkk)⟩
    · have h3 := h.q t' k e2
      cases k with
      | pop k =>
        cases k with
        | load => trivial
        | next v => obtain ⟨m', a, b⟩ := h3; exact ⟨m', by omega, b⟩
        | cas v x => obtain ⟨m', a, b⟩ := h3; exact ⟨m', by omega, b⟩
      | hv p2 k2 =>
        obtain ⟨i, hi, h4, h5⟩ := h3
        exact ⟨i, hi, by omega, h5.same (fun kk hkk => pos i kk (by omega) hkk)⟩
  · rcases upd_or h1 with ⟨r1, e1⟩ | ⟨_, e1⟩ <;> rcases upd_or h2 with ⟨r2, e2⟩ | ⟨_, e2⟩
    · exact hne (r1.trans r2.symm)
    · injection e1 with e1; injection e1 with e1 _; subst e1; exact hno _ _ e2
    · injection e2 with e2; injection e2 with e2 _; subst e2; exact hno _ _ e1
    · exact h.ne t1 t2 p2 k2 k3 hne e1 e2
  · rcases upd_or h1 with ⟨_, e1⟩ | ⟨_, e1⟩
    · injection e1 with e1; injection e1 with e1 _
      have : i = m := by omega
      subst this
      exact (h.wait i (Nat.le_refl _) hlt).2
    · exact h.own t' i k2 e1
  · exact ⟨(h.wait i (by omega) h2).1.same (fun kk hkk => pos i kk h2 hkk), (h.wait i (by omega) h2).2⟩
  · by_cases him : i = m
    · subst him; exact .inr ⟨t, .look, upd_at _ _ _⟩
    · rcases h.had i (by omega) with ⟨a, b⟩ | ⟨t', k2, e1⟩
      · exact .inl ⟨a, b.same (fun kk hkk => pos i kk (by omega) hkk)⟩
      · refine .inr ⟨t', k2, ?_⟩
        rw [upd_ne _ (fun ht => ?_)]
        · exact e1
        · subst ht; exact hq _ _ e1
/-- How much is still to be done by a thread. -/
def wt (pn m : Nat) : Option ClmSt → Nat
  | none => 9
  | some (.pop .load) => 9
  | some (.pop (.next v)) => if v = hw pn m then 8 else 11
  | some (.pop (.cas v _)) => if v = hw pn m then 7 else 10
  | some (.hv _ .look) => 16
  | some (.hv _ (.held _)) => 15
  | some (.hv _ (.sw .mark)) => 14
  | some (.hv _ (.sw (.alloc _))) => 13
  | some (.hv _ (.sw (.put _ _))) => 12
  | some (.hv _ (.sw (.zero _ _))) => 11
  | some (.hv _ _) => 0
theorem wt_max (pn m : Nat) (q : Option ClmSt) : wt pn m q ≤ 16 := by
  unfold wt; split <;> (try split) <;> omega
theorem wt_next (pn m m' : Nat) (q : Option ClmSt) : wt pn m' q ≤ wt pn m q + 3 := by
  unfold wt; split <;> (try split) <;> (try split) <;> omega
/-- A step of lane t. -/
theorem Once.step (h : Once pn T wv s m Q Hd) (hm : Lay.may pn T = true) (hp : pn ≤ 4096) (hq : Q t = some k) :
    (∃ k1 m', (claimA pn T 12 2).nx k (s.word ((claimA pn T 12 2).ac k).pos) = .inl k1 ∧ Once pn T wv (((claimA pn T 12 2).ac k).act s) m' (upd Q t (some k1)) Hd ∧ ((m' = m ∧ wt pn m (some k1) + 1 ≤ wt pn m (some k)) ∨ (m' = m + 1 ∧ wt pn m' (some k1) ≤ wt pn m (some k) + 9))) ∨
    (∃ j : Nat, (claimA pn T 12 2).nx k (s.word ((claimA pn T 12 2).ac k).pos) = .inr j ∧ j < pn ∧ Hd j = 0 ∧ Once pn T wv (((claimA pn T 12 2).ac k).act s) m (upd Q t none) (upd Hd j 1) ∧ wt pn m none + 1 ≤ wt pn m (some k)) ∨
    ((claimA pn T 12 2).nx k (s.word ((claimA pn T 12 2).ac k).pos) = .inr (-1) ∧ m = pn ∧ Once pn T wv (((claimA pn T 12 2).ac k).act s) m (upd Q t none) Hd ∧ 1 ≤ wt pn m (some k)) := by
  have hmm := Lay.may_iff.1 hm
  have hok := h.q t k hq
  have hle := h.le
  have pos : ∀ (i : Nat) (kk : Int), i < pn → 9 ≤ kk → kk ≤ 13 → pgAt pn T kk i = 59 + 14 * T + 5 * i + kk ∧ 59 + 14 * T + 5 * i + kk < Lay.words pn T := fun i kk hi h9 h13 => by
    have := pgAt_eq (k := kk) (p := (i : Int)) hm h9 h13 (by omega) (by omega)
    exact ⟨this.1, this.2.2⟩
  have h0 := pos 0 9 (by omega) (by omega) (by omega)
  have hi : s.inR 12 := ⟨by omega, by rw [h.len]; omega⟩
  have len := Ac.act_len ((claimA pn T 12 2).ac k) s
  have same : ∀ (a i : Int), s.inR i → ∀ x : Int, 0 ≤ x → (s.acc a i (s.word i)).word x = s.word x := fun a i hir x hx => by
    by_cases e : x = i
    · subst e; exact StoreS.acc_word hir _ _
    · exact StoreS.acc_word_other hir.1 hx e _ _
  cases k with
  | pop k =>
    have hnh : ∀ p k2, Q t ≠ some (.hv p k2) := fun p k2 e => by rw [hq] at e; cases e
    cases k with
    | load =>
      have e1 : (claimA pn T 12 2).nx (.pop .load) (s.word ((claimA pn T 12 2).ac (.pop .load)).pos) = (match (popA pn T 12).nx .load (s.word 12) with | .inl k1 => Sum.inl (ClmSt.pop k1) | .inr p => if p = -2 then .inr (-2) else if p < 0 then .inr (-1) else if (pn : Int) ≤ p then .inr (-2) else .inl (.hv p .look)) := rfl
      have e2 : (popA pn T 12).nx .load (s.word 12) = if Tag.pg (s.word 12) < 0 then .inr (-1) else if (pn : Int) ≤ Tag.pg (s.word 12) then .inr (-2) else .inl (.next (s.word 12)) := rfl
      rw [h.h, hw_pg hp] at e2
      by_cases c : m < pn
      · rw [if_pos c, if_neg (by omega), if_neg (by omega)] at e2
        rw [h.h, e2] at e1
        refine .inl ⟨_, m, e1, h.move len (same 1 12 hi) hm hnh (fun p k2 e => by cases e) (fun k2 e => ?_), .inl ⟨rfl, ?_⟩⟩
        · injection e with e; subst e; exact ⟨m, Nat.le_refl _, c, rfl⟩
        · simp [wt]
      · rw [if_neg c, if_pos (by omega)] at e2
        rw [h.h, e2] at e1
        refine .inr (.inr ⟨e1, by omega, h.move len (same 1 12 hi) hm hnh (fun p k2 e => by cases e) (fun k2 e => by cases e), by simp [wt]⟩)
    | next v =>
      obtain ⟨m', a, b, rfl⟩ := hok
      have hpg : Tag.pg (hw pn m') = (m' : Int) := by rw [hw_pg hp, if_pos b]
      have e2 : (popA pn T 12).nx (.next (hw pn m')) (s.word (nxAt pn T m')) = if (pn : Int) < s.word (nxAt pn T m') then .inr (-2) else .inl (.cas (hw pn m') (s.word (nxAt pn T m'))) := rfl
      have hx := h.nx m' b
      have hb : nxw pn m' ≤ pn := by unfold nxw; split <;> omega
      rw [if_neg (by rw [hx]; omega)] at e2
      have e1 : (claimA pn T 12 2).nx (.pop (.next (hw pn m'))) (s.word ((claimA pn T 12 2).ac (.pop (.next (hw pn m')))).pos) = .inl (.pop (.cas (hw pn m') (nxw pn m'))) := by
        show (match (popA pn T 12).nx (.next (hw pn m')) (s.word (nxAt pn T (Tag.pg (hw pn m')))) with | .inl k1 => Sum.inl (ClmSt.pop k1) | .inr p => if p = -2 then .inr (-2) else if p < 0 then .inr (-1) else if (pn : Int) ≤ p then .inr (-2) else .inl (.hv p .look)) = _
        rw [hpg, e2, hx]
      have q2 := nxAt_eq hm (p := (m' : Int)) (by omega) (by omega)
      have hir : s.inR (nxAt pn T (Tag.pg (hw pn m'))) := by rw [hpg]; exact ⟨by omega, by rw [h.len]; omega⟩
      refine .inl ⟨_, m, e1, h.move len (same 1 _ hir) hm hnh (fun p k2 e => by cases e) (fun k2 e => ?_), .inl ⟨rfl, ?_⟩⟩
      · injection e with e; subst e; exact ⟨m', a, b, rfl, rfl⟩
      · simp only [wt]; split <;> omega
    | cas v x =>
      obtain ⟨m', a, b, rfl, rfl⟩ := hok
      have hpg : Tag.pg (hw pn m') = (m' : Int) := by rw [hw_pg hp, if_pos b]
      have e2 : (popA pn T 12).nx (.cas (hw pn m') (nxw pn m')) (s.word 12) = if s.word 12 = hw pn m' then .inr (Tag.pg (hw pn m')) else .inl .load := rfl
      have e0 : (claimA pn T 12 2).nx (.pop (.cas (hw pn m') (nxw pn m'))) (s.word ((claimA pn T 12 2).ac (.pop (.cas (hw pn m') (nxw pn m')))).pos) = (match (popA pn T 12).nx (.cas (hw pn m') (nxw pn m')) (s.word 12) with | .inl k1 => Sum.inl (ClmSt.pop k1) | .inr p => if p = -2 then .inr (-2) else if p < 0 then .inr (-1) else if (pn : Int) ≤ p then .inr (-2) else .inl (.hv p .look)) := rfl
      have ea : ((claimA pn T 12 2).ac (.pop (.cas (hw pn m') (nxw pn m')))).act s = if s.word 12 = hw pn m' then s.acc 3 12 (Tag.nx (hw pn m') (nxw pn m' - 1)) else s.acc 4 12 (s.word 12) := by
        show (Ac.cas 12 (hw pn m') (Tag.nx (hw pn m') (nxw pn m' - 1))).act s = _
        simp only [Ac.act]
      by_cases c : s.word 12 = hw pn m'
      · obtain rfl : m = m' := hw_inj hp (h.h.symm.trans c)
        rw [if_pos c, hw_nx hp b] at ea
        rw [if_pos c, hpg] at e2
        rw [e2] at e0
        dsimp only at e0
        rw [if_neg (by omega), if_neg (by omega), if_neg (by omega)] at e0
        refine .inl ⟨_, m + 1, e0, ?_, .inr ⟨rfl, ?_⟩⟩
        · refine h.popped len b (fun i h1 h2 => ?_) ?_ hm hnh
          · rw [ea]; exact StoreS.acc_word_other (by omega) h1 h2 _ _
          · rw [ea]; exact StoreS.acc_word hi _ _
        · simp only [wt]; split <;> omega
      · rw [if_neg c] at e2 ea
        rw [e2] at e0
        refine .inl ⟨_, m, e0, h.move len (by rw [ea]; exact same 4 12 hi) hm hnh (fun p k2 e => by cases e) (fun k2 e => ?_), .inl ⟨rfl, ?_⟩⟩
        · injection e with e; subst e; trivial
        · have : hw pn m' ≠ hw pn m := fun q => c (h.h.trans q.symm)
          simp only [wt]; rw [if_neg this]; omega
  | hv p k =>
    obtain ⟨j, rfl, hjm, hv⟩ := hok
    have P9 := pos j 9 (by omega) (by omega) (by omega)
    have P12 := pos j 12 (by omega) (by omega) (by omega)
    have P13 := pos j 13 (by omega) (by omega) (by omega)
    have I9 : s.inR (pgAt pn T 9 j) := ⟨by omega, by rw [h.len]; omega⟩
    have I12 : s.inR (pgAt pn T 12 j) := ⟨by omega, by rw [h.len]; omega⟩
    have I13 : s.inR (pgAt pn T 13 j) := ⟨by omega, by rw [h.len]; omega⟩
    have oth : ∀ (kk a v : Int), kk = 9 ∨ kk = 12 ∨ kk = 13 → ∀ i : Int, 0 ≤ i → i ≠ pgAt pn T 9 j → i ≠ pgAt pn T 12 j → i ≠ pgAt pn T 13 j → (s.acc a (pgAt pn T kk j) v).word i = s.word i := fun kk a v hkk i h1 h2 h3 h4 => by
      rcases hkk with rfl | rfl | rfl
      · exact StoreS.acc_word_other I9.1 h1 h2 _ _
      · exact StoreS.acc_word_other I12.1 h1 h3 _ _
      · exact StoreS.acc_word_other I13.1 h1 h4 _ _
    cases k with
    | look =>
      have e1 : (haveA pn T 2 j).nx .look (s.word (pgAt pn T 9 j)) = if Ph.waits (s.word (pgAt pn T 9 j)) 2 = true then .inl (.held (s.word (pgAt pn T 9 j))) else if s.word (pgAt pn T 9 j) = Ph.mk 2 4 then .inl (.hand (s.word (pgAt pn T 9 j))) else if s.word (pgAt pn T 9 j) = Ph.mk 2 5 then .inl .put else .inr 0 := rfl
      rw [hv.1, if_pos wI_waits] at e1
      have e0 : (claimA pn T 12 2).nx (.hv j .look) (s.word ((claimA pn T 12 2).ac (.hv j .look)).pos) = .inl (.hv j (.held wI)) := by
        show (match (haveA pn T 2 j).nx .look (s.word (pgAt pn T 9 j)) with | .inl k1 => Sum.inl (ClmSt.hv j k1) | .inr b => if b = 0 then .inl (.pop .load) else .inr (j : Int)) = _
        rw [hv.1, e1]
      refine .inl ⟨_, m, e0, h.page hm rfl hq hjm len (oth 9 1 _ (.inl rfl)) ⟨rfl, ?_⟩, .inl ⟨rfl, by simp [wt]⟩⟩
      exact ⟨(same 1 _ I9 _ I9.1).trans hv.1, (same 1 _ I9 _ I12.1).trans hv.2.1, (same 1 _ I9 _ I13.1).trans hv.2.2⟩
    | held v =>
      obtain ⟨rfl, v1, v2, v3⟩ := hv
      have e0 : (claimA pn T 12 2).nx (.hv j (.held wI)) (s.word ((claimA pn T 12 2).ac (.hv j (.held wI))).pos) = .inl (.hv j (.sw .mark)) := by
        show (match (if s.word (pgAt pn T 9 j) = wI then Sum.inl (HvSt.sw .mark) else .inl .look) with | .inl k1 => Sum.inl (ClmSt.hv j k1) | .inr b => if b = (0 : Int) then .inl (.pop .load) else .inr (j : Int)) = _
        rw [if_pos v1]
      have ea : ((claimA pn T 12 2).ac (.hv j (.held wI))).act s = s.acc 3 (pgAt pn T 9 j) wH := by
        show (Ac.cas (pgAt pn T 9 j) wI (Ph.mk 2 2)).act s = _
        simp only [Ac.act]; rw [if_pos v1]
      refine .inl ⟨_, m, e0, h.page hm rfl hq hjm len (by rw [ea]; exact oth 9 3 _ (.inl rfl)) ?_, .inl ⟨rfl, by simp [wt]⟩⟩
      rw [ea]
      exact ⟨StoreS.acc_word I9 _ _, (StoreS.acc_word_other I9.1 I12.1 (by omega) _ _).trans v2, (StoreS.acc_word_other I9.1 I13.1 (by omega) _ _).trans v3⟩
    | hand v => exact hv.elim
    | put => exact hv.elim
    | sw k =>
      cases k with
      | mark =>
        have e0 : (claimA pn T 12 2).nx (.hv j (.sw .mark)) (s.word ((claimA pn T 12 2).ac (.hv j (.sw .mark))).pos) = .inl (.hv j (.sw (.alloc (s.word (pgAt pn T 13 j))))) := rfl
        rw [hv.2.2] at e0
        refine .inl ⟨_, m, e0, h.page hm rfl hq hjm len (oth 13 1 _ (.inr (.inr rfl))) ⟨rfl, ?_⟩, .inl ⟨rfl, by simp [wt]⟩⟩
        exact ⟨(same 1 _ I13 _ I9.1).trans hv.1, (same 1 _ I13 _ I12.1).trans hv.2.1, (same 1 _ I13 _ I13.1).trans hv.2.2⟩
      | alloc b =>
        obtain ⟨rfl, v1, v2, v3⟩ := hv
        have e0 : ∀ b, (claimA pn T 12 2).nx (.hv j (.sw (.alloc b))) (s.word ((claimA pn T 12 2).ac (.hv j (.sw (.alloc b)))).pos) = .inl (.hv j (.sw (.put b (s.word (pgAt pn T 12 j))))) := fun b => rfl
        rw [v2] at e0
        refine .inl ⟨_, m, e0 _, h.page hm rfl hq hjm len (oth 12 1 _ (.inr (.inl rfl))) ⟨rfl, rfl, ?_⟩, .inl ⟨rfl, by simp [wt]⟩⟩
        exact ⟨(same 1 _ I12 _ I9.1).trans v1, (same 1 _ I12 _ I12.1).trans v2, (same 1 _ I12 _ I13.1).trans v3⟩
      | put b a =>
        obtain ⟨rfl, rfl, v1, v2, v3⟩ := hv
        have e0 : ∀ b a, (claimA pn T 12 2).nx (.hv j (.sw (.put b a))) (s.word ((claimA pn T 12 2).ac (.hv j (.sw (.put b a)))).pos) = .inl (.hv j (.sw (.zero b a))) := fun b a => rfl
        refine .inl ⟨_, m, e0 _ _, h.page hm rfl hq hjm len (oth 12 2 _ (.inr (.inl rfl))) ⟨rfl, rfl, ?_⟩, .inl ⟨rfl, by simp [wt]⟩⟩
        exact ⟨(StoreS.acc_word_other I12.1 I9.1 (by omega) _ _).trans v1, StoreS.acc_word I12 _ _, (StoreS.acc_word_other I12.1 I13.1 (by omega) _ _).trans v3⟩
      | zero b a =>
        obtain ⟨rfl, rfl, v1, v2, v3⟩ := hv
        have e0 : ∀ b a, (claimA pn T 12 2).nx (.hv j (.sw (.zero b a))) (s.word ((claimA pn T 12 2).ac (.hv j (.sw (.zero b a)))).pos) = .inr j := fun b a => rfl
        refine .inr (.inl ⟨j, e0 _ _, by omega, h.own t j _ hq, h.done hm rfl hq hjm len (oth 13 2 _ (.inr (.inr rfl))) ?_, by simp [wt]⟩)
        exact ⟨(StoreS.acc_word_other I13.1 I9.1 (by omega) _ _).trans v1, (StoreS.acc_word_other I13.1 I12.1 (by omega) _ _).trans v2, StoreS.acc_word I13 _ _⟩
end
/-- What is still to be done. -/
def pot (pn n m : Nat) (Q : Nat → Option ClmSt) (Ov : Nat → Bool) : Nat := sumN (fun t => if Ov t = true then 0 else wt pn m (Q t)) n + 30 * (pn - m)
theorem pot_max {pn n m : Nat} (h1 : n ≤ 6) (h2 : pn ≤ 24) (Q : Nat → Option ClmSt) (Ov : Nat → Bool) : pot pn n m Q Ov ≤ 816 := by
  have h := sumN_max (n := n) (f := fun t => if Ov t = true then 0 else wt pn m (Q t)) (c := 16) (fun t _ => by
    have := wt_max pn m (Q t)
    split <;> omega)
  unfold pot; omega
theorem pot_step {pn n m m' t : Nat} {Q : Nat → Option ClmSt} {Ov Ov' : Nat → Bool} {o : Option ClmSt} (ht : t < n) (hn : n ≤ 6) (hm' : m' ≤ pn) (hov : Ov t = false) (hov' : ∀ j, j ≠ t → Ov' j = Ov j) (h : (m' = m ∧ (if Ov' t = true then 0 else wt pn m o) + 1 ≤ wt pn m (Q t)) ∨ (m' = m + 1 ∧ wt pn m' o ≤ wt pn m (Q t) + 9)) : pot pn n m' (upd Q t o) Ov' + 1 ≤ pot pn n m Q Ov := by
  have hgt : (if Ov t = true then 0 else wt pn m (Q t)) = wt pn m (Q t) := by simp [hov]
  have hft : (if Ov' t = true then 0 else wt pn m' (upd Q t o t)) = if Ov' t = true then 0 else wt pn m' o := by rw [upd_at]
  rcases h with ⟨rfl, h⟩ | ⟨rfl, h⟩
  · have k := sumN_but (f := fun j => if Ov' j = true then 0 else wt pn m' (upd Q t o j)) (g := fun j => if Ov j = true then 0 else wt pn m' (Q j)) (c := 0) ht (fun j _ hne => by
      rw [hov' j hne, upd_ne _ hne]; omega)
    rw [hgt, hft] at k
    unfold pot; omega
  · have k := sumN_but (f := fun j => if Ov' j = true then 0 else wt pn (m + 1) (upd Q t o j)) (g := fun j => if Ov j = true then 0 else wt pn m (Q j)) (c := 3) ht (fun j _ hne => by
      rw [hov' j hne, upd_ne _ hne]
      have := wt_next pn m (m + 1) (Q j)
      split <;> omega)
    rw [hgt, hft] at k
    have : (if Ov' t = true then 0 else wt pn (m + 1) o) ≤ wt pn m (Q t) + 9 := by split <;> omega
    unfold pot; omega
/-- Behind the drawn ones all are over, or one that is not comes soon. -/
def EndI (n drawn i pt : Nat) (Ov : Nat → Bool) : Prop := drawn ≤ i → (∀ t, t < n → Ov t = true) ∨ ∃ d, d < n ∧ Ov ((i + d) % n) = false ∧ n * pt + d + (i - drawn) ≤ 5500
theorem next_at {n i t : Nat} (ht : t < n) : ∃ d, d < n ∧ (i + d) % n = t := by
  have hn : 0 < n := by omega
  have hi := Nat.mod_lt i hn
  by_cases c : i % n ≤ t
  · refine ⟨t - i % n, by omega, ?_⟩
    have e : i + (t - i % n) = t + n * (i / n) := by have := Nat.div_add_mod i n; omega
    rw [e, Nat.add_mul_mod_self_left, Nat.mod_eq_of_lt ht]
  · refine ⟨t + n - i % n, by omega, ?_⟩
    have e : i + (t + n - i % n) = t + n * (i / n + 1) := by have := Nat.div_add_mod i n; rw [Nat.mul_add]; omega
    rw [e, Nat.add_mul_mod_self_left, Nat.mod_eq_of_lt ht]
theorem all_or {n : Nat} (Ov : Nat → Bool) : (∀ t, t < n → Ov t = true) ∨ ∃ t, t < n ∧ Ov t = false := by
  induction n with
  | zero => exact .inl (fun t ht => by omega)
  | succ n ih =>
    rcases ih with h | ⟨t, h1, h2⟩
    · cases e : Ov n
      · exact .inr ⟨n, by omega, e⟩
      · exact .inl (fun t ht => by
          by_cases q : t = n
          · subst q; exact e
          · exact h t (by omega))
    · exact .inr ⟨t, by omega, h2⟩
theorem EndI.fresh {n drawn i pt : Nat} {Ov : Nat → Bool} (hn : n ≤ 6) (hp : pt ≤ 816) (h : i ≤ drawn) : EndI n drawn i pt Ov := fun hd => by
  rcases all_or (n := n) Ov with h1 | ⟨t, h1, h2⟩
  · exact .inl h1
  · obtain ⟨d, d1, d2⟩ := next_at (i := i) h1
    refine .inr ⟨d, d1, by rw [d2]; exact h2, ?_⟩
    have : n * pt ≤ 6 * 816 := Nat.mul_le_mul hn hp
    omega
theorem EndI.skip {n drawn i t pt : Nat} {Ov : Nat → Bool} (h : EndI n drawn i pt Ov) (hn : n ≤ 6) (hn1 : 1 ≤ n) (hp : pt ≤ 816) (ht : drawn ≤ i → t = i % n) (ho : Ov t = true) : EndI n drawn (i + 1) pt Ov := by
  by_cases c : drawn ≤ i
  · intro _
    rcases h c with h1 | ⟨d, d1, d2, d3⟩
    · exact .inl h1
    · have hd : d ≠ 0 := fun e => by
        subst e
        rw [Nat.add_zero, ← ht c, ho] at d2; cases d2
      refine .inr ⟨d - 1, by omega, ?_, by omega⟩
      rw [show i + 1 + (d - 1) = i + d by omega]; exact d2
  · exact EndI.fresh hn hp (by omega)
theorem EndI.step {n drawn i t pt pt' : Nat} {Ov Ov' : Nat → Bool} (h : EndI n drawn i pt Ov) (hn : n ≤ 6) (hp : pt' + 1 ≤ pt) (hp2 : pt ≤ 816) (htn : t < n) (ho : Ov t = false) : EndI n drawn (i + 1) pt' Ov' := by
  by_cases c : drawn ≤ i
  · intro _
    rcases h c with h1 | ⟨d, d1, d2, d3⟩
    · rw [h1 t htn] at ho; cases ho
    · rcases all_or (n := n) Ov' with h1 | ⟨t', h1, h2⟩
      · exact .inl h1
      · obtain ⟨d', e1, e2⟩ := next_at (i := i + 1) h1
        refine .inr ⟨d', e1, by rw [e2]; exact h2, ?_⟩
        have e : n * (pt' + 1) ≤ n * pt := Nat.mul_le_mul_left n hp
        rw [Nat.mul_add, Nat.mul_one] at e
        omega
  · exact EndI.fresh hn (by omega) (by omega)
theorem EndI.over {n drawn i pt : Nat} {Ov : Nat → Bool} (h : EndI n drawn i pt Ov) (hi : drawn + 6000 ≤ i) : ∀ t, t < n → Ov t = true := by
  rcases h (by omega) with h1 | ⟨d, d1, d2, d3⟩
  · exact h1
  · omega
/-- What holds at each round. -/
structure Rnd (pn : Nat) (T : Int) (wv : Nat → Int) (n drawn i : Nat) (s : StoreS) (Q : Nat → Option ClmSt) (Ov : Nat → Bool) (Hd : Nat → Int) : Prop where
  once : ∃ m, Once pn T wv s m Q Hd ∧ (∀ t, Ov t = true → Q t = none ∧ m = pn) ∧ EndI n drawn i (pot pn n m Q Ov) Ov
section
variable {pn n drawn i t : Nat} {T : Int} {wv : Nat → Int} {s : StoreS} {Q : Nat → Option ClmSt} {Ov : Nat → Bool} {Hd : Nat → Int} {k : ClmSt}
theorem Rnd.skip (h : Rnd pn T wv n drawn i s Q Ov Hd) (h1 : n ≤ 6) (h2 : 1 ≤ n) (h3 : pn ≤ 24) (ht : drawn ≤ i → t = i % n) (ho : Ov t = true) : Rnd pn T wv n drawn (i + 1) s Q Ov Hd := by
  obtain ⟨m, a, b, c⟩ := h.once
  exact ⟨m, a, b, c.skip h1 h2 (pot_max h1 h3 _ _) ht ho⟩
/-- A thread that has no claim takes one. -/
theorem Rnd.begin (h : Rnd pn T wv n drawn i s Q Ov Hd) (hm : Lay.may pn T = true) (ho : Ov t = false) (hq : Q t = none) : Rnd pn T wv n drawn i s (upd Q t (some (.pop .load))) Ov Hd := by
  obtain ⟨m, a, b, c⟩ := h.once
  refine ⟨m, a.move rfl (fun _ _ => rfl) hm (fun p k e => by rw [hq] at e; cases e) (fun p k e => by cases e) (fun k e => by injection e with e; subst e; trivial), fun t' e => ?_, ?_⟩
  · have hne : t' ≠ t := fun q => by subst q; rw [ho] at e; cases e
    rw [upd_ne _ hne]; exact b t' e
  · have e : pot pn n m (upd Q t (some (.pop .load))) Ov = pot pn n m Q Ov := by
      unfold pot
      congr 1
      congr 1
      funext j
      by_cases q : j = t
      · subst q; rw [upd_at, hq]; rfl
      · rw [upd_ne _ q]
    rw [e]; exact c
theorem Rnd.step (h : Rnd pn T wv n drawn i s Q Ov Hd) (hm : Lay.may pn T = true) (h1 : n ≤ 6) (h3 : pn ≤ 24) (htn : t < n) (ho : Ov t = false) (hq : Q t = some k) :
    (∃ k1, (claimA pn T 12 2).nx k (s.word ((claimA pn T 12 2).ac k).pos) = .inl k1 ∧ Rnd pn T wv n drawn (i + 1) (((claimA pn T 12 2).ac k).act s) (upd Q t (some k1)) Ov Hd) ∨
    (∃ j : Nat, (claimA pn T 12 2).nx k (s.word ((claimA pn T 12 2).ac k).pos) = .inr j ∧ j < pn ∧ Hd j = 0 ∧ (pn = 1 → ∀ t' p k', upd Q t none t' ≠ some (.hv p k')) ∧ Rnd pn T wv n drawn (i + 1) (((claimA pn T 12 2).ac k).act s) (upd Q t none) Ov (upd Hd j 1)) ∨
    ((claimA pn T 12 2).nx k (s.word ((claimA pn T 12 2).ac k).pos) = .inr (-1) ∧ Rnd pn T wv n drawn (i + 1) (((claimA pn T 12 2).ac k).act s) (upd Q t none) (upd Ov t true) Hd) := by
  obtain ⟨m, a, b, c⟩ := h.once
  have hx := pot_max (m := m) h1 h3 Q Ov
  have hne : ∀ t', Ov t' = true → t' ≠ t := fun t' e q => by subst q; rw [ho] at e; cases e
  rcases a.step hm (by omega) hq with ⟨k1, m', e1, e2, e3⟩ | ⟨j, e1, e2, e3, e4, e5⟩ | ⟨e1, e2, e3, e4⟩
  · have hp := pot_step (Q := Q) (m := m) (Ov := Ov) (o := some k1) (m' := m') (Ov' := Ov) htn h1 e2.le ho (fun _ _ => rfl) (by
      rw [hq, ho]
      rcases e3 with ⟨q1, q2⟩ | ⟨q1, q2⟩
      · exact .inl ⟨q1, by simpa using q2⟩
      · exact .inr ⟨q1, q2⟩)
    refine .inl ⟨k1, e1, m', e2, fun t' e => ?_, c.step h1 hp hx htn ho⟩
    rw [upd_ne _ (hne t' e)]
    refine ⟨(b t' e).1, ?_⟩
    have := (b t' e).2; have := e2.le
    rcases e3 with ⟨q1, _⟩ | ⟨q1, _⟩ <;> omega
  · have hp := pot_step (Q := Q) (m := m) (Ov := Ov) (o := none) (m' := m) (Ov' := Ov) htn h1 a.le ho (fun _ _ => rfl) (by rw [hq, ho]; exact .inl ⟨rfl, by simpa using e5⟩)
    refine .inr (.inl ⟨j, e1, e2, e3, fun hp1 t' p k' e => ?_, m, e4, fun t' e => ?_, c.step h1 hp hx htn ho⟩)
    · obtain ⟨i2, q1, q2, _⟩ := e4.q t' _ e
      have q3 := e4.own t' i2 k' (by rw [e, q1])
      have : i2 = j := by have := e4.le; omega
      subst this
      rw [upd_at] at q3; omega
    · rw [upd_ne _ (hne t' e)]; exact b t' e
  · have hp := pot_step (Q := Q) (m := m) (Ov := Ov) (o := none) (m' := m) (Ov' := upd Ov t true) htn h1 a.le ho (fun j hj => upd_ne _ hj _) (by rw [hq]; exact .inl ⟨rfl, by rw [upd_at]; simpa using e4⟩)
    refine .inr (.inr ⟨e1, m, e3, fun t' e => ?_, c.step h1 hp hx htn ho⟩)
    by_cases q : t' = t
    · subst q; exact ⟨upd_at _ _ _, e2⟩
    · rw [upd_ne _ q] at e; rw [upd_ne _ q]; exact b t' e
/-- At the end. -/
theorem Rnd.over (h : Rnd pn T wv n drawn i s Q Ov Hd) (h2 : 1 ≤ n) (hz : ∀ t, n ≤ t → Q t = none) (hi : drawn + 6000 ≤ i) : ∀ j, j < pn → Hd j = 1 ∧ PgW pn T s j wH (andU (wv (2 * j)) (wv (2 * j + 1))) 0 := fun j hj => by
  obtain ⟨m, a, b, c⟩ := h.once
  have ho := c.over hi
  have hm := (b 0 (ho 0 h2)).2
  rcases a.had j (by omega) with q | ⟨t, k, q⟩
  · exact q
  · by_cases ht : t < n
    · rw [(b t (ho t ht)).1] at q; cases q
    · rw [hz t (by omega)] at q; cases q
end
section
variable {P T g : Int} {pn : Nat} {wv : Nat → Int} {s : StoreS}
theorem pileF_other (i : Int) (hi : 0 ≤ i) : ∀ (l : List Int) (s : StoreS), (∀ p ∈ l, 0 ≤ nxAt P T p ∧ i ≠ nxAt P T p) → (pileF P T l s).2.word i = s.word i
  | [], s, _ => rfl
  | p :: l, s, h => by
    rw [pileF_cons]
    obtain ⟨h1, h2⟩ := h p (List.mem_cons_self ..)
    show ((pileF P T l s).2.acc 2 (nxAt P T p) _).word i = _
    rw [StoreS.acc_word_other h1 hi h2]
    exact pileF_other i hi l s (fun q hq => h q (List.mem_cons_of_mem _ hq))
theorem pileF_nx (hm : Lay.may pn T = true) : ∀ (c k : Nat) (s : StoreS), k + c = pn → s.ws.length = (Lay.words pn T).toNat → (pileF pn T ((List.range' k c).map (fun (i : Nat) => (i : Int))) s).1 = (if 0 < c then (k : Int) else -1) ∧ ∀ j : Nat, k ≤ j → j < pn → (pileF pn T ((List.range' k c).map (fun (i : Nat) => (i : Int))) s).2.word (nxAt pn T j) = nxw pn j
  | 0, k, s, h, _ => ⟨rfl, fun j h1 h2 => by omega⟩
  | c + 1, k, s, h, hl => by
    have hmm := Lay.may_iff.1 hm
    obtain ⟨i1, i2⟩ := pileF_nx hm c (k + 1) s (by omega) hl
    have ek := nxAt_eq hm (p := (k : Int)) (by omega) (by omega)
    rw [List.range'_succ, List.map_cons, pileF_cons]
    refine ⟨by simp, fun j h1 h2 => ?_⟩
    have ej := nxAt_eq hm (p := (j : Int)) (by omega) (by omega)
    show ((pileF pn T ((List.range' (k + 1) c).map (fun (i : Nat) => (i : Int))) s).2.acc 2 (nxAt pn T k) ((pileF pn T ((List.range' (k + 1) c).map (fun (i : Nat) => (i : Int))) s).1 + 1)).word (nxAt pn T j) = nxw pn j
    by_cases e : j = k
    · subst e
      rw [StoreS.acc_word ⟨by omega, by rw [pileF_len, hl]; omega⟩, i1]
      unfold nxw; split <;> split <;> omega
    · rw [StoreS.acc_word_other (by omega) (by omega) (by omega)]
      exact i2 j (by omega) h2
theorem laidN_pg (hm : Lay.may P T = true) (hl : s.ws.length = (Lay.words P T).toNat) : ∀ (n : Nat), (n : Int) ≤ P → ∀ j : Nat, j < n → (laidN P T g wv n s).word (pgAt P T 9 j) = Ph.mk (g - 1) 1 ∧ (laidN P T g wv n s).word (pgAt P T 12 j) = wv (2 * j) ∧ (laidN P T g wv n s).word (pgAt P T 13 j) = wv (2 * j + 1)
  | 0, _, j, h => by omega
  | n + 1, hn, j, h => by
    have hmm := Lay.may_iff.1 hm
    have pos : ∀ (i : Nat) (kk : Int), i < n + 1 → 9 ≤ kk → kk ≤ 13 → pgAt P T kk i = 59 + 14 * T + 5 * i + kk ∧ 59 + 14 * T + 5 * i + kk < Lay.words P T := fun i kk hi h9 h13 => by
      have := pgAt_eq (k := kk) (p := (i : Int)) hm h9 h13 (by omega) (by omega)
      exact ⟨this.1, this.2.2⟩
    have ih := laidN_pg hm hl n (by omega)
    obtain ⟨s0, hs0⟩ : ∃ q, laidN P T g wv n s = q := ⟨_, rfl⟩
    have hl0 : s0.ws.length = (Lay.words P T).toNat := by rw [← hs0, laidN_len]; exact hl
    rw [laidN, laid1]
    rw [hs0] at ih ⊢
    have n9 := pos n 9 (by omega) (by omega) (by omega)
    have n12 := pos n 12 (by omega) (by omega) (by omega)
    have n13 := pos n 13 (by omega) (by omega) (by omega)
    have q9 := pos j 9 h (by omega) (by omega)
    have q12 := pos j 12 h (by omega) (by omega)
    have q13 := pos j 13 h (by omega) (by omega)
    by_cases e : j = n
    · subst e
      refine ⟨?_, ?_, ?_⟩
      · rw [StoreS.acc_word_other (by omega) (by omega) (by omega), StoreS.acc_word_other (by omega) (by omega) (by omega), StoreS.acc_word ⟨by omega, by rw [hl0]; omega⟩]
      · rw [StoreS.acc_word_other (by omega) (by omega) (by omega), StoreS.acc_word ⟨by omega, by simp only [StoreS.acc, List.length_set]; omega⟩]
      · rw [StoreS.acc_word ⟨by omega, by simp only [StoreS.acc, List.length_set]; omega⟩]
    · have far : ∀ i : Int, 0 ≤ i → i ≠ pgAt P T 9 n → i ≠ pgAt P T 12 n → i ≠ pgAt P T 13 n → (((s0.acc 2 (pgAt P T 9 n) (Ph.mk (g - 1) 1)).acc 2 (pgAt P T 12 n) (wv (2 * n))).acc 2 (pgAt P T 13 n) (wv (2 * n + 1))).word i = s0.word i := fun i a b c d => by
        rw [StoreS.acc_word_other (by omega) a d, StoreS.acc_word_other (by omega) a c, StoreS.acc_word_other (by omega) a b]
      rw [far _ (by omega) (by omega) (by omega) (by omega), far _ (by omega) (by omega) (by omega) (by omega), far _ (by omega) (by omega) (by omega) (by omega)]
      exact ih j (by omega)
theorem pagesL_range (n : Nat) : pagesL n = (List.range' 0 n).map (fun (i : Nat) => (i : Int)) := by rw [pagesL, List.range_eq_range']
/-- Ahead of the first step. -/
theorem once_first (hm : Lay.may pn T = true) : Once pn T wv (laidS pn T 2 wv) 0 (fun _ => none) (fun _ => 0) := by
  have hmm := Lay.may_iff.1 hm
  have hl0 : (StoreS.begun (Lay.words pn T).toNat 0 1).ws.length = (Lay.words pn T).toNat := begun_len _ _ _
  have hl1 : (laidN pn T 2 wv pn (StoreS.begun (Lay.words pn T).toNat 0 1)).ws.length = (Lay.words pn T).toNat := by rw [laidN_len]; exact hl0
  have hp := pileF_nx hm pn 0 _ (by omega) hl1
  rw [← pagesL_range] at hp
  have hpg := laidN_pg (g := 2) (wv := wv) hm hl0 pn (Int.le_refl _)
  have hw0 := nxAt_eq hm (p := 0) (by omega) (by omega)
  have hl2 : (pileF pn T (pagesL pn) (laidN pn T 2 wv pn (StoreS.begun (Lay.words pn T).toNat 0 1))).2.ws.length = (Lay.words pn T).toNat := by rw [pileF_len]; exact hl1
  have hi : (pileF pn T (pagesL pn) (laidN pn T 2 wv pn (StoreS.begun (Lay.words pn T).toNat 0 1))).2.inR 12 := ⟨by omega, by rw [hl2]; omega⟩
  refine ⟨laid_len T 2 wv, Nat.zero_le _, ?_, fun j hj => ?_, fun t k e => (by cases e), fun t t' p k k' _ e => (by cases e), fun t j k e => (by cases e), fun j _ hj => ⟨?_, rfl⟩, fun j hj => (by omega)⟩
  · unfold laidS pileS
    rw [StoreS.acc_word hi, hp.1, pagesL_len]
    unfold hw
    have : 0 < pn := by omega
    rw [if_pos this]
    simp
  · have ej := nxAt_eq hm (p := (j : Int)) (by omega) (by omega)
    unfold laidS pileS
    rw [StoreS.acc_word_other (by omega) (by omega) (by omega)]
    exact hp.2 j (Nat.zero_le _) hj
  · have key : ∀ kk : Int, kk = 9 ∨ kk = 12 ∨ kk = 13 → (laidS pn T 2 wv).word (pgAt pn T kk j) = (laidN pn T 2 wv pn (StoreS.begun (Lay.words pn T).toNat 0 1)).word (pgAt pn T kk j) := fun kk hk => by
      have e1 := (pgAt_eq (k := kk) (p := (j : Int)) hm (by omega) (by omega) (by omega) (by omega)).1
      unfold laidS pileS
      rw [StoreS.acc_word_other (by omega) (by omega) (by omega)]
      refine pileF_other _ (by omega) _ _ (fun p hp => ?_)
      have h2 := pagesL_mem hp
      have e2 := nxAt_eq hm h2.1 h2.2
      omega
    have q := hpg j hj
    exact ⟨(key 9 (.inl rfl)).trans q.1, (key 12 (.inr (.inl rfl))).trans q.2.1, (key 13 (.inr (.inr rfl))).trans q.2.2⟩
end
def rowOf (n : Nat) (f : Nat → Value) : Array Value := ((List.range n).map f).toArray
theorem rowOf_size (n : Nat) (f : Nat → Value) : (rowOf n f).size = n := by simp [rowOf]
theorem rowOf_get {n t : Nat} (f : Nat → Value) (h : t < n) : (rowOf n f)[t]? = some (f t) := by
  simp [rowOf, h]
theorem rowOf_set (n t : Nat) (f : Nat → Value) (v : Value) : (rowOf n f).setIfInBounds t v = rowOf n (upd f t v) := by
  apply Array.ext_getElem?
  intro j
  by_cases hj : j < n
  · rw [rowOf_get _ hj]
    by_cases e : j = t
    · subst e; rw [upd_at, Array.getElem?_setIfInBounds_self_of_lt (by rw [rowOf_size]; exact hj)]
    · rw [upd_ne _ e, Array.getElem?_setIfInBounds_ne (Ne.symm e), rowOf_get _ hj]
  · rw [Array.getElem?_eq_none (by simp [rowOf_size]; omega), Array.getElem?_eq_none (by rw [rowOf_size]; omega)]
theorem madeRow (v : Value) (n : Nat) : madeCells #[v] n = rowOf n (fun _ => v) := by
  apply Array.ext'
  rw [toList_madeCells_one]
  simp [rowOf, List.map_const']
abbrev OnL := Nat × Nat × ClmSt
structure OH (w : World) (ab sb sm rb rg bb tb tm ub fb onb ovb hdb n pn : Nat) (wr : World) (s s' : StoreS) (Q : Nat → Option OnL) (Ms : Nat → Option Nat) (Ov : Nat → Bool) (Hd : Nat → Int) : Prop where
  both : Both wr ab sb sm rb rg bb tb tm ub fb pn n s s'
  len : s.ws.length = (Lay.words pn n).toNat
  lanes : ∀ t z, Q t = some z → ClP pn n 12 2 wr z.1 z.2.1 (.inl z.2.2)
  lt : ∀ t z, Q t = some z → t < n
  ne : ∀ t t' z z', t ≠ t' → Q t = some z → Q t' = some z' → z.1 ≠ z'.1 ∧ z.2.1 ≠ z'.1 ∧ z.2.1 ≠ z'.2.1
  at_ : ∀ t z, Q t = some z → Ms t = some z.1
  lowL : ∀ t z, Q t = some z → w.heap.size ≤ z.1 ∧ w.heap.size ≤ z.2.1
  low : (w.heap.size ≤ ab ∧ w.heap.size ≤ sb ∧ w.heap.size ≤ sm ∧ w.heap.size ≤ bb ∧ w.heap.size ≤ tb ∧ w.heap.size ≤ tm) ∧ w.heap.size ≤ onb ∧ w.heap.size ≤ ovb ∧ w.heap.size ≤ hdb
  adds : Adds w wr
  orow : Blk wr onb (rowOf n (fun t => ptrV (Ms t))) 37
  vrow : Blk wr ovb (rowOf n (fun t => .bool (Ov t))) 4
  hrow : Blk wr hdb (rowOf pn (fun p => .int .i64 (Hd p))) 3
  fne : fb ≠ ovb
section
variable {w wr w' : World} {ab sb sm rb rg bb tb tm ub fb onb ovb hdb n pn t mb pb r : Nat} {P T g : Int} {s s' s2 : StoreS} {Q : Nat → Option OnL} {Ms : Nat → Option Nat} {Ov : Nat → Bool} {Hd : Nat → Int} {z : OnL} {c : Array Value} {u : TypeId}
theorem ClP.blks {k : ClmSt ⊕ Int} (h : ClP P T 12 g w mb pb k) : (∃ c, Blk w mb c 76 ∧ c.size ≠ 1) ∧ PbOk w pb := by
  obtain ⟨st, tk, nx, hb, _⟩ := h.1.blk
  exact ⟨⟨_, hb, by simp⟩, h.2⟩
theorem Desk.rowI {c2 : Value → Array Value} {ty : TypeId} {k : DK} (h : Desk w mb c2 ty k) (hr : Blk w r #[.int .i64 0] 3) (hu : 3 ≠ ty) (hk : (∃ a f, k = .load a f ∧ a ≠ 0) ∨ ∃ a o v f, k = .cas a o v f ∧ a ≠ 0) (ho : Only (· = r) w w') : Desk w' mb c2 ty k := by
  have q : ∀ {b : Nat} {a : Int}, a ≠ 0 → Blk w b #[.int .i64 a] 3 → Blk w' b #[.int .i64 a] 3 := fun ha hb => hb.only ho (fun e => by
    have e2 : _ = r := e
    subst e2
    have := (hr.uniq hb).1
    simp at this
    exact ha this.symm)
  rcases hk with ⟨a, f, rfl, ha⟩ | ⟨a, o, v, f, rfl, ha⟩
  · obtain ⟨n, h1, h2⟩ := h; exact ⟨n, h1.rowT hr hu ho, ⟨q ha h2.b0, h2.b1.rowT hr (by decide) ho⟩⟩
  · obtain ⟨n, h1, h2⟩ := h; exact ⟨n, h1.rowT hr hu ho, ⟨q ha h2.b0, h2.b1.rowT hr (by decide) ho, h2.b2.rowT hr (by decide) ho, h2.b3.rowT hr (by decide) ho⟩⟩
/-- A row of one number, 0, is turned beside a claim that pops. -/
theorem popRow {k : PopSt} (h : ClP P T 12 g w mb pb (.inl (.pop k))) (hm : Lay.may P T = true) (hr : Blk w r #[.int .i64 0] 3) (ho : Only (· = r) w w') : ClP P T 12 g w' mb pb (.inl (.pop k)) := by
  obtain ⟨⟨n, bp, bm, st, tk, h1, h2⟩, c, u, hb, hu, hc⟩ := h
  have hmm := Lay.may_iff.1 hm
  have hP : PopA P T 12 w' pb k := by
    cases k with
    | load => obtain ⟨was, h3⟩ := h2; exact ⟨was, Desk.rowI h3 hr (by decide) (.inl ⟨_, _, rfl, by decide⟩) ho⟩
    | next v =>
      refine ⟨h2.1, h2.2.1, Desk.rowI h2.2.2 hr (by decide) (.inl ⟨_, _, rfl, ?_⟩) ho⟩
      have e := Lay.nextAt_eq hm h2.2.1.1 h2.2.1.2
      have q0 : 0 ≤ Tag.pg v := h2.2.1.1
      omega
    | cas v x =>
      obtain ⟨a1, a2, a3, jm, a4, a5⟩ := h2
      exact ⟨a1, a2, a3, jm, a4.rowT hr (by decide) ho, Desk.rowI a5 hr (by decide) (.inr ⟨_, _, _, _, rfl, by decide⟩) ho⟩
  exact ⟨⟨n, bp, bm, st, tk, ⟨h1.m.rowT hr (by decide) ho, ⟨h1.r.b0.rowT hr (by decide) ho, h1.r.b1.rowT hr (by decide) ho⟩, h1.p.rowT hr (by decide) ho, h1.b.rowT hr (by decide) ho⟩, hP⟩, c, u, hb.rowT hr (by rcases hu with rfl | rfl <;> decide) ho, hu, hc⟩
theorem OH.add (h : OH w ab sb sm rb rg bb tb tm ub fb onb ovb hdb n pn wr s s' Q Ms Ov Hd) (ho : Adds wr w') : OH w ab sb sm rb rg bb tb tm ub fb onb ovb hdb n pn w' s s' Q Ms Ov Hd :=
  ⟨h.both.adds ho, h.len, fun t z e => (h.lanes t z e).adds ho, h.lt, h.ne, h.at_, h.lowL, h.low, h.adds.thenF ho, h.orow.only ho id, h.vrow.only ho id, h.hrow.only ho id, h.fne⟩
theorem OH.cells (h : OH w ab sb sm rb rg bb tb tm ub fb onb ovb hdb n pn wr s s' Q Ms Ov Hd) (ht : t < n) : wr.cell? ⟨onb, t, none⟩ = some (ptrV (Ms t)) ∧ wr.frozen? ⟨onb, t, none⟩ = false ∧ wr.cell? ⟨ovb, t, none⟩ = some (.bool (Ov t)) ∧ wr.frozen? ⟨ovb, t, none⟩ = false := by
  refine ⟨?_, h.orow.frozen t, ?_, h.vrow.frozen t⟩
  · rw [h.orow.cell, rowOf_get _ ht]
  · rw [h.vrow.cell, rowOf_get _ ht]
theorem OH.hcell (h : OH w ab sb sm rb rg bb tb tm ub fb onb ovb hdb n pn wr s s' Q Ms Ov Hd) (ht : t < pn) : wr.cell? ⟨hdb, t, none⟩ = some (.int .i64 (Hd t)) ∧ wr.frozen? ⟨hdb, t, none⟩ = false :=
  ⟨by rw [h.hrow.cell, rowOf_get _ ht], h.hrow.frozen t⟩
/-- A row is turned; the claims stand it. -/
theorem OH.row (h : OH w ab sb sm rb rg bb tb tm ub fb onb ovb hdb n pn wr s s' Q Ms Ov Hd) (hr : Blk wr r c u) (hu : u = 37 ∨ u = 4 ∨ u = 3) (hf : fb ≠ r) (hk : c.size ≠ 1 ∨ (∀ t, Q t = none) ∨ (c = #[.int .i64 0] ∧ u = 3 ∧ ∀ t z, Q t = some z → ∃ k, z.2.2 = .pop k)) (hm : Lay.may pn n = true) (ho : Only (· = r) wr w') :
    Both w' ab sb sm rb rg bb tb tm ub fb pn n s s' ∧ ∀ t z, Q t = some z → ClP pn n 12 2 w' z.1 z.2.1 (.inl z.2.2) := by
  have nt : ∀ {b : Nat} {c2 : Array Value} {u2 : TypeId}, Blk wr b c2 u2 → u2 ≠ 37 ∧ u2 ≠ 4 ∧ u2 ≠ 3 → ¬ b = r := fun hb h2 e => by
    subst e
    have := (hr.uniq hb).2
    rcases hu with rfl | rfl | rfl
    · exact h2.1 this.symm
    · exact h2.2.1 this.symm
    · exact h2.2.2 this.symm
  refine ⟨h.both.keep ho (fun b c2 u2 hb hbt => nt hb ⟨by rintro rfl; revert hbt; decide, by rintro rfl; revert hbt; decide, by rintro rfl; revert hbt; decide⟩) (nt h.both.yard.st.head (by decide)) (nt h.both.yard.st.row (by decide)) (nt h.both.mem.st.head (by decide)) (nt h.both.mem.st.row (by decide)) hf, fun t z e => ?_⟩
  have hl := h.lanes t z e
  rcases hk with hc | hn | ⟨rfl, rfl, hp⟩
  · obtain ⟨⟨c1, b1, _⟩, c2, u2, b2, t2, _⟩ := ClP.blks hl
    refine hl.keep ho (nt b1 (by decide)) (nt b2 (by rcases t2 with rfl | rfl <;> decide)) (fun b x v hb q => ?_)
    have q2 : b = r := q
    subst q2
    exact hc (by rw [(hr.uniq hb).1]; rfl)
  · rw [hn t] at e; cases e
  · obtain ⟨k, hk⟩ := hp t z e
    rw [hk] at hl ⊢
    exact popRow hl hm hr ho
theorem OH.ones (h : OH w ab sb sm rb rg bb tb tm ub fb onb ovb hdb n pn wr s s' Q Ms Ov Hd) (ht : t < n) (hq : Q t = none) : n ≠ 1 ∨ ∀ j, Q j = none := by
  by_cases e : n = 1
  · refine .inr (fun j => ?_)
    rcases hj : Q j with _ | z
    · rfl
    · have := h.lt j z hj
      have : j = t := by omega
      subst this; rw [hq] at hj; cases hj
  · exact .inl e
theorem OH.setO (h : OH w ab sb sm rb rg bb tb tm ub fb onb ovb hdb n pn wr s s' Q Ms Ov Hd) (hm : Lay.may pn n = true) (ht : t < n) (hq : Q t = none) (o : Option Nat) : OH w ab sb sm rb rg bb tb tm ub fb onb ovb hdb n pn (wr.setCell ⟨onb, t, none⟩ (ptrV o)) s s' Q (upd Ms t o) Ov Hd := by
  have ho := only_at wr onb t (ptrV o)
  have n1 : fb ≠ onb := fun e => by have := (h.orow.uniq (e ▸ h.both.mem.fr)).2; revert this; decide
  have n2 : ovb ≠ onb := fun e => by have := (h.orow.uniq (e ▸ h.vrow)).2; revert this; decide
  have n3 : hdb ≠ onb := fun e => by have := (h.orow.uniq (e ▸ h.hrow)).2; revert this; decide
  obtain ⟨h1, h2⟩ := h.row h.orow (.inl rfl) n1 (by
    rcases h.ones ht hq with e | e
    · exact .inl (by rw [rowOf_size]; exact e)
    · exact .inr (.inl e)) hm ho
  refine ⟨h1, h.len, h2, h.lt, h.ne, fun j y e => ?_, h.lowL, h.low, h.adds.andThen ho (fun i hi e => by have := h.low.2.1; omega), ?_, h.vrow.setCell_other n2 t _, h.hrow.setCell_other n3 t _, h.fne⟩
  · have hj : j ≠ t := fun q => by subst q; rw [hq] at e; cases e
    rw [upd_ne _ hj]; exact h.at_ j y e
  · have := h.orow.setCell t (ptrV o)
    rw [rowOf_set] at this
    have e : upd (fun t => ptrV (Ms t)) t (ptrV o) = fun j => ptrV (upd Ms t o j) := by
      funext j
      by_cases q : j = t
      · subst q; rw [upd_at, upd_at]
      · rw [upd_ne _ q, upd_ne _ q]
    rw [e] at this; exact this
theorem OH.setV (h : OH w ab sb sm rb rg bb tb tm ub fb onb ovb hdb n pn wr s s' Q Ms Ov Hd) (hm : Lay.may pn n = true) (ht : t < n) (hq : Q t = none) : OH w ab sb sm rb rg bb tb tm ub fb onb ovb hdb n pn (wr.setCell ⟨ovb, t, none⟩ (.bool true)) s s' Q Ms (upd Ov t true) Hd := by
  have ho := only_at wr ovb t (.bool true)
  have n2 : onb ≠ ovb := fun e => by have := (h.orow.uniq (e ▸ h.vrow)).2; revert this; decide
  have n3 : hdb ≠ ovb := fun e => by have := (h.vrow.uniq (e ▸ h.hrow)).2; revert this; decide
  obtain ⟨h1, h2⟩ := h.row h.vrow (.inr (.inl rfl)) h.fne (by
    rcases h.ones ht hq with e | e
    · exact .inl (by rw [rowOf_size]; exact e)
    · exact .inr (.inl e)) hm ho
  refine ⟨h1, h.len, h2, h.lt, h.ne, h.at_, h.lowL, h.low, h.adds.andThen ho (fun i hi e => by have := h.low.2.2.1; omega), h.orow.setCell_other n2 t _, ?_, h.hrow.setCell_other n3 t _, h.fne⟩
  have := h.vrow.setCell t (.bool true)
  rw [rowOf_set] at this
  have e : upd (fun t => Value.bool (Ov t)) t (.bool true) = fun j => .bool (upd Ov t true j) := by
    funext j
    by_cases q : j = t
    · subst q; rw [upd_at, upd_at]
    · rw [upd_ne _ q, upd_ne _ q]
  rw [e] at this; exact this
theorem OH.setH {p : Nat} (h : OH w ab sb sm rb rg bb tb tm ub fb onb ovb hdb n pn wr s s' Q Ms Ov Hd) (hm : Lay.may pn n = true) (h0 : Hd p = 0) (hp : p < pn) (h1 : pn = 1 → ∀ t z, Q t = some z → ∃ k, z.2.2 = .pop k) (v : Int) : OH w ab sb sm rb rg bb tb tm ub fb onb ovb hdb n pn (wr.setCell ⟨hdb, p, none⟩ (.int .i64 v)) s s' Q Ms Ov (upd Hd p v) := by
  have ho := only_at wr hdb p (.int .i64 v)
  have n1 : fb ≠ hdb := fun e => by have := (h.hrow.uniq (e ▸ h.both.mem.fr)).2; revert this; decide
  have n2 : onb ≠ hdb := fun e => by have := (h.orow.uniq (e ▸ h.hrow)).2; revert this; decide
  have n3 : ovb ≠ hdb := fun e => by have := (h.vrow.uniq (e ▸ h.hrow)).2; revert this; decide
  obtain ⟨k1, k2⟩ := h.row h.hrow (.inr (.inr rfl)) n1 (by
    by_cases e : pn = 1
    · refine .inr (.inr ⟨?_, rfl, h1 e⟩)
      have hp0 : p = 0 := by omega
      rw [e]; unfold rowOf
      rw [hp0] at h0
      simp [h0]
    · exact .inl (by rw [rowOf_size]; exact e)) hm ho
  refine ⟨k1, h.len, k2, h.lt, h.ne, h.at_, h.lowL, h.low, h.adds.andThen ho (fun i hi e => by have := h.low.2.2.2; omega), h.orow.setCell_other n2 p _, h.vrow.setCell_other n3 p _, ?_, h.fne⟩
  have := h.hrow.setCell p (.int .i64 v)
  rw [rowOf_set] at this
  have e : upd (fun t => Value.int .i64 (Hd t)) p (.int .i64 v) = fun j => .int .i64 (upd Hd p v j) := by
    funext j
    by_cases q : j = p
    · subst q; rw [upd_at, upd_at]
    · rw [upd_ne _ q, upd_ne _ q]
  rw [e] at this; exact this
theorem OH.stepA (h : OH w ab sb sm rb rg bb tb tm ub fb onb ovb hdb n pn wr s s' Q Ms Ov Hd) (hm : Lay.may pn n = true) (hz : Q t = some z) (ho : Only (fun j => (SB sb sm j ∨ j = z.1) ∨ j = z.2.1) wr w') (hy : Yard w' ab sb sm rb pn n s2) (hl : s2.ws.length = s.ws.length) (o : Option OnL) (hz' : ∀ z', o = some z' → z'.1 = z.1 ∧ ClP pn n 12 2 w' z'.1 z'.2.1 (.inl z'.2.2) ∧ (z'.2.1 = z.2.1 ∨ wr.heap.size ≤ z'.2.1)) :
    OH w ab sb sm rb rg bb tb tm ub fb onb ovb hdb n pn w' s2 s' (upd Q t o) Ms Ov Hd := by
  have hbig : 1 < s.ws.length := by rw [h.len]; have := (mem_words_bd hm).1; omega
  have hY := h.both.yard
  obtain ⟨⟨c1, b1, s1⟩, c2, u2, b2, t2, s22⟩ := ClP.blks (h.lanes t z hz)
  have kS : ∀ {i : Nat} {c3 : Array Value} {t3 : TypeId}, Blk wr i c3 t3 → t3 ≠ 110 → t3 ≠ 39 → ¬ SB sb sm i := fun hx h1 h2 q => by
    rcases q with q | q
    · rw [q] at hx; exact h1 (hx.uniq hY.st.head).2
    · rw [q] at hx; exact h2 (hx.uniq hY.st.row).2
  have kA : ∀ {i : Nat} {c3 : Array Value} {t3 : TypeId}, Blk wr i c3 t3 → t3 ≠ 110 ∧ t3 ≠ 39 ∧ t3 ≠ 76 ∧ t3 ≠ 146 ∧ t3 ≠ 219 → ¬ ((SB sb sm i ∨ i = z.1) ∨ i = z.2.1) := fun hx h1 q => by
    rcases q with (q | q) | q
    · exact kS hx h1.1 h1.2.1 q
    · rw [q] at hx; exact h1.2.2.1 (hx.uniq b1).2
    · rw [q] at hx; rcases t2 with rfl | rfl
      · exact h1.2.2.2.1 (hx.uniq b2).2
      · exact h1.2.2.2.2 (hx.uniq b2).2
  have hs : ∀ (b : Nat) (x : Value) (t : TypeId), Blk wr b #[x] t → ¬ ((SB sb sm b ∨ b = z.1) ∨ b = z.2.1) := fun b x t hx e => by
    rcases e with (e | e) | e
    · exact hY.multi hbig hx e
    · subst e; exact s1 (by rw [(b1.uniq hx).1]; rfl)
    · subst e; exact s22 (by rw [(b2.uniq hx).1]; rfl)
  refine ⟨h.both.accA (M := fun j => j = z.1 ∨ j = z.2.1) (fun b c3 u3 hx e => ?_) (ho.mono (fun _ _ e => e.elim (fun e => e.elim .inl (fun e => .inr (.inl e))) (fun e => .inr (.inr e)))) hy, hl.trans h.len, fun j y e => ?_, fun j y e => ?_, fun j j' y y' hne e e' => ?_, fun j y e => ?_, fun j y e => ?_, h.low, ?_, h.orow.only ho (kA h.orow (by decide)), h.vrow.only ho (kA h.vrow (by decide)), h.hrow.only ho (kA h.hrow (by decide)), h.fne⟩
  · rcases e with rfl | rfl
    · rw [(hx.uniq b1).2]; decide
    · rw [(hx.uniq b2).2]; rcases t2 with rfl | rfl <;> decide
  · rcases upd_or e with ⟨_, e2⟩ | ⟨hj, e2⟩
    · exact (hz' y e2).2.1
    · have hl2 := h.lanes j y e2
      obtain ⟨⟨d1, a1, _⟩, d2, v2, a2, r2, _⟩ := ClP.blks hl2
      obtain ⟨q1, q2, q3⟩ := h.ne j t y z hj e2 hz
      obtain ⟨p1, p2, p3⟩ := h.ne t j z y (Ne.symm hj) hz e2
      refine hl2.keep ho (fun q => ?_) (fun q => ?_) hs
      · rcases q with (q | q) | q
        · exact kS a1 (by decide) (by decide) q
        · exact q1 q
        · exact p2 q.symm
      · rcases q with (q | q) | q
        · exact kS a2 (by rcases r2 with rfl | rfl <;> decide) (by rcases r2 with rfl | rfl <;> decide) q
        · exact q2 q
        · exact q3 q
  · rcases upd_or e with ⟨rfl, _⟩ | ⟨_, e2⟩
    · exact h.lt _ z hz
    · exact h.lt j y e2
  · have lt2 : ∀ i y2, Q i = some y2 → y2.1 < wr.heap.size ∧ y2.2.1 < wr.heap.size := fun i y2 e3 => by
      obtain ⟨⟨_, a1, _⟩, _, _, a2, _⟩ := ClP.blks (h.lanes i y2 e3)
      exact ⟨a1.lt, a2.lt⟩
    rcases upd_or e with ⟨rfl, e2⟩ | ⟨hj, e2⟩ <;> rcases upd_or e' with ⟨r', e3⟩ | ⟨hj', e3⟩
    · exact absurd r'.symm hne
    · obtain ⟨q1, q2, q3⟩ := hz' y e2
      obtain ⟨p1, p2, p3⟩ := h.ne j j' z y' hne hz e3
      have l := lt2 j' y' e3
      refine ⟨q1 ▸ p1, ?_, ?_⟩
      · rcases q3 with q3 | q3
        · rw [q3]; exact p2
        · omega
      · rcases q3 with q3 | q3
        · rw [q3]; exact p3
        · omega
    · subst r'
      obtain ⟨q1, q2, q3⟩ := hz' y' e3
      obtain ⟨p1, p2, p3⟩ := h.ne j j' y z hne e2 hz
      have l := lt2 j y e2
      refine ⟨q1 ▸ p1, q1 ▸ p2, ?_⟩
      rcases q3 with q3 | q3
      · rw [q3]; exact p3
      · omega
    · exact h.ne j j' y y' hne e2 e3
  · rcases upd_or e with ⟨rfl, e2⟩ | ⟨_, e2⟩
    · rw [(hz' y e2).1]; exact h.at_ _ z hz
    · exact h.at_ j y e2
  · rcases upd_or e with ⟨rfl, e2⟩ | ⟨_, e2⟩
    · obtain ⟨q1, _, q3⟩ := hz' y e2
      have := h.lowL _ z hz; have := h.adds.size
      refine ⟨by omega, ?_⟩
      rcases q3 with q3 | q3 <;> omega
    · exact h.lowL j y e2
  · have := h.low; have := h.lowL t z hz
    exact h.adds.andThen ho (fun i hi e => by
      rcases e with ((e | e) | e) | e <;> omega)
/-- A claim begins. -/
theorem OH.begin {w0 : World} (h : OH w ab sb sm rb rg bb tb tm ub fb onb ovb hdb n pn wr s s' Q Ms Ov Hd) (h0 : ∀ t z, Q t = some z → z.1 < w0.heap.size ∧ z.2.1 < w0.heap.size) (hw : w.heap.size ≤ w0.heap.size) (ht : t < n) (hmt : Ms t = some z.1) (ha : ClP pn n 12 2 wr z.1 z.2.1 (.inl z.2.2)) (na : w0.heap.size ≤ z.1) (nb : w0.heap.size ≤ z.2.1) : OH w ab sb sm rb rg bb tb tm ub fb onb ovb hdb n pn wr s s' (upd Q t (some z)) Ms Ov Hd := by
  refine ⟨h.both, h.len, fun j y e => ?_, fun j y e => ?_, fun j j' y y' hne e e' => ?_, fun j y e => ?_, fun j y e => ?_, h.low, h.adds, h.orow, h.vrow, h.hrow, h.fne⟩
  · rcases upd_or e with ⟨_, e2⟩ | ⟨_, e2⟩
    · injection e2 with e2; subst e2; exact ha
    · exact h.lanes j y e2
  · rcases upd_or e with ⟨rfl, _⟩ | ⟨_, e2⟩
    · exact ht
    · exact h.lt j y e2
  · rcases upd_or e with ⟨r1, e2⟩ | ⟨hj, e2⟩ <;> rcases upd_or e' with ⟨r2, e3⟩ | ⟨hj', e3⟩
    · exact absurd (r1.trans r2.symm) hne
    · injection e2 with e2; subst e2
      have := h0 j' y' e3
      exact ⟨by omega, by omega, by omega⟩
    · injection e3 with e3; subst e3
      have := h0 j y e2
      exact ⟨by omega, by omega, by omega⟩
    · exact h.ne j j' y y' hne e2 e3
  · rcases upd_or e with ⟨rfl, e2⟩ | ⟨_, e2⟩
    · injection e2 with e2; subst e2; exact hmt
    · exact h.at_ j y e2
  · rcases upd_or e with ⟨_, e2⟩ | ⟨_, e2⟩
    · injection e2 with e2; subst e2; omega
    · exact h.lowL j y e2
theorem OH.lts (h : OH w ab sb sm rb rg bb tb tm ub fb onb ovb hdb n pn wr s s' Q Ms Ov Hd) : ∀ t z, Q t = some z → z.1 < wr.heap.size ∧ z.2.1 < wr.heap.size := fun t z e => by
  obtain ⟨⟨_, a1, _⟩, _, _, a2, _⟩ := ClP.blks (h.lanes t z e)
  exact ⟨a1.lt, a2.lt⟩
/-- The box of a new claim is no row. -/
theorem OH.nbm {bm : Nat} (h : OH w ab sb sm rb rg bb tb tm ub fb onb ovb hdb n pn wr s s' Q Ms Ov Hd) (ht : t < n) (hmt : Ms t = none) (hb : Blk wr bm #[.pointer (some ⟨mb, 0, none⟩)] 37) : bm ≠ onb := fun e => by
  subst e
  have e1 := (hb.uniq h.orow).1
  have hs := congrArg Array.size e1
  rw [rowOf_size] at hs
  have hn : n = 1 := by simpa using hs.symm
  have ht0 : t = 0 := by omega
  have e2 := congrArg (fun (a : Array Value) => a[0]?) e1
  rw [rowOf_get _ (by omega), ← ht0, hmt] at e2
  simp [ptrV, ht0] at e2
/-- A step of thread t's claim. -/
theorem OH.did (h : OH w ab sb sm rb rg bb tb tm ub fb onb ovb hdb n pn wr s s' Q Ms Ov Hd) (hm : Lay.may pn n = true) {q : ClmSt} (hz : Q t = some (mb, pb, q)) (hbad : (claimA pn n 12 2).nx q (s.word ((claimA pn n 12 2).ac q).pos) ≠ .inr (-2)) :
    Calls Tryz.prog 7 #[.pointer (some ⟨mb, 0, none⟩), .pointer (some ⟨ab, 0, none⟩)] wr fun e w' => (∃ v, e = .returned (.agg v)) ∧ ∃ pb1, Hid (ClX pn n 12 2 w' mb pb1 ((claimA pn n 12 2).nx q (s.word ((claimA pn n 12 2).ac q).pos)) ∧ OH w ab sb sm rb rg bb tb tm ub fb onb ovb hdb n pn w' (((claimA pn n 12 2).ac q).act s) s' (upd Q t none) Ms Ov Hd ∧ ∀ k1, (claimA pn n 12 2).nx q (s.word ((claimA pn n 12 2).ac q).pos) = .inl k1 → OH w ab sb sm rb rg bb tb tm ub fb onb ovb hdb n pn w' (((claimA pn n 12 2).ac q).act s) s' (upd Q t (some (mb, pb1, k1))) Ms Ov Hd) := by
  have hA := h.lanes t _ hz
  refine (claimA_step ⟨hm, by decide, by decide⟩ (by decide) hA h.both.yard h.len hbad).mono (fun e w' c => ?_)
  obtain ⟨q1, ⟨⟨pb1, q2, q3⟩, q4⟩, q5⟩ := c
  refine ⟨⟨_, q1⟩, pb1, Lib.hid ⟨q3.1, h.stepA hm hz q5 q4 (Ac.act_len _ _) none (fun z' e => by cases e), fun k1 e1 => ?_⟩⟩
  rw [e1] at q3
  exact h.stepA hm hz q5 q4 (Ac.act_len _ _) (some (mb, pb1, k1)) (fun z' e => by injection e with e; subst e; exact ⟨rfl, q3, q2⟩)
end
end Go.Proofs.YtmnliddjddpchaaGreat

/- Functions turned at a place; sums; rows as functions. By an AI agent. -/
import Derived.Test.YthhnpcniijpfeaaGreatZ1
namespace Go.Proofs.YthhnpcniijpfeaaGreat
open Go.RowKit
set_option linter.unusedSimpArgs false
set_option linter.unusedVariables false
/-- A function, turned at one place. -/
def upd {α : Type} (f : Nat → α) (t : Nat) (a : α) : Nat → α := fun j => if j = t then a else f j
theorem upd_at {α : Type} (f : Nat → α) (t : Nat) (a : α) : upd f t a t = a := if_pos rfl
theorem upd_ne {α : Type} (f : Nat → α) {t j : Nat} (h : j ≠ t) (a : α) : upd f t a j = f j := if_neg h
theorem upd_or {α : Type} {f : Nat → Option α} {t j : Nat} {a : Option α} {b : α} (h : upd f t a j = some b) : (j = t ∧ a = some b) ∨ (j ≠ t ∧ f j = some b) := by
  by_cases e : j = t
  · subst e; rw [upd_at] at h; exact .inl ⟨rfl, h⟩
  · rw [upd_ne _ e] at h; exact .inr ⟨e, h⟩
theorem upd_same {α : Type} (f : Nat → α) (t : Nat) : upd f t (f t) = f := by
  funext j
  by_cases e : j = t
  · subst e; rw [upd_at]
  · rw [upd_ne _ e]
theorem upd_upd {α : Type} (f : Nat → α) (t : Nat) (a b : α) : upd (upd f t a) t b = upd f t b := by
  funext j
  by_cases e : j = t
  · subst e; rw [upd_at, upd_at]
  · rw [upd_ne _ e, upd_ne _ e, upd_ne _ e]
theorem upd_comp {α β : Type} (g : α → β) (f : Nat → α) (t : Nat) (a : α) : (fun j => g (upd f t a j)) = upd (fun j => g (f j)) t (g a) := by
  funext j
  by_cases e : j = t
  · subst e; rw [upd_at, upd_at]
  · rw [upd_ne _ e, upd_ne _ e]
def sumN (f : Nat → Nat) : Nat → Nat
  | 0 => 0
  | n + 1 => sumN f n + f n
theorem sumN_le {f g : Nat → Nat} {c : Nat} : ∀ {n : Nat}, (∀ t, t < n → f t ≤ g t + c) → sumN f n ≤ sumN g n + n * c
  | 0, _ => by simp [sumN]
  | n + 1, h => by
    have h1 := sumN_le (n := n) (fun t ht => h t (by omega))
    have h2 := h n (by omega)
    simp only [sumN]
    have : (n + 1) * c = n * c + c := by rw [Nat.succ_mul]
    omega
/-- But for one place. -/
theorem sumN_but {f g : Nat → Nat} {c t : Nat} : ∀ {n : Nat}, t < n → (∀ j, j < n → j ≠ t → f j ≤ g j + c) → sumN f n + g t + c ≤ sumN g n + f t + n * c
  | 0, ht, _ => by omega
  | n + 1, ht, h => by
    simp only [sumN]
    have e : (n + 1) * c = n * c + c := by rw [Nat.succ_mul]
    by_cases q : t = n
    · subst q
      have h1 := sumN_le (n := t) (f := f) (g := g) (c := c) (fun j hj => h j (by omega) (by omega))
      omega
    · have h1 := sumN_but (n := n) (f := f) (g := g) (c := c) (t := t) (by omega) (fun j hj hn => h j (by omega) hn)
      have h2 := h n (by omega) (Ne.symm q)
      omega
theorem sumN_max {f : Nat → Nat} {c : Nat} : ∀ {n : Nat}, (∀ t, t < n → f t ≤ c) → sumN f n ≤ n * c
  | 0, _ => by simp [sumN]
  | n + 1, h => by
    have h1 := sumN_max (n := n) (fun t ht => h t (by omega))
    have h2 := h n (by omega)
    have e : (n + 1) * c = n * c + c := by rw [Nat.succ_mul]
    simp only [sumN]; omega
theorem sumN_congr {f g : Nat → Nat} : ∀ {n : Nat}, (∀ t, t < n → f t = g t) → sumN f n = sumN g n
  | 0, _ => rfl
  | n + 1, h => by simp only [sumN]; rw [sumN_congr (fun t ht => h t (by omega)), h n (by omega)]
theorem sumN_upd {α : Type} (f : α → Nat) (q : Nat → α) {t : Nat} (x : α) : ∀ {n : Nat}, t < n → sumN (fun j => f (upd q t x j)) n + f (q t) = sumN (fun j => f (q j)) n + f x
  | 0, h => by omega
  | n + 1, h => by
    simp only [sumN]
    by_cases e : t = n
    · subst e
      rw [upd_at, sumN_congr (g := fun j => f (q j)) (fun j hj => by rw [upd_ne _ (by omega)])]
      omega
    · have := sumN_upd f q (t := t) x (n := n) (by omega)
      rw [upd_ne _ (Ne.symm e)]; omega
theorem sumN_zero {f : Nat → Nat} : ∀ {n : Nat}, sumN f n = 0 → ∀ t, t < n → f t = 0
  | 0, _, t, h => by omega
  | n + 1, h, t, ht => by
    simp only [sumN] at h
    by_cases e : t = n
    · subst e; omega
    · exact sumN_zero (n := n) (by omega) t (by omega)
theorem sumN_pos {f : Nat → Nat} : ∀ {n : Nat}, sumN f n ≠ 0 → ∃ t, t < n ∧ f t ≠ 0
  | 0, h => by simp [sumN] at h
  | n + 1, h => by
    simp only [sumN] at h
    by_cases e : f n = 0
    · obtain ⟨t, h1, h2⟩ := sumN_pos (f := f) (n := n) (by omega)
      exact ⟨t, by omega, h2⟩
    · exact ⟨n, by omega, e⟩
theorem sumN_add {f g : Nat → Nat} : ∀ {n : Nat}, sumN (fun j => f j + g j) n = sumN f n + sumN g n
  | 0 => rfl
  | n + 1 => by simp only [sumN]; rw [sumN_add]; omega
theorem sumN_mul {f : Nat → Nat} (c : Nat) : ∀ {n : Nat}, sumN (fun j => c * f j) n = c * sumN f n
  | 0 => rfl
  | n + 1 => by simp only [sumN]; rw [sumN_mul, Nat.mul_add]
/-- At most one is not nought. -/
theorem sumN_one {f : Nat → Nat} : ∀ {n : Nat}, (∀ t, t < n → f t ≤ 1) → (∀ t j, t < n → j < n → f t ≠ 0 → f j ≠ 0 → t = j) → sumN f n ≤ 1
  | 0, _, _ => by simp [sumN]
  | n + 1, h, hu => by
    simp only [sumN]
    by_cases e : f n = 0
    · have := sumN_one (f := f) (n := n) (fun t ht => h t (by omega)) (fun t j ht hj => hu t j (by omega) (by omega))
      omega
    · have h1 := h n (by omega)
      have h2 : sumN f n = 0 := by
        rcases Nat.eq_zero_or_pos (sumN f n) with h0 | h0
        · exact h0
        · obtain ⟨t, h3, h4⟩ := sumN_pos (f := f) (n := n) (by omega)
          have := hu t n (by omega) (by omega) h4 e
          omega
      omega
theorem next_at {n i t : Nat} (ht : t < n) : ∃ d, d < n ∧ (i + d) % n = t := by
  have hn : 0 < n := by omega
  have hi := Nat.mod_lt i hn
  by_cases c : i % n ≤ t
  · refine ⟨t - i % n, by omega, ?_⟩
    have e : i + (t - i % n) = t + n * (i / n) := by have := Nat.div_add_mod i n; omega
    rw [e, Nat.add_mul_mod_self_left, Nat.mod_eq_of_lt ht]
  · refine ⟨t + n - i % n, by omega, ?_⟩
    have e : i + (t + n - i % n) = t + n * (i / n + 1) := by have := Nat.div_add_mod i n; rw [Nat.mul_add]; omega
    rw [e, Nat.add_mul_mod_self_left, Nat.mod_eq_of_lt ht]
def rowOf (n : Nat) (f : Nat → Value) : Array Value := ((List.range n).map f).toArray
theorem rowOf_size (n : Nat) (f : Nat → Value) : (rowOf n f).size = n := by simp [rowOf]
theorem rowOf_get {n t : Nat} (f : Nat → Value) (h : t < n) : (rowOf n f)[t]? = some (f t) := by
  simp [rowOf, h]
theorem rowOf_set (n t : Nat) (f : Nat → Value) (v : Value) : (rowOf n f).setIfInBounds t v = rowOf n (upd f t v) := by
  apply Array.ext_getElem?
  intro j
  by_cases hj : j < n
  · rw [rowOf_get _ hj]
    by_cases e : j = t
    · subst e; rw [upd_at, Array.getElem?_setIfInBounds_self_of_lt (by rw [rowOf_size]; exact hj)]
    · rw [upd_ne _ e, Array.getElem?_setIfInBounds_ne (Ne.symm e), rowOf_get _ hj]
  · rw [Array.getElem?_eq_none (by simp [rowOf_size]; omega), Array.getElem?_eq_none (by rw [rowOf_size]; omega)]
theorem madeRow (v : Value) (n : Nat) : madeCells #[v] n = rowOf n (fun _ => v) := by
  apply Array.ext'
  rw [toList_madeCells_one]
  simp [rowOf, List.map_const']
end Go.Proofs.YthhnpcniijpfeaaGreat

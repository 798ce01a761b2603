/- Lists of runs: page and length; what putting and taking pages makes of them; plain Lean. By an AI agent. -/
import Derived.Test.YtbijbpnhakbeeaaRunSearch
namespace Go.Proofs.Ytbijbpnhakbeeaa
open Go.RowKit

/-- How many pages. -/
def tot : List (Int × Int) → Int
  | [] => 0
  | x :: r => x.2 + tot r
theorem tot_append (a b : List (Int × Int)) : tot (a ++ b) = tot a + tot b := by
  induction a with
  | nil => simp [tot]
  | cons x r ih => simp [tot, ih]; omega
/-- Runs of an arena of P pages: they rise, with something between. -/
structure RunsOk (P : Int) (xs : List (Int × Int)) : Prop where
  gap : xs.Pairwise (fun a b => a.1 + a.2 < b.1)
  bd : ∀ x ∈ xs, 0 ≤ x.1 ∧ 1 ≤ x.2 ∧ x.1 + x.2 ≤ P
theorem RunsOk.nil (P : Int) : RunsOk P [] := ⟨List.Pairwise.nil, fun _ h => by cases h⟩
theorem RunsOk.tail {P : Int} {x : Int × Int} {r : List (Int × Int)} (h : RunsOk P (x :: r)) : RunsOk P r :=
  ⟨(List.pairwise_cons.1 h.gap).2, fun y hy => h.bd y (List.mem_cons_of_mem _ hy)⟩
theorem RunsOk.head {P : Int} {x : Int × Int} {r : List (Int × Int)} (h : RunsOk P (x :: r)) : ∀ y ∈ r, x.1 + x.2 < y.1 := (List.pairwise_cons.1 h.gap).1
theorem RunsOk.sub {P : Int} {xs ys : List (Int × Int)} (h : RunsOk P xs) (hs : ys.Sublist xs) : RunsOk P ys := ⟨h.gap.sublist hs, fun x hx => h.bd x (hs.subset hx)⟩
theorem RunsOk.single {P : Int} {x : Int × Int} (h : 0 ≤ x.1 ∧ 1 ≤ x.2 ∧ x.1 + x.2 ≤ P) : RunsOk P [x] :=
  ⟨by simp, fun y hy => by rw [List.mem_singleton] at hy; subst hy; exact h⟩
theorem RunsOk.small {P : Int} {xs : List (Int × Int)} (h : RunsOk P xs) (hP : P ≤ 4096) : Small xs := fun x hx => by have := h.bd x hx; omega
theorem RunsOk.rise {P : Int} {xs : List (Int × Int)} (h : RunsOk P xs) : Rise xs := by
  intro i j x y hij hi hj
  obtain ⟨hi1, hi2⟩ := List.getElem?_eq_some_iff.1 hi
  obtain ⟨hj1, hj2⟩ := List.getElem?_eq_some_iff.1 hj
  rcases Nat.lt_or_eq_of_le hij with h1 | h1
  · have h2 := List.pairwise_iff_getElem.1 h.gap i j hi1 hj1 h1
    rw [hi2, hj2] at h2
    have := h.bd y (hj2 ▸ List.getElem_mem hj1)
    omega
  · subst h1
    rw [hi] at hj; cases hj; exact Int.le_refl _
theorem RunsOk.apart {P : Int} {xs : List (Int × Int)} (h : RunsOk P xs) {x y : Int × Int} (hx : x ∈ xs) (hy : y ∈ xs) : x = y ∨ x.1 + x.2 < y.1 ∨ y.1 + y.2 < x.1 := by
  obtain ⟨i, hi1, hi2⟩ := List.mem_iff_getElem.1 hx
  obtain ⟨j, hj1, hj2⟩ := List.mem_iff_getElem.1 hy
  have hp := List.pairwise_iff_getElem.1 h.gap
  rcases Nat.lt_trichotomy i j with h1 | h1 | h1
  · have := hp i j hi1 hj1 h1; rw [hi2, hj2] at this; exact .inr (.inl this)
  · subst h1; exact .inl (hi2.symm.trans hj2)
  · have := hp j i hj1 hi1 h1; rw [hi2, hj2] at this; exact .inr (.inr this)
theorem tot_nonneg {P : Int} : ∀ {xs : List (Int × Int)}, RunsOk P xs → 0 ≤ tot xs
  | [], _ => Int.le_refl _
  | x :: r, h => by have := tot_nonneg h.tail; have := h.bd x (by simp); simp only [tot]; omega
theorem tot_le {P : Int} : ∀ {xs : List (Int × Int)} {a : Int}, RunsOk P xs → 0 ≤ P → a ≤ P → (∀ x ∈ xs, a ≤ x.1) → tot xs ≤ P - a
  | [], a, _, hP, ha, _ => by simp only [tot]; omega
  | x :: r, a, h, hP, ha, hb => by
    have h1 := h.bd x (by simp)
    have h2 := hb x (by simp)
    have := tot_le (a := x.1 + x.2) h.tail hP h1.2.2 (fun y hy => by have := h.head y hy; omega)
    simp only [tot]; omega
theorem len_tot {P : Int} : ∀ {xs : List (Int × Int)}, RunsOk P xs → (xs.length : Int) ≤ tot xs
  | [], _ => by simp [tot]
  | x :: r, h => by have := len_tot h.tail; have := h.bd x (by simp); simp only [tot, List.length_cons]; omega
theorem RunsOk.len {P : Int} {xs : List (Int × Int)} (h : RunsOk P xs) (hP : 0 ≤ P) : (xs.length : Int) ≤ P := by
  have := len_tot h
  have := tot_le (a := 0) h hP hP (fun x hx => (h.bd x hx).1)
  omega

theorem place_le (xs : List (Int × Int)) (a : Int) : placeOf xs a ≤ xs.length := List.countP_le_length
theorem place_split {P : Int} (a : Int) : ∀ {xs : List (Int × Int)}, RunsOk P xs → xs.take (placeOf xs a) = xs.filter (fun x => decide (x.1 + x.2 < a)) ∧ xs.drop (placeOf xs a) = xs.filter (fun x => decide (a ≤ x.1 + x.2))
  | [], _ => by simp [placeOf]
  | x :: r, h => by
    obtain ⟨h1, h2⟩ := place_split a h.tail
    by_cases hx : x.1 + x.2 < a
    · have e : placeOf (x :: r) a = placeOf r a + 1 := by unfold placeOf; rw [List.countP_cons_of_pos (by simpa using hx)]
      rw [e, List.take_succ_cons, List.drop_succ_cons, h1, h2]
      refine ⟨by simp [hx], ?_⟩
      rw [List.filter_cons_of_neg (by simpa using hx)]
    · have hall : ∀ y ∈ x :: r, ¬ y.1 + y.2 < a := fun y hy => by
        rcases List.mem_cons.1 hy with rfl | hy
        · exact hx
        · have := h.head y hy; have := (h.tail.bd y hy).2.1; omega
      have e : placeOf (x :: r) a = 0 := by
        unfold placeOf
        rw [List.countP_eq_zero]
        intro y hy
        simpa using hall y hy
      rw [e]
      refine ⟨?_, ?_⟩
      · rw [List.take_zero, eq_comm, List.filter_eq_nil_iff]
        intro y hy; simpa using hall y hy
      · rw [List.drop_zero, eq_comm, List.filter_eq_self]
        intro y hy; have := hall y hy; simp; omega
/-- A run put in its place. -/
def insL (x : Int × Int) (xs : List (Int × Int)) : List (Int × Int) := xs.take (placeOf xs x.1) ++ x :: xs.drop (placeOf xs x.1)
/-- It touches none of them. -/
def Free (x : Int × Int) (xs : List (Int × Int)) : Prop := ∀ y ∈ xs, y.1 + y.2 < x.1 ∨ x.1 + x.2 < y.1
theorem mem_insL {x y : Int × Int} {xs : List (Int × Int)} : y ∈ insL x xs ↔ y = x ∨ y ∈ xs := by
  have := List.take_append_drop (placeOf xs x.1) xs
  conv => rhs; rw [← this]
  simp only [insL, List.mem_append, List.mem_cons]
  constructor
  · rintro (h | h | h) <;> simp [h]
  · rintro (h | h | h) <;> simp [h]
theorem insL_length (x : Int × Int) (xs : List (Int × Int)) : (insL x xs).length = xs.length + 1 := by
  have := place_le xs x.1
  simp [insL]; omega
theorem insL_tot (x : Int × Int) (xs : List (Int × Int)) : tot (insL x xs) = tot xs + x.2 := by
  have := congrArg tot (List.take_append_drop (placeOf xs x.1) xs)
  rw [tot_append] at this
  simp only [insL, tot_append, tot]; omega
theorem insL_ok {P : Int} {x : Int × Int} {xs : List (Int × Int)} (h : RunsOk P xs) (hx : 0 ≤ x.1 ∧ 1 ≤ x.2 ∧ x.1 + x.2 ≤ P) (hf : Free x xs) : RunsOk P (insL x xs) := by
  refine ⟨?_, fun y hy => (mem_insL.1 hy).elim (fun e => e ▸ hx) (h.bd y)⟩
  unfold insL
  obtain ⟨h1, h2⟩ := place_split x.1 h
  rw [List.pairwise_append, List.pairwise_cons]
  refine ⟨h.gap.sublist (List.take_sublist _ _), ⟨fun y hy => ?_, h.gap.sublist (List.drop_sublist _ _)⟩, fun y hy z hz => ?_⟩
  · rw [h2, List.mem_filter] at hy
    have h3 := hf y hy.1
    have h4 := hy.2
    simp at h4
    omega
  · rw [h1, List.mem_filter] at hy
    have h4 := hy.2
    simp at h4
    rcases List.mem_cons.1 hz with rfl | hz
    · exact h4
    · rw [h2, List.mem_filter] at hz
      have h3 := hf z hz.1
      have h5 := hz.2
      simp at h5
      omega
/-- Where a run stands. -/
theorem place_self {P : Int} {x : Int × Int} : ∀ {xs : List (Int × Int)}, RunsOk P xs → x ∈ xs → ∃ l r, xs = l ++ x :: r ∧ placeOf xs (x.1 + x.2) = l.length
  | [], _, h => by cases h
  | y :: r, h, hx => by
    rcases List.mem_cons.1 hx with rfl | hx
    · refine ⟨[], r, rfl, ?_⟩
      unfold placeOf
      rw [List.length_nil, List.countP_eq_zero]
      intro z hz
      rcases List.mem_cons.1 hz with rfl | hz
      · simp
      · have := h.head z hz; have := (h.tail.bd z hz).2.1; simp; omega
    · obtain ⟨l, r', e, hp⟩ := place_self h.tail hx
      refine ⟨y :: l, r', by rw [e]; rfl, ?_⟩
      have h1 := h.head x hx
      have h2 := (h.tail.bd x hx).2.1
      unfold placeOf at hp ⊢
      rw [List.countP_cons_of_pos (by simp; omega), hp]
      rfl
/-- A run taken away. -/
def delL (x : Int × Int) (xs : List (Int × Int)) : List (Int × Int) := xs.take (placeOf xs (x.1 + x.2)) ++ xs.drop (placeOf xs (x.1 + x.2) + 1)
theorem delL_eq {x : Int × Int} {xs l r : List (Int × Int)} (e : xs = l ++ x :: r) (hp : placeOf xs (x.1 + x.2) = l.length) : delL x xs = l ++ r := by
  unfold delL
  rw [hp, e]
  simp
theorem delL_sub {P : Int} {x : Int × Int} {xs : List (Int × Int)} (h : RunsOk P xs) (hx : x ∈ xs) : (delL x xs).Sublist xs := by
  obtain ⟨l, r, e, hp⟩ := place_self h hx
  rw [delL_eq e hp, e]
  exact List.Sublist.append (List.Sublist.refl _) (List.sublist_cons_self _ _)
theorem delL_ok {P : Int} {x : Int × Int} {xs : List (Int × Int)} (h : RunsOk P xs) (hx : x ∈ xs) : RunsOk P (delL x xs) := h.sub (delL_sub h hx)
theorem mem_delL {P : Int} {x y : Int × Int} {xs : List (Int × Int)} (h : RunsOk P xs) (hx : x ∈ xs) : y ∈ delL x xs ↔ y ∈ xs ∧ y ≠ x := by
  obtain ⟨l, r, e, hp⟩ := place_self h hx
  rw [delL_eq e hp]
  have hg := h.gap
  rw [e, List.pairwise_append, List.pairwise_cons] at hg
  have hb := h.bd x hx
  constructor
  · intro hy
    rcases List.mem_append.1 hy with hy | hy
    · refine ⟨by rw [e]; simp [hy], ?_⟩
      rintro rfl
      have := hg.2.2 y hy y (by simp); omega
    · refine ⟨by rw [e]; simp [hy], ?_⟩
      rintro rfl
      have := hg.2.1.1 y hy; omega
  · rintro ⟨hy, hne⟩
    rw [e, List.mem_append, List.mem_cons] at hy
    rcases hy with hy | hy | hy
    · simp [hy]
    · exact absurd hy hne
    · simp [hy]
theorem delL_length {P : Int} {x : Int × Int} {xs : List (Int × Int)} (h : RunsOk P xs) (hx : x ∈ xs) : (delL x xs).length + 1 = xs.length := by
  obtain ⟨l, r, e, hp⟩ := place_self h hx
  rw [delL_eq e hp, e]; simp; omega
theorem delL_tot {P : Int} {x : Int × Int} {xs : List (Int × Int)} (h : RunsOk P xs) (hx : x ∈ xs) : tot (delL x xs) = tot xs - x.2 := by
  obtain ⟨l, r, e, hp⟩ := place_self h hx
  rw [delL_eq e hp, e]; simp only [tot_append, tot]; omega

/-- A page of one of them. -/
def pg (xs : List (Int × Int)) (p : Int) : Prop := ∃ x ∈ xs, x.1 ≤ p ∧ p < x.1 + x.2
theorem pg_insL {x : Int × Int} {xs : List (Int × Int)} {p : Int} : pg (insL x xs) p ↔ (x.1 ≤ p ∧ p < x.1 + x.2) ∨ pg xs p := by
  constructor
  · rintro ⟨y, hy, h⟩
    rcases mem_insL.1 hy with rfl | hy
    · exact .inl h
    · exact .inr ⟨y, hy, h⟩
  · rintro (h | ⟨y, hy, h⟩)
    · exact ⟨x, mem_insL.2 (.inl rfl), h⟩
    · exact ⟨y, mem_insL.2 (.inr hy), h⟩
theorem pg_delL {P : Int} {x : Int × Int} {xs : List (Int × Int)} (h : RunsOk P xs) (hx : x ∈ xs) {p : Int} : pg (delL x xs) p ↔ pg xs p ∧ ¬ (x.1 ≤ p ∧ p < x.1 + x.2) := by
  constructor
  · rintro ⟨y, hy, hp⟩
    obtain ⟨hy, hne⟩ := (mem_delL h hx).1 hy
    refine ⟨⟨y, hy, hp⟩, fun hp' => ?_⟩
    rcases h.apart hx hy with e | e | e
    · exact hne e.symm
    · omega
    · omega
  · rintro ⟨⟨y, hy, hp⟩, hn⟩
    exact ⟨y, (mem_delL h hx).2 ⟨hy, fun e => hn (e ▸ hp)⟩, hp⟩
/-- The pages tell the runs. -/
theorem pg_uniq {P : Int} : ∀ {xs ys : List (Int × Int)}, RunsOk P xs → RunsOk P ys → (∀ p, pg xs p ↔ pg ys p) → xs = ys
  | [], [], _, _, _ => rfl
  | [], y :: s, _, h, he => by
    have hb := h.bd y (by simp)
    obtain ⟨z, hz, _⟩ := (he y.1).2 ⟨y, by simp, by omega, by omega⟩
    cases hz
  | x :: r, [], h, _, he => by
    have hb := h.bd x (by simp)
    obtain ⟨z, hz, _⟩ := (he x.1).1 ⟨x, by simp, by omega, by omega⟩
    cases hz
  | x :: r, y :: s, hx, hy, he => by
    have bx := hx.bd x (by simp)
    have by_ := hy.bd y (by simp)
    have e1 : x.1 = y.1 := by
      obtain ⟨z, hz, z1, z2⟩ := (he x.1).1 ⟨x, by simp, by omega, by omega⟩
      obtain ⟨u, hu, u1, u2⟩ := (he y.1).2 ⟨y, by simp, by omega, by omega⟩
      have a1 : y.1 ≤ z.1 := by
        rcases List.mem_cons.1 hz with rfl | hz
        · exact Int.le_refl _
        · have := hy.head z hz; omega
      have a2 : x.1 ≤ u.1 := by
        rcases List.mem_cons.1 hu with rfl | hu
        · exact Int.le_refl _
        · have := hx.head u hu; omega
      omega
    have e2 : x.2 = y.2 := by
      rcases Int.lt_trichotomy x.2 y.2 with h | h | h
      · obtain ⟨u, hu, u1, u2⟩ := (he (x.1 + x.2)).2 ⟨y, by simp, by omega, by omega⟩
        rcases List.mem_cons.1 hu with rfl | hu
        · omega
        · have := hx.head u hu; omega
      · exact h
      · obtain ⟨u, hu, u1, u2⟩ := (he (y.1 + y.2)).1 ⟨x, by simp, by omega, by omega⟩
        rcases List.mem_cons.1 hu with rfl | hu
        · omega
        · have := hy.head u hu; omega
    obtain rfl : x = y := Prod.ext e1 e2
    rw [pg_uniq hx.tail hy.tail]
    intro p
    constructor
    · rintro ⟨z, hz, z1, z2⟩
      have hb := hx.head z hz
      obtain ⟨u, hu, u1, u2⟩ := (he p).1 ⟨z, by simp [hz], z1, z2⟩
      rcases List.mem_cons.1 hu with rfl | hu
      · omega
      · exact ⟨u, hu, u1, u2⟩
    · rintro ⟨z, hz, z1, z2⟩
      have hb := hy.head z hz
      obtain ⟨u, hu, u1, u2⟩ := (he p).2 ⟨z, by simp [hz], z1, z2⟩
      rcases List.mem_cons.1 hu with rfl | hu
      · omega
      · exact ⟨u, hu, u1, u2⟩

/-- Those that have some of the pages from one up to another one, or that end, or begin, beside them. -/
def nearL (xs : List (Int × Int)) (a b : Int) : List (Int × Int) := (xs.drop (placeOf xs a)).takeWhile (fun x => decide (x.1 ≤ b))
theorem nearL_sub (xs : List (Int × Int)) (a b : Int) : (nearL xs a b).Sublist xs := (List.takeWhile_sublist _).trans (List.drop_sublist _ _)
theorem takeWhile_rise {P : Int} (b : Int) : ∀ {xs : List (Int × Int)}, RunsOk P xs → xs.takeWhile (fun x => decide (x.1 ≤ b)) = xs.filter (fun x => decide (x.1 ≤ b))
  | [], _ => rfl
  | x :: r, h => by
    by_cases hx : x.1 ≤ b
    · rw [List.takeWhile_cons_of_pos (by simpa using hx), List.filter_cons_of_pos (by simpa using hx), takeWhile_rise b h.tail]
    · rw [List.takeWhile_cons_of_neg (by simpa using hx), eq_comm, List.filter_eq_nil_iff]
      intro y hy
      rcases List.mem_cons.1 hy with rfl | hy
      · simpa using hx
      · have := h.head y hy; have := (h.bd x (by simp)).2.1; simp; omega
theorem mem_nearL {P : Int} {xs : List (Int × Int)} (h : RunsOk P xs) {a b : Int} {y : Int × Int} : y ∈ nearL xs a b ↔ y ∈ xs ∧ a ≤ y.1 + y.2 ∧ y.1 ≤ b := by
  unfold nearL
  rw [takeWhile_rise b (h.sub (List.drop_sublist _ _)), (place_split a h).2, List.mem_filter, List.mem_filter]
  simp [and_assoc]
/-- It has one of the pages. -/
def Hits (x : Int × Int) (a n : Int) : Prop := x.1 < a + n ∧ a < x.1 + x.2
instance (x : Int × Int) (a n : Int) : Decidable (Hits x a n) := inferInstanceAs (Decidable (_ ∧ _))
/-- None of them has one: there are two at most, one that ends, one that begins beside. -/
theorem near_cases {P : Int} {xs : List (Int × Int)} (h : RunsOk P xs) {a n : Int} (hn : 1 ≤ n) (hh : ∀ y ∈ nearL xs a (a + n), ¬ Hits y a n) :
    (nearL xs a (a + n) = [] ∧ ∀ y ∈ xs, y.1 + y.2 < a ∨ a + n < y.1) ∨ (∃ x, nearL xs a (a + n) = [x] ∧ (x.1 + x.2 = a ∨ x.1 = a + n)) ∨ ∃ x y, nearL xs a (a + n) = [x, y] ∧ x.1 + x.2 = a ∧ y.1 = a + n := by
  have hm := fun y => mem_nearL h (a := a) (b := a + n) (y := y)
  have hg := h.gap.sublist (nearL_sub xs a (a + n))
  have hs : ∀ y ∈ nearL xs a (a + n), y.1 + y.2 = a ∨ y.1 = a + n := fun y hy => by
    have h1 := (hm y).1 hy
    have h2 := hh y hy
    unfold Hits at h2
    omega
  generalize hN : nearL xs a (a + n) = N at *
  match N with
  | [] =>
    refine .inl ⟨rfl, fun y hy => ?_⟩
    have h9 : ¬ (a ≤ y.1 + y.2 ∧ y.1 ≤ a + n) := fun hc => absurd ((hm y).2 ⟨hy, hc⟩) (by simp)
    omega
  | [x] => exact .inr (.inl ⟨x, rfl, hs x (by simp)⟩)
  | [x, y] =>
    refine .inr (.inr ⟨x, y, rfl, ?_⟩)
    have hx := hs x (by simp); have hy := hs y (by simp)
    have mx := (hm x).1 (by simp); have my := (hm y).1 (by simp)
    have bx := h.bd x mx.1; have by_ := h.bd y my.1
    have := (List.pairwise_cons.1 hg).1 y (by simp)
    omega
  | x :: y :: z :: r =>
    exfalso
    have hy := hs y (by simp)
    have mx := (hm x).1 (by simp); have my := (hm y).1 (by simp); have mz := (hm z).1 (by simp)
    have bx := h.bd x mx.1; have by_ := h.bd y my.1; have bz := h.bd z mz.1
    have h1 := (List.pairwise_cons.1 hg).1 y (by simp)
    have h2 := (List.pairwise_cons.1 (List.pairwise_cons.1 hg).2).1 z (by simp)
    omega
/-- What is put: all that lie beside, and the pages between. -/
def wholeL (a n : Int) : List (Int × Int) → Int × Int
  | [] => (a, n)
  | x :: r => wholeL (min a x.1) (n + x.2) r
def dropsL (xs : List (Int × Int)) : List (Int × Int) → List (Int × Int)
  | [] => xs
  | x :: r => dropsL (delL x xs) r
/-- Pages freed. -/
def freeL (a n : Int) (xs : List (Int × Int)) : List (Int × Int) := insL (wholeL a n (nearL xs a (a + n))) (dropsL xs (nearL xs a (a + n)))
structure Freed (P a n : Int) (xs : List (Int × Int)) : Prop where
  bd : 0 ≤ (wholeL a n (nearL xs a (a + n))).1 ∧ 1 ≤ (wholeL a n (nearL xs a (a + n))).2 ∧ (wholeL a n (nearL xs a (a + n))).1 + (wholeL a n (nearL xs a (a + n))).2 ≤ P
  free : Free (wholeL a n (nearL xs a (a + n))) (dropsL xs (nearL xs a (a + n)))
  drops : RunsOk P (dropsL xs (nearL xs a (a + n)))
  ok : RunsOk P (freeL a n xs)
  pages : ∀ p, pg (freeL a n xs) p ↔ pg xs p ∨ (a ≤ p ∧ p < a + n)
  tots : tot (freeL a n xs) = tot xs + n
theorem Freed.of {P a n : Int} {xs : List (Int × Int)} (bd : 0 ≤ (wholeL a n (nearL xs a (a + n))).1 ∧ 1 ≤ (wholeL a n (nearL xs a (a + n))).2 ∧ (wholeL a n (nearL xs a (a + n))).1 + (wholeL a n (nearL xs a (a + n))).2 ≤ P)
    (free : Free (wholeL a n (nearL xs a (a + n))) (dropsL xs (nearL xs a (a + n)))) (drops : RunsOk P (dropsL xs (nearL xs a (a + n))))
    (pages : ∀ p, pg (freeL a n xs) p ↔ pg xs p ∨ (a ≤ p ∧ p < a + n)) (tots : tot (freeL a n xs) = tot xs + n) : Freed P a n xs := ⟨bd, free, drops, insL_ok drops bd free, pages, tots⟩
theorem freed {P : Int} {xs : List (Int × Int)} (h : RunsOk P xs) {a n : Int} (ha : 0 ≤ a) (hn : 1 ≤ n) (hP : a + n ≤ P) (hh : ∀ y ∈ nearL xs a (a + n), ¬ Hits y a n) : Freed P a n xs := by
  have hm := fun y => mem_nearL h (a := a) (b := a + n) (y := y)
  rcases near_cases h hn hh with ⟨e, hf⟩ | ⟨x, e, hx⟩ | ⟨x, y, e, hx, hy⟩
  · refine Freed.of ?_ ?_ ?_ ?_ ?_
    · rw [e]; simp only [wholeL]; omega
    · rw [e]; exact hf
    · rw [e]; exact h
    · intro p; unfold freeL; rw [e, pg_insL]; simp only [wholeL, dropsL]; exact or_comm
    · unfold freeL; rw [e, insL_tot]; rfl
  · have mx := ((hm x).1 (by rw [e]; simp)).1
    have bx := h.bd x mx
    have hd := delL_ok h mx
    refine Freed.of ?_ ?_ ?_ ?_ ?_
    · rw [e]; simp only [wholeL]; omega
    · rw [e]
      intro z hz
      simp only [dropsL] at hz
      obtain ⟨hz, hne⟩ := (mem_delL h mx).1 hz
      have hz2 : ¬ (a ≤ z.1 + z.2 ∧ z.1 ≤ a + n) := fun hc => absurd ((hm z).2 ⟨hz, hc⟩) (by rw [e]; simpa using hne)
      have hz3 := h.bd z hz
      have hz4 := h.apart mx hz
      simp only [wholeL]
      rcases hz4 with e4 | e4 | e4
      · exact absurd e4.symm hne
      · rcases hx with hx | hx <;> omega
      · rcases hx with hx | hx <;> omega
    · rw [e]; exact hd
    · intro p
      unfold freeL
      rw [e, pg_insL]
      simp only [wholeL, dropsL]
      rw [pg_delL h mx]
      have hp : (x.1 ≤ p ∧ p < x.1 + x.2) → pg xs p := fun hp => ⟨x, mx, hp⟩
      constructor
      · rintro (h1 | h1)
        · by_cases h2 : a ≤ p ∧ p < a + n
          · exact .inr h2
          · exact .inl (hp (by rcases hx with hx | hx <;> omega))
        · exact .inl h1.1
      · rintro (h1 | h1)
        · by_cases h2 : x.1 ≤ p ∧ p < x.1 + x.2
          · exact .inl (by rcases hx with hx | hx <;> omega)
          · exact .inr ⟨h1, h2⟩
        · exact .inl (by rcases hx with hx | hx <;> omega)
    · unfold freeL; rw [e, insL_tot]; simp only [wholeL, dropsL]; rw [delL_tot h mx]; omega
  · have mx := ((hm x).1 (by rw [e]; simp)).1
    have my := ((hm y).1 (by rw [e]; simp)).1
    have bx := h.bd x mx
    have by_ := h.bd y my
    have hd := delL_ok h mx
    have hne : y ≠ x := fun e => by rw [e] at hy; omega
    have my2 := (mem_delL h mx).2 ⟨my, hne⟩
    have hd2 := delL_ok hd my2
    refine Freed.of ?_ ?_ ?_ ?_ ?_
    · rw [e]; simp only [wholeL]; omega
    · rw [e]
      intro z hz
      simp only [dropsL] at hz
      obtain ⟨hz, hne2⟩ := (mem_delL hd my2).1 hz
      obtain ⟨hz, hne3⟩ := (mem_delL h mx).1 hz
      have hz2 : ¬ (a ≤ z.1 + z.2 ∧ z.1 ≤ a + n) := fun hc => absurd ((hm z).2 ⟨hz, hc⟩) (by rw [e]; simp [hne2, hne3])
      have hz3 := h.bd z hz
      have hz4 := h.apart mx hz
      have hz5 := h.apart my hz
      simp only [wholeL]
      rcases hz4 with e4 | e4 | e4
      · exact absurd e4.symm hne3
      · rcases hz5 with e5 | e5 | e5
        · exact absurd e5.symm hne2
        · omega
        · omega
      · omega
    · rw [e]; exact hd2
    · intro p
      unfold freeL
      rw [e, pg_insL]
      simp only [wholeL, dropsL]
      rw [pg_delL hd my2, pg_delL h mx]
      have hp : (x.1 ≤ p ∧ p < x.1 + x.2) → pg xs p := fun hp => ⟨x, mx, hp⟩
      have hq : (y.1 ≤ p ∧ p < y.1 + y.2) → pg xs p := fun hp => ⟨y, my, hp⟩
      constructor
      · rintro (h1 | h1)
        · by_cases h2 : a ≤ p ∧ p < a + n
          · exact .inr h2
          · by_cases h3 : p < a
            · exact .inl (hp (by omega))
            · exact .inl (hq (by omega))
        · exact .inl h1.1.1
      · rintro (h1 | h1)
        · by_cases h2 : x.1 ≤ p ∧ p < x.1 + x.2
          · exact .inl (by omega)
          · by_cases h3 : y.1 ≤ p ∧ p < y.1 + y.2
            · exact .inl (by omega)
            · exact .inr ⟨⟨h1, h2⟩, h3⟩
        · exact .inl (by omega)
    · unfold freeL; rw [e, insL_tot]; simp only [wholeL, dropsL]; rw [delL_tot hd my2, delL_tot h mx]; omega
/-- One of the pages is free. -/
theorem hits_pg {P : Int} {xs : List (Int × Int)} (h : RunsOk P xs) {a n : Int} (hn : 1 ≤ n) : (∃ y ∈ nearL xs a (a + n), Hits y a n) ↔ ∃ p, a ≤ p ∧ p < a + n ∧ pg xs p := by
  constructor
  · rintro ⟨y, hy, h1, h2⟩
    have hm := ((mem_nearL h).1 hy).1
    have hb := h.bd y hm
    by_cases h3 : a ≤ y.1
    · exact ⟨y.1, h3, h1, y, hm, by omega, by omega⟩
    · exact ⟨a, by omega, by omega, y, hm, by omega, by omega⟩
  · rintro ⟨p, h1, h2, y, hy, h3, h4⟩
    exact ⟨y, (mem_nearL h).2 ⟨hy, by omega, by omega⟩, by unfold Hits; omega⟩

/-- The shortest run that is long enough, of these the lowest. -/
structure IsBest (n : Int) (xs : List (Int × Int)) (x : Int × Int) : Prop where
  mem : x ∈ xs
  long : n ≤ x.2
  least : ∀ y ∈ xs, n ≤ y.2 → 8192 * x.2 + x.1 ≤ 8192 * y.2 + y.1
/-- Pages taken of a run. -/
def takeL (x : Int × Int) (n : Int) (xs : List (Int × Int)) : List (Int × Int) := if n < x.2 then insL (x.1 + n, x.2 - n) (delL x xs) else delL x xs
structure Took (P n : Int) (xs : List (Int × Int)) (x : Int × Int) : Prop where
  del : RunsOk P (delL x xs)
  bd : n < x.2 → 0 ≤ x.1 + n ∧ 1 ≤ x.2 - n ∧ x.1 + n + (x.2 - n) ≤ P
  free : Free (x.1 + n, x.2 - n) (delL x xs)
  ok : RunsOk P (takeL x n xs)
  pages : ∀ p, pg (takeL x n xs) p ↔ pg xs p ∧ ¬ (x.1 ≤ p ∧ p < x.1 + n)
  tots : tot (takeL x n xs) = tot xs - n
theorem took {P : Int} {xs : List (Int × Int)} (h : RunsOk P xs) {n : Int} {x : Int × Int} (hn : 1 ≤ n) (hx : x ∈ xs) (hl : n ≤ x.2) : Took P n xs x := by
  have hd := delL_ok h hx
  have bx := h.bd x hx
  have hf : Free (x.1 + n, x.2 - n) (delL x xs) := fun y hy => by
    obtain ⟨hy, hne⟩ := (mem_delL h hx).1 hy
    have by_ := h.bd y hy
    simp only
    rcases h.apart hx hy with e | e | e
    · exact absurd e.symm hne
    · omega
    · omega
  refine ⟨hd, fun hlt => by omega, hf, ?_, fun p => ?_, ?_⟩
  · unfold takeL
    split
    · exact insL_ok hd (by simp only; omega) hf
    · exact hd
  · unfold takeL
    have hp : (x.1 ≤ p ∧ p < x.1 + x.2) → pg xs p := fun hp => ⟨x, hx, hp⟩
    split
    · rw [pg_insL, pg_delL h hx]
      simp only
      constructor
      · rintro (h1 | h1)
        · exact ⟨hp (by omega), by omega⟩
        · exact ⟨h1.1, by omega⟩
      · rintro ⟨h1, h2⟩
        by_cases h3 : x.1 ≤ p ∧ p < x.1 + x.2
        · exact .inl (by omega)
        · exact .inr ⟨h1, h3⟩
    · rw [pg_delL h hx]
      constructor
      · rintro ⟨h1, h2⟩; exact ⟨h1, by omega⟩
      · rintro ⟨h1, h2⟩; exact ⟨h1, by omega⟩
  · unfold takeL
    split
    · rw [insL_tot, delL_tot h hx]; simp only; omega
    · rw [delL_tot h hx]; omega
theorem IsBest.uniq {P n : Int} {xs : List (Int × Int)} (h : RunsOk P xs) (hP : P ≤ 4096) {x y : Int × Int} (hx : IsBest n xs x) (hy : IsBest n xs y) : x = y := by
  have h1 := hx.least y hy.mem hy.long
  have h2 := hy.least x hx.mem hx.long
  have b1 := h.bd x hx.mem
  have b2 := h.bd y hy.mem
  exact Prod.ext (by omega) (by omega)
end Go.Proofs.Ytbijbpnhakbeeaa

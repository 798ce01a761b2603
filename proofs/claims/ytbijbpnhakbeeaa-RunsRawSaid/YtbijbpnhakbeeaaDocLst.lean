/- The document's list of free runs, out of its row of pages: a plain law. By an AI agent. -/
import Derived.Test.YtbijbpnhakbeeaaRunList
namespace Go.Proofs.Ytbijbpnhakbeeaa
open Go.RowKit
/-- One page more. -/
def stepL (out : List (Int × Int)) (i : Int) : Bool → List (Int × Int)
  | false => out
  | true => match out.getLast? with
    | some x => if x.1 + x.2 = i then out.dropLast ++ [(x.1, x.2 + 1)] else out ++ [(i, 1)]
    | none => out ++ [(i, 1)]
def lstN (fr : List Bool) : Nat → List (Int × Int)
  | 0 => []
  | i + 1 => stepL (lstN fr i) i (fr.getD i false)
theorem stepL_nil (i : Int) : stepL [] i true = [(i, 1)] := rfl
theorem stepL_join {ys : List (Int × Int)} {x : Int × Int} {i : Int} (h : x.1 + x.2 = i) : stepL (ys ++ [x]) i true = ys ++ [(x.1, x.2 + 1)] := by
  simp [stepL, h]
theorem stepL_new {ys : List (Int × Int)} {x : Int × Int} {i : Int} (h : x.1 + x.2 ≠ i) : stepL (ys ++ [x]) i true = ys ++ [x] ++ [(i, 1)] := by
  simp [stepL, h]
theorem list_snoc {α : Type} (l : List α) : l = [] ∨ ∃ ys x, l = ys ++ [x] := by
  rcases List.eq_nil_or_concat l with h | ⟨ys, x, h⟩
  · exact .inl h
  · exact .inr ⟨ys, x, by simpa using h⟩
theorem pg_append {a b : List (Int × Int)} {p : Int} : pg (a ++ b) p ↔ pg a p ∨ pg b p := by
  unfold pg
  constructor
  · rintro ⟨x, hx, h⟩
    rcases List.mem_append.1 hx with hx | hx
    · exact .inl ⟨x, hx, h⟩
    · exact .inr ⟨x, hx, h⟩
  · rintro (⟨x, hx, h⟩ | ⟨x, hx, h⟩)
    · exact ⟨x, List.mem_append.2 (.inl hx), h⟩
    · exact ⟨x, List.mem_append.2 (.inr hx), h⟩
theorem pg_single {x : Int × Int} {p : Int} : pg [x] p ↔ x.1 ≤ p ∧ p < x.1 + x.2 := by
  unfold pg; simp
theorem RunsOk.snoc {P : Int} {ys : List (Int × Int)} {x : Int × Int} : RunsOk P (ys ++ [x]) ↔ RunsOk P ys ∧ (∀ y ∈ ys, y.1 + y.2 < x.1) ∧ 0 ≤ x.1 ∧ 1 ≤ x.2 ∧ x.1 + x.2 ≤ P := by
  constructor
  · intro h
    have h1 := List.pairwise_append.1 h.gap
    exact ⟨⟨h1.1, fun y hy => h.bd y (List.mem_append.2 (.inl hy))⟩, fun y hy => h1.2.2 y hy x (by simp), h.bd x (by simp)⟩
  · rintro ⟨h1, h2, h3⟩
    refine ⟨List.pairwise_append.2 ⟨h1.gap, by simp, fun y hy z hz => ?_⟩, fun y hy => ?_⟩
    · rw [List.mem_singleton] at hz; subst hz; exact h2 y hy
    · rcases List.mem_append.1 hy with hy | hy
      · exact h1.bd y hy
      · rw [List.mem_singleton] at hy; subst hy; exact h3
theorem RunsOk.wide {P Q : Int} {xs : List (Int × Int)} (h : RunsOk P xs) (hq : P ≤ Q) : RunsOk Q xs := ⟨h.gap, fun x hx => by have := h.bd x hx; omega⟩
theorem lstN_ok (fr : List Bool) : ∀ i : Nat, RunsOk i (lstN fr i) ∧ ∀ p, pg (lstN fr i) p ↔ 0 ≤ p ∧ p < i ∧ fr.getD p.toNat false = true
  | 0 => ⟨RunsOk.nil _, fun p => ⟨fun ⟨x, hx, _⟩ => (by cases hx), fun h => (by omega)⟩⟩
  | i + 1 => by
    obtain ⟨h1, h2⟩ := lstN_ok fr i
    have hw : RunsOk ((i + 1 : Nat) : Int) (lstN fr i) := h1.wide (by omega)
    have split (p : Int) (hp : p = i ∨ p ≠ i) : (0 ≤ p ∧ p < ((i + 1 : Nat) : Int) ∧ fr.getD p.toNat false = true) ↔ (0 ≤ p ∧ p < i ∧ fr.getD p.toNat false = true) ∨ (p = i ∧ fr.getD i false = true) := by
      rcases hp with rfl | hp
      · rw [Int.toNat_natCast]
        constructor
        · rintro ⟨_, _, h⟩; exact .inr ⟨rfl, h⟩
        · rintro (⟨_, h, _⟩ | ⟨_, h⟩)
          · omega
          · exact ⟨by omega, by omega, h⟩
      · constructor
        · rintro ⟨a, b, c⟩; exact .inl ⟨a, by omega, c⟩
        · rintro (⟨a, b, c⟩ | ⟨a, _⟩)
          · exact ⟨a, by omega, c⟩
          · exact absurd a hp
    rw [lstN]
    cases hb : fr.getD i false with
    | false =>
      refine ⟨hw, fun p => ?_⟩
      rw [split p (Decidable.em _), hb, stepL, h2 p]
      simp
    | true =>
      rcases list_snoc (lstN fr i) with he | ⟨ys, x, he⟩
      · rw [he, stepL_nil]
        refine ⟨RunsOk.single (by simp only; omega), fun p => ?_⟩
        rw [split p (Decidable.em _), hb, ← h2 p, he, pg_single]
        have hn : ¬ pg [] p := fun ⟨x, hx, _⟩ => by cases hx
        simp only [hn, false_or, and_true]
        omega
      · rw [he] at h1 hw h2 ⊢
        obtain ⟨g1, g2, g3⟩ := RunsOk.snoc.1 h1
        by_cases hx : x.1 + x.2 = i
        · rw [stepL_join hx]
          refine ⟨RunsOk.snoc.2 ⟨g1.wide (by omega), g2, by simp only; omega⟩, fun p => ?_⟩
          rw [split p (Decidable.em _), hb, ← h2 p, pg_append, pg_append, pg_single, pg_single]
          simp only [and_true]
          constructor
          · rintro (h | h)
            · exact .inl (.inl h)
            · by_cases hp : p = i
              · exact .inr hp
              · exact .inl (.inr (by omega))
          · rintro ((h | h) | h)
            · exact .inl h
            · exact .inr (by omega)
            · exact .inr (by omega)
        · rw [stepL_new hx]
          refine ⟨RunsOk.snoc.2 ⟨hw, fun y hy => ?_, by simp only; omega⟩, fun p => ?_⟩
          · rcases List.mem_append.1 hy with hy | hy
            · have := g2 y hy; simp only; omega
            · rw [List.mem_singleton] at hy; subst hy; simp only; omega
          · rw [split p (Decidable.em _), hb, ← h2 p, pg_append (a := ys ++ [x]), pg_single (x := ((i : Int), 1))]
            simp only [and_true]
            constructor
            · rintro (h | h)
              · exact .inl h
              · exact .inr (by omega)
            · rintro (h | h)
              · exact .inl h
              · exact .inr (by omega)
theorem lstN_len (fr : List Bool) : ∀ i : Nat, (lstN fr i).length ≤ i
  | 0 => Nat.le_refl _
  | i + 1 => by
    have := lstN_len fr i
    rw [lstN]
    cases fr.getD i false with
    | false => simp [stepL]; omega
    | true =>
      rcases list_snoc (lstN fr i) with he | ⟨ys, x, he⟩
      · rw [he, stepL_nil]; simp
      · rw [he] at this ⊢
        by_cases hx : x.1 + x.2 = i
        · rw [stepL_join hx]; simp at this ⊢; omega
        · rw [stepL_new hx]; simp at this ⊢; omega
/-- The free pages that runs say. -/
theorem lst_eq {P : Nat} {fr : List Bool} {xs : List (Int × Int)} (h : RunsOk P xs) (hp : ∀ p : Int, pg xs p ↔ 0 ≤ p ∧ p < P ∧ fr.getD p.toNat false = true) : lstN fr P = xs :=
  pg_uniq (lstN_ok fr P).1 h (fun p => ((lstN_ok fr P).2 p).trans (hp p).symm)
end Go.Proofs.Ytbijbpnhakbeeaa

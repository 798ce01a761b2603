/- A slice of structs of integers that came in: what its cells hold. By an AI agent. -/
import Derived.Test.YtkfjhdjllnihnaaRow
import Derived.Deep.Slices
import Derived.ProofKit
namespace Go.Proofs.Ytkfjhdjllnihnaa
open Go.RowKit Go.Deep Go.ChangeShapes Go.WideShapes

/-- A slice of structs of integer fields of the kinds ks: nil, or element i's field j is the number f i j. -/
def IsRecs (ks : List IntKind) (w : World) (a : Option Addr) (len cap : Nat) (f : Nat → Nat → Int) : Prop :=
  (a = none ∧ len = 0 ∧ cap = 0) ∨
  ∃ x, a = some x ∧ len ≤ cap ∧ cap ≤ maxLen ∧ ∀ i, i < len → ∀ j k, ks[j]? = some k → w.cell? (x.add (i * ks.length + j)) = some (.int k (f i j)) ∧ (Lit.int k (f i j)).wf = true

section
variable {H : Type} {enc : TypeId × Value → H} {P : Program} {w : World} {base : Nat} {spare : Nat → Bool} {held : Bool}
theorem open_recs {t e : TypeId} {fs : Array Field} {ks : List IntKind} {fuel : Nat} {a : Option Addr} {len cap : Nat} {x : DataW H × List MemPlace} (ht : P.underlying t = some (.slice e)) (he : P.underlying e = some (.struct fs))
    (hc : P.cellsOf e = ks.length) (hf : ∀ j k, ks[j]? = some k → ∃ f : Field, fs[j]? = some f ∧ f.offset = j ∧ P.cellsOf f.type = 1 ∧ P.underlying f.type = some (.int k))
    (h : DataW.trod enc P w base spare held fuel t [.slice a len cap] = some x) : ∃ f, IsRecs ks w a len cap f := by
  rcases open_slice ht h with ⟨h0, _⟩ | ⟨a', len', cap', m, n, D, Pl, h0, _, hl, hm, hmm, _, hx⟩
  · simp at h0
    exact ⟨fun _ _ => 0, .inl h0⟩
  · simp at h0
    obtain ⟨rfl, rfl, rfl⟩ := h0
    have hlm : len ≤ m := by rw [hmm]; split <;> omega
    have each : ∀ i, i < len → ∃ g : Nat → Int, ∀ j k, ks[j]? = some k → w.cell? (a'.add (i * ks.length + j)) = some (.int k (g j)) ∧ (Lit.int k (g j)).wf = true := by
      intro i hi
      obtain ⟨cs', h1, h2⟩ := hx i (by omega)
      rw [hc] at h1
      obtain ⟨_, hlen, hcell⟩ := World.cells?_some h1
      obtain ⟨xs, q, _, _, hcl, hxl, hfx⟩ := DataW.trod_struct he h2
      have one : ∀ j, j < ks.length → ∃ v : Int, ∀ k, ks[j]? = some k → w.cell? (a'.add (i * ks.length + j)) = some (.int k v) ∧ (Lit.int k v).wf = true := by
        intro j hj
        obtain ⟨k, hk⟩ : ∃ k, ks[j]? = some k := ⟨ks[j], by simp [hj]⟩
        obtain ⟨f, g1, g2, g3, g4⟩ := hf j k hk
        have g := hfx j f g1
        rw [g2, g3] at g
        have hxj : j < xs.length := by rw [hxl]; exact (Array.getElem?_eq_some_iff.1 g1).1
        rw [List.getElem?_eq_getElem hxj] at g
        obtain ⟨v, e1, _, e3⟩ := DataW.trod_int g4 g
        have hcj : cs'[j]? = some (.int k v) := by
          have := congrArg (fun l : List Value => l[0]?) e1
          simpa [List.getElem?_take, List.getElem?_drop] using this
        refine ⟨v, fun k' hk' => ?_⟩
        rw [hk] at hk'
        cases hk'
        have := hcell j hj
        rw [add_add, hcj] at this
        exact ⟨this, e3⟩
      obtain ⟨g, hg⟩ := choose_lt one
      refine ⟨g, fun j k hk => hg j ?_ k hk⟩
      exact (List.getElem?_eq_some_iff.1 hk).1
    obtain ⟨f, hf'⟩ : ∃ f : Nat → Nat → Int, ∀ i, i < len → ∀ j k, ks[j]? = some k → w.cell? (a'.add (i * ks.length + j)) = some (.int k (f i j)) ∧ (Lit.int k (f i j)).wf = true := by
      obtain ⟨f, hf'⟩ := choose_lt (α := Nat → Int) each
      exact ⟨f, hf'⟩
    exact ⟨f, .inr ⟨a', rfl, hl, hm, hf'⟩⟩
end
/-- An element that is there: the slice has an address, and the fields' cells hold numbers that fit. -/
theorem recs_at {ks : List IntKind} {w : World} {a : Option Addr} {len cap : Nat} {f : Nat → Nat → Int} (h : IsRecs ks w a len cap f) {i : Nat} (hi : i < len) (hk : 0 < ks.length) :
    ∃ b off, a = some ⟨b, off, none⟩ ∧ b < w.heap.size ∧ ∀ j k, ks[j]? = some k → w.cell? ⟨b, off + (i * ks.length + j), none⟩ = some (.int k (f i j)) ∧ (Lit.int k (f i j)).wf = true := by
  rcases h with ⟨rfl, rfl, rfl⟩ | ⟨x, rfl, _, _, hc⟩
  · omega
  · obtain ⟨k0, hk0⟩ : ∃ k0, ks[0]? = some k0 := ⟨ks[0], by simp [hk]⟩
    have h00 := (hc 0 (by omega) 0 k0 hk0).1
    obtain ⟨b, off, spot⟩ := x
    have hs : spot = none := by
      rw [show 0 * ks.length + 0 = 0 by omega] at h00
      exact World.cell?_spot (a := ⟨b, off, spot⟩) (by simpa [Addr.add] using h00)
    subst hs
    have h0 := (hc i hi 0 k0 hk0).1
    have e : ∀ n, (⟨b, off, none⟩ : Addr).add n = ⟨b, off + n, none⟩ := by intro n; unfold Addr.add; split <;> simp_all
    refine ⟨b, off, rfl, ?_, fun j k hjk => ?_⟩
    · rw [e] at h0
      rcases Nat.lt_or_ge b w.heap.size with h1 | h1
      · exact h1
      · simp [World.cell?, Array.getElem?_eq_none h1] at h0
    · have := hc i hi j k hjk
      rw [e] at this
      exact this
theorem recs_len {ks : List IntKind} {w : World} {a : Option Addr} {len cap : Nat} {f : Nat → Nat → Int} (h : IsRecs ks w a len cap f) : len ≤ cap ∧ cap ≤ 9223372036854775807 := by
  rcases h with ⟨_, rfl, rfl⟩ | ⟨_, _, h1, h2, _⟩
  · omega
  · unfold maxLen at h2; omega
end Go.Proofs.Ytkfjhdjllnihnaa

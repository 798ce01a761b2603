/- A row of integers that came in: its length, an element of it. By an AI agent. -/
import Derived.Test.YtffhoaimcjpjhaaGreatRow
namespace Go.Proofs.YtffhoaimcjpjhaaGreat
open Go.RowKit
theorem rows_len {k : IntKind} {w : World} {a : Option Addr} {len cap : Nat} {zs : List Int} (h : IsRow k w a len cap zs) : len ≤ cap ∧ cap ≤ 9223372036854775807 := by
  rcases h with ⟨_, rfl, rfl, _⟩ | ⟨_, _, h1, h2, _⟩
  · omega
  · unfold maxLen at h2; omega
theorem rows_at {k : IntKind} {w : World} {a : Option Addr} {len cap : Nat} {zs : List Int} (h : IsRow k w a len cap zs) {i : Nat} (hi : i < len) :
    ∃ b off, a = some ⟨b, off, none⟩ ∧ b < w.heap.size ∧ w.cell? ⟨b, off + i, none⟩ = some (.int k (zs.getD i 0)) ∧ (Lit.int k (zs.getD i 0)).wf = true := by
  rcases h with ⟨rfl, rfl, rfl, rfl⟩ | ⟨x, rfl, h1, h2, h3, h4, h5⟩
  · omega
  · have h00 := h4 i (by omega)
    obtain ⟨b, off, spot⟩ := x
    have hs : spot = none := by
      rcases spot with _ | sp
      · rfl
      · have h0 := h4 0 (by omega)
        exact World.cell?_spot (a := ⟨b, off, some sp⟩) (by simpa [Addr.add] using h0)
    subst hs
    have e : (⟨b, off, none⟩ : Addr).add i = ⟨b, off + i, none⟩ := by unfold Addr.add; split <;> simp_all
    rw [e] at h00
    refine ⟨b, off, rfl, ?_, h00, ?_⟩
    · rcases Nat.lt_or_ge b w.heap.size with h6 | h6
      · exact h6
      · simp [World.cell?, Array.getElem?_eq_none h6] at h00
    · refine h5 _ ?_
      rw [List.getD_eq_getElem?_getD, List.getElem?_eq_getElem (by omega : i < zs.length)]
      exact List.getElem_mem _
end Go.Proofs.YtffhoaimcjpjhaaGreat

/- The document's free runs: a run dropped, pages turned. By an AI agent. -/
import Derived.Test.YtbijbpnhakbeeaaDocAdd
namespace Go.Proofs.Ytbijbpnhakbeeaa
open Go.RowKit
def delI (key : Int) (xs : List It) : List It := xs.take (plc key xs) ++ xs.drop (plc key xs + 1)
theorem delI_len (key : Int) (xs : List It) : (delI key xs).length ≤ xs.length := by
  unfold delI; simp only [List.length_append, List.length_take, List.length_drop]; omega
def DS.del (s : DS) (key : Int) (lv : Value) : DS := { s with lv := lv, its := delI key s.its }
theorem hasK_at {key : Int} {xs : List It} (h : hasK key xs = true) : ∃ x, xs[plc key xs]? = some x ∧ x.1 = key := by
  unfold hasK at h
  cases hx : xs[plc key xs]? with
  | none => rw [hx] at h; cases h
  | some x => rw [hx] at h; exact ⟨x, rfl, by simpa using h⟩
theorem drop9D_any {w : World} {s : DS} (h : IsDoc w s) {key : Int} (hk : hasK key s.its = true) :
    Calls Try.prog 67 #[.pointer (some ⟨s.rb, 1, none⟩), .int .i64 key] w fun e w' => (∃ v, e = .returned v) ∧ ∃ lv, IsDoc w' (s.del key lv) ∧ MovD s (s.del key lv) w w' ∧ Only (· = s.rb) w w' := by
  obtain ⟨x, hx, hxk⟩ := hasK_at hk
  have hlt := (List.getElem?_eq_some_iff.1 hx).1
  have hil := h.il
  refine (drop9_any h.blk h.row (by omega) hx hxk).mono ?_
  rintro e w' ⟨rfl, ⟨tl', b1, b2⟩, b3⟩
  have hl : (delI key s.its).length = s.its.length - 1 := by
    unfold delI; simp only [List.length_append, List.length_take, List.length_drop]; omega
  have h8 := h.turn (lv := tl') (its := delI key s.its) (n := s.n) b3 b1 (by rw [hl]; exact ownsRow_base0 b2) (by omega)
  exact ⟨⟨_, rfl⟩, tl', h8, h.moved h8 (b3.mono (fun y _ e => .inl e)) rfl rfl rfl (.inr (fun g hg => row_base b2 g hg)), b3⟩
/-- Pages turned, one behind the other. -/
def setTo (fr : List Bool) (a : Nat) (b : Bool) : Nat → List Bool
  | 0 => fr
  | k + 1 => (setTo fr a b k).set (a + k) b
theorem setTo_len (fr : List Bool) (a : Nat) (b : Bool) : ∀ k, (setTo fr a b k).length = fr.length
  | 0 => rfl
  | k + 1 => by rw [setTo, List.length_set, setTo_len fr a b k]
theorem setTo_at (fr : List Bool) (a : Nat) (b : Bool) (p : Nat) : ∀ k, a + k ≤ fr.length → (setTo fr a b k).getD p false = if a ≤ p ∧ p < a + k then b else fr.getD p false
  | 0, _ => by rw [if_neg (by omega)]; rfl
  | k + 1, h => by
    have ih := setTo_at fr a b p k (by omega)
    rw [setTo, List.getD_eq_getElem?_getD, List.getElem?_set]
    by_cases hp : a + k = p
    · rw [if_pos hp, if_pos (by rw [setTo_len]; omega), if_pos (by omega)]; rfl
    · rw [if_neg hp, ← List.getD_eq_getElem?_getD, ih]
      by_cases h2 : a ≤ p ∧ p < a + k
      · rw [if_pos h2, if_pos (by omega)]
      · rw [if_neg h2, if_neg (by omega)]
def DS.setF (s : DS) (a : Nat) (b : Bool) (k : Nat) : DS := { s with fr := setTo s.fr a b k }
/-- One page more is turned. -/
theorem IsDoc.page {w : World} {s : DS} {a : Nat} {b : Bool} {k : Nat} (h : IsDoc w (s.setF a b k)) (v : Value) (hv : v = .bool b) : IsDoc (w.setCell ⟨s.fb, a + k, none⟩ v) (s.setF a b (k + 1)) := by
  subst hv
  have ho : Only (· = s.fb) w (w.setCell ⟨s.fb, a + k, none⟩ (.bool b)) := (Only.refl (· = s.fb) w).setCell (p := ⟨s.fb, a + k, none⟩) (.inl rfl) _
  have hl1 : (setTo s.fr a b (k + 1)).length = s.fr.length := setTo_len ..
  have hl2 : (setTo s.fr a b k).length = s.fr.length := setTo_len ..
  have hb := h.blk.only ho h.ne
  have hfv : (s.setF a b (k + 1)).fv = (s.setF a b k).fv := by unfold DS.setF DS.fv; simp only [hl1, hl2]
  refine ⟨by rw [hfv]; exact hb, ?_, row_only2 h.drs ho (fun g hg e => blk_not_row h.fre (by decide) h.drs ((congrArg some e).symm.trans hg)), row_only2 h.row ho (fun g hg e => blk_not_row h.fre (by decide) h.row ((congrArg some e).symm.trans hg)), h.ne, ?_, ?_, h.il, h.dl⟩
  · have h1 := h.fre.setCell (a + k) (.bool b)
    have h2 : ((setTo s.fr a b k).map Value.bool).toArray.setIfInBounds (a + k) (.bool b) = ((setTo s.fr a b (k + 1)).map Value.bool).toArray := by
      rw [setTo, List.map_set]; simp
    exact h2 ▸ h1
  · have := h.P1; rw [show (s.setF a b k).fr.length = s.fr.length from hl2] at this; rw [show (s.setF a b (k + 1)).fr.length = s.fr.length from hl1]; exact this
  · have := h.P2; rw [show (s.setF a b k).fr.length = s.fr.length from hl2] at this; rw [show (s.setF a b (k + 1)).fr.length = s.fr.length from hl1]; exact this
end Go.Proofs.Ytbijbpnhakbeeaa

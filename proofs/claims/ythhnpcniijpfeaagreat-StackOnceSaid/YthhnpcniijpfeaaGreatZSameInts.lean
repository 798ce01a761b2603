/- dustpanref1.SameInts of two slices that hold the same. By an AI agent. -/
import Derived.Test.YthhnpcniijpfeaaGreatZ1
import Derived.Maps.AppendAt
namespace Go.Proofs.YthhnpcniijpfeaaGreat
open Go.RowKit
set_option linter.unusedSimpArgs false
set_option linter.unusedVariables false
/-- A slice of integers, and what it holds. -/
def Ints (w : World) (v : Value) (xs : List Int) : Prop := ∃ a cp, v = .slice a xs.length cp ∧ ∀ i, i < xs.length → ∃ b off, a = some ⟨b, off, none⟩ ∧ b < w.heap.size ∧ w.cell? ⟨b, off + i, none⟩ = some (.int .i64 (xs.getD i 0))
theorem Ints.adds {w w' : World} {v : Value} {xs : List Int} (h : Ints w v xs) (ho : Adds w w') : Ints w' v xs := by
  obtain ⟨a, cp, rfl, h⟩ := h
  refine ⟨a, cp, rfl, fun i hi => ?_⟩
  obtain ⟨b, off, e, hb, hc⟩ := h i hi
  exact ⟨b, off, e, Nat.lt_of_lt_of_le hb ho.size, (ho.cellF (p := ⟨b, off + i, none⟩) hb id).trans hc⟩
theorem Ints.row {w : World} {base : Nat} {e : TypeId} {v : Value} {xs : List Int} (h : w.ownsRow base e 1 v xs.length (xs.map (Value.int .i64))) : Ints w v xs := by
  obtain ⟨_, ⟨h1, h2⟩ | ⟨g, cap, cur, h1, h2, h3, _, _, _, h5⟩⟩ := h
  · obtain rfl : xs = [] := List.length_eq_zero_iff.1 h2
    exact ⟨none, 0, h1, fun i hi => by simp at hi⟩
  · refine ⟨_, _, h1, fun i hi => ⟨g, 0, rfl, (Array.getElem?_eq_some_iff.1 h3).1, ?_⟩⟩
    have e1 : (cur.toList.take (xs.length * 1))[i]? = some (.int .i64 (xs.getD i 0)) := by
      rw [h5]
      simp [List.getD_eq_getElem?_getD, List.getElem?_eq_getElem hi]
    rw [List.getElem?_take_of_lt (by omega)] at e1
    simpa [World.cell?, h3] using e1
set_option maxHeartbeats 4000000 in
theorem sameInts_yes {w : World} {v u : Value} {xs : List Int} (h1 : Ints w v xs) (h2 : Ints w u xs) (hn : xs.length ≤ 65536) :
    Calls Tryz.prog 21 #[v, u] w fun e w' => e = .returned (.bool true) ∧ ∃ k, w' = w.drewN k := by
  obtain ⟨a1, c1, rfl, h1⟩ := h1
  obtain ⟨a2, c2, rfl, h2⟩ := h2
  obtain ⟨n, hx⟩ : ∃ n, n = xs.length := ⟨_, rfl⟩
  rw [← hx] at h1 h2 hn ⊢
  have H1 := Lib.hid h1; have H2 := Lib.hid h2
  clear h1 h2 hx
  go_enter Tryz.func21, Tryz.ntmps21
  go_wp2
  go_loopw [5] (fun i wr => ∃ k m : Nat, k ≤ n ∧ i = .int .i64 k ∧ wr = w.drewN m) (fun i _ => n - (intOf i).toNat)
  case atStart => exact ⟨0, 0, Nat.zero_le _, rfl, rfl⟩
  case round =>
    obtain ⟨k, m, hk, rfl, rfl⟩ := hrel
    rcases Nat.lt_or_ge k n with hk2 | hk2
    · obtain ⟨b1, o1, rfl, l1, q1⟩ := H1.out k hk2
      obtain ⟨b2, o2, rfl, l2, q2⟩ := H2.out k hk2
      obtain ⟨x, hx⟩ : ∃ x, x = xs.getD k 0 := ⟨_, rfl⟩
      rw [← hx] at q1 q2
      have s1 : (x != x) = false := by simp
      clear hx H1 H2
      go_wp2
      go_quiet ((fail))
      go_wp2
      go_roundw
      case rel => exact ⟨k + 1, _, by omega, by go_num, rfl⟩
      case measure => simp [intOf]; omega
    · obtain rfl : k = n := by omega
      go_wp2
      go_ret
      exact ⟨rfl, m, rfl⟩
end Go.Proofs.YthhnpcniijpfeaaGreat

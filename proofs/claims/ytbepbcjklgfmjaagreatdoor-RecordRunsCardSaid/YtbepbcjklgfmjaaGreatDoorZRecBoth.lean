/- What a page's words say, on both sides; all spans; spans compared. By an AI agent. -/
import Derived.Test.YtbepbcjklgfmjaaGreatDoorZRecAll
import Derived.Test.YtbepbcjklgfmjaaGreatDoorZLanes
namespace Go.Proofs.YtbepbcjklgfmjaaGreatDoor
open Go.RowKit
set_option linter.unusedSimpArgs false
set_option linter.unusedVariables false
section
variable {w : World} {ab sb sm rb rg bb tb tm ub fb : Nat} {P T : Int} {s s' : StoreS}
theorem read_both (h : Both w ab sb sm rb rg bb tb tm ub fb P T s s') (hm : Lay.may P T = true) (hl : s.ws.length = (Lay.words P T).toNat) (hl' : s'.ws.length = (Lay.words P T).toNat) (he : s.ws = s'.ws) (p : Int) :
    ∃ (x0 x1 x2 x3 x4 x5 x6 : Int) (ok : Bool), ∀ W, Adds w W → (Calls Tryz.prog 8 #[.pointer (some ⟨ab, 0, none⟩), .int .i64 p] W fun e w' => e = .returned (.tuple #[spanV x0 x1 x2 x3 x4 x5 x6, .bool ok]) ∧ Adds W w') ∧
      (Calls Tryz.prog 9 #[.pointer (some ⟨bb, 0, none⟩), .int .i64 p] W fun e w' => e = .returned (.tuple #[spanV x0 x1 x2 x3 x4 x5 x6, .bool ok]) ∧ Adds W w') := by
  have hw : ∀ i, s.word i = s'.word i := fun i => by unfold StoreS.word; rw [he]
  have hY : ∀ W, Adds w W → YW W ab sb sm rb P T s.word := fun W ho => ⟨s, h.yard.adds ho, hl, fun _ _ _ => rfl⟩
  by_cases hp : 0 ≤ p ∧ p < P
  · obtain ⟨h0, h1⟩ := hp
    have hok : Lay.pageOk P T 9 p = true := by unfold Lay.pageOk; rw [hm, Bool.true_and, decide_eq_true_eq]; omega
    have e9 := recAt_eq (k := 9) hm h0 h1 (by omega) (by omega)
    have e10 := recAt_eq (k := 10) hm h0 h1 (by omega) (by omega)
    have e12 := recAt_eq (k := 12) hm h0 h1 (by omega) (by omega)
    have e13 := recAt_eq (k := 13) hm h0 h1 (by omega) (by omega)
    have bd := recAt_bd (k := 13) hm h0 h1 (by omega) (by omega)
    have bd9 := recAt_bd (k := 9) hm h0 h1 (by omega) (by omega)
    have bd10 := recAt_bd (k := 10) hm h0 h1 (by omega) (by omega)
    have ea : recAt P T 9 p = Lay.pageAt P T 9 p := by unfold recAt atV; rw [hok]; rfl
    simp at e9 e10 e12 e13
    by_cases hz : s.word (recAt P T 9 p) = 0
    · exact ⟨0, 0, 0, 0, 0, 0, 0, false, fun W ho => ⟨read_zero (hY W ho) hm h0 h1 hz, docRead_zero (h.mem.adds ho) hok (by rw [← ea]; exact ⟨bd9.1, by omega⟩) (by rw [← ea, ← hw]; exact hz)⟩⟩
    · refine ⟨_, _, _, _, _, _, _, true, fun W ho => ⟨read_some (hY W ho) hm h0 h1 rfl hz rfl rfl rfl ((hY W ho).fitW bd9.1 bd9.2) ((hY W ho).fitW bd10.1 bd10.2), ?_⟩⟩
      obtain ⟨A, hA⟩ : ∃ A : Nat, recAt P T 9 p = A := ⟨(recAt P T 9 p).toNat, by omega⟩
      have fb := fun i => StoreS.word_bd h.mem.st.fit i
      have hwf : s'.word = s.word := by funext i; exact (hw i).symm
      have := docRead_some (A := A) (pg := p) (st := s'.word (recAt P T 9 p)) (bs := s'.word (recAt P T 10 p)) (al := s'.word (recAt P T 12 p)) (mk := s'.word (recAt P T 13 p)) (h.mem.adds ho) hok (by rw [← ea]; exact hA) (by omega) (by rw [← hA]) (by rw [hwf]; exact hz) (by rw [show ((A + 1 : Nat) : Int) = recAt P T 10 p by omega]) (by rw [show ((A + 3 : Nat) : Int) = recAt P T 12 p by omega]) (by rw [show ((A + 4 : Nat) : Int) = recAt P T 13 p by omega]) (fb _) (fb _)
      rw [hwf] at this
      exact this
  · have hok : Lay.pageOk P T 9 p = false := by unfold Lay.pageOk; rw [hm, Bool.true_and, decide_eq_false_iff_not]; omega
    exact ⟨0, 0, 0, 0, 0, 0, 0, false, fun W ho => ⟨read_out (hY W ho) (by omega), docRead_out (h.mem.adds ho) hok⟩⟩
/-- All spans of each side, alike. -/
theorem spans_both (h : Both w ab sb sm rb rg bb tb tm ub fb P T s s') (hm : Lay.may P T = true) (hl : s.ws.length = (Lay.words P T).toNat) (hl' : s'.ws.length = (Lay.words P T).toNat) (he : s.ws = s'.ws) :
    ∃ L : List SpanS, L.length ≤ 100000 ∧ ∀ W, Adds w W → (Calls Tryz.prog 11 #[.pointer (some ⟨ab, 0, none⟩)] W fun e w' => ∃ v, e = .returned v ∧ w'.ownsRow W.heap.size 39 7 v L.length (flatS L) ∧ Adds W w') ∧
      (Calls Tryz.prog 12 #[.pointer (some ⟨bb, 0, none⟩)] W fun e w' => ∃ v, e = .returned v ∧ w'.ownsRow W.heap.size 39 7 v L.length (flatS L) ∧ Adds W w') := by
  have hw : s'.word = s.word := by funext i; unfold StoreS.word; rw [he]
  have hmm := Lay.may_iff.1 hm
  refine ⟨spansL P T s.word P.toNat, by have := spansL_len P T s.word P.toNat; omega, fun W ho => ⟨recList_all ⟨s, h.yard.adds ho, hl, fun _ _ _ => rfl⟩ hm, ?_⟩⟩
  have := docSpans_all (h.mem.adds ho) hm hl'
  rw [hw] at this
  exact this
end
theorem cellA {w w' : World} {b j : Nat} {v : Value} (h : w.cell? ⟨b, j, none⟩ = some v) (ho : Adds w w') : w'.cell? ⟨b, j, none⟩ = some v := (ho.cellF (p := ⟨b, j, none⟩) (cell_lt h) id).trans h
theorem span_eql (W : World) (a b c d e f g : Int) : Sem.run Tryz.prog (binOp .eql 39 (spanV a b c d e f g) (spanV a b c d e f g)) W = .ok (.bool true) W := by
  rw [run_eql_struct, run_equalIn_struct W 9999 _ _ _ (by kernel_rfl) (by kernel_rfl)]
  simp only [Program.fieldsOf, Tryz.underlying39]
  simp [go_sem]
theorem span_neq' (W : World) (a b c d e f g : Int) : Sem.run Tryz.prog (binOp .neq 39 (spanV a b c d e f g) (spanV a b c d e f g)) W = .ok (.bool false) W := span_self W a b c d e f g
end Go.Proofs.YtbepbcjklgfmjaaGreatDoor

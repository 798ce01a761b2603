/- What arena.New makes. By an AI agent. -/
import Derived.Test.YtffhoaimcjpjhaaGreatArena
import Derived.Test.YtffhoaimcjpjhaaGreatAct
namespace Go.Proofs.YtffhoaimcjpjhaaGreat
open Go.RowKit
/-- What arena.New makes, as a yard. -/
theorem arenaNew_yard (P T : Int) (w : World) (h : Lay.may P T = true) :
    Calls Tryz.prog 45 #[.agg #[.int .i64 P, .int .i64 T, .slice none 0 0]] w fun e w' => ∃ ab sb sm rb, e = .returned (.pointer (some ⟨ab, 0, none⟩)) ∧ Yard w' ab sb sm rb P T (StoreS.begun (Lay.words P T).toNat 0 1) ∧ Adds w w' ∧ (w.heap.size ≤ ab ∧ w.heap.size ≤ sb ∧ w.heap.size ≤ sm) :=
  (arenaNew_ok P T w h).mono (fun _ _ ⟨ab, sb, sm, rb, he, ha, hs, _, ho⟩ => ⟨ab, sb, sm, rb, he, ⟨ha, hs⟩, ho⟩)
theorem begun_len (n : Nat) (k : Nat) (v : Int) : (StoreS.begun n k v).ws.length = n := by simp [StoreS.begun, StoreS.fresh]
theorem begun_other (n : Nat) (v : Int) (i : Int) (h : 1 ≤ i) : (StoreS.begun n 0 v).word i = 0 := by
  have e : (0 : Nat) ≠ i.toNat := by omega
  simp only [StoreS.word, StoreS.begun, StoreS.fresh, List.getD_eq_getElem?_getD, List.getElem?_set_ne e, List.getElem?_replicate]
  split <;> simp
theorem begun_inR {n k : Nat} {v : Int} {i : Int} (h0 : 0 ≤ i) (h1 : i < n) : (StoreS.begun n k v).inR i := ⟨h0, by rw [begun_len]; exact h1⟩
end Go.Proofs.YtffhoaimcjpjhaaGreat

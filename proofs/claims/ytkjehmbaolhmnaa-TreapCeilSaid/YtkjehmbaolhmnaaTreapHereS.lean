/- Package treap at string: Put on a tree that a call has made. By an AI agent. -/
import Derived.Test.YtkjehmbaolhmnaaTreapOpsS
import Derived.Test.YtkjehmbaolhmnaaTreeHere
namespace Go.Proofs.Ytkjehmbaolhmnaa
open Go.RowKit
abbrev HereS (w wr : World) (tb : Nat) (t : Tr) : Prop := Here 84 78 w wr tb t
theorem putS_new {w wr : World} {tb : Nat} {t : Tr} (h : HereS w wr tb t) (hz : t.size < 1000000) (key draw : Int) (x : ByteArray) (hf : Tr.find key t = .nil) :
    Calls Try.prog 19 #[.pointer (some ⟨tb, 0, none⟩), .int .i64 key, .int .u32 draw, .string x] wr fun e w' => e = .returned (.bool true) ∧ ∃ nb, wr.heap.size ≤ nb ∧ HereS w w' tb (Tr.put nb key draw (.string x) t) :=
  (putS_yes tb t _ key draw x wr h.treap h.ok.sep hf).mono fun _ _ ⟨he, ⟨nb, hnb, h2⟩, ho⟩ => ⟨he, nb, hnb, h.put hf hz hnb h2 ho⟩
theorem putS_any {w wr : World} {tb : Nat} {t : Tr} (h : HereS w wr tb t) (hz : t.size < 1000000) (key draw : Int) (x : ByteArray) :
    Calls Try.prog 19 #[.pointer (some ⟨tb, 0, none⟩), .int .i64 key, .int .u32 draw, .string x] wr fun e w' => ∃ (b : Bool) (t' : Tr), e = .returned (.bool b) ∧ HereS w w' tb t' ∧
      ((b = true ∧ Tr.find key t = .nil ∧ ∃ nb, wr.heap.size ≤ nb ∧ t' = Tr.put nb key draw (.string x) t) ∨ (b = false ∧ Tr.find key t ≠ .nil ∧ t' = t)) := by
  by_cases hf : Tr.find key t = .nil
  · exact (putS_new h hz key draw x hf).mono fun _ _ ⟨he, nb, hnb, h2⟩ => ⟨true, _, he, h2, .inl ⟨rfl, hf, nb, hnb, rfl⟩⟩
  · exact (putS_no tb t _ key draw x wr h.treap hf).mono fun _ _ ⟨he, hw⟩ => ⟨false, t, he, hw ▸ h, .inr ⟨rfl, hf, rfl⟩⟩
end Go.Proofs.Ytkjehmbaolhmnaa

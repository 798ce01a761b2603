/- Package treap at int: Put on a tree that a call has made. By an AI agent. -/
import Derived.Test.YtkjehmbaolhmnaaTreapOpsI
import Derived.Test.YtkjehmbaolhmnaaTreeHere
namespace Go.Proofs.Ytkjehmbaolhmnaa
open Go.RowKit
abbrev HereI (w wr : World) (tb : Nat) (t : Tr) : Prop := Here 71 65 w wr tb t
theorem putI_new {w wr : World} {tb : Nat} {t : Tr} (h : HereI w wr tb t) (hz : t.size < 1000000) (key draw : Int) (x : Int) (hf : Tr.find key t = .nil) :
    Calls Try.prog 13 #[.pointer (some ⟨tb, 0, none⟩), .int .i64 key, .int .u32 draw, .int .i64 x] wr fun e w' => e = .returned (.bool true) ∧ ∃ nb, wr.heap.size ≤ nb ∧ HereI w w' tb (Tr.put nb key draw (.int .i64 x) t) :=
  (putI_yes tb t _ key draw x wr h.treap h.ok.sep hf).mono fun _ _ ⟨he, ⟨nb, hnb, h2⟩, ho⟩ => ⟨he, nb, hnb, h.put hf hz hnb h2 ho⟩
theorem putI_new2 {w wr : World} {tb : Nat} {t : Tr} (h : HereI w wr tb t) (hz : t.size < 1000000) (key draw : Int) (x : Int) (hf : Tr.find key t = .nil) :
    Calls Try.prog 13 #[.pointer (some ⟨tb, 0, none⟩), .int .i64 key, .int .u32 draw, .int .i64 x] wr fun e w' => e = .returned (.bool true) ∧ ∃ nb, wr.heap.size ≤ nb ∧ HereI w w' tb (Tr.put nb key draw (.int .i64 x) t) ∧ Only (TB tb t) wr w' :=
  (putI_yes tb t _ key draw x wr h.treap h.ok.sep hf).mono fun _ _ ⟨he, ⟨nb, hnb, h2⟩, ho⟩ => ⟨he, nb, hnb, h.put hf hz hnb h2 ho, ho⟩
theorem putI_any {w wr : World} {tb : Nat} {t : Tr} (h : HereI w wr tb t) (hz : t.size < 1000000) (key draw : Int) (x : Int) :
    Calls Try.prog 13 #[.pointer (some ⟨tb, 0, none⟩), .int .i64 key, .int .u32 draw, .int .i64 x] wr fun e w' => ∃ (b : Bool) (t' : Tr), e = .returned (.bool b) ∧ HereI w w' tb t' ∧
      ((b = true ∧ Tr.find key t = .nil ∧ ∃ nb, wr.heap.size ≤ nb ∧ t' = Tr.put nb key draw (.int .i64 x) t) ∨ (b = false ∧ Tr.find key t ≠ .nil ∧ t' = t)) := by
  by_cases hf : Tr.find key t = .nil
  · exact (putI_new h hz key draw x hf).mono fun _ _ ⟨he, nb, hnb, h2⟩ => ⟨true, _, he, h2, .inl ⟨rfl, hf, nb, hnb, rfl⟩⟩
  · exact (putI_no tb t _ key draw x wr h.treap hf).mono fun _ _ ⟨he, hw⟩ => ⟨false, t, he, hw ▸ h, .inr ⟨rfl, hf, rfl⟩⟩
end Go.Proofs.Ytkjehmbaolhmnaa

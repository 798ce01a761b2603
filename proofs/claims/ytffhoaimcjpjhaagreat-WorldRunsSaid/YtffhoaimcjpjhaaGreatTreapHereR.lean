/- Package treap at dustpan/api.Run: Put on a tree that a call has made. By an AI agent. -/
import Derived.Test.YtffhoaimcjpjhaaGreatTreapOpsR
import Derived.Test.YtffhoaimcjpjhaaGreatTreeHere2
namespace Go.Proofs.YtffhoaimcjpjhaaGreat
open Go.RowKit
abbrev HereR (w wr : World) (tb : Nat) (t : Tr) : Prop := Here2 267 242 w wr tb t
theorem putR_new {w wr : World} {tb : Nat} {t : Tr} (h : HereR w wr tb t) (hz : t.size < 1000000) (key draw : Int) (x z : Int) (hf : Tr.find key t = .nil) :
    Calls Tryz.prog 216 #[.pointer (some ⟨tb, 0, none⟩), .int .i64 key, .int .u32 draw, .agg #[.int .i64 x, .int .i64 z]] wr fun e w' => e = .returned (.bool true) ∧ ∃ nb, wr.heap.size ≤ nb ∧ HereR w w' tb (Tr.put nb key draw (.agg #[.int .i64 x, .int .i64 z]) t) :=
  (putR_yes tb t _ key draw x z wr h.treap h.ok.sep hf).mono fun _ _ ⟨he, ⟨nb, hnb, h2⟩, ho⟩ => ⟨he, nb, hnb, h.put hf hz hnb h2 ho⟩
theorem putR_new2 {w wr : World} {tb : Nat} {t : Tr} (h : HereR w wr tb t) (hz : t.size < 1000000) (key draw : Int) (x z : Int) (hf : Tr.find key t = .nil) :
    Calls Tryz.prog 216 #[.pointer (some ⟨tb, 0, none⟩), .int .i64 key, .int .u32 draw, .agg #[.int .i64 x, .int .i64 z]] wr fun e w' => e = .returned (.bool true) ∧ ∃ nb, wr.heap.size ≤ nb ∧ HereR w w' tb (Tr.put nb key draw (.agg #[.int .i64 x, .int .i64 z]) t) ∧ Only (TB tb t) wr w' :=
  (putR_yes tb t _ key draw x z wr h.treap h.ok.sep hf).mono fun _ _ ⟨he, ⟨nb, hnb, h2⟩, ho⟩ => ⟨he, nb, hnb, h.put hf hz hnb h2 ho, ho⟩
theorem putR_any {w wr : World} {tb : Nat} {t : Tr} (h : HereR w wr tb t) (hz : t.size < 1000000) (key draw : Int) (x z : Int) :
    Calls Tryz.prog 216 #[.pointer (some ⟨tb, 0, none⟩), .int .i64 key, .int .u32 draw, .agg #[.int .i64 x, .int .i64 z]] wr fun e w' => ∃ (b : Bool) (t' : Tr), e = .returned (.bool b) ∧ HereR w w' tb t' ∧
      ((b = true ∧ Tr.find key t = .nil ∧ ∃ nb, wr.heap.size ≤ nb ∧ t' = Tr.put nb key draw (.agg #[.int .i64 x, .int .i64 z]) t) ∨ (b = false ∧ Tr.find key t ≠ .nil ∧ t' = t)) := by
  by_cases hf : Tr.find key t = .nil
  · exact (putR_new h hz key draw x z hf).mono fun _ _ ⟨he, nb, hnb, h2⟩ => ⟨true, _, he, h2, .inl ⟨rfl, hf, nb, hnb, rfl⟩⟩
  · exact (putR_no tb t _ key draw x z wr h.treap hf).mono fun _ _ ⟨he, hw⟩ => ⟨false, t, he, h.keep hw, .inr ⟨rfl, hf, rfl⟩⟩
end Go.Proofs.YtffhoaimcjpjhaaGreat

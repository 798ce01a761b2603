/- A tree that a call has made: all its blocks are new; plain facts. By an AI agent. -/
import Derived.Test.YtffhoaimcjpjhaaGreatTreeMem2
namespace Go.Proofs.YtffhoaimcjpjhaaGreat
open Go.RowKit

/-- The tree t stands in the world wr, with as many keys as are told; all its blocks are new since w; nothing that lay in w has turned. -/
structure Here2 (T H : TypeId) (w wr : World) (tb : Nat) (t : Tr) : Prop where
  treap : IsTreap2 T H wr tb t t.size
  ok : t.ok
  fresh : ∀ x, TB tb t x → w.heap.size ≤ x
  adds : Adds w wr
section
variable {T H : TypeId} {w wr w' : World} {tb : Nat} {t : Tr}
theorem Here2.keep (h : Here2 T H w wr tb t) (ho : Adds wr w') : Here2 T H w w' tb t := ⟨h.treap.adds ho, h.ok, h.fresh, h.adds.thenF ho⟩
theorem Here2.drewN (h : Here2 T H w wr tb t) (n : Nat) : Here2 T H w (wr.drewN n) tb t := h.keep ((Only.refl _ wr).drewN n)
theorem Here2.alloc (h : Here2 T H w wr tb t) (o : Obj) : Here2 T H w (wr.alloc o) tb t := h.keep ((Only.refl _ wr).alloc o)
theorem Here2.new (h : IsTreap2 T H wr w.heap.size .nil 0) (ho : Adds w wr) : Here2 T H w wr w.heap.size .nil :=
  ⟨h, Tr.ok_nil, fun x hx => hx.elim (fun h => by omega) False.elim, ho⟩
/-- A call that turns blocks of the tree alone. -/
theorem Here2.turn (h : Here2 T H w wr tb t) (ho : Only (TB tb t) wr w') : Adds w w' := h.adds.andThen ho (fun i hi hx => by have := h.fresh i hx; omega)
theorem Here2.lt (h : Here2 T H w wr tb t) : ∀ x, TB tb t x → x < wr.heap.size := h.treap.lt
/-- What a Put leaves. -/
theorem Here2.put (h : Here2 T H w wr tb t) {nb : Nat} {key draw : Int} {v : Value} (hf : Tr.find key t = .nil) (hz : t.size < 1000000) (hnb : wr.heap.size ≤ nb) (h2 : IsTreap2 T H w' tb (Tr.put nb key draw v t) (wrap64 ((t.size : Int) + 1))) (ho : Only (TB tb t) wr w') :
    Here2 T H w w' tb (Tr.put nb key draw v t) := by
  have hb : ¬ t.has nb := fun hh => by have := h.treap.lt nb (.inr hh); omega
  refine ⟨?_, Tr.ok_put h.ok nb key draw v hb hf, ?_, h.turn ho⟩
  · rw [Tr.put_size]
    rwa [show wrap64 ((t.size : Int) + 1) = ((t.size + 1 : Nat) : Int) by simp [wrap64]; omega] at h2
  · rintro x (rfl | hx)
    · exact h.fresh _ (.inl rfl)
    · rcases (Tr.put_has ..).1 hx with rfl | hx
      · have := h.adds.size; omega
      · exact h.fresh _ (.inr hx)
end
end Go.Proofs.YtffhoaimcjpjhaaGreat

/- Blocks of the heap: what a block holds behind stores, new blocks, draws; 'Only S': nothing but blocks of S, and new ones, has turned. By an AI agent. -/
import Derived.Test.YtffhoaimcjpjhaaGreatProg
import Derived.WalkKit
import Derived.WalkSpells
import Derived.WalkLawsBesides
import Derived.Deep.QuietTactic
import Derived.BigQuiet
import Derived.Lib.Hide
import Derived.Deep.Draws
namespace Go.Proofs.YtffhoaimcjpjhaaGreat
open Go.RowKit

/-- Nothing but blocks of S, and blocks that are new, has turned. -/
structure Only (S : Nat → Prop) (w w' : World) : Prop where
  os : w'.os = w.os
  tape : w'.tape = w.tape
  output : w'.output = w.output
  size : w.heap.size ≤ w'.heap.size
  block : ∀ k, k < w.heap.size → ¬ S k → w'.heap[k]? = w.heap[k]?

theorem Only.refl (S : Nat → Prop) (w : World) : Only S w w := ⟨rfl, rfl, rfl, Nat.le_refl _, fun _ _ _ => rfl⟩
theorem Only.trans {S : Nat → Prop} {a b c : World} (h : Only S a b) (k : Only S b c) : Only S a c :=
  ⟨k.os.trans h.os, k.tape.trans h.tape, k.output.trans h.output, Nat.le_trans h.size k.size,
   fun i hi hs => (k.block i (Nat.lt_of_lt_of_le hi h.size) hs).trans (h.block i hi hs)⟩
theorem Only.mono {S T : Nat → Prop} {a b : World} (h : Only S a b) (hST : ∀ k, k < a.heap.size → S k → T k) : Only T a b :=
  ⟨h.os, h.tape, h.output, h.size, fun i hi hs => h.block i hi (fun x => hs (hST i hi x))⟩
/-- Two steps: what the second one turns was turned by the first one's leave, or is new. -/
theorem Only.andThen {S T : Nat → Prop} {a b c : World} (h : Only S a b) (k : Only T b c) (hT : ∀ i, i < a.heap.size → T i → S i) : Only S a c :=
  ⟨k.os.trans h.os, k.tape.trans h.tape, k.output.trans h.output, Nat.le_trans h.size k.size,
   fun i hi hs => (k.block i (Nat.lt_of_lt_of_le hi h.size) (fun x => hs (hT i hi x))).trans (h.block i hi hs)⟩
theorem Only.below {S : Nat → Prop} {B : Nat} {a b : World} (h : Only S a b) (hB : B ≤ a.heap.size) (hS : ∀ k, k < B → ¬ S k) : Below B a b :=
  ⟨h.os, h.tape, h.output, h.size, fun i hi => h.block i (Nat.lt_of_lt_of_le hi hB) (hS i hi)⟩
theorem Only.of_below {B : Nat} {a b : World} (h : Below B a b) : Only (B ≤ ·) a b :=
  ⟨h.os, h.tape, h.output, h.size, fun i _ hs => h.block i (Nat.lt_of_not_le hs)⟩
theorem Only.setCell {S : Nat → Prop} {a b : World} (h : Only S a b) {p : Addr} (hp : S p.block ∨ a.heap.size ≤ p.block) (u : Value) : Only S a (b.setCell p u) :=
  ⟨h.os, h.tape, h.output, by simpa [World.setCell] using h.size, fun k hk hs => by
    rw [Below.heap_setCell b p u k (by rintro rfl; rcases hp with hp | hp; exact hs hp; omega)]
    exact h.block k hk hs⟩
theorem Only.alloc {S : Nat → Prop} {a b : World} (h : Only S a b) (o : Obj) : Only S a (b.alloc o) :=
  ⟨h.os, h.tape, h.output, Nat.le_trans h.size (by simp), fun k hk hs => by
    rw [Below.heap_alloc b o k (Nat.lt_of_lt_of_le hk h.size)]
    exact h.block k hk hs⟩
theorem Only.drew {S : Nat → Prop} {a b : World} (h : Only S a b) : Only S a b.drew := ⟨h.os, h.tape, h.output, h.size, h.block⟩
theorem Only.drewN {S : Nat → Prop} {a b : World} (h : Only S a b) (n : Nat) : Only S a (b.drewN n) := ⟨h.os, h.tape, h.output, h.size, h.block⟩

/-- Block b holds the cells c, of element type t, none of them frozen. -/
def Blk (w : World) (b : Nat) (c : Array Value) (t : TypeId) : Prop := w.heap[b]? = some (.cells c t (0, 0))
theorem Blk.lt {w : World} {b : Nat} {c : Array Value} {t : TypeId} (h : Blk w b c t) : b < w.heap.size := by
  unfold Blk at h
  rcases Nat.lt_or_ge b w.heap.size with h1 | h1
  · exact h1
  · rw [Array.getElem?_eq_none h1] at h; cases h
theorem Blk.cell {w : World} {b : Nat} {c : Array Value} {t : TypeId} (h : Blk w b c t) (j : Nat) : w.cell? ⟨b, j, none⟩ = c[j]? := by
  unfold Blk at h; simp [World.cell?, h]
theorem Blk.frozen {w : World} {b : Nat} {c : Array Value} {t : TypeId} (h : Blk w b c t) (j : Nat) : w.frozen? ⟨b, j, none⟩ = false := by
  unfold Blk at h; simp [World.frozen?, h]
theorem Blk.only {S : Nat → Prop} {w w' : World} {b : Nat} {c : Array Value} {t : TypeId} (h : Blk w b c t) (ho : Only S w w') (hs : ¬ S b) : Blk w' b c t :=
  (ho.block b h.lt hs).trans h
theorem Blk.setCell {w : World} {b : Nat} {c : Array Value} {t : TypeId} (h : Blk w b c t) (j : Nat) (v : Value) : Blk (w.setCell ⟨b, j, none⟩ v) b (c.setIfInBounds j v) t := by
  unfold Blk at h ⊢; simp [World.setCell, Array.getElem?_modify, h]
theorem Blk.setCell_other {w : World} {b d : Nat} {c : Array Value} {t : TypeId} (h : Blk w b c t) (hd : b ≠ d) (j : Nat) (v : Value) : Blk (w.setCell ⟨d, j, none⟩ v) b c t :=
  (Below.heap_setCell w ⟨d, j, none⟩ v b hd).trans h
theorem Blk.alloc {w : World} {b : Nat} {c : Array Value} {t : TypeId} (h : Blk w b c t) (o : Obj) : Blk (w.alloc o) b c t :=
  (Below.heap_alloc w o b h.lt).trans h
theorem Blk.drewN {w : World} {b : Nat} {c : Array Value} {t : TypeId} (h : Blk w b c t) (n : Nat) : Blk (w.drewN n) b c t := h
theorem Blk.drew {w : World} {b : Nat} {c : Array Value} {t : TypeId} (h : Blk w b c t) : Blk w.drew b c t := h
theorem Blk.new (w : World) (c : Array Value) (t : TypeId) : Blk (w.alloc (.cells c t)) w.heap.size c t := by
  show (w.heap.push (Obj.cells c t))[w.heap.size]? = _
  simp
theorem Blk.uniq {w : World} {b : Nat} {c d : Array Value} {t u : TypeId} (h : Blk w b c t) (k : Blk w b d u) : c = d ∧ t = u := by
  unfold Blk at h k; rw [h] at k; simp at k; exact k
theorem Only.thenF {S : Nat → Prop} {a b c : World} (h : Only S a b) (k : Only (fun _ => False) b c) : Only S a c := h.andThen k (fun _ _ hT => hT.elim)
/-- Nothing that was there has turned. -/
abbrev Adds (w w' : World) : Prop := Only (fun _ => False) w w'
theorem Adds.box {w w1 : World} {o : Obj} (h : Adds (w.alloc o) w1) : Adds w w1 := ((Only.refl (fun _ => False) w).alloc o).thenF h
theorem Adds.box2 {w w1 : World} {o o' : Obj} (h : Adds ((w.alloc o).alloc o') w1) : Adds w w1 := (Adds.box h).box
theorem Only.cellF {S : Nat → Prop} {a b : World} (h : Only S a b) {p : Addr} (hp : p.block < a.heap.size) (hs : ¬ S p.block) : b.cell? p = a.cell? p := World.cell?_of_block (h.block p.block hp hs)
theorem Only.frozenF {S : Nat → Prop} {a b : World} (h : Only S a b) {p : Addr} (hp : p.block < a.heap.size) (hs : ¬ S p.block) : b.frozen? p = a.frozen? p := World.frozen?_of_block (h.block p.block hp hs)
theorem Only.reads {a b : World} (h : Adds a b) : (∀ k o, k < a.heap.size → b.cell? ⟨k, o, none⟩ = a.cell? ⟨k, o, none⟩) ∧ (∀ k o, k < a.heap.size → b.frozen? ⟨k, o, none⟩ = a.frozen? ⟨k, o, none⟩) :=
  ⟨fun k _ hk => h.cellF (p := ⟨k, _, none⟩) hk id, fun k _ hk => h.frozenF (p := ⟨k, _, none⟩) hk id⟩
theorem cell_lt {w : World} {b j : Nat} {v : Value} (h : w.cell? ⟨b, j, none⟩ = some v) : b < w.heap.size := by
  rcases Nat.lt_or_ge b w.heap.size with h1 | h1
  · exact h1
  · simp [World.cell?, Array.getElem?_eq_none h1] at h
/-- What a region that only adds keeps: two cells. -/
theorem held2 {w W w' : World} {b c i j : Nat} {x y : Value} (h : W.cell? ⟨b, i, none⟩ = some x ∧ W.cell? ⟨c, j, none⟩ = some y ∧ Adds w W) (ho : Adds W w') :
    w'.cell? ⟨b, i, none⟩ = some x ∧ w'.cell? ⟨c, j, none⟩ = some y ∧ Adds w w' :=
  ⟨(ho.cellF (p := ⟨b, i, none⟩) (cell_lt h.1) id).trans h.1, (ho.cellF (p := ⟨c, j, none⟩) (cell_lt h.2.1) id).trans h.2.1, h.2.2.andThen ho (fun _ _ => id)⟩
theorem box2_cells {w w1 : World} {x y : Value} {t : TypeId} (ho : Adds (w.alloc (.cells #[x, y] t)) w1) :
    w1.cell? ⟨w.heap.size, 0, none⟩ = some x ∧ w1.cell? ⟨w.heap.size, 1, none⟩ = some y ∧ Adds w w1 :=
  ⟨(ho.cellF (p := ⟨w.heap.size, 0, none⟩) (by simp) id).trans (World.cell?_alloc_new w _ t 0), (ho.cellF (p := ⟨w.heap.size, 1, none⟩) (by simp) id).trans (World.cell?_alloc_new w _ t 1), ho.box⟩
end Go.Proofs.YtffhoaimcjpjhaaGreat

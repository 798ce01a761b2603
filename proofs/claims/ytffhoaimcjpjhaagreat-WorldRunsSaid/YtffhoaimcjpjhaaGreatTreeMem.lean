/- Trees of keys in memory: what nodes hold, what a tree's header holds, a way down with a hole. By an AI agent. -/
import Derived.Test.YtffhoaimcjpjhaaGreatTree
namespace Go.Proofs.YtffhoaimcjpjhaaGreat
open Go.RowKit

/-- The heap holds the tree: each node a block of five cells. -/
def IsTr (T : TypeId) (w : World) : Tr → Prop
  | .nil => True
  | .node b k d v l r => Blk w b #[.int .i64 k, .int .u32 d, v, .pointer l.adr, .pointer r.adr] T ∧ IsTr T w l ∧ IsTr T w r

theorem IsTr.only {T : TypeId} {S : Nat → Prop} {w w' : World} (ho : Only S w w') : ∀ {t : Tr}, IsTr T w t → (∀ x, t.has x → ¬ S x) → IsTr T w' t
  | .nil, _, _ => trivial
  | .node _ _ _ _ _ _, ⟨h1, h2, h3⟩, hs => ⟨h1.only ho (hs _ (.inl rfl)), IsTr.only ho h2 (fun x hx => hs x (.inr (.inl hx))), IsTr.only ho h3 (fun x hx => hs x (.inr (.inr hx)))⟩
theorem IsTr.lt {T : TypeId} {w : World} : ∀ {t : Tr}, IsTr T w t → ∀ x, t.has x → x < w.heap.size
  | .nil, _, _, h => h.elim
  | .node _ _ _ _ _ _, ⟨h1, h2, h3⟩, x, hx => by
    rcases hx with rfl | hx | hx
    · exact h1.lt
    · exact IsTr.lt h2 x hx
    · exact IsTr.lt h3 x hx
theorem IsTr.setCell_other {T : TypeId} {w : World} {t : Tr} (h : IsTr T w t) {d : Nat} (hd : ¬ t.has d) (j : Nat) (v : Value) : IsTr T (w.setCell ⟨d, j, none⟩ v) t :=
  h.only ((Only.refl (· = d) w).setCell (.inl rfl) v) (fun _ hx e => hd (e ▸ hx))
theorem IsTr.alloc {T : TypeId} {w : World} {t : Tr} (h : IsTr T w t) (o : Obj) : IsTr T (w.alloc o) t :=
  h.only ((Only.refl (fun _ => False) w).alloc o) (fun _ _ => id)
theorem IsTr.drewN {T : TypeId} {w : World} {t : Tr} (h : IsTr T w t) (n : Nat) : IsTr T (w.drewN n) t :=
  h.only ((Only.refl (fun _ => False) w).drewN n) (fun _ _ => id)
/-- The world and the address fix the tree. -/
theorem IsTr.unique {T : TypeId} {w : World} : ∀ {t u : Tr}, IsTr T w t → IsTr T w u → t.adr = u.adr → t = u
  | .nil, .nil, _, _, _ => rfl
  | .nil, .node .., _, _, h => by cases h
  | .node .., .nil, _, _, h => by cases h
  | .node b k d v l r, .node b' k' d' v' l' r', ⟨h1, h2, h3⟩, ⟨g1, g2, g3⟩, h => by
    simp only [Tr.adr, Option.some.injEq, Addr.mk.injEq] at h
    obtain ⟨rfl, _⟩ := h
    have := (h1.uniq g1).1
    simp only [Array.mk.injEq, List.cons.injEq, Value.int.injEq, Value.pointer.injEq, true_and, and_true] at this
    obtain ⟨e1, e2, e3, e4, e5⟩ := this
    rw [e1, e2, e3, IsTr.unique h2 g2 e4, IsTr.unique h3 g3 e5]
open Classical in
/-- How many nodes stand below an address. -/
noncomputable def trSize (T : TypeId) (w : World) (v : Value) : Nat :=
  if h : ∃ t : Tr, v = .pointer t.adr ∧ IsTr T w t then (Classical.choose h).size else 0
theorem trSize_eq {T : TypeId} {w : World} {t : Tr} (h : IsTr T w t) : trSize T w (.pointer t.adr) = t.size := by
  have hex : ∃ u : Tr, Value.pointer t.adr = .pointer u.adr ∧ IsTr T w u := ⟨t, rfl, h⟩
  unfold trSize
  rw [dif_pos hex]
  obtain ⟨e, hl⟩ := Classical.choose_spec hex
  rw [← IsTr.unique h hl (by simpa using e)]
/-- The cells of a node. -/
theorem IsTr.cells {T : TypeId} {w : World} {b : Nat} {k d : Int} {v : Value} {l r : Tr} (h : IsTr T w (.node b k d v l r)) :
    w.cell? ⟨b, 0, none⟩ = some (.int .i64 k) ∧ w.cell? ⟨b, 1, none⟩ = some (.int .u32 d) ∧ w.cell? ⟨b, 2, none⟩ = some v ∧ w.cell? ⟨b, 3, none⟩ = some (.pointer l.adr) ∧ w.cell? ⟨b, 4, none⟩ = some (.pointer r.adr) ∧
    w.frozen? ⟨b, 3, none⟩ = false ∧ w.frozen? ⟨b, 4, none⟩ = false :=
  ⟨h.1.cell 0, h.1.cell 1, h.1.cell 2, h.1.cell 3, h.1.cell 4, h.1.frozen 3, h.1.frozen 4⟩

/-- A tree's header in block tb: its root's address, how many keys. -/
structure IsTreap (T H : TypeId) (w : World) (tb : Nat) (t : Tr) (m : Int) : Prop where
  head : Blk w tb #[.pointer t.adr, .int .i64 m] H
  tr : IsTr T w t
  ntb : ¬ t.has tb
theorem IsTreap.only {T H : TypeId} {S : Nat → Prop} {w w' : World} {tb : Nat} {t : Tr} {m : Int} (h : IsTreap T H w tb t m) (ho : Only S w w') (h1 : ¬ S tb) (h2 : ∀ x, t.has x → ¬ S x) : IsTreap T H w' tb t m :=
  ⟨h.head.only ho h1, h.tr.only ho h2, h.ntb⟩
theorem IsTreap.adds {T H : TypeId} {w w' : World} {tb : Nat} {t : Tr} {m : Int} (h : IsTreap T H w tb t m) (ho : Adds w w') : IsTreap T H w' tb t m := h.only ho id (fun _ _ => id)
theorem IsTreap.alloc {T H : TypeId} {w : World} {tb : Nat} {t : Tr} {m : Int} (h : IsTreap T H w tb t m) (o : Obj) : IsTreap T H (w.alloc o) tb t m := h.adds ((Only.refl _ w).alloc o)
theorem IsTreap.drewN {T H : TypeId} {w : World} {tb : Nat} {t : Tr} {m : Int} (h : IsTreap T H w tb t m) (n : Nat) : IsTreap T H (w.drewN n) tb t m := h.adds ((Only.refl _ w).drewN n)
theorem IsTreap.cells {T H : TypeId} {w : World} {tb : Nat} {t : Tr} {m : Int} (h : IsTreap T H w tb t m) :
    w.cell? ⟨tb, 0, none⟩ = some (.pointer t.adr) ∧ w.cell? ⟨tb, 1, none⟩ = some (.int .i64 m) ∧ w.frozen? ⟨tb, 0, none⟩ = false ∧ w.frozen? ⟨tb, 1, none⟩ = false :=
  ⟨h.head.cell 0, h.head.cell 1, h.head.frozen 0, h.head.frozen 1⟩
/-- The blocks of a tree and its header. -/
def TB (tb : Nat) (t : Tr) (x : Nat) : Prop := x = tb ∨ t.has x
theorem IsTreap.lt {T H : TypeId} {w : World} {tb : Nat} {t : Tr} {m : Int} (h : IsTreap T H w tb t m) : ∀ x, TB tb t x → x < w.heap.size := by
  rintro x (rfl | hx)
  · exact h.head.lt
  · exact h.tr.lt x hx
theorem adr_some {t : Tr} (h : t ≠ .nil) : ∃ b, t.adr = some ⟨b, 0, none⟩ ∧ t.has b := by
  cases t with
  | nil => exact absurd rfl h
  | node b k d v l r => exact ⟨b, rfl, .inl rfl⟩

theorem find_cells {T : TypeId} {w : World} {t : Tr} {key : Int} (h : IsTr T w t) : IsTr T w (Tr.find key t) := by
  induction t with
  | nil => exact trivial
  | node b k d v l r ihl ihr =>
    unfold Tr.find
    split
    · exact h
    · split
      · exact ihl h.2.1
      · exact ihr h.2.2
end Go.Proofs.YtffhoaimcjpjhaaGreat

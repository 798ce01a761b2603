/- Trees of keys in memory, of values of two cells. By an AI agent. -/
import Derived.Test.YtffhoaimcjpjhaaGreatTreeMem
namespace Go.Proofs.YtffhoaimcjpjhaaGreat
open Go.RowKit

/-- A cell of a value of two. -/
def vc (v : Value) (i : Nat) : Value := match v with
  | .agg cs => cs.getD i undef
  | _ => undef
/-- The heap holds the tree: each node a block of six cells. -/
def IsTr2 (T : TypeId) (w : World) : Tr → Prop
  | .nil => True
  | .node b k d v l r => Blk w b #[.int .i64 k, .int .u32 d, vc v 0, vc v 1, .pointer l.adr, .pointer r.adr] T ∧ IsTr2 T w l ∧ IsTr2 T w r

theorem IsTr2.only {T : TypeId} {S : Nat → Prop} {w w' : World} (ho : Only S w w') : ∀ {t : Tr}, IsTr2 T w t → (∀ x, t.has x → ¬ S x) → IsTr2 T w' t
  | .nil, _, _ => trivial
  | .node _ _ _ _ _ _, ⟨h1, h2, h3⟩, hs => ⟨h1.only ho (hs _ (.inl rfl)), IsTr2.only ho h2 (fun x hx => hs x (.inr (.inl hx))), IsTr2.only ho h3 (fun x hx => hs x (.inr (.inr hx)))⟩
theorem IsTr2.lt {T : TypeId} {w : World} : ∀ {t : Tr}, IsTr2 T w t → ∀ x, t.has x → x < w.heap.size
  | .nil, _, _, h => h.elim
  | .node _ _ _ _ _ _, ⟨h1, h2, h3⟩, x, hx => by
    rcases hx with rfl | hx | hx
    · exact h1.lt
    · exact IsTr2.lt h2 x hx
    · exact IsTr2.lt h3 x hx
theorem IsTr2.setCell_other {T : TypeId} {w : World} {t : Tr} (h : IsTr2 T w t) {d : Nat} (hd : ¬ t.has d) (j : Nat) (v : Value) : IsTr2 T (w.setCell ⟨d, j, none⟩ v) t :=
  h.only ((Only.refl (· = d) w).setCell (.inl rfl) v) (fun _ hx e => hd (e ▸ hx))
theorem IsTr2.alloc {T : TypeId} {w : World} {t : Tr} (h : IsTr2 T w t) (o : Obj) : IsTr2 T (w.alloc o) t :=
  h.only ((Only.refl (fun _ => False) w).alloc o) (fun _ _ => id)
theorem IsTr2.drewN {T : TypeId} {w : World} {t : Tr} (h : IsTr2 T w t) (n : Nat) : IsTr2 T (w.drewN n) t :=
  h.only ((Only.refl (fun _ => False) w).drewN n) (fun _ _ => id)
/-- The world and the address fix how many nodes. -/
theorem IsTr2.same {T : TypeId} {w : World} : ∀ {t u : Tr}, IsTr2 T w t → IsTr2 T w u → t.adr = u.adr → t.size = u.size
  | .nil, .nil, _, _, _ => rfl
  | .nil, .node .., _, _, h => by cases h
  | .node .., .nil, _, _, h => by cases h
  | .node b k d v l r, .node b' k' d' v' l' r', ⟨h1, h2, h3⟩, ⟨g1, g2, g3⟩, h => by
    simp only [Tr.adr, Option.some.injEq, Addr.mk.injEq] at h
    obtain ⟨rfl, _⟩ := h
    have := (h1.uniq g1).1
    simp only [Array.mk.injEq, List.cons.injEq, Value.int.injEq, Value.pointer.injEq, true_and, and_true] at this
    obtain ⟨e1, e2, _, _, e4, e5⟩ := this
    simp only [Tr.size]
    rw [IsTr2.same h2 g2 e4, IsTr2.same h3 g3 e5]
open Classical in
/-- How many nodes stand below an address. -/
noncomputable def trSize2 (T : TypeId) (w : World) (v : Value) : Nat :=
  if h : ∃ t : Tr, v = .pointer t.adr ∧ IsTr2 T w t then (Classical.choose h).size else 0
theorem trSize2_eq {T : TypeId} {w : World} {t : Tr} (h : IsTr2 T w t) : trSize2 T w (.pointer t.adr) = t.size := by
  have hex : ∃ u : Tr, Value.pointer t.adr = .pointer u.adr ∧ IsTr2 T w u := ⟨t, rfl, h⟩
  unfold trSize2
  rw [dif_pos hex]
  obtain ⟨e, hl⟩ := Classical.choose_spec hex
  rw [← IsTr2.same h hl (by simpa using e)]
/-- The cells of a node. -/
theorem IsTr2.cells {T : TypeId} {w : World} {b : Nat} {k d : Int} {v : Value} {l r : Tr} (h : IsTr2 T w (.node b k d v l r)) :
    w.cell? ⟨b, 0, none⟩ = some (.int .i64 k) ∧ w.cell? ⟨b, 1, none⟩ = some (.int .u32 d) ∧ w.cell? ⟨b, 2, none⟩ = some (vc v 0) ∧ w.cell? ⟨b, 4, none⟩ = some (.pointer l.adr) ∧ w.cell? ⟨b, 5, none⟩ = some (.pointer r.adr) ∧
    w.frozen? ⟨b, 4, none⟩ = false ∧ w.frozen? ⟨b, 5, none⟩ = false :=
  ⟨h.1.cell 0, h.1.cell 1, h.1.cell 2, h.1.cell 4, h.1.cell 5, h.1.frozen 4, h.1.frozen 5⟩

/-- A tree's header in block tb: its root's address, how many keys. -/
structure IsTreap2 (T H : TypeId) (w : World) (tb : Nat) (t : Tr) (m : Int) : Prop where
  head : Blk w tb #[.pointer t.adr, .int .i64 m] H
  tr : IsTr2 T w t
  ntb : ¬ t.has tb
theorem IsTreap2.only {T H : TypeId} {S : Nat → Prop} {w w' : World} {tb : Nat} {t : Tr} {m : Int} (h : IsTreap2 T H w tb t m) (ho : Only S w w') (h1 : ¬ S tb) (h2 : ∀ x, t.has x → ¬ S x) : IsTreap2 T H w' tb t m :=
  ⟨h.head.only ho h1, h.tr.only ho h2, h.ntb⟩
theorem IsTreap2.adds {T H : TypeId} {w w' : World} {tb : Nat} {t : Tr} {m : Int} (h : IsTreap2 T H w tb t m) (ho : Adds w w') : IsTreap2 T H w' tb t m := h.only ho id (fun _ _ => id)
theorem IsTreap2.alloc {T H : TypeId} {w : World} {tb : Nat} {t : Tr} {m : Int} (h : IsTreap2 T H w tb t m) (o : Obj) : IsTreap2 T H (w.alloc o) tb t m := h.adds ((Only.refl _ w).alloc o)
theorem IsTreap2.drewN {T H : TypeId} {w : World} {tb : Nat} {t : Tr} {m : Int} (h : IsTreap2 T H w tb t m) (n : Nat) : IsTreap2 T H (w.drewN n) tb t m := h.adds ((Only.refl _ w).drewN n)
theorem IsTreap2.cells {T H : TypeId} {w : World} {tb : Nat} {t : Tr} {m : Int} (h : IsTreap2 T H w tb t m) :
    w.cell? ⟨tb, 0, none⟩ = some (.pointer t.adr) ∧ w.cell? ⟨tb, 1, none⟩ = some (.int .i64 m) ∧ w.frozen? ⟨tb, 0, none⟩ = false ∧ w.frozen? ⟨tb, 1, none⟩ = false :=
  ⟨h.head.cell 0, h.head.cell 1, h.head.frozen 0, h.head.frozen 1⟩
theorem IsTreap2.lt {T H : TypeId} {w : World} {tb : Nat} {t : Tr} {m : Int} (h : IsTreap2 T H w tb t m) : ∀ x, TB tb t x → x < w.heap.size := by
  rintro x (rfl | hx)
  · exact h.head.lt
  · exact h.tr.lt x hx
theorem find_cells2 {T : TypeId} {w : World} {t : Tr} {key : Int} (h : IsTr2 T w t) : IsTr2 T w (Tr.find key t) := by
  induction t with
  | nil => exact trivial
  | node b k d v l r ihl ihr =>
    unfold Tr.find
    split
    · exact h
    · split
      · exact ihl h.2.1
      · exact ihr h.2.2
end Go.Proofs.YtffhoaimcjpjhaaGreat

/- The least key that is not below one; plain Lean. By an AI agent. -/
import Derived.Test.YtbijbpnhakbeeaaTree
namespace Go.Proofs.Ytbijbpnhakbeeaa
open Go.RowKit
namespace Tr
/-- The way of the search: the node that was best. -/
def ceil (key : Int) (best : Tr) : Tr → Tr
  | nil => best
  | node b k d v l r => if k < key then ceil key best r else ceil key (node b k d v l r) l
def least (key : Int) (t : Tr) : Option (Int × Int × Value) := t.ins.find? (fun e => decide (key ≤ e.1))
def item : Tr → Option (Int × Int × Value)
  | nil => none
  | node _ k d v _ _ => some (k, d, v)
theorem find_append {α : Type} (p : α → Bool) (l m : List α) : (l ++ m).find? p = (l.find? p).or (m.find? p) := List.find?_append
theorem ceil_item (key : Int) (t : Tr) : ∀ best, t.bst → (ceil key best t).item = (least key t).or best.item := by
  induction t with
  | nil => intro best _; simp [ceil, least, ins]
  | node b k d v l r ihl ihr =>
    intro best h
    obtain ⟨h1, h2, h3, h4⟩ := bst_node.1 h
    unfold ceil
    split
    · rename_i hk
      rw [ihr best h2]
      have hl : l.ins.find? (fun e => decide (key ≤ e.1)) = none := List.find?_eq_none.2 fun e he => by have := h3 e he; simp; omega
      have : least key (node b k d v l r) = least key r := by
        simp only [least, ins, List.find?_append, List.find?_cons, hl, Option.none_or]
        rw [decide_eq_false (by omega)]
      rw [this]
    · rename_i hk
      rw [ihl _ h1]
      have : least key (node b k d v l r) = (least key l).or (some (k, d, v)) := by
        simp only [least, ins, List.find?_append, List.find?_cons]
        rw [decide_eq_true (by omega)]
      rw [this]
      cases least key l <;> simp [item]
theorem least_mem {key : Int} {t : Tr} {e : Int × Int × Value} (h : least key t = some e) : e ∈ t.ins ∧ key ≤ e.1 := by
  refine ⟨List.mem_of_find?_eq_some h, ?_⟩
  have := List.find?_some h
  simpa using this
theorem least_none {key : Int} {t : Tr} (h : least key t = none) : ∀ e ∈ t.ins, e.1 < key := fun e he => by
  have := List.find?_eq_none.1 h e he
  simp at this; exact this
/-- The one at place i is found from itself; it is found from key, if it is the first one that is not below. -/
theorem least_at {t : Tr} (hb : t.bst) {key : Int} {i : Nat} {e : Int × Int × Value} (hi : t.ins[i]? = some e) (hk : key ≤ e.1) (hlt : ∀ j x, j < i → t.ins[j]? = some x → x.1 < key) : least key t = some e := by
  unfold least
  rw [List.find?_eq_some_iff_getElem]
  refine ⟨by simpa using hk, i, (List.getElem?_eq_some_iff.1 hi).1, (List.getElem?_eq_some_iff.1 hi).2, fun j hj => ?_⟩
  have hjl : j < t.ins.length := Nat.lt_trans hj (List.getElem?_eq_some_iff.1 hi).1
  have := hlt j (t.ins[j]) hj (List.getElem?_eq_getElem hjl)
  simp; omega
theorem ins_lt {t : Tr} (hb : t.bst) {i j : Nat} {x y : Int × Int × Value} (hij : i < j) (hi : t.ins[i]? = some x) (hj : t.ins[j]? = some y) : x.1 < y.1 := by
  unfold bst at hb
  rw [List.pairwise_iff_getElem] at hb
  obtain ⟨h1, h2⟩ := List.getElem?_eq_some_iff.1 hi
  obtain ⟨h3, h4⟩ := List.getElem?_eq_some_iff.1 hj
  have := hb i j (by simpa using h1) (by simpa using h3) hij
  simp only [List.getElem_map] at this
  rw [h2, h4] at this
  exact this
theorem least_self {t : Tr} (hb : t.bst) {i : Nat} {e : Int × Int × Value} (hi : t.ins[i]? = some e) : least e.1 t = some e :=
  least_at hb hi (Int.le_refl _) fun _ _ hj hx => ins_lt hb hj hx hi
end Tr
end Go.Proofs.Ytbijbpnhakbeeaa

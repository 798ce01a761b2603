/- Trees of keys, in a heap by their draws: what parting, joining, putting and dropping do; plain Lean. Trees of keys in memory: what nodes hold, what a tree's header holds, a way down with a hole. Trees of keys in memory, of values of two cells. Package treap at dustpan/api.Run: above, find, split, join, Put, Get, Len: for every tree. A tree that a call has made: all its blocks are new; plain facts. Package treap at dustpan/api.Run: Put on a tree that a call has made. A region that draws its order, within a round of a loop over an iterator: the one walk of a region whose last operations stand in one forced order. By an AI agent. -/
import Derived.Test.YthhnpcniijpfeaaGreatZ1
import Derived.StillTail
import Derived.StillTactics
import Derived.OrdersIn
import Derived.TacticsIn
namespace Go.Proofs.YthhnpcniijpfeaaGreat
open Go.RowKit
set_option linter.unusedSimpArgs false
set_option linter.unusedVariables false

/-- A node: its block, its key, its draw, its value, what stands below. -/
inductive Tr where
  | nil
  | node (b : Nat) (k d : Int) (v : Value) (l r : Tr)

namespace Tr
def adr : Tr → Option Addr
  | nil => none
  | node b _ _ _ _ _ => some ⟨b, 0, none⟩
def has : Tr → Nat → Prop
  | nil, _ => False
  | node b _ _ _ l r, x => x = b ∨ l.has x ∨ r.has x
def sep : Tr → Prop
  | nil => True
  | node b _ _ _ l r => ¬ l.has b ∧ ¬ r.has b ∧ (∀ x, l.has x → ¬ r.has x) ∧ l.sep ∧ r.sep
/-- Key, draw, value, by rising keys. -/
def ins : Tr → List (Int × Int × Value)
  | nil => []
  | node _ k d v l r => l.ins ++ (k, d, v) :: r.ins
def size : Tr → Nat
  | nil => 0
  | node _ _ _ _ l r => l.size + r.size + 1
def up (k d k' d' : Int) : Bool := decide (d' < d) || (decide (d = d') && decide (k < k'))
def split (key : Int) : Tr → Tr × Tr
  | nil => (nil, nil)
  | node b k d v l r => if k < key then (node b k d v l (split key r).1, (split key r).2) else ((split key l).1, node b k d v (split key l).2 r)
def joinWith (ja : Tr → Tr) (b : Nat) (k d : Int) (v : Value) (l r : Tr) : Tr → Tr
  | nil => node b k d v l r
  | node b' k' d' v' l' r' => if up k d k' d' then node b k d v l (ja (node b' k' d' v' l' r')) else node b' k' d' v' (joinWith ja b k d v l r l') r'
def join : Tr → Tr → Tr
  | nil => fun t => t
  | node b k d v l r => joinWith (join r) b k d v l r
def find (key : Int) : Tr → Tr
  | nil => nil
  | node b k d v l r => if k = key then node b k d v l r else if key < k then find key l else find key r
def put (nb : Nat) (key draw : Int) (v : Value) (t : Tr) : Tr := join (join (split key t).1 (node nb key draw v nil nil)) (split key t).2
def drop (key : Int) : Tr → Tr
  | nil => nil
  | node b k d v l r => if k = key then join l r else if key < k then node b k d v (drop key l) r else node b k d v l (drop key r)
def shape (dep : Nat) : Tr → List (Int × Int)
  | nil => []
  | node _ k _ _ l r => (k, (dep : Int)) :: (shape (dep + 1) l ++ shape (dep + 1) r)

theorem join_nil (t : Tr) : join t nil = t := by cases t <;> rfl
theorem nil_join (t : Tr) : join nil t = t := rfl
theorem join_node (b : Nat) (k d : Int) (v : Value) (l r : Tr) (b' : Nat) (k' d' : Int) (v' : Value) (l' r' : Tr) :
    join (node b k d v l r) (node b' k' d' v' l' r') = if up k d k' d' then node b k d v l (join r (node b' k' d' v' l' r')) else node b' k' d' v' (join (node b k d v l r) l') r' := rfl
/-- Two trees: by what joining asks. -/
theorem join_ind {M : Tr → Tr → Prop} (h1 : ∀ t, M nil t) (h2 : ∀ b k d v l r, M (node b k d v l r) nil)
    (h3 : ∀ b k d v l r b' k' d' v' l' r', M r (node b' k' d' v' l' r') → M (node b k d v l r) l' → M (node b k d v l r) (node b' k' d' v' l' r')) : ∀ s t, M s t := by
  intro s
  induction s with
  | nil => exact h1
  | node b k d v l r _ ihr =>
    intro t
    induction t with
    | nil => exact h2 ..
    | node b' k' d' v' l' r' ihl' _ => exact h3 _ _ _ _ _ _ _ _ _ _ _ _ (ihr _) ihl'

theorem split_ins (key : Int) (t : Tr) : (split key t).1.ins ++ (split key t).2.ins = t.ins := by
  induction t with
  | nil => rfl
  | node b k d v l r ihl ihr =>
    unfold split
    split
    · simp [ins, ihr]
    · simp [ins, ← ihl]
theorem join_ins (s t : Tr) : (join s t).ins = s.ins ++ t.ins := by
  induction s, t using join_ind with
  | h1 t => rfl
  | h2 => simp [join_nil, ins]
  | h3 b k d v l r b' k' d' v' l' r' ih1 ih2 =>
    rw [join_node]
    split
    · simp [ins, ih1]
    · simp [ins, ih2]
theorem split_has (key : Int) (t : Tr) (x : Nat) : ((split key t).1.has x ∨ (split key t).2.has x) ↔ t.has x := by
  induction t with
  | nil => simp [split, has]
  | node b k d v l r ihl ihr =>
    unfold split
    split
    · simp only [has, ← ihr]; constructor <;> (rintro h; simp only [or_assoc] at h ⊢; exact h)
    · simp only [has, ← ihl]
      constructor
      · rintro (h | h | h | h) <;> simp [h]
      · rintro (h | (h | h) | h) <;> simp [h]
theorem split_sep (key : Int) (t : Tr) (h : t.sep) : (split key t).1.sep ∧ (split key t).2.sep ∧ ∀ x, (split key t).1.has x → ¬ (split key t).2.has x := by
  induction t with
  | nil => simp [split, sep, has]
  | node b k d v l r ihl ihr =>
    obtain ⟨h1, h2, h3, h4, h5⟩ := h
    obtain ⟨a1, a2, a3⟩ := ihl h4
    obtain ⟨b1, b2, b3⟩ := ihr h5
    have sl := split_has key l
    have sr := split_has key r
    unfold split
    split
    · refine ⟨⟨h1, fun hb => h2 ((sr b).1 (.inl hb)), fun x hx hx' => h3 x hx ((sr x).1 (.inl hx')), h4, b1⟩, b2, ?_⟩
      rintro x (rfl | hx | hx) hx'
      · exact h2 ((sr x).1 (.inr hx'))
      · exact h3 x hx ((sr x).1 (.inr hx'))
      · exact b3 x hx hx'
    · refine ⟨a1, ⟨fun hb => h1 ((sl b).1 (.inr hb)), h2, fun x hx => h3 x ((sl x).1 (.inr hx)), a2, h5⟩, ?_⟩
      rintro x hx (rfl | hx' | hx')
      · exact h1 ((sl x).1 (.inl hx))
      · exact a3 x hx hx'
      · exact h3 x ((sl x).1 (.inl hx)) hx'
theorem join_has (s t : Tr) (x : Nat) : (join s t).has x ↔ s.has x ∨ t.has x := by
  induction s, t using join_ind with
  | h1 t => simp [nil_join, has]
  | h2 => simp [join_nil, has]
  | h3 b k d v l r b' k' d' v' l' r' ih1 ih2 =>
    rw [join_node]
    split
    · simp only [has] at ih1 ⊢; rw [ih1]; simp only [or_assoc]
    · simp only [has] at ih2 ⊢; rw [ih2]
      constructor
      · rintro (h | ((h | h | h) | h) | h) <;> simp [h]
      · rintro ((h | h | h) | h | h | h) <;> simp [h]
theorem join_sep (s t : Tr) (hs : s.sep) (ht : t.sep) (hd : ∀ x, s.has x → ¬ t.has x) : (join s t).sep := by
  induction s, t using join_ind with
  | h1 t => exact ht
  | h2 => rw [join_nil]; exact hs
  | h3 b k d v l r b' k' d' v' l' r' ih1 ih2 =>
    rw [join_node]
    have hs' := hs; have ht' := ht
    obtain ⟨h1, h2, h3, h4, h5⟩ := hs
    obtain ⟨g1, g2, g3, g4, g5⟩ := ht
    split
    · refine ⟨h1, fun h => ?_, fun x hx h => ?_, h4, ih1 h5 ht' (fun x hx => hd x (.inr (.inr hx)))⟩
      · rcases (join_has ..).1 h with h | h
        · exact h2 h
        · exact hd b (.inl rfl) h
      · rcases (join_has ..).1 h with h | h
        · exact h3 x hx h
        · exact hd x (.inr (.inl hx)) h
    · refine ⟨fun h => ?_, g2, fun x h hx => ?_, ih2 hs' g4 (fun x hx hx' => hd x hx (.inr (.inl hx'))), g5⟩
      · rcases (join_has ..).1 h with h | h
        · exact hd b' h (.inl rfl)
        · exact g1 h
      · rcases (join_has ..).1 h with h | h
        · exact hd x h (.inr (.inr hx))
        · exact g3 x h hx

/-- Keys rise. -/
def bst (t : Tr) : Prop := (t.ins.map (·.1)).Pairwise (· < ·)
theorem bst_node {b : Nat} {k d : Int} {v : Value} {l r : Tr} : (node b k d v l r).bst ↔ l.bst ∧ r.bst ∧ (∀ e ∈ l.ins, e.1 < k) ∧ (∀ e ∈ r.ins, k < e.1) := by
  unfold bst
  simp only [ins, List.map_append, List.map_cons, List.pairwise_append, List.pairwise_cons, List.mem_map, List.mem_cons]
  constructor
  · rintro ⟨h1, ⟨h2, h3⟩, h4⟩
    exact ⟨h1, h3, fun e he => h4 _ ⟨e, he, rfl⟩ _ (.inl rfl), fun e he => h2 _ ⟨e, he, rfl⟩⟩
  · rintro ⟨h1, h2, h3, h4⟩
    refine ⟨h1, ⟨?_, h2⟩, ?_⟩
    · rintro _ ⟨e, he, rfl⟩; exact h4 e he
    · rintro _ ⟨e, he, rfl⟩ x (rfl | ⟨e', he', rfl⟩)
      · exact h3 e he
      · exact Int.lt_trans (h3 e he) (h4 e' he')
theorem split_lt (key : Int) (t : Tr) (h : t.bst) : (∀ e ∈ (split key t).1.ins, e.1 < key) ∧ (∀ e ∈ (split key t).2.ins, key ≤ e.1) := by
  induction t with
  | nil => simp [split, ins]
  | node b k d v l r ihl ihr =>
    obtain ⟨h1, h2, h3, h4⟩ := bst_node.1 h
    unfold split
    split
    · rename_i hk
      refine ⟨?_, (ihr h2).2⟩
      simp only [ins, List.mem_append, List.mem_cons]
      rintro e (he | rfl | he)
      · exact Int.lt_trans (h3 e he) hk
      · exact hk
      · exact (ihr h2).1 e he
    · rename_i hk
      refine ⟨(ihl h1).1, ?_⟩
      simp only [ins, List.mem_append, List.mem_cons]
      rintro e (he | rfl | he)
      · exact (ihl h1).2 e he
      · exact Int.not_lt.1 hk
      · have := h4 e he; omega

/-- Who stands above whom. -/
def heap : Tr → Prop
  | nil => True
  | node _ k d _ l r => (∀ e ∈ l.ins, up k d e.1 e.2.1 = true) ∧ (∀ e ∈ r.ins, up k d e.1 e.2.1 = true) ∧ l.heap ∧ r.heap
theorem up_iff {k d k' d' : Int} : up k d k' d' = true ↔ d' < d ∨ d = d' ∧ k < k' := by simp [up]
theorem up_trans {a b c a' b' c' : Int} (h : up a a' b b' = true) (g : up b b' c c' = true) : up a a' c c' = true := by
  rw [up_iff] at *; omega
theorem up_asym {a b a' b' : Int} (h : up a a' b b' = true) : up b b' a a' = false := by
  cases g : up b b' a a'
  · rfl
  · rw [up_iff] at *; omega
theorem up_total {a b a' b' : Int} (h : a < b) (g : up a a' b b' = false) : up b b' a a' = true := by
  have g' : ¬ up a a' b b' = true := by simp [g]
  rw [up_iff] at *; omega
theorem split_mem (key : Int) (t : Tr) (e : Int × Int × Value) : (e ∈ (split key t).1.ins ∨ e ∈ (split key t).2.ins) ↔ e ∈ t.ins := by
  rw [← split_ins key t, List.mem_append]
theorem split_heap (key : Int) (t : Tr) (h : t.heap) : (split key t).1.heap ∧ (split key t).2.heap := by
  induction t with
  | nil => simp [split, heap]
  | node b k d v l r ihl ihr =>
    obtain ⟨h1, h2, h3, h4⟩ := h
    unfold split
    split
    · exact ⟨⟨h1, fun e he => h2 e ((split_mem key r e).1 (.inl he)), h3, (ihr h4).1⟩, (ihr h4).2⟩
    · exact ⟨(ihl h3).1, fun e he => h1 e ((split_mem key l e).1 (.inr he)), h2, (ihl h3).2, h4⟩
theorem join_heap (s t : Tr) (hs : s.heap) (ht : t.heap) (hlt : ∀ e ∈ s.ins, ∀ e' ∈ t.ins, e.1 < e'.1) : (join s t).heap := by
  induction s, t using join_ind with
  | h1 t => exact ht
  | h2 => rw [join_nil]; exact hs
  | h3 b k d v l r b' k' d' v' l' r' ih1 ih2 =>
    rw [join_node]
    have hs' := hs; have ht' := ht
    obtain ⟨h1, h2, h3, h4⟩ := hs
    obtain ⟨g1, g2, g3, g4⟩ := ht
    have hkk : k < k' := hlt (k, d, v) (by simp [ins]) (k', d', v') (by simp [ins])
    split
    · rename_i hu
      refine ⟨h1, ?_, h3, ih1 h4 ht' (fun e he e' he' => hlt e (by simp [ins, he]) e' he')⟩
      rw [join_ins]
      intro e he
      rcases List.mem_append.1 he with he | he
      · exact h2 e he
      · simp only [ins, List.mem_append, List.mem_cons] at he
        rcases he with he | rfl | he
        · exact up_trans hu (g1 e he)
        · exact hu
        · exact up_trans hu (g2 e he)
    · rename_i hu
      have hu' := up_total hkk (by simpa using hu)
      refine ⟨?_, g2, ih2 hs' g3 (fun e he e' he' => hlt e he e' (by simp [ins, he'])), g4⟩
      rw [join_ins]
      intro e he
      rcases List.mem_append.1 he with he | he
      · simp only [ins, List.mem_append, List.mem_cons] at he
        rcases he with he | rfl | he
        · exact up_trans hu' (h1 e he)
        · exact hu'
        · exact up_trans hu' (h2 e he)
      · exact g1 e he

theorem size_ins (t : Tr) : t.ins.length = t.size := by
  induction t with
  | nil => rfl
  | node b k d v l r ihl ihr => simp [ins, size, ihl, ihr]; omega
theorem find_hit {b : Nat} {k d : Int} {v : Value} {l r : Tr} : find k (node b k d v l r) = node b k d v l r := by unfold find; rw [if_pos rfl]
theorem find_left {key : Int} {b : Nat} {k d : Int} {v : Value} {l r : Tr} (h : ¬ k = key) (h2 : key < k) : find key (node b k d v l r) = find key l := by rw [find, if_neg h, if_pos h2]
theorem find_right {key : Int} {b : Nat} {k d : Int} {v : Value} {l r : Tr} (h : ¬ k = key) (h2 : ¬ key < k) : find key (node b k d v l r) = find key r := by rw [find, if_neg h, if_neg h2]
/-- A key that is not found stands nowhere. -/
theorem find_nil {key : Int} {t : Tr} (h : t.bst) (hf : find key t = nil) : ∀ e ∈ t.ins, e.1 ≠ key := by
  induction t with
  | nil => simp [ins]
  | node b k d v l r ihl ihr =>
    obtain ⟨h1, h2, h3, h4⟩ := bst_node.1 h
    unfold find at hf
    split at hf
    · cases hf
    · rename_i hk
      simp only [ins, List.mem_append, List.mem_cons]
      split at hf
      · rename_i hlt
        rintro e (he | rfl | he)
        · exact ihl h1 hf e he
        · exact hk
        · have := h4 e he; omega
      · rename_i hlt
        rintro e (he | rfl | he)
        · have := h3 e he; omega
        · exact hk
        · exact ihr h2 hf e he
theorem find_node {key : Int} {t : Tr} {b : Nat} {k d : Int} {v : Value} {l r : Tr} (hf : find key t = node b k d v l r) : k = key ∧ (k, d, v) ∈ t.ins ∧ (∀ x, (node b k d v l r).has x → t.has x) := by
  induction t with
  | nil => cases hf
  | node b' k' d' v' l' r' ihl ihr =>
    unfold find at hf
    split at hf
    · cases hf; rename_i hk; exact ⟨hk, by simp [ins], fun x hx => hx⟩
    · split at hf
      · obtain ⟨a1, a2, a3⟩ := ihl hf; exact ⟨a1, by simp [ins, a2], fun x hx => .inr (.inl (a3 x hx))⟩
      · obtain ⟨a1, a2, a3⟩ := ihr hf; exact ⟨a1, by simp [ins, a2], fun x hx => .inr (.inr (a3 x hx))⟩
/-- A key that stands there is found, with its draw and its value. -/
theorem find_mem {t : Tr} (h : t.bst) {e : Int × Int × Value} (he : e ∈ t.ins) : ∃ b l r, find e.1 t = node b e.1 e.2.1 e.2.2 l r := by
  induction t with
  | nil => simp [ins] at he
  | node b k d v l r ihl ihr =>
    obtain ⟨h1, h2, h3, h4⟩ := bst_node.1 h
    simp only [ins, List.mem_append, List.mem_cons] at he
    unfold find
    rcases he with he | rfl | he
    · have := h3 e he
      rw [if_neg (by omega), if_pos this]; exact ihl h1 he
    · exact ⟨b, l, r, by simp⟩
    · have := h4 e he
      rw [if_neg (by omega), if_neg (by omega)]; exact ihr h2 he

/-- All that holds of a tree of the program's: its blocks are apart, its keys rise, draws stand in a heap. -/
structure ok (t : Tr) : Prop where
  sep : t.sep
  bst : t.bst
  heap : t.heap
theorem ok_nil : nil.ok := ⟨trivial, List.Pairwise.nil, trivial⟩
theorem put_ins (nb : Nat) (key draw : Int) (v : Value) (t : Tr) : (put nb key draw v t).ins = (split key t).1.ins ++ (key, draw, v) :: (split key t).2.ins := by
  simp [put, join_ins, ins]
theorem put_has (nb : Nat) (key draw : Int) (v : Value) (t : Tr) (x : Nat) : (put nb key draw v t).has x ↔ x = nb ∨ t.has x := by
  rw [← split_has key t]
  simp only [put, join_has, has]
  constructor
  · rintro ((h | h | h | h) | h) <;> simp_all
  · rintro (h | h | h) <;> simp [h]
theorem put_mem (nb : Nat) (key draw : Int) (v : Value) (t : Tr) (e : Int × Int × Value) : e ∈ (put nb key draw v t).ins ↔ e = (key, draw, v) ∨ e ∈ t.ins := by
  rw [put_ins, ← split_mem key t]
  simp only [List.mem_append, List.mem_cons]
  constructor
  · rintro (h | h | h) <;> simp [h]
  · rintro (h | h | h) <;> simp [h]
theorem put_size (nb : Nat) (key draw : Int) (v : Value) (t : Tr) : (put nb key draw v t).size = t.size + 1 := by
  rw [← size_ins, put_ins, ← size_ins, ← split_ins key t]; simp; omega
theorem ok_put {t : Tr} (h : t.ok) (nb : Nat) (key draw : Int) (v : Value) (hb : ¬ t.has nb) (hf : find key t = nil) : (put nb key draw v t).ok := by
  obtain ⟨s1, s2, s3⟩ := split_sep key t h.sep
  obtain ⟨l1, l2⟩ := split_lt key t h.bst
  obtain ⟨e1, e2⟩ := split_heap key t h.heap
  have hne := find_nil h.bst hf
  have l3 : ∀ e ∈ (split key t).2.ins, key < e.1 := fun e he => by
    have := l2 e he; have := hne e ((split_mem key t e).1 (.inr he)); omega
  have hb1 : ¬ (split key t).1.has nb := fun h => hb ((split_has key t nb).1 (.inl h))
  have hb2 : ¬ (split key t).2.has nb := fun h => hb ((split_has key t nb).1 (.inr h))
  have j1 : (join (split key t).1 (node nb key draw v nil nil)).heap := join_heap _ _ e1 (by simp [heap, ins]) (by
    intro e he e' he'
    simp only [ins, List.nil_append, List.mem_singleton] at he'
    subst he'; exact l1 e he)
  refine ⟨?_, ?_, ?_⟩
  · refine join_sep _ _ (join_sep _ _ s1 (by simp [sep, has]) ?_) s2 ?_
    · intro x hx hx'
      simp only [has, or_false] at hx'
      subst hx'; exact hb1 hx
    · intro x hx hx'
      rcases (join_has ..).1 hx with hx | hx
      · exact s3 x hx hx'
      · simp only [has, or_false] at hx; subst hx; exact hb2 hx'
  · unfold bst
    rw [put_ins]
    have hb0 := h.bst
    unfold bst at hb0
    rw [← split_ins key t] at hb0
    simp only [List.map_append, List.map_cons, List.pairwise_append, List.pairwise_cons, List.mem_map, List.mem_cons] at hb0 ⊢
    obtain ⟨p1, p2, p3⟩ := hb0
    refine ⟨p1, ⟨?_, p2⟩, ?_⟩
    · rintro _ ⟨e, he, rfl⟩; exact l3 e he
    · rintro _ ⟨e, he, rfl⟩ x (rfl | ⟨e', he', rfl⟩)
      · exact l1 e he
      · exact p3 _ ⟨e, he, rfl⟩ _ ⟨e', he', rfl⟩
  · refine join_heap _ _ j1 e2 ?_
    rw [join_ins]
    intro e he e' he'
    rcases List.mem_append.1 he with he | he
    · exact Int.lt_trans (l1 e he) (l3 e' he')
    · simp only [ins, List.nil_append, List.mem_singleton] at he
      subst he; exact l3 e' he'
theorem shape_len (dep : Nat) (t : Tr) : (shape dep t).length = t.size := by
  induction t generalizing dep with
  | nil => rfl
  | node b k d v l r ihl ihr => simp [shape, size, ihl, ihr]
theorem shape_mem {dep : Nat} {t : Tr} {x : Int × Int} (h : x ∈ shape dep t) : ∃ d v, (x.1, d, v) ∈ t.ins := by
  induction t generalizing dep with
  | nil => simp [shape] at h
  | node b k d v l r ihl ihr =>
    simp only [shape, List.mem_cons, List.mem_append] at h
    rcases h with rfl | h | h
    · exact ⟨d, v, by simp [ins]⟩
    · obtain ⟨d', v', h⟩ := ihl h; exact ⟨d', v', by simp [ins, h]⟩
    · obtain ⟨d', v', h⟩ := ihr h; exact ⟨d', v', by simp [ins, h]⟩
end Tr

/-- The heap holds the tree: each node a block of five cells. -/
def IsTr (T : TypeId) (w : World) : Tr → Prop
  | .nil => True
  | .node b k d v l r => Blk w b #[.int .i64 k, .int .u32 d, v, .pointer l.adr, .pointer r.adr] T ∧ IsTr T w l ∧ IsTr T w r

theorem IsTr.only {T : TypeId} {S : Nat → Prop} {w w' : World} (ho : Only S w w') : ∀ {t : Tr}, IsTr T w t → (∀ x, t.has x → ¬ S x) → IsTr T w' t
  | .nil, _, _ => trivial
  | .node _ _ _ _ _ _, ⟨h1, h2, h3⟩, hs => ⟨h1.only ho (hs _ (.inl rfl)), IsTr.only ho h2 (fun x hx => hs x (.inr (.inl hx))), IsTr.only ho h3 (fun x hx => hs x (.inr (.inr hx)))⟩
theorem IsTr.lt {T : TypeId} {w : World} : ∀ {t : Tr}, IsTr T w t → ∀ x, t.has x → x < w.heap.size
  | .nil, _, _, h => h.elim
  | .node _ _ _ _ _ _, ⟨h1, h2, h3⟩, x, hx => by
    rcases hx with rfl | hx | hx
    · exact h1.lt
    · exact IsTr.lt h2 x hx
    · exact IsTr.lt h3 x hx
theorem IsTr.setCell_other {T : TypeId} {w : World} {t : Tr} (h : IsTr T w t) {d : Nat} (hd : ¬ t.has d) (j : Nat) (v : Value) : IsTr T (w.setCell ⟨d, j, none⟩ v) t :=
  h.only ((Only.refl (· = d) w).setCell (.inl rfl) v) (fun _ hx e => hd (e ▸ hx))
theorem IsTr.alloc {T : TypeId} {w : World} {t : Tr} (h : IsTr T w t) (o : Obj) : IsTr T (w.alloc o) t :=
  h.only ((Only.refl (fun _ => False) w).alloc o) (fun _ _ => id)
theorem IsTr.drewN {T : TypeId} {w : World} {t : Tr} (h : IsTr T w t) (n : Nat) : IsTr T (w.drewN n) t :=
  h.only ((Only.refl (fun _ => False) w).drewN n) (fun _ _ => id)
/-- The world and the address fix the tree. -/
theorem IsTr.unique {T : TypeId} {w : World} : ∀ {t u : Tr}, IsTr T w t → IsTr T w u → t.adr = u.adr → t = u
  | .nil, .nil, _, _, _ => rfl
  | .nil, .node .., _, _, h => by cases h
  | .node .., .nil, _, _, h => by cases h
  | .node b k d v l r, .node b' k' d' v' l' r', ⟨h1, h2, h3⟩, ⟨g1, g2, g3⟩, h => by
    simp only [Tr.adr, Option.some.injEq, Addr.mk.injEq] at h
    obtain ⟨rfl, _⟩ := h
    have := (h1.uniq g1).1
    simp only [Array.mk.injEq, List.cons.injEq, Value.int.injEq, Value.pointer.injEq, true_and, and_true] at this
    obtain ⟨e1, e2, e3, e4, e5⟩ := this
    rw [e1, e2, e3, IsTr.unique h2 g2 e4, IsTr.unique h3 g3 e5]
open Classical in
/-- How many nodes stand below an address. -/
noncomputable def trSize (T : TypeId) (w : World) (v : Value) : Nat :=
  if h : ∃ t : Tr, v = .pointer t.adr ∧ IsTr T w t then (Classical.choose h).size else 0
theorem trSize_eq {T : TypeId} {w : World} {t : Tr} (h : IsTr T w t) : trSize T w (.pointer t.adr) = t.size := by
  have hex : ∃ u : Tr, Value.pointer t.adr = .pointer u.adr ∧ IsTr T w u := ⟨t, rfl, h⟩
  unfold trSize
  rw [dif_pos hex]
  obtain ⟨e, hl⟩ := Classical.choose_spec hex
  rw [← IsTr.unique h hl (by simpa using e)]
/-- The cells of a node. -/
theorem IsTr.cells {T : TypeId} {w : World} {b : Nat} {k d : Int} {v : Value} {l r : Tr} (h : IsTr T w (.node b k d v l r)) :
    w.cell? ⟨b, 0, none⟩ = some (.int .i64 k) ∧ w.cell? ⟨b, 1, none⟩ = some (.int .u32 d) ∧ w.cell? ⟨b, 2, none⟩ = some v ∧ w.cell? ⟨b, 3, none⟩ = some (.pointer l.adr) ∧ w.cell? ⟨b, 4, none⟩ = some (.pointer r.adr) ∧
    w.frozen? ⟨b, 3, none⟩ = false ∧ w.frozen? ⟨b, 4, none⟩ = false :=
  ⟨h.1.cell 0, h.1.cell 1, h.1.cell 2, h.1.cell 3, h.1.cell 4, h.1.frozen 3, h.1.frozen 4⟩

/-- A tree's header in block tb: its root's address, how many keys. -/
structure IsTreap (T H : TypeId) (w : World) (tb : Nat) (t : Tr) (m : Int) : Prop where
  head : Blk w tb #[.pointer t.adr, .int .i64 m] H
  tr : IsTr T w t
  ntb : ¬ t.has tb
theorem IsTreap.only {T H : TypeId} {S : Nat → Prop} {w w' : World} {tb : Nat} {t : Tr} {m : Int} (h : IsTreap T H w tb t m) (ho : Only S w w') (h1 : ¬ S tb) (h2 : ∀ x, t.has x → ¬ S x) : IsTreap T H w' tb t m :=
  ⟨h.head.only ho h1, h.tr.only ho h2, h.ntb⟩
theorem IsTreap.adds {T H : TypeId} {w w' : World} {tb : Nat} {t : Tr} {m : Int} (h : IsTreap T H w tb t m) (ho : Adds w w') : IsTreap T H w' tb t m := h.only ho id (fun _ _ => id)
theorem IsTreap.alloc {T H : TypeId} {w : World} {tb : Nat} {t : Tr} {m : Int} (h : IsTreap T H w tb t m) (o : Obj) : IsTreap T H (w.alloc o) tb t m := h.adds ((Only.refl _ w).alloc o)
theorem IsTreap.drewN {T H : TypeId} {w : World} {tb : Nat} {t : Tr} {m : Int} (h : IsTreap T H w tb t m) (n : Nat) : IsTreap T H (w.drewN n) tb t m := h.adds ((Only.refl _ w).drewN n)
theorem IsTreap.cells {T H : TypeId} {w : World} {tb : Nat} {t : Tr} {m : Int} (h : IsTreap T H w tb t m) :
    w.cell? ⟨tb, 0, none⟩ = some (.pointer t.adr) ∧ w.cell? ⟨tb, 1, none⟩ = some (.int .i64 m) ∧ w.frozen? ⟨tb, 0, none⟩ = false ∧ w.frozen? ⟨tb, 1, none⟩ = false :=
  ⟨h.head.cell 0, h.head.cell 1, h.head.frozen 0, h.head.frozen 1⟩
/-- The blocks of a tree and its header. -/
def TB (tb : Nat) (t : Tr) (x : Nat) : Prop := x = tb ∨ t.has x
theorem IsTreap.lt {T H : TypeId} {w : World} {tb : Nat} {t : Tr} {m : Int} (h : IsTreap T H w tb t m) : ∀ x, TB tb t x → x < w.heap.size := by
  rintro x (rfl | hx)
  · exact h.head.lt
  · exact h.tr.lt x hx
theorem adr_some {t : Tr} (h : t ≠ .nil) : ∃ b, t.adr = some ⟨b, 0, none⟩ ∧ t.has b := by
  cases t with
  | nil => exact absurd rfl h
  | node b k d v l r => exact ⟨b, rfl, .inl rfl⟩

theorem find_cells {T : TypeId} {w : World} {t : Tr} {key : Int} (h : IsTr T w t) : IsTr T w (Tr.find key t) := by
  induction t with
  | nil => exact trivial
  | node b k d v l r ihl ihr =>
    unfold Tr.find
    split
    · exact h
    · split
      · exact ihl h.2.1
      · exact ihr h.2.2

/-- A cell of a value of two. -/
def vc (v : Value) (i : Nat) : Value := match v with
  | .agg cs => cs.getD i undef
  | _ => undef
/-- The heap holds the tree: each node a block of six cells. -/
def IsTr2 (T : TypeId) (w : World) : Tr → Prop
  | .nil => True
  | .node b k d v l r => Blk w b #[.int .i64 k, .int .u32 d, vc v 0, vc v 1, .pointer l.adr, .pointer r.adr] T ∧ IsTr2 T w l ∧ IsTr2 T w r

theorem IsTr2.only {T : TypeId} {S : Nat → Prop} {w w' : World} (ho : Only S w w') : ∀ {t : Tr}, IsTr2 T w t → (∀ x, t.has x → ¬ S x) → IsTr2 T w' t
  | .nil, _, _ => trivial
  | .node _ _ _ _ _ _, ⟨h1, h2, h3⟩, hs => ⟨h1.only ho (hs _ (.inl rfl)), IsTr2.only ho h2 (fun x hx => hs x (.inr (.inl hx))), IsTr2.only ho h3 (fun x hx => hs x (.inr (.inr hx)))⟩
theorem IsTr2.lt {T : TypeId} {w : World} : ∀ {t : Tr}, IsTr2 T w t → ∀ x, t.has x → x < w.heap.size
  | .nil, _, _, h => h.elim
  | .node _ _ _ _ _ _, ⟨h1, h2, h3⟩, x, hx => by
    rcases hx with rfl | hx | hx
    · exact h1.lt
    · exact IsTr2.lt h2 x hx
    · exact IsTr2.lt h3 x hx
theorem IsTr2.setCell_other {T : TypeId} {w : World} {t : Tr} (h : IsTr2 T w t) {d : Nat} (hd : ¬ t.has d) (j : Nat) (v : Value) : IsTr2 T (w.setCell ⟨d, j, none⟩ v) t :=
  h.only ((Only.refl (· = d) w).setCell (.inl rfl) v) (fun _ hx e => hd (e ▸ hx))
theorem IsTr2.alloc {T : TypeId} {w : World} {t : Tr} (h : IsTr2 T w t) (o : Obj) : IsTr2 T (w.alloc o) t :=
  h.only ((Only.refl (fun _ => False) w).alloc o) (fun _ _ => id)
theorem IsTr2.drewN {T : TypeId} {w : World} {t : Tr} (h : IsTr2 T w t) (n : Nat) : IsTr2 T (w.drewN n) t :=
  h.only ((Only.refl (fun _ => False) w).drewN n) (fun _ _ => id)
/-- The world and the address fix how many nodes. -/
theorem IsTr2.same {T : TypeId} {w : World} : ∀ {t u : Tr}, IsTr2 T w t → IsTr2 T w u → t.adr = u.adr → t.size = u.size
  | .nil, .nil, _, _, _ => rfl
  | .nil, .node .., _, _, h => by cases h
  | .node .., .nil, _, _, h => by cases h
  | .node b k d v l r, .node b' k' d' v' l' r', ⟨h1, h2, h3⟩, ⟨g1, g2, g3⟩, h => by
    simp only [Tr.adr, Option.some.injEq, Addr.mk.injEq] at h
    obtain ⟨rfl, _⟩ := h
    have := (h1.uniq g1).1
    simp only [Array.mk.injEq, List.cons.injEq, Value.int.injEq, Value.pointer.injEq, true_and, and_true] at this
    obtain ⟨e1, e2, _, _, e4, e5⟩ := this
    simp only [Tr.size]
    rw [IsTr2.same h2 g2 e4, IsTr2.same h3 g3 e5]
open Classical in
/-- How many nodes stand below an address. -/
noncomputable def trSize2 (T : TypeId) (w : World) (v : Value) : Nat :=
  if h : ∃ t : Tr, v = .pointer t.adr ∧ IsTr2 T w t then (Classical.choose h).size else 0
theorem trSize2_eq {T : TypeId} {w : World} {t : Tr} (h : IsTr2 T w t) : trSize2 T w (.pointer t.adr) = t.size := by
  have hex : ∃ u : Tr, Value.pointer t.adr = .pointer u.adr ∧ IsTr2 T w u := ⟨t, rfl, h⟩
  unfold trSize2
  rw [dif_pos hex]
  obtain ⟨e, hl⟩ := Classical.choose_spec hex
  rw [← IsTr2.same h hl (by simpa using e)]
/-- The cells of a node. -/
theorem IsTr2.cells {T : TypeId} {w : World} {b : Nat} {k d : Int} {v : Value} {l r : Tr} (h : IsTr2 T w (.node b k d v l r)) :
    w.cell? ⟨b, 0, none⟩ = some (.int .i64 k) ∧ w.cell? ⟨b, 1, none⟩ = some (.int .u32 d) ∧ w.cell? ⟨b, 2, none⟩ = some (vc v 0) ∧ w.cell? ⟨b, 4, none⟩ = some (.pointer l.adr) ∧ w.cell? ⟨b, 5, none⟩ = some (.pointer r.adr) ∧
    w.frozen? ⟨b, 4, none⟩ = false ∧ w.frozen? ⟨b, 5, none⟩ = false :=
  ⟨h.1.cell 0, h.1.cell 1, h.1.cell 2, h.1.cell 4, h.1.cell 5, h.1.frozen 4, h.1.frozen 5⟩

/-- A tree's header in block tb: its root's address, how many keys. -/
structure IsTreap2 (T H : TypeId) (w : World) (tb : Nat) (t : Tr) (m : Int) : Prop where
  head : Blk w tb #[.pointer t.adr, .int .i64 m] H
  tr : IsTr2 T w t
  ntb : ¬ t.has tb
theorem IsTreap2.only {T H : TypeId} {S : Nat → Prop} {w w' : World} {tb : Nat} {t : Tr} {m : Int} (h : IsTreap2 T H w tb t m) (ho : Only S w w') (h1 : ¬ S tb) (h2 : ∀ x, t.has x → ¬ S x) : IsTreap2 T H w' tb t m :=
  ⟨h.head.only ho h1, h.tr.only ho h2, h.ntb⟩
theorem IsTreap2.adds {T H : TypeId} {w w' : World} {tb : Nat} {t : Tr} {m : Int} (h : IsTreap2 T H w tb t m) (ho : Adds w w') : IsTreap2 T H w' tb t m := h.only ho id (fun _ _ => id)
theorem IsTreap2.alloc {T H : TypeId} {w : World} {tb : Nat} {t : Tr} {m : Int} (h : IsTreap2 T H w tb t m) (o : Obj) : IsTreap2 T H (w.alloc o) tb t m := h.adds ((Only.refl _ w).alloc o)
theorem IsTreap2.drewN {T H : TypeId} {w : World} {tb : Nat} {t : Tr} {m : Int} (h : IsTreap2 T H w tb t m) (n : Nat) : IsTreap2 T H (w.drewN n) tb t m := h.adds ((Only.refl _ w).drewN n)
theorem IsTreap2.cells {T H : TypeId} {w : World} {tb : Nat} {t : Tr} {m : Int} (h : IsTreap2 T H w tb t m) :
    w.cell? ⟨tb, 0, none⟩ = some (.pointer t.adr) ∧ w.cell? ⟨tb, 1, none⟩ = some (.int .i64 m) ∧ w.frozen? ⟨tb, 0, none⟩ = false ∧ w.frozen? ⟨tb, 1, none⟩ = false :=
  ⟨h.head.cell 0, h.head.cell 1, h.head.frozen 0, h.head.frozen 1⟩
theorem IsTreap2.lt {T H : TypeId} {w : World} {tb : Nat} {t : Tr} {m : Int} (h : IsTreap2 T H w tb t m) : ∀ x, TB tb t x → x < w.heap.size := by
  rintro x (rfl | hx)
  · exact h.head.lt
  · exact h.tr.lt x hx
theorem find_cells2 {T : TypeId} {w : World} {t : Tr} {key : Int} (h : IsTr2 T w t) : IsTr2 T w (Tr.find key t) := by
  induction t with
  | nil => exact trivial
  | node b k d v l r ihl ihr =>
    unfold Tr.find
    split
    · exact h
    · split
      · exact ihl h.2.1
      · exact ihr h.2.2

set_option maxHeartbeats 1000000 in
theorem aboveR_any (b b' : Nat) (k d : Int) (v : Value) (l r : Tr) (k' d' : Int) (v' : Value) (l' r' : Tr) (w : World) (h : IsTr2 184 w (.node b k d v l r)) (h' : IsTr2 184 w (.node b' k' d' v' l' r')) :
    Calls Tryz.prog 176 #[.pointer (some ⟨b, 0, none⟩), .pointer (some ⟨b', 0, none⟩)] w fun e w' => e = .returned (.bool (Tr.up k d k' d')) ∧ ∃ n, w' = w.drewN n := by
  obtain ⟨c0, c1, c2, c3, c4, f3, f4⟩ := h.cells
  obtain ⟨e0, e1, e2, e3, e4, g3, g4⟩ := h'.cells
  clear h h' c2 c3 c4 f3 f4 e2 e3 e4 g3 g4
  rcases Int.lt_trichotomy d' d with h1 | h1 | h1
  · have hu : Tr.up k d k' d' = true := Tr.up_iff.2 (.inl h1)
    rw [hu]
    clear hu
    go_enter Tryz.func176, Tryz.ntmps176
    go_wp2
    go_quiet ((fail))
    go_wp2
    go_ret
    exact ⟨rfl, _, rfl⟩
  · subst h1
    by_cases h2 : k < k'
    · have hu : Tr.up k d' k' d' = true := Tr.up_iff.2 (.inr ⟨rfl, h2⟩)
      rw [hu]
      clear hu
      go_enter Tryz.func176, Tryz.ntmps176
      go_wp2
      go_quiet ((fail))
      go_wp2
      go_ret
      exact ⟨rfl, _, rfl⟩
    · have hu : Tr.up k d' k' d' = false := by simp [Tr.up, h2]
      rw [hu]
      clear hu
      go_enter Tryz.func176, Tryz.ntmps176
      go_wp2
      go_quiet ((fail))
      go_wp2
      go_ret
      exact ⟨by simp [h2], _, rfl⟩
  · have hu : Tr.up k d k' d' = false := by simp [Tr.up]; omega
    rw [hu]
    clear hu
    have h2 : ¬ d' < d := by omega
    have h3 : d ≠ d' := by omega
    have h4 : (d == d') = false := by simpa using h3
    have h5 : decide (d' < d) = false := by simpa using h2
    have h6 : decide (d = d') = false := by simpa using h3
    clear h3 h1 h2
    go_enter Tryz.func176, Tryz.ntmps176
    go_wp2
    go_quiet ((fail))
    go_wp2
    go_ret
    exact ⟨rfl, _, rfl⟩

set_option maxHeartbeats 1000000 in
theorem findR_any (tb : Nat) (t : Tr) (m key : Int) (w : World) (h : IsTreap2 184 155 w tb t m) :
    Calls Tryz.prog 129 #[.pointer (some ⟨tb, 0, none⟩), .int .i64 key] w fun e w' => e = .returned (.pointer (Tr.find key t).adr) ∧ w = w' := by
  obtain ⟨c0, c1, _, _⟩ := h.cells
  have HT := Lib.hid h.tr
  clear h
  go_enter Tryz.func129, Tryz.ntmps129
  go_wp2
  go_loop [5] (fun p => ∃ (s : Tr), p = .pointer s.adr ∧ IsTr2 184 w s ∧ Tr.find key s = Tr.find key t) (fun p => trSize2 184 w p)
  case atStart => exact ⟨t, rfl, HT.out, rfl⟩
  case round =>
    obtain ⟨s, rfl, hs, hf⟩ := hrel
    cases s with
    | nil =>
      rw [show Tr.nil.adr = none from rfl]
      have HF := Lib.hid hf
      clear hf hs
      go_wp2
      go_ret
      rw [← HF.out]
      exact ⟨rfl, rfl⟩
    | node b k d v l r =>
      have hz := trSize2_eq hs
      have hzl := trSize2_eq hs.2.1
      have hzr := trSize2_eq hs.2.2
      have HS := Lib.hid hs
      obtain ⟨c0, c1, c2, c3, c4, f3, f4⟩ := hs.cells
      clear hs c1 c2 f3 f4
      rw [show (Tr.node b k d v l r).adr = some ⟨b, 0, none⟩ from rfl] at hz ⊢
      simp only [Tr.size] at hz
      have HZ := Lib.hid (And.intro hz (And.intro hzl hzr))
      clear hz hzl hzr
      by_cases hk : k = key
      · subst hk
        rw [Tr.find_hit] at hf
        have HF := Lib.hid hf
        clear hf
        have t1 : (k != k) = false := by simp
        go_wp2
        go_ret
        rw [← HF.out]
        exact ⟨rfl, rfl⟩
      · have t1 : (k != key) = true := by simpa using hk
        by_cases hlt : key < k
        · rw [Tr.find_left hk hlt] at hf
          have HF := Lib.hid hf
          clear hf hk
          go_wp2
          go_round
          case rel => exact ⟨l, rfl, HS.out.2.1, HF.out⟩
          case measure => obtain ⟨hz, hzl, hzr⟩ := HZ.out; rw [hz, hzl]; omega
        · rw [Tr.find_right hk hlt] at hf
          have HF := Lib.hid hf
          clear hf hk
          go_wp2
          go_round
          case rel => exact ⟨r, rfl, HS.out.2.2, HF.out⟩
          case measure => obtain ⟨hz, hzl, hzr⟩ := HZ.out; rw [hz, hzr]; omega

set_option maxHeartbeats 1000000 in
theorem splitR_any (key : Int) (t : Tr) : ∀ (w : World), IsTr2 184 w t → t.sep →
    Calls Tryz.prog 130 #[.pointer t.adr, .int .i64 key] w fun e w' => e = .returned (.tuple #[.pointer (Tr.split key t).1.adr, .pointer (Tr.split key t).2.adr]) ∧
      IsTr2 184 w' (Tr.split key t).1 ∧ IsTr2 184 w' (Tr.split key t).2 ∧ Only t.has w w' := by
  induction t with
  | nil =>
    intro w _ _
    rw [show Tr.nil.adr = none from rfl]
    go_enter Tryz.func130, Tryz.ntmps130
    go_wp2
    go_ret2
    exact ⟨rfl, trivial, trivial, Only.refl _ _⟩
  | node b k d v l r ihl ihr =>
    intro w h hs
    obtain ⟨c0, c1, c2, c3, c4, f3, f4⟩ := h.cells
    have HT := Lib.hid h
    have HS := Lib.hid hs
    rw [show (Tr.node b k d v l r).adr = some ⟨b, 0, none⟩ from rfl]
    have il := ihl w h.2.1 hs.2.2.2.1
    have ir := ihr w h.2.2 hs.2.2.2.2
    clear h hs c1 c2 ihl ihr
    by_cases hk : k < key
    · have hsp : Tr.split key (Tr.node b k d v l r) = (Tr.node b k d v l (Tr.split key r).1, (Tr.split key r).2) := by rw [Tr.split, if_pos hk]
      rw [hsp]
      clear hsp il
      go_enter Tryz.func130, Tryz.ntmps130
      go_wp2_with fail
      refine ir.mono ?_; clear ir; rintro e w1 ⟨rfl, h1, h2, ho⟩
      have hs := HS.out
      have hB := HT.out.1.only ho hs.2.1
      have hL := HT.out.2.1.only ho hs.2.2.1
      have c0 := hB.cell 0; have c4 := hB.cell 5; have f4 := hB.frozen 5
      have B1 := Lib.hid hB; have L1 := Lib.hid hL; have H1 := Lib.hid h1; have H2 := Lib.hid h2; have HO := Lib.hid ho
      clear hs hB hL h1 h2 ho c3 f3
      go_wp2
      go_ret2
      have s1 := (Tr.split_has key r)
      refine ⟨rfl, ⟨?_, L1.out.setCell_other HS.out.1 _ _, H1.out.setCell_other (fun h => HS.out.2.1 ((s1 b).1 (.inl h))) _ _⟩, H2.out.setCell_other (fun h => HS.out.2.1 ((s1 b).1 (.inr h))) _ _, ?_⟩
      · exact B1.out.setCell 5 _
      · exact (HO.out.mono (fun x _ hx => .inr (.inr hx))).setCell (.inl (.inl rfl)) _
    · have hsp : Tr.split key (Tr.node b k d v l r) = ((Tr.split key l).1, Tr.node b k d v (Tr.split key l).2 r) := by rw [Tr.split, if_neg hk]
      rw [hsp]
      clear hsp ir
      go_enter Tryz.func130, Tryz.ntmps130
      go_wp2_with fail
      refine il.mono ?_; clear il; rintro e w1 ⟨rfl, h1, h2, ho⟩
      have hs := HS.out
      have hB := HT.out.1.only ho hs.1
      have hR := HT.out.2.2.only ho (fun x hx hx' => hs.2.2.1 x hx' hx)
      have c0 := hB.cell 0; have c3 := hB.cell 4; have f3 := hB.frozen 4
      have B1 := Lib.hid hB; have R1 := Lib.hid hR; have H1 := Lib.hid h1; have H2 := Lib.hid h2; have HO := Lib.hid ho
      clear hs hB hR h1 h2 ho c4 f4
      go_wp2
      go_ret2
      have s1 := (Tr.split_has key l)
      refine ⟨rfl, H1.out.setCell_other (fun h => HS.out.1 ((s1 b).1 (.inl h))) _ _, ⟨?_, H2.out.setCell_other (fun h => HS.out.1 ((s1 b).1 (.inr h))) _ _, R1.out.setCell_other HS.out.2.1 _ _⟩, ?_⟩
      · exact B1.out.setCell 4 _
      · exact (HO.out.mono (fun x _ hx => .inr (.inl hx))).setCell (.inl (.inl rfl)) _

set_option maxHeartbeats 1000000 in
theorem joinR_any (s t : Tr) : ∀ (w : World), IsTr2 184 w s → IsTr2 184 w t → s.sep → t.sep → (∀ x, s.has x → ¬ t.has x) →
    Calls Tryz.prog 131 #[.pointer s.adr, .pointer t.adr] w fun e w' => e = .returned (.pointer (Tr.join s t).adr) ∧
      IsTr2 184 w' (Tr.join s t) ∧ Only (fun x => s.has x ∨ t.has x) w w' := by
  induction s, t using Tr.join_ind with
  | h1 t =>
    intro w _ h _ _ _
    have HT := Lib.hid h
    clear h
    rw [show Tr.nil.adr = none from rfl, Tr.nil_join]
    generalize t.adr = a
    go_enter Tryz.func131, Tryz.ntmps131
    go_wp2
    go_ret
    exact ⟨rfl, HT.out, Only.refl _ _⟩
  | h2 b k d v l r =>
    intro w h _ _ _ _
    have HT := Lib.hid h
    clear h
    rw [show Tr.nil.adr = none from rfl, Tr.join_nil, show (Tr.node b k d v l r).adr = some ⟨b, 0, none⟩ from rfl]
    go_enter Tryz.func131, Tryz.ntmps131
    go_wp2
    go_ret
    exact ⟨rfl, HT.out, Only.refl _ _⟩
  | h3 b k d v l r b' k' d' v' l' r' ih1 ih2 =>
    intro w h h' hs hs' hd
    have ha := aboveR_any b b' k d v l r k' d' v' l' r' w h h'
    obtain ⟨c0, c1, c2, c3, c4, f3, f4⟩ := h.cells
    obtain ⟨e0, e1, e2, e3, e4, g3, g4⟩ := h'.cells
    have HT := Lib.hid h; have HT' := Lib.hid h'
    have HS := Lib.hid hs; have HS' := Lib.hid hs'; have HD := Lib.hid hd
    have IH1 := Lib.hid ih1; have IH2 := Lib.hid ih2
    rw [show (Tr.node b k d v l r).adr = some ⟨b, 0, none⟩ from rfl, show (Tr.node b' k' d' v' l' r').adr = some ⟨b', 0, none⟩ from rfl, Tr.join_node]
    clear h h' hs hs' hd ih1 ih2 c0 c1 c2 e0 e1 e2
    cases hu : Tr.up k d k' d'
    · rw [hu] at ha
      rw [if_neg (by simp)]
      clear hu
      go_enter Tryz.func131, Tryz.ntmps131
      go_wp2_with fail
      refine ha.mono ?_; clear ha; rintro e w1 ⟨rfl, n, rfl⟩
      go_wp2_with fail
      refine (IH2.out (w.drewN n) (HT.out.drewN n) (HT'.out.2.1.drewN n) HS.out HS'.out.2.2.2.1 (fun x hx hx' => HD.out x hx (.inr (.inl hx')))).mono ?_; rintro e w1 ⟨rfl, h1, ho⟩
      have hs := HS'.out; have hd := HD.out
      have hn : ¬ ((Tr.node b k d v l r).has b' ∨ l'.has b') := fun h => h.elim (fun h => hd b' h (.inl rfl)) hs.1
      have hB := (HT'.out.1.drewN n).only ho hn
      have hR := (HT'.out.2.2.drewN n).only ho (fun x hx h => h.elim (fun h => hd x h (.inr (.inr hx))) (fun h => hs.2.2.1 x h hx))
      have e3 := hB.cell 4; have g3 := hB.frozen 4
      have B1 := Lib.hid hB; have R1 := Lib.hid hR; have H1 := Lib.hid h1; have HO := Lib.hid ho; have HN := Lib.hid hn
      clear hs hd hB hR h1 ho hn c3 c4 e4 f3 f4 g4
      go_wp2
      go_ret
      refine ⟨rfl, ⟨B1.out.setCell 4 _, H1.out.setCell_other (fun h => HN.out ((Tr.join_has ..).1 h)) _ _, R1.out.setCell_other HS'.out.2.1 _ _⟩, ?_⟩
      exact (((Only.refl _ w).drewN n).trans (HO.out.mono (fun x _ hx => hx.elim .inl (fun hx => .inr (.inr (.inl hx)))))).setCell (.inl (.inr (.inl rfl))) _
    · rw [hu] at ha
      rw [if_pos rfl]
      clear hu
      go_enter Tryz.func131, Tryz.ntmps131
      go_wp2_with fail
      refine ha.mono ?_; clear ha; rintro e w1 ⟨rfl, n, rfl⟩
      go_wp2_with fail
      refine (IH1.out (w.drewN n) (HT.out.2.2.drewN n) (HT'.out.drewN n) HS.out.2.2.2.2 HS'.out (fun x hx hx' => HD.out x (.inr (.inr hx)) hx')).mono ?_; rintro e w1 ⟨rfl, h1, ho⟩
      have hs := HS.out; have hd := HD.out
      have hn : ¬ (r.has b ∨ (Tr.node b' k' d' v' l' r').has b) := fun h => h.elim hs.2.1 (fun h => hd b (.inl rfl) h)
      have hB := (HT.out.1.drewN n).only ho hn
      have hL := (HT.out.2.1.drewN n).only ho (fun x hx h => h.elim (fun h => hs.2.2.1 x hx h) (fun h => hd x (.inr (.inl hx)) h))
      have c4 := hB.cell 5; have f4 := hB.frozen 5
      have B1 := Lib.hid hB; have L1 := Lib.hid hL; have H1 := Lib.hid h1; have HO := Lib.hid ho; have HN := Lib.hid hn
      clear hs hd hB hL h1 ho hn c3 e3 e4 f3 g3 g4
      go_wp2
      go_ret
      refine ⟨rfl, ⟨B1.out.setCell 5 _, L1.out.setCell_other HS.out.1 _ _, H1.out.setCell_other (fun h => HN.out ((Tr.join_has ..).1 h)) _ _⟩, ?_⟩
      exact (((Only.refl _ w).drewN n).trans (HO.out.mono (fun x _ hx => hx.elim (fun hx => .inl (.inr (.inr hx))) .inr))).setCell (.inl (.inl (.inl rfl))) _

set_option maxHeartbeats 400000 in
theorem newR_any (w : World) : Calls Tryz.prog 82 #[] w fun e w' => e = .returned (.pointer (some ⟨w.heap.size, 0, none⟩)) ∧ IsTreap2 184 155 w' w.heap.size .nil 0 ∧ Adds w w' := by
  go_enter Tryz.func82, Tryz.ntmps82
  go_wp2
  go_ret
  exact ⟨rfl, ⟨Blk.new _ _ _, trivial, id⟩, (Only.refl _ _).alloc _⟩

set_option maxHeartbeats 1000000 in
theorem putR_no (tb : Nat) (t : Tr) (m key draw : Int) (x z : Int) (w : World) (h : IsTreap2 184 155 w tb t m) (hf : Tr.find key t ≠ .nil) :
    Calls Tryz.prog 96 #[.pointer (some ⟨tb, 0, none⟩), .int .i64 key, .int .u32 draw, .agg #[.int .i64 x, .int .i64 z]] w fun e w' => e = .returned (.bool false) ∧ Adds w w' := by
  have hbx : ¬ t.has w.heap.size := fun hh => (by have := h.lt _ (.inr hh); omega)
  replace h := h.alloc (.cells #[.int .i64 x, .int .i64 z] 128)
  have hc := findR_any tb t m key (w.alloc (.cells #[.int .i64 x, .int .i64 z] 128)) h
  obtain ⟨b, hb, _⟩ := adr_some hf
  rw [hb] at hc
  clear hb hf h
  go_enter Tryz.func96, Tryz.ntmps96
  go_wp2_with fail
  refine hc.mono ?_; clear hc; rintro e w1 ⟨rfl, rfl⟩
  go_wp2
  go_ret
  exact ⟨rfl, (Only.refl _ _).alloc _⟩

set_option maxHeartbeats 2000000 in
theorem putR_yes (tb : Nat) (t : Tr) (m key draw : Int) (x z : Int) (w : World) (h : IsTreap2 184 155 w tb t m) (hs : t.sep) (hf : Tr.find key t = .nil) :
    Calls Tryz.prog 96 #[.pointer (some ⟨tb, 0, none⟩), .int .i64 key, .int .u32 draw, .agg #[.int .i64 x, .int .i64 z]] w fun e w' => e = .returned (.bool true) ∧
      (∃ nb, w.heap.size ≤ nb ∧ IsTreap2 184 155 w' tb (Tr.put nb key draw (.agg #[.int .i64 x, .int .i64 z]) t) (wrap64 (m + 1))) ∧ Only (TB tb t) w w' := by
  have hbx : ¬ t.has w.heap.size := fun hh => (by have := h.lt _ (.inr hh); omega)
  replace h := h.alloc (.cells #[.int .i64 x, .int .i64 z] 128)
  have hc := findR_any tb t m key (w.alloc (.cells #[.int .i64 x, .int .i64 z] 128)) h
  rw [hf] at hc
  have hsp := splitR_any key t (w.alloc (.cells #[.int .i64 x, .int .i64 z] 128)) h.tr hs
  obtain ⟨p1, p2, _, _⟩ := h.cells
  have HT := Lib.hid h
  have HS := Lib.hid (Tr.split_sep key t hs)
  have HH := Lib.hid (Tr.split_has key t)
  rw [show Tr.nil.adr = none from rfl] at hc
  clear h hs hf
  go_enter Tryz.func96, Tryz.ntmps96
  go_wp2_with fail
  refine hc.mono ?_; clear hc; rintro e w1 ⟨rfl, rfl⟩
  go_wp2_with fail
  refine hsp.mono ?_; clear hsp; rintro e w1 ⟨rfl, h1, h2, ho⟩
  have hbB := (Blk.new w #[.int .i64 x, .int .i64 z] 128).only ho hbx
  have y0 := hbB.cell 0; have y1 := hbB.cell 1
  clear hbB hbx
  have hB := HT.out.head.only ho HT.out.ntb
  have hN := Blk.new w1 #[.int .i64 key, .int .u32 draw, .int .i64 x, .int .i64 z, .pointer none, .pointer none] 184
  have hsz := ho.size
  have hlt := HT.out.lt
  obtain ⟨nb, hnb⟩ : ∃ nb, nb = w1.heap.size := ⟨_, rfl⟩
  have hL : ¬ (Tr.split key t).1.has nb := fun h => by have := h1.lt nb h; omega
  have hR : ¬ (Tr.split key t).2.has nb := fun h => by have := h2.lt nb h; omega
  have hj1 := joinR_any (Tr.split key t).1 (.node nb key draw (.agg #[.int .i64 x, .int .i64 z]) .nil .nil) (w1.alloc (.cells #[.int .i64 key, .int .u32 draw, .int .i64 x, .int .i64 z, .pointer none, .pointer none] 184)) (h1.alloc _)
    ⟨hnb ▸ hN, trivial, trivial⟩ HS.out.1 ⟨id, id, fun _ h => h.elim, trivial, trivial⟩ (fun y hy hy' => by rcases hy' with rfl | hy' | hy'; exact hL hy; exact hy'; exact hy')
  rw [show (Tr.node nb key draw (.agg #[.int .i64 x, .int .i64 z]) .nil .nil).adr = some ⟨w1.heap.size, 0, none⟩ from by rw [hnb]; rfl] at hj1
  have H1 := Lib.hid h1; have H2 := Lib.hid h2; have HO := Lib.hid ho; have HB := Lib.hid hB; have HN := Lib.hid hnb; have HLR := Lib.hid (And.intro hL hR); have HLT := Lib.hid hlt; have HZ := Lib.hid hsz
  clear h1 h2 ho hB hN hsz hlt hnb hL hR
  go_wp2_with fail
  refine hj1.mono ?_; clear hj1; rintro e w2 ⟨rfl, h3, ho2⟩
  have htb : ∀ y : Nat, (Tr.split key t).1.has y ∨ (Tr.node nb key draw (.agg #[.int .i64 x, .int .i64 z]) .nil .nil).has y → y = nb ∨ t.has y := fun y hy => hy.elim (fun hy => .inr ((HH.out y).1 (.inl hy))) (fun hy => hy.elim .inl (fun hy => hy.elim False.elim False.elim))
  have hnb : tb ≠ nb ∧ ¬ t.has nb := ⟨fun h => by have := HLT.out tb (.inl rfl); have := HZ.out; have := HN.out; omega, fun h => by have := HLT.out nb (.inr h); have := HZ.out; have := HN.out; omega⟩
  have hR2 := (H2.out.alloc (.cells #[.int .i64 key, .int .u32 draw, .int .i64 x, .int .i64 z, .pointer none, .pointer none] 184)).only ho2 (fun y hy hy' => hy'.elim (fun h => HS.out.2.2 y h hy) (fun h => h.elim (fun h => HLR.out.2 (h ▸ hy)) (fun h => h.elim id id)))
  have hB2 := (HB.out.alloc (.cells #[.int .i64 key, .int .u32 draw, .int .i64 x, .int .i64 z, .pointer none, .pointer none] 184)).only ho2 (fun h => (htb _ h).elim hnb.1 HT.out.ntb)
  have hj2 := joinR_any (Tr.join (Tr.split key t).1 (.node nb key draw (.agg #[.int .i64 x, .int .i64 z]) .nil .nil)) (Tr.split key t).2 w2 h3 hR2 (Tr.join_sep _ _ HS.out.1 ⟨id, id, fun _ h => h.elim, trivial, trivial⟩ (fun y hy hy' => by rcases hy' with rfl | hy' | hy'; exact HLR.out.1 hy; exact hy'; exact hy')) HS.out.2.1
    (fun y hy hy' => ((Tr.join_has ..).1 hy).elim (fun hy => HS.out.2.2 y hy hy') (fun hy => hy.elim (fun h => HLR.out.2 (h ▸ hy')) (fun h => h.elim id id)))
  have HB2 := Lib.hid hB2; have HO2 := Lib.hid ho2; have HTB := Lib.hid htb; have HNB := Lib.hid hnb
  clear hR2 hB2 h3 ho2 htb hnb
  go_wp2_with fail
  refine hj2.mono ?_; clear hj2; rintro e w3 ⟨rfl, h4, ho3⟩
  have htb3 : ∀ y : Nat, (Tr.join (Tr.split key t).1 (.node nb key draw (.agg #[.int .i64 x, .int .i64 z]) .nil .nil)).has y ∨ (Tr.split key t).2.has y → y = nb ∨ t.has y := fun y hy => hy.elim (fun hy => HTB.out y ((Tr.join_has ..).1 hy)) (fun hy => .inr ((HH.out y).1 (.inr hy)))
  have hB3 := HB2.out.only ho3 (fun h => (htb3 _ h).elim HNB.out.1 HT.out.ntb)
  have q0 := hB3.cell 0; have q1 := hB3.cell 1; have g0 := hB3.frozen 0; have g1 := hB3.frozen 1
  have H4 := Lib.hid h4; have HO3 := Lib.hid ho3; have HB3 := Lib.hid hB3; have HTB3 := Lib.hid htb3
  clear h4 ho3 hB3 htb3 p1 p2
  go_wp2
  go_ret
  have hhas : ∀ y : Nat, (Tr.put nb key draw (.agg #[.int .i64 x, .int .i64 z]) t).has y → y = nb ∨ t.has y := fun y hy => (Tr.put_has ..).1 hy
  have hnt : ¬ (Tr.put nb key draw (.agg #[.int .i64 x, .int .i64 z]) t).has tb := fun h => (hhas _ h).elim HNB.out.1 HT.out.ntb
  refine ⟨rfl, ⟨nb, by have h9 := HZ.out; have := HN.out; (try simp at h9); omega, ⟨(HB3.out.setCell 0 _).setCell 1 _, (H4.out.setCell_other hnt _ _).setCell_other hnt _ _, hnt⟩⟩, ?_⟩
  have o1 : Only (fun y => y = nb ∨ TB tb t y) w w1 := ((Only.refl _ w).alloc (.cells #[.int .i64 x, .int .i64 z] 128)).trans <| HO.out.mono (fun y _ hy => .inr (.inr hy))
  have o2 : Only (fun y => y = nb ∨ TB tb t y) w w2 := (o1.alloc _).andThen HO2.out (fun y _ hy => (HTB.out y hy).elim .inl (fun h => .inr (.inr h)))
  have o3 : Only (fun y => y = nb ∨ TB tb t y) w w3 := o2.andThen HO3.out (fun y _ hy => (HTB3.out y hy).elim .inl (fun h => .inr (.inr h)))
  exact ((o3.setCell (.inl (.inr (.inl rfl))) _).setCell (.inl (.inr (.inl rfl))) _).mono (fun y hy h => h.elim (fun h => by have h9 := HZ.out; have := HN.out; (try simp at h9); omega) id)



/-- The tree t stands in the world wr, with as many keys as are told; all its blocks are new since w; nothing that lay in w has turned. -/
structure Here2 (T H : TypeId) (w wr : World) (tb : Nat) (t : Tr) : Prop where
  treap : IsTreap2 T H wr tb t t.size
  ok : t.ok
  fresh : ∀ x, TB tb t x → w.heap.size ≤ x
  adds : Adds w wr
section
variable {T H : TypeId} {w wr w' : World} {tb : Nat} {t : Tr}
theorem Here2.keep (h : Here2 T H w wr tb t) (ho : Adds wr w') : Here2 T H w w' tb t := ⟨h.treap.adds ho, h.ok, h.fresh, h.adds.thenF ho⟩
theorem Here2.drewN (h : Here2 T H w wr tb t) (n : Nat) : Here2 T H w (wr.drewN n) tb t := h.keep ((Only.refl _ wr).drewN n)
theorem Here2.alloc (h : Here2 T H w wr tb t) (o : Obj) : Here2 T H w (wr.alloc o) tb t := h.keep ((Only.refl _ wr).alloc o)
theorem Here2.new (h : IsTreap2 T H wr w.heap.size .nil 0) (ho : Adds w wr) : Here2 T H w wr w.heap.size .nil :=
  ⟨h, Tr.ok_nil, fun x hx => hx.elim (fun h => by omega) False.elim, ho⟩
/-- A call that turns blocks of the tree alone. -/
theorem Here2.turn (h : Here2 T H w wr tb t) (ho : Only (TB tb t) wr w') : Adds w w' := h.adds.andThen ho (fun i hi hx => by have := h.fresh i hx; omega)
theorem Here2.lt (h : Here2 T H w wr tb t) : ∀ x, TB tb t x → x < wr.heap.size := h.treap.lt
/-- What a Put leaves. -/
theorem Here2.put (h : Here2 T H w wr tb t) {nb : Nat} {key draw : Int} {v : Value} (hf : Tr.find key t = .nil) (hz : t.size < 1000000) (hnb : wr.heap.size ≤ nb) (h2 : IsTreap2 T H w' tb (Tr.put nb key draw v t) (wrap64 ((t.size : Int) + 1))) (ho : Only (TB tb t) wr w') :
    Here2 T H w w' tb (Tr.put nb key draw v t) := by
  have hb : ¬ t.has nb := fun hh => by have := h.treap.lt nb (.inr hh); omega
  refine ⟨?_, Tr.ok_put h.ok nb key draw v hb hf, ?_, h.turn ho⟩
  · rw [Tr.put_size]
    rwa [show wrap64 ((t.size : Int) + 1) = ((t.size + 1 : Nat) : Int) by simp [wrap64]; omega] at h2
  · rintro x (rfl | hx)
    · exact h.fresh _ (.inl rfl)
    · rcases (Tr.put_has ..).1 hx with rfl | hx
      · have := h.adds.size; omega
      · exact h.fresh _ (.inr hx)
end
abbrev HereR (w wr : World) (tb : Nat) (t : Tr) : Prop := Here2 184 155 w wr tb t
theorem putR_new {w wr : World} {tb : Nat} {t : Tr} (h : HereR w wr tb t) (hz : t.size < 1000000) (key draw : Int) (x z : Int) (hf : Tr.find key t = .nil) :
    Calls Tryz.prog 96 #[.pointer (some ⟨tb, 0, none⟩), .int .i64 key, .int .u32 draw, .agg #[.int .i64 x, .int .i64 z]] wr fun e w' => e = .returned (.bool true) ∧ ∃ nb, wr.heap.size ≤ nb ∧ HereR w w' tb (Tr.put nb key draw (.agg #[.int .i64 x, .int .i64 z]) t) :=
  (putR_yes tb t _ key draw x z wr h.treap h.ok.sep hf).mono fun _ _ ⟨he, ⟨nb, hnb, h2⟩, ho⟩ => ⟨he, nb, hnb, h.put hf hz hnb h2 ho⟩
theorem putR_new2 {w wr : World} {tb : Nat} {t : Tr} (h : HereR w wr tb t) (hz : t.size < 1000000) (key draw : Int) (x z : Int) (hf : Tr.find key t = .nil) :
    Calls Tryz.prog 96 #[.pointer (some ⟨tb, 0, none⟩), .int .i64 key, .int .u32 draw, .agg #[.int .i64 x, .int .i64 z]] wr fun e w' => e = .returned (.bool true) ∧ ∃ nb, wr.heap.size ≤ nb ∧ HereR w w' tb (Tr.put nb key draw (.agg #[.int .i64 x, .int .i64 z]) t) ∧ Only (TB tb t) wr w' :=
  (putR_yes tb t _ key draw x z wr h.treap h.ok.sep hf).mono fun _ _ ⟨he, ⟨nb, hnb, h2⟩, ho⟩ => ⟨he, nb, hnb, h.put hf hz hnb h2 ho, ho⟩
theorem putR_any {w wr : World} {tb : Nat} {t : Tr} (h : HereR w wr tb t) (hz : t.size < 1000000) (key draw : Int) (x z : Int) :
    Calls Tryz.prog 96 #[.pointer (some ⟨tb, 0, none⟩), .int .i64 key, .int .u32 draw, .agg #[.int .i64 x, .int .i64 z]] wr fun e w' => ∃ (b : Bool) (t' : Tr), e = .returned (.bool b) ∧ HereR w w' tb t' ∧
      ((b = true ∧ Tr.find key t = .nil ∧ ∃ nb, wr.heap.size ≤ nb ∧ t' = Tr.put nb key draw (.agg #[.int .i64 x, .int .i64 z]) t) ∨ (b = false ∧ Tr.find key t ≠ .nil ∧ t' = t)) := by
  by_cases hf : Tr.find key t = .nil
  · exact (putR_new h hz key draw x z hf).mono fun _ _ ⟨he, nb, hnb, h2⟩ => ⟨true, _, he, h2, .inl ⟨rfl, hf, nb, hnb, rfl⟩⟩
  · exact (putR_no tb t _ key draw x z wr h.treap hf).mono fun _ _ ⟨he, hw⟩ => ⟨false, t, he, h.keep hw, .inr ⟨rfl, hf, rfl⟩⟩

/-- An operation that calls no function of Go and defers nothing. -/
structure PlainOp (P : Program) (o : Oper) : Prop where
  about : ∀ ρ w, o.about P w ρ = none
  run : ∀ ρ w x w', (execOp ρ o).run P w = .ok x w' → (∃ v, x = .value v) ∨ x = .skip
  nodefer : ∀ c, o.op ≠ .defer c
theorem run_value {P : Program} {s : Sem Value} {w w' : World} {x : Next} (h : (do pure (.value (← s)) : Sem Next).run P w = .ok x w') : (∃ v, x = .value v) ∨ x = .skip := by
  rw [Sem.run_bind] at h
  cases hs : s.run P w with
  | ok v w1 => rw [hs] at h; simp only [Result.andThen, Sem.run_pure] at h; cases h; exact .inl ⟨v, rfl⟩
  | halt y w1 => rw [hs] at h; simp [Result.andThen] at h
theorem run_skip {P : Program} {s : Sem Unit} {w w' : World} {x : Next} (h : (do s; pure .skip : Sem Next).run P w = .ok x w') : (∃ v, x = .value v) ∨ x = .skip := by
  rw [Sem.run_bind] at h
  cases hs : s.run P w with
  | ok v w1 => rw [hs] at h; simp only [Result.andThen, Sem.run_pure] at h; cases h; exact .inr rfl
  | halt y w1 => rw [hs] at h; simp [Result.andThen] at h
section
variable {P : Program} {d : Option Tmp} {ty : TypeId} {pos : String} {af : Array Edge} {g : Option (Nat × Bool)}
theorem plain_move (x : Operand) : PlainOp P ⟨d, .move x, ty, pos, af, g⟩ := ⟨fun _ _ => rfl, fun ρ w x w' h => by simp only [execOp, Sem.run_pure] at h; cases h; exact .inl ⟨_, rfl⟩, fun _ h => by cases h⟩
theorem plain_fieldAddr (s : TypeId) (x : Operand) (f : Nat) : PlainOp P ⟨d, .fieldAddr s x f, ty, pos, af, g⟩ := ⟨fun _ _ => rfl, fun _ _ _ _ h => run_value h, fun _ h => by cases h⟩
theorem plain_load (t : TypeId) (x : Operand) : PlainOp P ⟨d, .load t x, ty, pos, af, g⟩ := ⟨fun _ _ => rfl, fun _ _ _ _ h => run_value h, fun _ h => by cases h⟩
theorem plain_build (t : TypeId) (ps : Array (Nat × Operand)) : PlainOp P ⟨d, .build t ps, ty, pos, af, g⟩ := ⟨fun _ _ => rfl, fun _ _ _ _ h => run_value h, fun _ h => by cases h⟩
theorem plain_buildSlice (t : TypeId) (n : Nat) (ps : Array (Nat × Operand)) : PlainOp P ⟨d, .buildSlice t n ps, ty, pos, af, g⟩ := ⟨fun _ _ => rfl, fun _ _ _ _ h => run_value h, fun _ h => by cases h⟩
theorem plain_store (t : TypeId) (x y : Operand) : PlainOp P ⟨d, .store t x y, ty, pos, af, g⟩ := ⟨fun _ _ => rfl, fun _ _ _ _ h => run_skip h, fun _ h => by cases h⟩
theorem plain_append (args : Array Operand) (ts : Array TypeId) : PlainOp P ⟨d, .call { callee := .builtin .append, args := args, argTypes := ts }, ty, pos, af, g⟩ :=
  ⟨fun ρ w => by simp [Oper.about, resolve, Target.leads], fun ρ w x w' h => by
    simp only [execOp, resolve, Sem.run_bind, Sem.run_pure, Result.andThen, invoke, builtin] at h
    split at h
    · cases h; exact .inl ⟨_, rfl⟩
    · (cases h), fun _ h => by cases h⟩
def Tame (P : Program) (s : Sem Next) : Prop := ∀ w x w', s.run P w = .ok x w' → (∃ v, x = .value v) ∨ x = .skip
theorem Tame.bind {α : Type} {s : Sem α} {f : α → Sem Next} (h : ∀ a, Tame P (f a)) : Tame P (s >>= f) := fun w x w' hr => by
  rw [Sem.run_bind] at hr
  cases hs : s.run P w with
  | ok v w1 => rw [hs] at hr; exact h v _ _ _ hr
  | halt y w1 => rw [hs] at hr; simp [Result.andThen] at hr
theorem Tame.val (v : Value) : Tame P (pure (.value v)) := fun w x w' hr => by cases hr; exact .inl ⟨v, rfl⟩
theorem Tame.rtp : Tame P (runtimePanic .nilDeref : Sem Next) := fun w x w' hr => by
  simp [runtimePanic, goPanic, go_sem] at hr
theorem Tame.uns (e : Unsupported) {s : Sem Next} (h : Tame P s) : Tame P (do unsupported e; s) := Tame.bind fun _ => h
theorem plain_nilCheck (x : Operand) : PlainOp P ⟨d, .nilCheck x, ty, pos, af, g⟩ := ⟨fun _ _ => rfl, fun ρ => by
    show Tame P _
    simp only [execOp]
    split
    · exact Tame.rtp
    · exact Tame.rtp
    · exact Tame.rtp
    · split
      · exact Tame.rtp
      · refine Tame.bind fun p => Tame.bind fun b => ?_
        split
        · exact Tame.uns _ (Tame.val _)
        · exact Tame.val _
      · exact Tame.val _
    · exact Tame.val _, fun _ h => by cases h⟩
end

theorem wpOpIn_of_plain {F : Fence} {n : Nat} {P : Program} {ops : Array Oper} {Q Q' : Exit → Act → World → Prop} (hp : ∀ o ∈ ops.toList, PlainOp P o) (hq : ∀ x a w, Q x a w → x = .normal)
    {K K' : Act → World → Prop} (hK : ∀ a w, K a w → K' a w) {i : Nat} {a : Act} {w : World} (h : wpOp P ops Q i K a w) : wpOpIn F n P ops Q' i K' a w := by
  unfold wpOp at h
  unfold wpOpIn
  cases ho : ops[i]? with
  | none => rw [ho] at h; exact hK _ _ h
  | some o =>
    rw [ho] at h
    simp only at h ⊢
    obtain ⟨pa, pr, pd⟩ := hp o (by simpa using Array.mem_of_getElem? ho)
    split
    · rename_i hw
      rw [if_pos hw] at h
      rcases h with h | ⟨_, a', w', h⟩
      · unfold Oper.wp at h
        unfold Oper.wpIn
        refine ⟨fun f hf => (by rw [pa] at hf; cases hf), ?_⟩
        rw [Oper.semAt_eq _ _ _ pd]
        cases hr : (execOp a.eval o).run P w with
        | ok x w1 =>
          rw [hr] at h
          rcases pr _ _ _ _ hr with ⟨v, rfl⟩ | rfl
          · exact hK _ _ h
          · exact hK _ _ h
        | halt y w1 =>
          rw [hr] at h
          cases y <;> simp only [Oper.upon] at h
          cases hq _ _ _ h
      · cases hq _ _ _ h
    · rename_i hw
      rw [if_neg hw] at h
      exact ⟨fun f hf => (by rw [pa] at hf; cases hf), hK _ _ h⟩
theorem wpAnyIn_of_plain {F : Fence} {n : Nat} {P : Program} {md : Region.Mode} {ops : Array Oper} {Q Q' : Exit → Act → World → Prop} (hp : ∀ o ∈ ops.toList, PlainOp P o) (hq : ∀ x a w, Q x a w → x = .normal) (hn : ∀ a w, Q .normal a w → Q' .normal a w) :
    ∀ (fuel : Nat) (listed : Array Bool) (a : Act) (w : World), wpAny P md ops Q fuel listed a w → wpAnyIn F n P md ops Q' fuel listed a w
  | 0, _, _, _, h => ⟨h.1, hn _ _ h.2⟩
  | fuel + 1, listed, _, _, h => ⟨fun e => hn _ _ (h.1 e), fun i hi => wpOpIn_of_plain hp hq (fun a w hk => wpAnyIn_of_plain hp hq hn fuel (listed.setIfInBounds i true) a w hk) (h.2 i hi)⟩
theorem wpAny_seq_from {P : Program} {md : Region.Mode} {Q : Exit → Act → World → Prop} {l l' : List Oper} {fuel : Nat} {listed : Array Bool} {a : Act} {w : World} (k : Nat) (hl : l.drop k = l') (hf : fuel = l'.length)
    (hB : Region.seqB md l.toArray l'.length k listed = true) (h : wpList P l.toArray Q l' a w) : wpAny P md l.toArray Q fuel listed a w := by
  subst hf hl
  exact wpAny_of_seq _ k listed a w (fun j => by simp [List.getElem?_drop]) hB h
theorem news_two (w : World) (x y : Value) (t : TypeId) : ∀ j u, [x, y][j]? = some u → (w.alloc (.cells #[x, y] t)).cell? ((⟨w.heap.size, 0, none⟩ : Addr).add j) = some u := by
  intro j u hj
  match j, hj with
  | 0, hj => simp at hj; subst hj; simp [Addr.add]
  | 1, hj => simp at hj; subst hj; simp [Addr.add]
/-- The one walk, in a round too: n operations ahead of the last ones, which stand in one order. -/
theorem wpIn_region_tail {F : Fence} {fn : Nat} {P : Program} {id : Nat} {Q : Exit → Act → World → Prop} {a : Act} {w : World} {l : List Oper} (n : Nat) (hm : P.follows .mixedOrders = true) (hB : Region.lexTailB .any l.toArray n = true) (hp : ∀ o ∈ l, PlainOp P o)
    (h : wpStill P l.toArray w.drew (fun a' => wpList P l.toArray (fun x a' w' => x = .normal ∧ Q .normal a' w') (l.drop n) a' w.drew) (l.take n) a) : (Code.region id l.toArray true).wpIn F fn P Q a w := by
  simp only [Region.lexTailB, Bool.and_eq_true, decide_eq_true_eq] at hB
  obtain ⟨⟨⟨⟨hsel, hn⟩, hs⟩, hc⟩, hlex⟩ := hB
  have hn' : n < l.length := by simpa using hn
  have htl : (l.take n).length = n := by simp; omega
  have hdl : (l.drop n).length = l.toArray.size - n := by simp
  have inv0 : HeadInv .any l.toArray n (Array.replicate l.toArray.size false) :=
    ⟨by simp, fun j oj _ hl => (by rw [getD_replicate_false] at hl; cases hl), fun t _ ht => getD_in (by simpa using ht) (getD_replicate_false _ _)⟩
  have H := wpAnyL_lex (md := .any) (g := l.toArray.size - n) hsel hs hc hn (l.take n) 0 _ a (fun j hj => by
    have hj' : j < n := by rw [htl] at hj; exact hj
    simp [hj']) (by simpa using htl) inv0 (by rw [htl]; exact hlex) h
  have H2 := wpAny_of_head (Q' := fun x a' w' => x = .normal ∧ Q .normal a' w') (g := l.toArray.size - n) (fun listed a' hL => by
    have := wpAny_of_seq (md := .any) (Q' := fun x a' w' => x = .normal ∧ Q .normal a' w') (l.drop n) n listed a' w.drew (fun j => by simp [List.getElem?_drop]) (by rw [hdl]; exact hL.1) hL.2
    rwa [hdl] at this) _ _ _ H
  rw [htl, show n + (l.toArray.size - n) = l.toArray.size by omega] at H2
  exact wpIn_region_any hm (wpAnyIn_of_plain (by simpa using hp) (fun _ _ _ h => h.1) (fun _ _ h => h.2) _ _ _ _ H2)
end Go.Proofs.YthhnpcniijpfeaaGreat

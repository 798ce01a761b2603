/- Trees of keys, in a heap by their draws: what parting, joining, putting and dropping do; plain Lean. By an AI agent. -/
import Derived.Test.YtffhoaimcjpjhaaGreatMem
namespace Go.Proofs.YtffhoaimcjpjhaaGreat
open Go.RowKit

/-- A node: its block, its key, its draw, its value, what stands below. -/
inductive Tr where
  | nil
  | node (b : Nat) (k d : Int) (v : Value) (l r : Tr)

namespace Tr
def adr : Tr → Option Addr
  | nil => none
  | node b _ _ _ _ _ => some ⟨b, 0, none⟩
def has : Tr → Nat → Prop
  | nil, _ => False
  | node b _ _ _ l r, x => x = b ∨ l.has x ∨ r.has x
def sep : Tr → Prop
  | nil => True
  | node b _ _ _ l r => ¬ l.has b ∧ ¬ r.has b ∧ (∀ x, l.has x → ¬ r.has x) ∧ l.sep ∧ r.sep
/-- Key, draw, value, by rising keys. -/
def ins : Tr → List (Int × Int × Value)
  | nil => []
  | node _ k d v l r => l.ins ++ (k, d, v) :: r.ins
def size : Tr → Nat
  | nil => 0
  | node _ _ _ _ l r => l.size + r.size + 1
def up (k d k' d' : Int) : Bool := decide (d' < d) || (decide (d = d') && decide (k < k'))
def split (key : Int) : Tr → Tr × Tr
  | nil => (nil, nil)
  | node b k d v l r => if k < key then (node b k d v l (split key r).1, (split key r).2) else ((split key l).1, node b k d v (split key l).2 r)
def joinWith (ja : Tr → Tr) (b : Nat) (k d : Int) (v : Value) (l r : Tr) : Tr → Tr
  | nil => node b k d v l r
  | node b' k' d' v' l' r' => if up k d k' d' then node b k d v l (ja (node b' k' d' v' l' r')) else node b' k' d' v' (joinWith ja b k d v l r l') r'
def join : Tr → Tr → Tr
  | nil => fun t => t
  | node b k d v l r => joinWith (join r) b k d v l r
def find (key : Int) : Tr → Tr
  | nil => nil
  | node b k d v l r => if k = key then node b k d v l r else if key < k then find key l else find key r
def put (nb : Nat) (key draw : Int) (v : Value) (t : Tr) : Tr := join (join (split key t).1 (node nb key draw v nil nil)) (split key t).2
def drop (key : Int) : Tr → Tr
  | nil => nil
  | node b k d v l r => if k = key then join l r else if key < k then node b k d v (drop key l) r else node b k d v l (drop key r)
def shape (dep : Nat) : Tr → List (Int × Int)
  | nil => []
  | node _ k _ _ l r => (k, (dep : Int)) :: (shape (dep + 1) l ++ shape (dep + 1) r)

theorem join_nil (t : Tr) : join t nil = t := by cases t <;> rfl
theorem nil_join (t : Tr) : join nil t = t := rfl
theorem join_node (b : Nat) (k d : Int) (v : Value) (l r : Tr) (b' : Nat) (k' d' : Int) (v' : Value) (l' r' : Tr) :
    join (node b k d v l r) (node b' k' d' v' l' r') = if up k d k' d' then node b k d v l (join r (node b' k' d' v' l' r')) else node b' k' d' v' (join (node b k d v l r) l') r' := rfl
/-- Two trees: by what joining asks. -/
theorem join_ind {M : Tr → Tr → Prop} (h1 : ∀ t, M nil t) (h2 : ∀ b k d v l r, M (node b k d v l r) nil)
    (h3 : ∀ b k d v l r b' k' d' v' l' r', M r (node b' k' d' v' l' r') → M (node b k d v l r) l' → M (node b k d v l r) (node b' k' d' v' l' r')) : ∀ s t, M s t := by
  intro s
  induction s with
  | nil => exact h1
  | node b k d v l r _ ihr =>
    intro t
    induction t with
    | nil => exact h2 ..
    | node b' k' d' v' l' r' ihl' _ => exact h3 _ _ _ _ _ _ _ _ _ _ _ _ (ihr _) ihl'

theorem split_ins (key : Int) (t : Tr) : (split key t).1.ins ++ (split key t).2.ins = t.ins := by
  induction t with
  | nil => rfl
  | node b k d v l r ihl ihr =>
    unfold split
    split
    · simp [ins, ihr]
    · simp [ins, ← ihl]
theorem join_ins (s t : Tr) : (join s t).ins = s.ins ++ t.ins := by
  induction s, t using join_ind with
  | h1 t => rfl
  | h2 => simp [join_nil, ins]
  | h3 b k d v l r b' k' d' v' l' r' ih1 ih2 =>
    rw [join_node]
    split
    · simp [ins, ih1]
    · simp [ins, ih2]
theorem split_has (key : Int) (t : Tr) (x : Nat) : ((split key t).1.has x ∨ (split key t).2.has x) ↔ t.has x := by
  induction t with
  | nil => simp [split, has]
  | node b k d v l r ihl ihr =>
    unfold split
    split
    · simp only [has, ← ihr]; constructor <;> (rintro h; simp only [or_assoc] at h ⊢; exact h)
    · simp only [has, ← ihl]
      constructor
      · rintro (h | h | h | h) <;> simp [h]
      · rintro (h | (h | h) | h) <;> simp [h]
theorem split_sep (key : Int) (t : Tr) (h : t.sep) : (split key t).1.sep ∧ (split key t).2.sep ∧ ∀ x, (split key t).1.has x → ¬ (split key t).2.has x := by
  induction t with
  | nil => simp [split, sep, has]
  | node b k d v l r ihl ihr =>
    obtain ⟨h1, h2, h3, h4, h5⟩ := h
    obtain ⟨a1, a2, a3⟩ := ihl h4
    obtain ⟨b1, b2, b3⟩ := ihr h5
    have sl := split_has key l
    have sr := split_has key r
    unfold split
    split
    · refine ⟨⟨h1, fun hb => h2 ((sr b).1 (.inl hb)), fun x hx hx' => h3 x hx ((sr x).1 (.inl hx')), h4, b1⟩, b2, ?_⟩
      rintro x (rfl | hx | hx) hx'
      · exact h2 ((sr x).1 (.inr hx'))
      · exact h3 x hx ((sr x).1 (.inr hx'))
      · exact b3 x hx hx'
    · refine ⟨a1, ⟨fun hb => h1 ((sl b).1 (.inr hb)), h2, fun x hx => h3 x ((sl x).1 (.inr hx)), a2, h5⟩, ?_⟩
      rintro x hx (rfl | hx' | hx')
      · exact h1 ((sl x).1 (.inl hx))
      · exact a3 x hx hx'
      · exact h3 x ((sl x).1 (.inl hx)) hx'
theorem join_has (s t : Tr) (x : Nat) : (join s t).has x ↔ s.has x ∨ t.has x := by
  induction s, t using join_ind with
  | h1 t => simp [nil_join, has]
  | h2 => simp [join_nil, has]
  | h3 b k d v l r b' k' d' v' l' r' ih1 ih2 =>
    rw [join_node]
    split
    · simp only [has] at ih1 ⊢; rw [ih1]; simp only [or_assoc]
    · simp only [has] at ih2 ⊢; rw [ih2]
      constructor
      · rintro (h | ((h | h | h) | h) | h) <;> simp [h]
      · rintro ((h | h | h) | h | h | h) <;> simp [h]
theorem join_sep (s t : Tr) (hs : s.sep) (ht : t.sep) (hd : ∀ x, s.has x → ¬ t.has x) : (join s t).sep := by
  induction s, t using join_ind with
  | h1 t => exact ht
  | h2 => rw [join_nil]; exact hs
  | h3 b k d v l r b' k' d' v' l' r' ih1 ih2 =>
    rw [join_node]
    have hs' := hs; have ht' := ht
    obtain ⟨h1, h2, h3, h4, h5⟩ := hs
    obtain ⟨g1, g2, g3, g4, g5⟩ := ht
    split
    · refine ⟨h1, fun h => ?_, fun x hx h => ?_, h4, ih1 h5 ht' (fun x hx => hd x (.inr (.inr hx)))⟩
      · rcases (join_has ..).1 h with h | h
        · exact h2 h
        · exact hd b (.inl rfl) h
      · rcases (join_has ..).1 h with h | h
        · exact h3 x hx h
        · exact hd x (.inr (.inl hx)) h
    · refine ⟨fun h => ?_, g2, fun x h hx => ?_, ih2 hs' g4 (fun x hx hx' => hd x hx (.inr (.inl hx'))), g5⟩
      · rcases (join_has ..).1 h with h | h
        · exact hd b' h (.inl rfl)
        · exact g1 h
      · rcases (join_has ..).1 h with h | h
        · exact hd x h (.inr (.inr hx))
        · exact g3 x h hx

/-- Keys rise. -/
def bst (t : Tr) : Prop := (t.ins.map (·.1)).Pairwise (· < ·)
theorem bst_node {b : Nat} {k d : Int} {v : Value} {l r : Tr} : (node b k d v l r).bst ↔ l.bst ∧ r.bst ∧ (∀ e ∈ l.ins, e.1 < k) ∧ (∀ e ∈ r.ins, k < e.1) := by
  unfold bst
  simp only [ins, List.map_append, List.map_cons, List.pairwise_append, List.pairwise_cons, List.mem_map, List.mem_cons]
  constructor
  · rintro ⟨h1, ⟨h2, h3⟩, h4⟩
    exact ⟨h1, h3, fun e he => h4 _ ⟨e, he, rfl⟩ _ (.inl rfl), fun e he => h2 _ ⟨e, he, rfl⟩⟩
  · rintro ⟨h1, h2, h3, h4⟩
    refine ⟨h1, ⟨?_, h2⟩, ?_⟩
    · rintro _ ⟨e, he, rfl⟩; exact h4 e he
    · rintro _ ⟨e, he, rfl⟩ x (rfl | ⟨e', he', rfl⟩)
      · exact h3 e he
      · exact Int.lt_trans (h3 e he) (h4 e' he')
theorem split_lt (key : Int) (t : Tr) (h : t.bst) : (∀ e ∈ (split key t).1.ins, e.1 < key) ∧ (∀ e ∈ (split key t).2.ins, key ≤ e.1) := by
  induction t with
  | nil => simp [split, ins]
  | node b k d v l r ihl ihr =>
    obtain ⟨h1, h2, h3, h4⟩ := bst_node.1 h
    unfold split
    split
    · rename_i hk
      refine ⟨?_, (ihr h2).2⟩
      simp only [ins, List.mem_append, List.mem_cons]
      rintro e (he | rfl | he)
      · exact Int.lt_trans (h3 e he) hk
      · exact hk
      · exact (ihr h2).1 e he
    · rename_i hk
      refine ⟨(ihl h1).1, ?_⟩
      simp only [ins, List.mem_append, List.mem_cons]
      rintro e (he | rfl | he)
      · exact (ihl h1).2 e he
      · exact Int.not_lt.1 hk
      · have := h4 e he; omega

/-- Who stands above whom. -/
def heap : Tr → Prop
  | nil => True
  | node _ k d _ l r => (∀ e ∈ l.ins, up k d e.1 e.2.1 = true) ∧ (∀ e ∈ r.ins, up k d e.1 e.2.1 = true) ∧ l.heap ∧ r.heap
theorem up_iff {k d k' d' : Int} : up k d k' d' = true ↔ d' < d ∨ d = d' ∧ k < k' := by simp [up]
theorem up_trans {a b c a' b' c' : Int} (h : up a a' b b' = true) (g : up b b' c c' = true) : up a a' c c' = true := by
  rw [up_iff] at *; omega
theorem up_asym {a b a' b' : Int} (h : up a a' b b' = true) : up b b' a a' = false := by
  cases g : up b b' a a'
  · rfl
  · rw [up_iff] at *; omega
theorem up_total {a b a' b' : Int} (h : a < b) (g : up a a' b b' = false) : up b b' a a' = true := by
  have g' : ¬ up a a' b b' = true := by simp [g]
  rw [up_iff] at *; omega
theorem split_mem (key : Int) (t : Tr) (e : Int × Int × Value) : (e ∈ (split key t).1.ins ∨ e ∈ (split key t).2.ins) ↔ e ∈ t.ins := by
  rw [← split_ins key t, List.mem_append]
theorem split_heap (key : Int) (t : Tr) (h : t.heap) : (split key t).1.heap ∧ (split key t).2.heap := by
  induction t with
  | nil => simp [split, heap]
  | node b k d v l r ihl ihr =>
    obtain ⟨h1, h2, h3, h4⟩ := h
    unfold split
    split
    · exact ⟨⟨h1, fun e he => h2 e ((split_mem key r e).1 (.inl he)), h3, (ihr h4).1⟩, (ihr h4).2⟩
    · exact ⟨(ihl h3).1, fun e he => h1 e ((split_mem key l e).1 (.inr he)), h2, (ihl h3).2, h4⟩
theorem join_heap (s t : Tr) (hs : s.heap) (ht : t.heap) (hlt : ∀ e ∈ s.ins, ∀ e' ∈ t.ins, e.1 < e'.1) : (join s t).heap := by
  induction s, t using join_ind with
  | h1 t => exact ht
  | h2 => rw [join_nil]; exact hs
  | h3 b k d v l r b' k' d' v' l' r' ih1 ih2 =>
    rw [join_node]
    have hs' := hs; have ht' := ht
    obtain ⟨h1, h2, h3, h4⟩ := hs
    obtain ⟨g1, g2, g3, g4⟩ := ht
    have hkk : k < k' := hlt (k, d, v) (by simp [ins]) (k', d', v') (by simp [ins])
    split
    · rename_i hu
      refine ⟨h1, ?_, h3, ih1 h4 ht' (fun e he e' he' => hlt e (by simp [ins, he]) e' he')⟩
      rw [join_ins]
      intro e he
      rcases List.mem_append.1 he with he | he
      · exact h2 e he
      · simp only [ins, List.mem_append, List.mem_cons] at he
        rcases he with he | rfl | he
        · exact up_trans hu (g1 e he)
        · exact hu
        · exact up_trans hu (g2 e he)
    · rename_i hu
      have hu' := up_total hkk (by simpa using hu)
      refine ⟨?_, g2, ih2 hs' g3 (fun e he e' he' => hlt e he e' (by simp [ins, he'])), g4⟩
      rw [join_ins]
      intro e he
      rcases List.mem_append.1 he with he | he
      · simp only [ins, List.mem_append, List.mem_cons] at he
        rcases he with he | rfl | he
        · exact up_trans hu' (h1 e he)
        · exact hu'
        · exact up_trans hu' (h2 e he)
      · exact g1 e he

theorem size_ins (t : Tr) : t.ins.length = t.size := by
  induction t with
  | nil => rfl
  | node b k d v l r ihl ihr => simp [ins, size, ihl, ihr]; omega
theorem find_hit {b : Nat} {k d : Int} {v : Value} {l r : Tr} : find k (node b k d v l r) = node b k d v l r := by unfold find; rw [if_pos rfl]
theorem find_left {key : Int} {b : Nat} {k d : Int} {v : Value} {l r : Tr} (h : ¬ k = key) (h2 : key < k) : find key (node b k d v l r) = find key l := by rw [find, if_neg h, if_pos h2]
theorem find_right {key : Int} {b : Nat} {k d : Int} {v : Value} {l r : Tr} (h : ¬ k = key) (h2 : ¬ key < k) : find key (node b k d v l r) = find key r := by rw [find, if_neg h, if_neg h2]
/-- A key that is not found stands nowhere. -/
theorem find_nil {key : Int} {t : Tr} (h : t.bst) (hf : find key t = nil) : ∀ e ∈ t.ins, e.1 ≠ key := by
  induction t with
  | nil => simp [ins]
  | node b k d v l r ihl ihr =>
    obtain ⟨h1, h2, h3, h4⟩ := bst_node.1 h
    unfold find at hf
    split at hf
    · cases hf
    · rename_i hk
      simp only [ins, List.mem_append, List.mem_cons]
      split at hf
      · rename_i hlt
        rintro e (he | rfl | he)
        · exact ihl h1 hf e he
        · exact hk
        · have := h4 e he; omega
      · rename_i hlt
        rintro e (he | rfl | he)
        · have := h3 e he; omega
        · exact hk
        · exact ihr h2 hf e he
theorem find_node {key : Int} {t : Tr} {b : Nat} {k d : Int} {v : Value} {l r : Tr} (hf : find key t = node b k d v l r) : k = key ∧ (k, d, v) ∈ t.ins ∧ (∀ x, (node b k d v l r).has x → t.has x) := by
  induction t with
  | nil => cases hf
  | node b' k' d' v' l' r' ihl ihr =>
    unfold find at hf
    split at hf
    · cases hf; rename_i hk; exact ⟨hk, by simp [ins], fun x hx => hx⟩
    · split at hf
      · obtain ⟨a1, a2, a3⟩ := ihl hf; exact ⟨a1, by simp [ins, a2], fun x hx => .inr (.inl (a3 x hx))⟩
      · obtain ⟨a1, a2, a3⟩ := ihr hf; exact ⟨a1, by simp [ins, a2], fun x hx => .inr (.inr (a3 x hx))⟩
/-- A key that stands there is found, with its draw and its value. -/
theorem find_mem {t : Tr} (h : t.bst) {e : Int × Int × Value} (he : e ∈ t.ins) : ∃ b l r, find e.1 t = node b e.1 e.2.1 e.2.2 l r := by
  induction t with
  | nil => simp [ins] at he
  | node b k d v l r ihl ihr =>
    obtain ⟨h1, h2, h3, h4⟩ := bst_node.1 h
    simp only [ins, List.mem_append, List.mem_cons] at he
    unfold find
    rcases he with he | rfl | he
    · have := h3 e he
      rw [if_neg (by omega), if_pos this]; exact ihl h1 he
    · exact ⟨b, l, r, by simp⟩
    · have := h4 e he
      rw [if_neg (by omega), if_neg (by omega)]; exact ihr h2 he

/-- All that holds of a tree of the program's: its blocks are apart, its keys rise, draws stand in a heap. -/
structure ok (t : Tr) : Prop where
  sep : t.sep
  bst : t.bst
  heap : t.heap
theorem ok_nil : nil.ok := ⟨trivial, List.Pairwise.nil, trivial⟩
theorem put_ins (nb : Nat) (key draw : Int) (v : Value) (t : Tr) : (put nb key draw v t).ins = (split key t).1.ins ++ (key, draw, v) :: (split key t).2.ins := by
  simp [put, join_ins, ins]
theorem put_has (nb : Nat) (key draw : Int) (v : Value) (t : Tr) (x : Nat) : (put nb key draw v t).has x ↔ x = nb ∨ t.has x := by
  rw [← split_has key t]
  simp only [put, join_has, has]
  constructor
  · rintro ((h | h | h | h) | h) <;> simp_all
  · rintro (h | h | h) <;> simp [h]
theorem put_mem (nb : Nat) (key draw : Int) (v : Value) (t : Tr) (e : Int × Int × Value) : e ∈ (put nb key draw v t).ins ↔ e = (key, draw, v) ∨ e ∈ t.ins := by
  rw [put_ins, ← split_mem key t]
  simp only [List.mem_append, List.mem_cons]
  constructor
  · rintro (h | h | h) <;> simp [h]
  · rintro (h | h | h) <;> simp [h]
theorem put_size (nb : Nat) (key draw : Int) (v : Value) (t : Tr) : (put nb key draw v t).size = t.size + 1 := by
  rw [← size_ins, put_ins, ← size_ins, ← split_ins key t]; simp; omega
theorem ok_put {t : Tr} (h : t.ok) (nb : Nat) (key draw : Int) (v : Value) (hb : ¬ t.has nb) (hf : find key t = nil) : (put nb key draw v t).ok := by
  obtain ⟨s1, s2, s3⟩ := split_sep key t h.sep
  obtain ⟨l1, l2⟩ := split_lt key t h.bst
  obtain ⟨e1, e2⟩ := split_heap key t h.heap
  have hne := find_nil h.bst hf
  have l3 : ∀ e ∈ (split key t).2.ins, key < e.1 := fun e he => by
    have := l2 e he; have := hne e ((split_mem key t e).1 (.inr he)); omega
  have hb1 : ¬ (split key t).1.has nb := fun h => hb ((split_has key t nb).1 (.inl h))
  have hb2 : ¬ (split key t).2.has nb := fun h => hb ((split_has key t nb).1 (.inr h))
  have j1 : (join (split key t).1 (node nb key draw v nil nil)).heap := join_heap _ _ e1 (by simp [heap, ins]) (by
    intro e he e' he'
    simp only [ins, List.nil_append, List.mem_singleton] at he'
    subst he'; exact l1 e he)
  refine ⟨?_, ?_, ?_⟩
  · refine join_sep _ _ (join_sep _ _ s1 (by simp [sep, has]) ?_) s2 ?_
    · intro x hx hx'
      simp only [has, or_false] at hx'
      subst hx'; exact hb1 hx
    · intro x hx hx'
      rcases (join_has ..).1 hx with hx | hx
      · exact s3 x hx hx'
      · simp only [has, or_false] at hx; subst hx; exact hb2 hx'
  · unfold bst
    rw [put_ins]
    have hb0 := h.bst
    unfold bst at hb0
    rw [← split_ins key t] at hb0
    simp only [List.map_append, List.map_cons, List.pairwise_append, List.pairwise_cons, List.mem_map, List.mem_cons] at hb0 ⊢
    obtain ⟨p1, p2, p3⟩ := hb0
    refine ⟨p1, ⟨?_, p2⟩, ?_⟩
    · rintro _ ⟨e, he, rfl⟩; exact l3 e he
    · rintro _ ⟨e, he, rfl⟩ x (rfl | ⟨e', he', rfl⟩)
      · exact l1 e he
      · exact p3 _ ⟨e, he, rfl⟩ _ ⟨e', he', rfl⟩
  · refine join_heap _ _ j1 e2 ?_
    rw [join_ins]
    intro e he e' he'
    rcases List.mem_append.1 he with he | he
    · exact Int.lt_trans (l1 e he) (l3 e' he')
    · simp only [ins, List.nil_append, List.mem_singleton] at he
      subst he; exact l3 e' he'
theorem shape_len (dep : Nat) (t : Tr) : (shape dep t).length = t.size := by
  induction t generalizing dep with
  | nil => rfl
  | node b k d v l r ihl ihr => simp [shape, size, ihl, ihr]
theorem shape_mem {dep : Nat} {t : Tr} {x : Int × Int} (h : x ∈ shape dep t) : ∃ d v, (x.1, d, v) ∈ t.ins := by
  induction t generalizing dep with
  | nil => simp [shape] at h
  | node b k d v l r ihl ihr =>
    simp only [shape, List.mem_cons, List.mem_append] at h
    rcases h with rfl | h | h
    · exact ⟨d, v, by simp [ins]⟩
    · obtain ⟨d', v', h⟩ := ihl h; exact ⟨d', v', by simp [ins, h]⟩
    · obtain ⟨d', v', h⟩ := ihr h; exact ⟨d', v', by simp [ins, h]⟩
end Tr
end Go.Proofs.YtffhoaimcjpjhaaGreat

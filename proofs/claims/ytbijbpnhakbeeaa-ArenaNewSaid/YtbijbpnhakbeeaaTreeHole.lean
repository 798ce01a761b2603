/- A tree with a hole: the way down to a node; what a drop does; plain Lean and memory. By an AI agent. -/
import Derived.Test.YtbijbpnhakbeeaaTreeHere
namespace Go.Proofs.Ytbijbpnhakbeeaa
open Go.RowKit

namespace Tr
theorem find_has {key : Int} {t : Tr} {x : Nat} (h : (find key t).has x) : t.has x := by
  induction t with
  | nil => exact h
  | node b k d v l r ihl ihr =>
    unfold find at h
    split at h
    · exact h
    · split at h
      · exact .inr (.inl (ihl h))
      · exact .inr (.inr (ihr h))
theorem drop_miss {key : Int} {t : Tr} (h : find key t = nil) : drop key t = t := by
  induction t with
  | nil => rfl
  | node b k d v l r ihl ihr =>
    unfold find at h
    unfold drop
    split at h
    · cases h
    · rename_i hk
      rw [if_neg hk]
      split at h
      · rename_i hl; rw [if_pos hl, ihl h]
      · rename_i hl; rw [if_neg hl, ihr h]
theorem drop_has {key : Int} {t : Tr} {x : Nat} (h : (drop key t).has x) : t.has x := by
  induction t with
  | nil => exact h
  | node b k d v l r ihl ihr =>
    unfold drop at h
    split at h
    · exact .inr ((join_has ..).1 h)
    · split at h
      · rcases h with h | h | h
        · exact .inl h
        · exact .inr (.inl (ihl h))
        · exact .inr (.inr h)
      · rcases h with h | h | h
        · exact .inl h
        · exact .inr (.inl h)
        · exact .inr (.inr (ihr h))
theorem filter_ne_of {key : Int} {l : List (Int × Int × Value)} (h : ∀ e ∈ l, e.1 ≠ key) : l.filter (fun e => e.1 != key) = l :=
  List.filter_eq_self.2 fun e he => by simpa using h e he
/-- What is left is what has another key. -/
theorem drop_ins {key : Int} {t : Tr} (h : t.bst) : (drop key t).ins = t.ins.filter (fun e => e.1 != key) := by
  induction t with
  | nil => rfl
  | node b k d v l r ihl ihr =>
    obtain ⟨h1, h2, h3, h4⟩ := bst_node.1 h
    unfold drop
    simp only [ins, List.filter_append, List.filter_cons]
    split
    · rename_i hk
      subst hk
      rw [join_ins, filter_ne_of (fun e he => by have := h3 e he; omega), filter_ne_of (fun e he => by have := h4 e he; omega)]
      simp
    · rename_i hk
      split
      · rename_i hl
        simp only [ins, ihl h1, filter_ne_of (fun e he => by have := h4 e he; omega : ∀ e ∈ r.ins, e.1 ≠ key)]
        simp [hk]
      · rename_i hl
        simp only [ins, ihr h2, filter_ne_of (fun e he => by have := h3 e he; omega : ∀ e ∈ l.ins, e.1 ≠ key)]
        simp [hk]
theorem drop_ok {key : Int} {t : Tr} (h : t.ok) : (drop key t).ok := by
  refine ⟨?_, ?_, ?_⟩
  · have hs := h.sep
    clear h
    induction t with
    | nil => exact trivial
    | node b k d v l r ihl ihr =>
      obtain ⟨h1, h2, h3, h4, h5⟩ := hs
      unfold drop
      split
      · exact join_sep _ _ h4 h5 h3
      · split
        · exact ⟨fun hb => h1 (drop_has hb), h2, fun x hx => h3 x (drop_has hx), ihl h4, h5⟩
        · exact ⟨h1, fun hb => h2 (drop_has hb), fun x hx hx' => h3 x hx (drop_has hx'), h4, ihr h5⟩
  · have hb := h.bst
    unfold bst at hb ⊢
    rw [drop_ins h.bst]
    exact hb.sublist (List.Sublist.map _ List.filter_sublist)
  · have hh := h.heap; have hb := h.bst
    clear h
    induction t with
    | nil => exact trivial
    | node b k d v l r ihl ihr =>
      obtain ⟨g1, g2, g3, g4⟩ := hh
      obtain ⟨h1, h2, h3, h4⟩ := bst_node.1 hb
      unfold drop
      split
      · exact join_heap _ _ g3 g4 (fun e he e' he' => Int.lt_trans (h3 e he) (h4 e' he'))
      · split
        · exact ⟨fun e he => g1 e (by rw [drop_ins h1] at he; exact (List.mem_filter.1 he).1), g2, ihl g3 h1, g4⟩
        · exact ⟨g1, fun e he => g2 e (by rw [drop_ins h2] at he; exact (List.mem_filter.1 he).1), g3, ihr g4 h2⟩
theorem find_none_iff {key : Int} {t : Tr} (h : t.bst) : find key t = nil ↔ ∀ e ∈ t.ins, e.1 ≠ key := by
  constructor
  · exact find_nil h
  · intro hn
    cases hf : find key t with
    | nil => rfl
    | node b k d v l r =>
      obtain ⟨h1, h2, _⟩ := find_node hf
      exact absurd h1 (hn _ h2)
theorem drop_find {key : Int} {t : Tr} (h : t.ok) : find key (drop key t) = nil := by
  rw [find_none_iff (drop_ok h).bst]
  intro e he
  rw [drop_ins h.bst] at he
  simpa using (List.mem_filter.1 he).2
theorem drop_size {key : Int} {t : Tr} (hf : find key t ≠ nil) : (drop key t).size + 1 = t.size := by
  induction t with
  | nil => exact absurd rfl hf
  | node b k d v l r ihl ihr =>
    unfold find at hf
    unfold drop
    split at hf
    · rename_i hk
      rw [if_pos hk, ← size_ins, join_ins, List.length_append, size_ins, size_ins]
      simp [size]
    · rename_i hk
      rw [if_neg hk]
      split at hf
      · rename_i hl; rw [if_pos hl]; have := ihl hf; simp only [size]; omega
      · rename_i hl; rw [if_neg hl]; have := ihr hf; simp only [size]; omega

/-- Two trees of the same items are one tree, but for their blocks. -/
theorem uniq (s : Tr) : ∀ (t : Tr), s.bst → s.heap → t.bst → t.heap → s.ins = t.ins → ∀ dep, shape dep s = shape dep t := by
  induction s with
  | nil =>
    intro t _ _ _ _ he dep
    cases t with
    | nil => rfl
    | node b k d v l r => simp [ins] at he
  | node b k d v l r ihl ihr =>
    intro t hb hh hb' hh' he dep
    cases t with
    | nil => simp [ins] at he
    | node b' k' d' v' l' r' =>
      obtain ⟨h1, h2, h3, h4⟩ := bst_node.1 hb
      obtain ⟨h1', h2', h3', h4'⟩ := bst_node.1 hb'
      obtain ⟨g1, g2, g3, g4⟩ := hh
      obtain ⟨g1', g2', g3', g4'⟩ := hh'
      have hkk : k = k' := by
        have m1 : (k, d, v) ∈ (node b' k' d' v' l' r').ins := by rw [← he]; simp [ins]
        have m2 : (k', d', v') ∈ (node b k d v l r).ins := by rw [he]; simp [ins]
        simp only [ins, List.mem_append, List.mem_cons, Prod.mk.injEq] at m1 m2
        have u1 : (k = k') ∨ up k' d' k d = true := by
          rcases m1 with m | ⟨m, _⟩ | m
          · exact .inr (g1' _ m)
          · exact .inl m
          · exact .inr (g2' _ m)
        have u2 : (k = k') ∨ up k d k' d' = true := by
          rcases m2 with m | ⟨m, _⟩ | m
          · exact .inr (g1 _ m)
          · exact .inl m.symm
          · exact .inr (g2 _ m)
        rcases u1 with u1 | u1
        · exact u1
        · rcases u2 with u2 | u2
          · exact u2
          · have := up_asym u1; rw [u2] at this; cases this
      subst hkk
      have fl : ∀ {L R : List (Int × Int × Value)} {x : Int × Int × Value}, x.1 = k → (∀ e ∈ L, e.1 < k) → (∀ e ∈ R, k < e.1) → (L ++ x :: R).filter (fun e => decide (e.1 < k)) = L ∧ (L ++ x :: R).filter (fun e => decide (k < e.1)) = R := by
        intro L R x hx hL hR
        rw [List.filter_append, List.filter_append, List.filter_cons, List.filter_cons]
        constructor
        · rw [List.filter_eq_self.2 (fun e he => by simpa using hL e he), List.filter_eq_nil_iff.2 (fun e he => by have := hR e he; simp; omega)]
          simp [hx]
        · rw [List.filter_eq_nil_iff.2 (fun e he => by have := hL e he; simp; omega : ∀ e ∈ L, _), List.filter_eq_self.2 (fun e he => by simpa using hR e he : ∀ e ∈ R, _)]
          simp [hx]
      obtain ⟨a1, a2⟩ := fl (x := (k, d, v)) rfl h3 h4
      obtain ⟨b1, b2⟩ := fl (x := (k, d', v')) rfl h3' h4'
      have he' := he
      simp only [ins] at he'
      rw [he', b1] at a1
      rw [he', b2] at a2
      simp only [shape]
      rw [ihl l' h1 g3 h1' g3' a1.symm (dep + 1), ihr r' h2 g4 h2' g4' a2.symm (dep + 1)]
end Tr

/-- A way down: what stands above a hole. -/
inductive Cx where
  | top
  | left (c : Cx) (b : Nat) (k d : Int) (v : Value) (r : Tr)
  | right (c : Cx) (b : Nat) (k d : Int) (v : Value) (l : Tr)
namespace Cx
def hole (tb : Nat) : Cx → Addr
  | top => ⟨tb, 0, none⟩
  | left _ b _ _ _ _ => ⟨b, 3, none⟩
  | right _ b _ _ _ _ => ⟨b, 4, none⟩
def plug : Cx → Tr → Tr
  | top, s => s
  | left c b k d v r, s => plug c (.node b k d v s r)
  | right c b k d v l, s => plug c (.node b k d v l s)
def has : Cx → Nat → Prop
  | top, _ => False
  | left c b _ _ _ r, x => x = b ∨ r.has x ∨ c.has x
  | right c b _ _ _ l, x => x = b ∨ l.has x ∨ c.has x
def sep : Cx → Prop
  | top => True
  | left c b _ _ _ r => ¬ r.has b ∧ ¬ c.has b ∧ (∀ x, r.has x → ¬ c.has x) ∧ r.sep ∧ c.sep
  | right c b _ _ _ l => ¬ l.has b ∧ ¬ c.has b ∧ (∀ x, l.has x → ¬ c.has x) ∧ l.sep ∧ c.sep
theorem plug_has (c : Cx) : ∀ (s : Tr) (x : Nat), (plug c s).has x ↔ s.has x ∨ c.has x := by
  induction c with
  | top => intro s x; simp [plug, has]
  | left c b k d v r ih =>
    intro s x
    simp only [plug, ih, Tr.has, has]
    constructor
    · rintro ((h | h | h) | h) <;> simp [h]
    · rintro (h | h | h | h) <;> simp [h]
  | right c b k d v l ih =>
    intro s x
    simp only [plug, ih, Tr.has, has]
    constructor
    · rintro ((h | h | h) | h) <;> simp [h]
    · rintro (h | h | h | h) <;> simp [h]
theorem plug_sep (c : Cx) : ∀ (s : Tr), (plug c s).sep → s.sep ∧ c.sep ∧ ∀ x, s.has x → ¬ c.has x := by
  induction c with
  | top => intro s h; exact ⟨h, trivial, fun _ _ h => h⟩
  | left c b k d v r ih =>
    intro s h
    obtain ⟨⟨h1, h2, h3, h4, h5⟩, hc, hd⟩ := ih _ h
    refine ⟨h4, ⟨h2, hd b (.inl rfl), fun x hx => hd x (.inr (.inr hx)), h5, hc⟩, fun x hx => ?_⟩
    rintro (rfl | h | h)
    · exact h1 hx
    · exact h3 x hx h
    · exact hd x (.inr (.inl hx)) h
  | right c b k d v l ih =>
    intro s h
    obtain ⟨⟨h1, h2, h3, h4, h5⟩, hc, hd⟩ := ih _ h
    refine ⟨h5, ⟨h1, hd b (.inl rfl), fun x hx => hd x (.inr (.inl hx)), h4, hc⟩, fun x hx => ?_⟩
    rintro (rfl | h | h)
    · exact h2 hx
    · exact h3 x h hx
    · exact hd x (.inr (.inr hx)) h
end Cx
/-- What stands above the hole, in memory; the hole holds the address p. -/
def IsCx (T H : TypeId) (w : World) (tb : Nat) (m : Int) : Cx → Option Addr → Prop
  | .top, p => Blk w tb #[.pointer p, .int .i64 m] H
  | .left c b k d v r, p => Blk w b #[.int .i64 k, .int .u32 d, v, .pointer p, .pointer r.adr] T ∧ IsTr T w r ∧ IsCx T H w tb m c (some ⟨b, 0, none⟩)
  | .right c b k d v l, p => Blk w b #[.int .i64 k, .int .u32 d, v, .pointer l.adr, .pointer p] T ∧ IsTr T w l ∧ IsCx T H w tb m c (some ⟨b, 0, none⟩)
section
variable {T H : TypeId} {S : Nat → Prop} {w w' : World} {tb : Nat} {m : Int}
theorem isCx_iff (c : Cx) : ∀ (s : Tr), (Blk w tb #[.pointer (c.plug s).adr, .int .i64 m] H ∧ IsTr T w (c.plug s)) ↔ (IsCx T H w tb m c s.adr ∧ IsTr T w s) := by
  induction c with
  | top => intro s; exact Iff.rfl
  | left c b k d v r ih =>
    intro s
    rw [Cx.plug, ih]
    constructor
    · rintro ⟨h1, h2, h3, h4⟩; exact ⟨⟨h2, h4, h1⟩, h3⟩
    · rintro ⟨⟨h2, h4, h1⟩, h3⟩; exact ⟨h1, h2, h3, h4⟩
  | right c b k d v l ih =>
    intro s
    rw [Cx.plug, ih]
    constructor
    · rintro ⟨h1, h2, h3, h4⟩; exact ⟨⟨h2, h3, h1⟩, h4⟩
    · rintro ⟨⟨h2, h3, h1⟩, h4⟩; exact ⟨h1, h2, h3, h4⟩
theorem IsCx.only (ho : Only S w w') : ∀ {c : Cx} {p : Option Addr}, IsCx T H w tb m c p → (¬ S tb) → (∀ x, c.has x → ¬ S x) → IsCx T H w' tb m c p
  | .top, _, h, h1, _ => Blk.only h ho h1
  | .left _ _ _ _ _ _, _, ⟨h1, h2, h3⟩, h4, h5 => ⟨h1.only ho (h5 _ (.inl rfl)), h2.only ho (fun x hx => h5 x (.inr (.inl hx))), IsCx.only ho h3 h4 (fun x hx => h5 x (.inr (.inr hx)))⟩
  | .right _ _ _ _ _ _, _, ⟨h1, h2, h3⟩, h4, h5 => ⟨h1.only ho (h5 _ (.inl rfl)), h2.only ho (fun x hx => h5 x (.inr (.inl hx))), IsCx.only ho h3 h4 (fun x hx => h5 x (.inr (.inr hx)))⟩
theorem IsCx.cell {c : Cx} {p : Option Addr} (h : IsCx T H w tb m c p) : w.cell? (c.hole tb) = some (.pointer p) ∧ w.frozen? (c.hole tb) = false := by
  cases c with
  | top => exact ⟨Blk.cell h 0, Blk.frozen h 0⟩
  | left c b k d v r => exact ⟨h.1.cell 3, h.1.frozen 3⟩
  | right c b k d v l => exact ⟨h.1.cell 4, h.1.frozen 4⟩
/-- The hole's address is stored. -/
theorem IsCx.set {c : Cx} {p : Option Addr} (h : IsCx T H w tb m c p) (hs : c.sep) (ht : ¬ c.has tb) (q : Option Addr) : IsCx T H (w.setCell (c.hole tb) (.pointer q)) tb m c q := by
  cases c with
  | top => exact Blk.setCell h 0 _
  | left c b k d v r =>
    obtain ⟨h1, h2, h3⟩ := h
    obtain ⟨s1, s2, s3, s4, s5⟩ := hs
    have ho : Only (· = b) w (w.setCell ⟨b, 3, none⟩ (.pointer q)) := (Only.refl (· = b) w).setCell (.inl rfl) _
    exact ⟨h1.setCell 3 _, h2.only ho (fun x hx e => s1 (e ▸ hx)), h3.only ho (fun e => ht (.inl e)) (fun x hx e => s2 (e ▸ hx))⟩
  | right c b k d v l =>
    obtain ⟨h1, h2, h3⟩ := h
    obtain ⟨s1, s2, s3, s4, s5⟩ := hs
    have ho : Only (· = b) w (w.setCell ⟨b, 4, none⟩ (.pointer q)) := (Only.refl (· = b) w).setCell (.inl rfl) _
    exact ⟨h1.setCell 4 _, h2.only ho (fun x hx e => s1 (e ▸ hx)), h3.only ho (fun e => ht (.inl e)) (fun x hx e => s2 (e ▸ hx))⟩
theorem Cx.hole_block (c : Cx) (tb : Nat) : (c.hole tb).block = tb ∨ c.has (c.hole tb).block := by
  cases c with
  | top => exact .inl rfl
  | left c b k d v r => exact .inr (.inl rfl)
  | right c b k d v l => exact .inr (.inl rfl)
theorem Cx.hole_spot (c : Cx) (tb : Nat) : ∃ b o, c.hole tb = ⟨b, o, none⟩ := by
  cases c with
  | top => exact ⟨_, _, rfl⟩
  | left c b k d v r => exact ⟨_, _, rfl⟩
  | right c b k d v l => exact ⟨_, _, rfl⟩
end
end Go.Proofs.Ytbijbpnhakbeeaa

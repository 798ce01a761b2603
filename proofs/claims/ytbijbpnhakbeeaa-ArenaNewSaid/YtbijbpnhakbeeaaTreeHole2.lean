/- A tree with a hole, of values of two cells, in memory. By an AI agent. -/
import Derived.Test.YtbijbpnhakbeeaaTreeHole
import Derived.Test.YtbijbpnhakbeeaaTreeHere2
namespace Go.Proofs.Ytbijbpnhakbeeaa
open Go.RowKit
namespace Cx
def hole2 (tb : Nat) : Cx → Addr
  | top => ⟨tb, 0, none⟩
  | left _ b _ _ _ _ => ⟨b, 4, none⟩
  | right _ b _ _ _ _ => ⟨b, 5, none⟩
end Cx
/-- What stands above the hole, in memory; the hole holds the address p. -/
def IsCx2 (T H : TypeId) (w : World) (tb : Nat) (m : Int) : Cx → Option Addr → Prop
  | .top, p => Blk w tb #[.pointer p, .int .i64 m] H
  | .left c b k d v r, p => Blk w b #[.int .i64 k, .int .u32 d, vc v 0, vc v 1, .pointer p, .pointer r.adr] T ∧ IsTr2 T w r ∧ IsCx2 T H w tb m c (some ⟨b, 0, none⟩)
  | .right c b k d v l, p => Blk w b #[.int .i64 k, .int .u32 d, vc v 0, vc v 1, .pointer l.adr, .pointer p] T ∧ IsTr2 T w l ∧ IsCx2 T H w tb m c (some ⟨b, 0, none⟩)
section
variable {T H : TypeId} {S : Nat → Prop} {w w' : World} {tb : Nat} {m : Int}
theorem isCx2_iff (c : Cx) : ∀ (s : Tr), (Blk w tb #[.pointer (c.plug s).adr, .int .i64 m] H ∧ IsTr2 T w (c.plug s)) ↔ (IsCx2 T H w tb m c s.adr ∧ IsTr2 T w s) := by
  induction c with
  | top => intro s; exact Iff.rfl
  | left c b k d v r ih =>
    intro s
    rw [Cx.plug, ih]
    constructor
    · rintro ⟨h1, h2, h3, h4⟩; exact ⟨⟨h2, h4, h1⟩, h3⟩
    · rintro ⟨⟨h2, h4, h1⟩, h3⟩; exact ⟨h1, h2, h3, h4⟩
  | right c b k d v l ih =>
    intro s
    rw [Cx.plug, ih]
    constructor
    · rintro ⟨h1, h2, h3, h4⟩; exact ⟨⟨h2, h3, h1⟩, h4⟩
    · rintro ⟨⟨h2, h3, h1⟩, h4⟩; exact ⟨h1, h2, h3, h4⟩
theorem IsCx2.only (ho : Only S w w') : ∀ {c : Cx} {p : Option Addr}, IsCx2 T H w tb m c p → (¬ S tb) → (∀ x, c.has x → ¬ S x) → IsCx2 T H w' tb m c p
  | .top, _, h, h1, _ => Blk.only h ho h1
  | .left _ _ _ _ _ _, _, ⟨h1, h2, h3⟩, h4, h5 => ⟨h1.only ho (h5 _ (.inl rfl)), h2.only ho (fun x hx => h5 x (.inr (.inl hx))), IsCx2.only ho h3 h4 (fun x hx => h5 x (.inr (.inr hx)))⟩
  | .right _ _ _ _ _ _, _, ⟨h1, h2, h3⟩, h4, h5 => ⟨h1.only ho (h5 _ (.inl rfl)), h2.only ho (fun x hx => h5 x (.inr (.inl hx))), IsCx2.only ho h3 h4 (fun x hx => h5 x (.inr (.inr hx)))⟩
theorem IsCx2.cell {c : Cx} {p : Option Addr} (h : IsCx2 T H w tb m c p) : w.cell? (c.hole2 tb) = some (.pointer p) ∧ w.frozen? (c.hole2 tb) = false := by
  cases c with
  | top => exact ⟨Blk.cell h 0, Blk.frozen h 0⟩
  | left c b k d v r => exact ⟨h.1.cell 4, h.1.frozen 4⟩
  | right c b k d v l => exact ⟨h.1.cell 5, h.1.frozen 5⟩
/-- The hole's address is stored. -/
theorem IsCx2.set {c : Cx} {p : Option Addr} (h : IsCx2 T H w tb m c p) (hs : c.sep) (ht : ¬ c.has tb) (q : Option Addr) : IsCx2 T H (w.setCell (c.hole2 tb) (.pointer q)) tb m c q := by
  cases c with
  | top => exact Blk.setCell h 0 _
  | left c b k d v r =>
    obtain ⟨h1, h2, h3⟩ := h
    obtain ⟨s1, s2, s3, s4, s5⟩ := hs
    have ho : Only (· = b) w (w.setCell ⟨b, 4, none⟩ (.pointer q)) := (Only.refl (· = b) w).setCell (.inl rfl) _
    exact ⟨h1.setCell 4 _, h2.only ho (fun x hx e => s1 (e ▸ hx)), h3.only ho (fun e => ht (.inl e)) (fun x hx e => s2 (e ▸ hx))⟩
  | right c b k d v l =>
    obtain ⟨h1, h2, h3⟩ := h
    obtain ⟨s1, s2, s3, s4, s5⟩ := hs
    have ho : Only (· = b) w (w.setCell ⟨b, 5, none⟩ (.pointer q)) := (Only.refl (· = b) w).setCell (.inl rfl) _
    exact ⟨h1.setCell 5 _, h2.only ho (fun x hx e => s1 (e ▸ hx)), h3.only ho (fun e => ht (.inl e)) (fun x hx e => s2 (e ▸ hx))⟩
theorem Cx.hole2_block (c : Cx) (tb : Nat) : (c.hole2 tb).block = tb ∨ c.has (c.hole2 tb).block := by
  cases c with
  | top => exact .inl rfl
  | left c b k d v r => exact .inr (.inl rfl)
  | right c b k d v l => exact .inr (.inl rfl)
theorem Cx.hole2_spot (c : Cx) (tb : Nat) : ∃ b o, c.hole2 tb = ⟨b, o, none⟩ := by
  cases c with
  | top => exact ⟨_, _, rfl⟩
  | left c b k d v r => exact ⟨_, _, rfl⟩
  | right c b k d v l => exact ⟨_, _, rfl⟩
end
end Go.Proofs.Ytbijbpnhakbeeaa

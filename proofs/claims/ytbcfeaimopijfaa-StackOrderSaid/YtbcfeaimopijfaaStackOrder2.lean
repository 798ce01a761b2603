/- Package dustpanlaw12: what StackOrder keeps through its loops, in one piece. By an AI agent. -/
import Derived.Test.YtbcfeaimopijfaaStackOrder
import Derived.Laws.OwnMore
namespace Go.Proofs.Ytbcfeaimopijfaa
open Go.RowKit
section
variable {w w1 w2 : World} {ab sb sm rb mb m2 n jm : Nat} {P T hd H H' was pg x : Int} {f g : Int → Int} {v : Value} {L : List Int}
/-- What stays known from round to round: the row, the arena with its stack, the layout's block; nothing old is turned. -/
def SO (w wx : World) (ab sb sm rb n : Nat) (hd H : Int) (f : Int → Int) (v : Value) (L : List Int) : Prop :=
  wx.ownsRow w.heap.size 3 1 v L.length (L.map (Value.int .i64)) ∧ YS wx ab sb sm rb n 1 hd H f ∧ Adds w wx ∧ Blk wx w.heap.size #[.int .i64 n, .int .i64 1] 24
theorem SO.adds (h : SO w w1 ab sb sm rb n hd H f v L) (ho : Adds w1 w2) : SO w w2 ab sb sm rb n hd H f v L :=
  ⟨row_adds h.1 ho, h.2.1.adds ho, h.2.2.1.thenF ho, h.2.2.2.only ho id⟩
theorem SO.drewN (h : SO w w1 ab sb sm rb n hd H f v L) (k : Nat) : SO w (w1.drewN k) ab sb sm rb n hd H f v L := h.adds ((Only.refl _ _).drewN k)
theorem SO.step {H' : Int} {g : Int → Int} (h : SO w w1 ab sb sm rb n hd H f v L) (hlow : w.heap.size < sb ∧ w.heap.size < sm) {c2 : Array Value} {t2 : TypeId} (hm : Blk w1 m2 c2 t2) (ht : t2 ≠ 3) (hl : w.heap.size < m2) (ho : Only (fun j => SB sb sm j ∨ j = m2) w1 w2) (hy : YS w2 ab sb sm rb n 1 hd H' g) : SO w w2 ab sb sm rb n hd H' g v L := by
  have hno : ∀ i, i < w.heap.size + 1 → ¬ (SB sb sm i ∨ i = m2) := fun i hi => by unfold SB; omega
  exact ⟨h.2.1.row hm ht h.1 ho, hy, h.2.2.1.andThen ho (fun i hi e => absurd e (hno i (by omega))), h.2.2.2.only ho (hno _ (by omega))⟩
theorem Desk.has {c : Value → Array Value} {t : TypeId} {k : DK} (h : Desk w mb c t k) : ∃ c2, Blk w mb c2 t := by obtain ⟨nx, h1, _⟩ := h.blk; exact ⟨_, h1⟩
theorem SO.pop1 {H' : Int} {g : Int → Int} (h : SO w w1 ab sb sm rb n hd H f v L) (hlow : w.heap.size < sb ∧ w.heap.size < sm) (hm : Pop1 w1 m2 P T hd was pg) (hl : w.heap.size < m2) (ho : Only (fun j => SB sb sm j ∨ j = m2) w1 w2) (hy : YS w2 ab sb sm rb n 1 hd H' g) : SO w w2 ab sb sm rb n hd H' g v L := by
  obtain ⟨_, hb⟩ := Desk.has hm; exact h.step hlow hb (by decide) hl ho hy
theorem SO.pop2 {H' : Int} {g : Int → Int} (h : SO w w1 ab sb sm rb n hd H f v L) (hlow : w.heap.size < sb ∧ w.heap.size < sm) (hm : Pop2 w1 m2 P T hd was pg) (hl : w.heap.size < m2) (ho : Only (fun j => SB sb sm j ∨ j = m2) w1 w2) (hy : YS w2 ab sb sm rb n 1 hd H' g) : SO w w2 ab sb sm rb n hd H' g v L := by
  obtain ⟨_, hb⟩ := Desk.has hm; exact h.step hlow hb (by decide) hl ho hy
theorem SO.pop3 {H' : Int} {g : Int → Int} (h : SO w w1 ab sb sm rb n hd H f v L) (hlow : w.heap.size < sb ∧ w.heap.size < sm) (hm : Pop3 w1 m2 P T hd was pg x) (hl : w.heap.size < m2) (ho : Only (fun j => SB sb sm j ∨ j = m2) w1 w2) (hy : YS w2 ab sb sm rb n 1 hd H' g) : SO w w2 ab sb sm rb n hd H' g v L := by
  obtain ⟨_, _, hm⟩ := hm; obtain ⟨_, hb⟩ := Desk.has hm; exact h.step hlow hb (by decide) hl ho hy
theorem SO.push1 {H' : Int} {g : Int → Int} (h : SO w w1 ab sb sm rb n hd H f v L) (hlow : w.heap.size < sb ∧ w.heap.size < sm) (hm : Push1 w1 m2 P T hd pg) (hl : w.heap.size < m2) (ho : Only (fun j => SB sb sm j ∨ j = m2) w1 w2) (hy : YS w2 ab sb sm rb n 1 hd H' g) : SO w w2 ab sb sm rb n hd H' g v L := by
  obtain ⟨_, hb⟩ := Desk.has hm; exact h.step hlow hb (by decide) hl ho hy
theorem SO.push2 {H' : Int} {g : Int → Int} (h : SO w w1 ab sb sm rb n hd H f v L) (hlow : w.heap.size < sb ∧ w.heap.size < sm) (hm : Push2 w1 m2 P T hd pg x) (hl : w.heap.size < m2) (ho : Only (fun j => SB sb sm j ∨ j = m2) w1 w2) (hy : YS w2 ab sb sm rb n 1 hd H' g) : SO w w2 ab sb sm rb n hd H' g v L := by
  obtain ⟨_, _, _, _, hm⟩ := hm; obtain ⟨_, hb⟩ := Desk.has hm; exact h.step hlow hb (by decide) hl ho hy
theorem SO.push3 {H' : Int} {g : Int → Int} (h : SO w w1 ab sb sm rb n hd H f v L) (hlow : w.heap.size < sb ∧ w.heap.size < sm) (hm : Push3 w1 m2 P T hd pg x) (hl : w.heap.size < m2) (ho : Only (fun j => SB sb sm j ∨ j = m2) w1 w2) (hy : YS w2 ab sb sm rb n 1 hd H' g) : SO w w2 ab sb sm rb n hd H' g v L := by
  obtain ⟨_, _, hm⟩ := hm; obtain ⟨_, hb⟩ := Desk.has hm; exact h.step hlow hb (by decide) hl ho hy
/-- The row made longer in front. -/
theorem SO.front (h : SO w w1 ab sb sm rb n hd H f v L) {w2 : World} {p : Int} {B : Nat} (hB : B = w1.heap.size) {v' : Value} (hr : w2.ownsRow B 3 1 v' (1 + L.length) ([Value.int .i64 p] ++ L.map (Value.int .i64))) (ho : Adds w1 w2) : SO w w2 ab sb sm rb n hd H f v' (p :: L) := by
  refine ⟨?_, h.2.1.adds ho, h.2.2.1.thenF ho, h.2.2.2.only ho id⟩
  have hs : w.heap.size ≤ B := by rw [hB]; exact h.2.2.1.size
  have h2 := row_base hr hs
  simpa [Nat.add_comm] using h2
theorem grown_new {c : Array Value} {u : TypeId} {w2 : World} (h : (w1.alloc (.cells c u)).grownBy w2 (some w1.heap.size)) : Adds w1 w2 :=
  ((Only.refl (fun _ => False) w1).alloc (.cells c u)).andThen (Only.ofGrown' h) (fun i hi e => by injection e with e; omega)
theorem pushDone2 (h : Push2 w mb P T hd pg x) : Calls Try.prog 11 #[.pointer (some ⟨mb, 0, none⟩)] w fun e w' => e = .returned (.bool false) ∧ w = w' := by
  obtain ⟨_, _, _, _, h⟩ := h; exact pushDone_any h (by simp)
theorem pushDone3 (h : Push3 w mb P T hd pg x) : Calls Try.prog 11 #[.pointer (some ⟨mb, 0, none⟩)] w fun e w' => e = .returned (.bool false) ∧ w = w' := by
  obtain ⟨_, _, h⟩ := h; exact pushDone_any h (by simp)
theorem popDone3 (h : Pop3 w mb P T hd was pg x) : Calls Try.prog 16 #[.pointer (some ⟨mb, 0, none⟩)] w fun e w' => e = .returned (.bool false) ∧ w = w' := by
  obtain ⟨_, _, h⟩ := h; exact popDone_any h (by simp)
theorem popPage3 (h : Pop3 w mb P T hd was pg x) : Calls Try.prog 17 #[.pointer (some ⟨mb, 0, none⟩)] w fun e w' => e = .returned (.int .i64 pg) ∧ w = w' := by
  obtain ⟨_, _, h⟩ := h; exact popPage_any h
theorem Lays.end {n : Int} {p : Int} (h : Lays f n p []) : p < 0 := h
end
end Go.Proofs.Ytbcfeaimopijfaa

/- Package stack: a push, step by step. By an AI agent. -/
import Derived.Test.YtbcfeaimopijfaaGreatDesk
import Derived.Test.YtbcfeaimopijfaaGreatHead
import Derived.Test.YtbcfeaimopijfaaGreatMach
import Derived.Deep.RegionHeld3
namespace Go.Proofs.YtbcfeaimopijfaaGreat
open Go.RowKit
theorem push_keep5 {W w' : World} {b1 o1 b2 o2 b3 o3 b4 o4 b5 o5 : Nat} {x1 x2 x3 x4 x5 : Value}
    (h : W.cell? ⟨b1, o1, none⟩ = some x1 ∧ W.cell? ⟨b2, o2, none⟩ = some x2 ∧ W.cell? ⟨b3, o3, none⟩ = some x3 ∧ W.cell? ⟨b4, o4, none⟩ = some x4 ∧ W.cell? ⟨b5, o5, none⟩ = some x5 ∧ True) (ho : Adds W w') :
    w'.cell? ⟨b1, o1, none⟩ = some x1 ∧ w'.cell? ⟨b2, o2, none⟩ = some x2 ∧ w'.cell? ⟨b3, o3, none⟩ = some x3 ∧ w'.cell? ⟨b4, o4, none⟩ = some x4 ∧ w'.cell? ⟨b5, o5, none⟩ = some x5 ∧ True :=
  ⟨(ho.cellF (p := ⟨b1, o1, none⟩) (cell_lt h.1) id).trans h.1, (ho.cellF (p := ⟨b2, o2, none⟩) (cell_lt h.2.1) id).trans h.2.1, (ho.cellF (p := ⟨b3, o3, none⟩) (cell_lt h.2.2.1) id).trans h.2.2.1, (ho.cellF (p := ⟨b4, o4, none⟩) (cell_lt h.2.2.2.1) id).trans h.2.2.2.1, (ho.cellF (p := ⟨b5, o5, none⟩) (cell_lt h.2.2.2.2.1) id).trans h.2.2.2.2.1, trivial⟩
abbrev puC (P T hd pg : Int) : Value → Array Value := fun nx => #[.int .i64 P, .int .i64 T, nx, .int .i64 hd, .int .i64 pg]
theorem puCells (P T hd pg : Int) : Cells (puC P T hd pg) P T := ⟨fun _ => rfl, fun _ => rfl, fun _ => rfl, fun _ _ => rfl⟩
theorem Tag.pg_bd (x : Int) : -1 ≤ Tag.pg x ∧ Tag.pg x < 4096 := by unfold Tag.pg; split <;> omega
section
variable {w : World} {mb jw jm : Nat} {P T hd pg x : Int} {nx : Value}
end
section
variable {w : World} {mb ab sb sm rb : Nat} {P T hd pg x : Int} {s : StoreS}
end
end Go.Proofs.YtbcfeaimopijfaaGreat

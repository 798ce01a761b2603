/-
  DERIVED. GIVEN WITH THE SEED: THE CARDS: each row of YtcikhlihgebnbaaDoorRows.lean that lists a variable, with what it lists TIED to the program's text (the seventh form; the later family's looks); each row that meets fmt, with fmt's text TOLD by the authors' own Lean function (tested against real Go, not proved from fmt's source: count such statements apart). THE CARD IS WHAT COUNTS. Prove the row's statement (the work); the ties are given (YtcikhlihgebnbaaDoorTie.lean); close each card by the builder's one call (the guide's Derived/Test/ToyasCard.lean, 'card_holds'). Laid BY PROGRAM, IN A SANDBOX (cutbox-door.mjs). By AI agents, Wed Nov 11 2026. No macro, syntax, notation, axiom, sorry.
-/
import Derived.Test.YtcikhlihgebnbaaDoorRows
import GoSem.ClaimSeven
namespace Go.Proofs.YtcikhlihgebnbaaDoor
namespace Rows

/-- THE TIED CARD OF 'dustpanlaw14.RecordBack'. -/
def recordBackCard : Claim7 := { stood := { row := recordBackRow, standIns := [], harness := (true, "8f12b4ce009d8ae2b6260a7d02856b369fbdec95937be067200251d9f6322a7e"), looks := false }, kinds := [], alts := [], laidByText := true, laidKinds := [.data], laidTests := true, laidLooks := .later }
def RecordBackCardSaid : Prop := Claim7.holds Tryd.pinned (.plain (OpenSpec.ofChange recordBackSpec)) recordBackCard

/-- THE TIED CARD OF 'dustpanlaw14.RecordMay'. -/
def recordMayCard : Claim7 := { stood := { row := recordMayRow, standIns := [], harness := (true, "8f12b4ce009d8ae2b6260a7d02856b369fbdec95937be067200251d9f6322a7e"), looks := false }, kinds := [], alts := [], laidByText := true, laidKinds := [.data], laidTests := true, laidLooks := .later }
def RecordMayCardSaid : Prop := Claim7.holds Tryd.pinned (.plain (OpenSpec.ofChange recordMaySpec)) recordMayCard

/-- THE SECOND FORM's CARD OF 'dustpanlaw14.RecordBack'. -/
def recordBackUptoCard : Claim7 := { stood := { row := recordBackUptoRow, standIns := [], harness := (true, "8f12b4ce009d8ae2b6260a7d02856b369fbdec95937be067200251d9f6322a7e"), looks := false }, kinds := [], alts := [], laidByText := true, laidKinds := [.data], laidTests := true, laidLooks := .later }
def RecordBackUptoCardSaid : Prop := Claim7.holds Tryd.pinned (.plain (OpenSpec.upto recordBackSpec)) recordBackUptoCard

/-- THE SECOND FORM's CARD OF 'dustpanlaw14.RecordMay'. -/
def recordMayUptoCard : Claim7 := { stood := { row := recordMayUptoRow, standIns := [], harness := (true, "8f12b4ce009d8ae2b6260a7d02856b369fbdec95937be067200251d9f6322a7e"), looks := false }, kinds := [], alts := [], laidByText := true, laidKinds := [.data], laidTests := true, laidLooks := .later }
def RecordMayUptoCardSaid : Prop := Claim7.holds Tryd.pinned (.plain (OpenSpec.upto recordMaySpec)) recordMayUptoCard
end Rows
end Go.Proofs.YtcikhlihgebnbaaDoor

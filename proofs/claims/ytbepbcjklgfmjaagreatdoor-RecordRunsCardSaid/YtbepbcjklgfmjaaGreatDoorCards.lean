/-
  DERIVED. GIVEN WITH THE SEED: THE CARDS: each row of YtbepbcjklgfmjaaGreatDoorRows.lean that lists a variable, with what it lists TIED to the program's text (the seventh form; the later family's looks); each row that meets fmt, with fmt's text TOLD by the authors' own Lean function (tested against real Go, not proved from fmt's source: count such statements apart). THE CARD IS WHAT COUNTS. Prove the row's statement (the work); the ties are given (YtbepbcjklgfmjaaGreatDoorTie.lean); close each card by the builder's one call (the guide's Derived/Test/ToyasCard.lean, 'card_holds'). Laid BY PROGRAM, IN A SANDBOX (cutbox-door.mjs). By AI agents, Wed Nov 11 2026. No macro, syntax, notation, axiom, sorry.
-/
import Derived.Test.YtbepbcjklgfmjaaGreatDoorRows
import GoSem.ClaimSeven
namespace Go.Proofs.YtbepbcjklgfmjaaGreatDoor
namespace Rows

/-- THE TIED CARD OF 'dustpanlaw14.RecordWords'. -/
def recordWordsCard : Claim7 := { stood := { row := recordWordsRow, standIns := [], harness := (true, "da3547b8e8d289a0aa7a2bc6cc947559ddb3bfcb38ee870d8fed234c00118b21"), looks := false }, kinds := [], alts := [], laidByText := true, laidKinds := [.data], laidTests := true, laidLooks := .later }
def RecordWordsCardSaid : Prop := Claim7.holds Tryz.pinned (.plain (OpenSpec.ofChange recordWordsSpec)) recordWordsCard

/-- THE TIED CARD OF 'dustpanlaw14.RecordRuns'. -/
def recordRunsCard : Claim7 := { stood := { row := recordRunsRow, standIns := [], harness := (true, "da3547b8e8d289a0aa7a2bc6cc947559ddb3bfcb38ee870d8fed234c00118b21"), looks := false }, kinds := [], alts := [], laidByText := true, laidKinds := [.data], laidTests := true, laidLooks := .later }
def RecordRunsCardSaid : Prop := Claim7.holds Tryz.pinned (.plain (OpenSpec.ofChange recordRunsSpec)) recordRunsCard

/-- THE SECOND FORM's CARD OF 'dustpanlaw14.RecordWords'. -/
def recordWordsUptoCard : Claim7 := { stood := { row := recordWordsUptoRow, standIns := [], harness := (true, "da3547b8e8d289a0aa7a2bc6cc947559ddb3bfcb38ee870d8fed234c00118b21"), looks := false }, kinds := [], alts := [], laidByText := true, laidKinds := [.data], laidTests := true, laidLooks := .later }
def RecordWordsUptoCardSaid : Prop := Claim7.holds Tryz.pinned (.plain (OpenSpec.upto recordWordsSpec)) recordWordsUptoCard

/-- THE SECOND FORM's CARD OF 'dustpanlaw14.RecordRuns'. -/
def recordRunsUptoCard : Claim7 := { stood := { row := recordRunsUptoRow, standIns := [], harness := (true, "da3547b8e8d289a0aa7a2bc6cc947559ddb3bfcb38ee870d8fed234c00118b21"), looks := false }, kinds := [], alts := [], laidByText := true, laidKinds := [.data], laidTests := true, laidLooks := .later }
def RecordRunsUptoCardSaid : Prop := Claim7.holds Tryz.pinned (.plain (OpenSpec.upto recordRunsSpec)) recordRunsUptoCard
end Rows
end Go.Proofs.YtbepbcjklgfmjaaGreatDoor

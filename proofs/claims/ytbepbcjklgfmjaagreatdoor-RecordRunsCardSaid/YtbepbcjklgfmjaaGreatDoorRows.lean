/-
  NARROWER THAN 'FOR EVERY INPUT', by the rows' own cells (each row's printed sentence says how): RecordWords: laid · RecordRuns: laid.
  DERIVED. THE GIVEN ROWS OF THIS SEAT. 2 by the template 'for every input the law returns true; each argument reads behind the call as it read before'; 0 by the template 'total and deterministic' (their statements: YtbepbcjklgfmjaaGreatDoorTotals.lean).
  GIVEN WITH THE SEED: the statements are not yours to turn. If you find one false, say at which input.
  Laid BY PROGRAM, IN A SANDBOX (cutbox-rows.mjs): the forced cells as the released guide's own fill.sh prints them over the translation 40f9cd313801c7e4… (all of the seat's roots in one cut). By AI agents, Wed Nov 11 2026. No macro, syntax, notation, axiom, sorry.
-/
import Derived.Test.YtbepbcjklgfmjaaGreatDoorChecked
import GoSem.Claim
import GoSem.ClaimJoined
import GoSem.ClaimMapViews
import Derived.JoinedTies
import Derived.KernelRfl
namespace Go.Proofs.YtbepbcjklgfmjaaGreatDoor
/- THE CELL 'sum', in the pinned program and in every row, IS THE sha256 OF THE DUMP (.gsa) THAT YtbepbcjklgfmjaaGreatDoorProg.lean LOADS. Nothing in Lean hashes anything: it is a label: what it is worth is what the hold of that sum in a sandbox is worth. -/
noncomputable def Tryz.pinned : Pinned := { name := "ytbepbcjklgfmjaagreatdoor", sum := "40f9cd313801c7e4d04926336cd87c9345c3cdbc76e54dda960cee5e86eb4f95", checked := Tryz.checked }
namespace Rows
def none {H : Type} : Left H := { results := [], args := [] }

/- WHAT THE LISTED PACKAGE-LEVEL VARIABLES READ AS WHEN THE CALL BEGINS. Each datum BY PROGRAM (the guide's laid-datum.mjs) off the statement by which the dump's own 'gosem.cut.vars' lays the variable. In a bare row this is a premise. The card (YtbepbcjklgfmjaaGreatDoorCards.lean) ties it to the program's text. -/
def laid_dustpan_class_table {H : Type} : DataW H := .agg [.agg [.lit (.int .i64 128), .lit (.int .i64 1)], .agg [.lit (.int .i64 192), .lit (.int .i64 1)], .agg [.lit (.int .i64 256), .lit (.int .i64 1)], .agg [.lit (.int .i64 384), .lit (.int .i64 1)], .agg [.lit (.int .i64 512), .lit (.int .i64 1)], .agg [.lit (.int .i64 768), .lit (.int .i64 1)], .agg [.lit (.int .i64 1024), .lit (.int .i64 1)], .agg [.lit (.int .i64 1536), .lit (.int .i64 3)], .agg [.lit (.int .i64 2048), .lit (.int .i64 1)], .agg [.lit (.int .i64 3072), .lit (.int .i64 3)], .agg [.lit (.int .i64 4096), .lit (.int .i64 1)], .agg [.lit (.int .i64 6144), .lit (.int .i64 3)], .agg [.lit (.int .i64 8192), .lit (.int .i64 2)], .agg [.lit (.int .i64 12288), .lit (.int .i64 3)]]

/-- 'dustpanlaw14.RecordWords': WHATEVER THE INPUT: true; the input reads as it did. -/
def recordWordsSpec : ChangeSpec := { name := "recordWords", fn := fun _ => fun
  | [d1, d2, d3, d4, d5] => { results := [.lit (.bool true)], args := [d1, d2, d3, d4, d5] }
  | _ => none }
def recordWordsRow : OpenClaim := { program := "ytbepbcjklgfmjaagreatdoor", sum := "40f9cd313801c7e4d04926336cd87c9345c3cdbc76e54dda960cee5e86eb4f95", func := "dustpan/dustpanlaw14.RecordWords", spec := "recordWords", inPlace := ["slices.overlaps[dustpan/api.Run]"], unfollowed := true, recurses := true, named := ["dustpan/class.table"], apart := false, laid := [("dustpan/class.table", laid_dustpan_class_table)] }
def RecordWordsSaid : Prop := recordWordsRow.holds Tryz.pinned (OpenSpec.ofChange recordWordsSpec)

/-- ITS FALSE NEIGHBOUR: 'it returns false'. Refute it at one input. -/
def recordWordsWrong : ChangeSpec := { name := "recordWords", fn := fun _ => fun
  | [d1, d2, d3, d4, d5] => { results := [.lit (.bool false)], args := [d1, d2, d3, d4, d5] }
  | _ => none }
def RecordWordsWrongFalsely : Prop := recordWordsRow.holds Tryz.pinned (OpenSpec.ofChange recordWordsWrong)

/-- 'dustpanlaw14.RecordRuns': WHATEVER THE INPUT: true; the input reads as it did. -/
def recordRunsSpec : ChangeSpec := { name := "recordRuns", fn := fun _ => fun
  | [d1, d2, d3, d4] => { results := [.lit (.bool true)], args := [d1, d2, d3, d4] }
  | _ => none }
def recordRunsRow : OpenClaim := { program := "ytbepbcjklgfmjaagreatdoor", sum := "40f9cd313801c7e4d04926336cd87c9345c3cdbc76e54dda960cee5e86eb4f95", func := "dustpan/dustpanlaw14.RecordRuns", spec := "recordRuns", inPlace := ["slices.overlaps[dustpan/api.Run]"], unfollowed := true, recurses := true, named := ["dustpan/class.table"], apart := false, laid := [("dustpan/class.table", laid_dustpan_class_table)] }
def RecordRunsSaid : Prop := recordRunsRow.holds Tryz.pinned (OpenSpec.ofChange recordRunsSpec)

/-- ITS FALSE NEIGHBOUR: 'it returns false'. Refute it at one input. -/
def recordRunsWrong : ChangeSpec := { name := "recordRuns", fn := fun _ => fun
  | [d1, d2, d3, d4] => { results := [.lit (.bool false)], args := [d1, d2, d3, d4] }
  | _ => none }
def RecordRunsWrongFalsely : Prop := recordRunsRow.holds Tryz.pinned (OpenSpec.ofChange recordRunsWrong)

/- THE SECOND FORM. 'bulk': how many values and letters a reading holds, each counted each time it is reached (what is shared counts as often as it is met; a slice's spare places count too). A statement '..UptoSaid' is the law's where the arguments, and the package variables that the reading takes, are together of bulk at most 1048576: NARROWER than '..Said'. Prove '..Said' where nothing that the law and all that it calls make is longer than what came in: it says more and counts as full. Else prove '..UptoSaid'. A law counts once. -/
mutual
def uptoBulk {H : Type} : DataW H → Nat
  | .lit (.string bytes) => bytes.length + 1
  | .lit _ => 1
  | .nil => 1
  | .ptr d => uptoBulk d + 1
  | .slice elems spare => uptoBulkAll elems + uptoBulkAll spare + 1
  | .agg parts => uptoBulkAll parts + 1
  | .iface _ d => uptoBulk d + 1
  | .map entries => uptoBulkEntries entries + 1
  | .held _ => 1
def uptoBulkAll {H : Type} : List (DataW H) → Nat
  | [] => 0
  | d :: r => uptoBulk d + uptoBulkAll r
def uptoBulkEntries {H : Type} : List (Lit × DataW H) → Nat
  | [] => 0
  | x :: r => uptoBulkEntry x + uptoBulkEntries r
def uptoBulkEntry {H : Type} : Lit × DataW H → Nat
  | (.string bytes, d) => bytes.length + uptoBulk d + 1
  | (_, d) => uptoBulk d + 1
 end
def uptoSmall : (H : Type) → List (DataW H) → Bool := fun _ ds => decide (uptoBulkAll ds ≤ 1048576)
def OpenSpec.upto (s : _root_.Go.ChangeSpec) : _root_.Go.OpenSpec := { _root_.Go.OpenSpec.ofChange s with cond := some uptoSmall }

/-- 'dustpanlaw14.RecordWords', WHERE WHAT IT READS IS OF BULK AT MOST 1048576: true; the input reads as it did. -/
def recordWordsUptoRow : OpenClaim := { program := "ytbepbcjklgfmjaagreatdoor", sum := "40f9cd313801c7e4d04926336cd87c9345c3cdbc76e54dda960cee5e86eb4f95", func := "dustpan/dustpanlaw14.RecordWords", spec := "recordWords", inPlace := ["slices.overlaps[dustpan/api.Run]"], unfollowed := true, recurses := true, named := ["dustpan/class.table"], apart := false, laid := [("dustpan/class.table", laid_dustpan_class_table)], narrowed := true }
def RecordWordsUptoSaid : Prop := recordWordsUptoRow.holds Tryz.pinned (OpenSpec.upto recordWordsSpec)

/-- 'dustpanlaw14.RecordRuns', WHERE WHAT IT READS IS OF BULK AT MOST 1048576: true; the input reads as it did. -/
def recordRunsUptoRow : OpenClaim := { program := "ytbepbcjklgfmjaagreatdoor", sum := "40f9cd313801c7e4d04926336cd87c9345c3cdbc76e54dda960cee5e86eb4f95", func := "dustpan/dustpanlaw14.RecordRuns", spec := "recordRuns", inPlace := ["slices.overlaps[dustpan/api.Run]"], unfollowed := true, recurses := true, named := ["dustpan/class.table"], apart := false, laid := [("dustpan/class.table", laid_dustpan_class_table)], narrowed := true }
def RecordRunsUptoSaid : Prop := recordRunsUptoRow.holds Tryz.pinned (OpenSpec.upto recordRunsSpec)

end Rows
end Go.Proofs.YtbepbcjklgfmjaaGreatDoor

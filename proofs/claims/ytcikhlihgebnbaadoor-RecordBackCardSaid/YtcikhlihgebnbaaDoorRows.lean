/-
  NARROWER THAN 'FOR EVERY INPUT', by the rows' own cells (each row's printed sentence says how): RecordBack: laid · RecordMay: laid.
  DERIVED. THE GIVEN ROWS OF THIS SEAT. 2 by the template 'for every input the law returns true; each argument reads behind the call as it read before'; 0 by the template 'total and deterministic' (their statements: YtcikhlihgebnbaaDoorTotals.lean).
  GIVEN WITH THE SEED: the statements are not yours to turn. If you find one false, say at which input.
  Laid BY PROGRAM, IN A SANDBOX (cutbox-rows.mjs): the forced cells as the released guide's own fill.sh prints them over the translation 8bb681e17df879bf… (all of the seat's roots in one cut). By AI agents, Wed Nov 11 2026. No macro, syntax, notation, axiom, sorry.
-/
import Derived.Test.YtcikhlihgebnbaaDoorChecked
import GoSem.Claim
import GoSem.ClaimJoined
import GoSem.ClaimMapViews
import Derived.JoinedTies
import Derived.KernelRfl
namespace Go.Proofs.YtcikhlihgebnbaaDoor
/- THE CELL 'sum', in the pinned program and in every row, IS THE sha256 OF THE DUMP (.gsa) THAT YtcikhlihgebnbaaDoorProg.lean LOADS. Nothing in Lean hashes anything: it is a label: what it is worth is what the hold of that sum in a sandbox is worth. -/
noncomputable def Tryd.pinned : Pinned := { name := "ytcikhlihgebnbaadoor", sum := "8bb681e17df879bff8563eb8ac41dfa5023e8866f03422a55e5a5b2383075114", checked := Tryd.checked }
namespace Rows
def none {H : Type} : Left H := { results := [], args := [] }

/- WHAT THE LISTED PACKAGE-LEVEL VARIABLES READ AS WHEN THE CALL BEGINS. Each datum BY PROGRAM (the guide's laid-datum.mjs) off the statement by which the dump's own 'gosem.cut.vars' lays the variable. In a bare row this is a premise. The card (YtcikhlihgebnbaaDoorCards.lean) ties it to the program's text. -/
def laid_dustpan_class_table {H : Type} : DataW H := .agg [.agg [.lit (.int .i64 128), .lit (.int .i64 1)], .agg [.lit (.int .i64 192), .lit (.int .i64 1)], .agg [.lit (.int .i64 256), .lit (.int .i64 1)], .agg [.lit (.int .i64 384), .lit (.int .i64 1)], .agg [.lit (.int .i64 512), .lit (.int .i64 1)], .agg [.lit (.int .i64 768), .lit (.int .i64 1)], .agg [.lit (.int .i64 1024), .lit (.int .i64 1)], .agg [.lit (.int .i64 1536), .lit (.int .i64 3)], .agg [.lit (.int .i64 2048), .lit (.int .i64 1)], .agg [.lit (.int .i64 3072), .lit (.int .i64 3)], .agg [.lit (.int .i64 4096), .lit (.int .i64 1)], .agg [.lit (.int .i64 6144), .lit (.int .i64 3)], .agg [.lit (.int .i64 8192), .lit (.int .i64 2)], .agg [.lit (.int .i64 12288), .lit (.int .i64 3)]]

/-- 'dustpanlaw14.RecordBack': WHATEVER THE INPUT: true; the input reads as it did. -/
def recordBackSpec : ChangeSpec := { name := "recordBack", fn := fun _ => fun
  | [d1, d2, d3, d4] => { results := [.lit (.bool true)], args := [d1, d2, d3, d4] }
  | _ => none }
def recordBackRow : OpenClaim := { program := "ytcikhlihgebnbaadoor", sum := "8bb681e17df879bff8563eb8ac41dfa5023e8866f03422a55e5a5b2383075114", func := "dustpan/dustpanlaw14.RecordBack", spec := "recordBack", inPlace := ["slices.overlaps[dustpan/api.Run]"], unfollowed := true, recurses := true, named := ["dustpan/class.table"], apart := false, laid := [("dustpan/class.table", laid_dustpan_class_table)] }
def RecordBackSaid : Prop := recordBackRow.holds Tryd.pinned (OpenSpec.ofChange recordBackSpec)

/-- ITS FALSE NEIGHBOUR: 'it returns false'. Refute it at one input. -/
def recordBackWrong : ChangeSpec := { name := "recordBack", fn := fun _ => fun
  | [d1, d2, d3, d4] => { results := [.lit (.bool false)], args := [d1, d2, d3, d4] }
  | _ => none }
def RecordBackWrongFalsely : Prop := recordBackRow.holds Tryd.pinned (OpenSpec.ofChange recordBackWrong)

/-- 'dustpanlaw14.RecordMay': WHATEVER THE INPUT: true; the input reads as it did. -/
def recordMaySpec : ChangeSpec := { name := "recordMay", fn := fun _ => fun
  | [d1, d2, d3, d4, d5, d6] => { results := [.lit (.bool true)], args := [d1, d2, d3, d4, d5, d6] }
  | _ => none }
def recordMayRow : OpenClaim := { program := "ytcikhlihgebnbaadoor", sum := "8bb681e17df879bff8563eb8ac41dfa5023e8866f03422a55e5a5b2383075114", func := "dustpan/dustpanlaw14.RecordMay", spec := "recordMay", inPlace := ["slices.overlaps[dustpan/api.Run]"], unfollowed := true, recurses := true, named := ["dustpan/class.table"], apart := false, laid := [("dustpan/class.table", laid_dustpan_class_table)] }
def RecordMaySaid : Prop := recordMayRow.holds Tryd.pinned (OpenSpec.ofChange recordMaySpec)

/-- ITS FALSE NEIGHBOUR: 'it returns false'. Refute it at one input. -/
def recordMayWrong : ChangeSpec := { name := "recordMay", fn := fun _ => fun
  | [d1, d2, d3, d4, d5, d6] => { results := [.lit (.bool false)], args := [d1, d2, d3, d4, d5, d6] }
  | _ => none }
def RecordMayWrongFalsely : Prop := recordMayRow.holds Tryd.pinned (OpenSpec.ofChange recordMayWrong)

/- THE SECOND FORM. 'bulk': how many values and letters a reading holds, each counted each time it is reached (what is shared counts as often as it is met; a slice's spare places count too). A statement '..UptoSaid' is the law's where the arguments, and the package variables that the reading takes, are together of bulk at most 1048576: NARROWER than '..Said'. Prove '..Said' where nothing that the law and all that it calls make is longer than what came in: it says more and counts as full. Else prove '..UptoSaid'. A law counts once. -/
mutual
def uptoBulk {H : Type} : DataW H → Nat
  | .lit (.string bytes) => bytes.length + 1
  | .lit _ => 1
  | .nil => 1
  | .ptr d => uptoBulk d + 1
  | .slice elems spare => uptoBulkAll elems + uptoBulkAll spare + 1
  | .agg parts => uptoBulkAll parts + 1
  | .iface _ d => uptoBulk d + 1
  | .map entries => uptoBulkEntries entries + 1
  | .held _ => 1
def uptoBulkAll {H : Type} : List (DataW H) → Nat
  | [] => 0
  | d :: r => uptoBulk d + uptoBulkAll r
def uptoBulkEntries {H : Type} : List (Lit × DataW H) → Nat
  | [] => 0
  | x :: r => uptoBulkEntry x + uptoBulkEntries r
def uptoBulkEntry {H : Type} : Lit × DataW H → Nat
  | (.string bytes, d) => bytes.length + uptoBulk d + 1
  | (_, d) => uptoBulk d + 1
 end
def uptoSmall : (H : Type) → List (DataW H) → Bool := fun _ ds => decide (uptoBulkAll ds ≤ 1048576)
def OpenSpec.upto (s : _root_.Go.ChangeSpec) : _root_.Go.OpenSpec := { _root_.Go.OpenSpec.ofChange s with cond := some uptoSmall }

/-- 'dustpanlaw14.RecordBack', WHERE WHAT IT READS IS OF BULK AT MOST 1048576: true; the input reads as it did. -/
def recordBackUptoRow : OpenClaim := { program := "ytcikhlihgebnbaadoor", sum := "8bb681e17df879bff8563eb8ac41dfa5023e8866f03422a55e5a5b2383075114", func := "dustpan/dustpanlaw14.RecordBack", spec := "recordBack", inPlace := ["slices.overlaps[dustpan/api.Run]"], unfollowed := true, recurses := true, named := ["dustpan/class.table"], apart := false, laid := [("dustpan/class.table", laid_dustpan_class_table)], narrowed := true }
def RecordBackUptoSaid : Prop := recordBackUptoRow.holds Tryd.pinned (OpenSpec.upto recordBackSpec)

/-- 'dustpanlaw14.RecordMay', WHERE WHAT IT READS IS OF BULK AT MOST 1048576: true; the input reads as it did. -/
def recordMayUptoRow : OpenClaim := { program := "ytcikhlihgebnbaadoor", sum := "8bb681e17df879bff8563eb8ac41dfa5023e8866f03422a55e5a5b2383075114", func := "dustpan/dustpanlaw14.RecordMay", spec := "recordMay", inPlace := ["slices.overlaps[dustpan/api.Run]"], unfollowed := true, recurses := true, named := ["dustpan/class.table"], apart := false, laid := [("dustpan/class.table", laid_dustpan_class_table)], narrowed := true }
def RecordMayUptoSaid : Prop := recordMayUptoRow.holds Tryd.pinned (OpenSpec.upto recordMaySpec)

end Rows
end Go.Proofs.YtcikhlihgebnbaaDoor

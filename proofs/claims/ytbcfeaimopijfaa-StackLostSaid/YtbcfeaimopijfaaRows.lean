/-
  No cell of these rows narrows 'for every input' (looked for: loops, veiled, ifaces, maps, wideKeys, modest, calm, conditions, laid).
  DERIVED. THE GIVEN ROWS OF THIS SEAT. 4 by the template 'for every input the law returns true; each argument reads behind the call as it read before'; 0 by the template 'total and deterministic' (their statements: YtbcfeaimopijfaaTotals.lean).
  GIVEN WITH THE SEED: the statements are not yours to turn. If you find one false, say at which input.
  Laid BY PROGRAM, IN A SANDBOX (cutbox-rows.mjs): the forced cells as the released guide's own fill.sh prints them over the translation a37560f48cb4cd92… (all of the seat's roots in one cut). By AI agents, Wed Nov 11 2026. No macro, syntax, notation, axiom, sorry.
-/
import Derived.Test.YtbcfeaimopijfaaChecked
import GoSem.Claim
import GoSem.ClaimJoined
import GoSem.ClaimMapViews
import Derived.JoinedTies
import Derived.KernelRfl
namespace Go.Proofs.Ytbcfeaimopijfaa
/- THE CELL 'sum', in the pinned program and in every row, IS THE sha256 OF THE DUMP (.gsa) THAT YtbcfeaimopijfaaProg.lean LOADS. Nothing in Lean hashes anything: it is a label: what it is worth is what the hold of that sum in a sandbox is worth. -/
noncomputable def Try.pinned : Pinned := { name := "ytbcfeaimopijfaa", sum := "a37560f48cb4cd929657e2034007070163cd90d319c1bf18dbb90036d5a9b515", checked := Try.checked }
namespace Rows
def none {H : Type} : Left H := { results := [], args := [] }

/-- 'dustpanlaw12.StackOrder': WHATEVER THE INPUT: true; the input reads as it did. -/
def stackOrderSpec : ChangeSpec := { name := "stackOrder", fn := fun _ => fun
  | [d1, d2, d3] => { results := [.lit (.bool true)], args := [d1, d2, d3] }
  | _ => none }
def stackOrderRow : OpenClaim := { program := "ytbcfeaimopijfaa", sum := "a37560f48cb4cd929657e2034007070163cd90d319c1bf18dbb90036d5a9b515", func := "dustpan/dustpanlaw12.StackOrder", spec := "stackOrder", inPlace := ["slices.overlaps[dustpan/api.Run]"], unfollowed := true, recurses := true, apart := false }
def StackOrderSaid : Prop := stackOrderRow.holds Try.pinned (OpenSpec.ofChange stackOrderSpec)

/-- ITS FALSE NEIGHBOUR: 'it returns false'. Refute it at one input. -/
def stackOrderWrong : ChangeSpec := { name := "stackOrder", fn := fun _ => fun
  | [d1, d2, d3] => { results := [.lit (.bool false)], args := [d1, d2, d3] }
  | _ => none }
def StackOrderWrongFalsely : Prop := stackOrderRow.holds Try.pinned (OpenSpec.ofChange stackOrderWrong)

/-- 'dustpanlaw12.StackLost': WHATEVER THE INPUT: true; the input reads as it did. -/
def stackLostSpec : ChangeSpec := { name := "stackLost", fn := fun _ => fun
  | [d1, d2, d3] => { results := [.lit (.bool true)], args := [d1, d2, d3] }
  | _ => none }
def stackLostRow : OpenClaim := { program := "ytbcfeaimopijfaa", sum := "a37560f48cb4cd929657e2034007070163cd90d319c1bf18dbb90036d5a9b515", func := "dustpan/dustpanlaw12.StackLost", spec := "stackLost", inPlace := ["slices.overlaps[dustpan/api.Run]"], unfollowed := true, recurses := true, apart := false }
def StackLostSaid : Prop := stackLostRow.holds Try.pinned (OpenSpec.ofChange stackLostSpec)

/-- ITS FALSE NEIGHBOUR: 'it returns false'. Refute it at one input. -/
def stackLostWrong : ChangeSpec := { name := "stackLost", fn := fun _ => fun
  | [d1, d2, d3] => { results := [.lit (.bool false)], args := [d1, d2, d3] }
  | _ => none }
def StackLostWrongFalsely : Prop := stackLostRow.holds Try.pinned (OpenSpec.ofChange stackLostWrong)

/-- 'dustpanlaw12.StackMay': WHATEVER THE INPUT: true; the input reads as it did. -/
def stackMaySpec : ChangeSpec := { name := "stackMay", fn := fun _ => fun
  | [d1, d2, d3] => { results := [.lit (.bool true)], args := [d1, d2, d3] }
  | _ => none }
def stackMayRow : OpenClaim := { program := "ytbcfeaimopijfaa", sum := "a37560f48cb4cd929657e2034007070163cd90d319c1bf18dbb90036d5a9b515", func := "dustpan/dustpanlaw12.StackMay", spec := "stackMay", inPlace := ["slices.overlaps[dustpan/api.Run]"], unfollowed := true, recurses := true, apart := false }
def StackMaySaid : Prop := stackMayRow.holds Try.pinned (OpenSpec.ofChange stackMaySpec)

/-- ITS FALSE NEIGHBOUR: 'it returns false'. Refute it at one input. -/
def stackMayWrong : ChangeSpec := { name := "stackMay", fn := fun _ => fun
  | [d1, d2, d3] => { results := [.lit (.bool false)], args := [d1, d2, d3] }
  | _ => none }
def StackMayWrongFalsely : Prop := stackMayRow.holds Try.pinned (OpenSpec.ofChange stackMayWrong)

/-- 'dustpanlaw20.WorldAlone': WHATEVER THE INPUT: true; the input reads as it did. -/
def worldAloneSpec : ChangeSpec := { name := "worldAlone", fn := fun _ => fun
  | [d1, d2, d3] => { results := [.lit (.bool true)], args := [d1, d2, d3] }
  | _ => none }
def worldAloneRow : OpenClaim := { program := "ytbcfeaimopijfaa", sum := "a37560f48cb4cd929657e2034007070163cd90d319c1bf18dbb90036d5a9b515", func := "dustpan/dustpanlaw20.WorldAlone", spec := "worldAlone", inPlace := ["slices.overlaps[dustpan/api.Run]"], unfollowed := true, recurses := true, apart := false }
def WorldAloneSaid : Prop := worldAloneRow.holds Try.pinned (OpenSpec.ofChange worldAloneSpec)

/-- ITS FALSE NEIGHBOUR: 'it returns false'. Refute it at one input. -/
def worldAloneWrong : ChangeSpec := { name := "worldAlone", fn := fun _ => fun
  | [d1, d2, d3] => { results := [.lit (.bool false)], args := [d1, d2, d3] }
  | _ => none }
def WorldAloneWrongFalsely : Prop := worldAloneRow.holds Try.pinned (OpenSpec.ofChange worldAloneWrong)

/- THE SECOND FORM. 'bulk': how many values and letters a reading holds, each counted each time it is reached (what is shared counts as often as it is met; a slice's spare places count too). A statement '..UptoSaid' is the law's where the arguments, and the package variables that the reading takes, are together of bulk at most 1048576: NARROWER than '..Said'. Prove '..Said' where nothing that the law and all that it calls make is longer than what came in: it says more and counts as full. Else prove '..UptoSaid'. A law counts once. -/
mutual
def uptoBulk {H : Type} : DataW H → Nat
  | .lit (.string bytes) => bytes.length + 1
  | .lit _ => 1
  | .nil => 1
  | .ptr d => uptoBulk d + 1
  | .slice elems spare => uptoBulkAll elems + uptoBulkAll spare + 1
  | .agg parts => uptoBulkAll parts + 1
  | .iface _ d => uptoBulk d + 1
  | .map entries => uptoBulkEntries entries + 1
  | .held _ => 1
def uptoBulkAll {H : Type} : List (DataW H) → Nat
  | [] => 0
  | d :: r => uptoBulk d + uptoBulkAll r
def uptoBulkEntries {H : Type} : List (Lit × DataW H) → Nat
  | [] => 0
  | x :: r => uptoBulkEntry x + uptoBulkEntries r
def uptoBulkEntry {H : Type} : Lit × DataW H → Nat
  | (.string bytes, d) => bytes.length + uptoBulk d + 1
  | (_, d) => uptoBulk d + 1
 end
def uptoSmall : (H : Type) → List (DataW H) → Bool := fun _ ds => decide (uptoBulkAll ds ≤ 1048576)
def OpenSpec.upto (s : _root_.Go.ChangeSpec) : _root_.Go.OpenSpec := { _root_.Go.OpenSpec.ofChange s with cond := some uptoSmall }

/-- 'dustpanlaw12.StackOrder', WHERE WHAT IT READS IS OF BULK AT MOST 1048576: true; the input reads as it did. -/
def stackOrderUptoRow : OpenClaim := { program := "ytbcfeaimopijfaa", sum := "a37560f48cb4cd929657e2034007070163cd90d319c1bf18dbb90036d5a9b515", func := "dustpan/dustpanlaw12.StackOrder", spec := "stackOrder", inPlace := ["slices.overlaps[dustpan/api.Run]"], unfollowed := true, recurses := true, apart := false, narrowed := true }
def StackOrderUptoSaid : Prop := stackOrderUptoRow.holds Try.pinned (OpenSpec.upto stackOrderSpec)

/-- 'dustpanlaw12.StackLost', WHERE WHAT IT READS IS OF BULK AT MOST 1048576: true; the input reads as it did. -/
def stackLostUptoRow : OpenClaim := { program := "ytbcfeaimopijfaa", sum := "a37560f48cb4cd929657e2034007070163cd90d319c1bf18dbb90036d5a9b515", func := "dustpan/dustpanlaw12.StackLost", spec := "stackLost", inPlace := ["slices.overlaps[dustpan/api.Run]"], unfollowed := true, recurses := true, apart := false, narrowed := true }
def StackLostUptoSaid : Prop := stackLostUptoRow.holds Try.pinned (OpenSpec.upto stackLostSpec)

/-- 'dustpanlaw12.StackMay', WHERE WHAT IT READS IS OF BULK AT MOST 1048576: true; the input reads as it did. -/
def stackMayUptoRow : OpenClaim := { program := "ytbcfeaimopijfaa", sum := "a37560f48cb4cd929657e2034007070163cd90d319c1bf18dbb90036d5a9b515", func := "dustpan/dustpanlaw12.StackMay", spec := "stackMay", inPlace := ["slices.overlaps[dustpan/api.Run]"], unfollowed := true, recurses := true, apart := false, narrowed := true }
def StackMayUptoSaid : Prop := stackMayUptoRow.holds Try.pinned (OpenSpec.upto stackMaySpec)

/-- 'dustpanlaw20.WorldAlone', WHERE WHAT IT READS IS OF BULK AT MOST 1048576: true; the input reads as it did. -/
def worldAloneUptoRow : OpenClaim := { program := "ytbcfeaimopijfaa", sum := "a37560f48cb4cd929657e2034007070163cd90d319c1bf18dbb90036d5a9b515", func := "dustpan/dustpanlaw20.WorldAlone", spec := "worldAlone", inPlace := ["slices.overlaps[dustpan/api.Run]"], unfollowed := true, recurses := true, apart := false, narrowed := true }
def WorldAloneUptoSaid : Prop := worldAloneUptoRow.holds Try.pinned (OpenSpec.upto worldAloneSpec)

end Rows
end Go.Proofs.Ytbcfeaimopijfaa

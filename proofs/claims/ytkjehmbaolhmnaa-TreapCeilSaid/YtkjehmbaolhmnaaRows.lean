/-
  No cell of these rows narrows 'for every input' (looked for: loops, veiled, ifaces, maps, wideKeys, modest, calm, conditions, laid).
  DERIVED. THE GIVEN ROWS OF THIS SEAT. 3 by the template 'for every input the law returns true; each argument reads behind the call as it read before'; 0 by the template 'total and deterministic' (their statements: YtkjehmbaolhmnaaTotals.lean).
  GIVEN WITH THE SEED: the statements are not yours to turn. If you find one false, say at which input.
  Laid BY PROGRAM, IN A SANDBOX (cutbox-rows.mjs): the forced cells as the released guide's own fill.sh prints them over the translation ffb28f67f99de319… (all of the seat's roots in one cut). By AI agents, Wed Nov 11 2026. No macro, syntax, notation, axiom, sorry.
-/
import Derived.Test.YtkjehmbaolhmnaaChecked
import GoSem.Claim
import GoSem.ClaimJoined
import GoSem.ClaimMapViews
import Derived.JoinedTies
import Derived.KernelRfl
namespace Go.Proofs.Ytkjehmbaolhmnaa
/- THE CELL 'sum', in the pinned program and in every row, IS THE sha256 OF THE DUMP (.gsa) THAT YtkjehmbaolhmnaaProg.lean LOADS. Nothing in Lean hashes anything: it is a label: what it is worth is what the hold of that sum in a sandbox is worth. -/
noncomputable def Try.pinned : Pinned := { name := "ytkjehmbaolhmnaa", sum := "ffb28f67f99de31912f666eed7af77f7d7646a91045a39526e62406193b5f58a", checked := Try.checked }
namespace Rows
def none {H : Type} : Left H := { results := [], args := [] }

/-- 'dustpanlaw9.TreapHeap': WHATEVER THE INPUT: true; the input reads as it did. -/
def treapHeapSpec : ChangeSpec := { name := "treapHeap", fn := fun _ => fun
  | [d1, d2] => { results := [.lit (.bool true)], args := [d1, d2] }
  | _ => none }
def treapHeapRow : OpenClaim := { program := "ytkjehmbaolhmnaa", sum := "ffb28f67f99de31912f666eed7af77f7d7646a91045a39526e62406193b5f58a", func := "dustpan/dustpanlaw9.TreapHeap", spec := "treapHeap", unfollowed := true, recurses := true, apart := false }
def TreapHeapSaid : Prop := treapHeapRow.holds Try.pinned (OpenSpec.ofChange treapHeapSpec)

/-- ITS FALSE NEIGHBOUR: 'it returns false'. Refute it at one input. -/
def treapHeapWrong : ChangeSpec := { name := "treapHeap", fn := fun _ => fun
  | [d1, d2] => { results := [.lit (.bool false)], args := [d1, d2] }
  | _ => none }
def TreapHeapWrongFalsely : Prop := treapHeapRow.holds Try.pinned (OpenSpec.ofChange treapHeapWrong)

/-- 'dustpanlaw9.TreapBack': WHATEVER THE INPUT: true; the input reads as it did. -/
def treapBackSpec : ChangeSpec := { name := "treapBack", fn := fun _ => fun
  | [d1, d2, d3, d4] => { results := [.lit (.bool true)], args := [d1, d2, d3, d4] }
  | _ => none }
def treapBackRow : OpenClaim := { program := "ytkjehmbaolhmnaa", sum := "ffb28f67f99de31912f666eed7af77f7d7646a91045a39526e62406193b5f58a", func := "dustpan/dustpanlaw9.TreapBack", spec := "treapBack", unfollowed := true, recurses := true, apart := false }
def TreapBackSaid : Prop := treapBackRow.holds Try.pinned (OpenSpec.ofChange treapBackSpec)

/-- ITS FALSE NEIGHBOUR: 'it returns false'. Refute it at one input. -/
def treapBackWrong : ChangeSpec := { name := "treapBack", fn := fun _ => fun
  | [d1, d2, d3, d4] => { results := [.lit (.bool false)], args := [d1, d2, d3, d4] }
  | _ => none }
def TreapBackWrongFalsely : Prop := treapBackRow.holds Try.pinned (OpenSpec.ofChange treapBackWrong)

/-- 'dustpanlaw9.TreapCeil': WHATEVER THE INPUT: true; the input reads as it did. -/
def treapCeilSpec : ChangeSpec := { name := "treapCeil", fn := fun _ => fun
  | [d1, d2] => { results := [.lit (.bool true)], args := [d1, d2] }
  | _ => none }
def treapCeilRow : OpenClaim := { program := "ytkjehmbaolhmnaa", sum := "ffb28f67f99de31912f666eed7af77f7d7646a91045a39526e62406193b5f58a", func := "dustpan/dustpanlaw9.TreapCeil", spec := "treapCeil", unfollowed := true, recurses := true, apart := false }
def TreapCeilSaid : Prop := treapCeilRow.holds Try.pinned (OpenSpec.ofChange treapCeilSpec)

/-- ITS FALSE NEIGHBOUR: 'it returns false'. Refute it at one input. -/
def treapCeilWrong : ChangeSpec := { name := "treapCeil", fn := fun _ => fun
  | [d1, d2] => { results := [.lit (.bool false)], args := [d1, d2] }
  | _ => none }
def TreapCeilWrongFalsely : Prop := treapCeilRow.holds Try.pinned (OpenSpec.ofChange treapCeilWrong)

/- THE SECOND FORM. 'bulk': how many values and letters a reading holds, each counted each time it is reached (what is shared counts as often as it is met; a slice's spare places count too). A statement '..UptoSaid' is the law's where the arguments, and the package variables that the reading takes, are together of bulk at most 1048576: NARROWER than '..Said'. Prove '..Said' where nothing that the law and all that it calls make is longer than what came in: it says more and counts as full. Else prove '..UptoSaid'. A law counts once. -/
mutual
def uptoBulk {H : Type} : DataW H → Nat
  | .lit (.string bytes) => bytes.length + 1
  | .lit _ => 1
  | .nil => 1
  | .ptr d => uptoBulk d + 1
  | .slice elems spare => uptoBulkAll elems + uptoBulkAll spare + 1
  | .agg parts => uptoBulkAll parts + 1
  | .iface _ d => uptoBulk d + 1
  | .map entries => uptoBulkEntries entries + 1
  | .held _ => 1
def uptoBulkAll {H : Type} : List (DataW H) → Nat
  | [] => 0
  | d :: r => uptoBulk d + uptoBulkAll r
def uptoBulkEntries {H : Type} : List (Lit × DataW H) → Nat
  | [] => 0
  | x :: r => uptoBulkEntry x + uptoBulkEntries r
def uptoBulkEntry {H : Type} : Lit × DataW H → Nat
  | (.string bytes, d) => bytes.length + uptoBulk d + 1
  | (_, d) => uptoBulk d + 1
 end
def uptoSmall : (H : Type) → List (DataW H) → Bool := fun _ ds => decide (uptoBulkAll ds ≤ 1048576)
def OpenSpec.upto (s : _root_.Go.ChangeSpec) : _root_.Go.OpenSpec := { _root_.Go.OpenSpec.ofChange s with cond := some uptoSmall }

/-- 'dustpanlaw9.TreapHeap', WHERE WHAT IT READS IS OF BULK AT MOST 1048576: true; the input reads as it did. -/
def treapHeapUptoRow : OpenClaim := { program := "ytkjehmbaolhmnaa", sum := "ffb28f67f99de31912f666eed7af77f7d7646a91045a39526e62406193b5f58a", func := "dustpan/dustpanlaw9.TreapHeap", spec := "treapHeap", unfollowed := true, recurses := true, apart := false, narrowed := true }
def TreapHeapUptoSaid : Prop := treapHeapUptoRow.holds Try.pinned (OpenSpec.upto treapHeapSpec)

/-- 'dustpanlaw9.TreapBack', WHERE WHAT IT READS IS OF BULK AT MOST 1048576: true; the input reads as it did. -/
def treapBackUptoRow : OpenClaim := { program := "ytkjehmbaolhmnaa", sum := "ffb28f67f99de31912f666eed7af77f7d7646a91045a39526e62406193b5f58a", func := "dustpan/dustpanlaw9.TreapBack", spec := "treapBack", unfollowed := true, recurses := true, apart := false, narrowed := true }
def TreapBackUptoSaid : Prop := treapBackUptoRow.holds Try.pinned (OpenSpec.upto treapBackSpec)

/-- 'dustpanlaw9.TreapCeil', WHERE WHAT IT READS IS OF BULK AT MOST 1048576: true; the input reads as it did. -/
def treapCeilUptoRow : OpenClaim := { program := "ytkjehmbaolhmnaa", sum := "ffb28f67f99de31912f666eed7af77f7d7646a91045a39526e62406193b5f58a", func := "dustpan/dustpanlaw9.TreapCeil", spec := "treapCeil", unfollowed := true, recurses := true, apart := false, narrowed := true }
def TreapCeilUptoSaid : Prop := treapCeilUptoRow.holds Try.pinned (OpenSpec.upto treapCeilSpec)

end Rows
end Go.Proofs.Ytkjehmbaolhmnaa

/-
  No cell of these rows narrows 'for every input' (looked for: loops, veiled, ifaces, maps, wideKeys, modest, calm, conditions, laid).
  DERIVED. THE GIVEN ROWS OF THIS SEAT. 5 by the template 'for every input the law returns true; each argument reads behind the call as it read before'; 0 by the template 'total and deterministic' (their statements: YtiohlcejkcccpaaTotals.lean).
  GIVEN WITH THE SEED: the statements are not yours to turn. If you find one false, say at which input.
  Laid BY PROGRAM, IN A SANDBOX (cutbox-rows.mjs): the forced cells as the released guide's own fill.sh prints them over the translation 9e3d19fd3205d4b5… (all of the seat's roots in one cut). By AI agents, Wed Nov 11 2026. No macro, syntax, notation, axiom, sorry.
-/
import Derived.Test.YtiohlcejkcccpaaChecked
import GoSem.Claim
import GoSem.ClaimJoined
import GoSem.ClaimMapViews
import Derived.JoinedTies
import Derived.KernelRfl
namespace Go.Proofs.Ytiohlcejkcccpaa
/- THE CELL 'sum', in the pinned program and in every row, IS THE sha256 OF THE DUMP (.gsa) THAT YtiohlcejkcccpaaProg.lean LOADS. Nothing in Lean hashes anything: it is a label: what it is worth is what the hold of that sum in a sandbox is worth. -/
noncomputable def Try.pinned : Pinned := { name := "ytiohlcejkcccpaa", sum := "9e3d19fd3205d4b5a9c6cab2dee162617b21510255305584406b8b78e1a4e882", checked := Try.checked }
namespace Rows
def none {H : Type} : Left H := { results := [], args := [] }

/-- 'dustpanlaw8.LayoutOne': WHATEVER THE INPUT: true; the input reads as it did. -/
def layoutOneSpec : ChangeSpec := { name := "layoutOne", fn := fun _ => fun
  | [d1, d2, d3, d4] => { results := [.lit (.bool true)], args := [d1, d2, d3, d4] }
  | _ => none }
def layoutOneRow : OpenClaim := { program := "ytiohlcejkcccpaa", sum := "9e3d19fd3205d4b5a9c6cab2dee162617b21510255305584406b8b78e1a4e882", func := "dustpan/dustpanlaw8.LayoutOne", spec := "layoutOne", apart := false }
def LayoutOneSaid : Prop := layoutOneRow.holds Try.pinned (OpenSpec.ofChange layoutOneSpec)

/-- ITS FALSE NEIGHBOUR: 'it returns false'. Refute it at one input. -/
def layoutOneWrong : ChangeSpec := { name := "layoutOne", fn := fun _ => fun
  | [d1, d2, d3, d4] => { results := [.lit (.bool false)], args := [d1, d2, d3, d4] }
  | _ => none }
def LayoutOneWrongFalsely : Prop := layoutOneRow.holds Try.pinned (OpenSpec.ofChange layoutOneWrong)

/-- 'dustpanlaw8.LayoutAll': WHATEVER THE INPUT: true; the input reads as it did. -/
def layoutAllSpec : ChangeSpec := { name := "layoutAll", fn := fun _ => fun
  | [d1, d2, d3, d4, d5] => { results := [.lit (.bool true)], args := [d1, d2, d3, d4, d5] }
  | _ => none }
def layoutAllRow : OpenClaim := { program := "ytiohlcejkcccpaa", sum := "9e3d19fd3205d4b5a9c6cab2dee162617b21510255305584406b8b78e1a4e882", func := "dustpan/dustpanlaw8.LayoutAll", spec := "layoutAll", apart := false }
def LayoutAllSaid : Prop := layoutAllRow.holds Try.pinned (OpenSpec.ofChange layoutAllSpec)

/-- ITS FALSE NEIGHBOUR: 'it returns false'. Refute it at one input. -/
def layoutAllWrong : ChangeSpec := { name := "layoutAll", fn := fun _ => fun
  | [d1, d2, d3, d4, d5] => { results := [.lit (.bool false)], args := [d1, d2, d3, d4, d5] }
  | _ => none }
def LayoutAllWrongFalsely : Prop := layoutAllRow.holds Try.pinned (OpenSpec.ofChange layoutAllWrong)

/-- 'dustpanlaw8.LayoutNames': WHATEVER THE INPUT: true; the input reads as it did. -/
def layoutNamesSpec : ChangeSpec := { name := "layoutNames", fn := fun _ => fun
  | [d1, d2, d3, d4, d5] => { results := [.lit (.bool true)], args := [d1, d2, d3, d4, d5] }
  | _ => none }
def layoutNamesRow : OpenClaim := { program := "ytiohlcejkcccpaa", sum := "9e3d19fd3205d4b5a9c6cab2dee162617b21510255305584406b8b78e1a4e882", func := "dustpan/dustpanlaw8.LayoutNames", spec := "layoutNames", apart := false }
def LayoutNamesSaid : Prop := layoutNamesRow.holds Try.pinned (OpenSpec.ofChange layoutNamesSpec)

/-- ITS FALSE NEIGHBOUR: 'it returns false'. Refute it at one input. -/
def layoutNamesWrong : ChangeSpec := { name := "layoutNames", fn := fun _ => fun
  | [d1, d2, d3, d4, d5] => { results := [.lit (.bool false)], args := [d1, d2, d3, d4, d5] }
  | _ => none }
def LayoutNamesWrongFalsely : Prop := layoutNamesRow.holds Try.pinned (OpenSpec.ofChange layoutNamesWrong)

/-- 'dustpanlaw8.LayoutWords': WHATEVER THE INPUT: true; the input reads as it did. -/
def layoutWordsSpec : ChangeSpec := { name := "layoutWords", fn := fun _ => fun
  | [d1, d2, d3] => { results := [.lit (.bool true)], args := [d1, d2, d3] }
  | _ => none }
def layoutWordsRow : OpenClaim := { program := "ytiohlcejkcccpaa", sum := "9e3d19fd3205d4b5a9c6cab2dee162617b21510255305584406b8b78e1a4e882", func := "dustpan/dustpanlaw8.LayoutWords", spec := "layoutWords", apart := false }
def LayoutWordsSaid : Prop := layoutWordsRow.holds Try.pinned (OpenSpec.ofChange layoutWordsSpec)

/-- ITS FALSE NEIGHBOUR: 'it returns false'. Refute it at one input. -/
def layoutWordsWrong : ChangeSpec := { name := "layoutWords", fn := fun _ => fun
  | [d1, d2, d3] => { results := [.lit (.bool false)], args := [d1, d2, d3] }
  | _ => none }
def LayoutWordsWrongFalsely : Prop := layoutWordsRow.holds Try.pinned (OpenSpec.ofChange layoutWordsWrong)

/-- 'dustpanlaw8.LayoutNone': WHATEVER THE INPUT: true; the input reads as it did. -/
def layoutNoneSpec : ChangeSpec := { name := "layoutNone", fn := fun _ => fun
  | [d1, d2, d3, d4, d5] => { results := [.lit (.bool true)], args := [d1, d2, d3, d4, d5] }
  | _ => none }
def layoutNoneRow : OpenClaim := { program := "ytiohlcejkcccpaa", sum := "9e3d19fd3205d4b5a9c6cab2dee162617b21510255305584406b8b78e1a4e882", func := "dustpan/dustpanlaw8.LayoutNone", spec := "layoutNone", apart := false }
def LayoutNoneSaid : Prop := layoutNoneRow.holds Try.pinned (OpenSpec.ofChange layoutNoneSpec)

/-- ITS FALSE NEIGHBOUR: 'it returns false'. Refute it at one input. -/
def layoutNoneWrong : ChangeSpec := { name := "layoutNone", fn := fun _ => fun
  | [d1, d2, d3, d4, d5] => { results := [.lit (.bool false)], args := [d1, d2, d3, d4, d5] }
  | _ => none }
def LayoutNoneWrongFalsely : Prop := layoutNoneRow.holds Try.pinned (OpenSpec.ofChange layoutNoneWrong)

/- THE SECOND FORM. 'bulk': how many values and letters a reading holds, each counted each time it is reached (what is shared counts as often as it is met; a slice's spare places count too). A statement '..UptoSaid' is the law's where the arguments, and the package variables that the reading takes, are together of bulk at most 1048576: NARROWER than '..Said'. Prove '..Said' where nothing that the law and all that it calls make is longer than what came in: it says more and counts as full. Else prove '..UptoSaid'. A law counts once. -/
mutual
def uptoBulk {H : Type} : DataW H → Nat
  | .lit (.string bytes) => bytes.length + 1
  | .lit _ => 1
  | .nil => 1
  | .ptr d => uptoBulk d + 1
  | .slice elems spare => uptoBulkAll elems + uptoBulkAll spare + 1
  | .agg parts => uptoBulkAll parts + 1
  | .iface _ d => uptoBulk d + 1
  | .map entries => uptoBulkEntries entries + 1
  | .held _ => 1
def uptoBulkAll {H : Type} : List (DataW H) → Nat
  | [] => 0
  | d :: r => uptoBulk d + uptoBulkAll r
def uptoBulkEntries {H : Type} : List (Lit × DataW H) → Nat
  | [] => 0
  | x :: r => uptoBulkEntry x + uptoBulkEntries r
def uptoBulkEntry {H : Type} : Lit × DataW H → Nat
  | (.string bytes, d) => bytes.length + uptoBulk d + 1
  | (_, d) => uptoBulk d + 1
 end
def uptoSmall : (H : Type) → List (DataW H) → Bool := fun _ ds => decide (uptoBulkAll ds ≤ 1048576)
def OpenSpec.upto (s : _root_.Go.ChangeSpec) : _root_.Go.OpenSpec := { _root_.Go.OpenSpec.ofChange s with cond := some uptoSmall }

/-- 'dustpanlaw8.LayoutOne', WHERE WHAT IT READS IS OF BULK AT MOST 1048576: true; the input reads as it did. -/
def layoutOneUptoRow : OpenClaim := { program := "ytiohlcejkcccpaa", sum := "9e3d19fd3205d4b5a9c6cab2dee162617b21510255305584406b8b78e1a4e882", func := "dustpan/dustpanlaw8.LayoutOne", spec := "layoutOne", apart := false, narrowed := true }
def LayoutOneUptoSaid : Prop := layoutOneUptoRow.holds Try.pinned (OpenSpec.upto layoutOneSpec)

/-- 'dustpanlaw8.LayoutAll', WHERE WHAT IT READS IS OF BULK AT MOST 1048576: true; the input reads as it did. -/
def layoutAllUptoRow : OpenClaim := { program := "ytiohlcejkcccpaa", sum := "9e3d19fd3205d4b5a9c6cab2dee162617b21510255305584406b8b78e1a4e882", func := "dustpan/dustpanlaw8.LayoutAll", spec := "layoutAll", apart := false, narrowed := true }
def LayoutAllUptoSaid : Prop := layoutAllUptoRow.holds Try.pinned (OpenSpec.upto layoutAllSpec)

/-- 'dustpanlaw8.LayoutNames', WHERE WHAT IT READS IS OF BULK AT MOST 1048576: true; the input reads as it did. -/
def layoutNamesUptoRow : OpenClaim := { program := "ytiohlcejkcccpaa", sum := "9e3d19fd3205d4b5a9c6cab2dee162617b21510255305584406b8b78e1a4e882", func := "dustpan/dustpanlaw8.LayoutNames", spec := "layoutNames", apart := false, narrowed := true }
def LayoutNamesUptoSaid : Prop := layoutNamesUptoRow.holds Try.pinned (OpenSpec.upto layoutNamesSpec)

/-- 'dustpanlaw8.LayoutWords', WHERE WHAT IT READS IS OF BULK AT MOST 1048576: true; the input reads as it did. -/
def layoutWordsUptoRow : OpenClaim := { program := "ytiohlcejkcccpaa", sum := "9e3d19fd3205d4b5a9c6cab2dee162617b21510255305584406b8b78e1a4e882", func := "dustpan/dustpanlaw8.LayoutWords", spec := "layoutWords", apart := false, narrowed := true }
def LayoutWordsUptoSaid : Prop := layoutWordsUptoRow.holds Try.pinned (OpenSpec.upto layoutWordsSpec)

/-- 'dustpanlaw8.LayoutNone', WHERE WHAT IT READS IS OF BULK AT MOST 1048576: true; the input reads as it did. -/
def layoutNoneUptoRow : OpenClaim := { program := "ytiohlcejkcccpaa", sum := "9e3d19fd3205d4b5a9c6cab2dee162617b21510255305584406b8b78e1a4e882", func := "dustpan/dustpanlaw8.LayoutNone", spec := "layoutNone", apart := false, narrowed := true }
def LayoutNoneUptoSaid : Prop := layoutNoneUptoRow.holds Try.pinned (OpenSpec.upto layoutNoneSpec)

end Rows
end Go.Proofs.Ytiohlcejkcccpaa

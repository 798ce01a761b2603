/-
  No cell of these rows narrows 'for every input' (looked for: loops, veiled, ifaces, maps, wideKeys, modest, calm, conditions, laid).
  DERIVED. THE GIVEN ROWS OF THIS SEAT. 9 by the template 'for every input the law returns true; each argument reads behind the call as it read before'; 0 by the template 'total and deterministic' (their statements: YtilmblgcncbgiaaTotals.lean).
  GIVEN WITH THE SEED: the statements are not yours to turn. If you find one false, say at which input.
  Laid BY PROGRAM, IN A SANDBOX (cutbox-rows.mjs): the forced cells as the released guide's own fill.sh prints them over the translation 8da1a7a3425c1859… (all of the seat's roots in one cut). By AI agents, Wed Nov 11 2026. No macro, syntax, notation, axiom, sorry.
-/
import Derived.Test.YtilmblgcncbgiaaChecked
import GoSem.Claim
import GoSem.ClaimJoined
import GoSem.ClaimMapViews
import Derived.JoinedTies
import Derived.KernelRfl
namespace Go.Proofs.Ytilmblgcncbgiaa
/- THE CELL 'sum', in the pinned program and in every row, IS THE sha256 OF THE DUMP (.gsa) THAT YtilmblgcncbgiaaProg.lean LOADS. Nothing in Lean hashes anything: it is a label: what it is worth is what the hold of that sum in a sandbox is worth. -/
noncomputable def Try.pinned : Pinned := { name := "ytilmblgcncbgiaa", sum := "8da1a7a3425c185976f2dcd1974702a5edf3815172ad79906e5cb66bcd02ce60", checked := Try.checked }
namespace Rows
def none {H : Type} : Left H := { results := [], args := [] }

/-- 'dustpanlaw6.TagAll': WHATEVER THE INPUT: true; the input reads as it did. -/
def tagAllSpec : ChangeSpec := { name := "tagAll", fn := fun _ => fun
  | [d1, d2, d3] => { results := [.lit (.bool true)], args := [d1, d2, d3] }
  | _ => none }
def tagAllRow : OpenClaim := { program := "ytilmblgcncbgiaa", sum := "8da1a7a3425c185976f2dcd1974702a5edf3815172ad79906e5cb66bcd02ce60", func := "dustpan/dustpanlaw6.TagAll", spec := "tagAll", apart := false }
def TagAllSaid : Prop := tagAllRow.holds Try.pinned (OpenSpec.ofChange tagAllSpec)

/-- ITS FALSE NEIGHBOUR: 'it returns false'. Refute it at one input. -/
def tagAllWrong : ChangeSpec := { name := "tagAll", fn := fun _ => fun
  | [d1, d2, d3] => { results := [.lit (.bool false)], args := [d1, d2, d3] }
  | _ => none }
def TagAllWrongFalsely : Prop := tagAllRow.holds Try.pinned (OpenSpec.ofChange tagAllWrong)

/-- 'dustpanlaw6.TagBack': WHATEVER THE INPUT: true; the input reads as it did. -/
def tagBackSpec : ChangeSpec := { name := "tagBack", fn := fun _ => fun
  | [d1, d2, d3] => { results := [.lit (.bool true)], args := [d1, d2, d3] }
  | _ => none }
def tagBackRow : OpenClaim := { program := "ytilmblgcncbgiaa", sum := "8da1a7a3425c185976f2dcd1974702a5edf3815172ad79906e5cb66bcd02ce60", func := "dustpan/dustpanlaw6.TagBack", spec := "tagBack", apart := false }
def TagBackSaid : Prop := tagBackRow.holds Try.pinned (OpenSpec.ofChange tagBackSpec)

/-- ITS FALSE NEIGHBOUR: 'it returns false'. Refute it at one input. -/
def tagBackWrong : ChangeSpec := { name := "tagBack", fn := fun _ => fun
  | [d1, d2, d3] => { results := [.lit (.bool false)], args := [d1, d2, d3] }
  | _ => none }
def TagBackWrongFalsely : Prop := tagBackRow.holds Try.pinned (OpenSpec.ofChange tagBackWrong)

/-- 'dustpanlaw6.TagRow': WHATEVER THE INPUT: true; the input reads as it did. -/
def tagRowSpec : ChangeSpec := { name := "tagRow", fn := fun _ => fun
  | [d1, d2] => { results := [.lit (.bool true)], args := [d1, d2] }
  | _ => none }
def tagRowRow : OpenClaim := { program := "ytilmblgcncbgiaa", sum := "8da1a7a3425c185976f2dcd1974702a5edf3815172ad79906e5cb66bcd02ce60", func := "dustpan/dustpanlaw6.TagRow", spec := "tagRow", apart := false }
def TagRowSaid : Prop := tagRowRow.holds Try.pinned (OpenSpec.ofChange tagRowSpec)

/-- ITS FALSE NEIGHBOUR: 'it returns false'. Refute it at one input. -/
def tagRowWrong : ChangeSpec := { name := "tagRow", fn := fun _ => fun
  | [d1, d2] => { results := [.lit (.bool false)], args := [d1, d2] }
  | _ => none }
def TagRowWrongFalsely : Prop := tagRowRow.holds Try.pinned (OpenSpec.ofChange tagRowWrong)

/-- 'dustpanlaw6.TagNone': WHATEVER THE INPUT: true; the input reads as it did. -/
def tagNoneSpec : ChangeSpec := { name := "tagNone", fn := fun _ => fun
  | [d1, d2, d3] => { results := [.lit (.bool true)], args := [d1, d2, d3] }
  | _ => none }
def tagNoneRow : OpenClaim := { program := "ytilmblgcncbgiaa", sum := "8da1a7a3425c185976f2dcd1974702a5edf3815172ad79906e5cb66bcd02ce60", func := "dustpan/dustpanlaw6.TagNone", spec := "tagNone", apart := false }
def TagNoneSaid : Prop := tagNoneRow.holds Try.pinned (OpenSpec.ofChange tagNoneSpec)

/-- ITS FALSE NEIGHBOUR: 'it returns false'. Refute it at one input. -/
def tagNoneWrong : ChangeSpec := { name := "tagNone", fn := fun _ => fun
  | [d1, d2, d3] => { results := [.lit (.bool false)], args := [d1, d2, d3] }
  | _ => none }
def TagNoneWrongFalsely : Prop := tagNoneRow.holds Try.pinned (OpenSpec.ofChange tagNoneWrong)

/-- 'dustpanlaw7.PhaseBack': WHATEVER THE INPUT: true; the input reads as it did. -/
def phaseBackSpec : ChangeSpec := { name := "phaseBack", fn := fun _ => fun
  | [d1, d2] => { results := [.lit (.bool true)], args := [d1, d2] }
  | _ => none }
def phaseBackRow : OpenClaim := { program := "ytilmblgcncbgiaa", sum := "8da1a7a3425c185976f2dcd1974702a5edf3815172ad79906e5cb66bcd02ce60", func := "dustpan/dustpanlaw7.PhaseBack", spec := "phaseBack", apart := false }
def PhaseBackSaid : Prop := phaseBackRow.holds Try.pinned (OpenSpec.ofChange phaseBackSpec)

/-- ITS FALSE NEIGHBOUR: 'it returns false'. Refute it at one input. -/
def phaseBackWrong : ChangeSpec := { name := "phaseBack", fn := fun _ => fun
  | [d1, d2] => { results := [.lit (.bool false)], args := [d1, d2] }
  | _ => none }
def PhaseBackWrongFalsely : Prop := phaseBackRow.holds Try.pinned (OpenSpec.ofChange phaseBackWrong)

/-- 'dustpanlaw7.PhaseOnce': WHATEVER THE INPUT: true; the input reads as it did. -/
def phaseOnceSpec : ChangeSpec := { name := "phaseOnce", fn := fun _ => fun
  | [d1, d2] => { results := [.lit (.bool true)], args := [d1, d2] }
  | _ => none }
def phaseOnceRow : OpenClaim := { program := "ytilmblgcncbgiaa", sum := "8da1a7a3425c185976f2dcd1974702a5edf3815172ad79906e5cb66bcd02ce60", func := "dustpan/dustpanlaw7.PhaseOnce", spec := "phaseOnce", apart := false }
def PhaseOnceSaid : Prop := phaseOnceRow.holds Try.pinned (OpenSpec.ofChange phaseOnceSpec)

/-- ITS FALSE NEIGHBOUR: 'it returns false'. Refute it at one input. -/
def phaseOnceWrong : ChangeSpec := { name := "phaseOnce", fn := fun _ => fun
  | [d1, d2] => { results := [.lit (.bool false)], args := [d1, d2] }
  | _ => none }
def PhaseOnceWrongFalsely : Prop := phaseOnceRow.holds Try.pinned (OpenSpec.ofChange phaseOnceWrong)

/-- 'dustpanlaw7.PhaseOther': WHATEVER THE INPUT: true; the input reads as it did. -/
def phaseOtherSpec : ChangeSpec := { name := "phaseOther", fn := fun _ => fun
  | [d1, d2, d3] => { results := [.lit (.bool true)], args := [d1, d2, d3] }
  | _ => none }
def phaseOtherRow : OpenClaim := { program := "ytilmblgcncbgiaa", sum := "8da1a7a3425c185976f2dcd1974702a5edf3815172ad79906e5cb66bcd02ce60", func := "dustpan/dustpanlaw7.PhaseOther", spec := "phaseOther", apart := false }
def PhaseOtherSaid : Prop := phaseOtherRow.holds Try.pinned (OpenSpec.ofChange phaseOtherSpec)

/-- ITS FALSE NEIGHBOUR: 'it returns false'. Refute it at one input. -/
def phaseOtherWrong : ChangeSpec := { name := "phaseOther", fn := fun _ => fun
  | [d1, d2, d3] => { results := [.lit (.bool false)], args := [d1, d2, d3] }
  | _ => none }
def PhaseOtherWrongFalsely : Prop := phaseOtherRow.holds Try.pinned (OpenSpec.ofChange phaseOtherWrong)

/-- 'dustpanlaw7.PhaseAll': WHATEVER THE INPUT: true; the input reads as it did. -/
def phaseAllSpec : ChangeSpec := { name := "phaseAll", fn := fun _ => fun
  | [d1, d2, d3] => { results := [.lit (.bool true)], args := [d1, d2, d3] }
  | _ => none }
def phaseAllRow : OpenClaim := { program := "ytilmblgcncbgiaa", sum := "8da1a7a3425c185976f2dcd1974702a5edf3815172ad79906e5cb66bcd02ce60", func := "dustpan/dustpanlaw7.PhaseAll", spec := "phaseAll", apart := false }
def PhaseAllSaid : Prop := phaseAllRow.holds Try.pinned (OpenSpec.ofChange phaseAllSpec)

/-- ITS FALSE NEIGHBOUR: 'it returns false'. Refute it at one input. -/
def phaseAllWrong : ChangeSpec := { name := "phaseAll", fn := fun _ => fun
  | [d1, d2, d3] => { results := [.lit (.bool false)], args := [d1, d2, d3] }
  | _ => none }
def PhaseAllWrongFalsely : Prop := phaseAllRow.holds Try.pinned (OpenSpec.ofChange phaseAllWrong)

/-- 'dustpanlaw7.PhaseWalk': WHATEVER THE INPUT: true; the input reads as it did. -/
def phaseWalkSpec : ChangeSpec := { name := "phaseWalk", fn := fun _ => fun
  | [d1, d2] => { results := [.lit (.bool true)], args := [d1, d2] }
  | _ => none }
def phaseWalkRow : OpenClaim := { program := "ytilmblgcncbgiaa", sum := "8da1a7a3425c185976f2dcd1974702a5edf3815172ad79906e5cb66bcd02ce60", func := "dustpan/dustpanlaw7.PhaseWalk", spec := "phaseWalk", apart := false }
def PhaseWalkSaid : Prop := phaseWalkRow.holds Try.pinned (OpenSpec.ofChange phaseWalkSpec)

/-- ITS FALSE NEIGHBOUR: 'it returns false'. Refute it at one input. -/
def phaseWalkWrong : ChangeSpec := { name := "phaseWalk", fn := fun _ => fun
  | [d1, d2] => { results := [.lit (.bool false)], args := [d1, d2] }
  | _ => none }
def PhaseWalkWrongFalsely : Prop := phaseWalkRow.holds Try.pinned (OpenSpec.ofChange phaseWalkWrong)

/- THE SECOND FORM. 'bulk': how many values and letters a reading holds, each counted each time it is reached (what is shared counts as often as it is met; a slice's spare places count too). A statement '..UptoSaid' is the law's where the arguments, and the package variables that the reading takes, are together of bulk at most 1048576: NARROWER than '..Said'. Prove '..Said' where nothing that the law and all that it calls make is longer than what came in: it says more and counts as full. Else prove '..UptoSaid'. A law counts once. -/
mutual
def uptoBulk {H : Type} : DataW H → Nat
  | .lit (.string bytes) => bytes.length + 1
  | .lit _ => 1
  | .nil => 1
  | .ptr d => uptoBulk d + 1
  | .slice elems spare => uptoBulkAll elems + uptoBulkAll spare + 1
  | .agg parts => uptoBulkAll parts + 1
  | .iface _ d => uptoBulk d + 1
  | .map entries => uptoBulkEntries entries + 1
  | .held _ => 1
def uptoBulkAll {H : Type} : List (DataW H) → Nat
  | [] => 0
  | d :: r => uptoBulk d + uptoBulkAll r
def uptoBulkEntries {H : Type} : List (Lit × DataW H) → Nat
  | [] => 0
  | x :: r => uptoBulkEntry x + uptoBulkEntries r
def uptoBulkEntry {H : Type} : Lit × DataW H → Nat
  | (.string bytes, d) => bytes.length + uptoBulk d + 1
  | (_, d) => uptoBulk d + 1
 end
def uptoSmall : (H : Type) → List (DataW H) → Bool := fun _ ds => decide (uptoBulkAll ds ≤ 1048576)
def OpenSpec.upto (s : _root_.Go.ChangeSpec) : _root_.Go.OpenSpec := { _root_.Go.OpenSpec.ofChange s with cond := some uptoSmall }

/-- 'dustpanlaw6.TagAll', WHERE WHAT IT READS IS OF BULK AT MOST 1048576: true; the input reads as it did. -/
def tagAllUptoRow : OpenClaim := { program := "ytilmblgcncbgiaa", sum := "8da1a7a3425c185976f2dcd1974702a5edf3815172ad79906e5cb66bcd02ce60", func := "dustpan/dustpanlaw6.TagAll", spec := "tagAll", apart := false, narrowed := true }
def TagAllUptoSaid : Prop := tagAllUptoRow.holds Try.pinned (OpenSpec.upto tagAllSpec)

/-- 'dustpanlaw6.TagBack', WHERE WHAT IT READS IS OF BULK AT MOST 1048576: true; the input reads as it did. -/
def tagBackUptoRow : OpenClaim := { program := "ytilmblgcncbgiaa", sum := "8da1a7a3425c185976f2dcd1974702a5edf3815172ad79906e5cb66bcd02ce60", func := "dustpan/dustpanlaw6.TagBack", spec := "tagBack", apart := false, narrowed := true }
def TagBackUptoSaid : Prop := tagBackUptoRow.holds Try.pinned (OpenSpec.upto tagBackSpec)

/-- 'dustpanlaw6.TagRow', WHERE WHAT IT READS IS OF BULK AT MOST 1048576: true; the input reads as it did. -/
def tagRowUptoRow : OpenClaim := { program := "ytilmblgcncbgiaa", sum := "8da1a7a3425c185976f2dcd1974702a5edf3815172ad79906e5cb66bcd02ce60", func := "dustpan/dustpanlaw6.TagRow", spec := "tagRow", apart := false, narrowed := true }
def TagRowUptoSaid : Prop := tagRowUptoRow.holds Try.pinned (OpenSpec.upto tagRowSpec)

/-- 'dustpanlaw6.TagNone', WHERE WHAT IT READS IS OF BULK AT MOST 1048576: true; the input reads as it did. -/
def tagNoneUptoRow : OpenClaim := { program := "ytilmblgcncbgiaa", sum := "8da1a7a3425c185976f2dcd1974702a5edf3815172ad79906e5cb66bcd02ce60", func := "dustpan/dustpanlaw6.TagNone", spec := "tagNone", apart := false, narrowed := true }
def TagNoneUptoSaid : Prop := tagNoneUptoRow.holds Try.pinned (OpenSpec.upto tagNoneSpec)

/-- 'dustpanlaw7.PhaseBack', WHERE WHAT IT READS IS OF BULK AT MOST 1048576: true; the input reads as it did. -/
def phaseBackUptoRow : OpenClaim := { program := "ytilmblgcncbgiaa", sum := "8da1a7a3425c185976f2dcd1974702a5edf3815172ad79906e5cb66bcd02ce60", func := "dustpan/dustpanlaw7.PhaseBack", spec := "phaseBack", apart := false, narrowed := true }
def PhaseBackUptoSaid : Prop := phaseBackUptoRow.holds Try.pinned (OpenSpec.upto phaseBackSpec)

/-- 'dustpanlaw7.PhaseOnce', WHERE WHAT IT READS IS OF BULK AT MOST 1048576: true; the input reads as it did. -/
def phaseOnceUptoRow : OpenClaim := { program := "ytilmblgcncbgiaa", sum := "8da1a7a3425c185976f2dcd1974702a5edf3815172ad79906e5cb66bcd02ce60", func := "dustpan/dustpanlaw7.PhaseOnce", spec := "phaseOnce", apart := false, narrowed := true }
def PhaseOnceUptoSaid : Prop := phaseOnceUptoRow.holds Try.pinned (OpenSpec.upto phaseOnceSpec)

/-- 'dustpanlaw7.PhaseOther', WHERE WHAT IT READS IS OF BULK AT MOST 1048576: true; the input reads as it did. -/
def phaseOtherUptoRow : OpenClaim := { program := "ytilmblgcncbgiaa", sum := "8da1a7a3425c185976f2dcd1974702a5edf3815172ad79906e5cb66bcd02ce60", func := "dustpan/dustpanlaw7.PhaseOther", spec := "phaseOther", apart := false, narrowed := true }
def PhaseOtherUptoSaid : Prop := phaseOtherUptoRow.holds Try.pinned (OpenSpec.upto phaseOtherSpec)

/-- 'dustpanlaw7.PhaseAll', WHERE WHAT IT READS IS OF BULK AT MOST 1048576: true; the input reads as it did. -/
def phaseAllUptoRow : OpenClaim := { program := "ytilmblgcncbgiaa", sum := "8da1a7a3425c185976f2dcd1974702a5edf3815172ad79906e5cb66bcd02ce60", func := "dustpan/dustpanlaw7.PhaseAll", spec := "phaseAll", apart := false, narrowed := true }
def PhaseAllUptoSaid : Prop := phaseAllUptoRow.holds Try.pinned (OpenSpec.upto phaseAllSpec)

/-- 'dustpanlaw7.PhaseWalk', WHERE WHAT IT READS IS OF BULK AT MOST 1048576: true; the input reads as it did. -/
def phaseWalkUptoRow : OpenClaim := { program := "ytilmblgcncbgiaa", sum := "8da1a7a3425c185976f2dcd1974702a5edf3815172ad79906e5cb66bcd02ce60", func := "dustpan/dustpanlaw7.PhaseWalk", spec := "phaseWalk", apart := false, narrowed := true }
def PhaseWalkUptoSaid : Prop := phaseWalkUptoRow.holds Try.pinned (OpenSpec.upto phaseWalkSpec)

end Rows
end Go.Proofs.Ytilmblgcncbgiaa

/-
  No cell of these rows narrows 'for every input' (looked for: loops, veiled, ifaces, maps, wideKeys, modest, calm, conditions, laid).
  DERIVED. THE GIVEN ROWS OF THIS SEAT. 5 by the template 'for every input the law returns true; each argument reads behind the call as it read before'; 0 by the template 'total and deterministic' (their statements: YtkfjhdjllnihnaaTotals.lean).
  GIVEN WITH THE SEED: the statements are not yours to turn. If you find one false, say at which input.
  Laid BY PROGRAM, IN A SANDBOX (cutbox-rows.mjs): the forced cells as the released guide's own fill.sh prints them over the translation 596ecd1601a7a293… (all of the seat's roots in one cut). By AI agents, Wed Nov 11 2026. No macro, syntax, notation, axiom, sorry.
-/
import Derived.Test.YtkfjhdjllnihnaaChecked
import GoSem.Claim
import GoSem.ClaimJoined
import GoSem.ClaimMapViews
import Derived.JoinedTies
import Derived.KernelRfl
namespace Go.Proofs.Ytkfjhdjllnihnaa
/- THE CELL 'sum', in the pinned program and in every row, IS THE sha256 OF THE DUMP (.gsa) THAT YtkfjhdjllnihnaaProg.lean LOADS. Nothing in Lean hashes anything: it is a label: what it is worth is what the hold of that sum in a sandbox is worth. -/
noncomputable def Try.pinned : Pinned := { name := "ytkfjhdjllnihnaa", sum := "596ecd1601a7a293f876a16b4247d6a481a29af1ed35e509a7e1045b7645269d", checked := Try.checked }
namespace Rows
def none {H : Type} : Left H := { results := [], args := [] }

/-- 'dustpanlaw2.StoreCas': WHATEVER THE INPUT: true; the input reads as it did. -/
def storeCasSpec : ChangeSpec := { name := "storeCas", fn := fun _ => fun
  | [d1, d2, d3, d4, d5] => { results := [.lit (.bool true)], args := [d1, d2, d3, d4, d5] }
  | _ => none }
def storeCasRow : OpenClaim := { program := "ytkfjhdjllnihnaa", sum := "596ecd1601a7a293f876a16b4247d6a481a29af1ed35e509a7e1045b7645269d", func := "dustpan/dustpanlaw2.StoreCas", spec := "storeCas", apart := false }
def StoreCasSaid : Prop := storeCasRow.holds Try.pinned (OpenSpec.ofChange storeCasSpec)

/-- ITS FALSE NEIGHBOUR: 'it returns false'. Refute it at one input. -/
def storeCasWrong : ChangeSpec := { name := "storeCas", fn := fun _ => fun
  | [d1, d2, d3, d4, d5] => { results := [.lit (.bool false)], args := [d1, d2, d3, d4, d5] }
  | _ => none }
def StoreCasWrongFalsely : Prop := storeCasRow.holds Try.pinned (OpenSpec.ofChange storeCasWrong)

/-- 'dustpanlaw2.StoreNew': WHATEVER THE INPUT: true; the input reads as it did. -/
def storeNewSpec : ChangeSpec := { name := "storeNew", fn := fun _ => fun
  | [d] => { results := [.lit (.bool true)], args := [d] }
  | _ => none }
def storeNewRow : OpenClaim := { program := "ytkfjhdjllnihnaa", sum := "596ecd1601a7a293f876a16b4247d6a481a29af1ed35e509a7e1045b7645269d", func := "dustpan/dustpanlaw2.StoreNew", spec := "storeNew", apart := false }
def StoreNewSaid : Prop := storeNewRow.holds Try.pinned (OpenSpec.ofChange storeNewSpec)

/-- ITS FALSE NEIGHBOUR: 'it returns false'. Refute it at one input. -/
def storeNewWrong : ChangeSpec := { name := "storeNew", fn := fun _ => fun
  | [d] => { results := [.lit (.bool false)], args := [d] }
  | _ => none }
def StoreNewWrongFalsely : Prop := storeNewRow.holds Try.pinned (OpenSpec.ofChange storeNewWrong)

/-- 'dustpanlaw2.StoreApart': WHATEVER THE INPUT: true; the input reads as it did. -/
def storeApartSpec : ChangeSpec := { name := "storeApart", fn := fun _ => fun
  | [d] => { results := [.lit (.bool true)], args := [d] }
  | _ => none }
def storeApartRow : OpenClaim := { program := "ytkfjhdjllnihnaa", sum := "596ecd1601a7a293f876a16b4247d6a481a29af1ed35e509a7e1045b7645269d", func := "dustpan/dustpanlaw2.StoreApart", spec := "storeApart", apart := false }
def StoreApartSaid : Prop := storeApartRow.holds Try.pinned (OpenSpec.ofChange storeApartSpec)

/-- ITS FALSE NEIGHBOUR: 'it returns false'. Refute it at one input. -/
def storeApartWrong : ChangeSpec := { name := "storeApart", fn := fun _ => fun
  | [d] => { results := [.lit (.bool false)], args := [d] }
  | _ => none }
def StoreApartWrongFalsely : Prop := storeApartRow.holds Try.pinned (OpenSpec.ofChange storeApartWrong)

/-- 'dustpanlaw2.StoreRuns': WHATEVER THE INPUT: true; the input reads as it did. -/
def storeRunsSpec : ChangeSpec := { name := "storeRuns", fn := fun _ => fun
  | [d1, d2] => { results := [.lit (.bool true)], args := [d1, d2] }
  | _ => none }
def storeRunsRow : OpenClaim := { program := "ytkfjhdjllnihnaa", sum := "596ecd1601a7a293f876a16b4247d6a481a29af1ed35e509a7e1045b7645269d", func := "dustpan/dustpanlaw2.StoreRuns", spec := "storeRuns", apart := false }
def StoreRunsSaid : Prop := storeRunsRow.holds Try.pinned (OpenSpec.ofChange storeRunsSpec)

/-- ITS FALSE NEIGHBOUR: 'it returns false'. Refute it at one input. -/
def storeRunsWrong : ChangeSpec := { name := "storeRuns", fn := fun _ => fun
  | [d1, d2] => { results := [.lit (.bool false)], args := [d1, d2] }
  | _ => none }
def StoreRunsWrongFalsely : Prop := storeRunsRow.holds Try.pinned (OpenSpec.ofChange storeRunsWrong)

/-- 'dustpanlaw2.StoreNone': WHATEVER THE INPUT: true; the input reads as it did. -/
def storeNoneSpec : ChangeSpec := { name := "storeNone", fn := fun _ => fun
  | [d1, d2, d3] => { results := [.lit (.bool true)], args := [d1, d2, d3] }
  | _ => none }
def storeNoneRow : OpenClaim := { program := "ytkfjhdjllnihnaa", sum := "596ecd1601a7a293f876a16b4247d6a481a29af1ed35e509a7e1045b7645269d", func := "dustpan/dustpanlaw2.StoreNone", spec := "storeNone", apart := false }
def StoreNoneSaid : Prop := storeNoneRow.holds Try.pinned (OpenSpec.ofChange storeNoneSpec)

/-- ITS FALSE NEIGHBOUR: 'it returns false'. Refute it at one input. -/
def storeNoneWrong : ChangeSpec := { name := "storeNone", fn := fun _ => fun
  | [d1, d2, d3] => { results := [.lit (.bool false)], args := [d1, d2, d3] }
  | _ => none }
def StoreNoneWrongFalsely : Prop := storeNoneRow.holds Try.pinned (OpenSpec.ofChange storeNoneWrong)

/- THE SECOND FORM. 'bulk': how many values and letters a reading holds, each counted each time it is reached (what is shared counts as often as it is met; a slice's spare places count too). A statement '..UptoSaid' is the law's where the arguments, and the package variables that the reading takes, are together of bulk at most 1048576: NARROWER than '..Said'. Prove '..Said' where nothing that the law and all that it calls make is longer than what came in: it says more and counts as full. Else prove '..UptoSaid'. A law counts once. -/
mutual
def uptoBulk {H : Type} : DataW H → Nat
  | .lit (.string bytes) => bytes.length + 1
  | .lit _ => 1
  | .nil => 1
  | .ptr d => uptoBulk d + 1
  | .slice elems spare => uptoBulkAll elems + uptoBulkAll spare + 1
  | .agg parts => uptoBulkAll parts + 1
  | .iface _ d => uptoBulk d + 1
  | .map entries => uptoBulkEntries entries + 1
  | .held _ => 1
def uptoBulkAll {H : Type} : List (DataW H) → Nat
  | [] => 0
  | d :: r => uptoBulk d + uptoBulkAll r
def uptoBulkEntries {H : Type} : List (Lit × DataW H) → Nat
  | [] => 0
  | x :: r => uptoBulkEntry x + uptoBulkEntries r
def uptoBulkEntry {H : Type} : Lit × DataW H → Nat
  | (.string bytes, d) => bytes.length + uptoBulk d + 1
  | (_, d) => uptoBulk d + 1
 end
def uptoSmall : (H : Type) → List (DataW H) → Bool := fun _ ds => decide (uptoBulkAll ds ≤ 1048576)
def OpenSpec.upto (s : _root_.Go.ChangeSpec) : _root_.Go.OpenSpec := { _root_.Go.OpenSpec.ofChange s with cond := some uptoSmall }

/-- 'dustpanlaw2.StoreCas', WHERE WHAT IT READS IS OF BULK AT MOST 1048576: true; the input reads as it did. -/
def storeCasUptoRow : OpenClaim := { program := "ytkfjhdjllnihnaa", sum := "596ecd1601a7a293f876a16b4247d6a481a29af1ed35e509a7e1045b7645269d", func := "dustpan/dustpanlaw2.StoreCas", spec := "storeCas", apart := false, narrowed := true }
def StoreCasUptoSaid : Prop := storeCasUptoRow.holds Try.pinned (OpenSpec.upto storeCasSpec)

/-- 'dustpanlaw2.StoreNew', WHERE WHAT IT READS IS OF BULK AT MOST 1048576: true; the input reads as it did. -/
def storeNewUptoRow : OpenClaim := { program := "ytkfjhdjllnihnaa", sum := "596ecd1601a7a293f876a16b4247d6a481a29af1ed35e509a7e1045b7645269d", func := "dustpan/dustpanlaw2.StoreNew", spec := "storeNew", apart := false, narrowed := true }
def StoreNewUptoSaid : Prop := storeNewUptoRow.holds Try.pinned (OpenSpec.upto storeNewSpec)

/-- 'dustpanlaw2.StoreApart', WHERE WHAT IT READS IS OF BULK AT MOST 1048576: true; the input reads as it did. -/
def storeApartUptoRow : OpenClaim := { program := "ytkfjhdjllnihnaa", sum := "596ecd1601a7a293f876a16b4247d6a481a29af1ed35e509a7e1045b7645269d", func := "dustpan/dustpanlaw2.StoreApart", spec := "storeApart", apart := false, narrowed := true }
def StoreApartUptoSaid : Prop := storeApartUptoRow.holds Try.pinned (OpenSpec.upto storeApartSpec)

/-- 'dustpanlaw2.StoreRuns', WHERE WHAT IT READS IS OF BULK AT MOST 1048576: true; the input reads as it did. -/
def storeRunsUptoRow : OpenClaim := { program := "ytkfjhdjllnihnaa", sum := "596ecd1601a7a293f876a16b4247d6a481a29af1ed35e509a7e1045b7645269d", func := "dustpan/dustpanlaw2.StoreRuns", spec := "storeRuns", apart := false, narrowed := true }
def StoreRunsUptoSaid : Prop := storeRunsUptoRow.holds Try.pinned (OpenSpec.upto storeRunsSpec)

/-- 'dustpanlaw2.StoreNone', WHERE WHAT IT READS IS OF BULK AT MOST 1048576: true; the input reads as it did. -/
def storeNoneUptoRow : OpenClaim := { program := "ytkfjhdjllnihnaa", sum := "596ecd1601a7a293f876a16b4247d6a481a29af1ed35e509a7e1045b7645269d", func := "dustpan/dustpanlaw2.StoreNone", spec := "storeNone", apart := false, narrowed := true }
def StoreNoneUptoSaid : Prop := storeNoneUptoRow.holds Try.pinned (OpenSpec.upto storeNoneSpec)

end Rows
end Go.Proofs.Ytkfjhdjllnihnaa

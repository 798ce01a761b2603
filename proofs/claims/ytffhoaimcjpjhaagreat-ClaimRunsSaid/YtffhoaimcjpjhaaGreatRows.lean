/-
  No cell of these rows narrows 'for every input' (looked for: loops, veiled, ifaces, maps, wideKeys, modest, calm, conditions, laid).
  DERIVED. THE GIVEN ROWS OF THIS SEAT. 5 by the template 'for every input the law returns true; each argument reads behind the call as it read before'; 0 by the template 'total and deterministic' (their statements: YtffhoaimcjpjhaaGreatTotals.lean).
  GIVEN WITH THE SEED: the statements are not yours to turn. If you find one false, say at which input.
  Laid BY PROGRAM, IN A SANDBOX (cutbox-rows.mjs): the forced cells as the released guide's own fill.sh prints them over the translation c8a95904f7866776… (all of the seat's roots in one cut). By AI agents, Wed Nov 11 2026. No macro, syntax, notation, axiom, sorry.
-/
import Derived.Test.YtffhoaimcjpjhaaGreatChecked
import GoSem.Claim
import GoSem.ClaimJoined
import GoSem.ClaimMapViews
import Derived.JoinedTies
import Derived.KernelRfl
namespace Go.Proofs.YtffhoaimcjpjhaaGreat
/- THE CELL 'sum', in the pinned program and in every row, IS THE sha256 OF THE DUMP (.gsa) THAT YtffhoaimcjpjhaaGreatProg.lean LOADS. Nothing in Lean hashes anything: it is a label: what it is worth is what the hold of that sum in a sandbox is worth. -/
noncomputable def Tryz.pinned : Pinned := { name := "ytffhoaimcjpjhaagreat", sum := "c8a95904f7866776b5ae0715c313805bedbfeb1eb6d9fb4b498a358721ba50c4", checked := Tryz.checked }
namespace Rows
def none {H : Type} : Left H := { results := [], args := [] }

/-- 'dustpanlaw20.WorldRuns': WHATEVER THE INPUT: true; the input reads as it did. -/
def worldRunsSpec : ChangeSpec := { name := "worldRuns", fn := fun _ => fun
  | [d1, d2, d3, d4] => { results := [.lit (.bool true)], args := [d1, d2, d3, d4] }
  | _ => none }
def worldRunsRow : OpenClaim := { program := "ytffhoaimcjpjhaagreat", sum := "c8a95904f7866776b5ae0715c313805bedbfeb1eb6d9fb4b498a358721ba50c4", func := "dustpan/dustpanlaw20.WorldRuns", spec := "worldRuns", inPlace := ["slices.overlaps[dustpan/api.Run]"], unfollowed := true, recurses := true, apart := false }
def WorldRunsSaid : Prop := worldRunsRow.holds Tryz.pinned (OpenSpec.ofChange worldRunsSpec)

/-- ITS FALSE NEIGHBOUR: 'it returns false'. Refute it at one input. -/
def worldRunsWrong : ChangeSpec := { name := "worldRuns", fn := fun _ => fun
  | [d1, d2, d3, d4] => { results := [.lit (.bool false)], args := [d1, d2, d3, d4] }
  | _ => none }
def WorldRunsWrongFalsely : Prop := worldRunsRow.holds Tryz.pinned (OpenSpec.ofChange worldRunsWrong)

/-- 'dustpanlaw12.StackOnce': WHATEVER THE INPUT: true; the input reads as it did. -/
def stackOnceSpec : ChangeSpec := { name := "stackOnce", fn := fun _ => fun
  | [d1, d2, d3, d4] => { results := [.lit (.bool true)], args := [d1, d2, d3, d4] }
  | _ => none }
def stackOnceRow : OpenClaim := { program := "ytffhoaimcjpjhaagreat", sum := "c8a95904f7866776b5ae0715c313805bedbfeb1eb6d9fb4b498a358721ba50c4", func := "dustpan/dustpanlaw12.StackOnce", spec := "stackOnce", inPlace := ["slices.overlaps[dustpan/api.Run]"], unfollowed := true, recurses := true, apart := false }
def StackOnceSaid : Prop := stackOnceRow.holds Tryz.pinned (OpenSpec.ofChange stackOnceSpec)

/-- ITS FALSE NEIGHBOUR: 'it returns false'. Refute it at one input. -/
def stackOnceWrong : ChangeSpec := { name := "stackOnce", fn := fun _ => fun
  | [d1, d2, d3, d4] => { results := [.lit (.bool false)], args := [d1, d2, d3, d4] }
  | _ => none }
def StackOnceWrongFalsely : Prop := stackOnceRow.holds Tryz.pinned (OpenSpec.ofChange stackOnceWrong)

/-- 'dustpanlaw12.StackRuns': WHATEVER THE INPUT: true; the input reads as it did. -/
def stackRunsSpec : ChangeSpec := { name := "stackRuns", fn := fun _ => fun
  | [d1, d2, d3, d4] => { results := [.lit (.bool true)], args := [d1, d2, d3, d4] }
  | _ => none }
def stackRunsRow : OpenClaim := { program := "ytffhoaimcjpjhaagreat", sum := "c8a95904f7866776b5ae0715c313805bedbfeb1eb6d9fb4b498a358721ba50c4", func := "dustpan/dustpanlaw12.StackRuns", spec := "stackRuns", inPlace := ["slices.overlaps[dustpan/api.Run]"], unfollowed := true, recurses := true, apart := false }
def StackRunsSaid : Prop := stackRunsRow.holds Tryz.pinned (OpenSpec.ofChange stackRunsSpec)

/-- ITS FALSE NEIGHBOUR: 'it returns false'. Refute it at one input. -/
def stackRunsWrong : ChangeSpec := { name := "stackRuns", fn := fun _ => fun
  | [d1, d2, d3, d4] => { results := [.lit (.bool false)], args := [d1, d2, d3, d4] }
  | _ => none }
def StackRunsWrongFalsely : Prop := stackRunsRow.holds Tryz.pinned (OpenSpec.ofChange stackRunsWrong)

/-- 'dustpanlaw16.ClaimHanded': WHATEVER THE INPUT: true; the input reads as it did. -/
def claimHandedSpec : ChangeSpec := { name := "claimHanded", fn := fun _ => fun
  | [d1, d2, d3, d4, d5] => { results := [.lit (.bool true)], args := [d1, d2, d3, d4, d5] }
  | _ => none }
def claimHandedRow : OpenClaim := { program := "ytffhoaimcjpjhaagreat", sum := "c8a95904f7866776b5ae0715c313805bedbfeb1eb6d9fb4b498a358721ba50c4", func := "dustpan/dustpanlaw16.ClaimHanded", spec := "claimHanded", inPlace := ["slices.overlaps[dustpan/api.Run]"], unfollowed := true, recurses := true, apart := false }
def ClaimHandedSaid : Prop := claimHandedRow.holds Tryz.pinned (OpenSpec.ofChange claimHandedSpec)

/-- ITS FALSE NEIGHBOUR: 'it returns false'. Refute it at one input. -/
def claimHandedWrong : ChangeSpec := { name := "claimHanded", fn := fun _ => fun
  | [d1, d2, d3, d4, d5] => { results := [.lit (.bool false)], args := [d1, d2, d3, d4, d5] }
  | _ => none }
def ClaimHandedWrongFalsely : Prop := claimHandedRow.holds Tryz.pinned (OpenSpec.ofChange claimHandedWrong)

/-- 'dustpanlaw16.ClaimRuns': WHATEVER THE INPUT: true; the input reads as it did. -/
def claimRunsSpec : ChangeSpec := { name := "claimRuns", fn := fun _ => fun
  | [d1, d2, d3, d4, d5, d6] => { results := [.lit (.bool true)], args := [d1, d2, d3, d4, d5, d6] }
  | _ => none }
def claimRunsRow : OpenClaim := { program := "ytffhoaimcjpjhaagreat", sum := "c8a95904f7866776b5ae0715c313805bedbfeb1eb6d9fb4b498a358721ba50c4", func := "dustpan/dustpanlaw16.ClaimRuns", spec := "claimRuns", inPlace := ["slices.overlaps[dustpan/api.Run]"], unfollowed := true, recurses := true, apart := false }
def ClaimRunsSaid : Prop := claimRunsRow.holds Tryz.pinned (OpenSpec.ofChange claimRunsSpec)

/-- ITS FALSE NEIGHBOUR: 'it returns false'. Refute it at one input. -/
def claimRunsWrong : ChangeSpec := { name := "claimRuns", fn := fun _ => fun
  | [d1, d2, d3, d4, d5, d6] => { results := [.lit (.bool false)], args := [d1, d2, d3, d4, d5, d6] }
  | _ => none }
def ClaimRunsWrongFalsely : Prop := claimRunsRow.holds Tryz.pinned (OpenSpec.ofChange claimRunsWrong)

/- THE SECOND FORM. 'bulk': how many values and letters a reading holds, each counted each time it is reached (what is shared counts as often as it is met; a slice's spare places count too). A statement '..UptoSaid' is the law's where the arguments, and the package variables that the reading takes, are together of bulk at most 1048576: NARROWER than '..Said'. Prove '..Said' where nothing that the law and all that it calls make is longer than what came in: it says more and counts as full. Else prove '..UptoSaid'. A law counts once. -/
mutual
def uptoBulk {H : Type} : DataW H → Nat
  | .lit (.string bytes) => bytes.length + 1
  | .lit _ => 1
  | .nil => 1
  | .ptr d => uptoBulk d + 1
  | .slice elems spare => uptoBulkAll elems + uptoBulkAll spare + 1
  | .agg parts => uptoBulkAll parts + 1
  | .iface _ d => uptoBulk d + 1
  | .map entries => uptoBulkEntries entries + 1
  | .held _ => 1
def uptoBulkAll {H : Type} : List (DataW H) → Nat
  | [] => 0
  | d :: r => uptoBulk d + uptoBulkAll r
def uptoBulkEntries {H : Type} : List (Lit × DataW H) → Nat
  | [] => 0
  | x :: r => uptoBulkEntry x + uptoBulkEntries r
def uptoBulkEntry {H : Type} : Lit × DataW H → Nat
  | (.string bytes, d) => bytes.length + uptoBulk d + 1
  | (_, d) => uptoBulk d + 1
 end
def uptoSmall : (H : Type) → List (DataW H) → Bool := fun _ ds => decide (uptoBulkAll ds ≤ 1048576)
def OpenSpec.upto (s : _root_.Go.ChangeSpec) : _root_.Go.OpenSpec := { _root_.Go.OpenSpec.ofChange s with cond := some uptoSmall }

/-- 'dustpanlaw20.WorldRuns', WHERE WHAT IT READS IS OF BULK AT MOST 1048576: true; the input reads as it did. -/
def worldRunsUptoRow : OpenClaim := { program := "ytffhoaimcjpjhaagreat", sum := "c8a95904f7866776b5ae0715c313805bedbfeb1eb6d9fb4b498a358721ba50c4", func := "dustpan/dustpanlaw20.WorldRuns", spec := "worldRuns", inPlace := ["slices.overlaps[dustpan/api.Run]"], unfollowed := true, recurses := true, apart := false, narrowed := true }
def WorldRunsUptoSaid : Prop := worldRunsUptoRow.holds Tryz.pinned (OpenSpec.upto worldRunsSpec)

/-- 'dustpanlaw12.StackOnce', WHERE WHAT IT READS IS OF BULK AT MOST 1048576: true; the input reads as it did. -/
def stackOnceUptoRow : OpenClaim := { program := "ytffhoaimcjpjhaagreat", sum := "c8a95904f7866776b5ae0715c313805bedbfeb1eb6d9fb4b498a358721ba50c4", func := "dustpan/dustpanlaw12.StackOnce", spec := "stackOnce", inPlace := ["slices.overlaps[dustpan/api.Run]"], unfollowed := true, recurses := true, apart := false, narrowed := true }
def StackOnceUptoSaid : Prop := stackOnceUptoRow.holds Tryz.pinned (OpenSpec.upto stackOnceSpec)

/-- 'dustpanlaw12.StackRuns', WHERE WHAT IT READS IS OF BULK AT MOST 1048576: true; the input reads as it did. -/
def stackRunsUptoRow : OpenClaim := { program := "ytffhoaimcjpjhaagreat", sum := "c8a95904f7866776b5ae0715c313805bedbfeb1eb6d9fb4b498a358721ba50c4", func := "dustpan/dustpanlaw12.StackRuns", spec := "stackRuns", inPlace := ["slices.overlaps[dustpan/api.Run]"], unfollowed := true, recurses := true, apart := false, narrowed := true }
def StackRunsUptoSaid : Prop := stackRunsUptoRow.holds Tryz.pinned (OpenSpec.upto stackRunsSpec)

/-- 'dustpanlaw16.ClaimHanded', WHERE WHAT IT READS IS OF BULK AT MOST 1048576: true; the input reads as it did. -/
def claimHandedUptoRow : OpenClaim := { program := "ytffhoaimcjpjhaagreat", sum := "c8a95904f7866776b5ae0715c313805bedbfeb1eb6d9fb4b498a358721ba50c4", func := "dustpan/dustpanlaw16.ClaimHanded", spec := "claimHanded", inPlace := ["slices.overlaps[dustpan/api.Run]"], unfollowed := true, recurses := true, apart := false, narrowed := true }
def ClaimHandedUptoSaid : Prop := claimHandedUptoRow.holds Tryz.pinned (OpenSpec.upto claimHandedSpec)

/-- 'dustpanlaw16.ClaimRuns', WHERE WHAT IT READS IS OF BULK AT MOST 1048576: true; the input reads as it did. -/
def claimRunsUptoRow : OpenClaim := { program := "ytffhoaimcjpjhaagreat", sum := "c8a95904f7866776b5ae0715c313805bedbfeb1eb6d9fb4b498a358721ba50c4", func := "dustpan/dustpanlaw16.ClaimRuns", spec := "claimRuns", inPlace := ["slices.overlaps[dustpan/api.Run]"], unfollowed := true, recurses := true, apart := false, narrowed := true }
def ClaimRunsUptoSaid : Prop := claimRunsUptoRow.holds Tryz.pinned (OpenSpec.upto claimRunsSpec)

end Rows
end Go.Proofs.YtffhoaimcjpjhaaGreat

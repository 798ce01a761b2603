/-
  No cell of these rows narrows 'for every input' (looked for: loops, veiled, ifaces, maps, wideKeys, modest, calm, conditions, laid).
  DERIVED. THE GIVEN ROWS OF THIS SEAT. 6 by the template 'for every input the law returns true; each argument reads behind the call as it read before'; 0 by the template 'total and deterministic' (their statements: YtipeijkpiglbfaaTotals.lean).
  GIVEN WITH THE SEED: the statements are not yours to turn. If you find one false, say at which input.
  Laid BY PROGRAM, IN A SANDBOX (cutbox-rows.mjs): the forced cells as the released guide's own fill.sh prints them over the translation 57666c8bca8478e2… (all of the seat's roots in one cut). By AI agents, Wed Nov 11 2026. No macro, syntax, notation, axiom, sorry.
-/
import Derived.Test.YtipeijkpiglbfaaChecked
import GoSem.Claim
import GoSem.ClaimJoined
import GoSem.ClaimMapViews
import Derived.JoinedTies
import Derived.KernelRfl
namespace Go.Proofs.Ytipeijkpiglbfaa
/- THE CELL 'sum', in the pinned program and in every row, IS THE sha256 OF THE DUMP (.gsa) THAT YtipeijkpiglbfaaProg.lean LOADS. Nothing in Lean hashes anything: it is a label: what it is worth is what the hold of that sum in a sandbox is worth. -/
noncomputable def Try.pinned : Pinned := { name := "ytipeijkpiglbfaa", sum := "57666c8bca8478e2bcc89e159a6a42a5081cab47f0f273bfd51c8c9ad18b3b61", checked := Try.checked }
namespace Rows
def none {H : Type} : Left H := { results := [], args := [] }

/-- 'dustpanlaw13.LockAlone': WHATEVER THE INPUT: true; the input reads as it did. -/
def lockAloneSpec : ChangeSpec := { name := "lockAlone", fn := fun _ => fun
  | [d1, d2] => { results := [.lit (.bool true)], args := [d1, d2] }
  | _ => none }
def lockAloneRow : OpenClaim := { program := "ytipeijkpiglbfaa", sum := "57666c8bca8478e2bcc89e159a6a42a5081cab47f0f273bfd51c8c9ad18b3b61", func := "dustpan/dustpanlaw13.LockAlone", spec := "lockAlone", inPlace := ["slices.overlaps[dustpan/api.Run]"], unfollowed := true, recurses := true, apart := false }
def LockAloneSaid : Prop := lockAloneRow.holds Try.pinned (OpenSpec.ofChange lockAloneSpec)

/-- ITS FALSE NEIGHBOUR: 'it returns false'. Refute it at one input. -/
def lockAloneWrong : ChangeSpec := { name := "lockAlone", fn := fun _ => fun
  | [d1, d2] => { results := [.lit (.bool false)], args := [d1, d2] }
  | _ => none }
def LockAloneWrongFalsely : Prop := lockAloneRow.holds Try.pinned (OpenSpec.ofChange lockAloneWrong)

/-- 'dustpanlaw13.LockMay': WHATEVER THE INPUT: true; the input reads as it did. -/
def lockMaySpec : ChangeSpec := { name := "lockMay", fn := fun _ => fun
  | [d1, d2] => { results := [.lit (.bool true)], args := [d1, d2] }
  | _ => none }
def lockMayRow : OpenClaim := { program := "ytipeijkpiglbfaa", sum := "57666c8bca8478e2bcc89e159a6a42a5081cab47f0f273bfd51c8c9ad18b3b61", func := "dustpan/dustpanlaw13.LockMay", spec := "lockMay", inPlace := ["slices.overlaps[dustpan/api.Run]"], unfollowed := true, recurses := true, apart := false }
def LockMaySaid : Prop := lockMayRow.holds Try.pinned (OpenSpec.ofChange lockMaySpec)

/-- ITS FALSE NEIGHBOUR: 'it returns false'. Refute it at one input. -/
def lockMayWrong : ChangeSpec := { name := "lockMay", fn := fun _ => fun
  | [d1, d2] => { results := [.lit (.bool false)], args := [d1, d2] }
  | _ => none }
def LockMayWrongFalsely : Prop := lockMayRow.holds Try.pinned (OpenSpec.ofChange lockMayWrong)

/-- 'dustpanlaw15.SweepBits': WHATEVER THE INPUT: true; the input reads as it did. -/
def sweepBitsSpec : ChangeSpec := { name := "sweepBits", fn := fun _ => fun
  | [d1, d2, d3] => { results := [.lit (.bool true)], args := [d1, d2, d3] }
  | _ => none }
def sweepBitsRow : OpenClaim := { program := "ytipeijkpiglbfaa", sum := "57666c8bca8478e2bcc89e159a6a42a5081cab47f0f273bfd51c8c9ad18b3b61", func := "dustpan/dustpanlaw15.SweepBits", spec := "sweepBits", inPlace := ["slices.overlaps[dustpan/api.Run]"], unfollowed := true, recurses := true, apart := false }
def SweepBitsSaid : Prop := sweepBitsRow.holds Try.pinned (OpenSpec.ofChange sweepBitsSpec)

/-- ITS FALSE NEIGHBOUR: 'it returns false'. Refute it at one input. -/
def sweepBitsWrong : ChangeSpec := { name := "sweepBits", fn := fun _ => fun
  | [d1, d2, d3] => { results := [.lit (.bool false)], args := [d1, d2, d3] }
  | _ => none }
def SweepBitsWrongFalsely : Prop := sweepBitsRow.holds Try.pinned (OpenSpec.ofChange sweepBitsWrong)

/-- 'dustpanlaw15.SweepMay': WHATEVER THE INPUT: true; the input reads as it did. -/
def sweepMaySpec : ChangeSpec := { name := "sweepMay", fn := fun _ => fun
  | [d1, d2] => { results := [.lit (.bool true)], args := [d1, d2] }
  | _ => none }
def sweepMayRow : OpenClaim := { program := "ytipeijkpiglbfaa", sum := "57666c8bca8478e2bcc89e159a6a42a5081cab47f0f273bfd51c8c9ad18b3b61", func := "dustpan/dustpanlaw15.SweepMay", spec := "sweepMay", inPlace := ["slices.overlaps[dustpan/api.Run]"], unfollowed := true, recurses := true, apart := false }
def SweepMaySaid : Prop := sweepMayRow.holds Try.pinned (OpenSpec.ofChange sweepMaySpec)

/-- ITS FALSE NEIGHBOUR: 'it returns false'. Refute it at one input. -/
def sweepMayWrong : ChangeSpec := { name := "sweepMay", fn := fun _ => fun
  | [d1, d2] => { results := [.lit (.bool false)], args := [d1, d2] }
  | _ => none }
def SweepMayWrongFalsely : Prop := sweepMayRow.holds Try.pinned (OpenSpec.ofChange sweepMayWrong)

/-- 'dustpanlaw20.WorldAlone': WHATEVER THE INPUT: true; the input reads as it did. -/
def worldAloneSpec : ChangeSpec := { name := "worldAlone", fn := fun _ => fun
  | [d1, d2, d3] => { results := [.lit (.bool true)], args := [d1, d2, d3] }
  | _ => none }
def worldAloneRow : OpenClaim := { program := "ytipeijkpiglbfaa", sum := "57666c8bca8478e2bcc89e159a6a42a5081cab47f0f273bfd51c8c9ad18b3b61", func := "dustpan/dustpanlaw20.WorldAlone", spec := "worldAlone", inPlace := ["slices.overlaps[dustpan/api.Run]"], unfollowed := true, recurses := true, apart := false }
def WorldAloneSaid : Prop := worldAloneRow.holds Try.pinned (OpenSpec.ofChange worldAloneSpec)

/-- ITS FALSE NEIGHBOUR: 'it returns false'. Refute it at one input. -/
def worldAloneWrong : ChangeSpec := { name := "worldAlone", fn := fun _ => fun
  | [d1, d2, d3] => { results := [.lit (.bool false)], args := [d1, d2, d3] }
  | _ => none }
def WorldAloneWrongFalsely : Prop := worldAloneRow.holds Try.pinned (OpenSpec.ofChange worldAloneWrong)

/-- 'dustpanlaw20.WorldMay': WHATEVER THE INPUT: true; the input reads as it did. -/
def worldMaySpec : ChangeSpec := { name := "worldMay", fn := fun _ => fun
  | [d1, d2] => { results := [.lit (.bool true)], args := [d1, d2] }
  | _ => none }
def worldMayRow : OpenClaim := { program := "ytipeijkpiglbfaa", sum := "57666c8bca8478e2bcc89e159a6a42a5081cab47f0f273bfd51c8c9ad18b3b61", func := "dustpan/dustpanlaw20.WorldMay", spec := "worldMay", inPlace := ["slices.overlaps[dustpan/api.Run]"], unfollowed := true, recurses := true, apart := false }
def WorldMaySaid : Prop := worldMayRow.holds Try.pinned (OpenSpec.ofChange worldMaySpec)

/-- ITS FALSE NEIGHBOUR: 'it returns false'. Refute it at one input. -/
def worldMayWrong : ChangeSpec := { name := "worldMay", fn := fun _ => fun
  | [d1, d2] => { results := [.lit (.bool false)], args := [d1, d2] }
  | _ => none }
def WorldMayWrongFalsely : Prop := worldMayRow.holds Try.pinned (OpenSpec.ofChange worldMayWrong)

/- THE SECOND FORM. 'bulk': how many values and letters a reading holds, each counted each time it is reached (what is shared counts as often as it is met; a slice's spare places count too). A statement '..UptoSaid' is the law's where the arguments, and the package variables that the reading takes, are together of bulk at most 1048576: NARROWER than '..Said'. Prove '..Said' where nothing that the law and all that it calls make is longer than what came in: it says more and counts as full. Else prove '..UptoSaid'. A law counts once. -/
mutual
def uptoBulk {H : Type} : DataW H → Nat
  | .lit (.string bytes) => bytes.length + 1
  | .lit _ => 1
  | .nil => 1
  | .ptr d => uptoBulk d + 1
  | .slice elems spare => uptoBulkAll elems + uptoBulkAll spare + 1
  | .agg parts => uptoBulkAll parts + 1
  | .iface _ d => uptoBulk d + 1
  | .map entries => uptoBulkEntries entries + 1
  | .held _ => 1
def uptoBulkAll {H : Type} : List (DataW H) → Nat
  | [] => 0
  | d :: r => uptoBulk d + uptoBulkAll r
def uptoBulkEntries {H : Type} : List (Lit × DataW H) → Nat
  | [] => 0
  | x :: r => uptoBulkEntry x + uptoBulkEntries r
def uptoBulkEntry {H : Type} : Lit × DataW H → Nat
  | (.string bytes, d) => bytes.length + uptoBulk d + 1
  | (_, d) => uptoBulk d + 1
 end
def uptoSmall : (H : Type) → List (DataW H) → Bool := fun _ ds => decide (uptoBulkAll ds ≤ 1048576)
def OpenSpec.upto (s : _root_.Go.ChangeSpec) : _root_.Go.OpenSpec := { _root_.Go.OpenSpec.ofChange s with cond := some uptoSmall }

/-- 'dustpanlaw13.LockAlone', WHERE WHAT IT READS IS OF BULK AT MOST 1048576: true; the input reads as it did. -/
def lockAloneUptoRow : OpenClaim := { program := "ytipeijkpiglbfaa", sum := "57666c8bca8478e2bcc89e159a6a42a5081cab47f0f273bfd51c8c9ad18b3b61", func := "dustpan/dustpanlaw13.LockAlone", spec := "lockAlone", inPlace := ["slices.overlaps[dustpan/api.Run]"], unfollowed := true, recurses := true, apart := false, narrowed := true }
def LockAloneUptoSaid : Prop := lockAloneUptoRow.holds Try.pinned (OpenSpec.upto lockAloneSpec)

/-- 'dustpanlaw13.LockMay', WHERE WHAT IT READS IS OF BULK AT MOST 1048576: true; the input reads as it did. -/
def lockMayUptoRow : OpenClaim := { program := "ytipeijkpiglbfaa", sum := "57666c8bca8478e2bcc89e159a6a42a5081cab47f0f273bfd51c8c9ad18b3b61", func := "dustpan/dustpanlaw13.LockMay", spec := "lockMay", inPlace := ["slices.overlaps[dustpan/api.Run]"], unfollowed := true, recurses := true, apart := false, narrowed := true }
def LockMayUptoSaid : Prop := lockMayUptoRow.holds Try.pinned (OpenSpec.upto lockMaySpec)

/-- 'dustpanlaw15.SweepBits', WHERE WHAT IT READS IS OF BULK AT MOST 1048576: true; the input reads as it did. -/
def sweepBitsUptoRow : OpenClaim := { program := "ytipeijkpiglbfaa", sum := "57666c8bca8478e2bcc89e159a6a42a5081cab47f0f273bfd51c8c9ad18b3b61", func := "dustpan/dustpanlaw15.SweepBits", spec := "sweepBits", inPlace := ["slices.overlaps[dustpan/api.Run]"], unfollowed := true, recurses := true, apart := false, narrowed := true }
def SweepBitsUptoSaid : Prop := sweepBitsUptoRow.holds Try.pinned (OpenSpec.upto sweepBitsSpec)

/-- 'dustpanlaw15.SweepMay', WHERE WHAT IT READS IS OF BULK AT MOST 1048576: true; the input reads as it did. -/
def sweepMayUptoRow : OpenClaim := { program := "ytipeijkpiglbfaa", sum := "57666c8bca8478e2bcc89e159a6a42a5081cab47f0f273bfd51c8c9ad18b3b61", func := "dustpan/dustpanlaw15.SweepMay", spec := "sweepMay", inPlace := ["slices.overlaps[dustpan/api.Run]"], unfollowed := true, recurses := true, apart := false, narrowed := true }
def SweepMayUptoSaid : Prop := sweepMayUptoRow.holds Try.pinned (OpenSpec.upto sweepMaySpec)

/-- 'dustpanlaw20.WorldAlone', WHERE WHAT IT READS IS OF BULK AT MOST 1048576: true; the input reads as it did. -/
def worldAloneUptoRow : OpenClaim := { program := "ytipeijkpiglbfaa", sum := "57666c8bca8478e2bcc89e159a6a42a5081cab47f0f273bfd51c8c9ad18b3b61", func := "dustpan/dustpanlaw20.WorldAlone", spec := "worldAlone", inPlace := ["slices.overlaps[dustpan/api.Run]"], unfollowed := true, recurses := true, apart := false, narrowed := true }
def WorldAloneUptoSaid : Prop := worldAloneUptoRow.holds Try.pinned (OpenSpec.upto worldAloneSpec)

/-- 'dustpanlaw20.WorldMay', WHERE WHAT IT READS IS OF BULK AT MOST 1048576: true; the input reads as it did. -/
def worldMayUptoRow : OpenClaim := { program := "ytipeijkpiglbfaa", sum := "57666c8bca8478e2bcc89e159a6a42a5081cab47f0f273bfd51c8c9ad18b3b61", func := "dustpan/dustpanlaw20.WorldMay", spec := "worldMay", inPlace := ["slices.overlaps[dustpan/api.Run]"], unfollowed := true, recurses := true, apart := false, narrowed := true }
def WorldMayUptoSaid : Prop := worldMayUptoRow.holds Try.pinned (OpenSpec.upto worldMaySpec)

end Rows
end Go.Proofs.Ytipeijkpiglbfaa

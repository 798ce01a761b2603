/-
  No cell of these rows narrows 'for every input' (looked for: loops, veiled, ifaces, maps, wideKeys, modest, calm, conditions, laid).
  DERIVED. THE GIVEN ROWS OF THIS SEAT. 9 by the template 'for every input the law returns true; each argument reads behind the call as it read before'; 0 by the template 'total and deterministic' (their statements: YtbijbpnhakbeeaaTotals.lean).
  GIVEN WITH THE SEED: the statements are not yours to turn. If you find one false, say at which input.
  Laid BY PROGRAM, IN A SANDBOX (cutbox-rows.mjs): the forced cells as the released guide's own fill.sh prints them over the translation be27be503d5fd367… (all of the seat's roots in one cut). By AI agents, Wed Nov 11 2026. No macro, syntax, notation, axiom, sorry.
-/
import Derived.Test.YtbijbpnhakbeeaaChecked
import GoSem.Claim
import GoSem.ClaimJoined
import GoSem.ClaimMapViews
import Derived.JoinedTies
import Derived.KernelRfl
namespace Go.Proofs.Ytbijbpnhakbeeaa
/- THE CELL 'sum', in the pinned program and in every row, IS THE sha256 OF THE DUMP (.gsa) THAT YtbijbpnhakbeeaaProg.lean LOADS. Nothing in Lean hashes anything: it is a label: what it is worth is what the hold of that sum in a sandbox is worth. -/
noncomputable def Try.pinned : Pinned := { name := "ytbijbpnhakbeeaa", sum := "be27be503d5fd367ad96edeb35f67b41b1252d56ffde362e4c9268eb91f22434", checked := Try.checked }
namespace Rows
def none {H : Type} : Left H := { results := [], args := [] }

/-- 'dustpanlaw11.ArenaNew': WHATEVER THE INPUT: true; the input reads as it did. -/
def arenaNewSpec : ChangeSpec := { name := "arenaNew", fn := fun _ => fun
  | [d1, d2, d3] => { results := [.lit (.bool true)], args := [d1, d2, d3] }
  | _ => none }
def arenaNewRow : OpenClaim := { program := "ytbijbpnhakbeeaa", sum := "be27be503d5fd367ad96edeb35f67b41b1252d56ffde362e4c9268eb91f22434", func := "dustpan/dustpanlaw11.ArenaNew", spec := "arenaNew", inPlace := ["slices.overlaps[dustpan/api.Run]"], unfollowed := true, recurses := true, apart := false }
def ArenaNewSaid : Prop := arenaNewRow.holds Try.pinned (OpenSpec.ofChange arenaNewSpec)

/-- ITS FALSE NEIGHBOUR: 'it returns false'. Refute it at one input. -/
def arenaNewWrong : ChangeSpec := { name := "arenaNew", fn := fun _ => fun
  | [d1, d2, d3] => { results := [.lit (.bool false)], args := [d1, d2, d3] }
  | _ => none }
def ArenaNewWrongFalsely : Prop := arenaNewRow.holds Try.pinned (OpenSpec.ofChange arenaNewWrong)

/-- 'dustpanlaw10.RunsBest': WHATEVER THE INPUT: true; the input reads as it did. -/
def runsBestSpec : ChangeSpec := { name := "runsBest", fn := fun _ => fun
  | [d1, d2, d3, d4] => { results := [.lit (.bool true)], args := [d1, d2, d3, d4] }
  | _ => none }
def runsBestRow : OpenClaim := { program := "ytbijbpnhakbeeaa", sum := "be27be503d5fd367ad96edeb35f67b41b1252d56ffde362e4c9268eb91f22434", func := "dustpan/dustpanlaw10.RunsBest", spec := "runsBest", inPlace := ["slices.overlaps[dustpan/api.Run]"], unfollowed := true, recurses := true, apart := false }
def RunsBestSaid : Prop := runsBestRow.holds Try.pinned (OpenSpec.ofChange runsBestSpec)

/-- ITS FALSE NEIGHBOUR: 'it returns false'. Refute it at one input. -/
def runsBestWrong : ChangeSpec := { name := "runsBest", fn := fun _ => fun
  | [d1, d2, d3, d4] => { results := [.lit (.bool false)], args := [d1, d2, d3, d4] }
  | _ => none }
def RunsBestWrongFalsely : Prop := runsBestRow.holds Try.pinned (OpenSpec.ofChange runsBestWrong)

/-- 'dustpanlaw10.RunsPages': WHATEVER THE INPUT: true; the input reads as it did. -/
def runsPagesSpec : ChangeSpec := { name := "runsPages", fn := fun _ => fun
  | [d1, d2, d3, d4, d5] => { results := [.lit (.bool true)], args := [d1, d2, d3, d4, d5] }
  | _ => none }
def runsPagesRow : OpenClaim := { program := "ytbijbpnhakbeeaa", sum := "be27be503d5fd367ad96edeb35f67b41b1252d56ffde362e4c9268eb91f22434", func := "dustpan/dustpanlaw10.RunsPages", spec := "runsPages", inPlace := ["slices.overlaps[dustpan/api.Run]"], unfollowed := true, recurses := true, apart := false }
def RunsPagesSaid : Prop := runsPagesRow.holds Try.pinned (OpenSpec.ofChange runsPagesSpec)

/-- ITS FALSE NEIGHBOUR: 'it returns false'. Refute it at one input. -/
def runsPagesWrong : ChangeSpec := { name := "runsPages", fn := fun _ => fun
  | [d1, d2, d3, d4, d5] => { results := [.lit (.bool false)], args := [d1, d2, d3, d4, d5] }
  | _ => none }
def RunsPagesWrongFalsely : Prop := runsPagesRow.holds Try.pinned (OpenSpec.ofChange runsPagesWrong)

/-- 'dustpanlaw10.RunsDraws': WHATEVER THE INPUT: true; the input reads as it did. -/
def runsDrawsSpec : ChangeSpec := { name := "runsDraws", fn := fun _ => fun
  | [d1, d2, d3, d4] => { results := [.lit (.bool true)], args := [d1, d2, d3, d4] }
  | _ => none }
def runsDrawsRow : OpenClaim := { program := "ytbijbpnhakbeeaa", sum := "be27be503d5fd367ad96edeb35f67b41b1252d56ffde362e4c9268eb91f22434", func := "dustpan/dustpanlaw10.RunsDraws", spec := "runsDraws", inPlace := ["slices.overlaps[dustpan/api.Run]"], unfollowed := true, recurses := true, apart := false }
def RunsDrawsSaid : Prop := runsDrawsRow.holds Try.pinned (OpenSpec.ofChange runsDrawsSpec)

/-- ITS FALSE NEIGHBOUR: 'it returns false'. Refute it at one input. -/
def runsDrawsWrong : ChangeSpec := { name := "runsDraws", fn := fun _ => fun
  | [d1, d2, d3, d4] => { results := [.lit (.bool false)], args := [d1, d2, d3, d4] }
  | _ => none }
def RunsDrawsWrongFalsely : Prop := runsDrawsRow.holds Try.pinned (OpenSpec.ofChange runsDrawsWrong)

/-- 'dustpanlaw10.RunsBack': WHATEVER THE INPUT: true; the input reads as it did. -/
def runsBackSpec : ChangeSpec := { name := "runsBack", fn := fun _ => fun
  | [d1, d2, d3, d4] => { results := [.lit (.bool true)], args := [d1, d2, d3, d4] }
  | _ => none }
def runsBackRow : OpenClaim := { program := "ytbijbpnhakbeeaa", sum := "be27be503d5fd367ad96edeb35f67b41b1252d56ffde362e4c9268eb91f22434", func := "dustpan/dustpanlaw10.RunsBack", spec := "runsBack", inPlace := ["slices.overlaps[dustpan/api.Run]"], unfollowed := true, recurses := true, apart := false }
def RunsBackSaid : Prop := runsBackRow.holds Try.pinned (OpenSpec.ofChange runsBackSpec)

/-- ITS FALSE NEIGHBOUR: 'it returns false'. Refute it at one input. -/
def runsBackWrong : ChangeSpec := { name := "runsBack", fn := fun _ => fun
  | [d1, d2, d3, d4] => { results := [.lit (.bool false)], args := [d1, d2, d3, d4] }
  | _ => none }
def RunsBackWrongFalsely : Prop := runsBackRow.holds Try.pinned (OpenSpec.ofChange runsBackWrong)

/-- 'dustpanlaw10.RunsRuns': WHATEVER THE INPUT: true; the input reads as it did. -/
def runsRunsSpec : ChangeSpec := { name := "runsRuns", fn := fun _ => fun
  | [d1, d2, d3] => { results := [.lit (.bool true)], args := [d1, d2, d3] }
  | _ => none }
def runsRunsRow : OpenClaim := { program := "ytbijbpnhakbeeaa", sum := "be27be503d5fd367ad96edeb35f67b41b1252d56ffde362e4c9268eb91f22434", func := "dustpan/dustpanlaw10.RunsRuns", spec := "runsRuns", inPlace := ["slices.overlaps[dustpan/api.Run]"], unfollowed := true, recurses := true, apart := false }
def RunsRunsSaid : Prop := runsRunsRow.holds Try.pinned (OpenSpec.ofChange runsRunsSpec)

/-- ITS FALSE NEIGHBOUR: 'it returns false'. Refute it at one input. -/
def runsRunsWrong : ChangeSpec := { name := "runsRuns", fn := fun _ => fun
  | [d1, d2, d3] => { results := [.lit (.bool false)], args := [d1, d2, d3] }
  | _ => none }
def RunsRunsWrongFalsely : Prop := runsRunsRow.holds Try.pinned (OpenSpec.ofChange runsRunsWrong)

/-- 'dustpanlaw10.RunsRaw': WHATEVER THE INPUT: true; the input reads as it did. -/
def runsRawSpec : ChangeSpec := { name := "runsRaw", fn := fun _ => fun
  | [d1, d2, d3, d4] => { results := [.lit (.bool true)], args := [d1, d2, d3, d4] }
  | _ => none }
def runsRawRow : OpenClaim := { program := "ytbijbpnhakbeeaa", sum := "be27be503d5fd367ad96edeb35f67b41b1252d56ffde362e4c9268eb91f22434", func := "dustpan/dustpanlaw10.RunsRaw", spec := "runsRaw", inPlace := ["slices.overlaps[dustpan/api.Run]"], unfollowed := true, recurses := true, apart := false }
def RunsRawSaid : Prop := runsRawRow.holds Try.pinned (OpenSpec.ofChange runsRawSpec)

/-- ITS FALSE NEIGHBOUR: 'it returns false'. Refute it at one input. -/
def runsRawWrong : ChangeSpec := { name := "runsRaw", fn := fun _ => fun
  | [d1, d2, d3, d4] => { results := [.lit (.bool false)], args := [d1, d2, d3, d4] }
  | _ => none }
def RunsRawWrongFalsely : Prop := runsRawRow.holds Try.pinned (OpenSpec.ofChange runsRawWrong)

/-- 'dustpanlaw10.RunsNone': WHATEVER THE INPUT: true; the input reads as it did. -/
def runsNoneSpec : ChangeSpec := { name := "runsNone", fn := fun _ => fun
  | [d1, d2, d3] => { results := [.lit (.bool true)], args := [d1, d2, d3] }
  | _ => none }
def runsNoneRow : OpenClaim := { program := "ytbijbpnhakbeeaa", sum := "be27be503d5fd367ad96edeb35f67b41b1252d56ffde362e4c9268eb91f22434", func := "dustpan/dustpanlaw10.RunsNone", spec := "runsNone", inPlace := ["slices.overlaps[dustpan/api.Run]"], unfollowed := true, recurses := true, apart := false }
def RunsNoneSaid : Prop := runsNoneRow.holds Try.pinned (OpenSpec.ofChange runsNoneSpec)

/-- ITS FALSE NEIGHBOUR: 'it returns false'. Refute it at one input. -/
def runsNoneWrong : ChangeSpec := { name := "runsNone", fn := fun _ => fun
  | [d1, d2, d3] => { results := [.lit (.bool false)], args := [d1, d2, d3] }
  | _ => none }
def RunsNoneWrongFalsely : Prop := runsNoneRow.holds Try.pinned (OpenSpec.ofChange runsNoneWrong)

/-- 'dustpanlaw11.ArenaOwn': WHATEVER THE INPUT: true; the input reads as it did. -/
def arenaOwnSpec : ChangeSpec := { name := "arenaOwn", fn := fun _ => fun
  | [d1, d2, d3, d4, d5] => { results := [.lit (.bool true)], args := [d1, d2, d3, d4, d5] }
  | _ => none }
def arenaOwnRow : OpenClaim := { program := "ytbijbpnhakbeeaa", sum := "be27be503d5fd367ad96edeb35f67b41b1252d56ffde362e4c9268eb91f22434", func := "dustpan/dustpanlaw11.ArenaOwn", spec := "arenaOwn", inPlace := ["slices.overlaps[dustpan/api.Run]"], unfollowed := true, recurses := true, apart := false }
def ArenaOwnSaid : Prop := arenaOwnRow.holds Try.pinned (OpenSpec.ofChange arenaOwnSpec)

/-- ITS FALSE NEIGHBOUR: 'it returns false'. Refute it at one input. -/
def arenaOwnWrong : ChangeSpec := { name := "arenaOwn", fn := fun _ => fun
  | [d1, d2, d3, d4, d5] => { results := [.lit (.bool false)], args := [d1, d2, d3, d4, d5] }
  | _ => none }
def ArenaOwnWrongFalsely : Prop := arenaOwnRow.holds Try.pinned (OpenSpec.ofChange arenaOwnWrong)

/- THE SECOND FORM. 'bulk': how many values and letters a reading holds, each counted each time it is reached (what is shared counts as often as it is met; a slice's spare places count too). A statement '..UptoSaid' is the law's where the arguments, and the package variables that the reading takes, are together of bulk at most 1048576: NARROWER than '..Said'. Prove '..Said' where nothing that the law and all that it calls make is longer than what came in: it says more and counts as full. Else prove '..UptoSaid'. A law counts once. -/
mutual
def uptoBulk {H : Type} : DataW H → Nat
  | .lit (.string bytes) => bytes.length + 1
  | .lit _ => 1
  | .nil => 1
  | .ptr d => uptoBulk d + 1
  | .slice elems spare => uptoBulkAll elems + uptoBulkAll spare + 1
  | .agg parts => uptoBulkAll parts + 1
  | .iface _ d => uptoBulk d + 1
  | .map entries => uptoBulkEntries entries + 1
  | .held _ => 1
def uptoBulkAll {H : Type} : List (DataW H) → Nat
  | [] => 0
  | d :: r => uptoBulk d + uptoBulkAll r
def uptoBulkEntries {H : Type} : List (Lit × DataW H) → Nat
  | [] => 0
  | x :: r => uptoBulkEntry x + uptoBulkEntries r
def uptoBulkEntry {H : Type} : Lit × DataW H → Nat
  | (.string bytes, d) => bytes.length + uptoBulk d + 1
  | (_, d) => uptoBulk d + 1
 end
def uptoSmall : (H : Type) → List (DataW H) → Bool := fun _ ds => decide (uptoBulkAll ds ≤ 1048576)
def OpenSpec.upto (s : _root_.Go.ChangeSpec) : _root_.Go.OpenSpec := { _root_.Go.OpenSpec.ofChange s with cond := some uptoSmall }

/-- 'dustpanlaw11.ArenaNew', WHERE WHAT IT READS IS OF BULK AT MOST 1048576: true; the input reads as it did. -/
def arenaNewUptoRow : OpenClaim := { program := "ytbijbpnhakbeeaa", sum := "be27be503d5fd367ad96edeb35f67b41b1252d56ffde362e4c9268eb91f22434", func := "dustpan/dustpanlaw11.ArenaNew", spec := "arenaNew", inPlace := ["slices.overlaps[dustpan/api.Run]"], unfollowed := true, recurses := true, apart := false, narrowed := true }
def ArenaNewUptoSaid : Prop := arenaNewUptoRow.holds Try.pinned (OpenSpec.upto arenaNewSpec)

/-- 'dustpanlaw10.RunsBest', WHERE WHAT IT READS IS OF BULK AT MOST 1048576: true; the input reads as it did. -/
def runsBestUptoRow : OpenClaim := { program := "ytbijbpnhakbeeaa", sum := "be27be503d5fd367ad96edeb35f67b41b1252d56ffde362e4c9268eb91f22434", func := "dustpan/dustpanlaw10.RunsBest", spec := "runsBest", inPlace := ["slices.overlaps[dustpan/api.Run]"], unfollowed := true, recurses := true, apart := false, narrowed := true }
def RunsBestUptoSaid : Prop := runsBestUptoRow.holds Try.pinned (OpenSpec.upto runsBestSpec)

/-- 'dustpanlaw10.RunsPages', WHERE WHAT IT READS IS OF BULK AT MOST 1048576: true; the input reads as it did. -/
def runsPagesUptoRow : OpenClaim := { program := "ytbijbpnhakbeeaa", sum := "be27be503d5fd367ad96edeb35f67b41b1252d56ffde362e4c9268eb91f22434", func := "dustpan/dustpanlaw10.RunsPages", spec := "runsPages", inPlace := ["slices.overlaps[dustpan/api.Run]"], unfollowed := true, recurses := true, apart := false, narrowed := true }
def RunsPagesUptoSaid : Prop := runsPagesUptoRow.holds Try.pinned (OpenSpec.upto runsPagesSpec)

/-- 'dustpanlaw10.RunsDraws', WHERE WHAT IT READS IS OF BULK AT MOST 1048576: true; the input reads as it did. -/
def runsDrawsUptoRow : OpenClaim := { program := "ytbijbpnhakbeeaa", sum := "be27be503d5fd367ad96edeb35f67b41b1252d56ffde362e4c9268eb91f22434", func := "dustpan/dustpanlaw10.RunsDraws", spec := "runsDraws", inPlace := ["slices.overlaps[dustpan/api.Run]"], unfollowed := true, recurses := true, apart := false, narrowed := true }
def RunsDrawsUptoSaid : Prop := runsDrawsUptoRow.holds Try.pinned (OpenSpec.upto runsDrawsSpec)

/-- 'dustpanlaw10.RunsBack', WHERE WHAT IT READS IS OF BULK AT MOST 1048576: true; the input reads as it did. -/
def runsBackUptoRow : OpenClaim := { program := "ytbijbpnhakbeeaa", sum := "be27be503d5fd367ad96edeb35f67b41b1252d56ffde362e4c9268eb91f22434", func := "dustpan/dustpanlaw10.RunsBack", spec := "runsBack", inPlace := ["slices.overlaps[dustpan/api.Run]"], unfollowed := true, recurses := true, apart := false, narrowed := true }
def RunsBackUptoSaid : Prop := runsBackUptoRow.holds Try.pinned (OpenSpec.upto runsBackSpec)

/-- 'dustpanlaw10.RunsRuns', WHERE WHAT IT READS IS OF BULK AT MOST 1048576: true; the input reads as it did. -/
def runsRunsUptoRow : OpenClaim := { program := "ytbijbpnhakbeeaa", sum := "be27be503d5fd367ad96edeb35f67b41b1252d56ffde362e4c9268eb91f22434", func := "dustpan/dustpanlaw10.RunsRuns", spec := "runsRuns", inPlace := ["slices.overlaps[dustpan/api.Run]"], unfollowed := true, recurses := true, apart := false, narrowed := true }
def RunsRunsUptoSaid : Prop := runsRunsUptoRow.holds Try.pinned (OpenSpec.upto runsRunsSpec)

/-- 'dustpanlaw10.RunsRaw', WHERE WHAT IT READS IS OF BULK AT MOST 1048576: true; the input reads as it did. -/
def runsRawUptoRow : OpenClaim := { program := "ytbijbpnhakbeeaa", sum := "be27be503d5fd367ad96edeb35f67b41b1252d56ffde362e4c9268eb91f22434", func := "dustpan/dustpanlaw10.RunsRaw", spec := "runsRaw", inPlace := ["slices.overlaps[dustpan/api.Run]"], unfollowed := true, recurses := true, apart := false, narrowed := true }
def RunsRawUptoSaid : Prop := runsRawUptoRow.holds Try.pinned (OpenSpec.upto runsRawSpec)

/-- 'dustpanlaw10.RunsNone', WHERE WHAT IT READS IS OF BULK AT MOST 1048576: true; the input reads as it did. -/
def runsNoneUptoRow : OpenClaim := { program := "ytbijbpnhakbeeaa", sum := "be27be503d5fd367ad96edeb35f67b41b1252d56ffde362e4c9268eb91f22434", func := "dustpan/dustpanlaw10.RunsNone", spec := "runsNone", inPlace := ["slices.overlaps[dustpan/api.Run]"], unfollowed := true, recurses := true, apart := false, narrowed := true }
def RunsNoneUptoSaid : Prop := runsNoneUptoRow.holds Try.pinned (OpenSpec.upto runsNoneSpec)

/-- 'dustpanlaw11.ArenaOwn', WHERE WHAT IT READS IS OF BULK AT MOST 1048576: true; the input reads as it did. -/
def arenaOwnUptoRow : OpenClaim := { program := "ytbijbpnhakbeeaa", sum := "be27be503d5fd367ad96edeb35f67b41b1252d56ffde362e4c9268eb91f22434", func := "dustpan/dustpanlaw11.ArenaOwn", spec := "arenaOwn", inPlace := ["slices.overlaps[dustpan/api.Run]"], unfollowed := true, recurses := true, apart := false, narrowed := true }
def ArenaOwnUptoSaid : Prop := arenaOwnUptoRow.holds Try.pinned (OpenSpec.upto arenaOwnSpec)

end Rows
end Go.Proofs.Ytbijbpnhakbeeaa

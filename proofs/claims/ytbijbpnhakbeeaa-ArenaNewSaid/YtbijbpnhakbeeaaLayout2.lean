/- Package layout: Head, Cache, Page, Map. By an AI agent. -/
import Derived.Test.YtbijbpnhakbeeaaLayout
namespace Go.Proofs.Ytbijbpnhakbeeaa
open Go.RowKit
/-- The answer of a call that tells a place, or none. -/
def atV (ok : Bool) (x : Int) : Int := if ok then x else 0
def atOf (ok : Bool) (x : Int) : Ending := .returned (.tuple #[.int .i64 (atV ok x), .bool ok])
theorem atOf_no {ok : Bool} {x : Int} (h : ok = false) : atOf ok x = .returned (.tuple #[.int .i64 0, .bool false]) := by simp [atOf, atV, h]
theorem atOf_yes {ok : Bool} {x : Int} (h : ok = true) : atOf ok x = .returned (.tuple #[.int .i64 x, .bool true]) := by simp [atOf, atV, h]
theorem retIB {k : IntKind} {a b : Int} {c d : Bool} (h : a = b) (g : c = d) : Ending.returned (.tuple #[.int k a, .bool c]) = .returned (.tuple #[.int k b, .bool d]) := by rw [h, g]

end Go.Proofs.Ytbijbpnhakbeeaa

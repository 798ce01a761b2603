/- Or of parts. By an AI agent. -/
import Derived.Test.YtcikhlihgebnbaaDoorWord
namespace Go.Proofs.YtcikhlihgebnbaaDoor
open Go.RowKit
theorem bits_or_add (x y : Int) (i : Nat) (hx₀ : 0 ≤ x) (hx : x % 2 ^ i = 0) (hx₁ : x < 2 ^ 64) (hy₀ : 0 ≤ y) (hy : y < 2 ^ i) (hy₁ : y < 2 ^ 64) :
    bits .or .u64 x y = x + y := bits_join .u64 64 (by decide) wraps_u64 i x y hx₀ hx hx₁ hy₀ hy hy₁
end Go.Proofs.YtcikhlihgebnbaaDoor

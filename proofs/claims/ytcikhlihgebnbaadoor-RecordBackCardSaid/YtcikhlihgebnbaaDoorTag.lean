/- Contracts of package tag, and of its reference, for every argument: by an AI agent. -/
import Derived.Test.YtcikhlihgebnbaaDoorWord
namespace Go.Proofs.YtcikhlihgebnbaaDoor
open Go.RowKit

theorem bits_or_add (x y : Int) (i : Nat) (hx₀ : 0 ≤ x) (hx : x % 2 ^ i = 0) (hx₁ : x < 2 ^ 64) (hy₀ : 0 ≤ y) (hy : y < 2 ^ i) (hy₁ : y < 2 ^ 64) :
    bits .or .u64 x y = x + y := bits_join .u64 64 (by decide) wraps_u64 i x y hx₀ hx hx₁ hy₀ hy hy₁

namespace Tag
def okB (p : Int) : Bool := decide (-1 ≤ p ∧ p < 4096)
def mk (t p : Int) : Int := if okB p then t * 4294967296 + (p + 1) else 0
def pg (x : Int) : Int := if 4096 < x % 4294967296 then -1 else x % 4294967296 - 1
def tg (x : Int) : Int := x / 4294967296
def nx (x p : Int) : Int := mk ((tg x + 1) % 4294967296) p
theorem tg_bd {x : Int} (h0 : 0 ≤ x) (h1 : x < 18446744073709551616) : 0 ≤ tg x ∧ tg x < 4294967296 := by unfold tg; omega
theorem okB_true {p : Int} (h : okB p = true) : -1 ≤ p ∧ p < 4096 := by unfold okB at h; simpa using h
theorem okB_false {p : Int} (h : okB p = false) : p < -1 ∨ 4096 ≤ p := by unfold okB at h; simp at h; omega
theorem mk_bd {t p : Int} (h0 : 0 ≤ t) (h1 : t < 4294967296) : 0 ≤ mk t p ∧ mk t p < 18446744073709551616 := by
  unfold mk
  cases h : okB p
  · simp
  · have := okB_true h; simp; omega
end Tag

theorem ret_two {k : IntKind} {a b : Int} {c d : Bool} (h : a = b) (g : c = d) : Ending.returned (.tuple #[.int k a, .bool c]) = .returned (.tuple #[.int k b, .bool d]) := by rw [h, g]
theorem ret_one {k : IntKind} {a b : Int} (h : a = b) : Ending.returned (.int k a) = .returned (.int k b) := by rw [h]

end Go.Proofs.YtcikhlihgebnbaaDoor

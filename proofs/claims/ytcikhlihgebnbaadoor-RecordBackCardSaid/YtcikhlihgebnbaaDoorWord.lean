/- Contracts of package word's Ones, within, Field, for every argument: by an AI agent. -/
import Derived.Test.YtcikhlihgebnbaaDoorProg
import Derived.WalkKit
import Derived.WalkSpells
import Derived.WalkLawsBesides
import Derived.Deep.QuietTactic
import Derived.BigQuiet
import Derived.Lib.Hide
namespace Go.Proofs.YtcikhlihgebnbaaDoor
open Go.RowKit

/-- A call that answers v, and at most draws. -/
def Gives (f : FuncId) (args : Array Value) (v : Value) : Prop :=
  ∀ w : World, Calls Tryd.prog f args w fun e w' => e = .returned v ∧ ∃ k, w' = w.drewN k

theorem Gives.quiet {f : FuncId} {args : Array Value} {v : Value} (h : Gives f args v) (w : World) (a : Nat) :
    Calls Tryd.prog f args (w.drewN a) fun e w' => e = .returned v ∧ ∃ m, w' = w.drewN (a + m) :=
  (h _).mono fun _ _ ⟨he, k, hk⟩ => ⟨he, k, by rw [hk, World.drewN_drewN]⟩

theorem two_pow_le {n : Nat} (h : n ≤ 64) : (2 : Int) ^ n ≤ 18446744073709551616 := by
  have : (2 : Int) ^ n ≤ 2 ^ 64 := by
    have : (2 : Nat) ^ n ≤ 2 ^ 64 := Nat.pow_le_pow_right (by decide) h
    exact_mod_cast this
  simpa using this
theorem two_pow_pos' (n : Nat) : (0 : Int) < 2 ^ n := Int.pow_pos (by decide)

theorem wrap_ones {n : Nat} (h : n ≤ 64) : IntKind.u64.wrap (IntKind.u64.wrap (2 ^ n) - 1) = 2 ^ n - 1 := by
  have h1 := two_pow_le h
  have h2 := two_pow_pos' n
  simp only [IntKind.wrap_u64]
  generalize (2 : Int) ^ n = y at *
  omega

theorem wraps_u64 (n : Int) (h₀ : 0 ≤ n) (h₁ : n < 2 ^ 64) : IntKind.u64.wrap n = n := by rw [IntKind.wrap_u64]; omega

theorem and_ones (x : Int) (n : Nat) (h : n ≤ 64) (h0 : 0 ≤ x) (h1 : x < 18446744073709551616) :
    bits .and .u64 x (2 ^ n - 1) = x % 2 ^ n :=
  bits_mask .u64 64 (by decide) wraps_u64 n h x h0 (by simpa using h1)

set_option maxHeartbeats 400000 in
theorem within_yes (a n : Int) (w : World) (h1 : 0 ≤ a) (h2 : 0 ≤ n) (h3 : a ≤ 64) (h4 : n ≤ 64 - a) :
    Calls Tryd.prog 96 #[.int .i64 a, .int .i64 n] w fun e w' => e = .returned (.bool true) ∧ w = w' := by
  go_enter Tryd.func96, Tryd.ntmps96
  go_wp2
  go_ret
  exact ⟨by simp [*], rfl⟩

set_option maxHeartbeats 400000 in
theorem ones_any (n : Int) (w : World) (h2 : 0 ≤ n) (h4 : n ≤ 64) :
    Calls Tryd.prog 32 #[.int .i64 n] w fun e w' => e = .returned (.int .u64 (2 ^ n.toNat - 1)) ∧ w = w' := by
  have e := wrap_ones (n := n.toNat) (by omega)
  go_enter Tryd.func32, Tryd.ntmps32
  go_wp2
  go_ret
  exact ⟨rfl, rfl⟩

set_option maxHeartbeats 400000 in
theorem field_any (x a n : Int) (w : World) (h1 : 0 ≤ a) (h2 : 0 ≤ n) (h3 : a ≤ 64) (h4 : n ≤ 64 - a) (h5 : 0 ≤ x) (h6 : x < 18446744073709551616) :
    Calls Tryd.prog 83 #[.int .u64 x, .int .i64 a, .int .i64 n] w fun e w' => e = .returned (.int .u64 (x / 2 ^ a.toNat % 2 ^ n.toNat)) ∧ ∃ k, w' = w.drewN k := by
  have e : Hid (bits .and .u64 (x / 2 ^ a.toNat) (2 ^ n.toNat - 1) = x / 2 ^ a.toNat % 2 ^ n.toNat) :=
    and_ones _ _ (by omega) (Int.ediv_nonneg h5 (Int.le_of_lt (two_pow_pos' _))) (Int.lt_of_le_of_lt (Int.ediv_le_self _ h5) h6)
  go_enter Tryd.func83, Tryd.ntmps83
  go_wp2_with (go_at_call 96; refine (within_yes _ _ _ h1 h2 h3 h4).mono ?_; rintro e w' ⟨rfl, rfl⟩)
  go_quiet ((go_at_call 32; exact Calls.quiet_of_same ((ones_any _ _ (by omega) (by omega)).mono fun _ _ h => ⟨h.1, h.2.symm⟩)))
  go_wp2
  go_ret
  rw [e.out]
  exact ⟨rfl, _, rfl⟩

theorem field_gives (x a n : Int) (h1 : 0 ≤ a) (h2 : 0 ≤ n) (h3 : a ≤ 64) (h4 : n ≤ 64 - a) (h5 : 0 ≤ x) (h6 : x < 18446744073709551616) :
    Gives 83 #[.int .u64 x, .int .i64 a, .int .i64 n] (.int .u64 (x / 2 ^ a.toNat % 2 ^ n.toNat)) :=
  fun w => field_any x a n w h1 h2 h3 h4 h5 h6
end Go.Proofs.YtcikhlihgebnbaaDoor

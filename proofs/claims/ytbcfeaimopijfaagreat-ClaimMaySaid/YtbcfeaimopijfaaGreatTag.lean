/- Contracts of package tag, and of its reference, for every argument: by an AI agent. -/
import Derived.Test.YtbcfeaimopijfaaGreatWord
namespace Go.Proofs.YtbcfeaimopijfaaGreat
open Go.RowKit

theorem bits_or_add (x y : Int) (i : Nat) (hx₀ : 0 ≤ x) (hx : x % 2 ^ i = 0) (hx₁ : x < 2 ^ 64) (hy₀ : 0 ≤ y) (hy : y < 2 ^ i) (hy₁ : y < 2 ^ 64) :
    bits .or .u64 x y = x + y := bits_join .u64 64 (by decide) wraps_u64 i x y hx₀ hx hx₁ hy₀ hy hy₁

namespace Tag
def okB (p : Int) : Bool := decide (-1 ≤ p ∧ p < 4096)
def mk (t p : Int) : Int := if okB p then t * 4294967296 + (p + 1) else 0
def pg (x : Int) : Int := if 4096 < x % 4294967296 then -1 else x % 4294967296 - 1
def tg (x : Int) : Int := x / 4294967296
def nx (x p : Int) : Int := mk ((tg x + 1) % 4294967296) p
theorem tg_bd {x : Int} (h0 : 0 ≤ x) (h1 : x < 18446744073709551616) : 0 ≤ tg x ∧ tg x < 4294967296 := by unfold tg; omega
theorem okB_true {p : Int} (h : okB p = true) : -1 ≤ p ∧ p < 4096 := by unfold okB at h; simpa using h
theorem okB_false {p : Int} (h : okB p = false) : p < -1 ∨ 4096 ≤ p := by unfold okB at h; simp at h; omega
theorem mk_bd {t p : Int} (h0 : 0 ≤ t) (h1 : t < 4294967296) : 0 ≤ mk t p ∧ mk t p < 18446744073709551616 := by
  unfold mk
  cases h : okB p
  · simp
  · have := okB_true h; simp; omega
end Tag

theorem ret_two {k : IntKind} {a b : Int} {c d : Bool} (h : a = b) (g : c = d) : Ending.returned (.tuple #[.int k a, .bool c]) = .returned (.tuple #[.int k b, .bool d]) := by rw [h, g]
theorem ret_one {k : IntKind} {a b : Int} (h : a = b) : Ending.returned (.int k a) = .returned (.int k b) := by rw [h]

set_option maxHeartbeats 400000 in
theorem tagMake_any (t p : Int) (w : World) (h1 : 0 ≤ t) (h2 : t < 4294967296) (h3 : -9223372036854775808 ≤ p) (h4 : p < 9223372036854775808) :
    Calls Tryz.prog 130 #[.int .u32 t, .int .i64 p] w fun e w' => e = .returned (.tuple #[.int .u64 (Tag.mk t p), .bool (Tag.okB p)]) ∧ w = w' := by
  cases hk : Tag.okB p
  · have hm : Tag.mk t p = 0 := by simp [Tag.mk, hk]
    rw [hm]
    clear hm
    rcases Tag.okB_false hk with h | h
    all_goals
      clear hk
      go_enter Tryz.func130, Tryz.ntmps130
      go_wp2
      go_ret2
      exact ⟨rfl, rfl⟩
  · obtain ⟨h, h'⟩ := Tag.okB_true hk
    have hm : Tag.mk t p = bits .or .u64 (t * 4294967296) (p + 1) := by
      rw [bits_or_add _ _ 32 (by omega) (by omega) (by omega) (by omega) (by omega) (by omega)]; simp [Tag.mk, hk]
    rw [hm]
    clear hm hk
    go_enter Tryz.func130, Tryz.ntmps130
    go_wp2
    go_ret2
    exact ⟨rfl, rfl⟩
set_option maxHeartbeats 400000 in
theorem r6Make_any (t p : Int) (w : World) (h1 : 0 ≤ t) (h2 : t < 4294967296) (h3 : -9223372036854775808 ≤ p) (h4 : p < 9223372036854775808) :
    Calls Tryz.prog 44 #[.int .u32 t, .int .i64 p] w fun e w' => e = .returned (.tuple #[.int .u64 (Tag.mk t p), .bool (Tag.okB p)]) ∧ w = w' := by
  cases hk : Tag.okB p
  · have hm : Tag.mk t p = 0 := by simp [Tag.mk, hk]
    rw [hm]
    clear hm
    rcases Tag.okB_false hk with h | h
    all_goals
      clear hk
      go_enter Tryz.func44, Tryz.ntmps44
      go_wp2
      go_ret2
      exact ⟨rfl, rfl⟩
  · obtain ⟨h, h'⟩ := Tag.okB_true hk
    have hm : Tag.mk t p = bits .or .u64 (t * 4294967296) (p + 1) := by
      rw [bits_or_add _ _ 32 (by omega) (by omega) (by omega) (by omega) (by omega) (by omega)]; simp [Tag.mk, hk]
    rw [hm]
    clear hm hk
    go_enter Tryz.func44, Tryz.ntmps44
    go_wp2
    go_ret2
    exact ⟨rfl, rfl⟩
set_option maxHeartbeats 400000 in
theorem tagPage_any (x : Int) (w : World) (h1 : 0 ≤ x) (h2 : x < 18446744073709551616) :
    Calls Tryz.prog 91 #[.int .u64 x] w fun e w' => e = .returned (.int .i64 (Tag.pg x)) ∧ ∃ k, w' = w.drewN k := by
  by_cases h : 4096 < x % 4294967296
  · have hm : Tag.pg x = -1 := by simp [Tag.pg, h]
    rw [hm]
    clear hm
    go_enter Tryz.func91, Tryz.ntmps91
    go_wp2_with (go_at_call 112; refine (field_any _ _ _ _ (by omega) (by omega) (by omega) (by omega) h1 h2).mono ?_; rintro e w' ⟨rfl, k, rfl⟩)
    go_ret
    exact ⟨rfl, _, rfl⟩
  · have hm : Tag.pg x = x % 4294967296 - 1 := by simp [Tag.pg, h]
    rw [hm]
    clear hm
    go_enter Tryz.func91, Tryz.ntmps91
    go_wp2_with (go_at_call 112; refine (field_any _ _ _ _ (by omega) (by omega) (by omega) (by omega) h1 h2).mono ?_; rintro e w' ⟨rfl, k, rfl⟩)
    go_ret
    exact ⟨rfl, _, rfl⟩
set_option maxHeartbeats 400000 in
theorem tagTag_any (x : Int) (w : World) (h1 : 0 ≤ x) (h2 : x < 18446744073709551616) :
    Calls Tryz.prog 131 #[.int .u64 x] w fun e w' => e = .returned (.int .u32 (Tag.tg x)) ∧ ∃ k, w' = w.drewN k := by
  go_enter Tryz.func131, Tryz.ntmps131
  go_wp2_with (go_at_call 112; refine (field_any _ _ _ _ (by omega) (by omega) (by omega) (by omega) h1 h2).mono ?_; rintro e w' ⟨rfl, k, rfl⟩)
  go_ret
  exact ⟨ret_one (by simp [Tag.tg]; omega), _, rfl⟩
set_option maxHeartbeats 400000 in
theorem tagNext_any (x p : Int) (w : World) (h1 : 0 ≤ x) (h2 : x < 18446744073709551616) (h3 : -9223372036854775808 ≤ p) (h4 : p < 9223372036854775808) :
    Calls Tryz.prog 113 #[.int .u64 x, .int .i64 p] w fun e w' => e = .returned (.tuple #[.int .u64 (Tag.nx x p), .bool (Tag.okB p)]) ∧ ∃ k, w' = w.drewN k := by
  obtain ⟨b1, b2⟩ := Tag.tg_bd h1 h2
  go_enter Tryz.func113, Tryz.ntmps113
  go_wp2_with (first | (go_at_call 131; refine (tagTag_any _ _ h1 h2).mono ?_; rintro e w' ⟨rfl, k, rfl⟩) | (go_at_call 130; refine (tagMake_any _ _ _ (by omega) (by omega) h3 h4).mono ?_; rintro e w' ⟨rfl, rfl⟩))
  go_ret2
  exact ⟨rfl, _, rfl⟩
end Go.Proofs.YtbcfeaimopijfaaGreat

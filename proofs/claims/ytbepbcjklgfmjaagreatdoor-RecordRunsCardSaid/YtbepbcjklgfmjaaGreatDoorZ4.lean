/- Package layout: Head, Cache, Page, Map. Contracts of package word's Ones, within, Field, for every argument: by an AI agent. Or of parts. Contracts of package tag, and of its reference, for every argument: by an AI agent. By an AI agent. -/
import Derived.Test.YtbepbcjklgfmjaaGreatDoorZ2
import Derived.Test.YtbepbcjklgfmjaaGreatDoorProg
import Derived.WalkKit
import Derived.WalkSpells
import Derived.WalkLawsBesides
import Derived.Deep.QuietTactic
import Derived.BigQuiet
import Derived.Lib.Hide
namespace Go.Proofs.YtbepbcjklgfmjaaGreatDoor
open Go.RowKit
set_option linter.unusedSimpArgs false
set_option linter.unusedVariables false
/-- The answer of a call that tells a place, or none. -/
def atV (ok : Bool) (x : Int) : Int := if ok then x else 0
def atOf (ok : Bool) (x : Int) : Ending := .returned (.tuple #[.int .i64 (atV ok x), .bool ok])
theorem atOf_no {ok : Bool} {x : Int} (h : ok = false) : atOf ok x = .returned (.tuple #[.int .i64 0, .bool false]) := by simp [atOf, atV, h]
theorem atOf_yes {ok : Bool} {x : Int} (h : ok = true) : atOf ok x = .returned (.tuple #[.int .i64 x, .bool true]) := by simp [atOf, atV, h]
theorem retIB {k : IntKind} {a b : Int} {c d : Bool} (h : a = b) (g : c = d) : Ending.returned (.tuple #[.int k a, .bool c]) = .returned (.tuple #[.int k b, .bool d]) := by rw [h, g]

set_option maxHeartbeats 2000000 in
theorem layPage_any (P T k p : Int) (w : World) :
    Calls Tryz.prog 65 #[.agg #[.int .i64 P, .int .i64 T], .int .i64 k, .int .i64 p] w fun e w' => e = atOf (Lay.pageOk P T k p) (Lay.pageAt P T k p) ∧ Adds w w' := by
  cases hm : Lay.may P T
  · rw [atOf_no (by simp [Lay.pageOk, hm])]
    go_enter Tryz.func65, Tryz.ntmps65
    go_wp2_with (go_at_call 53; refine (layMay_any _ _ _).mono ?_; rintro e w1 ⟨rfl, ho⟩)
    go_ret2
    exact ⟨rfl, Adds.box (by assumption)⟩
  obtain ⟨hP1, hP2, hT1, hT2⟩ := Lay.may_iff.1 hm
  cases h1 : fromB p P
  · rw [atOf_no (by rw [Bool.eq_false_iff] at h1 ⊢; intro h; apply h1; rw [fromB_iff]; simp [Lay.pageOk] at h; omega)]
    go_enter Tryz.func65, Tryz.ntmps65
    go_wp2_with (first
      | (go_at_call 53; refine (layMay_any _ _ _).mono ?_; rintro e w1 ⟨rfl, ho⟩; have HO := Lib.hid (Adds.box ho); obtain ⟨hc, hf⟩ := ho.reads; clear ho)
      | (go_at_call 91; refine (from_any _ _ _).mono ?_; rintro e w1 ⟨rfl, rfl⟩))
    go_ret2
    exact ⟨rfl, Hid.out (by assumption)⟩
  obtain ⟨p1, p2⟩ := fromB_iff.1 h1
  by_cases hk : k = 14
  · subst hk
    rw [atOf_yes (by simp [Lay.pageOk, hm]; omega)]
    go_enter Tryz.func65, Tryz.ntmps65
    go_wp2_with (first
      | (go_at_call 53; refine (layMay_any _ _ _).mono ?_; rintro e w1 ⟨rfl, ho⟩; have HO := Lib.hid (Adds.box ho); obtain ⟨hc, hf⟩ := ho.reads; clear ho)
      | (go_at_call 91; refine (from_any _ _ _).mono ?_; rintro e w1 ⟨rfl, rfl⟩)
      | (go_at_call 92; refine (layIndex_any _ _ _ hP1 hP2 hT1 hT2).mono ?_; rintro e w1 ⟨rfl, ho1⟩))
    go_ret2
    exact ⟨retIB (by simp [Lay.pageAt]) rfl, Only.thenF (Hid.out (by assumption)) (by assumption)⟩
  · have hk' : (k == 14) = false := by simpa using hk
    by_cases hk1 : 9 ≤ k
    · by_cases hk2 : k < 14
      · rw [atOf_yes (by simp [Lay.pageOk, hm]; omega)]
        have E : Hid (Lay.pageAt P T k p = 68 + 14 * T + 5 * p + k - 9) := by show Lay.pageAt P T k p = _; simp [Lay.pageAt, hk]
        clear hk
        go_enter Tryz.func65, Tryz.ntmps65
        go_wp2_with (first
          | (go_at_call 53; refine (layMay_any _ _ _).mono ?_; rintro e w1 ⟨rfl, ho⟩; have HO := Lib.hid (Adds.box ho); obtain ⟨hc, hf⟩ := ho.reads; clear ho)
          | (go_at_call 91; refine (from_any _ _ _).mono ?_; rintro e w1 ⟨rfl, rfl⟩)
          | (go_at_call 93; refine (layPages_any _ _ _ hT1 hT2).mono ?_; rintro e w1 ⟨rfl, ho1⟩))
        go_ret2
        exact ⟨retIB (by rw [E.out]) rfl, Only.thenF (Hid.out (by assumption)) (by assumption)⟩
      · rw [atOf_no (by simp [Lay.pageOk, hm]; omega)]
        have hk3 : decide (k < 14) = false := by simpa using hk2
        clear hk hk2
        go_enter Tryz.func65, Tryz.ntmps65
        go_wp2_with (first
          | (go_at_call 53; refine (layMay_any _ _ _).mono ?_; rintro e w1 ⟨rfl, ho⟩; have HO := Lib.hid (Adds.box ho); obtain ⟨hc, hf⟩ := ho.reads; clear ho)
          | (go_at_call 91; refine (from_any _ _ _).mono ?_; rintro e w1 ⟨rfl, rfl⟩))
        go_ret2
        exact ⟨rfl, Hid.out (by assumption)⟩
    · rw [atOf_no (by simp [Lay.pageOk, hm]; omega)]
      have hk3 : decide (9 ≤ k) = false := by simpa using hk1
      clear hk
      go_enter Tryz.func65, Tryz.ntmps65
      go_wp2_with (first
        | (go_at_call 53; refine (layMay_any _ _ _).mono ?_; rintro e w1 ⟨rfl, ho⟩; have HO := Lib.hid (Adds.box ho); obtain ⟨hc, hf⟩ := ho.reads; clear ho)
        | (go_at_call 91; refine (from_any _ _ _).mono ?_; rintro e w1 ⟨rfl, rfl⟩))
      go_ret2
      exact ⟨rfl, Hid.out (by assumption)⟩

/-- A call that answers v, and at most draws. -/
def Gives (f : FuncId) (args : Array Value) (v : Value) : Prop :=
  ∀ w : World, Calls Tryz.prog f args w fun e w' => e = .returned v ∧ ∃ k, w' = w.drewN k

theorem Gives.quiet {f : FuncId} {args : Array Value} {v : Value} (h : Gives f args v) (w : World) (a : Nat) :
    Calls Tryz.prog f args (w.drewN a) fun e w' => e = .returned v ∧ ∃ m, w' = w.drewN (a + m) :=
  (h _).mono fun _ _ ⟨he, k, hk⟩ => ⟨he, k, by rw [hk, World.drewN_drewN]⟩

theorem two_pow_le {n : Nat} (h : n ≤ 64) : (2 : Int) ^ n ≤ 18446744073709551616 := by
  have : (2 : Int) ^ n ≤ 2 ^ 64 := by
    have : (2 : Nat) ^ n ≤ 2 ^ 64 := Nat.pow_le_pow_right (by decide) h
    exact_mod_cast this
  simpa using this
theorem two_pow_pos' (n : Nat) : (0 : Int) < 2 ^ n := Int.pow_pos (by decide)

theorem wrap_ones {n : Nat} (h : n ≤ 64) : IntKind.u64.wrap (IntKind.u64.wrap (2 ^ n) - 1) = 2 ^ n - 1 := by
  have h1 := two_pow_le h
  have h2 := two_pow_pos' n
  simp only [IntKind.wrap_u64]
  generalize (2 : Int) ^ n = y at *
  omega

theorem wraps_u64 (n : Int) (h₀ : 0 ≤ n) (h₁ : n < 2 ^ 64) : IntKind.u64.wrap n = n := by rw [IntKind.wrap_u64]; omega

theorem and_ones (x : Int) (n : Nat) (h : n ≤ 64) (h0 : 0 ≤ x) (h1 : x < 18446744073709551616) :
    bits .and .u64 x (2 ^ n - 1) = x % 2 ^ n :=
  bits_mask .u64 64 (by decide) wraps_u64 n h x h0 (by simpa using h1)

set_option maxHeartbeats 400000 in
theorem within_yes (a n : Int) (w : World) (h1 : 0 ≤ a) (h2 : 0 ≤ n) (h3 : a ≤ 64) (h4 : n ≤ 64 - a) :
    Calls Tryz.prog 131 #[.int .i64 a, .int .i64 n] w fun e w' => e = .returned (.bool true) ∧ w = w' := by
  go_enter Tryz.func131, Tryz.ntmps131
  go_wp2
  go_ret
  exact ⟨by simp [*], rfl⟩

set_option maxHeartbeats 400000 in
theorem ones_any (n : Int) (w : World) (h2 : 0 ≤ n) (h4 : n ≤ 64) :
    Calls Tryz.prog 71 #[.int .i64 n] w fun e w' => e = .returned (.int .u64 (2 ^ n.toNat - 1)) ∧ w = w' := by
  have e := wrap_ones (n := n.toNat) (by omega)
  go_enter Tryz.func71, Tryz.ntmps71
  go_wp2
  go_ret
  exact ⟨rfl, rfl⟩

set_option maxHeartbeats 400000 in
theorem field_any (x a n : Int) (w : World) (h1 : 0 ≤ a) (h2 : 0 ≤ n) (h3 : a ≤ 64) (h4 : n ≤ 64 - a) (h5 : 0 ≤ x) (h6 : x < 18446744073709551616) :
    Calls Tryz.prog 94 #[.int .u64 x, .int .i64 a, .int .i64 n] w fun e w' => e = .returned (.int .u64 (x / 2 ^ a.toNat % 2 ^ n.toNat)) ∧ ∃ k, w' = w.drewN k := by
  have e : Hid (bits .and .u64 (x / 2 ^ a.toNat) (2 ^ n.toNat - 1) = x / 2 ^ a.toNat % 2 ^ n.toNat) :=
    and_ones _ _ (by omega) (Int.ediv_nonneg h5 (Int.le_of_lt (two_pow_pos' _))) (Int.lt_of_le_of_lt (Int.ediv_le_self _ h5) h6)
  go_enter Tryz.func94, Tryz.ntmps94
  go_wp2_with (go_at_call 131; refine (within_yes _ _ _ h1 h2 h3 h4).mono ?_; rintro e w' ⟨rfl, rfl⟩)
  go_quiet ((go_at_call 71; exact Calls.quiet_of_same ((ones_any _ _ (by omega) (by omega)).mono fun _ _ h => ⟨h.1, h.2.symm⟩)))
  go_wp2
  go_ret
  rw [e.out]
  exact ⟨rfl, _, rfl⟩

theorem field_gives (x a n : Int) (h1 : 0 ≤ a) (h2 : 0 ≤ n) (h3 : a ≤ 64) (h4 : n ≤ 64 - a) (h5 : 0 ≤ x) (h6 : x < 18446744073709551616) :
    Gives 94 #[.int .u64 x, .int .i64 a, .int .i64 n] (.int .u64 (x / 2 ^ a.toNat % 2 ^ n.toNat)) :=
  fun w => field_any x a n w h1 h2 h3 h4 h5 h6
theorem bits_or_add (x y : Int) (i : Nat) (hx₀ : 0 ≤ x) (hx : x % 2 ^ i = 0) (hx₁ : x < 2 ^ 64) (hy₀ : 0 ≤ y) (hy : y < 2 ^ i) (hy₁ : y < 2 ^ 64) :
    bits .or .u64 x y = x + y := bits_join .u64 64 (by decide) wraps_u64 i x y hx₀ hx hx₁ hy₀ hy hy₁

namespace Tag
def okB (p : Int) : Bool := decide (-1 ≤ p ∧ p < 4096)
def mk (t p : Int) : Int := if okB p then t * 4294967296 + (p + 1) else 0
def pg (x : Int) : Int := if 4096 < x % 4294967296 then -1 else x % 4294967296 - 1
def tg (x : Int) : Int := x / 4294967296
def nx (x p : Int) : Int := mk ((tg x + 1) % 4294967296) p
theorem tg_bd {x : Int} (h0 : 0 ≤ x) (h1 : x < 18446744073709551616) : 0 ≤ tg x ∧ tg x < 4294967296 := by unfold tg; omega
theorem okB_true {p : Int} (h : okB p = true) : -1 ≤ p ∧ p < 4096 := by unfold okB at h; simpa using h
theorem okB_false {p : Int} (h : okB p = false) : p < -1 ∨ 4096 ≤ p := by unfold okB at h; simp at h; omega
theorem mk_bd {t p : Int} (h0 : 0 ≤ t) (h1 : t < 4294967296) : 0 ≤ mk t p ∧ mk t p < 18446744073709551616 := by
  unfold mk
  cases h : okB p
  · simp
  · have := okB_true h; simp; omega
end Tag

theorem ret_two {k : IntKind} {a b : Int} {c d : Bool} (h : a = b) (g : c = d) : Ending.returned (.tuple #[.int k a, .bool c]) = .returned (.tuple #[.int k b, .bool d]) := by rw [h, g]
theorem ret_one {k : IntKind} {a b : Int} (h : a = b) : Ending.returned (.int k a) = .returned (.int k b) := by rw [h]

set_option maxHeartbeats 400000 in
theorem r6Make_any (t p : Int) (w : World) (h1 : 0 ≤ t) (h2 : t < 4294967296) (h3 : -9223372036854775808 ≤ p) (h4 : p < 9223372036854775808) :
    Calls Tryz.prog 179 #[.int .u32 t, .int .i64 p] w fun e w' => e = .returned (.tuple #[.int .u64 (Tag.mk t p), .bool (Tag.okB p)]) ∧ w = w' := by
  cases hk : Tag.okB p
  · have hm : Tag.mk t p = 0 := by simp [Tag.mk, hk]
    rw [hm]
    clear hm
    rcases Tag.okB_false hk with h | h
    all_goals
      clear hk
      go_enter Tryz.func179, Tryz.ntmps179
      go_wp2
      go_ret2
      exact ⟨rfl, rfl⟩
  · obtain ⟨h, h'⟩ := Tag.okB_true hk
    have hm : Tag.mk t p = bits .or .u64 (t * 4294967296) (p + 1) := by
      rw [bits_or_add _ _ 32 (by omega) (by omega) (by omega) (by omega) (by omega) (by omega)]; simp [Tag.mk, hk]
    rw [hm]
    clear hm hk
    go_enter Tryz.func179, Tryz.ntmps179
    go_wp2
    go_ret2
    exact ⟨rfl, rfl⟩
set_option maxHeartbeats 400000 in
theorem r6Page_any (x : Int) (w : World) (h1 : 0 ≤ x) (h2 : x < 18446744073709551616) :
    Calls Tryz.prog 135 #[.int .u64 x] w fun e w' => e = .returned (.int .i64 (Tag.pg x)) ∧ w = w' := by
  by_cases h : 4096 < x % 4294967296
  · have hm : Tag.pg x = -1 := by simp [Tag.pg, h]
    rw [hm]
    clear hm
    go_enter Tryz.func135, Tryz.ntmps135
    go_wp2
    go_ret
    exact ⟨rfl, rfl⟩
  · have hm : Tag.pg x = x % 4294967296 - 1 := by simp [Tag.pg, h]
    rw [hm]
    clear hm
    go_enter Tryz.func135, Tryz.ntmps135
    go_wp2
    go_ret
    exact ⟨rfl, rfl⟩
set_option maxHeartbeats 400000 in
theorem r6Tag_any (x : Int) (w : World) (h1 : 0 ≤ x) (h2 : x < 18446744073709551616) :
    Calls Tryz.prog 180 #[.int .u64 x] w fun e w' => e = .returned (.int .u32 (Tag.tg x)) ∧ w = w' := by
  go_enter Tryz.func180, Tryz.ntmps180
  go_wp2
  go_ret
  exact ⟨ret_one (by simp [Tag.tg]), rfl⟩
set_option maxHeartbeats 400000 in
theorem r6Next_any (x p : Int) (w : World) (h1 : 0 ≤ x) (h2 : x < 18446744073709551616) (h3 : -9223372036854775808 ≤ p) (h4 : p < 9223372036854775808) :
    Calls Tryz.prog 137 #[.int .u64 x, .int .i64 p] w fun e w' => e = .returned (.tuple #[.int .u64 (Tag.nx x p), .bool (Tag.okB p)]) ∧ w = w' := by
  obtain ⟨b1, b2⟩ := Tag.tg_bd h1 h2
  go_enter Tryz.func137, Tryz.ntmps137
  go_wp2_with (first | (go_at_call 180; refine (r6Tag_any _ _ h1 h2).mono ?_; rintro e w' ⟨rfl, rfl⟩) | (go_at_call 179; refine (r6Make_any _ _ _ (by omega) (by omega) h3 h4).mono ?_; rintro e w' ⟨rfl, rfl⟩))
  go_ret2
  exact ⟨rfl, rfl⟩
end Go.Proofs.YtbepbcjklgfmjaaGreatDoor

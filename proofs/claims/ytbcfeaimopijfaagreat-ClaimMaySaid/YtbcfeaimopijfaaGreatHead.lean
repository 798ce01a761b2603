/- Is a word a head's? And the small functions of package stack. By an AI agent. -/
import Derived.Test.YtbcfeaimopijfaaGreatLayout3
import Derived.Test.YtbcfeaimopijfaaGreatTag
import Derived.Deep.RegionHeld3
namespace Go.Proofs.YtbcfeaimopijfaaGreat
open Go.RowKit
namespace Lay
def isHead (P T i : Int) : Bool := may P T && decide (8 ≤ i ∧ i < 68)
def nextAt (P T p : Int) : Int := atV (pageOk P T 11 p) (pageAt P T 11 p)
theorem isHead_kind {P T i : Int} (h : isHead P T i = true) : nameOk P T i = true ∧ (nameAt P T i).1 = 7 := by
  unfold isHead at h
  rw [Bool.and_eq_true, decide_eq_true_eq] at h
  obtain ⟨hm, h1, h2⟩ := h
  have hb := may_iff.1 hm
  have hmb := many_bd hb.1 hb.2.1
  refine ⟨?_, ?_⟩
  · unfold nameOk words
    simp only [hm, if_true, decide_eq_true_eq]
    omega
  · unfold nameAt
    rw [if_neg (by omega), if_pos h2]
theorem not_head_kind {P T i : Int} (h : isHead P T i = false) (ho : nameOk P T i = true) : (nameAt P T i).1 ≠ 7 := by
  have hm := nameOk_may ho
  unfold isHead at h
  rw [hm, Bool.true_and, decide_eq_false_iff_not] at h
  have h0 : 0 ≤ i := by unfold nameOk at ho; rw [decide_eq_true_eq] at ho; exact ho.1
  unfold nameAt
  split
  · unfold aloneK; simp only; split <;> omega
  · split
    · omega
    · split
      · simp only; omega
      · split
        · simp only; omega
        · split
          · simp only; omega
          · split <;> simp only <;> omega
theorem nextAt_bd {P T p : Int} (hm : may P T = true) : 0 ≤ nextAt P T p ∧ nextAt P T p < words P T := by
  have hb := may_iff.1 hm
  have hmb := many_bd hb.1 hb.2.1
  have hw : words P T = 68 + 14 * T + 6 * P + 2 * many P := by simp [words, hm]
  unfold nextAt atV
  split
  · rename_i h
    unfold pageOk at h
    rw [Bool.and_eq_true, decide_eq_true_eq] at h
    unfold pageAt
    rw [if_neg (by decide), hw]
    omega
  · rw [hw]; omega
end Lay
/-- The page that a word names; -1: none. -/
def underV (x : Int) : Int := if x < 1 ∨ 4096 < x then -1 else x - 1
set_option maxHeartbeats 1000000 in
theorem stackHead_any (P T i : Int) (w : World) :
    Calls Tryz.prog 26 #[.agg #[.int .i64 P, .int .i64 T], .int .i64 i] w fun e w' => e = .returned (.bool (Lay.isHead P T i)) ∧ Adds w w' := by
  cases hh : Lay.isHead P T i
  · cases ho : Lay.nameOk P T i
    · go_enter Tryz.func26, Tryz.ntmps26
      go_wp2_with (go_at_call 48; refine (layName_any P T i _).mono ?_; rintro e w1 ⟨rfl, ho1⟩; rw [nameOf_no ho])
      go_ret
      exact ⟨by simp, (Adds.box ho1).alloc _⟩
    · have hk := Lay.not_head_kind hh ho
      obtain ⟨a, b, c, hx⟩ : ∃ a b c, Lay.nameAt P T i = (a, b, c) := ⟨_, _, _, rfl⟩
      rw [hx] at hk
      have hk' : (a == 7) = false := by simpa using hk
      have HX := Lib.hid hx; have HO := Lib.hid ho
      clear hx ho hk hh
      go_enter Tryz.func26, Tryz.ntmps26
      go_wp2_with (go_at_call 48; refine (layName_any P T i _).mono ?_; rintro e w1 ⟨rfl, ho1⟩; rw [nameOf_yes HO.out HX.out])
      go_ret
      exact ⟨by simp [hk'], (Adds.box ho1).alloc _⟩
  · obtain ⟨ho, hk⟩ := Lay.isHead_kind hh
    obtain ⟨a, b, c, hx⟩ : ∃ a b c, Lay.nameAt P T i = (a, b, c) := ⟨_, _, _, rfl⟩
    rw [hx] at hk
    obtain rfl : a = 7 := hk
    have HX := Lib.hid hx; have HO := Lib.hid ho
    clear hx ho hh
    go_enter Tryz.func26, Tryz.ntmps26
    go_wp2_with (go_at_call 48; refine (layName_any P T i _).mono ?_; rintro e w1 ⟨rfl, ho1⟩; rw [nameOf_yes HO.out HX.out])
    go_ret
    exact ⟨by simp, (Adds.box ho1).alloc _⟩
set_option maxHeartbeats 400000 in
theorem below_any (P T p : Int) (w : World) :
    Calls Tryz.prog 92 #[.agg #[.int .i64 P, .int .i64 T], .int .i64 p] w fun e w' => e = .returned (.int .i64 (Lay.nextAt P T p)) ∧ Adds w w' := by
  obtain ⟨ok, hok⟩ : ∃ ok, ok = Lay.pageOk P T 11 p := ⟨_, rfl⟩
  obtain ⟨x, hx⟩ : ∃ x, x = Lay.pageAt P T 11 p := ⟨_, rfl⟩
  have he : Hid (∀ P', P' = atOf (Lay.pageOk P T 11 p) (Lay.pageAt P T 11 p) → P' = .returned (.tuple #[.int .i64 (Lay.nextAt P T p), .bool ok])) := Lib.hid (fun P' h => by rw [h]; unfold atOf Lay.nextAt; rw [hok])
  obtain ⟨y, hy⟩ : ∃ y, y = Lay.nextAt P T p := ⟨_, rfl⟩
  rw [← hy] at he ⊢
  clear hok hx hy
  go_enter Tryz.func92, Tryz.ntmps92
  go_wp2_with (go_at_call 54; refine (layPage_any P T 11 p _).mono ?_; rintro e w1 ⟨he1, ho1⟩; have he2 := he.out _ he1; subst he2)
  go_ret
  exact ⟨rfl, Adds.box ho1⟩
set_option maxHeartbeats 400000 in
theorem under_any (x : Int) (w : World) (h0 : 0 ≤ x) (h1 : x < 18446744073709551616) :
    Calls Tryz.prog 114 #[.int .u64 x] w fun e w' => e = .returned (.int .i64 (underV x)) ∧ w = w' := by
  by_cases c1 : x < 1
  · rw [show underV x = -1 by unfold underV; rw [if_pos (.inl c1)]]
    go_enter Tryz.func114, Tryz.ntmps114
    go_wp2
    go_ret
    exact ⟨rfl, rfl⟩
  · by_cases c2 : 4096 < x
    · rw [show underV x = -1 by unfold underV; rw [if_pos (.inr c2)]]
      go_enter Tryz.func114, Tryz.ntmps114
      go_wp2
      go_ret
      exact ⟨rfl, rfl⟩
    · rw [show underV x = x - 1 by unfold underV; rw [if_neg (by omega)]]
      go_enter Tryz.func114, Tryz.ntmps114
      go_wp2
      go_ret
      exact ⟨by first | rfl | (congr 2), rfl⟩
end Go.Proofs.YtbcfeaimopijfaaGreat

/- Package layout: Head, Cache, Page, Map. By an AI agent. -/
import Derived.Test.YtffhoaimcjpjhaaGreatLayout
namespace Go.Proofs.YtffhoaimcjpjhaaGreat
open Go.RowKit
/-- The answer of a call that tells a place, or none. -/
def atV (ok : Bool) (x : Int) : Int := if ok then x else 0
def atOf (ok : Bool) (x : Int) : Ending := .returned (.tuple #[.int .i64 (atV ok x), .bool ok])
theorem atOf_no {ok : Bool} {x : Int} (h : ok = false) : atOf ok x = .returned (.tuple #[.int .i64 0, .bool false]) := by simp [atOf, atV, h]
theorem atOf_yes {ok : Bool} {x : Int} (h : ok = true) : atOf ok x = .returned (.tuple #[.int .i64 x, .bool true]) := by simp [atOf, atV, h]
theorem retIB {k : IntKind} {a b : Int} {c d : Bool} (h : a = b) (g : c = d) : Ending.returned (.tuple #[.int k a, .bool c]) = .returned (.tuple #[.int k b, .bool d]) := by rw [h, g]

set_option maxHeartbeats 2000000 in
theorem layPage_any (P T k p : Int) (w : World) :
    Calls Tryz.prog 139 #[.agg #[.int .i64 P, .int .i64 T], .int .i64 k, .int .i64 p] w fun e w' => e = atOf (Lay.pageOk P T k p) (Lay.pageAt P T k p) ∧ Adds w w' := by
  cases hm : Lay.may P T
  · rw [atOf_no (by simp [Lay.pageOk, hm])]
    go_enter Tryz.func139, Tryz.ntmps139
    go_wp2_with (go_at_call 90; refine (layMay_any _ _ _).mono ?_; rintro e w1 ⟨rfl, ho⟩)
    go_ret2
    exact ⟨rfl, Adds.box (by assumption)⟩
  obtain ⟨hP1, hP2, hT1, hT2⟩ := Lay.may_iff.1 hm
  cases h1 : fromB p P
  · rw [atOf_no (by rw [Bool.eq_false_iff] at h1 ⊢; intro h; apply h1; rw [fromB_iff]; simp [Lay.pageOk] at h; omega)]
    go_enter Tryz.func139, Tryz.ntmps139
    go_wp2_with (first
      | (go_at_call 90; refine (layMay_any _ _ _).mono ?_; rintro e w1 ⟨rfl, ho⟩; have HO := Lib.hid (Adds.box ho); obtain ⟨hc, hf⟩ := ho.reads; clear ho)
      | (go_at_call 206; refine (from_any _ _ _).mono ?_; rintro e w1 ⟨rfl, rfl⟩))
    go_ret2
    exact ⟨rfl, Hid.out (by assumption)⟩
  obtain ⟨p1, p2⟩ := fromB_iff.1 h1
  by_cases hk : k = 14
  · subst hk
    rw [atOf_yes (by simp [Lay.pageOk, hm]; omega)]
    go_enter Tryz.func139, Tryz.ntmps139
    go_wp2_with (first
      | (go_at_call 90; refine (layMay_any _ _ _).mono ?_; rintro e w1 ⟨rfl, ho⟩; have HO := Lib.hid (Adds.box ho); obtain ⟨hc, hf⟩ := ho.reads; clear ho)
      | (go_at_call 206; refine (from_any _ _ _).mono ?_; rintro e w1 ⟨rfl, rfl⟩)
      | (go_at_call 209; refine (layIndex_any _ _ _ hP1 hP2 hT1 hT2).mono ?_; rintro e w1 ⟨rfl, ho1⟩))
    go_ret2
    exact ⟨retIB (by simp [Lay.pageAt]) rfl, Only.thenF (Hid.out (by assumption)) (by assumption)⟩
  · have hk' : (k == 14) = false := by simpa using hk
    by_cases hk1 : 9 ≤ k
    · by_cases hk2 : k < 14
      · rw [atOf_yes (by simp [Lay.pageOk, hm]; omega)]
        have E : Hid (Lay.pageAt P T k p = 68 + 14 * T + 5 * p + k - 9) := by show Lay.pageAt P T k p = _; simp [Lay.pageAt, hk]
        clear hk
        go_enter Tryz.func139, Tryz.ntmps139
        go_wp2_with (first
          | (go_at_call 90; refine (layMay_any _ _ _).mono ?_; rintro e w1 ⟨rfl, ho⟩; have HO := Lib.hid (Adds.box ho); obtain ⟨hc, hf⟩ := ho.reads; clear ho)
          | (go_at_call 206; refine (from_any _ _ _).mono ?_; rintro e w1 ⟨rfl, rfl⟩)
          | (go_at_call 208; refine (layPages_any _ _ _ hT1 hT2).mono ?_; rintro e w1 ⟨rfl, ho1⟩))
        go_ret2
        exact ⟨retIB (by rw [E.out]) rfl, Only.thenF (Hid.out (by assumption)) (by assumption)⟩
      · rw [atOf_no (by simp [Lay.pageOk, hm]; omega)]
        have hk3 : decide (k < 14) = false := by simpa using hk2
        clear hk hk2
        go_enter Tryz.func139, Tryz.ntmps139
        go_wp2_with (first
          | (go_at_call 90; refine (layMay_any _ _ _).mono ?_; rintro e w1 ⟨rfl, ho⟩; have HO := Lib.hid (Adds.box ho); obtain ⟨hc, hf⟩ := ho.reads; clear ho)
          | (go_at_call 206; refine (from_any _ _ _).mono ?_; rintro e w1 ⟨rfl, rfl⟩))
        go_ret2
        exact ⟨rfl, Hid.out (by assumption)⟩
    · rw [atOf_no (by simp [Lay.pageOk, hm]; omega)]
      have hk3 : decide (9 ≤ k) = false := by simpa using hk1
      clear hk
      go_enter Tryz.func139, Tryz.ntmps139
      go_wp2_with (first
        | (go_at_call 90; refine (layMay_any _ _ _).mono ?_; rintro e w1 ⟨rfl, ho⟩; have HO := Lib.hid (Adds.box ho); obtain ⟨hc, hf⟩ := ho.reads; clear ho)
        | (go_at_call 206; refine (from_any _ _ _).mono ?_; rintro e w1 ⟨rfl, rfl⟩))
      go_ret2
      exact ⟨rfl, Hid.out (by assumption)⟩
end Go.Proofs.YtffhoaimcjpjhaaGreat

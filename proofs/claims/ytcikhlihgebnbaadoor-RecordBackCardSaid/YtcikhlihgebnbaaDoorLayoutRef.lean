/- The reference's layouts (chapter 8): the same answers. By an AI agent. -/
import Derived.Test.YtcikhlihgebnbaaDoorLayout2
namespace Go.Proofs.YtcikhlihgebnbaaDoor
open Go.RowKit
set_option maxHeartbeats 400000 in
theorem r6LayMay_any (P T : Int) (w : World) :
    Calls Tryd.prog 47 #[.agg #[.int .i64 P, .int .i64 T]] w fun e w' => e = .returned (.bool (Lay.may P T)) ∧ Adds w w' := by
  cases hm : Lay.may P T
  · have h := Lay.may_not hm
    clear hm
    by_cases h1 : P < 1
    · go_enter Tryd.func47, Tryd.ntmps47
      go_wp2
      go_ret
      exact ⟨rfl, (Only.refl _ _).alloc _⟩
    by_cases h2 : 4096 < P
    · go_enter Tryd.func47, Tryd.ntmps47
      go_wp2
      go_ret
      exact ⟨rfl, (Only.refl _ _).alloc _⟩
    by_cases h3 : T < 1
    · go_enter Tryd.func47, Tryd.ntmps47
      go_wp2
      go_ret
      exact ⟨rfl, (Only.refl _ _).alloc _⟩
    have h4 : decide (T ≤ 64) = false := by simp; omega
    clear h
    go_enter Tryd.func47, Tryd.ntmps47
    go_wp2
    go_ret
    exact ⟨rfl, (Only.refl _ _).alloc _⟩
  · obtain ⟨h1, h2, h3, h4⟩ := Lay.may_iff.1 hm
    clear hm
    go_enter Tryd.func47, Tryd.ntmps47
    go_wp2
    go_ret
    exact ⟨rfl, (Only.refl _ _).alloc _⟩
set_option maxHeartbeats 400000 in
theorem r6Maps_any (P T : Int) (w : World) (h1 : 1 ≤ P) (h2 : P ≤ 4096) :
    Calls Tryd.prog 86 #[.agg #[.int .i64 P, .int .i64 T]] w fun e w' => e = .returned (.int .i64 (Lay.many P)) ∧ Adds w w' := by
  go_enter Tryd.func86, Tryd.ntmps86
  go_wp2
  go_ret
  exact ⟨rfl, (Only.refl _ _).alloc _⟩
set_option maxHeartbeats 1000000 in
theorem r6Words_any (P T : Int) (w : World) :
    Calls Tryd.prog 85 #[.agg #[.int .i64 P, .int .i64 T]] w fun e w' => e = .returned (.int .i64 (Lay.words P T)) ∧ Adds w w' := by
  cases hm : Lay.may P T
  · have e : Lay.words P T = 0 := by simp [Lay.words, hm]
    rw [e]; clear e
    go_enter Tryd.func85, Tryd.ntmps85
    go_wp2_with (go_at_call 47; refine (r6LayMay_any _ _ _).mono ?_; rintro e w1 ⟨rfl, ho⟩; obtain ⟨q0, q1, ha⟩ := box2_cells ho; have HA := Lib.hid ha; clear ho ha)
    go_ret
    exact ⟨rfl, Hid.out (by assumption)⟩
  · have e : Lay.words P T = 68 + 14 * T + 6 * P + 2 * Lay.many P := by simp [Lay.words, hm]
    have E := Lib.hid e
    clear e
    obtain ⟨hP1, hP2, hT1, hT2⟩ := Lay.may_iff.1 hm
    obtain ⟨hb1, hb2⟩ := Lay.many_bd hP1 hP2
    go_enter Tryd.func85, Tryd.ntmps85
    go_wp2_with fail
    refine (r6LayMay_any _ _ _).mono ?_; rintro e w1 ⟨rfl, ho⟩; obtain ⟨q0, q1, ha⟩ := box2_cells ho; have HA := Lib.hid ha; clear ho ha
    go_wp2
    go_region_held3 (fun w' => w'.cell? ⟨w.heap.size, 0, none⟩ = some (.int .i64 P) ∧ w'.cell? ⟨w.heap.size, 1, none⟩ = some (.int .i64 T) ∧ Adds w w')
      (first | (exact ⟨by simp [*], by simp [*], HA.out.drew⟩) | (exact held2 (by assumption) (by assumption)))
      (first | (go_at_call 86; refine (r6Maps_any _ _ _ hP1 hP2).mono ?_; rintro e w' ⟨rfl, ho⟩))
    rename_i hH
    have HH := Lib.hid hH.2.2
    clear hH
    go_wp2
    go_ret
    exact ⟨retI (by rw [E.out]; simp only [IntKind.wrap_i64]; omega), HH.out⟩
set_option maxHeartbeats 2000000 in
theorem r6PageWord_any (P T k p : Int) (w : World) :
    Calls Tryd.prog 70 #[.agg #[.int .i64 P, .int .i64 T], .int .i64 k, .int .i64 p] w fun e w' => e = atOf (Lay.pageOk P T k p) (Lay.pageAt P T k p) ∧ Adds w w' := by
  cases hm : Lay.may P T
  · rw [atOf_no (by simp [Lay.pageOk, hm])]
    go_enter Tryd.func70, Tryd.ntmps70
    go_wp2_with (go_at_call 47; refine (r6LayMay_any _ _ _).mono ?_; rintro e w1 ⟨rfl, ho⟩; obtain ⟨q0, q1, ha⟩ := box2_cells ho; have HA := Lib.hid ha; clear ho ha)
    go_ret2
    exact ⟨rfl, Hid.out (by assumption)⟩
  obtain ⟨hP1, hP2, hT1, hT2⟩ := Lay.may_iff.1 hm
  by_cases h1 : p < 0
  · rw [atOf_no (by simp [Lay.pageOk]; omega)]
    go_enter Tryd.func70, Tryd.ntmps70
    go_wp2_with (go_at_call 47; refine (r6LayMay_any _ _ _).mono ?_; rintro e w1 ⟨rfl, ho⟩; obtain ⟨q0, q1, ha⟩ := box2_cells ho; have HA := Lib.hid ha; clear ho ha)
    go_ret2
    exact ⟨rfl, Hid.out (by assumption)⟩
  by_cases h2 : P ≤ p
  · rw [atOf_no (by simp [Lay.pageOk]; omega)]
    go_enter Tryd.func70, Tryd.ntmps70
    go_wp2_with (go_at_call 47; refine (r6LayMay_any _ _ _).mono ?_; rintro e w1 ⟨rfl, ho⟩; obtain ⟨q0, q1, ha⟩ := box2_cells ho; have HA := Lib.hid ha; clear ho ha)
    go_ret2
    exact ⟨rfl, Hid.out (by assumption)⟩
  by_cases h3 : k < 9
  · rw [atOf_no (by simp [Lay.pageOk]; omega)]
    go_enter Tryd.func70, Tryd.ntmps70
    go_wp2_with (go_at_call 47; refine (r6LayMay_any _ _ _).mono ?_; rintro e w1 ⟨rfl, ho⟩; obtain ⟨q0, q1, ha⟩ := box2_cells ho; have HA := Lib.hid ha; clear ho ha)
    go_ret2
    exact ⟨rfl, Hid.out (by assumption)⟩
  by_cases h4 : 14 < k
  · rw [atOf_no (by simp [Lay.pageOk]; omega)]
    have h5 : decide (14 < k) = true := by simp; omega
    go_enter Tryd.func70, Tryd.ntmps70
    go_wp2_with (go_at_call 47; refine (r6LayMay_any _ _ _).mono ?_; rintro e w1 ⟨rfl, ho⟩; obtain ⟨q0, q1, ha⟩ := box2_cells ho; have HA := Lib.hid ha; clear ho ha)
    go_ret2
    exact ⟨rfl, Hid.out (by assumption)⟩
  have h5 : decide (14 < k) = false := by simp; omega
  rw [atOf_yes (by simp [Lay.pageOk, hm]; omega)]
  by_cases hk : k = 14
  · subst hk
    go_enter Tryd.func70, Tryd.ntmps70
    go_wp2_with (go_at_call 47; refine (r6LayMay_any _ _ _).mono ?_; rintro e w1 ⟨rfl, ho⟩; obtain ⟨q0, q1, ha⟩ := box2_cells ho; have HA := Lib.hid ha; clear ho ha)
    go_ret2
    exact ⟨retIB (by simp [Lay.pageAt]) rfl, Hid.out (by assumption)⟩
  · have hk' : (k == 14) = false := by simpa using hk
    have E : Hid (Lay.pageAt P T k p = 68 + 14 * T + 5 * p + k - 9) := by show Lay.pageAt P T k p = _; simp [Lay.pageAt, hk]
    clear hk
    go_enter Tryd.func70, Tryd.ntmps70
    go_wp2_with (go_at_call 47; refine (r6LayMay_any _ _ _).mono ?_; rintro e w1 ⟨rfl, ho⟩; obtain ⟨q0, q1, ha⟩ := box2_cells ho; have HA := Lib.hid ha; clear ho ha)
    go_ret2
    exact ⟨retIB (by rw [E.out]) rfl, Hid.out (by assumption)⟩
end Go.Proofs.YtcikhlihgebnbaaDoor

/- The reference's layouts (chapter 8): the same answers. By an AI agent. -/
import Derived.Test.YtbijbpnhakbeeaaLayout2
namespace Go.Proofs.Ytbijbpnhakbeeaa
open Go.RowKit
set_option maxHeartbeats 400000 in
theorem r6LayMay_any (P T : Int) (w : World) :
    Calls Try.prog 50 #[.agg #[.int .i64 P, .int .i64 T]] w fun e w' => e = .returned (.bool (Lay.may P T)) ∧ Adds w w' := by
  cases hm : Lay.may P T
  · have h := Lay.may_not hm
    clear hm
    by_cases h1 : P < 1
    · go_enter Try.func50, Try.ntmps50
      go_wp2
      go_ret
      exact ⟨rfl, (Only.refl _ _).alloc _⟩
    by_cases h2 : 4096 < P
    · go_enter Try.func50, Try.ntmps50
      go_wp2
      go_ret
      exact ⟨rfl, (Only.refl _ _).alloc _⟩
    by_cases h3 : T < 1
    · go_enter Try.func50, Try.ntmps50
      go_wp2
      go_ret
      exact ⟨rfl, (Only.refl _ _).alloc _⟩
    have h4 : decide (T ≤ 64) = false := by simp; omega
    clear h
    go_enter Try.func50, Try.ntmps50
    go_wp2
    go_ret
    exact ⟨rfl, (Only.refl _ _).alloc _⟩
  · obtain ⟨h1, h2, h3, h4⟩ := Lay.may_iff.1 hm
    clear hm
    go_enter Try.func50, Try.ntmps50
    go_wp2
    go_ret
    exact ⟨rfl, (Only.refl _ _).alloc _⟩
set_option maxHeartbeats 400000 in
theorem r6Maps_any (P T : Int) (w : World) (h1 : 1 ≤ P) (h2 : P ≤ 4096) :
    Calls Try.prog 74 #[.agg #[.int .i64 P, .int .i64 T]] w fun e w' => e = .returned (.int .i64 (Lay.many P)) ∧ Adds w w' := by
  go_enter Try.func74, Try.ntmps74
  go_wp2
  go_ret
  exact ⟨rfl, (Only.refl _ _).alloc _⟩
set_option maxHeartbeats 1000000 in
theorem r6Words_any (P T : Int) (w : World) :
    Calls Try.prog 52 #[.agg #[.int .i64 P, .int .i64 T]] w fun e w' => e = .returned (.int .i64 (Lay.words P T)) ∧ Adds w w' := by
  cases hm : Lay.may P T
  · have e : Lay.words P T = 0 := by simp [Lay.words, hm]
    rw [e]; clear e
    go_enter Try.func52, Try.ntmps52
    go_wp2_with (go_at_call 50; refine (r6LayMay_any _ _ _).mono ?_; rintro e w1 ⟨rfl, ho⟩; obtain ⟨q0, q1, ha⟩ := box2_cells ho; have HA := Lib.hid ha; clear ho ha)
    go_ret
    exact ⟨rfl, Hid.out (by assumption)⟩
  · have e : Lay.words P T = 68 + 14 * T + 6 * P + 2 * Lay.many P := by simp [Lay.words, hm]
    have E := Lib.hid e
    clear e
    obtain ⟨hP1, hP2, hT1, hT2⟩ := Lay.may_iff.1 hm
    obtain ⟨hb1, hb2⟩ := Lay.many_bd hP1 hP2
    go_enter Try.func52, Try.ntmps52
    go_wp2_with fail
    refine (r6LayMay_any _ _ _).mono ?_; rintro e w1 ⟨rfl, ho⟩; obtain ⟨q0, q1, ha⟩ := box2_cells ho; have HA := Lib.hid ha; clear ho ha
    go_wp2
    go_region_held3 (fun w' => w'.cell? ⟨w.heap.size, 0, none⟩ = some (.int .i64 P) ∧ w'.cell? ⟨w.heap.size, 1, none⟩ = some (.int .i64 T) ∧ Adds w w')
      (first | (exact ⟨by simp [*], by simp [*], HA.out.drew⟩) | (exact held2 (by assumption) (by assumption)))
      (first | (go_at_call 74; refine (r6Maps_any _ _ _ hP1 hP2).mono ?_; rintro e w' ⟨rfl, ho⟩))
    rename_i hH
    have HH := Lib.hid hH.2.2
    clear hH
    go_wp2
    go_ret
    exact ⟨retI (by rw [E.out]; simp only [IntKind.wrap_i64]; omega), HH.out⟩
end Go.Proofs.Ytbijbpnhakbeeaa

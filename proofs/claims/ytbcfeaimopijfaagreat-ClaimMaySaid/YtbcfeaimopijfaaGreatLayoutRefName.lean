/- The reference's Name (chapter 8): the same answer. By an AI agent. -/
import Derived.Test.YtbcfeaimopijfaaGreatLayout3
import Derived.Test.YtbcfeaimopijfaaGreatLayoutRef
namespace Go.Proofs.YtbcfeaimopijfaaGreat
open Go.RowKit
theorem r6_last_name {P T i : Int} (hn : Lay.nameOk P T i = true) (c1 : 68 + 14 * T + 6 * P ≤ i) (c2 : i < 68 + 14 * T + 6 * P + 2 * Lay.many P) (hb : 1 ≤ Lay.many P) (hb2 : Lay.many P ≤ 64) (hP : 1 ≤ P) (hT : 1 ≤ T) :
    Ending.returned (.tuple #[.agg #[.int .i64 (IntKind.i64.wrap (15 + (i - 68 - 14 * T - 5 * P - P) / Lay.many P)), .int .i64 ((i - 68 - 14 * T - 5 * P - P) % Lay.many P), .int .i64 0], .bool true]) =
      nameOf (Lay.nameOk P T i) (Lay.nameAt P T i) := by
  generalize hM : Lay.many P = M at *
  have hX0 : 0 ≤ i - 68 - 14 * T - 5 * P - P := by omega
  generalize hX : i - 68 - 14 * T - 5 * P - P = X at *
  by_cases h : X < M
  · have e1 : X / M = 0 := Int.ediv_eq_zero_of_lt hX0 h
    have e2 : X % M = X := Int.emod_eq_of_lt hX0 h
    rw [e1, e2, hn, nameOf_yes rfl (show Lay.nameAt P T i = (15, X, 0) by
      unfold Lay.nameAt; rw [hM]; rw [if_neg (by omega), if_neg (by omega), if_neg (by omega), if_neg (by omega), if_neg (by omega), if_pos (by omega)]; congr 2; omega)]
    rfl
  · have e1 : X / M = 1 := by
      rw [Int.ediv_eq_iff_of_pos (by omega)]; omega
    have e2 : X % M = X - M := by have := Int.emod_add_mul_ediv X M; rw [e1] at this; omega
    rw [e1, e2, hn, nameOf_yes rfl (show Lay.nameAt P T i = (16, X - M, 0) by
      unfold Lay.nameAt; rw [hM]; rw [if_neg (by omega), if_neg (by omega), if_neg (by omega), if_neg (by omega), if_neg (by omega), if_neg (by omega)]; congr 2; omega)]
    rfl
set_option maxRecDepth 100000 in
set_option maxHeartbeats 8000000 in
theorem r6Name_last (P T i : Int) (w : World) (hn : Lay.nameOk P T i = true) (c1 : 68 + 14 * T + 6 * P ≤ i) (c2 : i < 68 + 14 * T + 6 * P + 2 * Lay.many P) :
    Calls Tryz.prog 56 #[.agg #[.int .i64 P, .int .i64 T], .int .i64 i] w fun e w' => e = nameOf (Lay.nameOk P T i) (Lay.nameAt P T i) ∧ Adds w w' := by
  have B1 := (Blk.new w #[.int .i64 P, .int .i64 T] 23).alloc (.cells #[.int .i64 0, .int .i64 0, .int .i64 0] 99)
  have B2 := Blk.new (w.alloc (.cells #[.int .i64 P, .int .i64 T] 23)) #[.int .i64 0, .int .i64 0, .int .i64 0] 99
  rw [World.size_alloc] at B2
  have HA := Lib.hid (((Only.refl (fun _ => False) w).alloc (.cells #[.int .i64 P, .int .i64 T] 23)).alloc (.cells #[.int .i64 0, .int .i64 0, .int .i64 0] 99))
  have hm := Lay.nameOk_may hn
  obtain ⟨hP1, hP2, hT1, hT2⟩ := Lay.may_iff.1 hm
  obtain ⟨hb1, hb2⟩ := Lay.many_bd hP1 hP2
  have hw1 : Lay.words P T = 68 + 14 * T + 6 * P + 2 * Lay.many P := by simp [Lay.words, hm]
  have hw2 : i < Lay.words P T := by omega
  have HF := Lib.hid (r6_last_name hn c1 c2 hb1 hb2 hP1 hT1)
  have hX0 : 0 ≤ i - 68 - 14 * T - 5 * P - P := by omega
  have hX1 : i - 68 - 14 * T - 5 * P - P ≤ 200 := by omega
  have E1 := Lib.hid (Int.tdiv_eq_ediv_of_nonneg hX0 (b := Lay.many P))
  have E2 := Lib.hid (Int.tmod_eq_emod_of_nonneg hX0 (b := Lay.many P))
  have E3 : Hid (IntKind.i64.wrap ((i - 68 - 14 * T - 5 * P - P) / Lay.many P) = (i - 68 - 14 * T - 5 * P - P) / Lay.many P) := by
    show IntKind.i64.wrap _ = _
    rw [IntKind.wrap_i64]
    have := Int.ediv_nonneg hX0 (show 0 ≤ Lay.many P by omega)
    have := Int.ediv_le_self (b := Lay.many P) hX0
    omega
  clear hn hm hw1 hX0 hX1
  go_enter Tryz.func56, Tryz.ntmps56
  go_wp2_with (go_at_call 67; refine (r6Words_any _ _ _).mono ?_; rintro e w1 ⟨rfl, ho⟩; replace B1 := B1.only ho id; replace B2 := B2.only ho id; replace HA := Lib.hid (HA.out.thenF ho); clear ho; obtain ⟨q0, q1⟩ := cells2 B1; obtain ⟨q2, q3, q4, g2, g3, g4⟩ := cells3 B2)
  replace B1 := B1.drew
  replace B2 := B2.drew
  replace HA := Lib.hid HA.out.drew
  have hne : (Lay.many P == 0) = false := by simp; omega
  go_region_with (go_at_call 82; refine (r6Maps_any _ _ _ hP1 hP2).mono ?_; rintro e w2 ⟨rfl, ho⟩; replace B1 := B1.only ho id; replace B2 := B2.only ho id; replace HA := Lib.hid (HA.out.thenF ho); clear ho; obtain ⟨q0, q1⟩ := cells2 B1; obtain ⟨q2, q3, q4, g2, g3, g4⟩ := cells3 B2)
  all_goals clear B1 q0 q1
  all_goals go_wp2
  all_goals exact bodyPost_ret (v := .tuple #[.agg #[.int .i64 (IntKind.i64.wrap (15 + (i - 68 - 14 * T - 5 * P - P) / Lay.many P)), .int .i64 ((i - 68 - 14 * T - 5 * P - P) % Lay.many P), .int .i64 0], .bool true]) (by simp [results, Tryz.results56, go_sem, Act.put, *, E1.out, E2.out, E3.out]) rfl ⟨HF.out, HA.out.set3 (by omega) _ _ _⟩
end Go.Proofs.YtbcfeaimopijfaaGreat

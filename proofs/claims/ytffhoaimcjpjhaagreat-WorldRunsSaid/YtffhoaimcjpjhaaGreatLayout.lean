/- Package layout: what each call answers. By an AI agent. -/
import Derived.Test.YtffhoaimcjpjhaaGreatMem
import Derived.Deep.RegionHeld3
namespace Go.Proofs.YtffhoaimcjpjhaaGreat
open Go.RowKit

namespace Lay
def may (P T : Int) : Bool := decide (1 ≤ P ∧ P ≤ 4096 ∧ 1 ≤ T ∧ T ≤ 64)
def many (P : Int) : Int := (P + 63) / 64
def words (P T : Int) : Int := if may P T then 68 + 14 * T + 6 * P + 2 * many P else 0
def headOk (P T c p : Int) : Bool := may P T && decide (0 ≤ c ∧ c < 15 ∧ 0 ≤ p ∧ p < 2)
def headAt (c : Int) (full : Bool) (p : Int) : Int := 8 + 4 * c + p + (if full then 2 else 0)
def cacheOk (P T t c : Int) : Bool := may P T && decide (0 ≤ t ∧ t < T ∧ 0 ≤ c ∧ c < 14)
def cacheAt (t c : Int) : Int := 68 + 14 * t + c
def pageOk (P T k p : Int) : Bool := may P T && decide (0 ≤ p ∧ p < P ∧ 9 ≤ k ∧ k < 15)
def pageAt (P T k p : Int) : Int := if k = 14 then 68 + 14 * T + 5 * P + p else 68 + 14 * T + 5 * p + k - 9
def mapOk (P T k i : Int) : Bool := may P T && decide (0 ≤ i ∧ i < many P ∧ (k = 15 ∨ k = 16))
def mapAt (P T k i : Int) : Int := if k = 15 then 68 + 14 * T + 6 * P + i else 68 + 14 * T + 6 * P + many P + i
theorem may_iff {P T : Int} : may P T = true ↔ 1 ≤ P ∧ P ≤ 4096 ∧ 1 ≤ T ∧ T ≤ 64 := by unfold may; simp
theorem may_not {P T : Int} (h : may P T = false) : P < 1 ∨ 4096 < P ∨ T < 1 ∨ 64 < T := by unfold may at h; simp at h; omega
theorem many_bd {P : Int} (h1 : 1 ≤ P) (h2 : P ≤ 4096) : 1 ≤ many P ∧ many P ≤ 64 := by unfold many; omega
end Lay

theorem retI {k : IntKind} {a b : Int} (h : a = b) : Ending.returned (.int k a) = .returned (.int k b) := by rw [h]

set_option maxHeartbeats 400000 in
theorem layMay_any (P T : Int) (w : World) :
    Calls Tryz.prog 90 #[.agg #[.int .i64 P, .int .i64 T]] w fun e w' => e = .returned (.bool (Lay.may P T)) ∧ Adds w w' := by
  cases hm : Lay.may P T
  · have h := Lay.may_not hm
    clear hm
    by_cases h1 : P < 1
    · go_enter Tryz.func90, Tryz.ntmps90
      go_wp2
      go_ret
      exact ⟨rfl, (Only.refl _ _).alloc _⟩
    by_cases h2 : 4096 < P
    · go_enter Tryz.func90, Tryz.ntmps90
      go_wp2
      go_ret
      exact ⟨rfl, (Only.refl _ _).alloc _⟩
    by_cases h3 : T < 1
    · go_enter Tryz.func90, Tryz.ntmps90
      go_wp2
      go_ret
      exact ⟨rfl, (Only.refl _ _).alloc _⟩
    have h4 : decide (T ≤ 64) = false := by simp; omega
    clear h
    go_enter Tryz.func90, Tryz.ntmps90
    go_wp2
    go_ret
    exact ⟨rfl, (Only.refl _ _).alloc _⟩
  · obtain ⟨h1, h2, h3, h4⟩ := Lay.may_iff.1 hm
    clear hm
    go_enter Tryz.func90, Tryz.ntmps90
    go_wp2
    go_ret
    exact ⟨rfl, (Only.refl _ _).alloc _⟩
/-- Is a number from 0 on below another one? -/
def fromB (i n : Int) : Bool := decide (0 ≤ i ∧ i < n)
theorem fromB_yes {i n : Int} (h0 : 0 ≤ i) (h1 : i < n) : fromB i n = true := by simp [fromB, h0, h1]
theorem fromB_no {i n : Int} (h : i < 0 ∨ n ≤ i) : fromB i n = false := by simp [fromB]; omega
theorem fromB_iff {i n : Int} : fromB i n = true ↔ 0 ≤ i ∧ i < n := by simp [fromB]
set_option maxHeartbeats 400000 in
theorem from_any (i n : Int) (w : World) : Calls Tryz.prog 206 #[.int .i64 i, .int .i64 n] w fun e w' => e = .returned (.bool (fromB i n)) ∧ w = w' := by
  by_cases h0 : 0 ≤ i
  · by_cases h1 : i < n
    · rw [fromB_yes h0 h1]
      go_enter Tryz.func206, Tryz.ntmps206
      go_wp2
      go_ret
      exact ⟨rfl, rfl⟩
    · rw [fromB_no (by omega)]
      have h2 : decide (i < n) = false := by simp; omega
      clear h1
      go_enter Tryz.func206, Tryz.ntmps206
      go_wp2
      go_ret
      exact ⟨rfl, rfl⟩
  · rw [fromB_no (by omega)]
    go_enter Tryz.func206, Tryz.ntmps206
    go_wp2
    go_ret
    exact ⟨rfl, rfl⟩
set_option maxHeartbeats 400000 in
theorem layPages_any (P T : Int) (w : World) (h1 : 1 ≤ T) (h2 : T ≤ 64) :
    Calls Tryz.prog 208 #[.agg #[.int .i64 P, .int .i64 T]] w fun e w' => e = .returned (.int .i64 (68 + 14 * T)) ∧ Adds w w' := by
  go_enter Tryz.func208, Tryz.ntmps208
  go_wp2
  go_ret
  exact ⟨rfl, (Only.refl _ _).alloc _⟩
set_option maxHeartbeats 400000 in
theorem layMany_any (P T : Int) (w : World) (h1 : 1 ≤ P) (h2 : P ≤ 4096) :
    Calls Tryz.prog 150 #[.agg #[.int .i64 P, .int .i64 T]] w fun e w' => e = .returned (.int .i64 (Lay.many P)) ∧ Adds w w' := by
  have e : Hid ((P + 64 - 1) / 64 = Lay.many P) := by show (P + 64 - 1) / 64 = (P + 63) / 64; congr 1; omega
  go_enter Tryz.func150, Tryz.ntmps150
  go_wp2
  go_ret
  exact ⟨retI (by rw [← e.out]), (Only.refl _ _).alloc _⟩
set_option maxHeartbeats 400000 in
theorem layIndex_any (P T : Int) (w : World) (h3 : 1 ≤ P) (h4 : P ≤ 4096) (h1 : 1 ≤ T) (h2 : T ≤ 64) :
    Calls Tryz.prog 209 #[.agg #[.int .i64 P, .int .i64 T]] w fun e w' => e = .returned (.int .i64 (68 + 14 * T + 5 * P)) ∧ Adds w w' := by
  go_enter Tryz.func209, Tryz.ntmps209
  go_wp2
  go_region_held3 (fun w' => w'.cell? ⟨w.heap.size, 0, none⟩ = some (.int .i64 P) ∧ w'.cell? ⟨w.heap.size, 1, none⟩ = some (.int .i64 T) ∧ Adds w w')
    (first | (exact ⟨by simp [*], by simp [*], ((Only.refl _ _).alloc _).drew⟩) | (exact held2 (by assumption) (by assumption)))
    (first | (go_at_call 208; refine (layPages_any _ _ _ h1 h2).mono ?_; rintro e w' ⟨rfl, ho⟩))
  rename_i hH
  have HH := Lib.hid hH.2.2
  clear hH
  go_wp2
  go_ret
  exact ⟨retI (by simp only [IntKind.wrap_i64]; omega), HH.out⟩
set_option maxHeartbeats 400000 in
theorem layUsed_any (P T : Int) (w : World) (h3 : 1 ≤ P) (h4 : P ≤ 4096) (h1 : 1 ≤ T) (h2 : T ≤ 64) :
    Calls Tryz.prog 210 #[.agg #[.int .i64 P, .int .i64 T]] w fun e w' => e = .returned (.int .i64 (68 + 14 * T + 6 * P)) ∧ Adds w w' := by
  go_enter Tryz.func210, Tryz.ntmps210
  go_wp2
  go_region_held3 (fun w' => w'.cell? ⟨w.heap.size, 0, none⟩ = some (.int .i64 P) ∧ w'.cell? ⟨w.heap.size, 1, none⟩ = some (.int .i64 T) ∧ Adds w w')
    (first | (exact ⟨by simp [*], by simp [*], ((Only.refl _ _).alloc _).drew⟩) | (exact held2 (by assumption) (by assumption)))
    (first | (go_at_call 209; refine (layIndex_any _ _ _ h3 h4 h1 h2).mono ?_; rintro e w' ⟨rfl, ho⟩))
  rename_i hH
  have HH := Lib.hid hH.2.2
  clear hH
  go_wp2
  go_ret
  exact ⟨retI (by simp only [IntKind.wrap_i64]; omega), HH.out⟩
set_option maxHeartbeats 400000 in
theorem layGone_any (P T : Int) (w : World) (h3 : 1 ≤ P) (h4 : P ≤ 4096) (h1 : 1 ≤ T) (h2 : T ≤ 64) :
    Calls Tryz.prog 149 #[.agg #[.int .i64 P, .int .i64 T]] w fun e w' => e = .returned (.int .i64 (68 + 14 * T + 6 * P + Lay.many P)) ∧ Adds w w' := by
  have hb := Lay.many_bd h3 h4
  go_enter Tryz.func149, Tryz.ntmps149
  go_wp2
  go_region_held3 (fun w' => w'.cell? ⟨w.heap.size, 0, none⟩ = some (.int .i64 P) ∧ w'.cell? ⟨w.heap.size, 1, none⟩ = some (.int .i64 T) ∧ Adds w w')
    (first | (exact ⟨by simp [*], by simp [*], ((Only.refl _ _).alloc _).drew⟩) | (exact held2 (by assumption) (by assumption)))
    (first | (go_at_call 210; refine (layUsed_any _ _ _ h3 h4 h1 h2).mono ?_; rintro e w' ⟨rfl, ho⟩) | (go_at_call 150; refine (layMany_any _ _ _ h3 h4).mono ?_; rintro e w' ⟨rfl, ho⟩))
  rename_i hH
  have HH := Lib.hid hH.2.2
  clear hH
  go_wp2
  go_ret
  exact ⟨retI (by simp only [IntKind.wrap_i64]; omega), HH.out⟩
set_option maxHeartbeats 400000 in
theorem layWords_any (P T : Int) (w : World) :
    Calls Tryz.prog 94 #[.agg #[.int .i64 P, .int .i64 T]] w fun e w' => e = .returned (.int .i64 (Lay.words P T)) ∧ Adds w w' := by
  cases hm : Lay.may P T
  · have e : Lay.words P T = 0 := by simp [Lay.words, hm]
    rw [e]; clear e
    go_enter Tryz.func94, Tryz.ntmps94
    go_wp2_with (go_at_call 90; refine (layMay_any _ _ _).mono ?_; rintro e w1 ⟨rfl, ho⟩; have HO := Lib.hid ho)
    go_ret
    exact ⟨rfl, ((Only.refl _ _).alloc _).thenF (by assumption)⟩
  · have e : Lay.words P T = 68 + 14 * T + 6 * P + 2 * Lay.many P := by simp [Lay.words, hm]
    have E := Lib.hid e
    clear e
    obtain ⟨h3, h4, h1, h2⟩ := Lay.may_iff.1 hm
    have hb := Lay.many_bd h3 h4
    go_enter Tryz.func94, Tryz.ntmps94
    go_wp2_with fail
    refine (layMay_any _ _ _).mono ?_; rintro e w1 ⟨rfl, ho⟩
    obtain ⟨hc, hf⟩ := ho.reads
    have HO := Lib.hid (Adds.box ho)
    clear ho
    go_wp2
    go_region_held3 (fun w' => w'.cell? ⟨w.heap.size, 0, none⟩ = some (.int .i64 P) ∧ w'.cell? ⟨w.heap.size, 1, none⟩ = some (.int .i64 T) ∧ Adds w w')
      (first | (exact ⟨by simp [*], by simp [*], HO.out.drew⟩) | (exact held2 (by assumption) (by assumption)))
      (first | (go_at_call 149; refine (layGone_any _ _ _ h3 h4 h1 h2).mono ?_; rintro e w' ⟨rfl, ho⟩) | (go_at_call 150; refine (layMany_any _ _ _ h3 h4).mono ?_; rintro e w' ⟨rfl, ho⟩))
    rename_i hH
    have HH := Lib.hid hH.2.2
    clear hH
    go_wp2
    go_ret
    exact ⟨retI (by rw [E.out]; simp only [IntKind.wrap_i64]; omega), HH.out⟩
end Go.Proofs.YtffhoaimcjpjhaaGreat

/- Contracts of package phase, and of its reference, for every argument: by an AI agent. Contracts of package phase (Swept, Goes), and of its reference, for every argument: by an AI agent. Contracts of the reference of chapter 7, for every argument: the same answers: by an AI agent. By an AI agent. -/
import Derived.Test.YtbepbcjklgfmjaaGreatDoorZ4
namespace Go.Proofs.YtbepbcjklgfmjaaGreatDoor
open Go.RowKit
set_option linter.unusedSimpArgs false
set_option linter.unusedVariables false

namespace Ph
def cyc (g : Int) : Bool := decide (1 ≤ g ∧ g ≤ 2147483648)
def okB (g p : Int) : Bool := decide (1 ≤ g ∧ g ≤ 2147483648 ∧ 1 ≤ p ∧ p ≤ 6)
def mk (g p : Int) : Int := if okB g p then g * 8 + p else 0
def st (w : Int) : Bool := okB (w / 8) (w % 8)
def may (w : Int) : Bool := st w || decide (w = 0)
def gen (w : Int) : Int := if st w then w / 8 else 0
def ph (w : Int) : Int := if st w then w % 8 else 0
def swept (w g : Int) : Bool := st w && decide (w / 8 = g) && decide (w % 8 = 1 ∨ w % 8 = 2 ∨ w % 8 = 3 ∨ w % 8 = 5)
def waits (w g : Int) : Bool := st w && decide (w % 8 = 1) && decide (w / 8 + 1 = g)
def follows (a b : Int) : Bool :=
  decide ((a = 1 ∧ (b = 2 ∨ b = 3)) ∨ (a = 2 ∧ (b = 1 ∨ b = 3 ∨ b = 0)) ∨ (a = 3 ∧ (b = 1 ∨ b = 0)) ∨ (a = 4 ∧ (b = 5 ∨ b = 6)) ∨ ((a = 5 ∨ a = 6) ∧ b = 2))
def mayGo (w g p : Int) : Bool :=
  cyc g && may w && (if w = 0 then decide (p = 2) else if waits w g then decide (p = 2 ∨ p = 4) else decide (gen w = g) && follows (ph w) p)
def goes (w g p : Int) : Int := if mayGo w g p && decide (p ≠ 0) then mk g p else 0

theorem okB_iff {g p : Int} : okB g p = true ↔ 1 ≤ g ∧ g ≤ 2147483648 ∧ 1 ≤ p ∧ p ≤ 6 := by unfold okB; simp
theorem cyc_iff {g : Int} : cyc g = true ↔ 1 ≤ g ∧ g ≤ 2147483648 := by unfold cyc; simp
theorem okB_not {g p : Int} (h : okB g p = false) : g < 1 ∨ 2147483648 < g ∨ p < 1 ∨ 6 < p := by
  unfold okB at h; simp at h; omega
theorem st_iff {w : Int} : st w = true ↔ 1 ≤ w / 8 ∧ w / 8 ≤ 2147483648 ∧ 1 ≤ w % 8 ∧ w % 8 ≤ 6 := okB_iff
theorem st_mk {g p : Int} (h : okB g p = true) : st (mk g p) = true ∧ (mk g p) / 8 = g ∧ (mk g p) % 8 = p ∧ 9 ≤ mk g p ∧ mk g p < 18446744073709551616 := by
  obtain ⟨a, b, c, d⟩ := okB_iff.1 h
  have e : mk g p = g * 8 + p := by simp [mk, h]
  rw [e, st_iff]
  omega
theorem mk_bd (g p : Int) : 0 ≤ mk g p ∧ mk g p < 18446744073709551616 := by
  cases h : okB g p
  · simp [mk, h]
  · have := st_mk h; omega
/-- What the text asks of a word: its parts, made a state again, are it. -/
theorem st_eq (w : Int) (h0 : 0 ≤ w) (h1 : w < 18446744073709551616) :
    (okB (w / 8 % 1152921504606846976) (w % 8) && (mk (w / 8 % 1152921504606846976) (w % 8) == w)) = st w := by
  rw [Bool.eq_iff_iff]
  simp only [Bool.and_eq_true, beq_iff_eq, st_iff]
  constructor
  · rintro ⟨a, b⟩
    obtain ⟨s, e1, e2, _, _⟩ := st_mk a
    obtain ⟨c1, c2, c3, c4⟩ := okB_iff.1 a
    omega
  · rintro ⟨a, b, c, d⟩
    have hk : okB (w / 8 % 1152921504606846976) (w % 8) = true := okB_iff.2 (by omega)
    refine ⟨hk, ?_⟩
    simp only [mk, hk, if_true]
    omega
end Ph

theorem ret_bool {a b : Bool} (h : a = b) : Ending.returned (.bool a) = .returned (.bool b) := by rw [h]

set_option maxHeartbeats 400000 in
theorem cycle_any (g : Int) (w : World) : Calls Tryz.prog 95 #[.int .i64 g] w fun e w' => e = .returned (.bool (Ph.cyc g)) ∧ w = w' := by
  by_cases h1 : 1 ≤ g
  · by_cases h2 : g ≤ 2147483648
    · have e : Ph.cyc g = true := Ph.cyc_iff.2 ⟨h1, h2⟩
      rw [e]; clear e
      go_enter Tryz.func95, Tryz.ntmps95
      go_wp2
      go_ret
      exact ⟨rfl, rfl⟩
    · have e : Ph.cyc g = false := by simp [Ph.cyc]; omega
      rw [e]; clear e
      go_enter Tryz.func95, Tryz.ntmps95
      go_wp2
      go_ret
      exact ⟨rfl, rfl⟩
  · have e : Ph.cyc g = false := by simp [Ph.cyc]; omega
    rw [e]; clear e
    go_enter Tryz.func95, Tryz.ntmps95
    go_wp2
    go_ret
    exact ⟨rfl, rfl⟩
set_option maxHeartbeats 400000 in
theorem phMake_any (g p : Int) (w : World) (hp : -9223372036854775808 ≤ p) (hp' : p < 9223372036854775808) :
    Calls Tryz.prog 68 #[.int .i64 g, .int .i64 p] w fun e w' => e = .returned (.tuple #[.int .u64 (Ph.mk g p), .bool (Ph.okB g p)]) ∧ w = w' := by
  cases hk : Ph.okB g p
  · have hm : Ph.mk g p = 0 := by simp [Ph.mk, hk]
    rw [hm]; clear hm
    have hk' := Ph.okB_not hk
    clear hk
    cases hc : Ph.cyc g
    · go_enter Tryz.func68, Tryz.ntmps68
      go_wp2_with (go_at_call 95; refine (cycle_any _ _).mono ?_; rintro e w' ⟨rfl, rfl⟩)
      go_ret2
      exact ⟨rfl, rfl⟩
    · have hg := Ph.cyc_iff.1 hc
      rcases (show p < 1 ∨ 6 < p by omega) with h | h
      all_goals
        clear hk' hg
        go_enter Tryz.func68, Tryz.ntmps68
        go_wp2_with (go_at_call 95; refine (cycle_any _ _).mono ?_; rintro e w' ⟨rfl, rfl⟩)
        go_ret2
        exact ⟨rfl, rfl⟩
  · obtain ⟨g1, g2, p1, p2⟩ := Ph.okB_iff.1 hk
    have hc : Ph.cyc g = true := Ph.cyc_iff.2 ⟨g1, g2⟩
    have hm : Ph.mk g p = bits .or .u64 (g * 8) p := by
      rw [bits_or_add _ _ 3 (by omega) (by omega) (by omega) (by omega) (by omega) (by omega)]; simp [Ph.mk, hk]
    rw [hm]; clear hm hk
    go_enter Tryz.func68, Tryz.ntmps68
    go_wp2_with (go_at_call 95; refine (cycle_any _ _).mono ?_; rintro e w' ⟨rfl, rfl⟩)
    go_ret2
    exact ⟨rfl, rfl⟩
theorem Ph.mod60 (w : Int) : 0 ≤ w / 8 % 1152921504606846976 ∧ w / 8 % 1152921504606846976 < 1152921504606846976 := by omega
/-- Of a state its cycle and phase; of another word the third answer is false. -/
def SplitOf (x : Int) (e : Ending) : Prop := ∃ g p : Int, e = .returned (.tuple #[.int .i64 g, .int .i64 p, .bool (Ph.st x)]) ∧ (Ph.st x = true → g = x / 8 ∧ p = x % 8) ∧ 0 ≤ g ∧ g < 1152921504606846976 ∧ 0 ≤ p ∧ p < 8
set_option maxHeartbeats 1000000 in
theorem split_any (x : Int) (w : World) (h1 : 0 ≤ x) (h2 : x < 18446744073709551616) :
    Calls Tryz.prog 66 #[.int .u64 x] w fun e w' => SplitOf x e ∧ ∃ k, w' = w.drewN k := by
  have hs := Ph.st_eq x h1 h2
  have hb : x / 8 % 1152921504606846976 = x / 8 ∨ Ph.st x = false := by
    cases h : Ph.st x
    · exact .inr rfl
    · have := Ph.st_iff.1 h; left; omega
  have hg := Ph.mod60 x
  have hfin : SplitOf x (.returned (.tuple #[.int .i64 (x / 8 % 1152921504606846976), .int .i64 (x % 8), .bool (Ph.okB (x / 8 % 1152921504606846976) (x % 8) && (Ph.mk (x / 8 % 1152921504606846976) (x % 8) == x))])) := by
    refine ⟨_, _, by rw [hs], fun h => ⟨?_, rfl⟩, hg.1, hg.2, by omega, by omega⟩
    rcases hb with hb | hb
    · exact hb
    · rw [h] at hb; cases hb
  clear hs hb
  obtain ⟨hg1, hg2⟩ := hg
  have hp1 : 0 ≤ x % 8 := by omega
  have hp2 : x % 8 < 8 := by omega
  cases hk : Ph.okB (x / 8 % 1152921504606846976) (x % 8)
  · rw [hk] at hfin
    have HF := Lib.hid hfin
    clear hfin
    go_enter Tryz.func66, Tryz.ntmps66
    go_wp2_with (first
      | (go_at_call 94; refine (field_any _ _ _ _ (by omega) (by omega) (by omega) (by omega) h1 h2).mono ?_; rintro e w' ⟨rfl, k, rfl⟩)
      | (go_at_call 68; refine (phMake_any _ _ _ (by omega) (by omega)).mono ?_; rintro e w' ⟨rfl, rfl⟩))
    go_ret3
    exact ⟨by simpa using HF.out, _, rfl⟩
  · rw [hk] at hfin
    have HF := Lib.hid hfin
    clear hfin
    go_enter Tryz.func66, Tryz.ntmps66
    go_wp2_with (first
      | (go_at_call 94; refine (field_any _ _ _ _ (by omega) (by omega) (by omega) (by omega) h1 h2).mono ?_; rintro e w' ⟨rfl, k, rfl⟩)
      | (go_at_call 68; refine (phMake_any _ _ _ (by omega) (by omega)).mono ?_; rintro e w' ⟨rfl, rfl⟩))
    go_ret3
    exact ⟨by simpa using HF.out, _, rfl⟩
set_option maxHeartbeats 400000 in
theorem phGen_any (x : Int) (w : World) (h1 : 0 ≤ x) (h2 : x < 18446744073709551616) :
    Calls Tryz.prog 32 #[.int .u64 x] w fun e w' => e = .returned (.int .i64 (Ph.gen x)) ∧ ∃ k, w' = w.drewN k := by
  cases hs : Ph.st x
  · have e : Ph.gen x = 0 := by simp [Ph.gen, hs]
    rw [e]; clear e
    go_enter Tryz.func32, Tryz.ntmps32
    go_wp2_with (go_at_call 66; refine (split_any _ _ h1 h2).mono ?_; rintro e w' ⟨⟨g, p, rfl, -, g1, g2, p1, p2⟩, k, rfl⟩)
    go_ret
    exact ⟨rfl, _, rfl⟩
  · have e : Ph.gen x = x / 8 := by simp [Ph.gen, hs]
    rw [e]; clear e
    go_enter Tryz.func32, Tryz.ntmps32
    go_wp2_with (go_at_call 66; refine (split_any _ _ h1 h2).mono ?_; rintro e w' ⟨⟨g, p, rfl, hq, g1, g2, p1, p2⟩, k, rfl⟩; obtain ⟨rfl, rfl⟩ := hq hs)
    go_ret
    exact ⟨rfl, _, rfl⟩
set_option maxHeartbeats 400000 in
theorem phPhase_any (x : Int) (w : World) (h1 : 0 ≤ x) (h2 : x < 18446744073709551616) :
    Calls Tryz.prog 33 #[.int .u64 x] w fun e w' => e = .returned (.int .i64 (Ph.ph x)) ∧ ∃ k, w' = w.drewN k := by
  cases hs : Ph.st x
  · have e : Ph.ph x = 0 := by simp [Ph.ph, hs]
    rw [e]; clear e
    go_enter Tryz.func33, Tryz.ntmps33
    go_wp2_with (go_at_call 66; refine (split_any _ _ h1 h2).mono ?_; rintro e w' ⟨⟨g, p, rfl, -, g1, g2, p1, p2⟩, k, rfl⟩)
    go_ret
    exact ⟨rfl, _, rfl⟩
  · have e : Ph.ph x = x % 8 := by simp [Ph.ph, hs]
    rw [e]; clear e
    go_enter Tryz.func33, Tryz.ntmps33
    go_wp2_with (go_at_call 66; refine (split_any _ _ h1 h2).mono ?_; rintro e w' ⟨⟨g, p, rfl, hq, g1, g2, p1, p2⟩, k, rfl⟩; obtain ⟨rfl, rfl⟩ := hq hs)
    go_ret
    exact ⟨rfl, _, rfl⟩

theorem ret_two_of {a b : Int} {c d : Bool} (h : a = b) (g : c = d) : Ending.returned (.tuple #[.int .u64 a, .bool c]) = .returned (.tuple #[.int .u64 b, .bool d]) := by rw [h, g]
theorem Ph.goes_eq {x g p : Int} {b : Bool} (h : Ph.mayGo x g p = b) : Ph.goes x g p = if b && decide (p ≠ 0) then Ph.mk g p else 0 := by rw [← h]; rfl
theorem Ph.mayGo_cyc {x g p : Int} (h : Ph.cyc g = false) : Ph.mayGo x g p = false := by simp [Ph.mayGo, h]
theorem Ph.mayGo_may {x g p : Int} (h : Ph.may x = false) : Ph.mayGo x g p = false := by simp [Ph.mayGo, h]
theorem Ph.mayGo_zero {g p : Int} (h : Ph.cyc g = true) : Ph.mayGo 0 g p = decide (p = 2) := by
  have : Ph.may 0 = true := by simp [Ph.may]
  simp [Ph.mayGo, h, this]
theorem Ph.mayGo_waits {x g p : Int} (h : Ph.cyc g = true) (hm : Ph.may x = true) (h0 : x ≠ 0) (hw : Ph.waits x g = true) : Ph.mayGo x g p = decide (p = 2 ∨ p = 4) := by
  simp [Ph.mayGo, h, hm, h0, hw]
theorem Ph.mayGo_else {x g p : Int} (h : Ph.cyc g = true) (hm : Ph.may x = true) (h0 : x ≠ 0) (hw : Ph.waits x g = false) : Ph.mayGo x g p = (decide (Ph.gen x = g) && Ph.follows (Ph.ph x) p) := by
  simp [Ph.mayGo, h, hm, h0, hw]
theorem Ph.may_st {x : Int} (h0 : x ≠ 0) : Ph.may x = Ph.st x := by simp [Ph.may, h0]
theorem Ph.mayGo_ok {x g p : Int} (h : Ph.mayGo x g p = true) : p = 0 ∨ Ph.okB g p = true := by
  simp only [Ph.mayGo, Bool.and_eq_true] at h
  obtain ⟨⟨hc, _⟩, h⟩ := h
  have hg := Ph.cyc_iff.1 hc
  rw [Ph.okB_iff]
  have hp : 0 ≤ p ∧ p ≤ 6 := by
    revert h
    split
    · intro h; simp at h; omega
    · split
      · intro h; simp at h; omega
      · intro h; simp [Ph.follows] at h; omega
  omega
theorem Ph.gen_bd {x : Int} (h1 : 0 ≤ x) (h2 : x < 18446744073709551616) : 0 ≤ Ph.gen x ∧ Ph.gen x ≤ 2147483648 := by
  unfold Ph.gen
  cases h : Ph.st x
  · simp
  · have := Ph.st_iff.1 h; simp; omega
theorem Ph.ph_bd (x : Int) : 0 ≤ Ph.ph x ∧ Ph.ph x ≤ 6 := by
  unfold Ph.ph
  cases h : Ph.st x
  · simp
  · have := Ph.st_iff.1 h; simp; omega


set_option maxHeartbeats 1000000 in
theorem r6State_any (g p : Int) (w : World) :
    Calls Tryz.prog 182 #[.int .i64 g, .int .i64 p] w fun e w' => e = .returned (.tuple #[.int .u64 (Ph.mk g p), .bool (Ph.okB g p)]) ∧ w = w' := by
  cases hk : Ph.okB g p
  · have hm : Ph.mk g p = 0 := by simp [Ph.mk, hk]
    rw [hm]; clear hm
    have hk' := Ph.okB_not hk
    clear hk
    by_cases a1 : g < 1
    · go_enter Tryz.func182, Tryz.ntmps182
      go_wp2
      go_ret2
      exact ⟨rfl, rfl⟩
    · by_cases a2 : 2147483648 < g
      · go_enter Tryz.func182, Tryz.ntmps182
        go_wp2
        go_ret2
        exact ⟨rfl, rfl⟩
      · by_cases a3 : p < 1
        · go_enter Tryz.func182, Tryz.ntmps182
          go_wp2
          go_ret2
          exact ⟨rfl, rfl⟩
        · have a4 : 6 < p := by omega
          clear hk'
          go_enter Tryz.func182, Tryz.ntmps182
          go_wp2
          go_ret2
          exact ⟨rfl, rfl⟩
  · obtain ⟨g1, g2, p1, p2⟩ := Ph.okB_iff.1 hk
    have hm : Ph.mk g p = 8 * g + p := by simp [Ph.mk, hk]; omega
    rw [hm]; clear hm hk
    go_enter Tryz.func182, Tryz.ntmps182
    go_wp2
    go_ret2
    exact ⟨rfl, rfl⟩
set_option maxHeartbeats 1000000 in
theorem r6May_any (x : Int) (w : World) (h1 : 0 ≤ x) (h2 : x < 18446744073709551616) :
    Calls Tryz.prog 67 #[.int .u64 x] w fun e w' => e = .returned (.bool (Ph.may x)) ∧ w = w' := by
  by_cases h0 : x = 0
  · subst h0
    have e : Ph.may 0 = true := by simp [Ph.may]
    rw [e]; clear e
    go_enter Tryz.func67, Tryz.ntmps67
    go_wp2
    go_ret
    exact ⟨rfl, rfl⟩
  · have hz : (x == 0) = false := by simpa using h0
    rw [Ph.may_st h0]
    clear h0
    cases hs : Ph.st x
    · have hs' : ¬ (1 ≤ x / 8 ∧ x / 8 ≤ 2147483648 ∧ 1 ≤ x % 8 ∧ x % 8 ≤ 6) := fun h => by rw [Ph.st_iff.2 h] at hs; cases hs
      clear hs
      by_cases a1 : 1 ≤ x / 8
      · by_cases a2 : x / 8 ≤ 2147483648
        · by_cases a3 : 1 ≤ x % 8
          · have a4 : ¬ x % 8 ≤ 6 := by omega
            clear hs'
            go_enter Tryz.func67, Tryz.ntmps67
            go_wp2
            go_ret
            exact ⟨rfl, rfl⟩
          · clear hs'
            go_enter Tryz.func67, Tryz.ntmps67
            go_wp2
            go_ret
            exact ⟨rfl, rfl⟩
        · clear hs'
          go_enter Tryz.func67, Tryz.ntmps67
          go_wp2
          go_ret
          exact ⟨rfl, rfl⟩
      · clear hs'
        go_enter Tryz.func67, Tryz.ntmps67
        go_wp2
        go_ret
        exact ⟨rfl, rfl⟩
    · obtain ⟨a1, a2, a3, a4⟩ := Ph.st_iff.1 hs
      clear hs
      go_enter Tryz.func67, Tryz.ntmps67
      go_wp2
      go_ret
      exact ⟨rfl, rfl⟩
theorem Ph.gen_of_may {x : Int} (h : Ph.may x = true) : Ph.gen x = x / 8 := by
  by_cases h0 : x = 0
  · subst h0; simp [Ph.gen]
  · rw [Ph.may_st h0] at h; simp [Ph.gen, h]
theorem Ph.gen_of_not {x : Int} (h : Ph.may x = false) : Ph.gen x = 0 := by
  simp only [Ph.may, Bool.or_eq_false_iff] at h; simp [Ph.gen, h.1]
theorem Ph.may_bd {x : Int} (h : Ph.may x = true) : x / 8 ≤ 2147483648 := by
  have := Ph.gen_of_may h
  cases hs : Ph.st x
  · simp [Ph.gen, hs] at this; omega
  · have := Ph.st_iff.1 hs; omega
set_option maxHeartbeats 1000000 in
theorem r6Gen_any (x : Int) (w : World) (h1 : 0 ≤ x) (h2 : x < 18446744073709551616) :
    Calls Tryz.prog 34 #[.int .u64 x] w fun e w' => e = .returned (.int .i64 (Ph.gen x)) ∧ w = w' := by
  cases hm : Ph.may x
  · rw [Ph.gen_of_not hm]
    go_enter Tryz.func34, Tryz.ntmps34
    go_wp2_with (go_at_call 67; refine (r6May_any _ _ h1 h2).mono ?_; rintro e w' ⟨rfl, rfl⟩)
    go_ret
    exact ⟨rfl, rfl⟩
  · rw [Ph.gen_of_may hm]
    have hb := Ph.may_bd hm
    go_enter Tryz.func34, Tryz.ntmps34
    go_wp2_with (go_at_call 67; refine (r6May_any _ _ h1 h2).mono ?_; rintro e w' ⟨rfl, rfl⟩)
    go_ret
    exact ⟨rfl, rfl⟩
theorem Ph.ph_of_may {x : Int} (h : Ph.may x = true) : Ph.ph x = x % 8 := by
  by_cases h0 : x = 0
  · subst h0; simp [Ph.ph]
  · rw [Ph.may_st h0] at h; simp [Ph.ph, h]
theorem Ph.ph_of_not {x : Int} (h : Ph.may x = false) : Ph.ph x = 0 := by
  simp only [Ph.may, Bool.or_eq_false_iff] at h; simp [Ph.ph, h.1]
set_option maxHeartbeats 1000000 in
theorem r6Phase_any (x : Int) (w : World) (h1 : 0 ≤ x) (h2 : x < 18446744073709551616) :
    Calls Tryz.prog 35 #[.int .u64 x] w fun e w' => e = .returned (.int .i64 (Ph.ph x)) ∧ w = w' := by
  cases hm : Ph.may x
  · rw [Ph.ph_of_not hm]
    go_enter Tryz.func35, Tryz.ntmps35
    go_wp2_with (go_at_call 67; refine (r6May_any _ _ h1 h2).mono ?_; rintro e w' ⟨rfl, rfl⟩)
    go_ret
    exact ⟨rfl, rfl⟩
  · rw [Ph.ph_of_may hm]
    go_enter Tryz.func35, Tryz.ntmps35
    go_wp2_with (go_at_call 67; refine (r6May_any _ _ h1 h2).mono ?_; rintro e w' ⟨rfl, rfl⟩)
    go_ret
    exact ⟨rfl, rfl⟩
theorem Ph.waits_eq (x g : Int) (h : 0 ≤ x) : Ph.waits x g = (decide (Ph.ph x = 1) && decide (1 < g) && decide (Ph.gen x = g - 1)) := by
  cases hs : Ph.st x
  · simp [Ph.waits, Ph.ph, hs]
  · have := Ph.st_iff.1 hs
    rw [Bool.eq_iff_iff]
    simp [Ph.waits, Ph.ph, Ph.gen, hs]
    omega
set_option maxHeartbeats 2000000 in
theorem r6Waits_any (x g : Int) (w : World) (h1 : 0 ≤ x) (h2 : x < 18446744073709551616) (g2 : g < 9223372036854775808) :
    Calls Tryz.prog 183 #[.int .u64 x, .int .i64 g] w fun e w' => e = .returned (.bool (Ph.waits x g)) ∧ w = w' := by
  cases hp : (Ph.ph x == 1)
  · have e : Ph.waits x g = false := by rw [Ph.waits_eq x g h1]; simp at hp; simp [hp]
    rw [e]; clear e
    go_enter Tryz.func183, Tryz.ntmps183
    go_wp2_with (go_at_call 35; refine (r6Phase_any _ _ h1 h2).mono ?_; rintro e w' ⟨rfl, rfl⟩)
    go_ret
    exact ⟨rfl, rfl⟩
  · by_cases hg : 1 < g
    · have e : Ph.waits x g = (Ph.gen x == g - 1) := by rw [Ph.waits_eq x g h1]; simp at hp; simp [hp, hg]; rfl
      have E := Lib.hid e
      clear e
      go_enter Tryz.func183, Tryz.ntmps183
      go_wp2_with (first
        | (go_at_call 35; refine (r6Phase_any _ _ h1 h2).mono ?_; rintro e w' ⟨rfl, rfl⟩)
        | (go_at_call 34; refine (r6Gen_any _ _ h1 h2).mono ?_; rintro e w' ⟨rfl, rfl⟩))
      go_ret
      exact ⟨ret_bool (by rw [E.out]), rfl⟩
    · have e : Ph.waits x g = false := by rw [Ph.waits_eq x g h1]; simp [hg]
      rw [e]; clear e
      go_enter Tryz.func183, Tryz.ntmps183
      go_wp2_with (go_at_call 35; refine (r6Phase_any _ _ h1 h2).mono ?_; rintro e w' ⟨rfl, rfl⟩)
      go_ret
      exact ⟨rfl, rfl⟩
end Go.Proofs.YtbepbcjklgfmjaaGreatDoor

/- slices.BinarySearchFunc over a list of runs, by where they end. By an AI agent. -/
import Derived.Deep.LoopGhost
import Derived.Deep.RegionWith
import Derived.Test.YtbijbpnhakbeeaaMem
namespace Go.Proofs.Ytbijbpnhakbeeaa
open Go.RowKit

/-- A row of runs: page and length by two's. -/
def Row2 (w : World) (g : Nat) (xs : List (Int × Int)) : Prop :=
  ∀ j x, xs[j]? = some x → w.cell? ⟨g, j * 2, none⟩ = some (.int .i64 x.1) ∧ w.cell? ⟨g, j * 2 + 1, none⟩ = some (.int .i64 x.2)
theorem Row2.adds {w w' : World} {g : Nat} {xs : List (Int × Int)} (h : Row2 w g xs) (ho : Adds w w') : Row2 w' g xs := fun j x hj =>
  ⟨(ho.cellF (p := ⟨g, j * 2, none⟩) (cell_lt (h j x hj).1) id).trans (h j x hj).1, (ho.cellF (p := ⟨g, j * 2 + 1, none⟩) (cell_lt (h j x hj).1) id).trans (h j x hj).2⟩
/-- Small numbers. -/
def Small (xs : List (Int × Int)) : Prop := ∀ x ∈ xs, 0 ≤ x.1 ∧ x.1 < 1000000 ∧ 0 ≤ x.2 ∧ x.2 < 1000000
/-- How many end ahead of a page. -/
def placeOf (xs : List (Int × Int)) (a : Int) : Nat := xs.countP (fun x => decide (x.1 + x.2 < a))
/-- They rise by where they end. -/
def Rise (xs : List (Int × Int)) : Prop := ∀ (i j : Nat) x y, i ≤ j → xs[i]? = some x → xs[j]? = some y → x.1 + x.2 ≤ y.1 + y.2
theorem countP_bound {α : Type} (p : α → Bool) : ∀ (l : List α) (i : Nat), i ≤ l.length → (∀ t x, t < i → l[t]? = some x → p x = true) → (∀ t x, i ≤ t → l[t]? = some x → p x = false) → l.countP p = i
  | [], i, hi, _, _ => by simp at hi; simp [hi]
  | a :: r, 0, _, _, h2 => by
    rw [List.countP_eq_zero]
    intro x hx
    obtain ⟨t, ht⟩ := List.mem_iff_getElem?.1 hx
    simp [h2 t x (Nat.zero_le _) ht]
  | a :: r, i + 1, hi, h1, h2 => by
    have ha : p a = true := h1 0 a (Nat.succ_pos _) rfl
    rw [List.countP_cons_of_pos ha, countP_bound p r i (by simpa using hi) (fun t x ht hx => h1 (t + 1) x (by omega) (by simpa using hx)) (fun t x h3 hx => h2 (t + 1) x (by omega) (by simpa using hx))]

/-- What cmp.Compare says of two numbers. -/
def cmpOf (a b : Int) : Int := if a < b then -1 else if b < a then 1 else 0
set_option maxHeartbeats 1000000 in
theorem isNaN_any (a : Int) (w : World) : Calls Try.prog 102 #[.int .i64 a] w fun e w' => e = .returned (.bool false) ∧ w = w' := by
  go_enter Try.func102, Try.ntmps102
  go_wp2
  go_ret
  exact ⟨by simp, rfl⟩
set_option maxHeartbeats 1000000 in
theorem compare_any (a b : Int) (w : World) : Calls Try.prog 96 #[.int .i64 a, .int .i64 b] w fun e w' => e = .returned (.int .i64 (cmpOf a b)) ∧ ∃ n, w' = w.drewN n := by
  unfold cmpOf
  by_cases h1 : a < b
  · go_enter Try.func96, Try.ntmps96
    go_wp2_with (go_at_call 102; refine (isNaN_any _ _).mono ?_; rintro e w1 ⟨rfl, rfl⟩)
    go_ret
    exact ⟨by simp [*], 0, rfl⟩
  · by_cases h2 : b < a
    · go_enter Try.func96, Try.ntmps96
      go_wp2_with (go_at_call 102; refine (isNaN_any _ _).mono ?_; rintro e w1 ⟨rfl, rfl⟩)
      go_ret
      exact ⟨by simp [*], 0, rfl⟩
    · go_enter Try.func96, Try.ntmps96
      go_wp2_with (go_at_call 102; refine (isNaN_any _ _).mono ?_; rintro e w1 ⟨rfl, rfl⟩)
      go_ret
      exact ⟨by simp [*], 0, rfl⟩
set_option maxHeartbeats 1000000 in
theorem placeFn_any (a n t : Int) (w : World) (ha : 0 ≤ a ∧ a < 1000000 ∧ 0 ≤ n ∧ n < 1000000) :
    Calls Try.prog 95 #[.agg #[.int .i64 a, .int .i64 n], .int .i64 t] w fun e w' => e = .returned (.int .i64 (cmpOf (a + n) t)) ∧ Adds w w' := by
  have hw : wrap64 (a + n) = a + n := by simp [wrap64]; omega
  go_enter Try.func95, Try.ntmps95
  go_wp2_with (go_at_call 96; refine (compare_any _ _ _).mono ?_; rintro e w1 ⟨rfl, n, rfl⟩)
  go_ret
  exact ⟨rfl, ((Only.refl _ _).alloc _).drewN _⟩
set_option maxRecDepth 100000 in
set_option maxHeartbeats 4000000 in
theorem search_any (g cp : Nat) (xs : List (Int × Int)) (t : Int) (w : World) (hr : Row2 w g xs) (hs : Small xs) (hm : Rise xs) (hl : xs.length < 1000000) :
    Calls Try.prog 94 #[.slice (some ⟨g, 0, none⟩) xs.length cp, .int .i64 t, .func (.func 95) #[] #[]] w fun e w' => (∃ b, e = .returned (.tuple #[.int .i64 (placeOf xs t : Nat), .bool b])) ∧ Adds w w' := by
  have HR := Lib.hid hr; have HS := Lib.hid hs; have HM := Lib.hid hm
  clear hr hs hm
  go_enter Try.func94, Try.ntmps94
  go_wp2
  go_loopg [9, 10] xs.length (fun kx s9 s10 wr => ∃ lo hi : Nat, s9 = .int .i64 lo ∧ s10 = .int .i64 hi ∧ lo ≤ hi ∧ hi ≤ xs.length ∧ hi - lo ≤ kx ∧ Hid (Adds w wr) ∧
    Hid ((∀ j x, j < lo → xs[j]? = some x → x.1 + x.2 < t) ∧ (∀ j x, hi ≤ j → xs[j]? = some x → t ≤ x.1 + x.2)))
  case atStart => exact ⟨0, xs.length, rfl, rfl, Nat.zero_le _, Nat.le_refl _, by omega, Lib.hid (Only.refl _ _), Lib.hid ⟨fun j x hj _ => absurd hj (Nat.not_lt_zero _), fun j x h1 h2 => absurd (List.getElem?_eq_some_iff.1 h2).1 (by omega)⟩⟩
  case round =>
    obtain ⟨lo, hi, rfl, rfl, hlh, hin, hg, HA, HI⟩ := hrel
    by_cases hlt : lo < hi
    · obtain ⟨x, hx⟩ : ∃ x, xs[(lo + hi) / 2]? = some x := ⟨_, List.getElem?_eq_getElem (by omega)⟩
      have hrow := HR.out.adds HA.out
      obtain ⟨c0, c1⟩ := hrow _ _ hx
      clear hrow
      have hc := fun W => placeFn_any x.1 x.2 t W (HS.out x (List.mem_of_getElem? hx))
      have HX := Lib.hid hx
      clear hx
      by_cases hyx : x.1 + x.2 < t
      · have e1 : cmpOf (x.1 + x.2) t = -1 := by simp [cmpOf, hyx]
        rw [e1] at hc
        have HC := Lib.hid hc
        clear hc
        go_wp2_with (go_at_call 95; refine (HC.out _).mono ?_; rintro e w1 ⟨rfl, ho⟩)
        go_roundg (hi - ((lo + hi) / 2 + 1))
        case measure => omega
        case rel =>
          have I2 : Hid ((∀ j x, j < (lo + hi) / 2 + 1 → xs[j]? = some x → x.1 + x.2 < t) ∧ (∀ j x, hi ≤ j → xs[j]? = some x → t ≤ x.1 + x.2)) :=
            Lib.hid ⟨fun j y hj hy => by have := HM.out j ((lo + hi) / 2) y x (by omega) hy HX.out; omega, HI.out.2⟩
          exact ⟨(lo + hi) / 2 + 1, hi, by rw [show ((lo : Int) + (hi : Int)) / 2 + 1 = (((lo + hi) / 2 + 1 : Nat) : Int) by omega], rfl, by omega, hin, Nat.le_refl _, Lib.hid (HA.out.thenF ho), I2⟩
      · have e1 : ∃ c, cmpOf (x.1 + x.2) t = c ∧ 0 ≤ c := ⟨_, rfl, by unfold cmpOf; rw [if_neg hyx]; split <;> omega⟩
        obtain ⟨c, e1, e2⟩ := e1
        rw [e1] at hc
        have HC := Lib.hid hc
        clear hc
        go_wp2_with (go_at_call 95; refine (HC.out _).mono ?_; rintro e w1 ⟨rfl, ho⟩)
        go_roundg ((lo + hi) / 2 - lo)
        case measure => omega
        case rel =>
          have I2 : Hid ((∀ j x, j < lo → xs[j]? = some x → x.1 + x.2 < t) ∧ (∀ j x, (lo + hi) / 2 ≤ j → xs[j]? = some x → t ≤ x.1 + x.2)) :=
            Lib.hid ⟨HI.out.1, fun j y hj hy => by have := HM.out ((lo + hi) / 2) j x y hj HX.out hy; omega⟩
          exact ⟨lo, (lo + hi) / 2, rfl, by rw [show ((lo : Int) + (hi : Int)) / 2 = (((lo + hi) / 2 : Nat) : Int) by omega], by omega, by omega, Nat.le_refl _, Lib.hid (HA.out.thenF ho), I2⟩
    · obtain rfl : hi = lo := by omega
      have ecnt : placeOf xs t = hi := by
        refine countP_bound _ xs hi hin (fun j y hj hy => ?_) (fun j y hj hy => ?_)
        · exact decide_eq_true (HI.out.1 j y hj hy)
        · exact decide_eq_false (by have := HI.out.2 j y hj hy; omega)
      by_cases hn : hi < xs.length
      · obtain ⟨x, hx⟩ : ∃ x, xs[hi]? = some x := ⟨_, List.getElem?_eq_getElem hn⟩
        have hrow := HR.out.adds HA.out
        obtain ⟨c0, c1⟩ := hrow _ _ hx
        clear hrow
        have hc := fun W => placeFn_any x.1 x.2 t W (HS.out x (List.mem_of_getElem? hx))
        clear hx
        generalize cmpOf (x.1 + x.2) t = c at hc
        have HC := Lib.hid hc
        clear hc
        go_wp2_with (go_at_call 95; refine (HC.out _).mono ?_; rintro e w1 ⟨rfl, ho⟩)
        go_ret2
        exact ⟨⟨c == 0, by rw [ecnt]; rfl⟩, HA.out.thenF ho⟩
      · go_wp2
        go_ret2
        exact ⟨⟨false, by rw [ecnt]; rfl⟩, HA.out⟩
end Go.Proofs.Ytbijbpnhakbeeaa

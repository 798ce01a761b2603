/- has, right: of a list of runs. By an AI agent. -/
import Derived.Test.YtbijbpnhakbeeaaRunsAwake
namespace Go.Proofs.Ytbijbpnhakbeeaa
open Go.RowKit
def hasB (xs : List (Int × Int)) (p : Int) : Bool := xs.any (fun x => decide (x.1 ≤ p) && decide (p < x.1 + x.2))
theorem hasB_iff {xs : List (Int × Int)} {p : Int} : hasB xs p = true ↔ pg xs p := by
  unfold hasB pg
  rw [List.any_eq_true]
  constructor
  · rintro ⟨x, hx, h⟩
    simp only [Bool.and_eq_true, decide_eq_true_eq] at h
    exact ⟨x, hx, h⟩
  · rintro ⟨x, hx, h⟩
    exact ⟨x, hx, by simpa using h⟩
set_option maxRecDepth 100000 in
set_option maxHeartbeats 4000000 in
theorem has_any {w : World} {v : Value} {xs : List (Int × Int)} (hv : NodesAt w v xs) (hs : Small xs) (hl : xs.length < 1000000) (p : Int) :
    Calls Try.prog 31 #[v, .int .i64 p] w fun e w' => e = .returned (.bool (hasB xs p)) ∧ ∃ n, w' = w.drewN n := by
  obtain ⟨a, c, rfl, hv⟩ := hv
  have HV := Lib.hid hv; have HS := Lib.hid hs
  obtain ⟨R, hR⟩ : ∃ R, hasB xs p = R := ⟨_, rfl⟩
  have HR := Lib.hid hR
  rw [hR]
  clear hv hs hR
  go_enter Try.func31, Try.ntmps31
  go_wp2
  go_loopw [5] (fun i wr => ∃ k m : Nat, k ≤ xs.length ∧ i = .int .i64 k ∧ wr = w.drewN m ∧ RowKit.Hid (∀ y ∈ xs.take k, ¬ (y.1 ≤ p ∧ p < y.1 + y.2))) (fun i _ => xs.length - (intOf i).toNat)
  case atStart => exact ⟨0, 0, Nat.zero_le _, rfl, rfl, Lib.hid (fun j hj => by simp at hj)⟩
  case round =>
    obtain ⟨k, m, hk, rfl, rfl, hp⟩ := hrel
    by_cases hkn : k < xs.length
    · obtain ⟨x, hx⟩ : ∃ x, xs[k]? = some x := ⟨_, List.getElem?_eq_getElem hkn⟩
      obtain ⟨b, o, rfl, p1, p2⟩ := HV.out k x hx
      have hsx := HS.out x (List.mem_of_getElem? hx)
      have HX := Lib.hid hx
      have hk4 : k < 1000000 := by omega
      have hwk := wrap_succ k hk4
      have hwx := wrap_ok (x.1 + x.2) (by omega) (by omega)
      have hwx2 := wrap64_ok (x.1 + x.2) (by omega) (by omega)
      clear hx
      by_cases h1 : x.1 ≤ p
      · by_cases h2 : p < x.1 + x.2
        · have hR1 : R = true := by
            rw [← HR.out, hasB_iff]
            exact ⟨x, List.mem_of_getElem? HX.out, h1, h2⟩
          subst hR1
          go_wp2
          go_quiet ((fail))
          go_wp2
          go_ret
          exact ⟨rfl, m + nq, by simp [World.drewN, Nat.add_assoc]⟩
        · go_wp2
          go_quiet ((fail))
          go_wp2
          go_roundw
          case rel => exact ⟨k + 1, m + nq, by omega, by simp, by simp [World.drewN, Nat.add_assoc], Lib.hid (fun y hy => by
            rw [List.take_add_one, HX.out] at hy
            simp only [Option.toList_some, List.mem_append, List.mem_singleton] at hy
            rcases hy with hy | rfl
            · exact hp y hy
            · omega)⟩
          case measure => simp [intOf]; omega
      · have t1 : decide (x.1 ≤ p) = false := by simpa using h1
        clear h1
        go_wp2
        go_quiet ((fail))
        go_wp2
        go_roundw
        case rel => exact ⟨k + 1, m + nq, by omega, by simp, by simp [World.drewN, Nat.add_assoc], Lib.hid (fun y hy => by
          have h1 : ¬ x.1 ≤ p := by simpa using t1
          rw [List.take_add_one, HX.out] at hy
          simp only [Option.toList_some, List.mem_append, List.mem_singleton] at hy
          rcases hy with hy | rfl
          · exact hp y hy
          · omega)⟩
        case measure => simp [intOf]; omega
    · have hR0 : R = false := by
        rw [← HR.out]
        cases hb : hasB xs p
        · rfl
        · obtain ⟨x, hx, h⟩ := hasB_iff.1 hb
          exact absurd h (hp x (by rw [List.take_of_length_le (by omega)]; exact hx))
      subst hR0
      go_wp2
      go_ret
      exact ⟨rfl, _, rfl⟩
set_option maxRecDepth 100000 in
set_option maxHeartbeats 4000000 in
theorem right_any {w : World} {v : Value} {xs : List (Int × Int)} (hv : NodesAt w v xs) {P : Int} (hs : RunsOk P xs) (hP : P ≤ 4096) (hl : xs.length < 1000000) :
    Calls Try.prog 33 #[v] w fun e w' => e = .returned (.bool true) ∧ ∃ n, w' = w.drewN n := by
  obtain ⟨a, c, rfl, hv⟩ := hv
  have HV := Lib.hid hv; have HS := Lib.hid hs
  clear hv hs
  go_enter Try.func33, Try.ntmps33
  go_wp2
  go_loopw [3] (fun i wr => ∃ k m : Nat, k ≤ xs.length ∧ i = .int .i64 k ∧ wr = w.drewN m) (fun i _ => xs.length - (intOf i).toNat)
  case atStart => exact ⟨0, 0, Nat.zero_le _, rfl, rfl⟩
  case round =>
    obtain ⟨k, m, hk, rfl, rfl⟩ := hrel
    by_cases hkn : k < xs.length
    · obtain ⟨x, hx⟩ : ∃ x, xs[k]? = some x := ⟨_, List.getElem?_eq_getElem hkn⟩
      obtain ⟨b, o, rfl, p1, p2⟩ := HV.out k x hx
      have hsx := HS.out.bd x (List.mem_of_getElem? hx)
      have hk4 : k < 1000000 := by omega
      have hwk := wrap_succ k hk4
      have hx1 : ¬ x.2 < 1 := by omega
      have hx2 := hsx.2.1
      by_cases hk0 : k = 0
      · subst hk0
        have t1 : decide (x.2 < 1) = false := by simpa using hx1
        clear hx hx1 hx2
        go_wp2
        go_quiet ((fail))
        go_wp2
        go_roundw
        case rel => exact ⟨1, m + nq, by omega, by simp, by simp [World.drewN, Nat.add_assoc]⟩
        case measure => simp [intOf]; omega
      · obtain ⟨j, hj⟩ : ∃ j, k = j + 1 := ⟨k - 1, by omega⟩
        obtain ⟨y, hy⟩ : ∃ y, xs[j]? = some y := ⟨_, List.getElem?_eq_getElem (by omega)⟩
        obtain ⟨b', o', hbb, r1, r2⟩ := HV.out j y hy
        cases hbb
        have hsy := HS.out.bd y (List.mem_of_getElem? hy)
        have hgap : y.1 + y.2 < x.1 := by
          obtain ⟨g1, g2⟩ := List.getElem?_eq_some_iff.1 hx
          obtain ⟨g3, g4⟩ := List.getElem?_eq_some_iff.1 hy
          have := List.pairwise_iff_getElem.1 HS.out.gap j k g3 g1 (by omega)
          rw [g2, g4] at this; exact this
        have hwx := wrap_ok (y.1 + y.2) (by omega) (by omega)
        have hwx2 := wrap64_ok (y.1 + y.2) (by omega) (by omega)
        have hwm : IntKind.i64.wrap ((k : Int) - 1) = (j : Int) := by rw [wrap_ok _ (by omega) (by omega)]; omega
        have hwm2 : wrap64 ((k : Int) - 1) = (j : Int) := by rw [wrap64_ok _ (by omega) (by omega)]; omega
        have hjl : j < xs.length := by omega
        have t1 : decide (x.2 < 1) = false := by simpa using hx1
        have t2 : decide (0 < k) = true := by simp; omega
        have t3 : decide (x.1 ≤ y.1 + y.2) = false := by simp; omega
        have t4 : decide ((0 : Int) < (k : Int)) = true := by simp; omega
        clear hx hy hj hk0 hx1 hx2 hgap hsx hsy hk4
        go_wp2
        go_quiet ((fail))
        go_wp2
        go_roundw
        case rel => exact ⟨k + 1, m + nq, by omega, by simp, by simp [World.drewN, Nat.add_assoc]⟩
        case measure => simp [intOf]; omega
    · go_wp2
      go_ret
      exact ⟨rfl, _, rfl⟩
end Go.Proofs.Ytbijbpnhakbeeaa

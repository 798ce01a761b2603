/- Package layout: Head, Cache, Page, Map. Package layout: Name. Contracts of package word's Ones, within, Field, for every argument: by an AI agent. Or of parts. Contracts of package tag, and of its reference, for every argument: by an AI agent. Is a word a head's? And the small functions of package stack. By an AI agent. -/
import Derived.Test.YthhnpcniijpfeaaGreatZ2
import Derived.Test.YthhnpcniijpfeaaGreatProg
import Derived.WalkKit
import Derived.WalkSpells
import Derived.WalkLawsBesides
import Derived.Deep.QuietTactic
import Derived.BigQuiet
import Derived.Lib.Hide
import Derived.Deep.RegionHeld3
namespace Go.Proofs.YthhnpcniijpfeaaGreat
open Go.RowKit
set_option linter.unusedSimpArgs false
set_option linter.unusedVariables false
/-- The answer of a call that tells a place, or none. -/
def atV (ok : Bool) (x : Int) : Int := if ok then x else 0
def atOf (ok : Bool) (x : Int) : Ending := .returned (.tuple #[.int .i64 (atV ok x), .bool ok])
theorem atOf_no {ok : Bool} {x : Int} (h : ok = false) : atOf ok x = .returned (.tuple #[.int .i64 0, .bool false]) := by simp [atOf, atV, h]
theorem atOf_yes {ok : Bool} {x : Int} (h : ok = true) : atOf ok x = .returned (.tuple #[.int .i64 x, .bool true]) := by simp [atOf, atV, h]
theorem retIB {k : IntKind} {a b : Int} {c d : Bool} (h : a = b) (g : c = d) : Ending.returned (.tuple #[.int k a, .bool c]) = .returned (.tuple #[.int k b, .bool d]) := by rw [h, g]

set_option maxHeartbeats 2000000 in
theorem layPage_any (P T k p : Int) (w : World) :
    Calls Tryz.prog 54 #[.agg #[.int .i64 P, .int .i64 T], .int .i64 k, .int .i64 p] w fun e w' => e = atOf (Lay.pageOk P T k p) (Lay.pageAt P T k p) ∧ Adds w w' := by
  cases hm : Lay.may P T
  · rw [atOf_no (by simp [Lay.pageOk, hm])]
    go_enter Tryz.func54, Tryz.ntmps54
    go_wp2_with (go_at_call 58; refine (layMay_any _ _ _).mono ?_; rintro e w1 ⟨rfl, ho⟩)
    go_ret2
    exact ⟨rfl, Adds.box (by assumption)⟩
  obtain ⟨hP1, hP2, hT1, hT2⟩ := Lay.may_iff.1 hm
  cases h1 : fromB p P
  · rw [atOf_no (by rw [Bool.eq_false_iff] at h1 ⊢; intro h; apply h1; rw [fromB_iff]; simp [Lay.pageOk] at h; omega)]
    go_enter Tryz.func54, Tryz.ntmps54
    go_wp2_with (first
      | (go_at_call 58; refine (layMay_any _ _ _).mono ?_; rintro e w1 ⟨rfl, ho⟩; have HO := Lib.hid (Adds.box ho); obtain ⟨hc, hf⟩ := ho.reads; clear ho)
      | (go_at_call 73; refine (from_any _ _ _).mono ?_; rintro e w1 ⟨rfl, rfl⟩))
    go_ret2
    exact ⟨rfl, Hid.out (by assumption)⟩
  obtain ⟨p1, p2⟩ := fromB_iff.1 h1
  by_cases hk : k = 14
  · subst hk
    rw [atOf_yes (by simp [Lay.pageOk, hm]; omega)]
    go_enter Tryz.func54, Tryz.ntmps54
    go_wp2_with (first
      | (go_at_call 58; refine (layMay_any _ _ _).mono ?_; rintro e w1 ⟨rfl, ho⟩; have HO := Lib.hid (Adds.box ho); obtain ⟨hc, hf⟩ := ho.reads; clear ho)
      | (go_at_call 73; refine (from_any _ _ _).mono ?_; rintro e w1 ⟨rfl, rfl⟩)
      | (go_at_call 76; refine (layIndex_any _ _ _ hP1 hP2 hT1 hT2).mono ?_; rintro e w1 ⟨rfl, ho1⟩))
    go_ret2
    exact ⟨retIB (by simp [Lay.pageAt]) rfl, Only.thenF (Hid.out (by assumption)) (by assumption)⟩
  · have hk' : (k == 14) = false := by simpa using hk
    by_cases hk1 : 9 ≤ k
    · by_cases hk2 : k < 14
      · rw [atOf_yes (by simp [Lay.pageOk, hm]; omega)]
        have E : Hid (Lay.pageAt P T k p = 68 + 14 * T + 5 * p + k - 9) := by show Lay.pageAt P T k p = _; simp [Lay.pageAt, hk]
        clear hk
        go_enter Tryz.func54, Tryz.ntmps54
        go_wp2_with (first
          | (go_at_call 58; refine (layMay_any _ _ _).mono ?_; rintro e w1 ⟨rfl, ho⟩; have HO := Lib.hid (Adds.box ho); obtain ⟨hc, hf⟩ := ho.reads; clear ho)
          | (go_at_call 73; refine (from_any _ _ _).mono ?_; rintro e w1 ⟨rfl, rfl⟩)
          | (go_at_call 75; refine (layPages_any _ _ _ hT1 hT2).mono ?_; rintro e w1 ⟨rfl, ho1⟩))
        go_ret2
        exact ⟨retIB (by rw [E.out]) rfl, Only.thenF (Hid.out (by assumption)) (by assumption)⟩
      · rw [atOf_no (by simp [Lay.pageOk, hm]; omega)]
        have hk3 : decide (k < 14) = false := by simpa using hk2
        clear hk hk2
        go_enter Tryz.func54, Tryz.ntmps54
        go_wp2_with (first
          | (go_at_call 58; refine (layMay_any _ _ _).mono ?_; rintro e w1 ⟨rfl, ho⟩; have HO := Lib.hid (Adds.box ho); obtain ⟨hc, hf⟩ := ho.reads; clear ho)
          | (go_at_call 73; refine (from_any _ _ _).mono ?_; rintro e w1 ⟨rfl, rfl⟩))
        go_ret2
        exact ⟨rfl, Hid.out (by assumption)⟩
    · rw [atOf_no (by simp [Lay.pageOk, hm]; omega)]
      have hk3 : decide (9 ≤ k) = false := by simpa using hk1
      clear hk
      go_enter Tryz.func54, Tryz.ntmps54
      go_wp2_with (first
        | (go_at_call 58; refine (layMay_any _ _ _).mono ?_; rintro e w1 ⟨rfl, ho⟩; have HO := Lib.hid (Adds.box ho); obtain ⟨hc, hf⟩ := ho.reads; clear ho)
        | (go_at_call 73; refine (from_any _ _ _).mono ?_; rintro e w1 ⟨rfl, rfl⟩))
      go_ret2
      exact ⟨rfl, Hid.out (by assumption)⟩
namespace Lay
def aloneK (i : Int) : Int := if 0 ≤ i ∧ i ≤ 4 then i + 1 else 6
def nameOk (P T i : Int) : Bool := decide (0 ≤ i ∧ i < words P T)
/-- What a word is for: kind, A, B. -/
def nameAt (P T i : Int) : Int × Int × Int :=
  if i < 8 then (aloneK i, 0, 0)
  else if i < 68 then (7, (i - 8) / 4, (i - 8) % 4)
  else if i < 68 + 14 * T then (8, (i - 68) / 14, (i - 68) % 14)
  else if i < 68 + 14 * T + 5 * P then (9 + (i - (68 + 14 * T)) % 5, (i - (68 + 14 * T)) / 5, 0)
  else if i < 68 + 14 * T + 6 * P then (14, i - (68 + 14 * T + 5 * P), 0)
  else if i < 68 + 14 * T + 6 * P + many P then (15, i - (68 + 14 * T + 6 * P), 0)
  else (16, i - (68 + 14 * T + 6 * P + many P), 0)
theorem nameOk_may {P T i : Int} (h : nameOk P T i = true) : may P T = true := by
  cases hm : may P T
  · simp [nameOk, words, hm] at h; omega
  · rfl
end Lay
/-- The answer of Name. -/
def nameOf (ok : Bool) (x : Int × Int × Int) : Ending := .returned (.tuple #[.agg #[.int .i64 (atV ok x.1), .int .i64 (atV ok x.2.1), .int .i64 (atV ok x.2.2)], .bool ok])
theorem nameOf_no {ok : Bool} {x : Int × Int × Int} (h : ok = false) : nameOf ok x = .returned (.tuple #[.agg #[.int .i64 0, .int .i64 0, .int .i64 0], .bool false]) := by simp [nameOf, atV, h]
theorem nameOf_yes {ok : Bool} {x : Int × Int × Int} {a b c : Int} (h : ok = true) (hx : x = (a, b, c)) : nameOf ok x = .returned (.tuple #[.agg #[.int .i64 a, .int .i64 b, .int .i64 c], .bool true]) := by simp [nameOf, atV, h, hx]
theorem cells2 {w : World} {b : Nat} {x y : Value} {t : TypeId} (h : Blk w b #[x, y] t) : w.cell? ⟨b, 0, none⟩ = some x ∧ w.cell? ⟨b, 1, none⟩ = some y := ⟨h.cell 0, h.cell 1⟩
theorem cells3 {w : World} {b : Nat} {x y z : Value} {t : TypeId} (h : Blk w b #[x, y, z] t) :
    w.cell? ⟨b, 0, none⟩ = some x ∧ w.cell? ⟨b, 1, none⟩ = some y ∧ w.cell? ⟨b, 2, none⟩ = some z ∧ w.frozen? ⟨b, 0, none⟩ = false ∧ w.frozen? ⟨b, 1, none⟩ = false ∧ w.frozen? ⟨b, 2, none⟩ = false :=
  ⟨h.cell 0, h.cell 1, h.cell 2, h.frozen 0, h.frozen 1, h.frozen 2⟩
theorem Only.set3 {w w1 : World} (h : Adds w w1) {b : Nat} (hb : w.heap.size ≤ b) (x y z : Value) : Adds w (((w1.setCell ⟨b, 0, none⟩ x).setCell ⟨b, 1, none⟩ y).setCell ⟨b, 2, none⟩ z) :=
  ((h.setCell (.inr hb) x).setCell (.inr hb) y).setCell (.inr hb) z
set_option maxHeartbeats 400000 in
theorem alone_any (i : Int) (w : World) : Calls Tryz.prog 74 #[.int .i64 i] w fun e w' => e = .returned (.agg #[.int .i64 (Lay.aloneK i), .int .i64 0, .int .i64 0]) ∧ Adds w w' := by
  have hc : (i = 0 ∨ i = 1 ∨ i = 2 ∨ i = 3 ∨ i = 4) ∨ ((i == 0) = false ∧ (i == 1) = false ∧ (i == 2) = false ∧ (i == 3) = false ∧ (i == 4) = false ∧ Lay.aloneK i = 6) := by
    by_cases h : i = 0 ∨ i = 1 ∨ i = 2 ∨ i = 3 ∨ i = 4
    · exact .inl h
    · right
      have e : Lay.aloneK i = 6 := by unfold Lay.aloneK; rw [if_neg (by omega)]
      rw [e]
      simp only [beq_eq_false_iff_ne]
      refine ⟨?_, ?_, ?_, ?_, ?_, trivial⟩ <;> omega
  rcases hc with (rfl | rfl | rfl | rfl | rfl) | ⟨h0, h1, h2, h3, h4, e⟩
  case inr =>
    rw [e]; clear e
    go_enter Tryz.func74, Tryz.ntmps74
    go_wp2
    exact bodyPost_ret (v := .agg #[.int .i64 6, .int .i64 0, .int .i64 0]) (by simp [results, Tryz.results74, go_sem]) rfl ⟨rfl, (Only.refl _ _).alloc _⟩
  all_goals
    go_enter Tryz.func74, Tryz.ntmps74
    go_wp2
  · exact bodyPost_ret (v := .agg #[.int .i64 1, .int .i64 0, .int .i64 0]) (by simp [results, Tryz.results74, go_sem]) rfl ⟨rfl, (Only.refl _ _).alloc _⟩
  · exact bodyPost_ret (v := .agg #[.int .i64 2, .int .i64 0, .int .i64 0]) (by simp [results, Tryz.results74, go_sem]) rfl ⟨rfl, (Only.refl _ _).alloc _⟩
  · exact bodyPost_ret (v := .agg #[.int .i64 3, .int .i64 0, .int .i64 0]) (by simp [results, Tryz.results74, go_sem]) rfl ⟨rfl, (Only.refl _ _).alloc _⟩
  · exact bodyPost_ret (v := .agg #[.int .i64 4, .int .i64 0, .int .i64 0]) (by simp [results, Tryz.results74, go_sem]) rfl ⟨rfl, (Only.refl _ _).alloc _⟩
  · exact bodyPost_ret (v := .agg #[.int .i64 5, .int .i64 0, .int .i64 0]) (by simp [results, Tryz.results74, go_sem]) rfl ⟨rfl, (Only.refl _ _).alloc _⟩

set_option maxRecDepth 100000 in
set_option maxHeartbeats 8000000 in
theorem layName_any (P T i : Int) (w : World) :
    Calls Tryz.prog 52 #[.agg #[.int .i64 P, .int .i64 T], .int .i64 i] w fun e w' => e = nameOf (Lay.nameOk P T i) (Lay.nameAt P T i) ∧ Adds w w' := by
  have B1 := (Blk.new w #[.int .i64 P, .int .i64 T] 26).alloc (.cells #[.int .i64 0, .int .i64 0, .int .i64 0] 97)
  have B2 := Blk.new (w.alloc (.cells #[.int .i64 P, .int .i64 T] 26)) #[.int .i64 0, .int .i64 0, .int .i64 0] 97
  rw [World.size_alloc] at B2
  have HA := Lib.hid (((Only.refl (fun _ => False) w).alloc (.cells #[.int .i64 P, .int .i64 T] 26)).alloc (.cells #[.int .i64 0, .int .i64 0, .int .i64 0] 97))
  cases hn : Lay.nameOk P T i
  · have hwords : fromB i (Lay.words P T) = false := hn
    go_enter Tryz.func52, Tryz.ntmps52
    go_wp2_with (first
      | (go_at_call 60; refine (layWords_any _ _ _).mono ?_; rintro e w1 ⟨rfl, ho⟩; replace B1 := B1.only ho id; replace B2 := B2.only ho id; replace HA := Lib.hid (HA.out.thenF ho); clear ho; obtain ⟨q0, q1⟩ := cells2 B1; obtain ⟨q2, q3, q4, g2, g3, g4⟩ := cells3 B2)
      | (go_at_call 73; refine (from_any _ _ _).mono ?_; rintro e w1 ⟨rfl, rfl⟩))
    rw [nameOf_no rfl]
    exact bodyPost_ret (v := .tuple #[.agg #[.int .i64 0, .int .i64 0, .int .i64 0], .bool false]) (by simp [results, Tryz.results52, go_sem, *]) rfl ⟨rfl, HA.out.set3 (by omega) _ _ _⟩
  have hm := Lay.nameOk_may hn
  obtain ⟨hP1, hP2, hT1, hT2⟩ := Lay.may_iff.1 hm
  obtain ⟨hb1, hb2⟩ := Lay.many_bd hP1 hP2
  have hwords : fromB i (Lay.words P T) = true := hn
  have hi : 0 ≤ i ∧ i < 68 + 14 * T + 6 * P + 2 * Lay.many P := by
    have := fromB_iff.1 hwords
    simpa [Lay.words, hm] using this
  obtain ⟨hi1, hi2⟩ := hi
  rcases (show (0 ≤ i ∧ i < 8) ∨ (8 ≤ i ∧ i < 68) ∨ (68 ≤ i ∧ i < 68 + 14 * T) ∨ (68 + 14 * T ≤ i ∧ i < 68 + 14 * T + 5 * P) ∨ (68 + 14 * T + 5 * P ≤ i ∧ i < 68 + 14 * T + 6 * P) ∨ (68 + 14 * T + 6 * P ≤ i ∧ i < 68 + 14 * T + 6 * P + Lay.many P) ∨ (68 + 14 * T + 6 * P + Lay.many P ≤ i ∧ i < 68 + 14 * T + 6 * P + 2 * Lay.many P) by omega) with ⟨c1, c2⟩ | ⟨c1, c2⟩ | ⟨c1, c2⟩ | ⟨c1, c2⟩ | ⟨c1, c2⟩ | ⟨c1, c2⟩ | ⟨c1, c2⟩
  · rw [nameOf_yes rfl (show Lay.nameAt P T i = (Lay.aloneK i, 0, 0) by unfold Lay.nameAt; repeat (first | rw [if_pos (by omega)] | rw [if_neg (by omega)]))]
    clear hn hm
    go_enter Tryz.func52, Tryz.ntmps52
    go_wp2_with (first
      | (go_at_call 60; refine (layWords_any _ _ _).mono ?_; rintro e w1 ⟨rfl, ho⟩; replace B1 := B1.only ho id; replace B2 := B2.only ho id; replace HA := Lib.hid (HA.out.thenF ho); clear ho; obtain ⟨q0, q1⟩ := cells2 B1; obtain ⟨q2, q3, q4, g2, g3, g4⟩ := cells3 B2)
      | (go_at_call 73; refine (from_any _ _ _).mono ?_; rintro e w1 ⟨rfl, rfl⟩)
      | (go_at_call 74; refine (alone_any _ _).mono ?_; rintro e w1 ⟨rfl, ho⟩; replace B1 := B1.only ho id; replace B2 := B2.only ho id; replace HA := Lib.hid (HA.out.thenF ho); clear ho; obtain ⟨q0, q1⟩ := cells2 B1; obtain ⟨q2, q3, q4, g2, g3, g4⟩ := cells3 B2)
      | (go_at_call 75; refine (layPages_any _ _ _ hT1 hT2).mono ?_; rintro e w1 ⟨rfl, ho⟩; replace B1 := B1.only ho id; replace B2 := B2.only ho id; replace HA := Lib.hid (HA.out.thenF ho); clear ho; obtain ⟨q0, q1⟩ := cells2 B1; obtain ⟨q2, q3, q4, g2, g3, g4⟩ := cells3 B2)
      | (go_at_call 76; refine (layIndex_any _ _ _ hP1 hP2 hT1 hT2).mono ?_; rintro e w1 ⟨rfl, ho⟩; replace B1 := B1.only ho id; replace B2 := B2.only ho id; replace HA := Lib.hid (HA.out.thenF ho); clear ho; obtain ⟨q0, q1⟩ := cells2 B1; obtain ⟨q2, q3, q4, g2, g3, g4⟩ := cells3 B2)
      | (go_at_call 77; refine (layUsed_any _ _ _ hP1 hP2 hT1 hT2).mono ?_; rintro e w1 ⟨rfl, ho⟩; replace B1 := B1.only ho id; replace B2 := B2.only ho id; replace HA := Lib.hid (HA.out.thenF ho); clear ho; obtain ⟨q0, q1⟩ := cells2 B1; obtain ⟨q2, q3, q4, g2, g3, g4⟩ := cells3 B2)
      | (go_at_call 78; refine (layGone_any _ _ _ hP1 hP2 hT1 hT2).mono ?_; rintro e w1 ⟨rfl, ho⟩; replace B1 := B1.only ho id; replace B2 := B2.only ho id; replace HA := Lib.hid (HA.out.thenF ho); clear ho; obtain ⟨q0, q1⟩ := cells2 B1; obtain ⟨q2, q3, q4, g2, g3, g4⟩ := cells3 B2))
    exact bodyPost_ret (v := .tuple #[.agg #[.int .i64 (Lay.aloneK i), .int .i64 (0), .int .i64 (0)], .bool true]) (by simp [results, Tryz.results52, go_sem, *]) rfl ⟨rfl, HA.out.set3 (by omega) _ _ _⟩
  · rw [nameOf_yes rfl (show Lay.nameAt P T i = (7, (i - 8) / 4, (i - 8) % 4) by unfold Lay.nameAt; repeat (first | rw [if_pos (by omega)] | rw [if_neg (by omega)]))]
    clear hn hm
    go_enter Tryz.func52, Tryz.ntmps52
    go_wp2_with (first
      | (go_at_call 60; refine (layWords_any _ _ _).mono ?_; rintro e w1 ⟨rfl, ho⟩; replace B1 := B1.only ho id; replace B2 := B2.only ho id; replace HA := Lib.hid (HA.out.thenF ho); clear ho; obtain ⟨q0, q1⟩ := cells2 B1; obtain ⟨q2, q3, q4, g2, g3, g4⟩ := cells3 B2)
      | (go_at_call 73; refine (from_any _ _ _).mono ?_; rintro e w1 ⟨rfl, rfl⟩)
      | (go_at_call 74; refine (alone_any _ _).mono ?_; rintro e w1 ⟨rfl, ho⟩; replace B1 := B1.only ho id; replace B2 := B2.only ho id; replace HA := Lib.hid (HA.out.thenF ho); clear ho; obtain ⟨q0, q1⟩ := cells2 B1; obtain ⟨q2, q3, q4, g2, g3, g4⟩ := cells3 B2)
      | (go_at_call 75; refine (layPages_any _ _ _ hT1 hT2).mono ?_; rintro e w1 ⟨rfl, ho⟩; replace B1 := B1.only ho id; replace B2 := B2.only ho id; replace HA := Lib.hid (HA.out.thenF ho); clear ho; obtain ⟨q0, q1⟩ := cells2 B1; obtain ⟨q2, q3, q4, g2, g3, g4⟩ := cells3 B2)
      | (go_at_call 76; refine (layIndex_any _ _ _ hP1 hP2 hT1 hT2).mono ?_; rintro e w1 ⟨rfl, ho⟩; replace B1 := B1.only ho id; replace B2 := B2.only ho id; replace HA := Lib.hid (HA.out.thenF ho); clear ho; obtain ⟨q0, q1⟩ := cells2 B1; obtain ⟨q2, q3, q4, g2, g3, g4⟩ := cells3 B2)
      | (go_at_call 77; refine (layUsed_any _ _ _ hP1 hP2 hT1 hT2).mono ?_; rintro e w1 ⟨rfl, ho⟩; replace B1 := B1.only ho id; replace B2 := B2.only ho id; replace HA := Lib.hid (HA.out.thenF ho); clear ho; obtain ⟨q0, q1⟩ := cells2 B1; obtain ⟨q2, q3, q4, g2, g3, g4⟩ := cells3 B2)
      | (go_at_call 78; refine (layGone_any _ _ _ hP1 hP2 hT1 hT2).mono ?_; rintro e w1 ⟨rfl, ho⟩; replace B1 := B1.only ho id; replace B2 := B2.only ho id; replace HA := Lib.hid (HA.out.thenF ho); clear ho; obtain ⟨q0, q1⟩ := cells2 B1; obtain ⟨q2, q3, q4, g2, g3, g4⟩ := cells3 B2))
    exact bodyPost_ret (v := .tuple #[.agg #[.int .i64 (7), .int .i64 ((i - 8) / 4), .int .i64 ((i - 8) % 4)], .bool true]) (by simp [results, Tryz.results52, go_sem, *]) rfl ⟨rfl, HA.out.set3 (by omega) _ _ _⟩
  · rw [nameOf_yes rfl (show Lay.nameAt P T i = (8, (i - 68) / 14, (i - 68) % 14) by unfold Lay.nameAt; repeat (first | rw [if_pos (by omega)] | rw [if_neg (by omega)]))]
    clear hn hm
    go_enter Tryz.func52, Tryz.ntmps52
    go_wp2_with (first
      | (go_at_call 60; refine (layWords_any _ _ _).mono ?_; rintro e w1 ⟨rfl, ho⟩; replace B1 := B1.only ho id; replace B2 := B2.only ho id; replace HA := Lib.hid (HA.out.thenF ho); clear ho; obtain ⟨q0, q1⟩ := cells2 B1; obtain ⟨q2, q3, q4, g2, g3, g4⟩ := cells3 B2)
      | (go_at_call 73; refine (from_any _ _ _).mono ?_; rintro e w1 ⟨rfl, rfl⟩)
      | (go_at_call 74; refine (alone_any _ _).mono ?_; rintro e w1 ⟨rfl, ho⟩; replace B1 := B1.only ho id; replace B2 := B2.only ho id; replace HA := Lib.hid (HA.out.thenF ho); clear ho; obtain ⟨q0, q1⟩ := cells2 B1; obtain ⟨q2, q3, q4, g2, g3, g4⟩ := cells3 B2)
      | (go_at_call 75; refine (layPages_any _ _ _ hT1 hT2).mono ?_; rintro e w1 ⟨rfl, ho⟩; replace B1 := B1.only ho id; replace B2 := B2.only ho id; replace HA := Lib.hid (HA.out.thenF ho); clear ho; obtain ⟨q0, q1⟩ := cells2 B1; obtain ⟨q2, q3, q4, g2, g3, g4⟩ := cells3 B2)
      | (go_at_call 76; refine (layIndex_any _ _ _ hP1 hP2 hT1 hT2).mono ?_; rintro e w1 ⟨rfl, ho⟩; replace B1 := B1.only ho id; replace B2 := B2.only ho id; replace HA := Lib.hid (HA.out.thenF ho); clear ho; obtain ⟨q0, q1⟩ := cells2 B1; obtain ⟨q2, q3, q4, g2, g3, g4⟩ := cells3 B2)
      | (go_at_call 77; refine (layUsed_any _ _ _ hP1 hP2 hT1 hT2).mono ?_; rintro e w1 ⟨rfl, ho⟩; replace B1 := B1.only ho id; replace B2 := B2.only ho id; replace HA := Lib.hid (HA.out.thenF ho); clear ho; obtain ⟨q0, q1⟩ := cells2 B1; obtain ⟨q2, q3, q4, g2, g3, g4⟩ := cells3 B2)
      | (go_at_call 78; refine (layGone_any _ _ _ hP1 hP2 hT1 hT2).mono ?_; rintro e w1 ⟨rfl, ho⟩; replace B1 := B1.only ho id; replace B2 := B2.only ho id; replace HA := Lib.hid (HA.out.thenF ho); clear ho; obtain ⟨q0, q1⟩ := cells2 B1; obtain ⟨q2, q3, q4, g2, g3, g4⟩ := cells3 B2))
    exact bodyPost_ret (v := .tuple #[.agg #[.int .i64 (8), .int .i64 ((i - 68) / 14), .int .i64 ((i - 68) % 14)], .bool true]) (by simp [results, Tryz.results52, go_sem, *]) rfl ⟨rfl, HA.out.set3 (by omega) _ _ _⟩
  · rw [nameOf_yes rfl (show Lay.nameAt P T i = (9 + (i - (68 + 14 * T)) % 5, (i - (68 + 14 * T)) / 5, 0) by unfold Lay.nameAt; repeat (first | rw [if_pos (by omega)] | rw [if_neg (by omega)]))]
    clear hn hm
    go_enter Tryz.func52, Tryz.ntmps52
    go_wp2_with (first
      | (go_at_call 60; refine (layWords_any _ _ _).mono ?_; rintro e w1 ⟨rfl, ho⟩; replace B1 := B1.only ho id; replace B2 := B2.only ho id; replace HA := Lib.hid (HA.out.thenF ho); clear ho; obtain ⟨q0, q1⟩ := cells2 B1; obtain ⟨q2, q3, q4, g2, g3, g4⟩ := cells3 B2)
      | (go_at_call 73; refine (from_any _ _ _).mono ?_; rintro e w1 ⟨rfl, rfl⟩)
      | (go_at_call 74; refine (alone_any _ _).mono ?_; rintro e w1 ⟨rfl, ho⟩; replace B1 := B1.only ho id; replace B2 := B2.only ho id; replace HA := Lib.hid (HA.out.thenF ho); clear ho; obtain ⟨q0, q1⟩ := cells2 B1; obtain ⟨q2, q3, q4, g2, g3, g4⟩ := cells3 B2)
      | (go_at_call 75; refine (layPages_any _ _ _ hT1 hT2).mono ?_; rintro e w1 ⟨rfl, ho⟩; replace B1 := B1.only ho id; replace B2 := B2.only ho id; replace HA := Lib.hid (HA.out.thenF ho); clear ho; obtain ⟨q0, q1⟩ := cells2 B1; obtain ⟨q2, q3, q4, g2, g3, g4⟩ := cells3 B2)
      | (go_at_call 76; refine (layIndex_any _ _ _ hP1 hP2 hT1 hT2).mono ?_; rintro e w1 ⟨rfl, ho⟩; replace B1 := B1.only ho id; replace B2 := B2.only ho id; replace HA := Lib.hid (HA.out.thenF ho); clear ho; obtain ⟨q0, q1⟩ := cells2 B1; obtain ⟨q2, q3, q4, g2, g3, g4⟩ := cells3 B2)
      | (go_at_call 77; refine (layUsed_any _ _ _ hP1 hP2 hT1 hT2).mono ?_; rintro e w1 ⟨rfl, ho⟩; replace B1 := B1.only ho id; replace B2 := B2.only ho id; replace HA := Lib.hid (HA.out.thenF ho); clear ho; obtain ⟨q0, q1⟩ := cells2 B1; obtain ⟨q2, q3, q4, g2, g3, g4⟩ := cells3 B2)
      | (go_at_call 78; refine (layGone_any _ _ _ hP1 hP2 hT1 hT2).mono ?_; rintro e w1 ⟨rfl, ho⟩; replace B1 := B1.only ho id; replace B2 := B2.only ho id; replace HA := Lib.hid (HA.out.thenF ho); clear ho; obtain ⟨q0, q1⟩ := cells2 B1; obtain ⟨q2, q3, q4, g2, g3, g4⟩ := cells3 B2))
    exact bodyPost_ret (v := .tuple #[.agg #[.int .i64 (9 + (i - (68 + 14 * T)) % 5), .int .i64 ((i - (68 + 14 * T)) / 5), .int .i64 (0)], .bool true]) (by simp [results, Tryz.results52, go_sem, *]) rfl ⟨rfl, HA.out.set3 (by omega) _ _ _⟩
  · rw [nameOf_yes rfl (show Lay.nameAt P T i = (14, i - (68 + 14 * T + 5 * P), 0) by unfold Lay.nameAt; repeat (first | rw [if_pos (by omega)] | rw [if_neg (by omega)]))]
    clear hn hm
    go_enter Tryz.func52, Tryz.ntmps52
    go_wp2_with (first
      | (go_at_call 60; refine (layWords_any _ _ _).mono ?_; rintro e w1 ⟨rfl, ho⟩; replace B1 := B1.only ho id; replace B2 := B2.only ho id; replace HA := Lib.hid (HA.out.thenF ho); clear ho; obtain ⟨q0, q1⟩ := cells2 B1; obtain ⟨q2, q3, q4, g2, g3, g4⟩ := cells3 B2)
      | (go_at_call 73; refine (from_any _ _ _).mono ?_; rintro e w1 ⟨rfl, rfl⟩)
      | (go_at_call 74; refine (alone_any _ _).mono ?_; rintro e w1 ⟨rfl, ho⟩; replace B1 := B1.only ho id; replace B2 := B2.only ho id; replace HA := Lib.hid (HA.out.thenF ho); clear ho; obtain ⟨q0, q1⟩ := cells2 B1; obtain ⟨q2, q3, q4, g2, g3, g4⟩ := cells3 B2)
      | (go_at_call 75; refine (layPages_any _ _ _ hT1 hT2).mono ?_; rintro e w1 ⟨rfl, ho⟩; replace B1 := B1.only ho id; replace B2 := B2.only ho id; replace HA := Lib.hid (HA.out.thenF ho); clear ho; obtain ⟨q0, q1⟩ := cells2 B1; obtain ⟨q2, q3, q4, g2, g3, g4⟩ := cells3 B2)
      | (go_at_call 76; refine (layIndex_any _ _ _ hP1 hP2 hT1 hT2).mono ?_; rintro e w1 ⟨rfl, ho⟩; replace B1 := B1.only ho id; replace B2 := B2.only ho id; replace HA := Lib.hid (HA.out.thenF ho); clear ho; obtain ⟨q0, q1⟩ := cells2 B1; obtain ⟨q2, q3, q4, g2, g3, g4⟩ := cells3 B2)
      | (go_at_call 77; refine (layUsed_any _ _ _ hP1 hP2 hT1 hT2).mono ?_; rintro e w1 ⟨rfl, ho⟩; replace B1 := B1.only ho id; replace B2 := B2.only ho id; replace HA := Lib.hid (HA.out.thenF ho); clear ho; obtain ⟨q0, q1⟩ := cells2 B1; obtain ⟨q2, q3, q4, g2, g3, g4⟩ := cells3 B2)
      | (go_at_call 78; refine (layGone_any _ _ _ hP1 hP2 hT1 hT2).mono ?_; rintro e w1 ⟨rfl, ho⟩; replace B1 := B1.only ho id; replace B2 := B2.only ho id; replace HA := Lib.hid (HA.out.thenF ho); clear ho; obtain ⟨q0, q1⟩ := cells2 B1; obtain ⟨q2, q3, q4, g2, g3, g4⟩ := cells3 B2))
    exact bodyPost_ret (v := .tuple #[.agg #[.int .i64 (14), .int .i64 (i - (68 + 14 * T + 5 * P)), .int .i64 (0)], .bool true]) (by simp [results, Tryz.results52, go_sem, *]) rfl ⟨rfl, HA.out.set3 (by omega) _ _ _⟩
  · rw [nameOf_yes rfl (show Lay.nameAt P T i = (15, i - (68 + 14 * T + 6 * P), 0) by unfold Lay.nameAt; repeat (first | rw [if_pos (by omega)] | rw [if_neg (by omega)]))]
    clear hn hm
    go_enter Tryz.func52, Tryz.ntmps52
    go_wp2_with (first
      | (go_at_call 60; refine (layWords_any _ _ _).mono ?_; rintro e w1 ⟨rfl, ho⟩; replace B1 := B1.only ho id; replace B2 := B2.only ho id; replace HA := Lib.hid (HA.out.thenF ho); clear ho; obtain ⟨q0, q1⟩ := cells2 B1; obtain ⟨q2, q3, q4, g2, g3, g4⟩ := cells3 B2)
      | (go_at_call 73; refine (from_any _ _ _).mono ?_; rintro e w1 ⟨rfl, rfl⟩)
      | (go_at_call 74; refine (alone_any _ _).mono ?_; rintro e w1 ⟨rfl, ho⟩; replace B1 := B1.only ho id; replace B2 := B2.only ho id; replace HA := Lib.hid (HA.out.thenF ho); clear ho; obtain ⟨q0, q1⟩ := cells2 B1; obtain ⟨q2, q3, q4, g2, g3, g4⟩ := cells3 B2)
      | (go_at_call 75; refine (layPages_any _ _ _ hT1 hT2).mono ?_; rintro e w1 ⟨rfl, ho⟩; replace B1 := B1.only ho id; replace B2 := B2.only ho id; replace HA := Lib.hid (HA.out.thenF ho); clear ho; obtain ⟨q0, q1⟩ := cells2 B1; obtain ⟨q2, q3, q4, g2, g3, g4⟩ := cells3 B2)
      | (go_at_call 76; refine (layIndex_any _ _ _ hP1 hP2 hT1 hT2).mono ?_; rintro e w1 ⟨rfl, ho⟩; replace B1 := B1.only ho id; replace B2 := B2.only ho id; replace HA := Lib.hid (HA.out.thenF ho); clear ho; obtain ⟨q0, q1⟩ := cells2 B1; obtain ⟨q2, q3, q4, g2, g3, g4⟩ := cells3 B2)
      | (go_at_call 77; refine (layUsed_any _ _ _ hP1 hP2 hT1 hT2).mono ?_; rintro e w1 ⟨rfl, ho⟩; replace B1 := B1.only ho id; replace B2 := B2.only ho id; replace HA := Lib.hid (HA.out.thenF ho); clear ho; obtain ⟨q0, q1⟩ := cells2 B1; obtain ⟨q2, q3, q4, g2, g3, g4⟩ := cells3 B2)
      | (go_at_call 78; refine (layGone_any _ _ _ hP1 hP2 hT1 hT2).mono ?_; rintro e w1 ⟨rfl, ho⟩; replace B1 := B1.only ho id; replace B2 := B2.only ho id; replace HA := Lib.hid (HA.out.thenF ho); clear ho; obtain ⟨q0, q1⟩ := cells2 B1; obtain ⟨q2, q3, q4, g2, g3, g4⟩ := cells3 B2))
    exact bodyPost_ret (v := .tuple #[.agg #[.int .i64 (15), .int .i64 (i - (68 + 14 * T + 6 * P)), .int .i64 (0)], .bool true]) (by simp [results, Tryz.results52, go_sem, *]) rfl ⟨rfl, HA.out.set3 (by omega) _ _ _⟩
  · rw [nameOf_yes rfl (show Lay.nameAt P T i = (16, i - (68 + 14 * T + 6 * P + Lay.many P), 0) by unfold Lay.nameAt; repeat (first | rw [if_pos (by omega)] | rw [if_neg (by omega)]))]
    clear hn hm
    go_enter Tryz.func52, Tryz.ntmps52
    go_wp2_with (first
      | (go_at_call 60; refine (layWords_any _ _ _).mono ?_; rintro e w1 ⟨rfl, ho⟩; replace B1 := B1.only ho id; replace B2 := B2.only ho id; replace HA := Lib.hid (HA.out.thenF ho); clear ho; obtain ⟨q0, q1⟩ := cells2 B1; obtain ⟨q2, q3, q4, g2, g3, g4⟩ := cells3 B2)
      | (go_at_call 73; refine (from_any _ _ _).mono ?_; rintro e w1 ⟨rfl, rfl⟩)
      | (go_at_call 74; refine (alone_any _ _).mono ?_; rintro e w1 ⟨rfl, ho⟩; replace B1 := B1.only ho id; replace B2 := B2.only ho id; replace HA := Lib.hid (HA.out.thenF ho); clear ho; obtain ⟨q0, q1⟩ := cells2 B1; obtain ⟨q2, q3, q4, g2, g3, g4⟩ := cells3 B2)
      | (go_at_call 75; refine (layPages_any _ _ _ hT1 hT2).mono ?_; rintro e w1 ⟨rfl, ho⟩; replace B1 := B1.only ho id; replace B2 := B2.only ho id; replace HA := Lib.hid (HA.out.thenF ho); clear ho; obtain ⟨q0, q1⟩ := cells2 B1; obtain ⟨q2, q3, q4, g2, g3, g4⟩ := cells3 B2)
      | (go_at_call 76; refine (layIndex_any _ _ _ hP1 hP2 hT1 hT2).mono ?_; rintro e w1 ⟨rfl, ho⟩; replace B1 := B1.only ho id; replace B2 := B2.only ho id; replace HA := Lib.hid (HA.out.thenF ho); clear ho; obtain ⟨q0, q1⟩ := cells2 B1; obtain ⟨q2, q3, q4, g2, g3, g4⟩ := cells3 B2)
      | (go_at_call 77; refine (layUsed_any _ _ _ hP1 hP2 hT1 hT2).mono ?_; rintro e w1 ⟨rfl, ho⟩; replace B1 := B1.only ho id; replace B2 := B2.only ho id; replace HA := Lib.hid (HA.out.thenF ho); clear ho; obtain ⟨q0, q1⟩ := cells2 B1; obtain ⟨q2, q3, q4, g2, g3, g4⟩ := cells3 B2)
      | (go_at_call 78; refine (layGone_any _ _ _ hP1 hP2 hT1 hT2).mono ?_; rintro e w1 ⟨rfl, ho⟩; replace B1 := B1.only ho id; replace B2 := B2.only ho id; replace HA := Lib.hid (HA.out.thenF ho); clear ho; obtain ⟨q0, q1⟩ := cells2 B1; obtain ⟨q2, q3, q4, g2, g3, g4⟩ := cells3 B2))
    exact bodyPost_ret (v := .tuple #[.agg #[.int .i64 (16), .int .i64 (i - (68 + 14 * T + 6 * P + Lay.many P)), .int .i64 (0)], .bool true]) (by simp [results, Tryz.results52, go_sem, *]) rfl ⟨rfl, HA.out.set3 (by omega) _ _ _⟩

/-- A call that answers v, and at most draws. -/
def Gives (f : FuncId) (args : Array Value) (v : Value) : Prop :=
  ∀ w : World, Calls Tryz.prog f args w fun e w' => e = .returned v ∧ ∃ k, w' = w.drewN k

theorem Gives.quiet {f : FuncId} {args : Array Value} {v : Value} (h : Gives f args v) (w : World) (a : Nat) :
    Calls Tryz.prog f args (w.drewN a) fun e w' => e = .returned v ∧ ∃ m, w' = w.drewN (a + m) :=
  (h _).mono fun _ _ ⟨he, k, hk⟩ => ⟨he, k, by rw [hk, World.drewN_drewN]⟩

theorem two_pow_le {n : Nat} (h : n ≤ 64) : (2 : Int) ^ n ≤ 18446744073709551616 := by
  have : (2 : Int) ^ n ≤ 2 ^ 64 := by
    have : (2 : Nat) ^ n ≤ 2 ^ 64 := Nat.pow_le_pow_right (by decide) h
    exact_mod_cast this
  simpa using this
theorem two_pow_pos' (n : Nat) : (0 : Int) < 2 ^ n := Int.pow_pos (by decide)

theorem wrap_ones {n : Nat} (h : n ≤ 64) : IntKind.u64.wrap (IntKind.u64.wrap (2 ^ n) - 1) = 2 ^ n - 1 := by
  have h1 := two_pow_le h
  have h2 := two_pow_pos' n
  simp only [IntKind.wrap_u64]
  generalize (2 : Int) ^ n = y at *
  omega

theorem wraps_u64 (n : Int) (h₀ : 0 ≤ n) (h₁ : n < 2 ^ 64) : IntKind.u64.wrap n = n := by rw [IntKind.wrap_u64]; omega

theorem and_ones (x : Int) (n : Nat) (h : n ≤ 64) (h0 : 0 ≤ x) (h1 : x < 18446744073709551616) :
    bits .and .u64 x (2 ^ n - 1) = x % 2 ^ n :=
  bits_mask .u64 64 (by decide) wraps_u64 n h x h0 (by simpa using h1)

set_option maxHeartbeats 400000 in
theorem within_yes (a n : Int) (w : World) (h1 : 0 ≤ a) (h2 : 0 ≤ n) (h3 : a ≤ 64) (h4 : n ≤ 64 - a) :
    Calls Tryz.prog 55 #[.int .i64 a, .int .i64 n] w fun e w' => e = .returned (.bool true) ∧ w = w' := by
  go_enter Tryz.func55, Tryz.ntmps55
  go_wp2
  go_ret
  exact ⟨by simp [*], rfl⟩

set_option maxHeartbeats 400000 in
theorem ones_any (n : Int) (w : World) (h2 : 0 ≤ n) (h4 : n ≤ 64) :
    Calls Tryz.prog 56 #[.int .i64 n] w fun e w' => e = .returned (.int .u64 (2 ^ n.toNat - 1)) ∧ w = w' := by
  have e := wrap_ones (n := n.toNat) (by omega)
  go_enter Tryz.func56, Tryz.ntmps56
  go_wp2
  go_ret
  exact ⟨rfl, rfl⟩

set_option maxHeartbeats 400000 in
theorem field_any (x a n : Int) (w : World) (h1 : 0 ≤ a) (h2 : 0 ≤ n) (h3 : a ≤ 64) (h4 : n ≤ 64 - a) (h5 : 0 ≤ x) (h6 : x < 18446744073709551616) :
    Calls Tryz.prog 36 #[.int .u64 x, .int .i64 a, .int .i64 n] w fun e w' => e = .returned (.int .u64 (x / 2 ^ a.toNat % 2 ^ n.toNat)) ∧ ∃ k, w' = w.drewN k := by
  have e : Hid (bits .and .u64 (x / 2 ^ a.toNat) (2 ^ n.toNat - 1) = x / 2 ^ a.toNat % 2 ^ n.toNat) :=
    and_ones _ _ (by omega) (Int.ediv_nonneg h5 (Int.le_of_lt (two_pow_pos' _))) (Int.lt_of_le_of_lt (Int.ediv_le_self _ h5) h6)
  go_enter Tryz.func36, Tryz.ntmps36
  go_wp2_with (go_at_call 55; refine (within_yes _ _ _ h1 h2 h3 h4).mono ?_; rintro e w' ⟨rfl, rfl⟩)
  go_quiet ((go_at_call 56; exact Calls.quiet_of_same ((ones_any _ _ (by omega) (by omega)).mono fun _ _ h => ⟨h.1, h.2.symm⟩)))
  go_wp2
  go_ret
  rw [e.out]
  exact ⟨rfl, _, rfl⟩

theorem field_gives (x a n : Int) (h1 : 0 ≤ a) (h2 : 0 ≤ n) (h3 : a ≤ 64) (h4 : n ≤ 64 - a) (h5 : 0 ≤ x) (h6 : x < 18446744073709551616) :
    Gives 36 #[.int .u64 x, .int .i64 a, .int .i64 n] (.int .u64 (x / 2 ^ a.toNat % 2 ^ n.toNat)) :=
  fun w => field_any x a n w h1 h2 h3 h4 h5 h6
theorem bits_or_add (x y : Int) (i : Nat) (hx₀ : 0 ≤ x) (hx : x % 2 ^ i = 0) (hx₁ : x < 2 ^ 64) (hy₀ : 0 ≤ y) (hy : y < 2 ^ i) (hy₁ : y < 2 ^ 64) :
    bits .or .u64 x y = x + y := bits_join .u64 64 (by decide) wraps_u64 i x y hx₀ hx hx₁ hy₀ hy hy₁

namespace Tag
def okB (p : Int) : Bool := decide (-1 ≤ p ∧ p < 4096)
def mk (t p : Int) : Int := if okB p then t * 4294967296 + (p + 1) else 0
def pg (x : Int) : Int := if 4096 < x % 4294967296 then -1 else x % 4294967296 - 1
def tg (x : Int) : Int := x / 4294967296
def nx (x p : Int) : Int := mk ((tg x + 1) % 4294967296) p
theorem tg_bd {x : Int} (h0 : 0 ≤ x) (h1 : x < 18446744073709551616) : 0 ≤ tg x ∧ tg x < 4294967296 := by unfold tg; omega
theorem okB_true {p : Int} (h : okB p = true) : -1 ≤ p ∧ p < 4096 := by unfold okB at h; simpa using h
theorem okB_false {p : Int} (h : okB p = false) : p < -1 ∨ 4096 ≤ p := by unfold okB at h; simp at h; omega
theorem mk_bd {t p : Int} (h0 : 0 ≤ t) (h1 : t < 4294967296) : 0 ≤ mk t p ∧ mk t p < 18446744073709551616 := by
  unfold mk
  cases h : okB p
  · simp
  · have := okB_true h; simp; omega
end Tag

theorem ret_two {k : IntKind} {a b : Int} {c d : Bool} (h : a = b) (g : c = d) : Ending.returned (.tuple #[.int k a, .bool c]) = .returned (.tuple #[.int k b, .bool d]) := by rw [h, g]
theorem ret_one {k : IntKind} {a b : Int} (h : a = b) : Ending.returned (.int k a) = .returned (.int k b) := by rw [h]

set_option maxHeartbeats 400000 in
theorem tagMake_any (t p : Int) (w : World) (h1 : 0 ≤ t) (h2 : t < 4294967296) (h3 : -9223372036854775808 ≤ p) (h4 : p < 9223372036854775808) :
    Calls Tryz.prog 103 #[.int .u32 t, .int .i64 p] w fun e w' => e = .returned (.tuple #[.int .u64 (Tag.mk t p), .bool (Tag.okB p)]) ∧ w = w' := by
  cases hk : Tag.okB p
  · have hm : Tag.mk t p = 0 := by simp [Tag.mk, hk]
    rw [hm]
    clear hm
    rcases Tag.okB_false hk with h | h
    all_goals
      clear hk
      go_enter Tryz.func103, Tryz.ntmps103
      go_wp2
      go_ret2
      exact ⟨rfl, rfl⟩
  · obtain ⟨h, h'⟩ := Tag.okB_true hk
    have hm : Tag.mk t p = bits .or .u64 (t * 4294967296) (p + 1) := by
      rw [bits_or_add _ _ 32 (by omega) (by omega) (by omega) (by omega) (by omega) (by omega)]; simp [Tag.mk, hk]
    rw [hm]
    clear hm hk
    go_enter Tryz.func103, Tryz.ntmps103
    go_wp2
    go_ret2
    exact ⟨rfl, rfl⟩
set_option maxHeartbeats 400000 in
theorem r6Make_any (t p : Int) (w : World) (h1 : 0 ≤ t) (h2 : t < 4294967296) (h3 : -9223372036854775808 ≤ p) (h4 : p < 9223372036854775808) :
    Calls Tryz.prog 180 #[.int .u32 t, .int .i64 p] w fun e w' => e = .returned (.tuple #[.int .u64 (Tag.mk t p), .bool (Tag.okB p)]) ∧ w = w' := by
  cases hk : Tag.okB p
  · have hm : Tag.mk t p = 0 := by simp [Tag.mk, hk]
    rw [hm]
    clear hm
    rcases Tag.okB_false hk with h | h
    all_goals
      clear hk
      go_enter Tryz.func180, Tryz.ntmps180
      go_wp2
      go_ret2
      exact ⟨rfl, rfl⟩
  · obtain ⟨h, h'⟩ := Tag.okB_true hk
    have hm : Tag.mk t p = bits .or .u64 (t * 4294967296) (p + 1) := by
      rw [bits_or_add _ _ 32 (by omega) (by omega) (by omega) (by omega) (by omega) (by omega)]; simp [Tag.mk, hk]
    rw [hm]
    clear hm hk
    go_enter Tryz.func180, Tryz.ntmps180
    go_wp2
    go_ret2
    exact ⟨rfl, rfl⟩
set_option maxHeartbeats 400000 in
theorem tagPage_any (x : Int) (w : World) (h1 : 0 ≤ x) (h2 : x < 18446744073709551616) :
    Calls Tryz.prog 31 #[.int .u64 x] w fun e w' => e = .returned (.int .i64 (Tag.pg x)) ∧ ∃ k, w' = w.drewN k := by
  by_cases h : 4096 < x % 4294967296
  · have hm : Tag.pg x = -1 := by simp [Tag.pg, h]
    rw [hm]
    clear hm
    go_enter Tryz.func31, Tryz.ntmps31
    go_wp2_with (go_at_call 36; refine (field_any _ _ _ _ (by omega) (by omega) (by omega) (by omega) h1 h2).mono ?_; rintro e w' ⟨rfl, k, rfl⟩)
    go_ret
    exact ⟨rfl, _, rfl⟩
  · have hm : Tag.pg x = x % 4294967296 - 1 := by simp [Tag.pg, h]
    rw [hm]
    clear hm
    go_enter Tryz.func31, Tryz.ntmps31
    go_wp2_with (go_at_call 36; refine (field_any _ _ _ _ (by omega) (by omega) (by omega) (by omega) h1 h2).mono ?_; rintro e w' ⟨rfl, k, rfl⟩)
    go_ret
    exact ⟨rfl, _, rfl⟩
set_option maxHeartbeats 400000 in
theorem tagTag_any (x : Int) (w : World) (h1 : 0 ≤ x) (h2 : x < 18446744073709551616) :
    Calls Tryz.prog 17 #[.int .u64 x] w fun e w' => e = .returned (.int .u32 (Tag.tg x)) ∧ ∃ k, w' = w.drewN k := by
  go_enter Tryz.func17, Tryz.ntmps17
  go_wp2_with (go_at_call 36; refine (field_any _ _ _ _ (by omega) (by omega) (by omega) (by omega) h1 h2).mono ?_; rintro e w' ⟨rfl, k, rfl⟩)
  go_ret
  exact ⟨ret_one (by simp [Tag.tg]; omega), _, rfl⟩
set_option maxHeartbeats 400000 in
theorem r6Page_any (x : Int) (w : World) (h1 : 0 ≤ x) (h2 : x < 18446744073709551616) :
    Calls Tryz.prog 42 #[.int .u64 x] w fun e w' => e = .returned (.int .i64 (Tag.pg x)) ∧ w = w' := by
  by_cases h : 4096 < x % 4294967296
  · have hm : Tag.pg x = -1 := by simp [Tag.pg, h]
    rw [hm]
    clear hm
    go_enter Tryz.func42, Tryz.ntmps42
    go_wp2
    go_ret
    exact ⟨rfl, rfl⟩
  · have hm : Tag.pg x = x % 4294967296 - 1 := by simp [Tag.pg, h]
    rw [hm]
    clear hm
    go_enter Tryz.func42, Tryz.ntmps42
    go_wp2
    go_ret
    exact ⟨rfl, rfl⟩
set_option maxHeartbeats 400000 in
theorem r6Tag_any (x : Int) (w : World) (h1 : 0 ≤ x) (h2 : x < 18446744073709551616) :
    Calls Tryz.prog 181 #[.int .u64 x] w fun e w' => e = .returned (.int .u32 (Tag.tg x)) ∧ w = w' := by
  go_enter Tryz.func181, Tryz.ntmps181
  go_wp2
  go_ret
  exact ⟨ret_one (by simp [Tag.tg]), rfl⟩
set_option maxHeartbeats 400000 in
theorem tagNext_any (x p : Int) (w : World) (h1 : 0 ≤ x) (h2 : x < 18446744073709551616) (h3 : -9223372036854775808 ≤ p) (h4 : p < 9223372036854775808) :
    Calls Tryz.prog 89 #[.int .u64 x, .int .i64 p] w fun e w' => e = .returned (.tuple #[.int .u64 (Tag.nx x p), .bool (Tag.okB p)]) ∧ ∃ k, w' = w.drewN k := by
  obtain ⟨b1, b2⟩ := Tag.tg_bd h1 h2
  go_enter Tryz.func89, Tryz.ntmps89
  go_wp2_with (first | (go_at_call 17; refine (tagTag_any _ _ h1 h2).mono ?_; rintro e w' ⟨rfl, k, rfl⟩) | (go_at_call 103; refine (tagMake_any _ _ _ (by omega) (by omega) h3 h4).mono ?_; rintro e w' ⟨rfl, rfl⟩))
  go_ret2
  exact ⟨rfl, _, rfl⟩
set_option maxHeartbeats 400000 in
theorem r6Next_any (x p : Int) (w : World) (h1 : 0 ≤ x) (h2 : x < 18446744073709551616) (h3 : -9223372036854775808 ≤ p) (h4 : p < 9223372036854775808) :
    Calls Tryz.prog 139 #[.int .u64 x, .int .i64 p] w fun e w' => e = .returned (.tuple #[.int .u64 (Tag.nx x p), .bool (Tag.okB p)]) ∧ w = w' := by
  obtain ⟨b1, b2⟩ := Tag.tg_bd h1 h2
  go_enter Tryz.func139, Tryz.ntmps139
  go_wp2_with (first | (go_at_call 181; refine (r6Tag_any _ _ h1 h2).mono ?_; rintro e w' ⟨rfl, rfl⟩) | (go_at_call 180; refine (r6Make_any _ _ _ (by omega) (by omega) h3 h4).mono ?_; rintro e w' ⟨rfl, rfl⟩))
  go_ret2
  exact ⟨rfl, rfl⟩
namespace Lay
def isHead (P T i : Int) : Bool := may P T && decide (8 ≤ i ∧ i < 68)
def nextAt (P T p : Int) : Int := atV (pageOk P T 11 p) (pageAt P T 11 p)
theorem isHead_kind {P T i : Int} (h : isHead P T i = true) : nameOk P T i = true ∧ (nameAt P T i).1 = 7 := by
  unfold isHead at h
  rw [Bool.and_eq_true, decide_eq_true_eq] at h
  obtain ⟨hm, h1, h2⟩ := h
  have hb := may_iff.1 hm
  have hmb := many_bd hb.1 hb.2.1
  refine ⟨?_, ?_⟩
  · unfold nameOk words
    simp only [hm, if_true, decide_eq_true_eq]
    omega
  · unfold nameAt
    rw [if_neg (by omega), if_pos h2]
theorem not_head_kind {P T i : Int} (h : isHead P T i = false) (ho : nameOk P T i = true) : (nameAt P T i).1 ≠ 7 := by
  have hm := nameOk_may ho
  unfold isHead at h
  rw [hm, Bool.true_and, decide_eq_false_iff_not] at h
  have h0 : 0 ≤ i := by unfold nameOk at ho; rw [decide_eq_true_eq] at ho; exact ho.1
  unfold nameAt
  split
  · unfold aloneK; simp only; split <;> omega
  · split
    · omega
    · split
      · simp only; omega
      · split
        · simp only; omega
        · split
          · simp only; omega
          · split <;> simp only <;> omega
theorem nextAt_bd {P T p : Int} (hm : may P T = true) : 0 ≤ nextAt P T p ∧ nextAt P T p < words P T := by
  have hb := may_iff.1 hm
  have hmb := many_bd hb.1 hb.2.1
  have hw : words P T = 68 + 14 * T + 6 * P + 2 * many P := by simp [words, hm]
  unfold nextAt atV
  split
  · rename_i h
    unfold pageOk at h
    rw [Bool.and_eq_true, decide_eq_true_eq] at h
    unfold pageAt
    rw [if_neg (by decide), hw]
    omega
  · rw [hw]; omega
end Lay
/-- The page that a word names; -1: none. -/
def underV (x : Int) : Int := if x < 1 ∨ 4096 < x then -1 else x - 1
set_option maxHeartbeats 1000000 in
theorem stackHead_any (P T i : Int) (w : World) :
    Calls Tryz.prog 30 #[.agg #[.int .i64 P, .int .i64 T], .int .i64 i] w fun e w' => e = .returned (.bool (Lay.isHead P T i)) ∧ Adds w w' := by
  cases hh : Lay.isHead P T i
  · cases ho : Lay.nameOk P T i
    · go_enter Tryz.func30, Tryz.ntmps30
      go_wp2_with (go_at_call 52; refine (layName_any P T i _).mono ?_; rintro e w1 ⟨rfl, ho1⟩; rw [nameOf_no ho])
      go_ret
      exact ⟨by simp, (Adds.box ho1).alloc _⟩
    · have hk := Lay.not_head_kind hh ho
      obtain ⟨a, b, c, hx⟩ : ∃ a b c, Lay.nameAt P T i = (a, b, c) := ⟨_, _, _, rfl⟩
      rw [hx] at hk
      have hk' : (a == 7) = false := by simpa using hk
      have HX := Lib.hid hx; have HO := Lib.hid ho
      clear hx ho hk hh
      go_enter Tryz.func30, Tryz.ntmps30
      go_wp2_with (go_at_call 52; refine (layName_any P T i _).mono ?_; rintro e w1 ⟨rfl, ho1⟩; rw [nameOf_yes HO.out HX.out])
      go_ret
      exact ⟨by simp [hk'], (Adds.box ho1).alloc _⟩
  · obtain ⟨ho, hk⟩ := Lay.isHead_kind hh
    obtain ⟨a, b, c, hx⟩ : ∃ a b c, Lay.nameAt P T i = (a, b, c) := ⟨_, _, _, rfl⟩
    rw [hx] at hk
    obtain rfl : a = 7 := hk
    have HX := Lib.hid hx; have HO := Lib.hid ho
    clear hx ho hh
    go_enter Tryz.func30, Tryz.ntmps30
    go_wp2_with (go_at_call 52; refine (layName_any P T i _).mono ?_; rintro e w1 ⟨rfl, ho1⟩; rw [nameOf_yes HO.out HX.out])
    go_ret
    exact ⟨by simp, (Adds.box ho1).alloc _⟩
set_option maxHeartbeats 400000 in
theorem below_any (P T p : Int) (w : World) :
    Calls Tryz.prog 35 #[.agg #[.int .i64 P, .int .i64 T], .int .i64 p] w fun e w' => e = .returned (.int .i64 (Lay.nextAt P T p)) ∧ Adds w w' := by
  obtain ⟨ok, hok⟩ : ∃ ok, ok = Lay.pageOk P T 11 p := ⟨_, rfl⟩
  obtain ⟨x, hx⟩ : ∃ x, x = Lay.pageAt P T 11 p := ⟨_, rfl⟩
  have he : Hid (∀ P', P' = atOf (Lay.pageOk P T 11 p) (Lay.pageAt P T 11 p) → P' = .returned (.tuple #[.int .i64 (Lay.nextAt P T p), .bool ok])) := Lib.hid (fun P' h => by rw [h]; unfold atOf Lay.nextAt; rw [hok])
  obtain ⟨y, hy⟩ : ∃ y, y = Lay.nextAt P T p := ⟨_, rfl⟩
  rw [← hy] at he ⊢
  clear hok hx hy
  go_enter Tryz.func35, Tryz.ntmps35
  go_wp2_with (go_at_call 54; refine (layPage_any P T 11 p _).mono ?_; rintro e w1 ⟨he1, ho1⟩; have he2 := he.out _ he1; subst he2)
  go_ret
  exact ⟨rfl, Adds.box ho1⟩
set_option maxHeartbeats 400000 in
theorem under_any (x : Int) (w : World) (h0 : 0 ≤ x) (h1 : x < 18446744073709551616) :
    Calls Tryz.prog 34 #[.int .u64 x] w fun e w' => e = .returned (.int .i64 (underV x)) ∧ w = w' := by
  by_cases c1 : x < 1
  · rw [show underV x = -1 by unfold underV; rw [if_pos (.inl c1)]]
    go_enter Tryz.func34, Tryz.ntmps34
    go_wp2
    go_ret
    exact ⟨rfl, rfl⟩
  · by_cases c2 : 4096 < x
    · rw [show underV x = -1 by unfold underV; rw [if_pos (.inr c2)]]
      go_enter Tryz.func34, Tryz.ntmps34
      go_wp2
      go_ret
      exact ⟨rfl, rfl⟩
    · rw [show underV x = x - 1 by unfold underV; rw [if_neg (by omega)]]
      go_enter Tryz.func34, Tryz.ntmps34
      go_wp2
      go_ret
      exact ⟨by first | rfl | (congr 2), rfl⟩
end Go.Proofs.YthhnpcniijpfeaaGreat

/- Package layout: Name. By an AI agent. -/
import Derived.Test.YtbcfeaimopijfaaGreatLayout2
namespace Go.Proofs.YtbcfeaimopijfaaGreat
open Go.RowKit
namespace Lay
def aloneK (i : Int) : Int := if 0 ≤ i ∧ i ≤ 4 then i + 1 else 6
def nameOk (P T i : Int) : Bool := decide (0 ≤ i ∧ i < words P T)
/-- What a word is for: kind, A, B. -/
def nameAt (P T i : Int) : Int × Int × Int :=
  if i < 8 then (aloneK i, 0, 0)
  else if i < 68 then (7, (i - 8) / 4, (i - 8) % 4)
  else if i < 68 + 14 * T then (8, (i - 68) / 14, (i - 68) % 14)
  else if i < 68 + 14 * T + 5 * P then (9 + (i - (68 + 14 * T)) % 5, (i - (68 + 14 * T)) / 5, 0)
  else if i < 68 + 14 * T + 6 * P then (14, i - (68 + 14 * T + 5 * P), 0)
  else if i < 68 + 14 * T + 6 * P + many P then (15, i - (68 + 14 * T + 6 * P), 0)
  else (16, i - (68 + 14 * T + 6 * P + many P), 0)
theorem nameOk_may {P T i : Int} (h : nameOk P T i = true) : may P T = true := by
  cases hm : may P T
  · simp [nameOk, words, hm] at h; omega
  · rfl
end Lay
/-- The answer of Name. -/
def nameOf (ok : Bool) (x : Int × Int × Int) : Ending := .returned (.tuple #[.agg #[.int .i64 (atV ok x.1), .int .i64 (atV ok x.2.1), .int .i64 (atV ok x.2.2)], .bool ok])
theorem nameOf_no {ok : Bool} {x : Int × Int × Int} (h : ok = false) : nameOf ok x = .returned (.tuple #[.agg #[.int .i64 0, .int .i64 0, .int .i64 0], .bool false]) := by simp [nameOf, atV, h]
theorem nameOf_yes {ok : Bool} {x : Int × Int × Int} {a b c : Int} (h : ok = true) (hx : x = (a, b, c)) : nameOf ok x = .returned (.tuple #[.agg #[.int .i64 a, .int .i64 b, .int .i64 c], .bool true]) := by simp [nameOf, atV, h, hx]
theorem cells2 {w : World} {b : Nat} {x y : Value} {t : TypeId} (h : Blk w b #[x, y] t) : w.cell? ⟨b, 0, none⟩ = some x ∧ w.cell? ⟨b, 1, none⟩ = some y := ⟨h.cell 0, h.cell 1⟩
theorem cells3 {w : World} {b : Nat} {x y z : Value} {t : TypeId} (h : Blk w b #[x, y, z] t) :
    w.cell? ⟨b, 0, none⟩ = some x ∧ w.cell? ⟨b, 1, none⟩ = some y ∧ w.cell? ⟨b, 2, none⟩ = some z ∧ w.frozen? ⟨b, 0, none⟩ = false ∧ w.frozen? ⟨b, 1, none⟩ = false ∧ w.frozen? ⟨b, 2, none⟩ = false :=
  ⟨h.cell 0, h.cell 1, h.cell 2, h.frozen 0, h.frozen 1, h.frozen 2⟩
theorem Only.set3 {w w1 : World} (h : Adds w w1) {b : Nat} (hb : w.heap.size ≤ b) (x y z : Value) : Adds w (((w1.setCell ⟨b, 0, none⟩ x).setCell ⟨b, 1, none⟩ y).setCell ⟨b, 2, none⟩ z) :=
  ((h.setCell (.inr hb) x).setCell (.inr hb) y).setCell (.inr hb) z
set_option maxHeartbeats 400000 in
theorem alone_any (i : Int) (w : World) : Calls Tryz.prog 74 #[.int .i64 i] w fun e w' => e = .returned (.agg #[.int .i64 (Lay.aloneK i), .int .i64 0, .int .i64 0]) ∧ Adds w w' := by
  have hc : (i = 0 ∨ i = 1 ∨ i = 2 ∨ i = 3 ∨ i = 4) ∨ ((i == 0) = false ∧ (i == 1) = false ∧ (i == 2) = false ∧ (i == 3) = false ∧ (i == 4) = false ∧ Lay.aloneK i = 6) := by
    by_cases h : i = 0 ∨ i = 1 ∨ i = 2 ∨ i = 3 ∨ i = 4
    · exact .inl h
    · right
      have e : Lay.aloneK i = 6 := by unfold Lay.aloneK; rw [if_neg (by omega)]
      rw [e]
      simp only [beq_eq_false_iff_ne]
      refine ⟨?_, ?_, ?_, ?_, ?_, trivial⟩ <;> omega
  rcases hc with (rfl | rfl | rfl | rfl | rfl) | ⟨h0, h1, h2, h3, h4, e⟩
  case inr =>
    rw [e]; clear e
    go_enter Tryz.func74, Tryz.ntmps74
    go_wp2
    exact bodyPost_ret (v := .agg #[.int .i64 6, .int .i64 0, .int .i64 0]) (by simp [results, Tryz.results74, go_sem]) rfl ⟨rfl, (Only.refl _ _).alloc _⟩
  all_goals
    go_enter Tryz.func74, Tryz.ntmps74
    go_wp2
  · exact bodyPost_ret (v := .agg #[.int .i64 1, .int .i64 0, .int .i64 0]) (by simp [results, Tryz.results74, go_sem]) rfl ⟨rfl, (Only.refl _ _).alloc _⟩
  · exact bodyPost_ret (v := .agg #[.int .i64 2, .int .i64 0, .int .i64 0]) (by simp [results, Tryz.results74, go_sem]) rfl ⟨rfl, (Only.refl _ _).alloc _⟩
  · exact bodyPost_ret (v := .agg #[.int .i64 3, .int .i64 0, .int .i64 0]) (by simp [results, Tryz.results74, go_sem]) rfl ⟨rfl, (Only.refl _ _).alloc _⟩
  · exact bodyPost_ret (v := .agg #[.int .i64 4, .int .i64 0, .int .i64 0]) (by simp [results, Tryz.results74, go_sem]) rfl ⟨rfl, (Only.refl _ _).alloc _⟩
  · exact bodyPost_ret (v := .agg #[.int .i64 5, .int .i64 0, .int .i64 0]) (by simp [results, Tryz.results74, go_sem]) rfl ⟨rfl, (Only.refl _ _).alloc _⟩

set_option maxRecDepth 100000 in
set_option maxHeartbeats 8000000 in
theorem layName_any (P T i : Int) (w : World) :
    Calls Tryz.prog 48 #[.agg #[.int .i64 P, .int .i64 T], .int .i64 i] w fun e w' => e = nameOf (Lay.nameOk P T i) (Lay.nameAt P T i) ∧ Adds w w' := by
  have B1 := (Blk.new w #[.int .i64 P, .int .i64 T] 23).alloc (.cells #[.int .i64 0, .int .i64 0, .int .i64 0] 99)
  have B2 := Blk.new (w.alloc (.cells #[.int .i64 P, .int .i64 T] 23)) #[.int .i64 0, .int .i64 0, .int .i64 0] 99
  rw [World.size_alloc] at B2
  have HA := Lib.hid (((Only.refl (fun _ => False) w).alloc (.cells #[.int .i64 P, .int .i64 T] 23)).alloc (.cells #[.int .i64 0, .int .i64 0, .int .i64 0] 99))
  cases hn : Lay.nameOk P T i
  · have hwords : fromB i (Lay.words P T) = false := hn
    go_enter Tryz.func48, Tryz.ntmps48
    go_wp2_with (first
      | (go_at_call 34; refine (layWords_any _ _ _).mono ?_; rintro e w1 ⟨rfl, ho⟩; replace B1 := B1.only ho id; replace B2 := B2.only ho id; replace HA := Lib.hid (HA.out.thenF ho); clear ho; obtain ⟨q0, q1⟩ := cells2 B1; obtain ⟨q2, q3, q4, g2, g3, g4⟩ := cells3 B2)
      | (go_at_call 73; refine (from_any _ _ _).mono ?_; rintro e w1 ⟨rfl, rfl⟩))
    rw [nameOf_no rfl]
    exact bodyPost_ret (v := .tuple #[.agg #[.int .i64 0, .int .i64 0, .int .i64 0], .bool false]) (by simp [results, Tryz.results48, go_sem, *]) rfl ⟨rfl, HA.out.set3 (by omega) _ _ _⟩
  have hm := Lay.nameOk_may hn
  obtain ⟨hP1, hP2, hT1, hT2⟩ := Lay.may_iff.1 hm
  obtain ⟨hb1, hb2⟩ := Lay.many_bd hP1 hP2
  have hwords : fromB i (Lay.words P T) = true := hn
  have hi : 0 ≤ i ∧ i < 68 + 14 * T + 6 * P + 2 * Lay.many P := by
    have := fromB_iff.1 hwords
    simpa [Lay.words, hm] using this
  obtain ⟨hi1, hi2⟩ := hi
  rcases (show (0 ≤ i ∧ i < 8) ∨ (8 ≤ i ∧ i < 68) ∨ (68 ≤ i ∧ i < 68 + 14 * T) ∨ (68 + 14 * T ≤ i ∧ i < 68 + 14 * T + 5 * P) ∨ (68 + 14 * T + 5 * P ≤ i ∧ i < 68 + 14 * T + 6 * P) ∨ (68 + 14 * T + 6 * P ≤ i ∧ i < 68 + 14 * T + 6 * P + Lay.many P) ∨ (68 + 14 * T + 6 * P + Lay.many P ≤ i ∧ i < 68 + 14 * T + 6 * P + 2 * Lay.many P) by omega) with ⟨c1, c2⟩ | ⟨c1, c2⟩ | ⟨c1, c2⟩ | ⟨c1, c2⟩ | ⟨c1, c2⟩ | ⟨c1, c2⟩ | ⟨c1, c2⟩
  · rw [nameOf_yes rfl (show Lay.nameAt P T i = (Lay.aloneK i, 0, 0) by unfold Lay.nameAt; repeat (first | rw [if_pos (by omega)] | rw [if_neg (by omega)]))]
    clear hn hm
    go_enter Tryz.func48, Tryz.ntmps48
    go_wp2_with (first
      | (go_at_call 34; refine (layWords_any _ _ _).mono ?_; rintro e w1 ⟨rfl, ho⟩; replace B1 := B1.only ho id; replace B2 := B2.only ho id; replace HA := Lib.hid (HA.out.thenF ho); clear ho; obtain ⟨q0, q1⟩ := cells2 B1; obtain ⟨q2, q3, q4, g2, g3, g4⟩ := cells3 B2)
      | (go_at_call 73; refine (from_any _ _ _).mono ?_; rintro e w1 ⟨rfl, rfl⟩)
      | (go_at_call 74; refine (alone_any _ _).mono ?_; rintro e w1 ⟨rfl, ho⟩; replace B1 := B1.only ho id; replace B2 := B2.only ho id; replace HA := Lib.hid (HA.out.thenF ho); clear ho; obtain ⟨q0, q1⟩ := cells2 B1; obtain ⟨q2, q3, q4, g2, g3, g4⟩ := cells3 B2)
      | (go_at_call 75; refine (layPages_any _ _ _ hT1 hT2).mono ?_; rintro e w1 ⟨rfl, ho⟩; replace B1 := B1.only ho id; replace B2 := B2.only ho id; replace HA := Lib.hid (HA.out.thenF ho); clear ho; obtain ⟨q0, q1⟩ := cells2 B1; obtain ⟨q2, q3, q4, g2, g3, g4⟩ := cells3 B2)
      | (go_at_call 76; refine (layIndex_any _ _ _ hP1 hP2 hT1 hT2).mono ?_; rintro e w1 ⟨rfl, ho⟩; replace B1 := B1.only ho id; replace B2 := B2.only ho id; replace HA := Lib.hid (HA.out.thenF ho); clear ho; obtain ⟨q0, q1⟩ := cells2 B1; obtain ⟨q2, q3, q4, g2, g3, g4⟩ := cells3 B2)
      | (go_at_call 77; refine (layUsed_any _ _ _ hP1 hP2 hT1 hT2).mono ?_; rintro e w1 ⟨rfl, ho⟩; replace B1 := B1.only ho id; replace B2 := B2.only ho id; replace HA := Lib.hid (HA.out.thenF ho); clear ho; obtain ⟨q0, q1⟩ := cells2 B1; obtain ⟨q2, q3, q4, g2, g3, g4⟩ := cells3 B2)
      | (go_at_call 61; refine (layGone_any _ _ _ hP1 hP2 hT1 hT2).mono ?_; rintro e w1 ⟨rfl, ho⟩; replace B1 := B1.only ho id; replace B2 := B2.only ho id; replace HA := Lib.hid (HA.out.thenF ho); clear ho; obtain ⟨q0, q1⟩ := cells2 B1; obtain ⟨q2, q3, q4, g2, g3, g4⟩ := cells3 B2))
    exact bodyPost_ret (v := .tuple #[.agg #[.int .i64 (Lay.aloneK i), .int .i64 (0), .int .i64 (0)], .bool true]) (by simp [results, Tryz.results48, go_sem, *]) rfl ⟨rfl, HA.out.set3 (by omega) _ _ _⟩
  · rw [nameOf_yes rfl (show Lay.nameAt P T i = (7, (i - 8) / 4, (i - 8) % 4) by unfold Lay.nameAt; repeat (first | rw [if_pos (by omega)] | rw [if_neg (by omega)]))]
    clear hn hm
    go_enter Tryz.func48, Tryz.ntmps48
    go_wp2_with (first
      | (go_at_call 34; refine (layWords_any _ _ _).mono ?_; rintro e w1 ⟨rfl, ho⟩; replace B1 := B1.only ho id; replace B2 := B2.only ho id; replace HA := Lib.hid (HA.out.thenF ho); clear ho; obtain ⟨q0, q1⟩ := cells2 B1; obtain ⟨q2, q3, q4, g2, g3, g4⟩ := cells3 B2)
      | (go_at_call 73; refine (from_any _ _ _).mono ?_; rintro e w1 ⟨rfl, rfl⟩)
      | (go_at_call 74; refine (alone_any _ _).mono ?_; rintro e w1 ⟨rfl, ho⟩; replace B1 := B1.only ho id; replace B2 := B2.only ho id; replace HA := Lib.hid (HA.out.thenF ho); clear ho; obtain ⟨q0, q1⟩ := cells2 B1; obtain ⟨q2, q3, q4, g2, g3, g4⟩ := cells3 B2)
      | (go_at_call 75; refine (layPages_any _ _ _ hT1 hT2).mono ?_; rintro e w1 ⟨rfl, ho⟩; replace B1 := B1.only ho id; replace B2 := B2.only ho id; replace HA := Lib.hid (HA.out.thenF ho); clear ho; obtain ⟨q0, q1⟩ := cells2 B1; obtain ⟨q2, q3, q4, g2, g3, g4⟩ := cells3 B2)
      | (go_at_call 76; refine (layIndex_any _ _ _ hP1 hP2 hT1 hT2).mono ?_; rintro e w1 ⟨rfl, ho⟩; replace B1 := B1.only ho id; replace B2 := B2.only ho id; replace HA := Lib.hid (HA.out.thenF ho); clear ho; obtain ⟨q0, q1⟩ := cells2 B1; obtain ⟨q2, q3, q4, g2, g3, g4⟩ := cells3 B2)
      | (go_at_call 77; refine (layUsed_any _ _ _ hP1 hP2 hT1 hT2).mono ?_; rintro e w1 ⟨rfl, ho⟩; replace B1 := B1.only ho id; replace B2 := B2.only ho id; replace HA := Lib.hid (HA.out.thenF ho); clear ho; obtain ⟨q0, q1⟩ := cells2 B1; obtain ⟨q2, q3, q4, g2, g3, g4⟩ := cells3 B2)
      | (go_at_call 61; refine (layGone_any _ _ _ hP1 hP2 hT1 hT2).mono ?_; rintro e w1 ⟨rfl, ho⟩; replace B1 := B1.only ho id; replace B2 := B2.only ho id; replace HA := Lib.hid (HA.out.thenF ho); clear ho; obtain ⟨q0, q1⟩ := cells2 B1; obtain ⟨q2, q3, q4, g2, g3, g4⟩ := cells3 B2))
    exact bodyPost_ret (v := .tuple #[.agg #[.int .i64 (7), .int .i64 ((i - 8) / 4), .int .i64 ((i - 8) % 4)], .bool true]) (by simp [results, Tryz.results48, go_sem, *]) rfl ⟨rfl, HA.out.set3 (by omega) _ _ _⟩
  · rw [nameOf_yes rfl (show Lay.nameAt P T i = (8, (i - 68) / 14, (i - 68) % 14) by unfold Lay.nameAt; repeat (first | rw [if_pos (by omega)] | rw [if_neg (by omega)]))]
    clear hn hm
    go_enter Tryz.func48, Tryz.ntmps48
    go_wp2_with (first
      | (go_at_call 34; refine (layWords_any _ _ _).mono ?_; rintro e w1 ⟨rfl, ho⟩; replace B1 := B1.only ho id; replace B2 := B2.only ho id; replace HA := Lib.hid (HA.out.thenF ho); clear ho; obtain ⟨q0, q1⟩ := cells2 B1; obtain ⟨q2, q3, q4, g2, g3, g4⟩ := cells3 B2)
      | (go_at_call 73; refine (from_any _ _ _).mono ?_; rintro e w1 ⟨rfl, rfl⟩)
      | (go_at_call 74; refine (alone_any _ _).mono ?_; rintro e w1 ⟨rfl, ho⟩; replace B1 := B1.only ho id; replace B2 := B2.only ho id; replace HA := Lib.hid (HA.out.thenF ho); clear ho; obtain ⟨q0, q1⟩ := cells2 B1; obtain ⟨q2, q3, q4, g2, g3, g4⟩ := cells3 B2)
      | (go_at_call 75; refine (layPages_any _ _ _ hT1 hT2).mono ?_; rintro e w1 ⟨rfl, ho⟩; replace B1 := B1.only ho id; replace B2 := B2.only ho id; replace HA := Lib.hid (HA.out.thenF ho); clear ho; obtain ⟨q0, q1⟩ := cells2 B1; obtain ⟨q2, q3, q4, g2, g3, g4⟩ := cells3 B2)
      | (go_at_call 76; refine (layIndex_any _ _ _ hP1 hP2 hT1 hT2).mono ?_; rintro e w1 ⟨rfl, ho⟩; replace B1 := B1.only ho id; replace B2 := B2.only ho id; replace HA := Lib.hid (HA.out.thenF ho); clear ho; obtain ⟨q0, q1⟩ := cells2 B1; obtain ⟨q2, q3, q4, g2, g3, g4⟩ := cells3 B2)
      | (go_at_call 77; refine (layUsed_any _ _ _ hP1 hP2 hT1 hT2).mono ?_; rintro e w1 ⟨rfl, ho⟩; replace B1 := B1.only ho id; replace B2 := B2.only ho id; replace HA := Lib.hid (HA.out.thenF ho); clear ho; obtain ⟨q0, q1⟩ := cells2 B1; obtain ⟨q2, q3, q4, g2, g3, g4⟩ := cells3 B2)
      | (go_at_call 61; refine (layGone_any _ _ _ hP1 hP2 hT1 hT2).mono ?_; rintro e w1 ⟨rfl, ho⟩; replace B1 := B1.only ho id; replace B2 := B2.only ho id; replace HA := Lib.hid (HA.out.thenF ho); clear ho; obtain ⟨q0, q1⟩ := cells2 B1; obtain ⟨q2, q3, q4, g2, g3, g4⟩ := cells3 B2))
    exact bodyPost_ret (v := .tuple #[.agg #[.int .i64 (8), .int .i64 ((i - 68) / 14), .int .i64 ((i - 68) % 14)], .bool true]) (by simp [results, Tryz.results48, go_sem, *]) rfl ⟨rfl, HA.out.set3 (by omega) _ _ _⟩
  · rw [nameOf_yes rfl (show Lay.nameAt P T i = (9 + (i - (68 + 14 * T)) % 5, (i - (68 + 14 * T)) / 5, 0) by unfold Lay.nameAt; repeat (first | rw [if_pos (by omega)] | rw [if_neg (by omega)]))]
    clear hn hm
    go_enter Tryz.func48, Tryz.ntmps48
    go_wp2_with (first
      | (go_at_call 34; refine (layWords_any _ _ _).mono ?_; rintro e w1 ⟨rfl, ho⟩; replace B1 := B1.only ho id; replace B2 := B2.only ho id; replace HA := Lib.hid (HA.out.thenF ho); clear ho; obtain ⟨q0, q1⟩ := cells2 B1; obtain ⟨q2, q3, q4, g2, g3, g4⟩ := cells3 B2)
      | (go_at_call 73; refine (from_any _ _ _).mono ?_; rintro e w1 ⟨rfl, rfl⟩)
      | (go_at_call 74; refine (alone_any _ _).mono ?_; rintro e w1 ⟨rfl, ho⟩; replace B1 := B1.only ho id; replace B2 := B2.only ho id; replace HA := Lib.hid (HA.out.thenF ho); clear ho; obtain ⟨q0, q1⟩ := cells2 B1; obtain ⟨q2, q3, q4, g2, g3, g4⟩ := cells3 B2)
      | (go_at_call 75; refine (layPages_any _ _ _ hT1 hT2).mono ?_; rintro e w1 ⟨rfl, ho⟩; replace B1 := B1.only ho id; replace B2 := B2.only ho id; replace HA := Lib.hid (HA.out.thenF ho); clear ho; obtain ⟨q0, q1⟩ := cells2 B1; obtain ⟨q2, q3, q4, g2, g3, g4⟩ := cells3 B2)
      | (go_at_call 76; refine (layIndex_any _ _ _ hP1 hP2 hT1 hT2).mono ?_; rintro e w1 ⟨rfl, ho⟩; replace B1 := B1.only ho id; replace B2 := B2.only ho id; replace HA := Lib.hid (HA.out.thenF ho); clear ho; obtain ⟨q0, q1⟩ := cells2 B1; obtain ⟨q2, q3, q4, g2, g3, g4⟩ := cells3 B2)
      | (go_at_call 77; refine (layUsed_any _ _ _ hP1 hP2 hT1 hT2).mono ?_; rintro e w1 ⟨rfl, ho⟩; replace B1 := B1.only ho id; replace B2 := B2.only ho id; replace HA := Lib.hid (HA.out.thenF ho); clear ho; obtain ⟨q0, q1⟩ := cells2 B1; obtain ⟨q2, q3, q4, g2, g3, g4⟩ := cells3 B2)
      | (go_at_call 61; refine (layGone_any _ _ _ hP1 hP2 hT1 hT2).mono ?_; rintro e w1 ⟨rfl, ho⟩; replace B1 := B1.only ho id; replace B2 := B2.only ho id; replace HA := Lib.hid (HA.out.thenF ho); clear ho; obtain ⟨q0, q1⟩ := cells2 B1; obtain ⟨q2, q3, q4, g2, g3, g4⟩ := cells3 B2))
    exact bodyPost_ret (v := .tuple #[.agg #[.int .i64 (9 + (i - (68 + 14 * T)) % 5), .int .i64 ((i - (68 + 14 * T)) / 5), .int .i64 (0)], .bool true]) (by simp [results, Tryz.results48, go_sem, *]) rfl ⟨rfl, HA.out.set3 (by omega) _ _ _⟩
  · rw [nameOf_yes rfl (show Lay.nameAt P T i = (14, i - (68 + 14 * T + 5 * P), 0) by unfold Lay.nameAt; repeat (first | rw [if_pos (by omega)] | rw [if_neg (by omega)]))]
    clear hn hm
    go_enter Tryz.func48, Tryz.ntmps48
    go_wp2_with (first
      | (go_at_call 34; refine (layWords_any _ _ _).mono ?_; rintro e w1 ⟨rfl, ho⟩; replace B1 := B1.only ho id; replace B2 := B2.only ho id; replace HA := Lib.hid (HA.out.thenF ho); clear ho; obtain ⟨q0, q1⟩ := cells2 B1; obtain ⟨q2, q3, q4, g2, g3, g4⟩ := cells3 B2)
      | (go_at_call 73; refine (from_any _ _ _).mono ?_; rintro e w1 ⟨rfl, rfl⟩)
      | (go_at_call 74; refine (alone_any _ _).mono ?_; rintro e w1 ⟨rfl, ho⟩; replace B1 := B1.only ho id; replace B2 := B2.only ho id; replace HA := Lib.hid (HA.out.thenF ho); clear ho; obtain ⟨q0, q1⟩ := cells2 B1; obtain ⟨q2, q3, q4, g2, g3, g4⟩ := cells3 B2)
      | (go_at_call 75; refine (layPages_any _ _ _ hT1 hT2).mono ?_; rintro e w1 ⟨rfl, ho⟩; replace B1 := B1.only ho id; replace B2 := B2.only ho id; replace HA := Lib.hid (HA.out.thenF ho); clear ho; obtain ⟨q0, q1⟩ := cells2 B1; obtain ⟨q2, q3, q4, g2, g3, g4⟩ := cells3 B2)
      | (go_at_call 76; refine (layIndex_any _ _ _ hP1 hP2 hT1 hT2).mono ?_; rintro e w1 ⟨rfl, ho⟩; replace B1 := B1.only ho id; replace B2 := B2.only ho id; replace HA := Lib.hid (HA.out.thenF ho); clear ho; obtain ⟨q0, q1⟩ := cells2 B1; obtain ⟨q2, q3, q4, g2, g3, g4⟩ := cells3 B2)
      | (go_at_call 77; refine (layUsed_any _ _ _ hP1 hP2 hT1 hT2).mono ?_; rintro e w1 ⟨rfl, ho⟩; replace B1 := B1.only ho id; replace B2 := B2.only ho id; replace HA := Lib.hid (HA.out.thenF ho); clear ho; obtain ⟨q0, q1⟩ := cells2 B1; obtain ⟨q2, q3, q4, g2, g3, g4⟩ := cells3 B2)
      | (go_at_call 61; refine (layGone_any _ _ _ hP1 hP2 hT1 hT2).mono ?_; rintro e w1 ⟨rfl, ho⟩; replace B1 := B1.only ho id; replace B2 := B2.only ho id; replace HA := Lib.hid (HA.out.thenF ho); clear ho; obtain ⟨q0, q1⟩ := cells2 B1; obtain ⟨q2, q3, q4, g2, g3, g4⟩ := cells3 B2))
    exact bodyPost_ret (v := .tuple #[.agg #[.int .i64 (14), .int .i64 (i - (68 + 14 * T + 5 * P)), .int .i64 (0)], .bool true]) (by simp [results, Tryz.results48, go_sem, *]) rfl ⟨rfl, HA.out.set3 (by omega) _ _ _⟩
  · rw [nameOf_yes rfl (show Lay.nameAt P T i = (15, i - (68 + 14 * T + 6 * P), 0) by unfold Lay.nameAt; repeat (first | rw [if_pos (by omega)] | rw [if_neg (by omega)]))]
    clear hn hm
    go_enter Tryz.func48, Tryz.ntmps48
    go_wp2_with (first
      | (go_at_call 34; refine (layWords_any _ _ _).mono ?_; rintro e w1 ⟨rfl, ho⟩; replace B1 := B1.only ho id; replace B2 := B2.only ho id; replace HA := Lib.hid (HA.out.thenF ho); clear ho; obtain ⟨q0, q1⟩ := cells2 B1; obtain ⟨q2, q3, q4, g2, g3, g4⟩ := cells3 B2)
      | (go_at_call 73; refine (from_any _ _ _).mono ?_; rintro e w1 ⟨rfl, rfl⟩)
      | (go_at_call 74; refine (alone_any _ _).mono ?_; rintro e w1 ⟨rfl, ho⟩; replace B1 := B1.only ho id; replace B2 := B2.only ho id; replace HA := Lib.hid (HA.out.thenF ho); clear ho; obtain ⟨q0, q1⟩ := cells2 B1; obtain ⟨q2, q3, q4, g2, g3, g4⟩ := cells3 B2)
      | (go_at_call 75; refine (layPages_any _ _ _ hT1 hT2).mono ?_; rintro e w1 ⟨rfl, ho⟩; replace B1 := B1.only ho id; replace B2 := B2.only ho id; replace HA := Lib.hid (HA.out.thenF ho); clear ho; obtain ⟨q0, q1⟩ := cells2 B1; obtain ⟨q2, q3, q4, g2, g3, g4⟩ := cells3 B2)
      | (go_at_call 76; refine (layIndex_any _ _ _ hP1 hP2 hT1 hT2).mono ?_; rintro e w1 ⟨rfl, ho⟩; replace B1 := B1.only ho id; replace B2 := B2.only ho id; replace HA := Lib.hid (HA.out.thenF ho); clear ho; obtain ⟨q0, q1⟩ := cells2 B1; obtain ⟨q2, q3, q4, g2, g3, g4⟩ := cells3 B2)
      | (go_at_call 77; refine (layUsed_any _ _ _ hP1 hP2 hT1 hT2).mono ?_; rintro e w1 ⟨rfl, ho⟩; replace B1 := B1.only ho id; replace B2 := B2.only ho id; replace HA := Lib.hid (HA.out.thenF ho); clear ho; obtain ⟨q0, q1⟩ := cells2 B1; obtain ⟨q2, q3, q4, g2, g3, g4⟩ := cells3 B2)
      | (go_at_call 61; refine (layGone_any _ _ _ hP1 hP2 hT1 hT2).mono ?_; rintro e w1 ⟨rfl, ho⟩; replace B1 := B1.only ho id; replace B2 := B2.only ho id; replace HA := Lib.hid (HA.out.thenF ho); clear ho; obtain ⟨q0, q1⟩ := cells2 B1; obtain ⟨q2, q3, q4, g2, g3, g4⟩ := cells3 B2))
    exact bodyPost_ret (v := .tuple #[.agg #[.int .i64 (15), .int .i64 (i - (68 + 14 * T + 6 * P)), .int .i64 (0)], .bool true]) (by simp [results, Tryz.results48, go_sem, *]) rfl ⟨rfl, HA.out.set3 (by omega) _ _ _⟩
  · rw [nameOf_yes rfl (show Lay.nameAt P T i = (16, i - (68 + 14 * T + 6 * P + Lay.many P), 0) by unfold Lay.nameAt; repeat (first | rw [if_pos (by omega)] | rw [if_neg (by omega)]))]
    clear hn hm
    go_enter Tryz.func48, Tryz.ntmps48
    go_wp2_with (first
      | (go_at_call 34; refine (layWords_any _ _ _).mono ?_; rintro e w1 ⟨rfl, ho⟩; replace B1 := B1.only ho id; replace B2 := B2.only ho id; replace HA := Lib.hid (HA.out.thenF ho); clear ho; obtain ⟨q0, q1⟩ := cells2 B1; obtain ⟨q2, q3, q4, g2, g3, g4⟩ := cells3 B2)
      | (go_at_call 73; refine (from_any _ _ _).mono ?_; rintro e w1 ⟨rfl, rfl⟩)
      | (go_at_call 74; refine (alone_any _ _).mono ?_; rintro e w1 ⟨rfl, ho⟩; replace B1 := B1.only ho id; replace B2 := B2.only ho id; replace HA := Lib.hid (HA.out.thenF ho); clear ho; obtain ⟨q0, q1⟩ := cells2 B1; obtain ⟨q2, q3, q4, g2, g3, g4⟩ := cells3 B2)
      | (go_at_call 75; refine (layPages_any _ _ _ hT1 hT2).mono ?_; rintro e w1 ⟨rfl, ho⟩; replace B1 := B1.only ho id; replace B2 := B2.only ho id; replace HA := Lib.hid (HA.out.thenF ho); clear ho; obtain ⟨q0, q1⟩ := cells2 B1; obtain ⟨q2, q3, q4, g2, g3, g4⟩ := cells3 B2)
      | (go_at_call 76; refine (layIndex_any _ _ _ hP1 hP2 hT1 hT2).mono ?_; rintro e w1 ⟨rfl, ho⟩; replace B1 := B1.only ho id; replace B2 := B2.only ho id; replace HA := Lib.hid (HA.out.thenF ho); clear ho; obtain ⟨q0, q1⟩ := cells2 B1; obtain ⟨q2, q3, q4, g2, g3, g4⟩ := cells3 B2)
      | (go_at_call 77; refine (layUsed_any _ _ _ hP1 hP2 hT1 hT2).mono ?_; rintro e w1 ⟨rfl, ho⟩; replace B1 := B1.only ho id; replace B2 := B2.only ho id; replace HA := Lib.hid (HA.out.thenF ho); clear ho; obtain ⟨q0, q1⟩ := cells2 B1; obtain ⟨q2, q3, q4, g2, g3, g4⟩ := cells3 B2)
      | (go_at_call 61; refine (layGone_any _ _ _ hP1 hP2 hT1 hT2).mono ?_; rintro e w1 ⟨rfl, ho⟩; replace B1 := B1.only ho id; replace B2 := B2.only ho id; replace HA := Lib.hid (HA.out.thenF ho); clear ho; obtain ⟨q0, q1⟩ := cells2 B1; obtain ⟨q2, q3, q4, g2, g3, g4⟩ := cells3 B2))
    exact bodyPost_ret (v := .tuple #[.agg #[.int .i64 (16), .int .i64 (i - (68 + 14 * T + 6 * P + Lay.many P)), .int .i64 (0)], .bool true]) (by simp [results, Tryz.results48, go_sem, *]) rfl ⟨rfl, HA.out.set3 (by omega) _ _ _⟩
end Go.Proofs.YtbcfeaimopijfaaGreat

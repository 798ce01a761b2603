/- LayoutNone: its walk. By an AI agent. -/
import Derived.Test.YtiohlcejkcccpaaLayAwake
namespace Go.Proofs.Ytiohlcejkcccpaa
open Go.RowKit
theorem Lay.words_bd {P T : Int} (h : Lay.may P T = true) : 90 ≤ Lay.words P T ∧ Lay.words P T ≤ 25668 := by
  obtain ⟨a, b, c, d⟩ := Lay.may_iff.1 h
  have := Lay.many_bd a b
  simp only [Lay.words, h, if_true]
  unfold Lay.many at *
  omega
set_option maxRecDepth 100000 in
set_option maxHeartbeats 8000000 in
theorem layoutNone_law (P : Int) (_w0 : (Lit.int .i64 P).wf = true) (T : Int) (_w1 : (Lit.int .i64 T).wf = true) (k : Int) (_w2 : (Lit.int .i64 k).wf = true) (a : Int) (_w3 : (Lit.int .i64 a).wf = true)
    (b : Int) (_w4 : (Lit.int .i64 b).wf = true) (full : Bool) (w : World) :
    Calls Try.prog 7 #[.agg #[.int .i64 P, .int .i64 T], .int .i64 k, .int .i64 a, .int .i64 b, .bool full] w fun e w' => e = .returned (.bool true) ∧ Below w.heap.size w w' := by
  clear _w0 _w1 _w2 _w3 _w4
  have B1 := Blk.new w #[.int .i64 P, .int .i64 T] 26
  have HA := Lib.hid ((Only.refl (fun _ => False) w).alloc (.cells #[.int .i64 P, .int .i64 T] 26))
  cases hm : Lay.may P T
  · have hw : Lay.words P T = 0 := by simp [Lay.words, hm]
    have h1 : Lay.headOk P T a b = false := by simp [Lay.headOk, hm]
    have h2 : Lay.cacheOk P T a b = false := by simp [Lay.cacheOk, hm]
    have h3 : Lay.pageOk P T k a = false := by simp [Lay.pageOk, hm]
    have h4 : Lay.mapOk P T k a = false := by simp [Lay.mapOk, hm]
    have h5 : Lay.nameOk P T a = false := by simp [Lay.nameOk, hw]
    have hno := Lay.may_not hm
    have hcase : P < 1 ∨ (1 ≤ P ∧ 4096 < P) ∨ (1 ≤ P ∧ P ≤ 4096 ∧ T < 1) ∨ (1 ≤ P ∧ P ≤ 4096 ∧ 1 ≤ T ∧ decide (T ≤ 64) = false) := by
      simp only [decide_eq_false_iff_not]; omega
    clear hno
    rcases hcase with c1 | ⟨c1, c2⟩ | ⟨c1, c2, c3⟩ | ⟨c1, c2, c3, c4⟩
    all_goals
      go_enter Try.func7, Try.ntmps7
      go_wp2_with (first
        | (go_at_call 15; refine (layHead_any _ _ _ _ _ _).mono ?_; rintro e w1 ⟨rfl, ho⟩; unfold atOf; (first | replace B1 := B1.only ho id | replace B1 := (B1.alloc _).only ho id); (first | replace HA := Lib.hid (HA.out.thenF ho) | replace HA := Lib.hid ((HA.out.alloc _).thenF ho)); clear ho; obtain ⟨q0, q1⟩ := cells2 B1; have hz := B1.lt)
        | (go_at_call 17; refine (layCache_any _ _ _ _ _).mono ?_; rintro e w1 ⟨rfl, ho⟩; unfold atOf; (first | replace B1 := B1.only ho id | replace B1 := (B1.alloc _).only ho id); (first | replace HA := Lib.hid (HA.out.thenF ho) | replace HA := Lib.hid ((HA.out.alloc _).thenF ho)); clear ho; obtain ⟨q0, q1⟩ := cells2 B1; have hz := B1.lt)
        | (go_at_call 19; refine (layPage_any _ _ _ _ _).mono ?_; rintro e w1 ⟨rfl, ho⟩; unfold atOf; (first | replace B1 := B1.only ho id | replace B1 := (B1.alloc _).only ho id); (first | replace HA := Lib.hid (HA.out.thenF ho) | replace HA := Lib.hid ((HA.out.alloc _).thenF ho)); clear ho; obtain ⟨q0, q1⟩ := cells2 B1; have hz := B1.lt)
        | (go_at_call 21; refine (layMap_any _ _ _ _ _).mono ?_; rintro e w1 ⟨rfl, ho⟩; unfold atOf; (first | replace B1 := B1.only ho id | replace B1 := (B1.alloc _).only ho id); (first | replace HA := Lib.hid (HA.out.thenF ho) | replace HA := Lib.hid ((HA.out.alloc _).thenF ho)); clear ho; obtain ⟨q0, q1⟩ := cells2 B1; have hz := B1.lt)
        | (go_at_call 23; refine (layName_any _ _ _ _).mono ?_; rintro e w1 ⟨rfl, ho⟩; unfold nameOf; (first | replace B1 := B1.only ho id | replace B1 := (B1.alloc _).only ho id); (first | replace HA := Lib.hid (HA.out.thenF ho) | replace HA := Lib.hid ((HA.out.alloc _).thenF ho)); clear ho; obtain ⟨q0, q1⟩ := cells2 B1; have hz := B1.lt)
        | (go_at_call 12; refine (layMay_any _ _ _).mono ?_; rintro e w1 ⟨rfl, ho⟩; (first | replace B1 := B1.only ho id | replace B1 := (B1.alloc _).only ho id); (first | replace HA := Lib.hid (HA.out.thenF ho) | replace HA := Lib.hid ((HA.out.alloc _).thenF ho)); clear ho; obtain ⟨q0, q1⟩ := cells2 B1; have hz := B1.lt)
        | (go_at_call 11; refine (layWords_any _ _ _).mono ?_; rintro e w1 ⟨rfl, ho⟩; (first | replace B1 := B1.only ho id | replace B1 := (B1.alloc _).only ho id); (first | replace HA := Lib.hid (HA.out.thenF ho) | replace HA := Lib.hid ((HA.out.alloc _).thenF ho)); clear ho; obtain ⟨q0, q1⟩ := cells2 B1; have hz := B1.lt)
        | (go_at_call 9; refine (awake8_any _).mono ?_; rintro e w1 ⟨rfl, ho⟩; replace HA := Lib.hid (HA.out.thenF ho); clear ho))
      go_ret
      exact ⟨rfl, HA.out.below (Nat.le_refl _) (fun _ _ h => h)⟩
  · obtain ⟨c1, c2, c3, c4⟩ := Lay.may_iff.1 hm
    have hw := Lay.words_bd hm
    obtain ⟨hw1, hw2⟩ := hw
    go_enter Try.func7, Try.ntmps7
    go_wp2_with (first
      | (go_at_call 12; refine (layMay_any _ _ _).mono ?_; rintro e w1 ⟨rfl, ho⟩; (first | replace B1 := B1.only ho id | replace B1 := (B1.alloc _).only ho id); (first | replace HA := Lib.hid (HA.out.thenF ho) | replace HA := Lib.hid ((HA.out.alloc _).thenF ho)); clear ho; obtain ⟨q0, q1⟩ := cells2 B1; have hz := B1.lt)
      | (go_at_call 11; refine (layWords_any _ _ _).mono ?_; rintro e w1 ⟨rfl, ho⟩; (first | replace B1 := B1.only ho id | replace B1 := (B1.alloc _).only ho id); (first | replace HA := Lib.hid (HA.out.thenF ho) | replace HA := Lib.hid ((HA.out.alloc _).thenF ho)); clear ho; obtain ⟨q0, q1⟩ := cells2 B1; have hz := B1.lt)
      | (go_at_call 9; refine (awake8_any _).mono ?_; rintro e w1 ⟨rfl, ho⟩; replace HA := Lib.hid (HA.out.thenF ho); clear ho))
    go_ret
    exact ⟨rfl, HA.out.below (Nat.le_refl _) (fun _ _ h => h)⟩
end Go.Proofs.Ytiohlcejkcccpaa

/- LayoutWords: its walk. By an AI agent. -/
import Derived.Test.YtiohlcejkcccpaaLayFind
namespace Go.Proofs.Ytiohlcejkcccpaa
open Go.RowKit
set_option maxRecDepth 100000 in
set_option maxHeartbeats 8000000 in
theorem layoutWords_law (g : Int) (w0 : (Lit.int .u16 g).wf = true) (t : Int) (w1 : (Lit.int .u8 t).wf = true) (a : Int) (w2 : (Lit.int .u16 a).wf = true) (w : World) :
    Calls Try.prog 6 #[.int .u16 g, .int .u8 t, .int .u16 a] w fun e w' => e = .returned (.bool true) ∧ Below w.heap.size w w' := by
  obtain ⟨g0, g1⟩ := bd_u16 w0
  obtain ⟨t0, t1⟩ := bd_u8 w1
  obtain ⟨a0, a1⟩ := bd_u16 w2
  clear w0 w1 w2
  obtain ⟨P, hP⟩ : ∃ P : Int, P = 1 + g % 4096 := ⟨_, rfl⟩
  obtain ⟨T, hT⟩ : ∃ T : Int, T = 1 + t % 64 := ⟨_, rfl⟩
  have hl := lay_any g t w g0 g1 t0 t1
  rw [← hP, ← hT] at hl
  have P0 : 1 ≤ P := by omega
  have P1 : P ≤ 4096 := by omega
  have T0 : 1 ≤ T := by omega
  have T1 : T ≤ 64 := by omega
  have hm : Lay.may P T = true := Lay.may_iff.2 ⟨P0, P1, T0, T1⟩
  obtain ⟨W, hW⟩ : ∃ W, W = Lay.words P T := ⟨_, rfl⟩
  have hwb := Lay.words_bd hm
  rw [← hW] at hwb
  obtain ⟨W0, W1⟩ := hwb
  have hwc : ∀ w, Calls Try.prog 11 #[.agg #[.int .i64 P, .int .i64 T]] w fun e w' => e = .returned (.int .i64 W) ∧ Adds w w' := fun w => by rw [hW]; exact layWords_any P T w
  have k0 : 0 ≤ a % W ∧ a % W < W := ⟨Int.emod_nonneg _ (by omega), Int.emod_lt_of_pos _ (by omega)⟩
  have o1 : Lay.nameOk P T (a % W) = true := by simp only [Lay.nameOk, decide_eq_true_eq, ← hW]; exact k0
  have o2 : Lay.nameOk P T W = false := by simp only [Lay.nameOk, decide_eq_false_iff_not, ← hW]; omega
  have o3 : Lay.nameOk P T (-1) = false := by simp only [Lay.nameOk, decide_eq_false_iff_not, ← hW]; omega
  have d1 : decide (W < 90) = false := by simp; omega
  have d2 : decide (65536 < W) = false := by simp; omega
  clear hP hT hm hW
  by_cases h8 : a % W < 8
  · by_cases h5 : a % W < 5
    · have hn : Lay.nameAt P T (a % W) = (a % W + 1, 0, 0) := by simp only [Lay.nameAt, if_pos h8, Lay.aloneK]; rw [if_pos (by omega)]
      go_enter Try.func6, Try.ntmps6
      go_wp2_with fail
      refine hl.mono ?_; rintro e w1 ⟨rfl, ho⟩
      have B1 := Blk.new w1 #[.int .i64 P, .int .i64 T] 26
      have HA := Lib.hid (ho.alloc (.cells #[.int .i64 P, .int .i64 T] 26))
      have l1 := ho.size
      clear ho hl
      go_wp2_with fail
      refine (hwc _).mono ?_; rintro e w2 ⟨rfl, ho⟩; (first | replace B1 := B1.only ho id | replace B1 := (B1.alloc _).only ho id | replace B1 := ((B1.alloc _).alloc _).only ho id); (first | replace HA := Lib.hid (HA.out.thenF ho) | replace HA := Lib.hid ((HA.out.alloc _).thenF ho) | replace HA := Lib.hid (((HA.out.alloc _).alloc _).thenF ho)); clear ho; obtain ⟨q0, q1⟩ := cells2 B1; have hz := B1.lt
      go_wp2_with fail
      refine (layName_any _ _ _ _).mono ?_; rintro e w3 ⟨rfl, ho⟩; rw [nameOf_yes o1 hn]; (first | replace B1 := B1.only ho id | replace B1 := (B1.alloc _).only ho id | replace B1 := ((B1.alloc _).alloc _).only ho id); (first | replace HA := Lib.hid (HA.out.thenF ho) | replace HA := Lib.hid ((HA.out.alloc _).thenF ho) | replace HA := Lib.hid (((HA.out.alloc _).alloc _).thenF ho)); clear ho; obtain ⟨q0, q1⟩ := cells2 B1; have hz := B1.lt
      have BX0 := Blk.new w3 #[.int .i64 (a % W + 1), .int .i64 0, .int .i64 0] 24
      go_wp2_with fail
      refine (layName_any _ _ _ _).mono ?_; rintro e w4 ⟨rfl, ho⟩; rw [nameOf_no o2]
      have BX := BX0.only ho id
      clear BX0; (first | replace B1 := B1.only ho id | replace B1 := (B1.alloc _).only ho id | replace B1 := ((B1.alloc _).alloc _).only ho id); (first | replace HA := Lib.hid (HA.out.thenF ho) | replace HA := Lib.hid ((HA.out.alloc _).thenF ho) | replace HA := Lib.hid (((HA.out.alloc _).alloc _).thenF ho)); clear ho; obtain ⟨q0, q1⟩ := cells2 B1; have hz := B1.lt
      go_wp2_with fail
      refine (layName_any _ _ _ _).mono ?_; rintro e w5 ⟨rfl, ho⟩; rw [nameOf_no o3]; (first | replace B1 := B1.only ho id | replace B1 := (B1.alloc _).only ho id | replace B1 := ((B1.alloc _).alloc _).only ho id); (first | replace BX := BX.only ho id | replace BX := (BX.alloc _).only ho id); (first | replace HA := Lib.hid (HA.out.thenF ho) | replace HA := Lib.hid ((HA.out.alloc _).thenF ho) | replace HA := Lib.hid (((HA.out.alloc _).alloc _).thenF ho)); clear ho; obtain ⟨q0, q1⟩ := cells2 B1; have hz := B1.lt; obtain ⟨x0, x1, x2, g0, g1, g2⟩ := cells3 BX; have hbx := BX.lt
      go_wp2_with (first
        | (go_at_call 9; refine (awake8_any _).mono ?_; rintro e w6 ⟨rfl, ho⟩; (first | replace B1 := B1.only ho id | replace B1 := (B1.alloc _).only ho id | replace B1 := ((B1.alloc _).alloc _).only ho id); (first | replace BX := BX.only ho id | replace BX := (BX.alloc _).only ho id); (first | replace HA := Lib.hid (HA.out.thenF ho) | replace HA := Lib.hid ((HA.out.alloc _).thenF ho) | replace HA := Lib.hid (((HA.out.alloc _).alloc _).thenF ho)); clear ho; obtain ⟨q0, q1⟩ := cells2 B1; have hz := B1.lt; obtain ⟨x0, x1, x2, g0, g1, g2⟩ := cells3 BX; have hbx := BX.lt))
      go_ret
      exact ⟨rfl, HA.out.below (Nat.le_refl _) (fun _ _ h => h)⟩
    · have hn : Lay.nameAt P T (a % W) = (6, 0, 0) := by simp only [Lay.nameAt, if_pos h8, Lay.aloneK]; rw [if_neg (by omega)]
      have d3 : decide (4 < a % W) = true := by simp; omega
      cases d4 : ((6 : Int) == a % W + 1)
      all_goals
        go_enter Try.func6, Try.ntmps6
        go_wp2_with fail
        refine hl.mono ?_; rintro e w1 ⟨rfl, ho⟩
        have B1 := Blk.new w1 #[.int .i64 P, .int .i64 T] 26
        have HA := Lib.hid (ho.alloc (.cells #[.int .i64 P, .int .i64 T] 26))
        have l1 := ho.size
        clear ho hl
        go_wp2_with fail
        refine (hwc _).mono ?_; rintro e w2 ⟨rfl, ho⟩; (first | replace B1 := B1.only ho id | replace B1 := (B1.alloc _).only ho id | replace B1 := ((B1.alloc _).alloc _).only ho id); (first | replace HA := Lib.hid (HA.out.thenF ho) | replace HA := Lib.hid ((HA.out.alloc _).thenF ho) | replace HA := Lib.hid (((HA.out.alloc _).alloc _).thenF ho)); clear ho; obtain ⟨q0, q1⟩ := cells2 B1; have hz := B1.lt
        go_wp2_with fail
        refine (layName_any _ _ _ _).mono ?_; rintro e w3 ⟨rfl, ho⟩; rw [nameOf_yes o1 hn]; (first | replace B1 := B1.only ho id | replace B1 := (B1.alloc _).only ho id | replace B1 := ((B1.alloc _).alloc _).only ho id); (first | replace HA := Lib.hid (HA.out.thenF ho) | replace HA := Lib.hid ((HA.out.alloc _).thenF ho) | replace HA := Lib.hid (((HA.out.alloc _).alloc _).thenF ho)); clear ho; obtain ⟨q0, q1⟩ := cells2 B1; have hz := B1.lt
        have BX0 := Blk.new w3 #[.int .i64 6, .int .i64 0, .int .i64 0] 24
        go_wp2_with fail
        refine (layName_any _ _ _ _).mono ?_; rintro e w4 ⟨rfl, ho⟩; rw [nameOf_no o2]
        have BX := BX0.only ho id
        clear BX0; (first | replace B1 := B1.only ho id | replace B1 := (B1.alloc _).only ho id | replace B1 := ((B1.alloc _).alloc _).only ho id); (first | replace HA := Lib.hid (HA.out.thenF ho) | replace HA := Lib.hid ((HA.out.alloc _).thenF ho) | replace HA := Lib.hid (((HA.out.alloc _).alloc _).thenF ho)); clear ho; obtain ⟨q0, q1⟩ := cells2 B1; have hz := B1.lt
        go_wp2_with fail
        refine (layName_any _ _ _ _).mono ?_; rintro e w5 ⟨rfl, ho⟩; rw [nameOf_no o3]; (first | replace B1 := B1.only ho id | replace B1 := (B1.alloc _).only ho id | replace B1 := ((B1.alloc _).alloc _).only ho id); (first | replace BX := BX.only ho id | replace BX := (BX.alloc _).only ho id); (first | replace HA := Lib.hid (HA.out.thenF ho) | replace HA := Lib.hid ((HA.out.alloc _).thenF ho) | replace HA := Lib.hid (((HA.out.alloc _).alloc _).thenF ho)); clear ho; obtain ⟨q0, q1⟩ := cells2 B1; have hz := B1.lt; obtain ⟨x0, x1, x2, g0, g1, g2⟩ := cells3 BX; have hbx := BX.lt
        go_wp2_with (first
          | (go_at_call 9; refine (awake8_any _).mono ?_; rintro e w6 ⟨rfl, ho⟩; (first | replace B1 := B1.only ho id | replace B1 := (B1.alloc _).only ho id | replace B1 := ((B1.alloc _).alloc _).only ho id); (first | replace BX := BX.only ho id | replace BX := (BX.alloc _).only ho id); (first | replace HA := Lib.hid (HA.out.thenF ho) | replace HA := Lib.hid ((HA.out.alloc _).thenF ho) | replace HA := Lib.hid (((HA.out.alloc _).alloc _).thenF ho)); clear ho; obtain ⟨q0, q1⟩ := cells2 B1; have hz := B1.lt; obtain ⟨x0, x1, x2, g0, g1, g2⟩ := cells3 BX; have hbx := BX.lt))
        go_ret
        exact ⟨rfl, HA.out.below (Nat.le_refl _) (fun _ _ h => h)⟩
  · obtain ⟨f0, f1, f2⟩ := Lay.find_name o1 (by omega)
    rcases hn : Lay.nameAt P T (a % W) with ⟨nk, na, nb⟩
    rw [hn] at f0 f1 f2
    simp only at f0 f1 f2
    go_enter Try.func6, Try.ntmps6
    go_wp2_with fail
    refine hl.mono ?_; rintro e w1 ⟨rfl, ho⟩
    have B1 := Blk.new w1 #[.int .i64 P, .int .i64 T] 26
    have HA := Lib.hid (ho.alloc (.cells #[.int .i64 P, .int .i64 T] 26))
    have l1 := ho.size
    clear ho hl
    go_wp2_with fail
    refine (hwc _).mono ?_; rintro e w2 ⟨rfl, ho⟩; (first | replace B1 := B1.only ho id | replace B1 := (B1.alloc _).only ho id | replace B1 := ((B1.alloc _).alloc _).only ho id); (first | replace HA := Lib.hid (HA.out.thenF ho) | replace HA := Lib.hid ((HA.out.alloc _).thenF ho) | replace HA := Lib.hid (((HA.out.alloc _).alloc _).thenF ho)); clear ho; obtain ⟨q0, q1⟩ := cells2 B1; have hz := B1.lt
    go_wp2_with fail
    refine (layName_any _ _ _ _).mono ?_; rintro e w3 ⟨rfl, ho⟩; rw [nameOf_yes o1 hn]; (first | replace B1 := B1.only ho id | replace B1 := (B1.alloc _).only ho id | replace B1 := ((B1.alloc _).alloc _).only ho id); (first | replace HA := Lib.hid (HA.out.thenF ho) | replace HA := Lib.hid ((HA.out.alloc _).thenF ho) | replace HA := Lib.hid (((HA.out.alloc _).alloc _).thenF ho)); clear ho; obtain ⟨q0, q1⟩ := cells2 B1; have hz := B1.lt
    have BX0 := Blk.new w3 #[.int .i64 nk, .int .i64 na, .int .i64 nb] 24
    go_wp2_with fail
    refine (layName_any _ _ _ _).mono ?_; rintro e w4 ⟨rfl, ho⟩; rw [nameOf_no o2]
    have BX := BX0.only ho id
    clear BX0; (first | replace B1 := B1.only ho id | replace B1 := (B1.alloc _).only ho id | replace B1 := ((B1.alloc _).alloc _).only ho id); (first | replace HA := Lib.hid (HA.out.thenF ho) | replace HA := Lib.hid ((HA.out.alloc _).thenF ho) | replace HA := Lib.hid (((HA.out.alloc _).alloc _).thenF ho)); clear ho; obtain ⟨q0, q1⟩ := cells2 B1; have hz := B1.lt
    go_wp2_with fail
    refine (layName_any _ _ _ _).mono ?_; rintro e w5 ⟨rfl, ho⟩; rw [nameOf_no o3]; (first | replace B1 := B1.only ho id | replace B1 := (B1.alloc _).only ho id | replace B1 := ((B1.alloc _).alloc _).only ho id); (first | replace BX := BX.only ho id | replace BX := (BX.alloc _).only ho id); (first | replace HA := Lib.hid (HA.out.thenF ho) | replace HA := Lib.hid ((HA.out.alloc _).thenF ho) | replace HA := Lib.hid (((HA.out.alloc _).alloc _).thenF ho)); clear ho; obtain ⟨q0, q1⟩ := cells2 B1; have hz := B1.lt; obtain ⟨x0, x1, x2, g0, g1, g2⟩ := cells3 BX; have hbx := BX.lt
    go_wp2_with (first
      | (go_at_call 10; refine (find_any _ _ _ _ _ _ f0).mono ?_; rintro e w6 ⟨rfl, ho⟩; rw [atOf_yes f1, f2]; (first | replace B1 := B1.only ho id | replace B1 := (B1.alloc _).only ho id | replace B1 := ((B1.alloc _).alloc _).only ho id); (first | replace BX := BX.only ho id | replace BX := (BX.alloc _).only ho id); (first | replace HA := Lib.hid (HA.out.thenF ho) | replace HA := Lib.hid ((HA.out.alloc _).thenF ho) | replace HA := Lib.hid (((HA.out.alloc _).alloc _).thenF ho)); clear ho; obtain ⟨q0, q1⟩ := cells2 B1; have hz := B1.lt; obtain ⟨x0, x1, x2, g0, g1, g2⟩ := cells3 BX; have hbx := BX.lt)
      | (go_at_call 9; refine (awake8_any _).mono ?_; rintro e w7 ⟨rfl, ho⟩; (first | replace B1 := B1.only ho id | replace B1 := (B1.alloc _).only ho id | replace B1 := ((B1.alloc _).alloc _).only ho id); (first | replace BX := BX.only ho id | replace BX := (BX.alloc _).only ho id); (first | replace HA := Lib.hid (HA.out.thenF ho) | replace HA := Lib.hid ((HA.out.alloc _).thenF ho) | replace HA := Lib.hid (((HA.out.alloc _).alloc _).thenF ho)); clear ho; obtain ⟨q0, q1⟩ := cells2 B1; have hz := B1.lt; obtain ⟨x0, x1, x2, g0, g1, g2⟩ := cells3 BX; have hbx := BX.lt))
    go_ret
    exact ⟨rfl, HA.out.below (Nat.le_refl _) (fun _ _ h => h)⟩
end Go.Proofs.Ytiohlcejkcccpaa

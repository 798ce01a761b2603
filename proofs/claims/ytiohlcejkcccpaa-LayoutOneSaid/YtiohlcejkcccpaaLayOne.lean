/- LayoutOne: the ways on which there is nothing to compare. By an AI agent. -/
import Derived.Test.YtiohlcejkcccpaaLayFind
namespace Go.Proofs.Ytiohlcejkcccpaa
open Go.RowKit
namespace Lay
def nB (K B : Int) : Int := if 8 < K then 0 else B
theorem name_find {P T K A B : Int} (k0 : 7 ≤ K) (k1 : K ≤ 16) (b0 : 0 ≤ B) (b1 : K = 7 → B ≤ 3) (h : findOk P T K A B = true) :
    nameOk P T (findAt P T K A B) = true ∧ nameAt P T (findAt P T K A B) = (K, A, nB K B) ∧ 8 ≤ findAt P T K A B := by
  unfold findOk at h
  unfold findAt nB
  by_cases h7 : K = 7
  · subst h7
    have b1 := b1 rfl
    simp only [if_true] at h ⊢
    obtain ⟨x, y⟩ := name_head (full := decide (2 ≤ B)) h
    refine ⟨x, ?_, ?_⟩
    · rw [y]
      have : B % 2 + (if decide (2 ≤ B) = true then (2 : Int) else 0) = B := by
        by_cases h2 : 2 ≤ B
        · simp [h2]; omega
        · simp [h2]; omega
      rw [this]; simp
    · simp only [headOk, Bool.and_eq_true, decide_eq_true_eq] at h
      unfold headAt
      split <;> omega
  · rw [if_neg h7] at h ⊢
    by_cases h8 : K = 8
    · subst h8
      simp only [if_true] at h ⊢
      obtain ⟨x, y⟩ := name_cache h
      refine ⟨x, by rw [y]; simp, ?_⟩
      simp only [cacheOk, Bool.and_eq_true, decide_eq_true_eq] at h
      unfold cacheAt; omega
    · rw [if_neg h8] at h ⊢
      rw [if_pos (show 8 < K by omega)]
      by_cases h15 : K = 15 ∨ K = 16
      · rw [if_pos h15] at h ⊢
        obtain ⟨x, y⟩ := name_map h
        refine ⟨x, y, ?_⟩
        simp only [mapOk, Bool.and_eq_true, decide_eq_true_eq] at h
        obtain ⟨hm, h⟩ := h
        obtain ⟨a, b, c, d⟩ := may_iff.1 hm
        have := many_bd a b
        unfold mapAt; split <;> omega
      · rw [if_neg h15] at h ⊢
        obtain ⟨x, y⟩ := name_page h
        refine ⟨x, y, ?_⟩
        simp only [pageOk, Bool.and_eq_true, decide_eq_true_eq] at h
        obtain ⟨hm, h⟩ := h
        obtain ⟨a, b, c, d⟩ := may_iff.1 hm
        unfold pageAt; split <;> omega
theorem find_nB {P T K A B : Int} : findAt P T K A (nB K B) = findAt P T K A B := by
  unfold findAt nB
  by_cases h : 8 < K
  · have h7 : ¬ K = 7 := by omega
    have h8 : ¬ K = 8 := by omega
    simp only [h7, h8, if_false]
  · rw [if_neg h]
theorem find_one {P T K A B K' A' B' : Int} (k0 : 7 ≤ K) (k1 : K ≤ 16) (b0 : 0 ≤ B) (b1 : K = 7 → B ≤ 3) (h : findOk P T K A B = true)
    (k0' : 7 ≤ K') (k1' : K' ≤ 16) (b0' : 0 ≤ B') (b1' : K' = 7 → B' ≤ 3) (h' : findOk P T K' A' B' = true) :
    findAt P T K A B = findAt P T K' A' B' ↔ K = K' ∧ A = A' ∧ nB K B = nB K' B' := by
  constructor
  · intro e
    have x := (name_find k0 k1 b0 b1 h).2.1
    have y := (name_find k0' k1' b0' b1' h').2.1
    rw [e, y] at x
    simp only [Prod.mk.injEq] at x
    exact ⟨x.1.symm, x.2.1.symm, x.2.2.symm⟩
  · rintro ⟨rfl, rfl, e⟩
    rw [← find_nB (B := B), e, find_nB]
end Lay
set_option maxRecDepth 100000 in
set_option maxHeartbeats 8000000 in
theorem one_early (g : Int) (w0 : (Lit.int .u16 g).wf = true) (t : Int) (w1 : (Lit.int .u8 t).wf = true) (K : Int) (w20 : (Lit.int .i64 K).wf = true) (A : Int) (w21 : (Lit.int .i64 A).wf = true) (B : Int) (w22 : (Lit.int .i64 B).wf = true)
    (K' : Int) (w30 : (Lit.int .i64 K').wf = true) (A' : Int) (w31 : (Lit.int .i64 A').wf = true) (B' : Int) (w32 : (Lit.int .i64 B').wf = true) (w : World) (hc : (K < 7 ∨ (7 ≤ K ∧ 16 < K) ∨ (7 ≤ K ∧ K ≤ 16 ∧ K' < 7) ∨ (7 ≤ K ∧ K ≤ 16 ∧ 7 ≤ K' ∧ 16 < K') ∨ (7 ≤ K ∧ K ≤ 16 ∧ 7 ≤ K' ∧ K' ≤ 16 ∧ B < 0) ∨ (7 ≤ K ∧ K ≤ 16 ∧ 7 ≤ K' ∧ K' ≤ 16 ∧ 0 ≤ B ∧ B' < 0) ∨
      (7 ≤ K ∧ K ≤ 16 ∧ 7 ≤ K' ∧ K' ≤ 16 ∧ 0 ≤ B ∧ 0 ≤ B' ∧ (K == 7) = true ∧ decide (3 < B) = true) ∨ (7 ≤ K ∧ K ≤ 16 ∧ 7 ≤ K' ∧ K' ≤ 16 ∧ 0 ≤ B ∧ 0 ≤ B' ∧ (K == 7) = false ∧ (K' == 7) = true ∧ decide (3 < B') = true) ∨
      (7 ≤ K ∧ K ≤ 16 ∧ 7 ≤ K' ∧ K' ≤ 16 ∧ 0 ≤ B ∧ 0 ≤ B' ∧ (K == 7) = true ∧ decide (3 < B) = false ∧ (K' == 7) = true ∧ decide (3 < B') = true))) :
    Calls Try.prog 3 #[.int .u16 g, .int .u8 t, .agg #[.int .i64 K, .int .i64 A, .int .i64 B], .agg #[.int .i64 K', .int .i64 A', .int .i64 B']] w fun e w' => e = .returned (.bool true) ∧ Below w.heap.size w w' := by
  obtain ⟨g0, g1⟩ := bd_u16 w0
  obtain ⟨t0, t1⟩ := bd_u8 w1
  clear w0 w1 w20 w21 w22 w30 w31 w32
  obtain ⟨P, hP⟩ : ∃ P : Int, P = 1 + g % 4096 := ⟨_, rfl⟩
  obtain ⟨T, hT⟩ : ∃ T : Int, T = 1 + t % 64 := ⟨_, rfl⟩
  have hl := lay_any g t
  rw [← hP, ← hT] at hl
  replace hl := fun w => hl w g0 g1 t0 t1
  clear hP hT g0 g1 t0 t1
  have BX := (Blk.new w #[.int .i64 K, .int .i64 A, .int .i64 B] 24).alloc (.cells #[.int .i64 K', .int .i64 A', .int .i64 B'] 24)
  have BY := Blk.new (w.alloc (.cells #[.int .i64 K, .int .i64 A, .int .i64 B] 24)) #[.int .i64 K', .int .i64 A', .int .i64 B'] 24
  rw [show (w.alloc (.cells #[.int .i64 K, .int .i64 A, .int .i64 B] 24)).heap.size = w.heap.size + 1 by simp] at BY
  have HA := Lib.hid (((Only.refl (fun _ => False) w).alloc (.cells #[.int .i64 K, .int .i64 A, .int .i64 B] 24)).alloc (.cells #[.int .i64 K', .int .i64 A', .int .i64 B'] 24))
  rcases hc with c1 | ⟨c1, c2⟩ | ⟨c1, c2, c3⟩ | ⟨c1, c2, c3, c4⟩ | ⟨c1, c2, c3, c4, c5⟩ | ⟨c1, c2, c3, c4, c5, c6⟩ | ⟨c1, c2, c3, c4, c5, c6, c7, c8⟩ | ⟨c1, c2, c3, c4, c5, c6, c7, c8, c9⟩ | ⟨c1, c2, c3, c4, c5, c6, c7, c8, c9, c10⟩
  all_goals
    go_enter Try.func3, Try.ntmps3
    go_wp2_with fail
    refine (hl _).mono ?_; rintro e w1 ⟨rfl, ho⟩
    replace BX := BX.only ho id
    replace BY := BY.only ho id
    replace HA := Lib.hid (HA.out.thenF ho)
    clear ho
    obtain ⟨x0, x1, x2, g0, g1, g2⟩ := cells3 BX
    obtain ⟨y0, y1, y2, g3, g4, g5⟩ := cells3 BY
    have l1 := BX.lt; have l2 := BY.lt
    go_wp2_with (go_at_call 9; refine (awake8_any _).mono ?_; rintro e w2 ⟨rfl, ho⟩)
    go_ret
    exact ⟨rfl, ((HA.out.alloc _).thenF ho).below (Nat.le_refl _) (fun _ _ h => h)⟩
set_option maxRecDepth 100000 in
set_option maxHeartbeats 8000000 in
theorem one_no (g : Int) (w0 : (Lit.int .u16 g).wf = true) (t : Int) (w1 : (Lit.int .u8 t).wf = true) (K : Int) (w20 : (Lit.int .i64 K).wf = true) (A : Int) (w21 : (Lit.int .i64 A).wf = true) (B : Int) (w22 : (Lit.int .i64 B).wf = true)
    (K' : Int) (w30 : (Lit.int .i64 K').wf = true) (A' : Int) (w31 : (Lit.int .i64 A').wf = true) (B' : Int) (w32 : (Lit.int .i64 B').wf = true) (w : World) (hc : 7 ≤ K ∧ K ≤ 16 ∧ 7 ≤ K' ∧ K' ≤ 16 ∧ 0 ≤ B ∧ 0 ≤ B' ∧ (K = 7 → B ≤ 3) ∧ (K' = 7 → B' ≤ 3)) (hno : ∀ P T, P = 1 + g % 4096 → T = 1 + t % 64 → Lay.findOk P T K A B = false ∨ Lay.findOk P T K' A' B' = false) :
    Calls Try.prog 3 #[.int .u16 g, .int .u8 t, .agg #[.int .i64 K, .int .i64 A, .int .i64 B], .agg #[.int .i64 K', .int .i64 A', .int .i64 B']] w fun e w' => e = .returned (.bool true) ∧ Below w.heap.size w w' := by
  obtain ⟨g0, g1⟩ := bd_u16 w0
  obtain ⟨t0, t1⟩ := bd_u8 w1
  clear w0 w1 w20 w21 w22 w30 w31 w32
  obtain ⟨P, hP⟩ : ∃ P : Int, P = 1 + g % 4096 := ⟨_, rfl⟩
  obtain ⟨T, hT⟩ : ∃ T : Int, T = 1 + t % 64 := ⟨_, rfl⟩
  have hl := lay_any g t
  rw [← hP, ← hT] at hl
  replace hl := fun w => hl w g0 g1 t0 t1
  have hno := hno P T hP hT
  clear hP hT g0 g1 t0 t1
  have BX := (Blk.new w #[.int .i64 K, .int .i64 A, .int .i64 B] 24).alloc (.cells #[.int .i64 K', .int .i64 A', .int .i64 B'] 24)
  have BY := Blk.new (w.alloc (.cells #[.int .i64 K, .int .i64 A, .int .i64 B] 24)) #[.int .i64 K', .int .i64 A', .int .i64 B'] 24
  rw [show (w.alloc (.cells #[.int .i64 K, .int .i64 A, .int .i64 B] 24)).heap.size = w.heap.size + 1 by simp] at BY
  have HA := Lib.hid (((Only.refl (fun _ => False) w).alloc (.cells #[.int .i64 K, .int .i64 A, .int .i64 B] 24)).alloc (.cells #[.int .i64 K', .int .i64 A', .int .i64 B'] 24))
  obtain ⟨c1, c2, c3, c4, c5, c6, c7, c8⟩ := hc
  cases f1 : Lay.findOk P T K A B
  · have F1 := fun w => find_any P T K A B w c5
    have F2 := fun w => find_any P T K' A' B' w c6
    rw [f1] at F1
    rw [atOf_no rfl] at F1
    clear f1
    cases f2 : Lay.findOk P T K' A' B'
    all_goals
      rw [f2] at F2
      first | rw [atOf_no rfl] at F2 | rw [atOf_yes rfl] at F2
      clear f2
      cases kx : (K == 7) <;> cases ky : (K' == 7)
      all_goals
        have r1 : (K == 7) = false ∨ decide (3 < B) = false := by
          by_cases h : K = 7
          · exact .inr (by simpa using c7 h)
          · exact .inl (by simpa using h)
        have s1 : (K' == 7) = false ∨ decide (3 < B') = false := by
          by_cases h : K' = 7
          · exact .inr (by simpa using c8 h)
          · exact .inl (by simpa using h)
        simp only [kx, ky, reduceCtorEq, false_or, true_or] at r1 s1
        clear c7 c8
        go_enter Try.func3, Try.ntmps3
        go_wp2_with fail
        refine (hl _).mono ?_; rintro e w1 ⟨rfl, ho⟩
        replace BX := BX.only ho id
        replace BY := BY.only ho id
        have B1 := Blk.new w1 #[.int .i64 P, .int .i64 T] 26
        replace HA := Lib.hid ((HA.out.thenF ho).alloc (.cells #[.int .i64 P, .int .i64 T] 26))
        clear ho
        obtain ⟨x0, x1, x2, g0, g1, g2⟩ := cells3 BX
        obtain ⟨y0, y1, y2, g3, g4, g5⟩ := cells3 BY
        have l1 := BX.lt; have l2 := BY.lt
        go_wp2_with fail
        refine (F1 _).mono ?_; rintro e w2 ⟨rfl, ho⟩
        replace BX := (BX.alloc _).only ho id
        replace BY := (BY.alloc _).only ho id
        replace B1 := B1.only ho id
        replace HA := Lib.hid (HA.out.thenF ho)
        clear ho x0 x1 x2 g0 g1 g2 y0 y1 y2 g3 g4 g5
        obtain ⟨x0, x1, x2, g0, g1, g2⟩ := cells3 BX
        obtain ⟨y0, y1, y2, g3, g4, g5⟩ := cells3 BY
        obtain ⟨q0, q1⟩ := cells2 B1
        go_wp2_with fail
        refine (F2 _).mono ?_; rintro e w3 ⟨rfl, ho⟩
        replace HA := Lib.hid (HA.out.thenF ho)
        clear ho
        go_wp2_with (go_at_call 9; refine (awake8_any _).mono ?_; rintro e w5 ⟨rfl, ho2⟩)
        go_ret
        exact ⟨rfl, (HA.out.thenF ho2).below (Nat.le_refl _) (fun _ _ h => h)⟩
  cases f2 : Lay.findOk P T K' A' B'
  · have F1 := fun w => find_any P T K A B w c5
    have F2 := fun w => find_any P T K' A' B' w c6
    rw [f1] at F1
    rw [f2] at F2
    rw [atOf_yes rfl] at F1
    rw [atOf_no rfl] at F2
    clear f1 f2
    cases kx : (K == 7) <;> cases ky : (K' == 7)
    all_goals
      have r1 : (K == 7) = false ∨ decide (3 < B) = false := by
        by_cases h : K = 7
        · exact .inr (by simpa using c7 h)
        · exact .inl (by simpa using h)
      have s1 : (K' == 7) = false ∨ decide (3 < B') = false := by
        by_cases h : K' = 7
        · exact .inr (by simpa using c8 h)
        · exact .inl (by simpa using h)
      simp only [kx, ky, reduceCtorEq, false_or, true_or] at r1 s1
      clear c7 c8
      go_enter Try.func3, Try.ntmps3
      go_wp2_with fail
      refine (hl _).mono ?_; rintro e w1 ⟨rfl, ho⟩
      replace BX := BX.only ho id
      replace BY := BY.only ho id
      have B1 := Blk.new w1 #[.int .i64 P, .int .i64 T] 26
      replace HA := Lib.hid ((HA.out.thenF ho).alloc (.cells #[.int .i64 P, .int .i64 T] 26))
      clear ho
      obtain ⟨x0, x1, x2, g0, g1, g2⟩ := cells3 BX
      obtain ⟨y0, y1, y2, g3, g4, g5⟩ := cells3 BY
      have l1 := BX.lt; have l2 := BY.lt
      go_wp2_with fail
      refine (F1 _).mono ?_; rintro e w2 ⟨rfl, ho⟩
      replace BX := (BX.alloc _).only ho id
      replace BY := (BY.alloc _).only ho id
      replace B1 := B1.only ho id
      replace HA := Lib.hid (HA.out.thenF ho)
      clear ho x0 x1 x2 g0 g1 g2 y0 y1 y2 g3 g4 g5
      obtain ⟨x0, x1, x2, g0, g1, g2⟩ := cells3 BX
      obtain ⟨y0, y1, y2, g3, g4, g5⟩ := cells3 BY
      obtain ⟨q0, q1⟩ := cells2 B1
      go_wp2_with fail
      refine (F2 _).mono ?_; rintro e w3 ⟨rfl, ho⟩
      replace HA := Lib.hid (HA.out.thenF ho)
      clear ho
      go_wp2_with (go_at_call 9; refine (awake8_any _).mono ?_; rintro e w5 ⟨rfl, ho2⟩)
      go_ret
      exact ⟨rfl, (HA.out.thenF ho2).below (Nat.le_refl _) (fun _ _ h => h)⟩
  simp [f1, f2] at hno
end Go.Proofs.Ytiohlcejkcccpaa

/- LayoutOne: its walk. By an AI agent. -/
import Derived.Test.YtiohlcejkcccpaaLayOne
namespace Go.Proofs.Ytiohlcejkcccpaa
open Go.RowKit
set_option maxRecDepth 100000 in
set_option maxHeartbeats 8000000 in
theorem layoutOne_law (g : Int) (w0 : (Lit.int .u16 g).wf = true) (t : Int) (w1 : (Lit.int .u8 t).wf = true) (K : Int) (w20 : (Lit.int .i64 K).wf = true) (A : Int) (w21 : (Lit.int .i64 A).wf = true) (B : Int) (w22 : (Lit.int .i64 B).wf = true)
    (K' : Int) (w30 : (Lit.int .i64 K').wf = true) (A' : Int) (w31 : (Lit.int .i64 A').wf = true) (B' : Int) (w32 : (Lit.int .i64 B').wf = true) (w : World) :
    Calls Try.prog 3 #[.int .u16 g, .int .u8 t, .agg #[.int .i64 K, .int .i64 A, .int .i64 B], .agg #[.int .i64 K', .int .i64 A', .int .i64 B']] w fun e w' => e = .returned (.bool true) ∧ Below w.heap.size w w' := by
  have hcase : (K < 7 ∨ (7 ≤ K ∧ 16 < K) ∨ (7 ≤ K ∧ K ≤ 16 ∧ K' < 7) ∨ (7 ≤ K ∧ K ≤ 16 ∧ 7 ≤ K' ∧ 16 < K') ∨ (7 ≤ K ∧ K ≤ 16 ∧ 7 ≤ K' ∧ K' ≤ 16 ∧ B < 0) ∨ (7 ≤ K ∧ K ≤ 16 ∧ 7 ≤ K' ∧ K' ≤ 16 ∧ 0 ≤ B ∧ B' < 0) ∨
      (7 ≤ K ∧ K ≤ 16 ∧ 7 ≤ K' ∧ K' ≤ 16 ∧ 0 ≤ B ∧ 0 ≤ B' ∧ (K == 7) = true ∧ decide (3 < B) = true) ∨ (7 ≤ K ∧ K ≤ 16 ∧ 7 ≤ K' ∧ K' ≤ 16 ∧ 0 ≤ B ∧ 0 ≤ B' ∧ (K == 7) = false ∧ (K' == 7) = true ∧ decide (3 < B') = true) ∨
      (7 ≤ K ∧ K ≤ 16 ∧ 7 ≤ K' ∧ K' ≤ 16 ∧ 0 ≤ B ∧ 0 ≤ B' ∧ (K == 7) = true ∧ decide (3 < B) = false ∧ (K' == 7) = true ∧ decide (3 < B') = true)) ∨
      (7 ≤ K ∧ K ≤ 16 ∧ 7 ≤ K' ∧ K' ≤ 16 ∧ 0 ≤ B ∧ 0 ≤ B' ∧ (K = 7 → B ≤ 3) ∧ (K' = 7 → B' ≤ 3)) := by
    rcases Int.lt_or_le K 7 with a1 | a1
    · exact .inl (.inl a1)
    rcases Int.lt_or_le 16 K with a2 | a2
    · exact .inl (.inr (.inl ⟨a1, a2⟩))
    rcases Int.lt_or_le K' 7 with a3 | a3
    · exact .inl (.inr (.inr (.inl ⟨a1, a2, a3⟩)))
    rcases Int.lt_or_le 16 K' with a4 | a4
    · exact .inl (.inr (.inr (.inr (.inl ⟨a1, a2, a3, a4⟩))))
    rcases Int.lt_or_le B 0 with a5 | a5
    · exact .inl (.inr (.inr (.inr (.inr (.inl ⟨a1, a2, a3, a4, a5⟩)))))
    rcases Int.lt_or_le B' 0 with a6 | a6
    · exact .inl (.inr (.inr (.inr (.inr (.inr (.inl ⟨a1, a2, a3, a4, a5, a6⟩))))))
    by_cases a7 : K = 7
    · rcases Int.lt_or_le 3 B with a8 | a8
      · exact .inl (.inr (.inr (.inr (.inr (.inr (.inr (.inl ⟨a1, a2, a3, a4, a5, a6, by simpa using a7, by simpa using a8⟩)))))))
      · by_cases a9 : K' = 7
        · rcases Int.lt_or_le 3 B' with b8 | b8
          · exact .inl (.inr (.inr (.inr (.inr (.inr (.inr (.inr (.inr ⟨a1, a2, a3, a4, a5, a6, by simpa using a7, by simpa using a8, by simpa using a9, by simpa using b8⟩))))))))
          · exact .inr ⟨a1, a2, a3, a4, a5, a6, fun _ => a8, fun _ => b8⟩
        · exact .inr ⟨a1, a2, a3, a4, a5, a6, fun _ => a8, fun h => absurd h a9⟩
    · by_cases a9 : K' = 7
      · rcases Int.lt_or_le 3 B' with b8 | b8
        · exact .inl (.inr (.inr (.inr (.inr (.inr (.inr (.inr (.inl ⟨a1, a2, a3, a4, a5, a6, by simpa using a7, by simpa using a9, by simpa using b8⟩))))))))
        · exact .inr ⟨a1, a2, a3, a4, a5, a6, fun h => absurd h a7, fun _ => b8⟩
      · exact .inr ⟨a1, a2, a3, a4, a5, a6, fun h => absurd h a7, fun h => absurd h a9⟩
  rcases hcase with hc | hc
  · exact one_early g w0 t w1 K w20 A w21 B w22 K' w30 A' w31 B' w32 w hc
  by_cases hno : ∀ P T, P = 1 + g % 4096 → T = 1 + t % 64 → Lay.findOk P T K A B = false ∨ Lay.findOk P T K' A' B' = false
  · exact one_no g w0 t w1 K w20 A w21 B w22 K' w30 A' w31 B' w32 w hc hno
  have hyes : Lay.findOk (1 + g % 4096) (1 + t % 64) K A B = true ∧ Lay.findOk (1 + g % 4096) (1 + t % 64) K' A' B' = true := by
    refine ⟨?_, ?_⟩
    · cases h : Lay.findOk (1 + g % 4096) (1 + t % 64) K A B
      · exact absurd (fun P T h1 h2 => .inl (by rw [h1, h2]; exact h)) hno
      · rfl
    · cases h : Lay.findOk (1 + g % 4096) (1 + t % 64) K' A' B'
      · exact absurd (fun P T h1 h2 => .inr (by rw [h1, h2]; exact h)) hno
      · rfl
  clear hno
  obtain ⟨g0, g1⟩ := bd_u16 w0
  obtain ⟨t0, t1⟩ := bd_u8 w1
  clear w0 w1 w20 w21 w22 w30 w31 w32
  obtain ⟨P, hP⟩ : ∃ P : Int, P = 1 + g % 4096 := ⟨_, rfl⟩
  obtain ⟨T, hT⟩ : ∃ T : Int, T = 1 + t % 64 := ⟨_, rfl⟩
  have hl := lay_any g t
  rw [← hP, ← hT] at hl hyes
  replace hl := fun w => hl w g0 g1 t0 t1
  obtain ⟨f1, f2⟩ := hyes
  clear hP hT g0 g1 t0 t1
  have BX := (Blk.new w #[.int .i64 K, .int .i64 A, .int .i64 B] 24).alloc (.cells #[.int .i64 K', .int .i64 A', .int .i64 B'] 24)
  have BY := Blk.new (w.alloc (.cells #[.int .i64 K, .int .i64 A, .int .i64 B] 24)) #[.int .i64 K', .int .i64 A', .int .i64 B'] 24
  rw [show (w.alloc (.cells #[.int .i64 K, .int .i64 A, .int .i64 B] 24)).heap.size = w.heap.size + 1 by simp] at BY
  have HA := Lib.hid (((Only.refl (fun _ => False) w).alloc (.cells #[.int .i64 K, .int .i64 A, .int .i64 B] 24)).alloc (.cells #[.int .i64 K', .int .i64 A', .int .i64 B'] 24))
  obtain ⟨c1, c2, c3, c4, c5, c6, c7, c8⟩ := hc
  have n1 := Lay.name_find c1 c2 c5 c7 f1
  have n2 := Lay.name_find c3 c4 c6 c8 f2
  have hone := Lay.find_one c1 c2 c5 c7 f1 c3 c4 c6 c8 f2
  have F1 := fun w => find_any P T K A B w c5
  have F2 := fun w => find_any P T K' A' B' w c6
  rw [f1] at F1; rw [f2] at F2
  rw [atOf_yes rfl] at F1 F2
  have hW := fun w => layWords_any P T w
  obtain ⟨m1, _, p1⟩ := n1
  obtain ⟨_, _, p2⟩ := n2
  simp only [Lay.nameOk, decide_eq_true_eq] at m1
  clear f1 f2
  generalize Lay.findAt P T K A B = a at *
  generalize Lay.findAt P T K' A' B' = b at *
  generalize Lay.words P T = W at *
  obtain ⟨_, m1⟩ := m1
  have kx : ((K == 7) = true ∧ decide (3 < B) = false ∧ Lay.nB K B = B ∧ K ≤ 8) ∨ ((K == 7) = false ∧ Lay.nB K B = B ∧ K ≤ 8) ∨ ((K == 7) = false ∧ Lay.nB K B = 0 ∧ 8 < K) := by
    unfold Lay.nB
    by_cases h : K = 7
    · exact .inl ⟨by simpa using h, by simpa using c7 h, if_neg (by omega), by omega⟩
    · rcases Int.lt_or_le 8 K with h8 | h8
      · exact .inr (.inr ⟨by simpa using h, if_pos h8, h8⟩)
      · exact .inr (.inl ⟨by simpa using h, if_neg (by omega), h8⟩)
  have ky : ((K' == 7) = true ∧ decide (3 < B') = false ∧ Lay.nB K' B' = B' ∧ K' ≤ 8) ∨ ((K' == 7) = false ∧ Lay.nB K' B' = B' ∧ K' ≤ 8) ∨ ((K' == 7) = false ∧ Lay.nB K' B' = 0 ∧ 8 < K') := by
    unfold Lay.nB
    by_cases h : K' = 7
    · exact .inl ⟨by simpa using h, by simpa using c8 h, if_neg (by omega), by omega⟩
    · rcases Int.lt_or_le 8 K' with h8 | h8
      · exact .inr (.inr ⟨by simpa using h, if_pos h8, h8⟩)
      · exact .inr (.inl ⟨by simpa using h, if_neg (by omega), h8⟩)
  clear c7 c8
  rcases kx with ⟨r1, r2, r3, r4⟩ | ⟨r1, r3, r4⟩ | ⟨r1, r3, r4⟩ <;> rcases ky with ⟨s1, s2, s3, s4⟩ | ⟨s1, s3, s4⟩ | ⟨s1, s3, s4⟩
  all_goals
    rw [r3, s3] at hone
    clear r3 s3
    have HO := Lib.hid hone
    clear hone
  all_goals
    go_enter Try.func3, Try.ntmps3
    go_wp2_with fail
    refine (hl _).mono ?_; rintro e w1 ⟨rfl, ho⟩
    replace BX := BX.only ho id
    replace BY := BY.only ho id
    have B1 := Blk.new w1 #[.int .i64 P, .int .i64 T] 26
    replace HA := Lib.hid ((HA.out.thenF ho).alloc (.cells #[.int .i64 P, .int .i64 T] 26))
    clear ho
    obtain ⟨x0, x1, x2, g0, g1, g2⟩ := cells3 BX
    obtain ⟨y0, y1, y2, g3, g4, g5⟩ := cells3 BY
    have l1 := BX.lt; have l2 := BY.lt
    go_wp2_with fail
    refine (F1 _).mono ?_; rintro e w2 ⟨rfl, ho⟩
    replace BX := (BX.alloc _).only ho id
    replace BY := (BY.alloc _).only ho id
    replace B1 := B1.only ho id
    replace HA := Lib.hid (HA.out.thenF ho)
    clear ho x0 x1 x2 g0 g1 g2 y0 y1 y2 g3 g4 g5
    obtain ⟨x0, x1, x2, g0, g1, g2⟩ := cells3 BX
    obtain ⟨y0, y1, y2, g3, g4, g5⟩ := cells3 BY
    obtain ⟨q0, q1⟩ := cells2 B1
    go_wp2_with fail
    refine (F2 _).mono ?_; rintro e w3 ⟨rfl, ho⟩
    replace BX := BX.only ho id
    replace BY := BY.only ho id
    replace B1 := B1.only ho id
    replace HA := Lib.hid (HA.out.thenF ho)
    clear ho x0 x1 x2 g0 g1 g2 y0 y1 y2 g3 g4 g5 q0 q1
    obtain ⟨x0, x1, x2, g0, g1, g2⟩ := cells3 BX
    obtain ⟨y0, y1, y2, g3, g4, g5⟩ := cells3 BY
    obtain ⟨q0, q1⟩ := cells2 B1
    go_wp2_with fail
    all_goals (first
      | (exfalso; have := HO.out; omega)
      | (exfalso; have := HO.out; clear hl F1 F2 BX BY B1 HA hW HO; simp_all; done)
      | (exfalso; have := HO.out; clear hl F1 F2 BX BY B1 HA hW HO; simp_all; omega)
      | (refine (hW _).mono ?_; rintro e w4 ⟨rfl, ho⟩
         (first
           | replace HA := Lib.hid (HA.out.thenF ho)
           | replace HA := Lib.hid ((HA.out.setCell (.inr (by simp)) _).thenF ho)
           | replace HA := Lib.hid (((HA.out.setCell (.inr (by simp)) _).setCell (.inr (by simp)) _).thenF ho))
         go_wp2_with (go_at_call 9; refine (awake8_any _).mono ?_; rintro e w5 ⟨rfl, ho2⟩)
         go_ret
         exact ⟨by first | rfl | simp [*], (HA.out.thenF ho2).below (Nat.le_refl _) (fun _ _ h => h)⟩))
end Go.Proofs.Ytiohlcejkcccpaa

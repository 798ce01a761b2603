/- TagNone: its walk: by an AI agent. -/
import Derived.Test.YtilmblgcncbgiaaTagAwake
namespace Go.Proofs.Ytilmblgcncbgiaa
open Go.RowKit
theorem ret_bool' {a b : Bool} (h : a = b) : Ending.returned (.bool a) = .returned (.bool b) := by rw [h]
theorem Tag.pg_of (x : Int) : -1 ≤ Tag.pg x ∧ Tag.pg x < 4096 ∧ (Tag.pg x = -1 ∨ (0 ≤ Tag.pg x ∧ x % 4294967296 = Tag.pg x + 1)) := by
  unfold Tag.pg
  split <;> omega
set_option maxHeartbeats 2000000 in
theorem tagNone_law (t : Int) (w0 : (Lit.int .u32 t).wf = true) (p : Int) (w1 : (Lit.int .i64 p).wf = true) (x : Int) (w2 : (Lit.int .u64 x).wf = true) (w : World) :
    Calls Try.prog 6 #[.int .u32 t, .int .i64 p, .int .u64 x] w fun e w' => e = .returned (.bool true) ∧ Below w.heap.size w w' := by
  obtain ⟨b0, b1⟩ := bd_u32 w0
  obtain ⟨b2, b3⟩ := bd_i64 w1
  obtain ⟨b4, b5⟩ := bd_u64 w2
  clear w0 w1 w2
  obtain ⟨q0, q1, q2⟩ := Tag.pg_of x
  have hq : (Tag.pg x == -1) = true ∨ ((Tag.pg x == -1) = false ∧ 0 ≤ Tag.pg x ∧ bits .and .u64 x 4294967295 = Tag.pg x + 1) := by
    rcases q2 with q2 | ⟨q2, q3⟩
    · left; simpa using q2
    · right
      refine ⟨by simp; omega, q2, ?_⟩
      rw [← q3]
      exact and_ones x 32 (by decide) b4 b5
  clear q2
  have hp : (p < -1 ∧ Tag.okB p = false) ∨ (4096 ≤ p ∧ Tag.okB p = false) ∨ (-1 ≤ p ∧ p < 4096 ∧ Tag.okB p = true) := by
    cases h : Tag.okB p
    · rcases Tag.okB_false h with h | h
      · exact .inl ⟨h, rfl⟩
      · exact .inr (.inl ⟨h, rfl⟩)
    · exact .inr (.inr ⟨(Tag.okB_true h).1, (Tag.okB_true h).2, rfl⟩)
  rcases hp with ⟨p1, p2⟩ | ⟨p1, p2⟩ | ⟨p1, p2, p3⟩
  all_goals
    rcases hq with q3 | ⟨q3, q4, q5⟩
    all_goals
      go_enter Try.func6, Try.ntmps6
      go_wp2_with (first
        | (go_at_call 12; refine (tagMake_any _ _ _ b0 b1 b2 b3).mono ?_; rintro e w' ⟨rfl, rfl⟩)
        | (go_at_call 14; refine (tagNext_any _ _ _ b4 b5 b2 b3).mono ?_; rintro e w' ⟨rfl, k, rfl⟩)
        | (go_at_call 16; refine (tagPage_any _ _ b4 b5).mono ?_; rintro e w' ⟨rfl, k, rfl⟩)
        | (go_at_call 20; refine (awake6_any _).mono ?_; rintro e w' ⟨rfl, k, rfl⟩))
      go_ret
      first | exact ⟨rfl, below_drewN' (Below.refl _ _) _⟩ | exact ⟨ret_bool' (by simp; omega), below_drewN' (Below.refl _ _) _⟩
end Go.Proofs.Ytilmblgcncbgiaa

/- The examples of chapter 8 hold; the law's own layout, and what finds a word by its name. By an AI agent. -/
import Derived.Test.YtiohlcejkcccpaaLayout3
import Derived.Test.YtiohlcejkcccpaaRow
namespace Go.Proofs.Ytiohlcejkcccpaa
open Go.RowKit
set_option maxHeartbeats 1000000 in
theorem awake8_any (w : World) : Calls Try.prog 9 #[] w fun e w' => e = .returned (.bool true) ∧ Adds w w' := by
  have e1 : Lay.pageOk 1 1 9 0 = true := by decide
  have e2 : atV true (Lay.pageAt 1 1 9 0) = 82 := by decide
  have e3 : Lay.words 1 1 = 90 := by decide
  go_enter Try.func9, Try.ntmps9
  go_wp2_with (first
    | (go_at_call 19; refine (layPage_any _ _ _ _ _).mono ?_; rintro e w1 ⟨rfl, ho⟩; unfold atOf; obtain ⟨q0, q1, ha⟩ := box2_cells ho; have HA := Lib.hid ha; clear ho ha)
    | (go_at_call 11; refine (layWords_any _ _ _).mono ?_; rintro e w1 ⟨rfl, ho⟩))
  go_ret
  exact ⟨rfl, Only.thenF (Hid.out (by assumption)) (by assumption)⟩
set_option maxHeartbeats 400000 in
theorem lay_any (p t : Int) (w : World) (h0 : 0 ≤ p) (h1 : p < 65536) (h2 : 0 ≤ t) (h3 : t < 256) :
    Calls Try.prog 8 #[.int .u16 p, .int .u8 t] w fun e w' => e = .returned (.agg #[.int .i64 (1 + p % 4096), .int .i64 (1 + t % 64)]) ∧ Adds w w' := by
  go_enter Try.func8, Try.ntmps8
  go_wp2
  exact bodyPost_ret (v := .agg #[.int .i64 (1 + p % 4096), .int .i64 (1 + t % 64)]) (by simp [results, Try.results8, go_sem]) rfl ⟨rfl, (Only.refl _ _).alloc _⟩
end Go.Proofs.Ytiohlcejkcccpaa

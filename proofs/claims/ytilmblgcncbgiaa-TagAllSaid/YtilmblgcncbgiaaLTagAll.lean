/- TagAll: its walk: by an AI agent. -/
import Derived.Test.YtilmblgcncbgiaaTagAwake
namespace Go.Proofs.Ytilmblgcncbgiaa
open Go.RowKit
set_option maxHeartbeats 1000000 in
theorem tagAll_law (t : Int) (w0 : (Lit.int .u32 t).wf = true) (p : Int) (w1 : (Lit.int .i64 p).wf = true) (x : Int) (w2 : (Lit.int .u64 x).wf = true) (w : World) :
    Calls Try.prog 3 #[.int .u32 t, .int .i64 p, .int .u64 x] w fun e w' => e = .returned (.bool true) ∧ Below w.heap.size w w' := by
  obtain ⟨b0, b1⟩ := bd_u32 w0
  obtain ⟨b2, b3⟩ := bd_i64 w1
  obtain ⟨b4, b5⟩ := bd_u64 w2
  clear w0 w1 w2
  go_enter Try.func3, Try.ntmps3
  go_wp2_with (first
    | (go_at_call 12; refine (tagMake_any _ _ _ b0 b1 b2 b3).mono ?_; rintro e w' ⟨rfl, rfl⟩)
    | (go_at_call 13; refine (r6Make_any _ _ _ b0 b1 b2 b3).mono ?_; rintro e w' ⟨rfl, rfl⟩)
    | (go_at_call 14; refine (tagNext_any _ _ _ b4 b5 b2 b3).mono ?_; rintro e w' ⟨rfl, k, rfl⟩)
    | (go_at_call 15; refine (r6Next_any _ _ _ b4 b5 b2 b3).mono ?_; rintro e w' ⟨rfl, rfl⟩)
    | (go_at_call 16; refine (tagPage_any _ _ b4 b5).mono ?_; rintro e w' ⟨rfl, k, rfl⟩)
    | (go_at_call 17; refine (r6Page_any _ _ b4 b5).mono ?_; rintro e w' ⟨rfl, rfl⟩)
    | (go_at_call 18; refine (tagTag_any _ _ b4 b5).mono ?_; rintro e w' ⟨rfl, k, rfl⟩)
    | (go_at_call 19; refine (r6Tag_any _ _ b4 b5).mono ?_; rintro e w' ⟨rfl, rfl⟩)
    | (go_at_call 20; refine (awake6_any _).mono ?_; rintro e w' ⟨rfl, k, rfl⟩))
  go_ret
  exact ⟨rfl, below_drewN' (Below.refl _ _) _⟩
end Go.Proofs.Ytilmblgcncbgiaa

/- TagBack: its walk: by an AI agent. -/
import Derived.Test.YtilmblgcncbgiaaTagAwake
namespace Go.Proofs.Ytilmblgcncbgiaa
open Go.RowKit
theorem Tag.back {t p : Int} (h0 : 0 ≤ t) (h1 : t < 4294967296) (h2 : -1 ≤ p) (h3 : p < 4096) :
    Tag.okB p = true ∧ Tag.tg (Tag.mk t p) = t ∧ Tag.pg (Tag.mk t p) = p := by
  have hk : Tag.okB p = true := by simp [Tag.okB]; omega
  refine ⟨hk, ?_, ?_⟩
  · simp only [Tag.tg, Tag.mk, hk, if_true]; omega
  · simp only [Tag.pg, Tag.mk, hk, if_true]; split <;> omega
set_option maxHeartbeats 2000000 in
theorem tagBack_law (t : Int) (w0 : (Lit.int .u32 t).wf = true) (a : Int) (w1 : (Lit.int .u16 a).wf = true) (b : Int) (w2 : (Lit.int .u16 b).wf = true) (w : World) :
    Calls Try.prog 4 #[.int .u32 t, .int .u16 a, .int .u16 b] w fun e w' => e = .returned (.bool true) ∧ Below w.heap.size w w' := by
  obtain ⟨b0, b1⟩ := bd_u32 w0
  obtain ⟨b2, b3⟩ := bd_u16 w1
  obtain ⟨b4, b5⟩ := bd_u16 w2
  clear w0 w1 w2
  obtain ⟨k1, t1, p1⟩ := Tag.back (t := t) (p := a % 4097 - 1) b0 b1 (by omega) (by omega)
  obtain ⟨k2, t2, p2⟩ := Tag.back (t := (t + 1) % 4294967296) (p := b % 4097 - 1) (by omega) (by omega) (by omega) (by omega)
  obtain ⟨m1, m2⟩ := Tag.mk_bd (t := t) (p := a % 4097 - 1) b0 b1
  obtain ⟨m3, m4⟩ := Tag.mk_bd (t := (t + 1) % 4294967296) (p := b % 4097 - 1) (by omega) (by omega)
  have n : Tag.nx (Tag.mk t (a % 4097 - 1)) (b % 4097 - 1) = Tag.mk ((t + 1) % 4294967296) (b % 4097 - 1) := by unfold Tag.nx; rw [t1]
  go_enter Try.func4, Try.ntmps4
  go_wp2_with (first
    | (go_at_call 12; refine (tagMake_any _ _ _ b0 b1 (by omega) (by omega)).mono ?_; rintro e w' ⟨rfl, rfl⟩)
    | (go_at_call 14; refine (tagNext_any _ _ _ m1 m2 (by omega) (by omega)).mono ?_; rintro e w' ⟨rfl, k, rfl⟩)
    | (go_at_call 18; refine (tagTag_any _ _ (by omega) (by omega)).mono ?_; rintro e w' ⟨rfl, k, rfl⟩)
    | (go_at_call 16; refine (tagPage_any _ _ (by omega) (by omega)).mono ?_; rintro e w' ⟨rfl, k, rfl⟩)
    | (go_at_call 20; refine (awake6_any _).mono ?_; rintro e w' ⟨rfl, k, rfl⟩))
  go_ret
  exact ⟨rfl, below_drewN' (Below.refl _ _) _⟩
end Go.Proofs.Ytilmblgcncbgiaa

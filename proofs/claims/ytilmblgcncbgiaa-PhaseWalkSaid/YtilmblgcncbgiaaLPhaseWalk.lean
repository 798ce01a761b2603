/- PhaseWalk: its walk. By an AI agent. -/
import Derived.Test.YtilmblgcncbgiaaPhaseAwake
import Derived.Test.YtilmblgcncbgiaaLTagRow
namespace Go.Proofs.Ytilmblgcncbgiaa
open Go.RowKit
namespace Ph
/-- What holds of the state behind each step. -/
def Inv (g : Int) (turned : Bool) (x : Int) : Prop := 0 ≤ x ∧ x < 18446744073709551616 ∧ waits x g = !turned
theorem inv_first {g : Int} (g0 : 2 ≤ g) (g1 : g ≤ 70000) : okB (g - 1) 1 = true ∧ waits (mk (g - 1) 1) g = true ∧ swept (mk (g - 1) 1) g = false ∧ Inv g false (mk (g - 1) 1) := by
  have h : okB (g - 1) 1 = true := okB_iff.2 (by omega)
  obtain ⟨a, b, c, d, e⟩ := st_mk h
  have hw : waits (mk (g - 1) 1) g = true := by unfold waits; rw [a, b, c]; simp
  refine ⟨h, hw, ?_, by omega, e, hw⟩
  unfold swept; rw [a, b]; simp; omega
/-- A step to a phase that is none. -/
theorem step_none {x g : Int} (h : mayGo x g 0 = true) : goes x g 0 = 0 := by unfold goes; simp [h]
theorem none_facts (g : Int) : may 0 = true ∧ waits 0 g = false ∧ swept 0 g = false ∧ gen 0 = 0 ∧ ph 0 = 0 := by
  have h : st 0 = false := by decide
  refine ⟨by simp [may], by simp [waits, h], by simp [swept, h], by simp [gen, h], by simp [ph, h]⟩
theorem step_some {x g p : Int} (h : mayGo x g p = true) (h0 : p ≠ 0) :
    ∃ y, goes x g p = y ∧ 9 ≤ y ∧ y < 18446744073709551616 ∧ 1 ≤ p ∧ p ≤ 6 ∧ may y = true ∧ waits y g = false ∧ gen y = g ∧ ph y = p ∧ swept y g = decide (p = 1 ∨ p = 2 ∨ p = 3 ∨ p = 5) := by
  have hk : okB g p = true := (mayGo_ok h).resolve_left h0
  obtain ⟨a, b, c, d, e⟩ := st_mk hk
  obtain ⟨_, _, p1, p6⟩ := okB_iff.1 hk
  refine ⟨mk g p, by unfold goes; simp [h, h0], d, e, p1, p6, by simp [may, a], ?_, by simp [gen, a, b], by simp [ph, a, c], ?_⟩
  · unfold waits; rw [a, b, c]; simp; omega
  · unfold swept; rw [a, b, c]; simp
end Ph
set_option maxRecDepth 100000 in
set_option maxHeartbeats 8000000 in
theorem phaseWalk_law (a : Int) (w0 : (Lit.int .u16 a).wf = true) (ps : Option Addr) (len cap : Nat) (zs : List Int) (w : World) (w1 : IsRow .u8 w ps len cap zs) :
    Calls Try.prog 11 #[.int .u16 a, .slice ps len cap] w fun e w' => e = .returned (.bool true) ∧ Below w.heap.size w w' := by
  obtain ⟨b0, b1⟩ := bd_u16 w0
  have HR := Lib.hid w1
  obtain ⟨hl, _⟩ := row_len w1
  clear w0 w1
  obtain ⟨k1, k2, k3, k4⟩ := Ph.inv_first (g := 2 + a) (by omega) (by omega)
  have q1 := Ph.mk_bd (2 + a - 1) 1
  go_enter Try.func11, Try.ntmps11
  go_wp2_with (first
    | (go_at_call 21; refine (phMake_any _ _ _ (by omega) (by omega)).mono ?_; rintro e w' ⟨rfl, rfl⟩)
    | (go_at_call 27; refine (phWaits_any _ _ _ (by omega) (by omega)).mono ?_; rintro e w' ⟨rfl, k, rfl⟩)
    | (go_at_call 33; refine (phSwept_any _ _ _ (by omega) (by omega)).mono ?_; rintro e w' ⟨rfl, k, rfl⟩))
  have g0 := below_drewN' (Below.refl w.heap.size w)
  obtain ⟨g, hg⟩ : ∃ g, g = 2 + a := ⟨_, rfl⟩
  rw [← hg] at k1 k2 k3 k4 q1
  rw [← hg]
  clear k1 k2 k3 q1 hg
  go_loopw [6, 8, 9] (fun x t i wr => ∃ k : Nat, k ≤ len ∧ k ≤ 60 ∧ i = .int .i64 k ∧ ∃ (v : Int) (b : Bool) (n : Nat), x = .int .u64 v ∧ t = .bool b ∧ Ph.Inv g b v ∧ wr = w.drewN n)
    (fun _ _ i _ => len - (intOf i).toNat)
  case atStart => exact ⟨0, Nat.zero_le _, Nat.zero_le _, rfl, _, _, _, rfl, rfl, k4, rfl⟩
  case round =>
    obtain ⟨k, hk, hk1, rfl, v, t, n0, rfl, rfl, ⟨x0, x1, hw⟩, rfl⟩ := hrel
    clear k4 g0
    by_cases hlt : k < len
    · by_cases h60 : k < 60
      · obtain ⟨b, off, rfl, hb, hc, hcw⟩ := row_at HR.out hlt
        have hcb := bd_u8 hcw
        obtain ⟨y, hy⟩ : ∃ y, y = zs.getD k 0 := ⟨_, rfl⟩
        rw [← hy] at hc hcb
        clear hy hcw HR
        cases hgo : Ph.mayGo v g (y % 8)
        · have HW := Lib.hid hw
          have HG := Lib.hid hgo
          clear hw hgo
          go_wp2_with fail
          refine (phGoes_any _ _ _ _ x0 x1 (by omega) (by omega)).mono ?_; rintro e w' ⟨rfl, n, rfl⟩; rw [HG.out]
          go_wp2_with fail
          go_roundw
          case rel => exact ⟨k + 1, by omega, by omega, by go_num, _, _, _, rfl, rfl, ⟨x0, x1, HW.out⟩, rfl⟩
          case measure => simp [intOf]; omega
        · clear hw
          by_cases hp0 : y % 8 = 0
          · rw [hp0] at hgo
            have hz := Ph.step_none hgo
            obtain ⟨z1, z2, z3, z4, z5⟩ := Ph.none_facts g
            have HG := Lib.hid hgo
            have HZ := Lib.hid hz
            clear hgo hz
            go_wp2_with (first
          | (go_at_call 26; refine (phGoes_any _ _ _ _ x0 x1 (by omega) (by omega)).mono ?_; rintro e w' ⟨rfl, n, rfl⟩; rw [HG.out, HZ.out])
          | (go_at_call 22; refine (phMay_any _ _ (by omega) (by omega)).mono ?_; rintro e w' ⟨rfl, n, rfl⟩)
          | (go_at_call 27; refine (phWaits_any _ _ _ (by omega) (by omega)).mono ?_; rintro e w' ⟨rfl, n, rfl⟩)
          | (go_at_call 23; refine (phGen_any _ _ (by omega) (by omega)).mono ?_; rintro e w' ⟨rfl, n, rfl⟩)
          | (go_at_call 24; refine (phPhase_any _ _ (by omega) (by omega)).mono ?_; rintro e w' ⟨rfl, n, rfl⟩)
          | (go_at_call 33; refine (phSwept_any _ _ _ (by omega) (by omega)).mono ?_; rintro e w' ⟨rfl, n, rfl⟩))
            go_roundw
            case rel => exact ⟨k + 1, by omega, by omega, by go_num, _, _, _, rfl, rfl, ⟨by omega, by omega, z2⟩, rfl⟩
            case measure => simp [intOf]; omega
          · obtain ⟨z, hz, z0, z1, p1, p6, e1, e2, e3, e4, e5⟩ := Ph.step_some hgo hp0
            have hp : y % 8 = 1 ∨ y % 8 = 2 ∨ y % 8 = 3 ∨ y % 8 = 4 ∨ y % 8 = 5 ∨ y % 8 = 6 := by omega
            have zn : (z == 0) = false := by simp; omega
            have zm : (z != 0) = true := by simp; omega
            clear p1 p6 hp0
            rcases hp with hp | hp | hp | hp | hp | hp
            all_goals
              rw [hp] at hgo hz e4 e5
              simp at e5
              have HG := Lib.hid hgo
              have HZ := Lib.hid hz
              clear hgo hz
              go_wp2_with (first
            | (go_at_call 26; refine (phGoes_any _ _ _ _ x0 x1 (by omega) (by omega)).mono ?_; rintro e w' ⟨rfl, n, rfl⟩; rw [HG.out, HZ.out])
            | (go_at_call 22; refine (phMay_any _ _ (by omega) (by omega)).mono ?_; rintro e w' ⟨rfl, n, rfl⟩)
            | (go_at_call 27; refine (phWaits_any _ _ _ (by omega) (by omega)).mono ?_; rintro e w' ⟨rfl, n, rfl⟩)
            | (go_at_call 23; refine (phGen_any _ _ (by omega) (by omega)).mono ?_; rintro e w' ⟨rfl, n, rfl⟩)
            | (go_at_call 24; refine (phPhase_any _ _ (by omega) (by omega)).mono ?_; rintro e w' ⟨rfl, n, rfl⟩)
            | (go_at_call 33; refine (phSwept_any _ _ _ (by omega) (by omega)).mono ?_; rintro e w' ⟨rfl, n, rfl⟩))
              go_roundw
              case rel => exact ⟨k + 1, by omega, by omega, by go_num, _, _, _, rfl, rfl, ⟨by omega, by omega, e2⟩, rfl⟩
              case measure => simp [intOf]; omega
      · cases t
        all_goals
          simp at hw
          go_wp2_with (first
            | (go_at_call 27; refine (phWaits_any _ _ _ (by omega) (by omega)).mono ?_; rintro e w' ⟨rfl, n, rfl⟩)
            | (go_at_call 25; refine (awake7_any _).mono ?_; rintro e w' ⟨rfl, n, rfl⟩))
          go_ret
          exact ⟨rfl, below_drewN' (Below.refl _ _) _⟩
    · cases t
      all_goals
        simp at hw
        go_wp2_with (first
          | (go_at_call 27; refine (phWaits_any _ _ _ (by omega) (by omega)).mono ?_; rintro e w' ⟨rfl, n, rfl⟩)
          | (go_at_call 25; refine (awake7_any _).mono ?_; rintro e w' ⟨rfl, n, rfl⟩))
        go_ret
        exact ⟨rfl, below_drewN' (Below.refl _ _) _⟩
end Go.Proofs.Ytilmblgcncbgiaa

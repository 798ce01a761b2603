/- Package dustpanplay: Setup (no draws), Who, Head; the document's Held. By an AI agent. -/
import Derived.Test.YthhnpcniijpfeaaGreatZMemIs
import Derived.Test.YthhnpcniijpfeaaGreatZD
namespace Go.Proofs.YthhnpcniijpfeaaGreat
open Go.RowKit
set_option linter.unusedSimpArgs false
set_option linter.unusedVariables false
set_option maxHeartbeats 1000000 in
theorem setup_nil (a b m : Int) (w : World) (ha : 0 ≤ a ∧ a < 256) (hb : 0 ≤ b ∧ b < 256) (hm : 1 ≤ m ∧ m ≤ 1000) :
    Calls Tryz.prog 24 #[.int .u8 a, .int .u8 b, .int .i64 m, .slice none 0 0] w fun e w' => e = .returned (.agg #[.int .i64 (1 + a % m), .int .i64 (1 + b % 6), .slice none 0 0]) ∧ Adds w w' := by
  have q1 : Int.tmod a m = a % m := Int.tmod_eq_emod_of_nonneg ha.1
  have q2 : Int.tmod b 6 = b % 6 := Int.tmod_eq_emod_of_nonneg hb.1
  have r1 : 0 ≤ a % m := Int.emod_nonneg a (by omega)
  have r2 : a % m < m := Int.emod_lt_of_pos a (by omega)
  obtain ⟨x, hx⟩ : ∃ x, x = a % m := ⟨_, rfl⟩
  obtain ⟨y, hy⟩ : ∃ y, y = b % 6 := ⟨_, rfl⟩
  have hy' : b % 6 = y := hy.symm
  rw [← hx] at q1 r1 r2 ⊢
  rw [← hy] at q2 ⊢
  have e1 : IntKind.i64.wrap (1 + x) = 1 + x := by rw [IntKind.wrap_i64]; omega
  have e2 : IntKind.i64.wrap (1 + y) = 1 + y := by rw [IntKind.wrap_i64]; omega
  have hm0 : ¬ m = 0 := by omega
  have hbb := hb.1
  clear hx hy
  go_enter Tryz.func24, Tryz.ntmps24
  go_wp2_with fail
  refine wp_loop_rounds 1 ?_
  rw [rounds_succ]
  go_wp2_with fail
  exact bodyPost_ret (v := .agg #[.int .i64 (1 + x), .int .i64 (1 + y), .slice none 0 0]) (by simp [results, Tryz.results24, go_sem]) rfl ⟨rfl, ((Only.refl _ w).alloc _).alloc _⟩
set_option maxHeartbeats 1000000 in
theorem who_any {a : Option Addr} {len cap : Nat} {zs : List Int} {w0 w : World} (hz : IsRow .u8 w0 a len cap zs) (ho : Adds w0 w) (i n : Nat) (hn : 1 ≤ n ∧ n ≤ 1000) (hi : i < 1000000) :
    Calls Tryz.prog 6 #[.slice a len cap, .int .i64 (i : Int), .int .i64 (n : Int)] w fun e w' => ∃ t : Nat, e = .returned (.int .i64 (t : Int)) ∧ t < n ∧ w = w' := by
  obtain ⟨hl, hcap⟩ := rows_len hz
  have hn0 : ¬ (n : Int) = 0 := by omega
  have hn1 : 1 ≤ n := hn.1
  by_cases c : i < len
  · obtain ⟨b, off, rfl, hb, hc, hcw⟩ := rows_at hz c
    obtain ⟨x, hx⟩ : ∃ x, x = zs.getD i 0 := ⟨_, rfl⟩
    rw [← hx] at hc hcw
    have hxb := bd_u8 hcw
    have d0 := (ho.cellF (p := ⟨b, off + i, none⟩) hb id).trans hc
    obtain ⟨t, ht⟩ : ∃ t : Nat, x % (n : Int) = (t : Int) := ⟨(x % (n : Int)).toNat, by have := Int.emod_nonneg x hn0; omega⟩
    have q1 : Int.tmod x (n : Int) = (t : Int) := by rw [Int.tmod_eq_emod_of_nonneg hxb.1]; exact ht
    have htn : t < n := by have := Int.emod_lt_of_pos x (show (0 : Int) < n by omega); omega
    have q2 : x % (n : Int) = (t : Int) := ht
    have g1 : (i : Int) < len := by omega
    clear hz ho hb hc hcw hx ht
    go_enter Tryz.func6, Tryz.ntmps6
    go_wp2_with fail
    go_ret
    exact ⟨t, rfl, htn, rfl⟩
  · obtain ⟨t, ht⟩ : ∃ t : Nat, (i : Int) % (n : Int) = (t : Int) := ⟨((i : Int) % (n : Int)).toNat, by have := Int.emod_nonneg (i : Int) hn0; omega⟩
    have q1 : Int.tmod (i : Int) (n : Int) = (t : Int) := by rw [Int.tmod_eq_emod_of_nonneg (by omega)]; exact ht
    have q2 : (i : Int) % (n : Int) = (t : Int) := ht
    have htn : t < n := by have := Int.emod_lt_of_pos (i : Int) (show (0 : Int) < n by omega); omega
    have g1 : ¬ (i : Int) < len := by omega
    clear hz ho ht
    go_enter Tryz.func6, Tryz.ntmps6
    go_wp2_with fail
    go_ret
    exact ⟨t, by first | rfl | (rw [q2]), htn, rfl⟩
set_option maxHeartbeats 400000 in
theorem playHead_any (k : Int) (w : World) (h : 0 ≤ k ∧ k < 1000000) : Calls Tryz.prog 16 #[.int .i64 k] w fun e w' => e = .returned (.int .i64 (8 + k % 60)) ∧ w = w' := by
  have q1 : Int.tmod k 60 = k % 60 := Int.tmod_eq_emod_of_nonneg h.1
  have e1 : IntKind.i64.wrap (8 + k % 60) = 8 + k % 60 := by rw [IntKind.wrap_i64]; omega
  have hk := h.1
  go_enter Tryz.func16, Tryz.ntmps16
  go_wp2_with fail
  go_ret
  exact ⟨rfl, rfl⟩
end Go.Proofs.YthhnpcniijpfeaaGreat

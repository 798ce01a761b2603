/- Package class over its table; the document's rows of classes; ones. By an AI agent. -/
import Derived.Test.YtbepbcjklgfmjaaGreatDoorZ4
import Derived.Test.YtbepbcjklgfmjaaGreatDoorZ1
import Derived.Deep.LoopGhost
namespace Go.Proofs.YtbepbcjklgfmjaaGreatDoor
open Go.RowKit
set_option linter.unusedSimpArgs false
set_option linter.unusedVariables false
def tabB (k : Nat) : Int := [128, 192, 256, 384, 512, 768, 1024, 1536, 2048, 3072, 4096, 6144, 8192, 12288].getD k 0
def tabP (k : Nat) : Int := [1, 1, 1, 1, 1, 1, 1, 3, 1, 3, 1, 3, 2, 3].getD k 0
def tabS (k : Nat) : Int := [64, 42, 32, 21, 16, 10, 8, 16, 4, 8, 2, 4, 2, 2].getD k 0
/-- The table lies in the first block, as the program's text lays it. -/
def Tab (w : World) : Prop := 0 < w.heap.size ∧ ∀ k : Nat, k < 14 → w.cell? ⟨0, k * 2, none⟩ = some (.int .i64 (tabB k)) ∧ w.cell? ⟨0, k * 2 + 1, none⟩ = some (.int .i64 (tabP k))
theorem Tab.only {S : Nat → Prop} {w w' : World} (h : Tab w) (ho : Only S w w') (hS : ¬ S 0) : Tab w' :=
  ⟨Nat.lt_of_lt_of_le h.1 ho.size, fun k hk => ⟨(ho.cellF (p := ⟨0, k * 2, none⟩) h.1 hS).trans (h.2 k hk).1, (ho.cellF (p := ⟨0, k * 2 + 1, none⟩) h.1 hS).trans (h.2 k hk).2⟩⟩
theorem Tab.adds {w w' : World} (h : Tab w) (ho : Adds w w') : Tab w' := h.only ho id
/-- Pages, slots of a class. -/
def clP (c : Int) : Int := if 0 ≤ c ∧ c < 14 then tabP c.toNat else 0
def clS (c : Int) : Int := if c = 14 then 1 else if 0 ≤ c ∧ c < 14 then tabS c.toNat else 0
theorem tab_bd : ∀ k, k < 14 → 1 ≤ tabP k ∧ tabP k ≤ 3 ∧ 128 ≤ tabB k ∧ tabB k ≤ 12288 ∧ Int.tdiv (tabP k * 8192) (tabB k) = tabS k ∧ 1 ≤ tabS k ∧ tabS k ≤ 64 := by decide
theorem clS_bd (c : Int) : 0 ≤ clS c ∧ clS c ≤ 64 := by
  unfold clS
  split
  · omega
  · split
    · have := tab_bd c.toNat (by omega); omega
    · omega
theorem clP_bd (c : Int) : 0 ≤ clP c ∧ clP c ≤ 3 := by
  unfold clP
  split
  · have := tab_bd c.toNat (by omega); omega
  · omega
set_option maxHeartbeats 400000 in
theorem small_any (c : Int) (w : World) : Calls Tryz.prog 96 #[.int .i64 c] w fun e w' => e = .returned (.bool (decide (0 ≤ c ∧ c < 14))) ∧ w = w' := by
  by_cases h0 : 0 ≤ c
  · by_cases h1 : c < 14
    · rw [decide_eq_true ⟨h0, h1⟩]
      go_enter Tryz.func96, Tryz.ntmps96
      go_wp2
      go_ret
      exact ⟨rfl, rfl⟩
    · rw [decide_eq_false (show ¬ (0 ≤ c ∧ c < 14) by omega)]
      go_enter Tryz.func96, Tryz.ntmps96
      go_wp2
      go_ret
      exact ⟨rfl, rfl⟩
  · rw [decide_eq_false (show ¬ (0 ≤ c ∧ c < 14) by omega)]
    go_enter Tryz.func96, Tryz.ntmps96
    go_wp2
    go_ret
    exact ⟨rfl, rfl⟩
set_option maxHeartbeats 1000000 in
theorem classPages_any (c : Int) (w : World) (h : Tab w) : Calls Tryz.prog 70 #[.int .i64 c] w fun e w' => e = .returned (.int .i64 (clP c)) ∧ w = w' := by
  by_cases hc : 0 ≤ c ∧ c < 14
  · obtain ⟨k, rfl⟩ := Int.eq_ofNat_of_zero_le hc.1
    have hk : k < 14 := by omega
    obtain ⟨c0, c1⟩ := h.2 k hk
    have hs : decide (0 ≤ (k : Int) ∧ (k : Int) < 14) = true := by simpa using hc
    have e : clP k = tabP k := by unfold clP; rw [if_pos hc]; rfl
    rw [e]
    obtain ⟨x, hx⟩ : ∃ x, x = tabP k := ⟨_, rfl⟩
    rw [← hx] at c1 ⊢
    clear e hx hc h
    go_enter Tryz.func70, Tryz.ntmps70
    go_wp2_with (go_at_call 96; refine (small_any _ _).mono ?_; rintro e w1 ⟨rfl, rfl⟩; rw [hs])
    go_ret
    exact ⟨rfl, rfl⟩
  · have hs : decide (0 ≤ c ∧ c < 14) = false := by simpa using hc
    have e : clP c = 0 := by unfold clP; rw [if_neg hc]
    rw [e]
    clear hc e h
    go_enter Tryz.func70, Tryz.ntmps70
    go_wp2_with (go_at_call 96; refine (small_any _ _).mono ?_; rintro e w1 ⟨rfl, rfl⟩; rw [hs])
    go_ret
    exact ⟨rfl, rfl⟩
set_option maxHeartbeats 1000000 in
theorem classSlots_any (c : Int) (w : World) (h : Tab w) : Calls Tryz.prog 72 #[.int .i64 c] w fun e w' => e = .returned (.int .i64 (clS c)) ∧ ∃ n, w' = w.drewN n := by
  by_cases hl : c = 14
  · subst hl
    go_enter Tryz.func72, Tryz.ntmps72
    go_wp2
    go_ret
    exact ⟨rfl, 0, rfl⟩
  by_cases hc : 0 ≤ c ∧ c < 14
  · obtain ⟨k, rfl⟩ := Int.eq_ofNat_of_zero_le hc.1
    have hk : k < 14 := by omega
    obtain ⟨c0, c1⟩ := h.2 k hk
    have hs : decide (0 ≤ (k : Int) ∧ (k : Int) < 14) = true := by simpa using hc
    have e : clS k = tabS k := by unfold clS; rw [if_neg hl, if_pos hc]; rfl
    obtain ⟨b1, b2, b3, b4, b5, -, -⟩ := tab_bd k hk
    rw [e]
    obtain ⟨x, hx⟩ : ∃ x, x = tabP k := ⟨_, rfl⟩
    obtain ⟨y, hy⟩ : ∃ y, y = tabB k := ⟨_, rfl⟩
    obtain ⟨z, hz⟩ : ∃ z, z = tabS k := ⟨_, rfl⟩
    rw [← hx] at c1 b1 b2 b5
    rw [← hy] at c0 b3 b4 b5
    rw [← hz] at b5 ⊢
    have w1 : IntKind.i64.wrap (x * 8192) = x * 8192 := by rw [IntKind.wrap_i64]; omega
    have y0 : (y == 0) = false := by simp; omega
    have y1 : ¬ y = 0 := by omega
    have zb : IntKind.i64.wrap z = z := by rw [IntKind.wrap_i64]; have := tab_bd k hk; rw [← hz] at this; omega
    clear e hx hy hz hc h
    go_enter Tryz.func72, Tryz.ntmps72
    go_wp2_with (go_at_call 96; refine (small_any _ _).mono ?_; rintro e w1 ⟨rfl, rfl⟩; rw [hs])
    go_quiet ((fail))
    go_wp2
    go_ret
    exact ⟨by simp [*], _, rfl⟩
  · have hs : decide (0 ≤ c ∧ c < 14) = false := by simpa using hc
    have e : clS c = 0 := by unfold clS; rw [if_neg hl, if_neg hc]
    rw [e]
    clear hc e h
    go_enter Tryz.func72, Tryz.ntmps72
    go_wp2_with (go_at_call 96; refine (small_any _ _).mono ?_; rintro e w1 ⟨rfl, rfl⟩; rw [hs])
    go_ret
    exact ⟨rfl, 0, rfl⟩
def rowS (k : Nat) : Int := [64, 42, 32, 21, 16, 10, 8, 16, 4, 8, 2, 4, 2, 2, 1].getD k 0
abbrev rowLit : Array Value := #[.int .i64 128, .int .i64 1, .int .i64 64, .int .i64 192, .int .i64 1, .int .i64 42, .int .i64 256, .int .i64 1, .int .i64 32, .int .i64 384, .int .i64 1, .int .i64 21, .int .i64 512, .int .i64 1, .int .i64 16, .int .i64 768, .int .i64 1, .int .i64 10, .int .i64 1024, .int .i64 1, .int .i64 8, .int .i64 1536, .int .i64 3, .int .i64 16, .int .i64 2048, .int .i64 1, .int .i64 4, .int .i64 3072, .int .i64 3, .int .i64 8, .int .i64 4096, .int .i64 1, .int .i64 2, .int .i64 6144, .int .i64 3, .int .i64 4, .int .i64 8192, .int .i64 2, .int .i64 2, .int .i64 12288, .int .i64 3, .int .i64 2, .int .i64 0, .int .i64 0, .int .i64 1]
theorem rowLit_at (k : Nat) (hk : k < 15) : rowLit[k * 3]? = some (.int .i64 (tabB k)) ∧ rowLit[k * 3 + 1]? = some (.int .i64 (tabP k)) ∧ rowLit[k * 3 + 2]? = some (.int .i64 (rowS k)) := by
  match k, hk with
  | 0, _ | 1, _ | 2, _ | 3, _ | 4, _ | 5, _ | 6, _ | 7, _ | 8, _ | 9, _ | 10, _ | 11, _ | 12, _ | 13, _ | 14, _ => exact ⟨rfl, rfl, rfl⟩
set_option maxRecDepth 100000 in
set_option maxHeartbeats 4000000 in
theorem r1Row_any (k : Nat) (w : World) (hk : k < 15) : Calls Tryz.prog 76 #[.int .i64 k] w fun e w' => e = .returned (.agg #[.int .i64 (tabB k), .int .i64 (tabP k), .int .i64 (rowS k)]) ∧ Adds w w' := by
  obtain ⟨q0, q1, q2⟩ := rowLit_at k hk
  obtain ⟨x, hx⟩ : ∃ x, x = tabB k := ⟨_, rfl⟩
  obtain ⟨y, hy⟩ : ∃ y, y = tabP k := ⟨_, rfl⟩
  obtain ⟨z, hz⟩ : ∃ z, z = rowS k := ⟨_, rfl⟩
  rw [← hx] at q0; rw [← hy] at q1; rw [← hz] at q2
  rw [← hx, ← hy, ← hz]
  have hB := Blk.new (w.alloc (.cells #[.int .i64 0, .int .i64 0, .int .i64 0] 124)) rowLit 124
  have c0 := (hB.cell (k * 3)).trans q0
  have c1 := (hB.cell (k * 3 + 1)).trans q1
  have c2 := (hB.cell (k * 3 + 2)).trans q2
  simp only [World.size_alloc] at c0 c1 c2
  clear hB q0 q1 q2 hx hy hz
  go_enter Tryz.func76, Tryz.ntmps76
  go_wp2
  have hb := (Blk.new w #[.int .i64 x, .int .i64 y, .int .i64 z] 124).alloc (.cells rowLit 124)
  have q0 := hb.cell 0; have q1 := hb.cell 1; have q2 := hb.cell 2
  exact bodyPost_ret (v := .agg #[.int .i64 x, .int .i64 y, .int .i64 z]) (by simp [q0, q1, q2, results, Tryz.results76, go_sem]) rfl ⟨rfl, ((Only.refl _ _).alloc _).alloc _⟩
theorem rowP_eq (k : Nat) (hk : k < 15) : tabP k = clP k := by
  unfold clP
  split
  · rfl
  · obtain rfl : k = 14 := by omega
    rfl
theorem rowS_eq (k : Nat) (hk : k < 15) : rowS k = clS k := by
  match k, hk with
  | 0, _ | 1, _ | 2, _ | 3, _ | 4, _ | 5, _ | 6, _ | 7, _ | 8, _ | 9, _ | 10, _ | 11, _ | 12, _ | 13, _ | 14, _ => decide
set_option maxRecDepth 100000 in
set_option maxHeartbeats 1000000 in
theorem r1Pages_any (c : Int) (w : World) (h0 : 0 ≤ c) (h1 : c < 15) : Calls Tryz.prog 40 #[.int .i64 c] w fun e w' => e = .returned (.int .i64 (clP c)) ∧ Adds w w' := by
  have hix : ∀ (a b c : Int) W, Sem.run Tryz.prog (Instr.index 124 (.agg #[.int .i64 a, .int .i64 b, .int .i64 c]) (.int .i64 1)) W = .ok (.int .i64 b) W := fun _ _ _ _ => by kernel_rfl
  obtain ⟨k, rfl⟩ := Int.eq_ofNat_of_zero_le h0
  have hk : k < 15 := by omega
  have he := rowP_eq k hk
  rw [← he]
  obtain ⟨y, hy⟩ : ∃ y, y = tabP k := ⟨_, rfl⟩
  have HY := Lib.hid hy
  rw [← hy]
  clear hy he h0 h1
  go_enter Tryz.func40, Tryz.ntmps40
  go_wp2_with (go_at_call 76; refine (r1Row_any k _ hk).mono ?_; rintro e w1 ⟨rfl, ho⟩; rw [← HY.out])
  go_ret
  exact ⟨rfl, ho⟩
set_option maxRecDepth 100000 in
set_option maxHeartbeats 1000000 in
theorem r1Slots_any (c : Int) (w : World) (h0 : 0 ≤ c) (h1 : c < 15) : Calls Tryz.prog 42 #[.int .i64 c] w fun e w' => e = .returned (.int .i64 (clS c)) ∧ Adds w w' := by
  have hix : ∀ (a b c : Int) W, Sem.run Tryz.prog (Instr.index 124 (.agg #[.int .i64 a, .int .i64 b, .int .i64 c]) (.int .i64 2)) W = .ok (.int .i64 c) W := fun _ _ _ _ => by kernel_rfl
  obtain ⟨k, rfl⟩ := Int.eq_ofNat_of_zero_le h0
  have hk : k < 15 := by omega
  have he := rowS_eq k hk
  rw [← he]
  obtain ⟨y, hy⟩ : ∃ y, y = rowS k := ⟨_, rfl⟩
  have HY := Lib.hid hy
  rw [← hy]
  clear hy he h0 h1
  go_enter Tryz.func42, Tryz.ntmps42
  go_wp2_with (go_at_call 76; refine (r1Row_any k _ hk).mono ?_; rintro e w1 ⟨rfl, ho⟩; rw [← HY.out])
  go_ret
  exact ⟨rfl, ho⟩
/-- So many of the lowest bits. -/
def onesV (n : Int) : Int := 2 ^ n.toNat - 1
theorem onesV_bd {n : Int} (h : n ≤ 64) : 0 ≤ onesV n ∧ onesV n < 18446744073709551616 := by
  have h1 := two_pow_le (n := n.toNat) (by omega)
  have h2 := two_pow_pos' n.toNat
  unfold onesV; omega
set_option maxHeartbeats 400000 in
theorem hold_any (n : Int) (w : World) (h0 : 0 ≤ n) (h1 : n ≤ 64) : Calls Tryz.prog 77 #[.int .i64 n, .int .i64 64] w fun e w' => e = .returned (.int .i64 n) ∧ w = w' := by
  go_enter Tryz.func77, Tryz.ntmps77
  go_wp2
  all_goals (
    go_ret
    exact ⟨by first | rfl | (simp; omega), rfl⟩)
theorem ones_step (k : Nat) (hk : k < 64) : bits .or .u64 (2 ^ k - 1) (2 ^ k) = 2 ^ (k + 1) - 1 := by
  have h1 := two_pow_le (n := k + 1) (by omega)
  have h2 := two_pow_pos' k
  have h3 : (2 : Int) ^ (k + 1) = 2 ^ k * 2 := Int.pow_succ 2 k
  have hc : bits .or .u64 (2 ^ k - 1) (2 ^ k) = bits .or .u64 ((2 : Int) ^ k) (2 ^ k - 1) := by
    unfold bits; simp only [BitVec.or_comm]
  rw [hc, bits_or_add _ _ k (by omega) (by simp) (by omega) (by omega) (by omega) (by omega)]
  omega
set_option maxHeartbeats 2000000 in
theorem r1Ones_any (n : Nat) (w : World) (hn : n ≤ 64) : Calls Tryz.prog 41 #[.int .i64 n] w fun e w' => e = .returned (.int .u64 (2 ^ n - 1)) ∧ w = w' := by
  go_enter Tryz.func41, Tryz.ntmps41
  go_wp2
  go_loopw [3, 4] (fun x i wr => ∃ k : Nat, k ≤ n ∧ x = .int .u64 (2 ^ k - 1) ∧ i = .int .i64 k ∧ wr = w) (fun _ i _ => n - (intOf i).toNat)
  case atStart => exact ⟨0, Nat.zero_le _, rfl, rfl, rfl⟩
  case round =>
    obtain ⟨k, hk, rfl, rfl, rfl⟩ := hrel
    obtain ⟨x, hx⟩ : ∃ x : Int, x = 2 ^ k - 1 := ⟨_, rfl⟩
    have HX := Lib.hid hx
    rw [← hx]
    clear hx
    by_cases hk2 : k < n
    · go_wp2_with (go_at_call 77; refine (hold_any n _ (by omega) (by omega)).mono ?_; rintro e w1 ⟨rfl, rfl⟩)
      go_roundw
      case rel => exact ⟨k + 1, by omega, by
        have h1 := two_pow_le (n := k + 1) (by omega)
        have h2 := two_pow_pos' k
        have h3 : (2 : Int) ^ (k + 1) = 2 ^ k * 2 := Int.pow_succ 2 k
        rw [HX.out, show IntKind.u64.wrap (2 ^ k) = 2 ^ k by rw [IntKind.wrap_u64]; omega, ones_step k (by omega)], by go_num, trivial⟩
      case measure => simp [intOf]; omega
    · obtain rfl : k = n := by omega
      go_wp2_with (go_at_call 77; refine (hold_any k _ (by omega) (by omega)).mono ?_; rintro e w1 ⟨rfl, rfl⟩)
      go_ret
      exact ⟨by rw [← HX.out]; rfl, rfl⟩
end Go.Proofs.YtbepbcjklgfmjaaGreatDoor

/- Step and Done of each kind of machine. By an AI agent. -/
import Derived.Test.YtbcfeaimopijfaaGreatAct2
namespace Go.Proofs.YtbcfeaimopijfaaGreat
open Go.RowKit
set_option maxHeartbeats 400000 in
theorem sweepSweepStep_nil (a : Option Addr) (w : World) : Calls Tryz.prog 156 #[.pointer none, .pointer a] w fun e w' => e = .returned (.agg #[.int .i64 0, .int .i64 0, .int .u64 0, .int .u64 0]) ∧ Adds w w' := by
  go_enter Tryz.func156, Tryz.ntmps156
  go_wp2
  exact bodyPost_ret (v := .agg #[.int .i64 0, .int .i64 0, .int .u64 0, .int .u64 0]) (by simp [results, Tryz.results156, go_sem]) rfl ⟨rfl, (Only.refl _ _).alloc _⟩
set_option maxHeartbeats 1000000 in
theorem sweepSweepStep_some {mb : Nat} {a : Option Addr} {w : World} {k i o n : Int} {Q : World → Prop} (hst : Stays Q) {S : Nat → Prop} (hS : ∀ j, S j → j < w.heap.size)
    (hK : ∀ w1, Adds w w1 → Calls Tryz.prog 36 #[.pointer (some ⟨mb, 0, none⟩), .pointer a] w1 fun e w2 => e = .returned (.agg #[.int .i64 k, .int .i64 i, .int .u64 o, .int .u64 n]) ∧ Q w2 ∧ Only S w1 w2) :
    Calls Tryz.prog 156 #[.pointer (some ⟨mb, 0, none⟩), .pointer a] w fun e w' => e = .returned (.agg #[.int .i64 k, .int .i64 i, .int .u64 o, .int .u64 n]) ∧ Q w' ∧ Only S w w' := by
  have HST := Lib.hid hst; have HS := Lib.hid hS; have HK := Lib.hid hK
  clear hst hS hK
  obtain ⟨wR, hR⟩ : ∃ wR, wR = w.alloc (.cells #[.int .i64 0, .int .i64 0, .int .u64 0, .int .u64 0] 32) := ⟨_, rfl⟩
  have hBR : Hid (Blk wR w.heap.size #[.int .i64 0, .int .i64 0, .int .u64 0, .int .u64 0] 32) := by rw [hR]; exact Lib.hid (Blk.new _ _ _)
  have hAR : Hid (Adds w wR) := by rw [hR]; exact Lib.hid ((Only.refl _ _).alloc _)
  have hk := Lib.hid (HK.out _ hAR.out)
  have HW := Lib.hid hR
  rw [hR] at hk
  clear hR
  go_enter Tryz.func156, Tryz.ntmps156
  go_wp2_with (go_at_call 36; refine hk.out.mono ?_; rintro e w2 ⟨rfl, hQ, ho2⟩; rw [← HW.out] at ho2; have hB := hBR.out.only ho2 (fun e => Nat.lt_irrefl _ (HS.out _ e)); obtain ⟨q0, q1, q2, q3, f0, f1, f2, f3⟩ := hB.four; have HQ := Lib.hid hQ; have HB := Lib.hid hB; have HO2 := Lib.hid ((hAR.out.mono (T := S) (fun _ _ e => e.elim)).trans ho2); clear hQ hB ho2)
  exact bodyPost_ret (v := .agg #[.int .i64 k, .int .i64 i, .int .u64 o, .int .u64 n]) (by simp [q0, q1, q2, q3, results, Tryz.results156, go_sem]) rfl ⟨rfl, HST.out.box HB.out HQ.out _ _ _ _, only_box4 HO2.out (.inr (Nat.le_refl _)) _ _ _ _⟩
set_option maxHeartbeats 400000 in
theorem sweepSweepDone_nil (w : World) : Calls Tryz.prog 155 #[.pointer none] w fun e w' => e = .returned (.bool false) ∧ w = w' := by
  go_enter Tryz.func155, Tryz.ntmps155
  go_wp2
  go_ret
  exact ⟨rfl, rfl⟩
set_option maxHeartbeats 400000 in
theorem sweepSweepDone_yes {mb : Nat} {w : World} (h : w.cell? ⟨mb, 2, none⟩ = some .nilFunc) : Calls Tryz.prog 155 #[.pointer (some ⟨mb, 0, none⟩)] w fun e w' => e = .returned (.bool true) ∧ w = w' := by
  go_enter Tryz.func155, Tryz.ntmps155
  go_wp2_with (go_at_call 37; refine (deskDone_nil h).mono ?_; rintro e w1 ⟨rfl, rfl⟩)
  go_ret
  exact ⟨rfl, rfl⟩
set_option maxHeartbeats 400000 in
theorem sweepSweepDone_no {mb : Nat} {w : World} {fn : Fn} {a b : Array Value} (h : w.cell? ⟨mb, 2, none⟩ = some (.func fn a b)) : Calls Tryz.prog 155 #[.pointer (some ⟨mb, 0, none⟩)] w fun e w' => e = .returned (.bool false) ∧ w = w' := by
  go_enter Tryz.func155, Tryz.ntmps155
  go_wp2_with (go_at_call 37; refine (deskDone_live h).mono ?_; rintro e w1 ⟨rfl, rfl⟩)
  go_ret
  exact ⟨rfl, rfl⟩
set_option maxHeartbeats 400000 in
theorem stackPopStep_nil (a : Option Addr) (w : World) : Calls Tryz.prog 152 #[.pointer none, .pointer a] w fun e w' => e = .returned (.agg #[.int .i64 0, .int .i64 0, .int .u64 0, .int .u64 0]) ∧ Adds w w' := by
  go_enter Tryz.func152, Tryz.ntmps152
  go_wp2
  exact bodyPost_ret (v := .agg #[.int .i64 0, .int .i64 0, .int .u64 0, .int .u64 0]) (by simp [results, Tryz.results152, go_sem]) rfl ⟨rfl, (Only.refl _ _).alloc _⟩
set_option maxHeartbeats 1000000 in
theorem stackPopStep_some {mb : Nat} {a : Option Addr} {w : World} {k i o n : Int} {Q : World → Prop} (hst : Stays Q) {S : Nat → Prop} (hS : ∀ j, S j → j < w.heap.size)
    (hK : ∀ w1, Adds w w1 → Calls Tryz.prog 36 #[.pointer (some ⟨mb, 0, none⟩), .pointer a] w1 fun e w2 => e = .returned (.agg #[.int .i64 k, .int .i64 i, .int .u64 o, .int .u64 n]) ∧ Q w2 ∧ Only S w1 w2) :
    Calls Tryz.prog 152 #[.pointer (some ⟨mb, 0, none⟩), .pointer a] w fun e w' => e = .returned (.agg #[.int .i64 k, .int .i64 i, .int .u64 o, .int .u64 n]) ∧ Q w' ∧ Only S w w' := by
  have HST := Lib.hid hst; have HS := Lib.hid hS; have HK := Lib.hid hK
  clear hst hS hK
  obtain ⟨wR, hR⟩ : ∃ wR, wR = w.alloc (.cells #[.int .i64 0, .int .i64 0, .int .u64 0, .int .u64 0] 32) := ⟨_, rfl⟩
  have hBR : Hid (Blk wR w.heap.size #[.int .i64 0, .int .i64 0, .int .u64 0, .int .u64 0] 32) := by rw [hR]; exact Lib.hid (Blk.new _ _ _)
  have hAR : Hid (Adds w wR) := by rw [hR]; exact Lib.hid ((Only.refl _ _).alloc _)
  have hk := Lib.hid (HK.out _ hAR.out)
  have HW := Lib.hid hR
  rw [hR] at hk
  clear hR
  go_enter Tryz.func152, Tryz.ntmps152
  go_wp2_with (go_at_call 36; refine hk.out.mono ?_; rintro e w2 ⟨rfl, hQ, ho2⟩; rw [← HW.out] at ho2; have hB := hBR.out.only ho2 (fun e => Nat.lt_irrefl _ (HS.out _ e)); obtain ⟨q0, q1, q2, q3, f0, f1, f2, f3⟩ := hB.four; have HQ := Lib.hid hQ; have HB := Lib.hid hB; have HO2 := Lib.hid ((hAR.out.mono (T := S) (fun _ _ e => e.elim)).trans ho2); clear hQ hB ho2)
  exact bodyPost_ret (v := .agg #[.int .i64 k, .int .i64 i, .int .u64 o, .int .u64 n]) (by simp [q0, q1, q2, q3, results, Tryz.results152, go_sem]) rfl ⟨rfl, HST.out.box HB.out HQ.out _ _ _ _, only_box4 HO2.out (.inr (Nat.le_refl _)) _ _ _ _⟩
set_option maxHeartbeats 400000 in
theorem stackPopDone_nil (w : World) : Calls Tryz.prog 151 #[.pointer none] w fun e w' => e = .returned (.bool false) ∧ w = w' := by
  go_enter Tryz.func151, Tryz.ntmps151
  go_wp2
  go_ret
  exact ⟨rfl, rfl⟩
set_option maxHeartbeats 400000 in
theorem stackPopDone_yes {mb : Nat} {w : World} (h : w.cell? ⟨mb, 2, none⟩ = some .nilFunc) : Calls Tryz.prog 151 #[.pointer (some ⟨mb, 0, none⟩)] w fun e w' => e = .returned (.bool true) ∧ w = w' := by
  go_enter Tryz.func151, Tryz.ntmps151
  go_wp2_with (go_at_call 37; refine (deskDone_nil h).mono ?_; rintro e w1 ⟨rfl, rfl⟩)
  go_ret
  exact ⟨rfl, rfl⟩
set_option maxHeartbeats 400000 in
theorem stackPopDone_no {mb : Nat} {w : World} {fn : Fn} {a b : Array Value} (h : w.cell? ⟨mb, 2, none⟩ = some (.func fn a b)) : Calls Tryz.prog 151 #[.pointer (some ⟨mb, 0, none⟩)] w fun e w' => e = .returned (.bool false) ∧ w = w' := by
  go_enter Tryz.func151, Tryz.ntmps151
  go_wp2_with (go_at_call 37; refine (deskDone_live h).mono ?_; rintro e w1 ⟨rfl, rfl⟩)
  go_ret
  exact ⟨rfl, rfl⟩
set_option maxHeartbeats 400000 in
theorem claimClaimStep_nil (a : Option Addr) (w : World) : Calls Tryz.prog 10 #[.pointer none, .pointer a] w fun e w' => e = .returned (.agg #[.int .i64 0, .int .i64 0, .int .u64 0, .int .u64 0]) ∧ Adds w w' := by
  go_enter Tryz.func10, Tryz.ntmps10
  go_wp2
  exact bodyPost_ret (v := .agg #[.int .i64 0, .int .i64 0, .int .u64 0, .int .u64 0]) (by simp [results, Tryz.results10, go_sem]) rfl ⟨rfl, (Only.refl _ _).alloc _⟩
set_option maxHeartbeats 1000000 in
theorem claimClaimStep_some {mb : Nat} {a : Option Addr} {w : World} {k i o n : Int} {Q : World → Prop} (hst : Stays Q) {S : Nat → Prop} (hS : ∀ j, S j → j < w.heap.size)
    (hK : ∀ w1, Adds w w1 → Calls Tryz.prog 36 #[.pointer (some ⟨mb, 0, none⟩), .pointer a] w1 fun e w2 => e = .returned (.agg #[.int .i64 k, .int .i64 i, .int .u64 o, .int .u64 n]) ∧ Q w2 ∧ Only S w1 w2) :
    Calls Tryz.prog 10 #[.pointer (some ⟨mb, 0, none⟩), .pointer a] w fun e w' => e = .returned (.agg #[.int .i64 k, .int .i64 i, .int .u64 o, .int .u64 n]) ∧ Q w' ∧ Only S w w' := by
  have HST := Lib.hid hst; have HS := Lib.hid hS; have HK := Lib.hid hK
  clear hst hS hK
  obtain ⟨wR, hR⟩ : ∃ wR, wR = w.alloc (.cells #[.int .i64 0, .int .i64 0, .int .u64 0, .int .u64 0] 32) := ⟨_, rfl⟩
  have hBR : Hid (Blk wR w.heap.size #[.int .i64 0, .int .i64 0, .int .u64 0, .int .u64 0] 32) := by rw [hR]; exact Lib.hid (Blk.new _ _ _)
  have hAR : Hid (Adds w wR) := by rw [hR]; exact Lib.hid ((Only.refl _ _).alloc _)
  have hk := Lib.hid (HK.out _ hAR.out)
  have HW := Lib.hid hR
  rw [hR] at hk
  clear hR
  go_enter Tryz.func10, Tryz.ntmps10
  go_wp2_with (go_at_call 36; refine hk.out.mono ?_; rintro e w2 ⟨rfl, hQ, ho2⟩; rw [← HW.out] at ho2; have hB := hBR.out.only ho2 (fun e => Nat.lt_irrefl _ (HS.out _ e)); obtain ⟨q0, q1, q2, q3, f0, f1, f2, f3⟩ := hB.four; have HQ := Lib.hid hQ; have HB := Lib.hid hB; have HO2 := Lib.hid ((hAR.out.mono (T := S) (fun _ _ e => e.elim)).trans ho2); clear hQ hB ho2)
  exact bodyPost_ret (v := .agg #[.int .i64 k, .int .i64 i, .int .u64 o, .int .u64 n]) (by simp [q0, q1, q2, q3, results, Tryz.results10, go_sem]) rfl ⟨rfl, HST.out.box HB.out HQ.out _ _ _ _, only_box4 HO2.out (.inr (Nat.le_refl _)) _ _ _ _⟩
set_option maxHeartbeats 400000 in
theorem claimClaimDone_nil (w : World) : Calls Tryz.prog 11 #[.pointer none] w fun e w' => e = .returned (.bool false) ∧ w = w' := by
  go_enter Tryz.func11, Tryz.ntmps11
  go_wp2
  go_ret
  exact ⟨rfl, rfl⟩
set_option maxHeartbeats 400000 in
theorem claimClaimDone_yes {mb : Nat} {w : World} (h : w.cell? ⟨mb, 2, none⟩ = some .nilFunc) : Calls Tryz.prog 11 #[.pointer (some ⟨mb, 0, none⟩)] w fun e w' => e = .returned (.bool true) ∧ w = w' := by
  go_enter Tryz.func11, Tryz.ntmps11
  go_wp2_with (go_at_call 37; refine (deskDone_nil h).mono ?_; rintro e w1 ⟨rfl, rfl⟩)
  go_ret
  exact ⟨rfl, rfl⟩
set_option maxHeartbeats 400000 in
theorem claimClaimDone_no {mb : Nat} {w : World} {fn : Fn} {a b : Array Value} (h : w.cell? ⟨mb, 2, none⟩ = some (.func fn a b)) : Calls Tryz.prog 11 #[.pointer (some ⟨mb, 0, none⟩)] w fun e w' => e = .returned (.bool false) ∧ w = w' := by
  go_enter Tryz.func11, Tryz.ntmps11
  go_wp2_with (go_at_call 37; refine (deskDone_live h).mono ?_; rintro e w1 ⟨rfl, rfl⟩)
  go_ret
  exact ⟨rfl, rfl⟩
end Go.Proofs.YtbcfeaimopijfaaGreat

/- Step and Done of each kind of machine. By an AI agent. -/
import Derived.Test.YtipeijkpiglbfaaAct2
namespace Go.Proofs.Ytipeijkpiglbfaa
open Go.RowKit
set_option maxHeartbeats 400000 in
theorem lockTakeStep_nil (a : Option Addr) (w : World) : Calls Try.prog 15 #[.pointer none, .pointer a] w fun e w' => e = .returned (.agg #[.int .i64 0, .int .i64 0, .int .u64 0, .int .u64 0]) ∧ Adds w w' := by
  go_enter Try.func15, Try.ntmps15
  go_wp2
  exact bodyPost_ret (v := .agg #[.int .i64 0, .int .i64 0, .int .u64 0, .int .u64 0]) (by simp [results, Try.results15, go_sem]) rfl ⟨rfl, (Only.refl _ _).alloc _⟩
set_option maxHeartbeats 1000000 in
theorem lockTakeStep_some {mb : Nat} {a : Option Addr} {w : World} {k i o n : Int} {Q : World → Prop} (hst : Stays Q) {S : Nat → Prop} (hS : ∀ j, S j → j < w.heap.size)
    (hK : ∀ w1, Adds w w1 → Calls Try.prog 53 #[.pointer (some ⟨mb, 0, none⟩), .pointer a] w1 fun e w2 => e = .returned (.agg #[.int .i64 k, .int .i64 i, .int .u64 o, .int .u64 n]) ∧ Q w2 ∧ Only S w1 w2) :
    Calls Try.prog 15 #[.pointer (some ⟨mb, 0, none⟩), .pointer a] w fun e w' => e = .returned (.agg #[.int .i64 k, .int .i64 i, .int .u64 o, .int .u64 n]) ∧ Q w' ∧ Only S w w' := by
  have HST := Lib.hid hst; have HS := Lib.hid hS; have HK := Lib.hid hK
  clear hst hS hK
  obtain ⟨wR, hR⟩ : ∃ wR, wR = w.alloc (.cells #[.int .i64 0, .int .i64 0, .int .u64 0, .int .u64 0] 35) := ⟨_, rfl⟩
  have hBR : Hid (Blk wR w.heap.size #[.int .i64 0, .int .i64 0, .int .u64 0, .int .u64 0] 35) := by rw [hR]; exact Lib.hid (Blk.new _ _ _)
  have hAR : Hid (Adds w wR) := by rw [hR]; exact Lib.hid ((Only.refl _ _).alloc _)
  have hk := Lib.hid (HK.out _ hAR.out)
  have HW := Lib.hid hR
  rw [hR] at hk
  clear hR
  go_enter Try.func15, Try.ntmps15
  go_wp2_with (go_at_call 53; refine hk.out.mono ?_; rintro e w2 ⟨rfl, hQ, ho2⟩; rw [← HW.out] at ho2; have hB := hBR.out.only ho2 (fun e => Nat.lt_irrefl _ (HS.out _ e)); obtain ⟨q0, q1, q2, q3, f0, f1, f2, f3⟩ := hB.four; have HQ := Lib.hid hQ; have HB := Lib.hid hB; have HO2 := Lib.hid ((hAR.out.mono (T := S) (fun _ _ e => e.elim)).trans ho2); clear hQ hB ho2)
  exact bodyPost_ret (v := .agg #[.int .i64 k, .int .i64 i, .int .u64 o, .int .u64 n]) (by simp [q0, q1, q2, q3, results, Try.results15, go_sem]) rfl ⟨rfl, HST.out.box HB.out HQ.out _ _ _ _, only_box4 HO2.out (.inr (Nat.le_refl _)) _ _ _ _⟩
set_option maxHeartbeats 400000 in
theorem lockTakeDone_nil (w : World) : Calls Try.prog 16 #[.pointer none] w fun e w' => e = .returned (.bool false) ∧ w = w' := by
  go_enter Try.func16, Try.ntmps16
  go_wp2
  go_ret
  exact ⟨rfl, rfl⟩
set_option maxHeartbeats 400000 in
theorem lockTakeDone_yes {mb : Nat} {w : World} (h : w.cell? ⟨mb, 2, none⟩ = some .nilFunc) : Calls Try.prog 16 #[.pointer (some ⟨mb, 0, none⟩)] w fun e w' => e = .returned (.bool true) ∧ w = w' := by
  go_enter Try.func16, Try.ntmps16
  go_wp2_with (go_at_call 54; refine (deskDone_nil h).mono ?_; rintro e w1 ⟨rfl, rfl⟩)
  go_ret
  exact ⟨rfl, rfl⟩
set_option maxHeartbeats 400000 in
theorem lockTakeDone_no {mb : Nat} {w : World} {fn : Fn} {a b : Array Value} (h : w.cell? ⟨mb, 2, none⟩ = some (.func fn a b)) : Calls Try.prog 16 #[.pointer (some ⟨mb, 0, none⟩)] w fun e w' => e = .returned (.bool false) ∧ w = w' := by
  go_enter Try.func16, Try.ntmps16
  go_wp2_with (go_at_call 54; refine (deskDone_live h).mono ?_; rintro e w1 ⟨rfl, rfl⟩)
  go_ret
  exact ⟨rfl, rfl⟩
set_option maxHeartbeats 400000 in
theorem lockLeaveStep_nil (a : Option Addr) (w : World) : Calls Try.prog 11 #[.pointer none, .pointer a] w fun e w' => e = .returned (.agg #[.int .i64 0, .int .i64 0, .int .u64 0, .int .u64 0]) ∧ Adds w w' := by
  go_enter Try.func11, Try.ntmps11
  go_wp2
  exact bodyPost_ret (v := .agg #[.int .i64 0, .int .i64 0, .int .u64 0, .int .u64 0]) (by simp [results, Try.results11, go_sem]) rfl ⟨rfl, (Only.refl _ _).alloc _⟩
set_option maxHeartbeats 1000000 in
theorem lockLeaveStep_some {mb : Nat} {a : Option Addr} {w : World} {k i o n : Int} {Q : World → Prop} (hst : Stays Q) {S : Nat → Prop} (hS : ∀ j, S j → j < w.heap.size)
    (hK : ∀ w1, Adds w w1 → Calls Try.prog 53 #[.pointer (some ⟨mb, 0, none⟩), .pointer a] w1 fun e w2 => e = .returned (.agg #[.int .i64 k, .int .i64 i, .int .u64 o, .int .u64 n]) ∧ Q w2 ∧ Only S w1 w2) :
    Calls Try.prog 11 #[.pointer (some ⟨mb, 0, none⟩), .pointer a] w fun e w' => e = .returned (.agg #[.int .i64 k, .int .i64 i, .int .u64 o, .int .u64 n]) ∧ Q w' ∧ Only S w w' := by
  have HST := Lib.hid hst; have HS := Lib.hid hS; have HK := Lib.hid hK
  clear hst hS hK
  obtain ⟨wR, hR⟩ : ∃ wR, wR = w.alloc (.cells #[.int .i64 0, .int .i64 0, .int .u64 0, .int .u64 0] 35) := ⟨_, rfl⟩
  have hBR : Hid (Blk wR w.heap.size #[.int .i64 0, .int .i64 0, .int .u64 0, .int .u64 0] 35) := by rw [hR]; exact Lib.hid (Blk.new _ _ _)
  have hAR : Hid (Adds w wR) := by rw [hR]; exact Lib.hid ((Only.refl _ _).alloc _)
  have hk := Lib.hid (HK.out _ hAR.out)
  have HW := Lib.hid hR
  rw [hR] at hk
  clear hR
  go_enter Try.func11, Try.ntmps11
  go_wp2_with (go_at_call 53; refine hk.out.mono ?_; rintro e w2 ⟨rfl, hQ, ho2⟩; rw [← HW.out] at ho2; have hB := hBR.out.only ho2 (fun e => Nat.lt_irrefl _ (HS.out _ e)); obtain ⟨q0, q1, q2, q3, f0, f1, f2, f3⟩ := hB.four; have HQ := Lib.hid hQ; have HB := Lib.hid hB; have HO2 := Lib.hid ((hAR.out.mono (T := S) (fun _ _ e => e.elim)).trans ho2); clear hQ hB ho2)
  exact bodyPost_ret (v := .agg #[.int .i64 k, .int .i64 i, .int .u64 o, .int .u64 n]) (by simp [q0, q1, q2, q3, results, Try.results11, go_sem]) rfl ⟨rfl, HST.out.box HB.out HQ.out _ _ _ _, only_box4 HO2.out (.inr (Nat.le_refl _)) _ _ _ _⟩
set_option maxHeartbeats 400000 in
theorem lockLeaveDone_nil (w : World) : Calls Try.prog 12 #[.pointer none] w fun e w' => e = .returned (.bool false) ∧ w = w' := by
  go_enter Try.func12, Try.ntmps12
  go_wp2
  go_ret
  exact ⟨rfl, rfl⟩
set_option maxHeartbeats 400000 in
theorem lockLeaveDone_yes {mb : Nat} {w : World} (h : w.cell? ⟨mb, 2, none⟩ = some .nilFunc) : Calls Try.prog 12 #[.pointer (some ⟨mb, 0, none⟩)] w fun e w' => e = .returned (.bool true) ∧ w = w' := by
  go_enter Try.func12, Try.ntmps12
  go_wp2_with (go_at_call 54; refine (deskDone_nil h).mono ?_; rintro e w1 ⟨rfl, rfl⟩)
  go_ret
  exact ⟨rfl, rfl⟩
set_option maxHeartbeats 400000 in
theorem lockLeaveDone_no {mb : Nat} {w : World} {fn : Fn} {a b : Array Value} (h : w.cell? ⟨mb, 2, none⟩ = some (.func fn a b)) : Calls Try.prog 12 #[.pointer (some ⟨mb, 0, none⟩)] w fun e w' => e = .returned (.bool false) ∧ w = w' := by
  go_enter Try.func12, Try.ntmps12
  go_wp2_with (go_at_call 54; refine (deskDone_live h).mono ?_; rintro e w1 ⟨rfl, rfl⟩)
  go_ret
  exact ⟨rfl, rfl⟩
set_option maxHeartbeats 400000 in
theorem sweepSweepStep_nil (a : Option Addr) (w : World) : Calls Try.prog 25 #[.pointer none, .pointer a] w fun e w' => e = .returned (.agg #[.int .i64 0, .int .i64 0, .int .u64 0, .int .u64 0]) ∧ Adds w w' := by
  go_enter Try.func25, Try.ntmps25
  go_wp2
  exact bodyPost_ret (v := .agg #[.int .i64 0, .int .i64 0, .int .u64 0, .int .u64 0]) (by simp [results, Try.results25, go_sem]) rfl ⟨rfl, (Only.refl _ _).alloc _⟩
set_option maxHeartbeats 1000000 in
theorem sweepSweepStep_some {mb : Nat} {a : Option Addr} {w : World} {k i o n : Int} {Q : World → Prop} (hst : Stays Q) {S : Nat → Prop} (hS : ∀ j, S j → j < w.heap.size)
    (hK : ∀ w1, Adds w w1 → Calls Try.prog 53 #[.pointer (some ⟨mb, 0, none⟩), .pointer a] w1 fun e w2 => e = .returned (.agg #[.int .i64 k, .int .i64 i, .int .u64 o, .int .u64 n]) ∧ Q w2 ∧ Only S w1 w2) :
    Calls Try.prog 25 #[.pointer (some ⟨mb, 0, none⟩), .pointer a] w fun e w' => e = .returned (.agg #[.int .i64 k, .int .i64 i, .int .u64 o, .int .u64 n]) ∧ Q w' ∧ Only S w w' := by
  have HST := Lib.hid hst; have HS := Lib.hid hS; have HK := Lib.hid hK
  clear hst hS hK
  obtain ⟨wR, hR⟩ : ∃ wR, wR = w.alloc (.cells #[.int .i64 0, .int .i64 0, .int .u64 0, .int .u64 0] 35) := ⟨_, rfl⟩
  have hBR : Hid (Blk wR w.heap.size #[.int .i64 0, .int .i64 0, .int .u64 0, .int .u64 0] 35) := by rw [hR]; exact Lib.hid (Blk.new _ _ _)
  have hAR : Hid (Adds w wR) := by rw [hR]; exact Lib.hid ((Only.refl _ _).alloc _)
  have hk := Lib.hid (HK.out _ hAR.out)
  have HW := Lib.hid hR
  rw [hR] at hk
  clear hR
  go_enter Try.func25, Try.ntmps25
  go_wp2_with (go_at_call 53; refine hk.out.mono ?_; rintro e w2 ⟨rfl, hQ, ho2⟩; rw [← HW.out] at ho2; have hB := hBR.out.only ho2 (fun e => Nat.lt_irrefl _ (HS.out _ e)); obtain ⟨q0, q1, q2, q3, f0, f1, f2, f3⟩ := hB.four; have HQ := Lib.hid hQ; have HB := Lib.hid hB; have HO2 := Lib.hid ((hAR.out.mono (T := S) (fun _ _ e => e.elim)).trans ho2); clear hQ hB ho2)
  exact bodyPost_ret (v := .agg #[.int .i64 k, .int .i64 i, .int .u64 o, .int .u64 n]) (by simp [q0, q1, q2, q3, results, Try.results25, go_sem]) rfl ⟨rfl, HST.out.box HB.out HQ.out _ _ _ _, only_box4 HO2.out (.inr (Nat.le_refl _)) _ _ _ _⟩
set_option maxHeartbeats 400000 in
theorem sweepSweepDone_nil (w : World) : Calls Try.prog 26 #[.pointer none] w fun e w' => e = .returned (.bool false) ∧ w = w' := by
  go_enter Try.func26, Try.ntmps26
  go_wp2
  go_ret
  exact ⟨rfl, rfl⟩
set_option maxHeartbeats 400000 in
theorem sweepSweepDone_yes {mb : Nat} {w : World} (h : w.cell? ⟨mb, 2, none⟩ = some .nilFunc) : Calls Try.prog 26 #[.pointer (some ⟨mb, 0, none⟩)] w fun e w' => e = .returned (.bool true) ∧ w = w' := by
  go_enter Try.func26, Try.ntmps26
  go_wp2_with (go_at_call 54; refine (deskDone_nil h).mono ?_; rintro e w1 ⟨rfl, rfl⟩)
  go_ret
  exact ⟨rfl, rfl⟩
set_option maxHeartbeats 400000 in
theorem sweepSweepDone_no {mb : Nat} {w : World} {fn : Fn} {a b : Array Value} (h : w.cell? ⟨mb, 2, none⟩ = some (.func fn a b)) : Calls Try.prog 26 #[.pointer (some ⟨mb, 0, none⟩)] w fun e w' => e = .returned (.bool false) ∧ w = w' := by
  go_enter Try.func26, Try.ntmps26
  go_wp2_with (go_at_call 54; refine (deskDone_live h).mono ?_; rintro e w1 ⟨rfl, rfl⟩)
  go_ret
  exact ⟨rfl, rfl⟩
set_option maxHeartbeats 400000 in
theorem worldEnterStep_nil (a : Option Addr) (w : World) : Calls Try.prog 37 #[.pointer none, .pointer a] w fun e w' => e = .returned (.agg #[.int .i64 0, .int .i64 0, .int .u64 0, .int .u64 0]) ∧ Adds w w' := by
  go_enter Try.func37, Try.ntmps37
  go_wp2
  exact bodyPost_ret (v := .agg #[.int .i64 0, .int .i64 0, .int .u64 0, .int .u64 0]) (by simp [results, Try.results37, go_sem]) rfl ⟨rfl, (Only.refl _ _).alloc _⟩
set_option maxHeartbeats 1000000 in
theorem worldEnterStep_some {mb : Nat} {a : Option Addr} {w : World} {k i o n : Int} {Q : World → Prop} (hst : Stays Q) {S : Nat → Prop} (hS : ∀ j, S j → j < w.heap.size)
    (hK : ∀ w1, Adds w w1 → Calls Try.prog 53 #[.pointer (some ⟨mb, 0, none⟩), .pointer a] w1 fun e w2 => e = .returned (.agg #[.int .i64 k, .int .i64 i, .int .u64 o, .int .u64 n]) ∧ Q w2 ∧ Only S w1 w2) :
    Calls Try.prog 37 #[.pointer (some ⟨mb, 0, none⟩), .pointer a] w fun e w' => e = .returned (.agg #[.int .i64 k, .int .i64 i, .int .u64 o, .int .u64 n]) ∧ Q w' ∧ Only S w w' := by
  have HST := Lib.hid hst; have HS := Lib.hid hS; have HK := Lib.hid hK
  clear hst hS hK
  obtain ⟨wR, hR⟩ : ∃ wR, wR = w.alloc (.cells #[.int .i64 0, .int .i64 0, .int .u64 0, .int .u64 0] 35) := ⟨_, rfl⟩
  have hBR : Hid (Blk wR w.heap.size #[.int .i64 0, .int .i64 0, .int .u64 0, .int .u64 0] 35) := by rw [hR]; exact Lib.hid (Blk.new _ _ _)
  have hAR : Hid (Adds w wR) := by rw [hR]; exact Lib.hid ((Only.refl _ _).alloc _)
  have hk := Lib.hid (HK.out _ hAR.out)
  have HW := Lib.hid hR
  rw [hR] at hk
  clear hR
  go_enter Try.func37, Try.ntmps37
  go_wp2_with (go_at_call 53; refine hk.out.mono ?_; rintro e w2 ⟨rfl, hQ, ho2⟩; rw [← HW.out] at ho2; have hB := hBR.out.only ho2 (fun e => Nat.lt_irrefl _ (HS.out _ e)); obtain ⟨q0, q1, q2, q3, f0, f1, f2, f3⟩ := hB.four; have HQ := Lib.hid hQ; have HB := Lib.hid hB; have HO2 := Lib.hid ((hAR.out.mono (T := S) (fun _ _ e => e.elim)).trans ho2); clear hQ hB ho2)
  exact bodyPost_ret (v := .agg #[.int .i64 k, .int .i64 i, .int .u64 o, .int .u64 n]) (by simp [q0, q1, q2, q3, results, Try.results37, go_sem]) rfl ⟨rfl, HST.out.box HB.out HQ.out _ _ _ _, only_box4 HO2.out (.inr (Nat.le_refl _)) _ _ _ _⟩
set_option maxHeartbeats 400000 in
theorem worldEnterDone_nil (w : World) : Calls Try.prog 41 #[.pointer none] w fun e w' => e = .returned (.bool false) ∧ w = w' := by
  go_enter Try.func41, Try.ntmps41
  go_wp2
  go_ret
  exact ⟨rfl, rfl⟩
set_option maxHeartbeats 400000 in
theorem worldEnterDone_yes {mb : Nat} {w : World} (h : w.cell? ⟨mb, 2, none⟩ = some .nilFunc) : Calls Try.prog 41 #[.pointer (some ⟨mb, 0, none⟩)] w fun e w' => e = .returned (.bool true) ∧ w = w' := by
  go_enter Try.func41, Try.ntmps41
  go_wp2_with (go_at_call 54; refine (deskDone_nil h).mono ?_; rintro e w1 ⟨rfl, rfl⟩)
  go_ret
  exact ⟨rfl, rfl⟩
set_option maxHeartbeats 400000 in
theorem worldEnterDone_no {mb : Nat} {w : World} {fn : Fn} {a b : Array Value} (h : w.cell? ⟨mb, 2, none⟩ = some (.func fn a b)) : Calls Try.prog 41 #[.pointer (some ⟨mb, 0, none⟩)] w fun e w' => e = .returned (.bool false) ∧ w = w' := by
  go_enter Try.func41, Try.ntmps41
  go_wp2_with (go_at_call 54; refine (deskDone_live h).mono ?_; rintro e w1 ⟨rfl, rfl⟩)
  go_ret
  exact ⟨rfl, rfl⟩
set_option maxHeartbeats 400000 in
theorem worldExitStep_nil (a : Option Addr) (w : World) : Calls Try.prog 38 #[.pointer none, .pointer a] w fun e w' => e = .returned (.agg #[.int .i64 0, .int .i64 0, .int .u64 0, .int .u64 0]) ∧ Adds w w' := by
  go_enter Try.func38, Try.ntmps38
  go_wp2
  exact bodyPost_ret (v := .agg #[.int .i64 0, .int .i64 0, .int .u64 0, .int .u64 0]) (by simp [results, Try.results38, go_sem]) rfl ⟨rfl, (Only.refl _ _).alloc _⟩
set_option maxHeartbeats 1000000 in
theorem worldExitStep_some {mb : Nat} {a : Option Addr} {w : World} {k i o n : Int} {Q : World → Prop} (hst : Stays Q) {S : Nat → Prop} (hS : ∀ j, S j → j < w.heap.size)
    (hK : ∀ w1, Adds w w1 → Calls Try.prog 53 #[.pointer (some ⟨mb, 0, none⟩), .pointer a] w1 fun e w2 => e = .returned (.agg #[.int .i64 k, .int .i64 i, .int .u64 o, .int .u64 n]) ∧ Q w2 ∧ Only S w1 w2) :
    Calls Try.prog 38 #[.pointer (some ⟨mb, 0, none⟩), .pointer a] w fun e w' => e = .returned (.agg #[.int .i64 k, .int .i64 i, .int .u64 o, .int .u64 n]) ∧ Q w' ∧ Only S w w' := by
  have HST := Lib.hid hst; have HS := Lib.hid hS; have HK := Lib.hid hK
  clear hst hS hK
  obtain ⟨wR, hR⟩ : ∃ wR, wR = w.alloc (.cells #[.int .i64 0, .int .i64 0, .int .u64 0, .int .u64 0] 35) := ⟨_, rfl⟩
  have hBR : Hid (Blk wR w.heap.size #[.int .i64 0, .int .i64 0, .int .u64 0, .int .u64 0] 35) := by rw [hR]; exact Lib.hid (Blk.new _ _ _)
  have hAR : Hid (Adds w wR) := by rw [hR]; exact Lib.hid ((Only.refl _ _).alloc _)
  have hk := Lib.hid (HK.out _ hAR.out)
  have HW := Lib.hid hR
  rw [hR] at hk
  clear hR
  go_enter Try.func38, Try.ntmps38
  go_wp2_with (go_at_call 53; refine hk.out.mono ?_; rintro e w2 ⟨rfl, hQ, ho2⟩; rw [← HW.out] at ho2; have hB := hBR.out.only ho2 (fun e => Nat.lt_irrefl _ (HS.out _ e)); obtain ⟨q0, q1, q2, q3, f0, f1, f2, f3⟩ := hB.four; have HQ := Lib.hid hQ; have HB := Lib.hid hB; have HO2 := Lib.hid ((hAR.out.mono (T := S) (fun _ _ e => e.elim)).trans ho2); clear hQ hB ho2)
  exact bodyPost_ret (v := .agg #[.int .i64 k, .int .i64 i, .int .u64 o, .int .u64 n]) (by simp [q0, q1, q2, q3, results, Try.results38, go_sem]) rfl ⟨rfl, HST.out.box HB.out HQ.out _ _ _ _, only_box4 HO2.out (.inr (Nat.le_refl _)) _ _ _ _⟩
set_option maxHeartbeats 400000 in
theorem worldExitDone_nil (w : World) : Calls Try.prog 42 #[.pointer none] w fun e w' => e = .returned (.bool false) ∧ w = w' := by
  go_enter Try.func42, Try.ntmps42
  go_wp2
  go_ret
  exact ⟨rfl, rfl⟩
set_option maxHeartbeats 400000 in
theorem worldExitDone_yes {mb : Nat} {w : World} (h : w.cell? ⟨mb, 2, none⟩ = some .nilFunc) : Calls Try.prog 42 #[.pointer (some ⟨mb, 0, none⟩)] w fun e w' => e = .returned (.bool true) ∧ w = w' := by
  go_enter Try.func42, Try.ntmps42
  go_wp2_with (go_at_call 54; refine (deskDone_nil h).mono ?_; rintro e w1 ⟨rfl, rfl⟩)
  go_ret
  exact ⟨rfl, rfl⟩
set_option maxHeartbeats 400000 in
theorem worldExitDone_no {mb : Nat} {w : World} {fn : Fn} {a b : Array Value} (h : w.cell? ⟨mb, 2, none⟩ = some (.func fn a b)) : Calls Try.prog 42 #[.pointer (some ⟨mb, 0, none⟩)] w fun e w' => e = .returned (.bool false) ∧ w = w' := by
  go_enter Try.func42, Try.ntmps42
  go_wp2_with (go_at_call 54; refine (deskDone_live h).mono ?_; rintro e w1 ⟨rfl, rfl⟩)
  go_ret
  exact ⟨rfl, rfl⟩
set_option maxHeartbeats 400000 in
theorem worldStopStep_nil (a : Option Addr) (w : World) : Calls Try.prog 39 #[.pointer none, .pointer a] w fun e w' => e = .returned (.agg #[.int .i64 0, .int .i64 0, .int .u64 0, .int .u64 0]) ∧ Adds w w' := by
  go_enter Try.func39, Try.ntmps39
  go_wp2
  exact bodyPost_ret (v := .agg #[.int .i64 0, .int .i64 0, .int .u64 0, .int .u64 0]) (by simp [results, Try.results39, go_sem]) rfl ⟨rfl, (Only.refl _ _).alloc _⟩
set_option maxHeartbeats 1000000 in
theorem worldStopStep_some {mb : Nat} {a : Option Addr} {w : World} {k i o n : Int} {Q : World → Prop} (hst : Stays Q) {S : Nat → Prop} (hS : ∀ j, S j → j < w.heap.size)
    (hK : ∀ w1, Adds w w1 → Calls Try.prog 53 #[.pointer (some ⟨mb, 0, none⟩), .pointer a] w1 fun e w2 => e = .returned (.agg #[.int .i64 k, .int .i64 i, .int .u64 o, .int .u64 n]) ∧ Q w2 ∧ Only S w1 w2) :
    Calls Try.prog 39 #[.pointer (some ⟨mb, 0, none⟩), .pointer a] w fun e w' => e = .returned (.agg #[.int .i64 k, .int .i64 i, .int .u64 o, .int .u64 n]) ∧ Q w' ∧ Only S w w' := by
  have HST := Lib.hid hst; have HS := Lib.hid hS; have HK := Lib.hid hK
  clear hst hS hK
  obtain ⟨wR, hR⟩ : ∃ wR, wR = w.alloc (.cells #[.int .i64 0, .int .i64 0, .int .u64 0, .int .u64 0] 35) := ⟨_, rfl⟩
  have hBR : Hid (Blk wR w.heap.size #[.int .i64 0, .int .i64 0, .int .u64 0, .int .u64 0] 35) := by rw [hR]; exact Lib.hid (Blk.new _ _ _)
  have hAR : Hid (Adds w wR) := by rw [hR]; exact Lib.hid ((Only.refl _ _).alloc _)
  have hk := Lib.hid (HK.out _ hAR.out)
  have HW := Lib.hid hR
  rw [hR] at hk
  clear hR
  go_enter Try.func39, Try.ntmps39
  go_wp2_with (go_at_call 53; refine hk.out.mono ?_; rintro e w2 ⟨rfl, hQ, ho2⟩; rw [← HW.out] at ho2; have hB := hBR.out.only ho2 (fun e => Nat.lt_irrefl _ (HS.out _ e)); obtain ⟨q0, q1, q2, q3, f0, f1, f2, f3⟩ := hB.four; have HQ := Lib.hid hQ; have HB := Lib.hid hB; have HO2 := Lib.hid ((hAR.out.mono (T := S) (fun _ _ e => e.elim)).trans ho2); clear hQ hB ho2)
  exact bodyPost_ret (v := .agg #[.int .i64 k, .int .i64 i, .int .u64 o, .int .u64 n]) (by simp [q0, q1, q2, q3, results, Try.results39, go_sem]) rfl ⟨rfl, HST.out.box HB.out HQ.out _ _ _ _, only_box4 HO2.out (.inr (Nat.le_refl _)) _ _ _ _⟩
set_option maxHeartbeats 400000 in
theorem worldStopDone_nil (w : World) : Calls Try.prog 43 #[.pointer none] w fun e w' => e = .returned (.bool false) ∧ w = w' := by
  go_enter Try.func43, Try.ntmps43
  go_wp2
  go_ret
  exact ⟨rfl, rfl⟩
set_option maxHeartbeats 400000 in
theorem worldStopDone_yes {mb : Nat} {w : World} (h : w.cell? ⟨mb, 2, none⟩ = some .nilFunc) : Calls Try.prog 43 #[.pointer (some ⟨mb, 0, none⟩)] w fun e w' => e = .returned (.bool true) ∧ w = w' := by
  go_enter Try.func43, Try.ntmps43
  go_wp2_with (go_at_call 54; refine (deskDone_nil h).mono ?_; rintro e w1 ⟨rfl, rfl⟩)
  go_ret
  exact ⟨rfl, rfl⟩
set_option maxHeartbeats 400000 in
theorem worldStopDone_no {mb : Nat} {w : World} {fn : Fn} {a b : Array Value} (h : w.cell? ⟨mb, 2, none⟩ = some (.func fn a b)) : Calls Try.prog 43 #[.pointer (some ⟨mb, 0, none⟩)] w fun e w' => e = .returned (.bool false) ∧ w = w' := by
  go_enter Try.func43, Try.ntmps43
  go_wp2_with (go_at_call 54; refine (deskDone_live h).mono ?_; rintro e w1 ⟨rfl, rfl⟩)
  go_ret
  exact ⟨rfl, rfl⟩
set_option maxHeartbeats 400000 in
theorem worldGoStep_nil (a : Option Addr) (w : World) : Calls Try.prog 40 #[.pointer none, .pointer a] w fun e w' => e = .returned (.agg #[.int .i64 0, .int .i64 0, .int .u64 0, .int .u64 0]) ∧ Adds w w' := by
  go_enter Try.func40, Try.ntmps40
  go_wp2
  exact bodyPost_ret (v := .agg #[.int .i64 0, .int .i64 0, .int .u64 0, .int .u64 0]) (by simp [results, Try.results40, go_sem]) rfl ⟨rfl, (Only.refl _ _).alloc _⟩
set_option maxHeartbeats 1000000 in
theorem worldGoStep_some {mb : Nat} {a : Option Addr} {w : World} {k i o n : Int} {Q : World → Prop} (hst : Stays Q) {S : Nat → Prop} (hS : ∀ j, S j → j < w.heap.size)
    (hK : ∀ w1, Adds w w1 → Calls Try.prog 53 #[.pointer (some ⟨mb, 0, none⟩), .pointer a] w1 fun e w2 => e = .returned (.agg #[.int .i64 k, .int .i64 i, .int .u64 o, .int .u64 n]) ∧ Q w2 ∧ Only S w1 w2) :
    Calls Try.prog 40 #[.pointer (some ⟨mb, 0, none⟩), .pointer a] w fun e w' => e = .returned (.agg #[.int .i64 k, .int .i64 i, .int .u64 o, .int .u64 n]) ∧ Q w' ∧ Only S w w' := by
  have HST := Lib.hid hst; have HS := Lib.hid hS; have HK := Lib.hid hK
  clear hst hS hK
  obtain ⟨wR, hR⟩ : ∃ wR, wR = w.alloc (.cells #[.int .i64 0, .int .i64 0, .int .u64 0, .int .u64 0] 35) := ⟨_, rfl⟩
  have hBR : Hid (Blk wR w.heap.size #[.int .i64 0, .int .i64 0, .int .u64 0, .int .u64 0] 35) := by rw [hR]; exact Lib.hid (Blk.new _ _ _)
  have hAR : Hid (Adds w wR) := by rw [hR]; exact Lib.hid ((Only.refl _ _).alloc _)
  have hk := Lib.hid (HK.out _ hAR.out)
  have HW := Lib.hid hR
  rw [hR] at hk
  clear hR
  go_enter Try.func40, Try.ntmps40
  go_wp2_with (go_at_call 53; refine hk.out.mono ?_; rintro e w2 ⟨rfl, hQ, ho2⟩; rw [← HW.out] at ho2; have hB := hBR.out.only ho2 (fun e => Nat.lt_irrefl _ (HS.out _ e)); obtain ⟨q0, q1, q2, q3, f0, f1, f2, f3⟩ := hB.four; have HQ := Lib.hid hQ; have HB := Lib.hid hB; have HO2 := Lib.hid ((hAR.out.mono (T := S) (fun _ _ e => e.elim)).trans ho2); clear hQ hB ho2)
  exact bodyPost_ret (v := .agg #[.int .i64 k, .int .i64 i, .int .u64 o, .int .u64 n]) (by simp [q0, q1, q2, q3, results, Try.results40, go_sem]) rfl ⟨rfl, HST.out.box HB.out HQ.out _ _ _ _, only_box4 HO2.out (.inr (Nat.le_refl _)) _ _ _ _⟩
set_option maxHeartbeats 400000 in
theorem worldGoDone_nil (w : World) : Calls Try.prog 44 #[.pointer none] w fun e w' => e = .returned (.bool false) ∧ w = w' := by
  go_enter Try.func44, Try.ntmps44
  go_wp2
  go_ret
  exact ⟨rfl, rfl⟩
set_option maxHeartbeats 400000 in
theorem worldGoDone_yes {mb : Nat} {w : World} (h : w.cell? ⟨mb, 2, none⟩ = some .nilFunc) : Calls Try.prog 44 #[.pointer (some ⟨mb, 0, none⟩)] w fun e w' => e = .returned (.bool true) ∧ w = w' := by
  go_enter Try.func44, Try.ntmps44
  go_wp2_with (go_at_call 54; refine (deskDone_nil h).mono ?_; rintro e w1 ⟨rfl, rfl⟩)
  go_ret
  exact ⟨rfl, rfl⟩
set_option maxHeartbeats 400000 in
theorem worldGoDone_no {mb : Nat} {w : World} {fn : Fn} {a b : Array Value} (h : w.cell? ⟨mb, 2, none⟩ = some (.func fn a b)) : Calls Try.prog 44 #[.pointer (some ⟨mb, 0, none⟩)] w fun e w' => e = .returned (.bool false) ∧ w = w' := by
  go_enter Try.func44, Try.ntmps44
  go_wp2_with (go_at_call 54; refine (deskDone_live h).mono ?_; rintro e w1 ⟨rfl, rfl⟩)
  go_ret
  exact ⟨rfl, rfl⟩
end Go.Proofs.Ytipeijkpiglbfaa

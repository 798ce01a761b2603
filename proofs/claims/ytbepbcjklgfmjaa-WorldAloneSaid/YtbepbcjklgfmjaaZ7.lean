/- Step and Done of each kind of machine. By an AI agent. -/
import Derived.Test.YtbepbcjklgfmjaaZ2
namespace Go.Proofs.Ytbepbcjklgfmjaa
open Go.RowKit
set_option linter.unusedSimpArgs false
set_option linter.unusedVariables false
set_option maxHeartbeats 400000 in
theorem worldEnterStep_nil (a : Option Addr) (w : World) : Calls Try.prog 19 #[.pointer none, .pointer a] w fun e w' => e = .returned (.agg #[.int .i64 0, .int .i64 0, .int .u64 0, .int .u64 0]) ∧ Adds w w' := by
  go_enter Try.func19, Try.ntmps19
  go_wp2
  exact bodyPost_ret (v := .agg #[.int .i64 0, .int .i64 0, .int .u64 0, .int .u64 0]) (by simp [results, Try.results19, go_sem]) rfl ⟨rfl, (Only.refl _ _).alloc _⟩
set_option maxHeartbeats 1000000 in
theorem worldEnterStep_some {mb : Nat} {a : Option Addr} {w : World} {k i o n : Int} {Q : World → Prop} (hst : Stays Q) {S : Nat → Prop} (hS : ∀ j, S j → j < w.heap.size)
    (hK : ∀ w1, Adds w w1 → Calls Try.prog 49 #[.pointer (some ⟨mb, 0, none⟩), .pointer a] w1 fun e w2 => e = .returned (.agg #[.int .i64 k, .int .i64 i, .int .u64 o, .int .u64 n]) ∧ Q w2 ∧ Only S w1 w2) :
    Calls Try.prog 19 #[.pointer (some ⟨mb, 0, none⟩), .pointer a] w fun e w' => e = .returned (.agg #[.int .i64 k, .int .i64 i, .int .u64 o, .int .u64 n]) ∧ Q w' ∧ Only S w w' := by
  have HST := Lib.hid hst; have HS := Lib.hid hS; have HK := Lib.hid hK
  clear hst hS hK
  obtain ⟨wR, hR⟩ : ∃ wR, wR = w.alloc (.cells #[.int .i64 0, .int .i64 0, .int .u64 0, .int .u64 0] 37) := ⟨_, rfl⟩
  have hBR : Hid (Blk wR w.heap.size #[.int .i64 0, .int .i64 0, .int .u64 0, .int .u64 0] 37) := by rw [hR]; exact Lib.hid (Blk.new _ _ _)
  have hAR : Hid (Adds w wR) := by rw [hR]; exact Lib.hid ((Only.refl _ _).alloc _)
  have hk := Lib.hid (HK.out _ hAR.out)
  have HW := Lib.hid hR
  rw [hR] at hk
  clear hR
  go_enter Try.func19, Try.ntmps19
  go_wp2_with (go_at_call 49; refine hk.out.mono ?_; rintro e w2 ⟨rfl, hQ, ho2⟩; rw [← HW.out] at ho2; have hB := hBR.out.only ho2 (fun e => Nat.lt_irrefl _ (HS.out _ e)); obtain ⟨q0, q1, q2, q3, f0, f1, f2, f3⟩ := hB.four; have HQ := Lib.hid hQ; have HB := Lib.hid hB; have HO2 := Lib.hid ((hAR.out.mono (T := S) (fun _ _ e => e.elim)).trans ho2); clear hQ hB ho2)
  exact bodyPost_ret (v := .agg #[.int .i64 k, .int .i64 i, .int .u64 o, .int .u64 n]) (by simp [q0, q1, q2, q3, results, Try.results19, go_sem]) rfl ⟨rfl, HST.out.box HB.out HQ.out _ _ _ _, only_box4 HO2.out (.inr (Nat.le_refl _)) _ _ _ _⟩
set_option maxHeartbeats 400000 in
theorem worldEnterDone_nil (w : World) : Calls Try.prog 20 #[.pointer none] w fun e w' => e = .returned (.bool false) ∧ w = w' := by
  go_enter Try.func20, Try.ntmps20
  go_wp2
  go_ret
  exact ⟨rfl, rfl⟩
set_option maxHeartbeats 400000 in
theorem worldEnterDone_yes {mb : Nat} {w : World} (h : w.cell? ⟨mb, 2, none⟩ = some .nilFunc) : Calls Try.prog 20 #[.pointer (some ⟨mb, 0, none⟩)] w fun e w' => e = .returned (.bool true) ∧ w = w' := by
  go_enter Try.func20, Try.ntmps20
  go_wp2_with (go_at_call 50; refine (deskDone_nil h).mono ?_; rintro e w1 ⟨rfl, rfl⟩)
  go_ret
  exact ⟨rfl, rfl⟩
set_option maxHeartbeats 400000 in
theorem worldEnterDone_no {mb : Nat} {w : World} {fn : Fn} {a b : Array Value} (h : w.cell? ⟨mb, 2, none⟩ = some (.func fn a b)) : Calls Try.prog 20 #[.pointer (some ⟨mb, 0, none⟩)] w fun e w' => e = .returned (.bool false) ∧ w = w' := by
  go_enter Try.func20, Try.ntmps20
  go_wp2_with (go_at_call 50; refine (deskDone_live h).mono ?_; rintro e w1 ⟨rfl, rfl⟩)
  go_ret
  exact ⟨rfl, rfl⟩
set_option maxHeartbeats 400000 in
theorem worldExitStep_nil (a : Option Addr) (w : World) : Calls Try.prog 22 #[.pointer none, .pointer a] w fun e w' => e = .returned (.agg #[.int .i64 0, .int .i64 0, .int .u64 0, .int .u64 0]) ∧ Adds w w' := by
  go_enter Try.func22, Try.ntmps22
  go_wp2
  exact bodyPost_ret (v := .agg #[.int .i64 0, .int .i64 0, .int .u64 0, .int .u64 0]) (by simp [results, Try.results22, go_sem]) rfl ⟨rfl, (Only.refl _ _).alloc _⟩
set_option maxHeartbeats 1000000 in
theorem worldExitStep_some {mb : Nat} {a : Option Addr} {w : World} {k i o n : Int} {Q : World → Prop} (hst : Stays Q) {S : Nat → Prop} (hS : ∀ j, S j → j < w.heap.size)
    (hK : ∀ w1, Adds w w1 → Calls Try.prog 49 #[.pointer (some ⟨mb, 0, none⟩), .pointer a] w1 fun e w2 => e = .returned (.agg #[.int .i64 k, .int .i64 i, .int .u64 o, .int .u64 n]) ∧ Q w2 ∧ Only S w1 w2) :
    Calls Try.prog 22 #[.pointer (some ⟨mb, 0, none⟩), .pointer a] w fun e w' => e = .returned (.agg #[.int .i64 k, .int .i64 i, .int .u64 o, .int .u64 n]) ∧ Q w' ∧ Only S w w' := by
  have HST := Lib.hid hst; have HS := Lib.hid hS; have HK := Lib.hid hK
  clear hst hS hK
  obtain ⟨wR, hR⟩ : ∃ wR, wR = w.alloc (.cells #[.int .i64 0, .int .i64 0, .int .u64 0, .int .u64 0] 37) := ⟨_, rfl⟩
  have hBR : Hid (Blk wR w.heap.size #[.int .i64 0, .int .i64 0, .int .u64 0, .int .u64 0] 37) := by rw [hR]; exact Lib.hid (Blk.new _ _ _)
  have hAR : Hid (Adds w wR) := by rw [hR]; exact Lib.hid ((Only.refl _ _).alloc _)
  have hk := Lib.hid (HK.out _ hAR.out)
  have HW := Lib.hid hR
  rw [hR] at hk
  clear hR
  go_enter Try.func22, Try.ntmps22
  go_wp2_with (go_at_call 49; refine hk.out.mono ?_; rintro e w2 ⟨rfl, hQ, ho2⟩; rw [← HW.out] at ho2; have hB := hBR.out.only ho2 (fun e => Nat.lt_irrefl _ (HS.out _ e)); obtain ⟨q0, q1, q2, q3, f0, f1, f2, f3⟩ := hB.four; have HQ := Lib.hid hQ; have HB := Lib.hid hB; have HO2 := Lib.hid ((hAR.out.mono (T := S) (fun _ _ e => e.elim)).trans ho2); clear hQ hB ho2)
  exact bodyPost_ret (v := .agg #[.int .i64 k, .int .i64 i, .int .u64 o, .int .u64 n]) (by simp [q0, q1, q2, q3, results, Try.results22, go_sem]) rfl ⟨rfl, HST.out.box HB.out HQ.out _ _ _ _, only_box4 HO2.out (.inr (Nat.le_refl _)) _ _ _ _⟩
set_option maxHeartbeats 400000 in
theorem worldExitDone_nil (w : World) : Calls Try.prog 23 #[.pointer none] w fun e w' => e = .returned (.bool false) ∧ w = w' := by
  go_enter Try.func23, Try.ntmps23
  go_wp2
  go_ret
  exact ⟨rfl, rfl⟩
set_option maxHeartbeats 400000 in
theorem worldExitDone_yes {mb : Nat} {w : World} (h : w.cell? ⟨mb, 2, none⟩ = some .nilFunc) : Calls Try.prog 23 #[.pointer (some ⟨mb, 0, none⟩)] w fun e w' => e = .returned (.bool true) ∧ w = w' := by
  go_enter Try.func23, Try.ntmps23
  go_wp2_with (go_at_call 50; refine (deskDone_nil h).mono ?_; rintro e w1 ⟨rfl, rfl⟩)
  go_ret
  exact ⟨rfl, rfl⟩
set_option maxHeartbeats 400000 in
theorem worldExitDone_no {mb : Nat} {w : World} {fn : Fn} {a b : Array Value} (h : w.cell? ⟨mb, 2, none⟩ = some (.func fn a b)) : Calls Try.prog 23 #[.pointer (some ⟨mb, 0, none⟩)] w fun e w' => e = .returned (.bool false) ∧ w = w' := by
  go_enter Try.func23, Try.ntmps23
  go_wp2_with (go_at_call 50; refine (deskDone_live h).mono ?_; rintro e w1 ⟨rfl, rfl⟩)
  go_ret
  exact ⟨rfl, rfl⟩
set_option maxHeartbeats 400000 in
theorem worldStopStep_nil (a : Option Addr) (w : World) : Calls Try.prog 24 #[.pointer none, .pointer a] w fun e w' => e = .returned (.agg #[.int .i64 0, .int .i64 0, .int .u64 0, .int .u64 0]) ∧ Adds w w' := by
  go_enter Try.func24, Try.ntmps24
  go_wp2
  exact bodyPost_ret (v := .agg #[.int .i64 0, .int .i64 0, .int .u64 0, .int .u64 0]) (by simp [results, Try.results24, go_sem]) rfl ⟨rfl, (Only.refl _ _).alloc _⟩
set_option maxHeartbeats 1000000 in
theorem worldStopStep_some {mb : Nat} {a : Option Addr} {w : World} {k i o n : Int} {Q : World → Prop} (hst : Stays Q) {S : Nat → Prop} (hS : ∀ j, S j → j < w.heap.size)
    (hK : ∀ w1, Adds w w1 → Calls Try.prog 49 #[.pointer (some ⟨mb, 0, none⟩), .pointer a] w1 fun e w2 => e = .returned (.agg #[.int .i64 k, .int .i64 i, .int .u64 o, .int .u64 n]) ∧ Q w2 ∧ Only S w1 w2) :
    Calls Try.prog 24 #[.pointer (some ⟨mb, 0, none⟩), .pointer a] w fun e w' => e = .returned (.agg #[.int .i64 k, .int .i64 i, .int .u64 o, .int .u64 n]) ∧ Q w' ∧ Only S w w' := by
  have HST := Lib.hid hst; have HS := Lib.hid hS; have HK := Lib.hid hK
  clear hst hS hK
  obtain ⟨wR, hR⟩ : ∃ wR, wR = w.alloc (.cells #[.int .i64 0, .int .i64 0, .int .u64 0, .int .u64 0] 37) := ⟨_, rfl⟩
  have hBR : Hid (Blk wR w.heap.size #[.int .i64 0, .int .i64 0, .int .u64 0, .int .u64 0] 37) := by rw [hR]; exact Lib.hid (Blk.new _ _ _)
  have hAR : Hid (Adds w wR) := by rw [hR]; exact Lib.hid ((Only.refl _ _).alloc _)
  have hk := Lib.hid (HK.out _ hAR.out)
  have HW := Lib.hid hR
  rw [hR] at hk
  clear hR
  go_enter Try.func24, Try.ntmps24
  go_wp2_with (go_at_call 49; refine hk.out.mono ?_; rintro e w2 ⟨rfl, hQ, ho2⟩; rw [← HW.out] at ho2; have hB := hBR.out.only ho2 (fun e => Nat.lt_irrefl _ (HS.out _ e)); obtain ⟨q0, q1, q2, q3, f0, f1, f2, f3⟩ := hB.four; have HQ := Lib.hid hQ; have HB := Lib.hid hB; have HO2 := Lib.hid ((hAR.out.mono (T := S) (fun _ _ e => e.elim)).trans ho2); clear hQ hB ho2)
  exact bodyPost_ret (v := .agg #[.int .i64 k, .int .i64 i, .int .u64 o, .int .u64 n]) (by simp [q0, q1, q2, q3, results, Try.results24, go_sem]) rfl ⟨rfl, HST.out.box HB.out HQ.out _ _ _ _, only_box4 HO2.out (.inr (Nat.le_refl _)) _ _ _ _⟩
set_option maxHeartbeats 400000 in
theorem worldStopDone_nil (w : World) : Calls Try.prog 25 #[.pointer none] w fun e w' => e = .returned (.bool false) ∧ w = w' := by
  go_enter Try.func25, Try.ntmps25
  go_wp2
  go_ret
  exact ⟨rfl, rfl⟩
set_option maxHeartbeats 400000 in
theorem worldStopDone_yes {mb : Nat} {w : World} (h : w.cell? ⟨mb, 2, none⟩ = some .nilFunc) : Calls Try.prog 25 #[.pointer (some ⟨mb, 0, none⟩)] w fun e w' => e = .returned (.bool true) ∧ w = w' := by
  go_enter Try.func25, Try.ntmps25
  go_wp2_with (go_at_call 50; refine (deskDone_nil h).mono ?_; rintro e w1 ⟨rfl, rfl⟩)
  go_ret
  exact ⟨rfl, rfl⟩
set_option maxHeartbeats 400000 in
theorem worldStopDone_no {mb : Nat} {w : World} {fn : Fn} {a b : Array Value} (h : w.cell? ⟨mb, 2, none⟩ = some (.func fn a b)) : Calls Try.prog 25 #[.pointer (some ⟨mb, 0, none⟩)] w fun e w' => e = .returned (.bool false) ∧ w = w' := by
  go_enter Try.func25, Try.ntmps25
  go_wp2_with (go_at_call 50; refine (deskDone_live h).mono ?_; rintro e w1 ⟨rfl, rfl⟩)
  go_ret
  exact ⟨rfl, rfl⟩
set_option maxHeartbeats 400000 in
theorem worldGoStep_nil (a : Option Addr) (w : World) : Calls Try.prog 27 #[.pointer none, .pointer a] w fun e w' => e = .returned (.agg #[.int .i64 0, .int .i64 0, .int .u64 0, .int .u64 0]) ∧ Adds w w' := by
  go_enter Try.func27, Try.ntmps27
  go_wp2
  exact bodyPost_ret (v := .agg #[.int .i64 0, .int .i64 0, .int .u64 0, .int .u64 0]) (by simp [results, Try.results27, go_sem]) rfl ⟨rfl, (Only.refl _ _).alloc _⟩
set_option maxHeartbeats 1000000 in
theorem worldGoStep_some {mb : Nat} {a : Option Addr} {w : World} {k i o n : Int} {Q : World → Prop} (hst : Stays Q) {S : Nat → Prop} (hS : ∀ j, S j → j < w.heap.size)
    (hK : ∀ w1, Adds w w1 → Calls Try.prog 49 #[.pointer (some ⟨mb, 0, none⟩), .pointer a] w1 fun e w2 => e = .returned (.agg #[.int .i64 k, .int .i64 i, .int .u64 o, .int .u64 n]) ∧ Q w2 ∧ Only S w1 w2) :
    Calls Try.prog 27 #[.pointer (some ⟨mb, 0, none⟩), .pointer a] w fun e w' => e = .returned (.agg #[.int .i64 k, .int .i64 i, .int .u64 o, .int .u64 n]) ∧ Q w' ∧ Only S w w' := by
  have HST := Lib.hid hst; have HS := Lib.hid hS; have HK := Lib.hid hK
  clear hst hS hK
  obtain ⟨wR, hR⟩ : ∃ wR, wR = w.alloc (.cells #[.int .i64 0, .int .i64 0, .int .u64 0, .int .u64 0] 37) := ⟨_, rfl⟩
  have hBR : Hid (Blk wR w.heap.size #[.int .i64 0, .int .i64 0, .int .u64 0, .int .u64 0] 37) := by rw [hR]; exact Lib.hid (Blk.new _ _ _)
  have hAR : Hid (Adds w wR) := by rw [hR]; exact Lib.hid ((Only.refl _ _).alloc _)
  have hk := Lib.hid (HK.out _ hAR.out)
  have HW := Lib.hid hR
  rw [hR] at hk
  clear hR
  go_enter Try.func27, Try.ntmps27
  go_wp2_with (go_at_call 49; refine hk.out.mono ?_; rintro e w2 ⟨rfl, hQ, ho2⟩; rw [← HW.out] at ho2; have hB := hBR.out.only ho2 (fun e => Nat.lt_irrefl _ (HS.out _ e)); obtain ⟨q0, q1, q2, q3, f0, f1, f2, f3⟩ := hB.four; have HQ := Lib.hid hQ; have HB := Lib.hid hB; have HO2 := Lib.hid ((hAR.out.mono (T := S) (fun _ _ e => e.elim)).trans ho2); clear hQ hB ho2)
  exact bodyPost_ret (v := .agg #[.int .i64 k, .int .i64 i, .int .u64 o, .int .u64 n]) (by simp [q0, q1, q2, q3, results, Try.results27, go_sem]) rfl ⟨rfl, HST.out.box HB.out HQ.out _ _ _ _, only_box4 HO2.out (.inr (Nat.le_refl _)) _ _ _ _⟩
set_option maxHeartbeats 400000 in
theorem worldGoDone_nil (w : World) : Calls Try.prog 28 #[.pointer none] w fun e w' => e = .returned (.bool false) ∧ w = w' := by
  go_enter Try.func28, Try.ntmps28
  go_wp2
  go_ret
  exact ⟨rfl, rfl⟩
set_option maxHeartbeats 400000 in
theorem worldGoDone_yes {mb : Nat} {w : World} (h : w.cell? ⟨mb, 2, none⟩ = some .nilFunc) : Calls Try.prog 28 #[.pointer (some ⟨mb, 0, none⟩)] w fun e w' => e = .returned (.bool true) ∧ w = w' := by
  go_enter Try.func28, Try.ntmps28
  go_wp2_with (go_at_call 50; refine (deskDone_nil h).mono ?_; rintro e w1 ⟨rfl, rfl⟩)
  go_ret
  exact ⟨rfl, rfl⟩
set_option maxHeartbeats 400000 in
theorem worldGoDone_no {mb : Nat} {w : World} {fn : Fn} {a b : Array Value} (h : w.cell? ⟨mb, 2, none⟩ = some (.func fn a b)) : Calls Try.prog 28 #[.pointer (some ⟨mb, 0, none⟩)] w fun e w' => e = .returned (.bool false) ∧ w = w' := by
  go_enter Try.func28, Try.ntmps28
  go_wp2_with (go_at_call 50; refine (deskDone_live h).mono ?_; rintro e w1 ⟨rfl, rfl⟩)
  go_ret
  exact ⟨rfl, rfl⟩
end Go.Proofs.Ytbepbcjklgfmjaa

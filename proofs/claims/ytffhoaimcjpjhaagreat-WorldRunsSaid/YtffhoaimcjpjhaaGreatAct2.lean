/- Package act: Step of a desk. By an AI agent. -/
import Derived.Test.YtffhoaimcjpjhaaGreatAct
import Derived.Shelf.Abstract
namespace Go.Proofs.YtffhoaimcjpjhaaGreat
open Go.RowKit
section
variable {w : World} {mb : Nat}
set_option maxHeartbeats 400000 in
theorem deskStep_done {a : Option Addr} (h : w.cell? ⟨mb, 2, none⟩ = some .nilFunc) :
    Calls Tryz.prog 73 #[.pointer (some ⟨mb, 0, none⟩), .pointer a] w fun e w' => e = .returned (.agg #[.int .i64 0, .int .i64 0, .int .u64 0, .int .u64 0]) ∧ Adds w w' := by
  have hl := cell_lt h
  have hq : ∀ W, Sem.run Tryz.prog (binOp BinOp.eql 79 Value.nilFunc Value.nilFunc) W = .ok (.bool true) W := fun _ => by kernel_rfl
  go_enter Tryz.func73, Tryz.ntmps73
  go_wp2
  go_quiet ((fail))
  go_wp2
  exact bodyPost_ret (v := .agg #[.int .i64 0, .int .i64 0, .int .u64 0, .int .u64 0]) (by simp [results, Tryz.results73, go_sem]) rfl ⟨rfl, only_box4 (((Only.refl _ _).alloc _).drewN _) (.inr (Nat.le_refl _)) _ _ _ _⟩
set_option maxHeartbeats 400000 in
theorem deskStep_nilA {fn : Fn} {a b : Array Value} (h : w.cell? ⟨mb, 2, none⟩ = some (.func fn a b)) :
    Calls Tryz.prog 73 #[.pointer (some ⟨mb, 0, none⟩), .pointer none] w fun e w' => e = .returned (.agg #[.int .i64 0, .int .i64 0, .int .u64 0, .int .u64 0]) ∧ Adds w w' := by
  have hl := cell_lt h
  have hq : ∀ W, Sem.run Tryz.prog (binOp BinOp.eql 79 (Value.func fn a b) Value.nilFunc) W = .ok (.bool false) W := fun _ => by kernel_rfl
  go_enter Tryz.func73, Tryz.ntmps73
  go_wp2
  go_quiet ((fail))
  go_wp2
  exact bodyPost_ret (v := .agg #[.int .i64 0, .int .i64 0, .int .u64 0, .int .u64 0]) (by simp [results, Tryz.results73, go_sem]) rfl ⟨rfl, only_box4 (((Only.refl _ _).alloc _).drewN _) (.inr (Nat.le_refl _)) _ _ _ _⟩
set_option maxHeartbeats 1000000 in
theorem deskStep_other {fn : Fn} {a b : Array Value} {P T P' T' : Int} {ab sb rb : Nat} (h : w.cell? ⟨mb, 2, none⟩ = some (.func fn a b)) (h0 : w.cell? ⟨mb, 0, none⟩ = some (.int .i64 P)) (h1 : w.cell? ⟨mb, 1, none⟩ = some (.int .i64 T)) (hA : IsArena w ab sb rb P' T') (hne : (P' == P && T' == T) = false) :
    Calls Tryz.prog 73 #[.pointer (some ⟨mb, 0, none⟩), .pointer (some ⟨ab, 0, none⟩)] w fun e w' => e = .returned (.agg #[.int .i64 0, .int .i64 0, .int .u64 0, .int .u64 0]) ∧ Adds w w' := by
  have hl := cell_lt h
  have hq : ∀ W, Sem.run Tryz.prog (binOp BinOp.eql 79 (Value.func fn a b) Value.nilFunc) W = .ok (.bool false) W := fun _ => by kernel_rfl
  have HA := Lib.hid hA
  clear hA
  have hb := fun W => layout_neq W P' T' P T
  rw [hne] at hb
  simp only [Bool.not_false] at hb
  obtain ⟨wR, hR⟩ : ∃ wR, wR = w.alloc (.cells #[.int .i64 0, .int .i64 0, .int .u64 0, .int .u64 0] 45) := ⟨_, rfl⟩
  have hBR : Hid (Blk wR w.heap.size #[.int .i64 0, .int .i64 0, .int .u64 0, .int .u64 0] 45) := by rw [hR]; exact Lib.hid (Blk.new _ _ _)
  have hAR : Hid (Adds w wR) := by rw [hR]; exact Lib.hid ((Only.refl _ _).alloc _)
  have k0 : wR.cell? ⟨mb, 0, none⟩ = some (.int .i64 P) := (hAR.out.cellF (p := ⟨mb, 0, none⟩) hl id).trans h0
  have k1 : wR.cell? ⟨mb, 1, none⟩ = some (.int .i64 T) := (hAR.out.cellF (p := ⟨mb, 1, none⟩) hl id).trans h1
  have k2 : wR.cell? ⟨mb, 2, none⟩ = some (.func fn a b) := (hAR.out.cellF (p := ⟨mb, 2, none⟩) hl id).trans h
  have HW := Lib.hid hR
  go_enter Tryz.func73, Tryz.ntmps73
  go_wp2
  rw [← HW.out]
  clear hR h h0 h1
  go_region_held3 (fun w' => w'.cell? ⟨mb, 0, none⟩ = some (.int .i64 P) ∧ w'.cell? ⟨mb, 1, none⟩ = some (.int .i64 T) ∧ w'.cell? ⟨mb, 2, none⟩ = some (.func fn a b) ∧ Adds wR w')
    (first | (exact ⟨k0, k1, k2, (Only.refl _ _).drew⟩) | (exact heldM3 (by assumption) (by assumption)))
    (first | (go_at_call 75; refine (arenaLayout_any (HA.out.only (hAR.out.thenF (heldM3 (w := wR) (b := mb) (x := .int .i64 P) (y := .int .i64 T) (z := .func fn a b) (by assumption) (Only.refl _ _)).2.2.2) id)).mono ?_; rintro e w' ⟨rfl, ho⟩))
  rename_i hH
  have HH := Lib.hid hH.2.2.2
  clear hH
  have hB := hBR.out.only HH.out id
  obtain ⟨q0, q1, q2, q3, f0, f1, f2, f3⟩ := hB.four
  have HO := Lib.hid (hAR.out.thenF HH.out)
  clear hB
  go_wp2
  exact bodyPost_ret (v := .agg #[.int .i64 0, .int .i64 0, .int .u64 0, .int .u64 0]) (by simp [q0, q1, q2, q3, results, Tryz.results73, go_sem]) rfl ⟨rfl, only_box4 HO.out (.inr (Nat.le_refl _)) _ _ _ _⟩
set_option maxHeartbeats 1000000 in
/-- A step of a desk that is in its arena: its next step is done. -/
theorem deskStep_live {K : Nat} {cap : Array Value} {P T : Int} {ab sb rb : Nat} (h : w.cell? ⟨mb, 2, none⟩ = some (.func (.func K) #[] cap)) (h0 : w.cell? ⟨mb, 0, none⟩ = some (.int .i64 P)) (h1 : w.cell? ⟨mb, 1, none⟩ = some (.int .i64 T)) (hA : IsArena w ab sb rb P T)
    {k i o n : Int} {Q : World → Prop} (hst : Stays Q) {S : Nat → Prop} (hS : ∀ j, S j → j < w.heap.size)
    (eg : ∀ args W, (callFunc K args).run Tryz.prog W = .ok (.enter K args) W) (hK : ∀ w1, Adds w w1 → Calls Tryz.prog K (#[.pointer (some ⟨ab, 0, none⟩)] ++ cap) w1 fun e w2 => e = .returned (.agg #[.int .i64 k, .int .i64 i, .int .u64 o, .int .u64 n]) ∧ Q w2 ∧ Only S w1 w2) :
    Calls Tryz.prog 73 #[.pointer (some ⟨mb, 0, none⟩), .pointer (some ⟨ab, 0, none⟩)] w fun e w' => e = .returned (.agg #[.int .i64 k, .int .i64 i, .int .u64 o, .int .u64 n]) ∧ Q w' ∧ Only S w w' := by
  have hl := cell_lt h
  have hq : ∀ W, Sem.run Tryz.prog (binOp BinOp.eql 79 (Value.func (.func K) #[] cap) Value.nilFunc) W = .ok (.bool false) W := fun _ => by kernel_rfl
  have HA := Lib.hid hA
  have HST := Lib.hid hst; have HS := Lib.hid hS; have HK := Lib.hid hK
  clear hA hst hS hK
  have hb := fun W => layout_neq W P T P T
  simp only [beq_self_eq_true, Bool.and_self, Bool.not_true] at hb
  obtain ⟨wR, hR⟩ : ∃ wR, wR = w.alloc (.cells #[.int .i64 0, .int .i64 0, .int .u64 0, .int .u64 0] 45) := ⟨_, rfl⟩
  have hBR : Hid (Blk wR w.heap.size #[.int .i64 0, .int .i64 0, .int .u64 0, .int .u64 0] 45) := by rw [hR]; exact Lib.hid (Blk.new _ _ _)
  have hAR : Hid (Adds w wR) := by rw [hR]; exact Lib.hid ((Only.refl _ _).alloc _)
  have k0 : wR.cell? ⟨mb, 0, none⟩ = some (.int .i64 P) := (hAR.out.cellF (p := ⟨mb, 0, none⟩) hl id).trans h0
  have k1 : wR.cell? ⟨mb, 1, none⟩ = some (.int .i64 T) := (hAR.out.cellF (p := ⟨mb, 1, none⟩) hl id).trans h1
  have k2 : wR.cell? ⟨mb, 2, none⟩ = some (.func (.func K) #[] cap) := (hAR.out.cellF (p := ⟨mb, 2, none⟩) hl id).trans h
  have HW := Lib.hid hR
  go_enter Tryz.func73, Tryz.ntmps73
  go_wp2
  rw [← HW.out]
  clear hR h h0 h1
  go_region_held3 (fun w' => w'.cell? ⟨mb, 0, none⟩ = some (.int .i64 P) ∧ w'.cell? ⟨mb, 1, none⟩ = some (.int .i64 T) ∧ w'.cell? ⟨mb, 2, none⟩ = some (.func (.func K) #[] cap) ∧ Adds wR w')
    (first | (exact ⟨k0, k1, k2, (Only.refl _ _).drew⟩) | (exact heldM3 (by assumption) (by assumption)))
    (first | (go_at_call 75; refine (arenaLayout_any (HA.out.only (hAR.out.thenF (heldM3 (w := wR) (b := mb) (x := .int .i64 P) (y := .int .i64 T) (z := .func (.func K) #[] cap) (by assumption) (Only.refl _ _)).2.2.2) id)).mono ?_; rintro e w' ⟨rfl, ho⟩))
  rename_i hH
  have HH := Lib.hid hH.2.2.2
  have HO := Lib.hid (hAR.out.thenF HH.out)
  have hk := Lib.hid (HK.out _ HO.out)
  have c2 := hH.2.2.1
  clear hH
  go_wp2_with (go_at_fn K; refine hk.out.mono ?_; rintro e w2 ⟨rfl, hQ, ho2⟩; have hB := (hBR.out.only HH.out id).only ho2 (fun e => Nat.lt_irrefl _ (HS.out _ e)); obtain ⟨q0, q1, q2, q3, f0, f1, f2, f3⟩ := hB.four; have HQ := Lib.hid hQ; have HB := Lib.hid hB; have HO2 := Lib.hid ((HO.out.mono (T := S) (fun _ _ e => e.elim)).trans ho2); clear hQ hB ho2)
  exact bodyPost_ret (v := .agg #[.int .i64 k, .int .i64 i, .int .u64 o, .int .u64 n]) (by simp [q0, q1, q2, q3, results, Tryz.results73, go_sem]) rfl ⟨rfl, HST.out.box HB.out HQ.out _ _ _ _, only_box4 HO2.out (.inr (Nat.le_refl _)) _ _ _ _⟩
end
end Go.Proofs.YtffhoaimcjpjhaaGreat

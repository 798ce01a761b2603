/- Step and Done of each kind of machine. Package stack: a push, step by step. Package stack: NewPop, NewPush; those that may not be there. Package stack: a pop, step by step; a push that has lost. Package stack: a pop that wins; steps of pushes and pops over what lies in a stack. By an AI agent. -/
import Derived.Test.YthhnpcniijpfeaaGreatZ2
import Derived.Test.YthhnpcniijpfeaaGreatZ3
import Derived.Test.YthhnpcniijpfeaaGreatZ4
import Derived.Deep.RegionHeld3
namespace Go.Proofs.YthhnpcniijpfeaaGreat
open Go.RowKit
set_option linter.unusedSimpArgs false
set_option linter.unusedVariables false
set_option maxHeartbeats 400000 in
theorem stackPopStep_nil (a : Option Addr) (w : World) : Calls Tryz.prog 11 #[.pointer none, .pointer a] w fun e w' => e = .returned (.agg #[.int .i64 0, .int .i64 0, .int .u64 0, .int .u64 0]) ∧ Adds w w' := by
  go_enter Tryz.func11, Tryz.ntmps11
  go_wp2
  exact bodyPost_ret (v := .agg #[.int .i64 0, .int .i64 0, .int .u64 0, .int .u64 0]) (by simp [results, Tryz.results11, go_sem]) rfl ⟨rfl, (Only.refl _ _).alloc _⟩
set_option maxHeartbeats 1000000 in
theorem stackPopStep_some {mb : Nat} {a : Option Addr} {w : World} {k i o n : Int} {Q : World → Prop} (hst : Stays Q) {S : Nat → Prop} (hS : ∀ j, S j → j < w.heap.size)
    (hK : ∀ w1, Adds w w1 → Calls Tryz.prog 27 #[.pointer (some ⟨mb, 0, none⟩), .pointer a] w1 fun e w2 => e = .returned (.agg #[.int .i64 k, .int .i64 i, .int .u64 o, .int .u64 n]) ∧ Q w2 ∧ Only S w1 w2) :
    Calls Tryz.prog 11 #[.pointer (some ⟨mb, 0, none⟩), .pointer a] w fun e w' => e = .returned (.agg #[.int .i64 k, .int .i64 i, .int .u64 o, .int .u64 n]) ∧ Q w' ∧ Only S w w' := by
  have HST := Lib.hid hst; have HS := Lib.hid hS; have HK := Lib.hid hK
  clear hst hS hK
  obtain ⟨wR, hR⟩ : ∃ wR, wR = w.alloc (.cells #[.int .i64 0, .int .i64 0, .int .u64 0, .int .u64 0] 50) := ⟨_, rfl⟩
  have hBR : Hid (Blk wR w.heap.size #[.int .i64 0, .int .i64 0, .int .u64 0, .int .u64 0] 50) := by rw [hR]; exact Lib.hid (Blk.new _ _ _)
  have hAR : Hid (Adds w wR) := by rw [hR]; exact Lib.hid ((Only.refl _ _).alloc _)
  have hk := Lib.hid (HK.out _ hAR.out)
  have HW := Lib.hid hR
  rw [hR] at hk
  clear hR
  go_enter Tryz.func11, Tryz.ntmps11
  go_wp2_with (go_at_call 27; refine hk.out.mono ?_; rintro e w2 ⟨rfl, hQ, ho2⟩; rw [← HW.out] at ho2; have hB := hBR.out.only ho2 (fun e => Nat.lt_irrefl _ (HS.out _ e)); obtain ⟨q0, q1, q2, q3, f0, f1, f2, f3⟩ := hB.four; have HQ := Lib.hid hQ; have HB := Lib.hid hB; have HO2 := Lib.hid ((hAR.out.mono (T := S) (fun _ _ e => e.elim)).trans ho2); clear hQ hB ho2)
  exact bodyPost_ret (v := .agg #[.int .i64 k, .int .i64 i, .int .u64 o, .int .u64 n]) (by simp [q0, q1, q2, q3, results, Tryz.results11, go_sem]) rfl ⟨rfl, HST.out.box HB.out HQ.out _ _ _ _, only_box4 HO2.out (.inr (Nat.le_refl _)) _ _ _ _⟩
set_option maxHeartbeats 400000 in
theorem stackPopDone_nil (w : World) : Calls Tryz.prog 12 #[.pointer none] w fun e w' => e = .returned (.bool false) ∧ w = w' := by
  go_enter Tryz.func12, Tryz.ntmps12
  go_wp2
  go_ret
  exact ⟨rfl, rfl⟩
set_option maxHeartbeats 400000 in
theorem stackPopDone_yes {mb : Nat} {w : World} (h : w.cell? ⟨mb, 2, none⟩ = some .nilFunc) : Calls Tryz.prog 12 #[.pointer (some ⟨mb, 0, none⟩)] w fun e w' => e = .returned (.bool true) ∧ w = w' := by
  go_enter Tryz.func12, Tryz.ntmps12
  go_wp2_with (go_at_call 28; refine (deskDone_nil h).mono ?_; rintro e w1 ⟨rfl, rfl⟩)
  go_ret
  exact ⟨rfl, rfl⟩
set_option maxHeartbeats 400000 in
theorem stackPopDone_no {mb : Nat} {w : World} {fn : Fn} {a b : Array Value} (h : w.cell? ⟨mb, 2, none⟩ = some (.func fn a b)) : Calls Tryz.prog 12 #[.pointer (some ⟨mb, 0, none⟩)] w fun e w' => e = .returned (.bool false) ∧ w = w' := by
  go_enter Tryz.func12, Tryz.ntmps12
  go_wp2_with (go_at_call 28; refine (deskDone_live h).mono ?_; rintro e w1 ⟨rfl, rfl⟩)
  go_ret
  exact ⟨rfl, rfl⟩
set_option maxHeartbeats 400000 in
theorem stackPushStep_nil (a : Option Addr) (w : World) : Calls Tryz.prog 9 #[.pointer none, .pointer a] w fun e w' => e = .returned (.agg #[.int .i64 0, .int .i64 0, .int .u64 0, .int .u64 0]) ∧ Adds w w' := by
  go_enter Tryz.func9, Tryz.ntmps9
  go_wp2
  exact bodyPost_ret (v := .agg #[.int .i64 0, .int .i64 0, .int .u64 0, .int .u64 0]) (by simp [results, Tryz.results9, go_sem]) rfl ⟨rfl, (Only.refl _ _).alloc _⟩
set_option maxHeartbeats 1000000 in
theorem stackPushStep_some {mb : Nat} {a : Option Addr} {w : World} {k i o n : Int} {Q : World → Prop} (hst : Stays Q) {S : Nat → Prop} (hS : ∀ j, S j → j < w.heap.size)
    (hK : ∀ w1, Adds w w1 → Calls Tryz.prog 27 #[.pointer (some ⟨mb, 0, none⟩), .pointer a] w1 fun e w2 => e = .returned (.agg #[.int .i64 k, .int .i64 i, .int .u64 o, .int .u64 n]) ∧ Q w2 ∧ Only S w1 w2) :
    Calls Tryz.prog 9 #[.pointer (some ⟨mb, 0, none⟩), .pointer a] w fun e w' => e = .returned (.agg #[.int .i64 k, .int .i64 i, .int .u64 o, .int .u64 n]) ∧ Q w' ∧ Only S w w' := by
  have HST := Lib.hid hst; have HS := Lib.hid hS; have HK := Lib.hid hK
  clear hst hS hK
  obtain ⟨wR, hR⟩ : ∃ wR, wR = w.alloc (.cells #[.int .i64 0, .int .i64 0, .int .u64 0, .int .u64 0] 50) := ⟨_, rfl⟩
  have hBR : Hid (Blk wR w.heap.size #[.int .i64 0, .int .i64 0, .int .u64 0, .int .u64 0] 50) := by rw [hR]; exact Lib.hid (Blk.new _ _ _)
  have hAR : Hid (Adds w wR) := by rw [hR]; exact Lib.hid ((Only.refl _ _).alloc _)
  have hk := Lib.hid (HK.out _ hAR.out)
  have HW := Lib.hid hR
  rw [hR] at hk
  clear hR
  go_enter Tryz.func9, Tryz.ntmps9
  go_wp2_with (go_at_call 27; refine hk.out.mono ?_; rintro e w2 ⟨rfl, hQ, ho2⟩; rw [← HW.out] at ho2; have hB := hBR.out.only ho2 (fun e => Nat.lt_irrefl _ (HS.out _ e)); obtain ⟨q0, q1, q2, q3, f0, f1, f2, f3⟩ := hB.four; have HQ := Lib.hid hQ; have HB := Lib.hid hB; have HO2 := Lib.hid ((hAR.out.mono (T := S) (fun _ _ e => e.elim)).trans ho2); clear hQ hB ho2)
  exact bodyPost_ret (v := .agg #[.int .i64 k, .int .i64 i, .int .u64 o, .int .u64 n]) (by simp [q0, q1, q2, q3, results, Tryz.results9, go_sem]) rfl ⟨rfl, HST.out.box HB.out HQ.out _ _ _ _, only_box4 HO2.out (.inr (Nat.le_refl _)) _ _ _ _⟩
set_option maxHeartbeats 400000 in
theorem stackPushDone_nil (w : World) : Calls Tryz.prog 10 #[.pointer none] w fun e w' => e = .returned (.bool false) ∧ w = w' := by
  go_enter Tryz.func10, Tryz.ntmps10
  go_wp2
  go_ret
  exact ⟨rfl, rfl⟩
set_option maxHeartbeats 400000 in
theorem stackPushDone_yes {mb : Nat} {w : World} (h : w.cell? ⟨mb, 2, none⟩ = some .nilFunc) : Calls Tryz.prog 10 #[.pointer (some ⟨mb, 0, none⟩)] w fun e w' => e = .returned (.bool true) ∧ w = w' := by
  go_enter Tryz.func10, Tryz.ntmps10
  go_wp2_with (go_at_call 28; refine (deskDone_nil h).mono ?_; rintro e w1 ⟨rfl, rfl⟩)
  go_ret
  exact ⟨rfl, rfl⟩
set_option maxHeartbeats 400000 in
theorem stackPushDone_no {mb : Nat} {w : World} {fn : Fn} {a b : Array Value} (h : w.cell? ⟨mb, 2, none⟩ = some (.func fn a b)) : Calls Tryz.prog 10 #[.pointer (some ⟨mb, 0, none⟩)] w fun e w' => e = .returned (.bool false) ∧ w = w' := by
  go_enter Tryz.func10, Tryz.ntmps10
  go_wp2_with (go_at_call 28; refine (deskDone_live h).mono ?_; rintro e w1 ⟨rfl, rfl⟩)
  go_ret
  exact ⟨rfl, rfl⟩
theorem push_keep5 {W w' : World} {b1 o1 b2 o2 b3 o3 b4 o4 b5 o5 : Nat} {x1 x2 x3 x4 x5 : Value}
    (h : W.cell? ⟨b1, o1, none⟩ = some x1 ∧ W.cell? ⟨b2, o2, none⟩ = some x2 ∧ W.cell? ⟨b3, o3, none⟩ = some x3 ∧ W.cell? ⟨b4, o4, none⟩ = some x4 ∧ W.cell? ⟨b5, o5, none⟩ = some x5 ∧ True) (ho : Adds W w') :
    w'.cell? ⟨b1, o1, none⟩ = some x1 ∧ w'.cell? ⟨b2, o2, none⟩ = some x2 ∧ w'.cell? ⟨b3, o3, none⟩ = some x3 ∧ w'.cell? ⟨b4, o4, none⟩ = some x4 ∧ w'.cell? ⟨b5, o5, none⟩ = some x5 ∧ True :=
  ⟨(ho.cellF (p := ⟨b1, o1, none⟩) (cell_lt h.1) id).trans h.1, (ho.cellF (p := ⟨b2, o2, none⟩) (cell_lt h.2.1) id).trans h.2.1, (ho.cellF (p := ⟨b3, o3, none⟩) (cell_lt h.2.2.1) id).trans h.2.2.1, (ho.cellF (p := ⟨b4, o4, none⟩) (cell_lt h.2.2.2.1) id).trans h.2.2.2.1, (ho.cellF (p := ⟨b5, o5, none⟩) (cell_lt h.2.2.2.2.1) id).trans h.2.2.2.2.1, trivial⟩
abbrev puC (P T hd pg : Int) : Value → Array Value := fun nx => #[.int .i64 P, .int .i64 T, nx, .int .i64 hd, .int .i64 pg]
theorem puCells (P T hd pg : Int) : Cells (puC P T hd pg) P T := ⟨fun _ => rfl, fun _ => rfl, fun _ => rfl, fun _ _ => rfl⟩
abbrev puTop (mb : Nat) : Value := .func (.func 63) #[.pointer (some ⟨mb, 0, none⟩)] #[]
abbrev puMid (jw jm : Nat) : Value := .func (.func 88) #[] #[.pointer (some ⟨jw, 0, none⟩), .pointer (some ⟨jm, 0, none⟩)]
abbrev puEnd (jm : Nat) : Value := .func (.func 91) #[] #[.pointer (some ⟨jm, 0, none⟩)]
/-- A push ahead of its load; of its put; of its cas. -/
def Push1 (w : World) (mb : Nat) (P T hd pg : Int) : Prop := Desk w mb (puC P T hd pg) 76 (.load hd (puTop mb))
def Push2 (w : World) (mb : Nat) (P T hd pg x : Int) : Prop := ∃ jw jm, Blk w jw #[.int .u64 x] 48 ∧ Blk w jm #[.pointer (some ⟨mb, 0, none⟩)] 44 ∧ Desk w mb (puC P T hd pg) 76 (.put (Lay.nextAt P T pg) (Tag.pg x + 1) (puMid jw jm))
def Push3 (w : World) (mb : Nat) (P T hd pg x : Int) : Prop := ∃ jm, Blk w jm #[.pointer (some ⟨mb, 0, none⟩)] 44 ∧ Desk w mb (puC P T hd pg) 76 (.cas hd x (Tag.nx x pg) (puEnd jm))
theorem Tag.pg_bd (x : Int) : -1 ≤ Tag.pg x ∧ Tag.pg x < 4096 := by unfold Tag.pg; split <;> omega
section
variable {w : World} {mb jw jm : Nat} {P T hd pg x : Int} {nx : Value}
set_option maxRecDepth 100000 in
set_option maxHeartbeats 2000000 in
theorem push_top (h0 : 0 ≤ x) (h1 : x < 18446744073709551616) (h : Blk w mb (puC P T hd pg nx) 76) :
    Calls Tryz.prog 63 #[.pointer (some ⟨mb, 0, none⟩), .int .u64 x] w fun e w' => e = .returned (.tuple #[]) ∧ Push2 w' mb P T hd pg x ∧ Only (· = mb) w w' := by
  have hl := h.lt
  obtain ⟨wB, hW⟩ : ∃ wB, wB = (w.alloc (.cells #[.pointer (some ⟨mb, 0, none⟩)] 44)).alloc (.cells #[.int .u64 x] 48) := ⟨_, rfl⟩
  have HM : Hid (Blk wB w.heap.size #[.pointer (some ⟨mb, 0, none⟩)] 44) := by rw [hW]; exact Lib.hid ((Blk.new w _ _).alloc _)
  have HX : Hid (Blk wB (w.heap.size + 1) #[.int .u64 x] 48) := by rw [hW]; exact Lib.hid (by simpa using Blk.new (w.alloc (.cells #[.pointer (some ⟨mb, 0, none⟩)] 44)) #[.int .u64 x] 48)
  have HB : Hid (Blk wB mb (puC P T hd pg nx) 76) := by rw [hW]; exact Lib.hid ((h.alloc _).alloc _)
  have HA : Hid (Adds w wB) := by rw [hW]; exact Lib.hid (((Only.refl _ _).alloc _).alloc _)
  have HW := Lib.hid hW
  obtain ⟨y, hy⟩ : ∃ y, y = Tag.pg x := ⟨_, rfl⟩
  have hyb := Tag.pg_bd x
  rw [← hy] at hyb
  have e1 : IntKind.i64.wrap (y + 1) = y + 1 := by simp [IntKind.wrap_i64]; omega
  have e2 : IntKind.u64.wrap (y + 1) = y + 1 := by rw [IntKind.wrap_u64]; omega
  have hy1 : 0 ≤ y + 1 := by omega
  have HY := Lib.hid hy; have H01 := Lib.hid (And.intro h0 h1)
  have c0 := HM.out.one; have c1 := HX.out.one
  have c2 : wB.cell? ⟨mb, 0, none⟩ = some (.int .i64 P) := HB.out.cell 0
  have c3 : wB.cell? ⟨mb, 1, none⟩ = some (.int .i64 T) := HB.out.cell 1
  have c4 : wB.cell? ⟨mb, 4, none⟩ = some (.int .i64 pg) := HB.out.cell 4
  have nM := Lib.hid (HB.out.multi' (by simp) HM.out); have nX := Lib.hid (HB.out.multi' (by simp) HX.out)
  clear h hW hy h0 h1
  go_enter Tryz.func63, Tryz.ntmps63
  go_wp2
  rw [← HW.out]
  go_region_held3 (fun W => W.cell? ⟨w.heap.size, 0, none⟩ = some (.pointer (some ⟨mb, 0, none⟩)) ∧ W.cell? ⟨w.heap.size + 1, 0, none⟩ = some (.int .u64 x) ∧ W.cell? ⟨mb, 0, none⟩ = some (.int .i64 P) ∧ W.cell? ⟨mb, 1, none⟩ = some (.int .i64 T) ∧ W.cell? ⟨mb, 4, none⟩ = some (.int .i64 pg) ∧ True)
    (first | assumption | (exact ⟨c0, c1, c2, c3, c4, trivial⟩) | (exact (push_keep5 (by assumption) (by first | assumption | exact (Only.refl _ _).drewN _))) | (exact ⟨(HM2.out.only ho3 nM.out).one, (HX2.out.only ho3 nX.out).one, hb3.cell 0, hb3.cell 1, hb3.cell 4, trivial⟩))
    (first
    | (go_at_call 35; refine (below_any P T pg _).mono ?_; rintro e w2 ⟨rfl, ho2⟩)
    | (go_at_call 31; refine (tagPage_any x _ H01.out.1 H01.out.2).mono ?_; rintro e w3 ⟨rfl, k, rfl⟩; rw [← HY.out]; have hO2 : Adds wB (w2.drewN k) := (((Only.refl (fun _ => False) wB).drew).thenF ho2).drewN k; have HM2 := Lib.hid (HM.out.only hO2 id); have HX2 := Lib.hid (HX.out.only hO2 id); have HB2 := Lib.hid (HB.out.only hO2 id); have HO2 := Lib.hid (HA.out.thenF hO2))
    | (go_at_call 87; with_reducible refine (deskPut_any HB2.out (by simp) (Lay.nextAt P T pg) (y + 1) _ _ _).mono ?_; rintro e w4 ⟨rfl, hb3, hc3, ho3⟩; have HC := Lib.hid (And.intro hb3 (And.intro hc3 ho3))))
  all_goals
    go_wp2
    go_end0
    obtain ⟨b3, c3', o3⟩ := HC.out
    refine ⟨rfl, ⟨w.heap.size + 1, w.heap.size, HX2.out.only o3 nX.out, HM2.out.only o3 nM.out, ⟨_, b3, ?_⟩⟩, (HO2.out.mono (fun _ _ e => e.elim)).trans o3⟩
    rw [← HY.out]; exact c3'
set_option maxRecDepth 100000 in
set_option maxHeartbeats 2000000 in
theorem push_mid (h0 : 0 ≤ x) (h1 : x < 18446744073709551616) (h2 : 0 ≤ pg) (h3 : pg < 4096) (hw : Blk w jw #[.int .u64 x] 48) (hm : Blk w jm #[.pointer (some ⟨mb, 0, none⟩)] 44) (h : Blk w mb (puC P T hd pg nx) 76) :
    Calls Tryz.prog 88 #[.pointer (some ⟨jw, 0, none⟩), .pointer (some ⟨jm, 0, none⟩)] w fun e w' => e = .returned (.tuple #[]) ∧ Push3 w' mb P T hd pg x ∧ Only (· = mb) w w' := by
  have HB := Lib.hid h; have HM := Lib.hid hm; have HX := Lib.hid hw
  obtain ⟨f, hf⟩ : ∃ f, f = Tag.nx x pg := ⟨_, rfl⟩
  have HF := Lib.hid hf; have H01 := Lib.hid (And.intro h0 (And.intro h1 (And.intro h2 h3)))
  have c0 := hm.one; have c1 := hw.one
  have c2 : w.cell? ⟨mb, 3, none⟩ = some (.int .i64 hd) := h.cell 3
  have c3 : w.cell? ⟨mb, 4, none⟩ = some (.int .i64 pg) := h.cell 4
  have nM := Lib.hid (h.multi' (by simp) hm); have nX := Lib.hid (h.multi' (by simp) hw)
  clear h hm hw hf h0 h1 h2 h3
  go_enter Tryz.func88, Tryz.ntmps88
  go_wp2_with fail
  go_region_held3 (fun W => W.cell? ⟨jm, 0, none⟩ = some (.pointer (some ⟨mb, 0, none⟩)) ∧ W.cell? ⟨jw, 0, none⟩ = some (.int .u64 x) ∧ W.cell? ⟨mb, 3, none⟩ = some (.int .i64 hd) ∧ W.cell? ⟨mb, 4, none⟩ = some (.int .i64 pg) ∧ W.cell? ⟨mb, 4, none⟩ = some (.int .i64 pg) ∧ True)
    (first | assumption | (exact ⟨c0, c1, c2, c3, c3, trivial⟩) | (exact push_keep5 (by assumption) ((Only.refl _ _).drewN _)))
    (first
    | (go_at_call 89; refine (tagNext_any x pg _ H01.out.1 H01.out.2.1 (by have := H01.out; omega) (by have := H01.out; omega)).mono ?_; rintro e w3 ⟨rfl, k, rfl⟩; rw [← HF.out]))
  rename_i hH
  have hO2 : Adds w (w.drewN (1 + k)) := (Only.refl (fun _ => False) w).drewN _
  have HM2 := Lib.hid (HM.out.only hO2 id); have HX2 := Lib.hid (HX.out.only hO2 id); have HB2 := Lib.hid (HB.out.only hO2 id); have HO2 := Lib.hid hO2
  obtain ⟨d0, d1, d2, d3, -, -⟩ := hH
  obtain ⟨wk, hwk⟩ : ∃ wk, wk = w.drewN (1 + k) := ⟨_, rfl⟩
  rw [← hwk] at HM2 HX2 HB2 HO2 d0 d1 d2 d3 ⊢
  clear hwk hO2 c0 c1 c2 c3
  go_wp2_with fail
  go_region_held3 (fun W => W.cell? ⟨jm, 0, none⟩ = some (.pointer (some ⟨mb, 0, none⟩)) ∧ W.cell? ⟨jw, 0, none⟩ = some (.int .u64 x) ∧ W.cell? ⟨mb, 3, none⟩ = some (.int .i64 hd) ∧ W.cell? ⟨mb, 4, none⟩ = some (.int .i64 pg) ∧ W.cell? ⟨mb, 4, none⟩ = some (.int .i64 pg) ∧ True)
    (first | assumption | (exact ⟨d0, d1, d2, d3, d3, trivial⟩) | (exact ⟨(HM2.out.drew.only ho3 nM.out).one, (HX2.out.drew.only ho3 nX.out).one, hb3.cell 3, hb3.cell 4, hb3.cell 4, trivial⟩))
    (first
    | (go_at_call 90; with_reducible refine (deskCas_any HB2.out.drew (by simp) hd x f _ _ _).mono ?_; rintro e w4 ⟨rfl, hb3, hc3, ho3⟩; have HC := Lib.hid (And.intro hb3 (And.intro hc3 ho3))))
  all_goals
    go_wp2
    go_end0
    obtain ⟨b3, c3', o3⟩ := HC.out
    refine ⟨rfl, ⟨jm, HM2.out.drew.only o3 nM.out, ⟨_, b3, ?_⟩⟩, ((HO2.out.drew).mono (fun _ _ e => e.elim)).trans o3⟩
    rw [← HF.out]; exact c3'
set_option maxHeartbeats 400000 in
theorem push_won (hm : Blk w jm #[.pointer (some ⟨mb, 0, none⟩)] 44) (h : Blk w mb (puC P T hd pg nx) 76) :
    Calls Tryz.prog 91 #[.bool true, .pointer (some ⟨jm, 0, none⟩)] w fun e w' => e = .returned (.tuple #[]) ∧ Desk w' mb (puC P T hd pg) 76 .done ∧ Only (· = mb) w w' := by
  have c0 := hm.one
  have HB := Lib.hid h
  clear h hm
  go_enter Tryz.func91, Tryz.ntmps91
  go_wp2_with (go_at_call 92; refine (deskEnd_any HB.out (by simp)).mono ?_; rintro e w1 ⟨rfl, rfl⟩)
  refine bodyPost_ret (results_none rfl _ _ _) rfl ?_
  exact ⟨rfl, HB.out.setCell 2 _, (Only.refl (fun x => x = mb) w).setCell (.inl rfl) _⟩
end
section
variable {w : World} {mb ab sb sm rb : Nat} {P T hd pg x : Int} {s : StoreS}
theorem pushStep_one (h : Push1 w mb P T hd pg) (hY : Yard w ab sb sm rb P T s) (hbig : 1 < s.ws.length) (hi : s.inR hd) :
    Calls Tryz.prog 9 #[.pointer (some ⟨mb, 0, none⟩), .pointer (some ⟨ab, 0, none⟩)] w fun e w' => e = .returned (.agg #[.int .i64 1, .int .i64 hd, .int .u64 (s.word hd), .int .u64 (s.word hd)]) ∧ (Push2 w' mb P T hd pg (s.word hd) ∧ Yard w' ab sb sm rb P T (s.acc 1 hd (s.word hd))) ∧ Only (fun j => SB sb sm j ∨ j = mb) w w' := by
  have hlt := hY.st.head.lt; have hlt2 := hY.st.row.lt
  have hml : mb < w.heap.size := by obtain ⟨_, hb, _⟩ := Desk.blk h; exact hb.lt
  have hw := StoreS.word_bd hY.st.fit hd
  have st : Stays (fun w => Push2 w mb P T hd pg (s.word hd)) := fun a b ho => by
    rintro ⟨jw, jm, h1, h2, h3⟩
    exact ⟨jw, jm, h1.dids ho (by decide), h2.dids ho (by decide), Desk.stays _ _ _ _ (by decide) a b ho h3⟩
  refine stackPushStep_some (Q := fun w' => Push2 w' mb P T hd pg (s.word hd) ∧ Yard w' ab sb sm rb P T (s.acc 1 hd (s.word hd))) (S := fun j => SB sb sm j ∨ j = mb) (st.and (fun _ _ ho h => Yard.dids h ho)) (fun j hj => hj.elim (fun e => e.elim (· ▸ hlt) (· ▸ hlt2)) (· ▸ hml)) (fun w1 ho => ?_)
  exact Desk.stepLoad (puCells P T hd pg) (by decide) (Desk.adds h ho) (hY.adds ho) hbig hi st (enters_of Tryz.func63 (by kernel_rfl) rfl) (fun w2 nx _ hb _ => push_top hw.1 hw.2 hb)
theorem pushStep_two (h : Push2 w mb P T hd pg x) (hY : Yard w ab sb sm rb P T s) (hbig : 1 < s.ws.length) (hi : s.inR (Lay.nextAt P T pg)) (h0 : 0 ≤ x) (h1 : x < 18446744073709551616) (h2 : 0 ≤ pg) (h3 : pg < 4096) :
    Calls Tryz.prog 9 #[.pointer (some ⟨mb, 0, none⟩), .pointer (some ⟨ab, 0, none⟩)] w fun e w' => e = .returned (.agg #[.int .i64 2, .int .i64 (Lay.nextAt P T pg), .int .u64 (s.word (Lay.nextAt P T pg)), .int .u64 (Tag.pg x + 1)]) ∧ (Push3 w' mb P T hd pg x ∧ Yard w' ab sb sm rb P T (s.acc 2 (Lay.nextAt P T pg) (Tag.pg x + 1))) ∧ Only (fun j => SB sb sm j ∨ j = mb) w w' := by
  have hlt := hY.st.head.lt; have hlt2 := hY.st.row.lt
  obtain ⟨jw, jm, hjw, hjm, hd'⟩ := h
  have hml : mb < w.heap.size := by obtain ⟨_, hb, _⟩ := Desk.blk hd'; exact hb.lt
  have hpb := Tag.pg_bd x
  have st : Stays (fun w => Push3 w mb P T hd pg x) := fun a b ho => by
    rintro ⟨jm, h2, h3⟩
    exact ⟨jm, h2.dids ho (by decide), Desk.stays _ _ _ _ (by decide) a b ho h3⟩
  refine stackPushStep_some (Q := fun w' => Push3 w' mb P T hd pg x ∧ Yard w' ab sb sm rb P T (s.acc 2 (Lay.nextAt P T pg) (Tag.pg x + 1))) (S := fun j => SB sb sm j ∨ j = mb) (st.and (fun _ _ ho h => Yard.dids h ho)) (fun j hj => hj.elim (fun e => e.elim (· ▸ hlt) (· ▸ hlt2)) (· ▸ hml)) (fun w1 ho => ?_)
  exact Desk.stepPut (puCells P T hd pg) (by decide) (hd'.adds ho) (hY.adds ho) hbig hi ⟨by omega, by omega⟩ st (enters_of Tryz.func88 (by kernel_rfl) rfl) (fun w2 nx hk hb => push_mid h0 h1 h2 h3 (hk _ _ _ (hjw.only ho id)) (hk _ _ _ (hjm.only ho id)) hb)
theorem pushStep_win (h : Push3 w mb P T hd pg x) (hY : Yard w ab sb sm rb P T s) (hbig : 1 < s.ws.length) (hi : s.inR hd) (hx : s.word hd = x) (h2 : 0 ≤ Tag.nx x pg ∧ Tag.nx x pg < 18446744073709551616) :
    Calls Tryz.prog 9 #[.pointer (some ⟨mb, 0, none⟩), .pointer (some ⟨ab, 0, none⟩)] w fun e w' => e = .returned (.agg #[.int .i64 3, .int .i64 hd, .int .u64 (s.word hd), .int .u64 (Tag.nx x pg)]) ∧ (Desk w' mb (puC P T hd pg) 76 .done ∧ Yard w' ab sb sm rb P T (s.acc 3 hd (Tag.nx x pg))) ∧ Only (fun j => SB sb sm j ∨ j = mb) w w' := by
  have hlt := hY.st.head.lt; have hlt2 := hY.st.row.lt
  obtain ⟨jm, hjm, hd'⟩ := h
  have hml : mb < w.heap.size := by obtain ⟨_, hb, _⟩ := Desk.blk hd'; exact hb.lt
  have st := Desk.stays mb (puC P T hd pg) 76 .done (by decide)
  refine stackPushStep_some (Q := fun w' => Desk w' mb (puC P T hd pg) 76 .done ∧ Yard w' ab sb sm rb P T (s.acc 3 hd (Tag.nx x pg))) (S := fun j => SB sb sm j ∨ j = mb) (st.and (fun _ _ ho h => Yard.dids h ho)) (fun j hj => hj.elim (fun e => e.elim (· ▸ hlt) (· ▸ hlt2)) (· ▸ hml)) (fun w1 ho => ?_)
  exact Desk.stepCasWin (puCells P T hd pg) (by decide) (hd'.adds ho) (hY.adds ho) hbig hi hx h2 st (enters_of Tryz.func91 (by kernel_rfl) rfl) (fun w2 nx hk hb => push_won (hk _ _ _ (hjm.only ho id)) hb)
end
abbrev poC (P T hd was pg : Int) : Value → Array Value := fun nx => #[.int .i64 P, .int .i64 T, nx, .int .i64 hd, .int .u64 was, .int .i64 pg]
theorem poCells (P T hd was pg : Int) : Cells (poC P T hd was pg) P T := ⟨fun _ => rfl, fun _ => rfl, fun _ => rfl, fun _ _ => rfl⟩
abbrev poTop (mb : Nat) : Value := .func (.func 71) #[.pointer (some ⟨mb, 0, none⟩)] #[]
def Pop1 (w : World) (mb : Nat) (P T hd was pg : Int) : Prop := Desk w mb (poC P T hd was pg) 78 (.load hd (poTop mb))
set_option maxHeartbeats 1000000 in
theorem newPop_no (P T hd : Int) (w : World) (h : Lay.isHead P T hd = false) : Calls Tryz.prog 50 #[.agg #[.int .i64 P, .int .i64 T], .int .i64 hd] w fun e w' => e = .returned (.pointer none) ∧ Adds w w' := by
  cases hm : Lay.may P T
  · go_enter Tryz.func50, Tryz.ntmps50
    go_wp2_with (go_at_call 58; refine (layMay_any P T _).mono ?_; rintro e w1 ⟨rfl, ho1⟩; rw [hm])
    go_ret
    exact ⟨rfl, Adds.box ho1⟩
  · go_enter Tryz.func50, Tryz.ntmps50
    go_wp2_with (first
      | (go_at_call 58; refine (layMay_any P T _).mono ?_; rintro e w1 ⟨rfl, ho1⟩; rw [hm]; obtain ⟨x0, x1, ho2⟩ := box2_cells ho1; have HO2 := Lib.hid ho2; clear ho1 ho2)
      | (go_at_call 30; refine (stackHead_any P T hd _).mono ?_; rintro e w2 ⟨rfl, ho3⟩; rw [h]))
    go_ret
    exact ⟨rfl, HO2.out.thenF ho3⟩
set_option maxHeartbeats 1000000 in
theorem newPop_ok (P T hd : Int) (w : World) (h : Lay.isHead P T hd = true) : Calls Tryz.prog 50 #[.agg #[.int .i64 P, .int .i64 T], .int .i64 hd] w fun e w' => ∃ mb, e = .returned (.pointer (some ⟨mb, 0, none⟩)) ∧ Pop1 w' mb P T hd 0 (-1) ∧ Adds w w' ∧ w.heap.size ≤ mb := by
  have hm : Lay.may P T = true := by unfold Lay.isHead at h; rw [Bool.and_eq_true] at h; exact h.1
  go_enter Tryz.func50, Tryz.ntmps50
  go_wp2_with (first
    | (go_at_call 58; refine (layMay_any P T _).mono ?_; rintro e w1 ⟨rfl, ho1⟩; rw [hm]; obtain ⟨x0, x1, ho2⟩ := box2_cells ho1; have HO2 := Lib.hid ho2; clear ho1 ho2)
    | (go_at_call 30; refine (stackHead_any P T hd _).mono ?_; rintro e w2 ⟨rfl, ho3⟩; rw [h]; have x0' := (ho3.cellF (p := ⟨w.heap.size, 0, none⟩) (cell_lt x0) id).trans x0; have x1' := (ho3.cellF (p := ⟨w.heap.size, 1, none⟩) (cell_lt x0) id).trans x1; have HO3 := Lib.hid (HO2.out.thenF ho3); clear ho3)
    | (go_at_call 62; refine (deskLoad_any (c := poC P T hd 0 (-1) .nilFunc) (Blk.new w2 _ _) (by simp) hd _ _ _).mono ?_; rintro e w3 ⟨rfl, hb3, hc3, ho4⟩; have HC3 := Lib.hid (And.intro hb3 (And.intro hc3 ho4)); clear hb3 hc3 ho4))
  go_ret
  obtain ⟨b3, c3', o4⟩ := HC3.out
  have hz := HO3.out.size
  exact ⟨_, rfl, ⟨_, b3, c3'⟩, (HO3.out.alloc _).andThen o4 (fun i hi e => by omega), hz⟩
set_option maxHeartbeats 1000000 in
theorem newPush_ok (P T hd pg : Int) (w : World) (h : Lay.isHead P T hd = true) (h0 : 0 ≤ pg) (h1 : pg < P) : Calls Tryz.prog 39 #[.agg #[.int .i64 P, .int .i64 T], .int .i64 hd, .int .i64 pg] w fun e w' => ∃ mb, e = .returned (.pointer (some ⟨mb, 0, none⟩)) ∧ Push1 w' mb P T hd pg ∧ Adds w w' ∧ w.heap.size ≤ mb := by
  have hm : Lay.may P T = true := by unfold Lay.isHead at h; rw [Bool.and_eq_true] at h; exact h.1
  go_enter Tryz.func39, Tryz.ntmps39
  go_wp2_with (first
    | (go_at_call 58; refine (layMay_any P T _).mono ?_; rintro e w1 ⟨rfl, ho1⟩; rw [hm]; obtain ⟨x0, x1, ho2⟩ := box2_cells ho1; have HO2 := Lib.hid ho2; clear ho1 ho2)
    | (go_at_call 30; refine (stackHead_any P T hd _).mono ?_; rintro e w2 ⟨rfl, ho3⟩; rw [h]; have x0' := (ho3.cellF (p := ⟨w.heap.size, 0, none⟩) (cell_lt x0) id).trans x0; have x1' := (ho3.cellF (p := ⟨w.heap.size, 1, none⟩) (cell_lt x0) id).trans x1; have HO3 := Lib.hid (HO2.out.thenF ho3); clear ho3)
    | (go_at_call 62; refine (deskLoad_any (c := puC P T hd pg .nilFunc) (Blk.new w2 _ _) (by simp) hd _ _ _).mono ?_; rintro e w3 ⟨rfl, hb3, hc3, ho4⟩; have HC3 := Lib.hid (And.intro hb3 (And.intro hc3 ho4)); clear hb3 hc3 ho4))
  go_ret
  obtain ⟨b3, c3', o4⟩ := HC3.out
  have hz := HO3.out.size
  exact ⟨_, rfl, ⟨_, b3, c3'⟩, (HO3.out.alloc _).andThen o4 (fun i hi e => by omega), hz⟩
set_option maxHeartbeats 1000000 in
theorem newPush_no (P T hd pg : Int) (w : World) (h : (Lay.isHead P T hd && decide (0 ≤ pg ∧ pg < P)) = false) : Calls Tryz.prog 39 #[.agg #[.int .i64 P, .int .i64 T], .int .i64 hd, .int .i64 pg] w fun e w' => e = .returned (.pointer none) ∧ Adds w w' := by
  cases hm : Lay.may P T
  · go_enter Tryz.func39, Tryz.ntmps39
    go_wp2_with (go_at_call 58; refine (layMay_any P T _).mono ?_; rintro e w1 ⟨rfl, ho1⟩; rw [hm])
    go_ret
    exact ⟨rfl, Adds.box ho1⟩
  · cases hh : Lay.isHead P T hd
    · go_enter Tryz.func39, Tryz.ntmps39
      go_wp2_with (first
        | (go_at_call 58; refine (layMay_any P T _).mono ?_; rintro e w1 ⟨rfl, ho1⟩; rw [hm]; obtain ⟨x0, x1, ho2⟩ := box2_cells ho1; have HO2 := Lib.hid ho2; clear ho1 ho2)
        | (go_at_call 30; refine (stackHead_any P T hd _).mono ?_; rintro e w2 ⟨rfl, ho3⟩; rw [hh]))
      go_ret
      exact ⟨rfl, HO2.out.thenF ho3⟩
    · have hp : pg < 0 ∨ (0 ≤ pg ∧ P ≤ pg) := by rw [hh, Bool.true_and, decide_eq_false_iff_not] at h; omega
      clear h
      rcases hp with hp | ⟨hp, hp2⟩
      all_goals
        go_enter Tryz.func39, Tryz.ntmps39
        go_wp2_with (first
          | (go_at_call 58; refine (layMay_any P T _).mono ?_; rintro e w1 ⟨rfl, ho1⟩; rw [hm]; obtain ⟨x0, x1, ho2⟩ := box2_cells ho1; have HO2 := Lib.hid ho2; clear ho1 ho2)
          | (go_at_call 30; refine (stackHead_any P T hd _).mono ?_; rintro e w2 ⟨rfl, ho3⟩; rw [hh]; have x0' := (ho3.cellF (p := ⟨w.heap.size, 0, none⟩) (cell_lt x0) id).trans x0))
        go_ret
        exact ⟨rfl, HO2.out.thenF ho3⟩
def PopP (w : World) (p : Option Addr) (P T : Int) : Prop := p = none ∨ ∃ mb hd, p = some ⟨mb, 0, none⟩ ∧ Pop1 w mb P T hd 0 (-1)
def PushP (w : World) (p : Option Addr) (P T : Int) : Prop := p = none ∨ ∃ mb hd pg, p = some ⟨mb, 0, none⟩ ∧ Push1 w mb P T hd pg
section
variable {w w' : World} {p : Option Addr} {P T : Int}
theorem PopP.adds (h : PopP w p P T) (ho : Adds w w') : PopP w' p P T := h.imp id (fun ⟨mb, hd, e, h⟩ => ⟨mb, hd, e, Desk.adds h ho⟩)
theorem PushP.adds (h : PushP w p P T) (ho : Adds w w') : PushP w' p P T := h.imp id (fun ⟨mb, hd, pg, e, h⟩ => ⟨mb, hd, pg, e, Desk.adds h ho⟩)
theorem newPopP (P T hd : Int) (w : World) : Calls Tryz.prog 50 #[.agg #[.int .i64 P, .int .i64 T], .int .i64 hd] w fun e w' => ∃ p, e = .returned (.pointer p) ∧ p.isSome = Lay.isHead P T hd ∧ PopP w' p P T ∧ Adds w w' := by
  cases h : Lay.isHead P T hd
  · exact (newPop_no P T hd w h).mono (fun _ _ ⟨he, ho⟩ => ⟨none, he, rfl, .inl rfl, ho⟩)
  · exact (newPop_ok P T hd w h).mono (fun _ _ ⟨mb, he, hi, ho, _⟩ => ⟨_, he, rfl, .inr ⟨mb, hd, rfl, hi⟩, ho⟩)
theorem newPushP (P T hd pg : Int) (w : World) : Calls Tryz.prog 39 #[.agg #[.int .i64 P, .int .i64 T], .int .i64 hd, .int .i64 pg] w fun e w' => ∃ p, e = .returned (.pointer p) ∧ p.isSome = (Lay.isHead P T hd && decide (0 ≤ pg ∧ pg < P)) ∧ PushP w' p P T ∧ Adds w w' := by
  cases h : (Lay.isHead P T hd && decide (0 ≤ pg ∧ pg < P))
  · exact (newPush_no P T hd pg w h).mono (fun _ _ ⟨he, ho⟩ => ⟨none, he, rfl, .inl rfl, ho⟩)
  · rw [Bool.and_eq_true, decide_eq_true_eq] at h
    exact (newPush_ok P T hd pg w h.1 h.2.1 h.2.2).mono (fun _ _ ⟨mb, he, hi, ho, _⟩ => ⟨_, he, rfl, .inr ⟨mb, hd, pg, rfl, hi⟩, ho⟩)
theorem popP_nilA (h : PopP w p P T) : Calls Tryz.prog 11 #[.pointer p, .pointer none] w fun e w' => e = .returned (.agg #[.int .i64 0, .int .i64 0, .int .u64 0, .int .u64 0]) ∧ Adds w w' := by
  obtain rfl | ⟨mb, hd, rfl, h⟩ := h
  · exact stackPopStep_nil _ _
  · exact (stackPopStep_some (Q := fun _ => True) (S := fun _ => False) (fun _ _ _ _ => trivial) (fun _ e => e.elim) (fun w1 ho => (Desk.adds h ho).inNone (poCells ..) (by simp))).mono (fun _ _ h => ⟨h.1, h.2.2⟩)
theorem popP_other {ab sb rb : Nat} {P' T' : Int} (h : PopP w p P T) (hA : IsArena w ab sb rb P' T') (hne : (P' == P && T' == T) = false) : Calls Tryz.prog 11 #[.pointer p, .pointer (some ⟨ab, 0, none⟩)] w fun e w' => e = .returned (.agg #[.int .i64 0, .int .i64 0, .int .u64 0, .int .u64 0]) ∧ Adds w w' := by
  obtain rfl | ⟨mb, hd, rfl, h⟩ := h
  · exact stackPopStep_nil _ _
  · exact (stackPopStep_some (Q := fun _ => True) (S := fun _ => False) (fun _ _ _ _ => trivial) (fun _ e => e.elim) (fun w1 ho => (Desk.adds h ho).inOther (poCells ..) (by simp) (hA.only ho id) hne)).mono (fun _ _ h => ⟨h.1, h.2.2⟩)
theorem popP_done (h : PopP w p P T) : Calls Tryz.prog 12 #[.pointer p] w fun e w' => e = .returned (.bool false) ∧ w = w' := by
  obtain rfl | ⟨mb, hd, rfl, n, hb, _⟩ := h
  · exact stackPopDone_nil _
  · exact stackPopDone_no (hb.cell 2)
theorem pushP_nilA (h : PushP w p P T) : Calls Tryz.prog 9 #[.pointer p, .pointer none] w fun e w' => e = .returned (.agg #[.int .i64 0, .int .i64 0, .int .u64 0, .int .u64 0]) ∧ Adds w w' := by
  obtain rfl | ⟨mb, hd, pg, rfl, h⟩ := h
  · exact stackPushStep_nil _ _
  · exact (stackPushStep_some (Q := fun _ => True) (S := fun _ => False) (fun _ _ _ _ => trivial) (fun _ e => e.elim) (fun w1 ho => (Desk.adds h ho).inNone (puCells ..) (by simp))).mono (fun _ _ h => ⟨h.1, h.2.2⟩)
theorem pushP_other {ab sb rb : Nat} {P' T' : Int} (h : PushP w p P T) (hA : IsArena w ab sb rb P' T') (hne : (P' == P && T' == T) = false) : Calls Tryz.prog 9 #[.pointer p, .pointer (some ⟨ab, 0, none⟩)] w fun e w' => e = .returned (.agg #[.int .i64 0, .int .i64 0, .int .u64 0, .int .u64 0]) ∧ Adds w w' := by
  obtain rfl | ⟨mb, hd, pg, rfl, h⟩ := h
  · exact stackPushStep_nil _ _
  · exact (stackPushStep_some (Q := fun _ => True) (S := fun _ => False) (fun _ _ _ _ => trivial) (fun _ e => e.elim) (fun w1 ho => (Desk.adds h ho).inOther (puCells ..) (by simp) (hA.only ho id) hne)).mono (fun _ _ h => ⟨h.1, h.2.2⟩)
theorem pushP_done (h : PushP w p P T) : Calls Tryz.prog 10 #[.pointer p] w fun e w' => e = .returned (.bool false) ∧ w = w' := by
  obtain rfl | ⟨mb, hd, pg, rfl, n, hb, _⟩ := h
  · exact stackPushDone_nil _
  · exact stackPushDone_no (hb.cell 2)
theorem pop_nonnil (p : Option Addr) (W : World) : Sem.run Tryz.prog (binOp .neq 43 (.pointer p) (.pointer none)) W = .ok (.bool p.isSome) W := by cases p <;> kernel_rfl
theorem push_nonnil (p : Option Addr) (W : World) : Sem.run Tryz.prog (binOp .neq 44 (.pointer p) (.pointer none)) W = .ok (.bool p.isSome) W := by cases p <;> kernel_rfl
set_option maxHeartbeats 400000 in
theorem popPage_nil (w : World) : Calls Tryz.prog 13 #[.pointer none] w fun e w' => e = .returned (.int .i64 0) ∧ w = w' := by
  go_enter Tryz.func13, Tryz.ntmps13
  go_wp2
  go_ret
  exact ⟨rfl, rfl⟩
end
set_option maxHeartbeats 1000000 in
theorem stackList_nil (hd : Int) (w : World) : Calls Tryz.prog 15 #[.pointer none, .int .i64 hd] w fun e w' => e = .returned (.slice none 0 0) ∧ Adds w w' := by
  go_enter Tryz.func15, Tryz.ntmps15
  go_wp2_with (first
    | (go_at_call 29; refine (arenaLayout_nil _).mono ?_; rintro e w1 ⟨rfl, ho1⟩)
    | (go_at_call 30; refine (stackHead_any 0 0 hd _).mono ?_; rintro e w2 ⟨rfl, ho2⟩; rw [show Lay.isHead 0 0 hd = false from by simp [Lay.isHead, show Lay.may 0 0 = false from by decide]]))
  go_ret
  exact ⟨rfl, (ho1.alloc _).thenF ho2⟩
abbrev poNext (mb : Nat) : Value := .func (.func 95) #[.pointer (some ⟨mb, 0, none⟩)] #[]
abbrev poEnd (jm : Nat) : Value := .func (.func 128) #[] #[.pointer (some ⟨jm, 0, none⟩)]
/-- A pop that has the head; that has the page below. -/
def Pop2 (w : World) (mb : Nat) (P T hd was pg : Int) : Prop := Desk w mb (poC P T hd was pg) 78 (.load (Lay.nextAt P T (Tag.pg was)) (poNext mb))
def Pop3 (w : World) (mb : Nat) (P T hd was pg x : Int) : Prop := ∃ jm, Blk w jm #[.pointer (some ⟨mb, 0, none⟩)] 43 ∧ Desk w mb (poC P T hd was pg) 78 (.cas hd was (Tag.nx was (underV x)) (poEnd jm))
theorem popHeld {M : Nat → Prop} {w W w' : World} {b : Nat} {x y : Value} (h : W.cell? ⟨b, 0, none⟩ = some x ∧ W.cell? ⟨b, 1, none⟩ = some y ∧ Only M w W) (ho : Adds W w') :
    w'.cell? ⟨b, 0, none⟩ = some x ∧ w'.cell? ⟨b, 1, none⟩ = some y ∧ Only M w w' :=
  ⟨(ho.cellF (p := ⟨b, 0, none⟩) (cell_lt h.1) id).trans h.1, (ho.cellF (p := ⟨b, 1, none⟩) (cell_lt h.2.1) id).trans h.2.1, h.2.2.trans (ho.mono (fun _ _ e => e.elim))⟩
section
variable {w : World} {mb jm : Nat} {P T hd was pg x : Int} {nx : Value}
set_option maxRecDepth 100000 in
set_option maxHeartbeats 2000000 in
theorem pop_top_none (h0 : 0 ≤ x) (h1 : x < 18446744073709551616) (hn : Tag.pg x < 0) (h : Blk w mb (poC P T hd was pg nx) 78) :
    Calls Tryz.prog 71 #[.pointer (some ⟨mb, 0, none⟩), .int .u64 x] w fun e w' => e = .returned (.tuple #[]) ∧ Desk w' mb (poC P T hd x pg) 78 .done ∧ Only (· = mb) w w' := by
  have f4 := h.frozen 4
  have c4 : w.cell? ⟨mb, 4, none⟩ = some (.int .u64 was) := h.cell 4
  have hl := h.lt
  have HB := Lib.hid (show Blk (w.setCell ⟨mb, 4, none⟩ (.int .u64 x)) mb (poC P T hd x pg nx) 78 from h.setCell 4 _)
  obtain ⟨y, hy⟩ : ∃ y, y = Tag.pg x := ⟨_, rfl⟩
  have HY := Lib.hid hy; have H01 := Lib.hid (And.intro h0 h1)
  rw [← hy] at hn
  clear h hy h0 h1
  go_enter Tryz.func71, Tryz.ntmps71
  go_wp2_with (first
    | (go_at_call 31; refine (tagPage_any x _ H01.out.1 H01.out.2).mono ?_; rintro e w3 ⟨rfl, k, rfl⟩; rw [← HY.out]; have HB2 := Lib.hid (HB.out.drewN k))
    | (go_at_call 92; refine (deskEnd_any HB2.out (by simp)).mono ?_; rintro e w1 ⟨rfl, rfl⟩))
  refine bodyPost_ret (results_none rfl _ _ _) rfl ?_
  exact ⟨rfl, HB2.out.setCell 2 _, (((Only.refl (fun x => x = mb) w).setCell (.inl rfl) _).drewN _).setCell (.inl rfl) _⟩
set_option maxRecDepth 100000 in
set_option maxHeartbeats 2000000 in
theorem pop_top_some (h0 : 0 ≤ x) (h1 : x < 18446744073709551616) (hn : 0 ≤ Tag.pg x) (h : Blk w mb (poC P T hd was pg nx) 78) :
    Calls Tryz.prog 71 #[.pointer (some ⟨mb, 0, none⟩), .int .u64 x] w fun e w' => e = .returned (.tuple #[]) ∧ Pop2 w' mb P T hd x pg ∧ Only (· = mb) w w' := by
  have f4 := h.frozen 4
  have c4 : w.cell? ⟨mb, 4, none⟩ = some (.int .u64 was) := h.cell 4
  have hl := h.lt
  have HB := Lib.hid (show Blk (w.setCell ⟨mb, 4, none⟩ (.int .u64 x)) mb (poC P T hd x pg nx) 78 from h.setCell 4 _)
  obtain ⟨y, hy⟩ : ∃ y, y = Tag.pg x := ⟨_, rfl⟩
  obtain ⟨na, hna⟩ : ∃ na, na = Lay.nextAt P T y := ⟨_, rfl⟩
  have HY := Lib.hid hy; have H01 := Lib.hid (And.intro h0 h1); have HNA := Lib.hid hna
  rw [← hy] at hn
  clear h hy h0 h1 hna
  go_enter Tryz.func71, Tryz.ntmps71
  go_wp2_with (go_at_call 31; refine (tagPage_any x _ H01.out.1 H01.out.2).mono ?_; rintro e w3 ⟨rfl, k, rfl⟩; rw [← HY.out])
  have HBk := Lib.hid (HB.out.drewN k)
  have HOk := Lib.hid (((Only.refl (fun x => x = mb) w).setCell (p := ⟨mb, 4, none⟩) (.inl rfl) (.int .u64 x)).drewN k)
  obtain ⟨wk, hwk⟩ : ∃ wk, wk = (w.setCell ⟨mb, 4, none⟩ (.int .u64 x)).drewN k := ⟨_, rfl⟩
  rw [← hwk] at HBk HOk
  rw [← hwk]
  clear hwk
  have d0 : wk.cell? ⟨mb, 0, none⟩ = some (.int .i64 P) := HBk.out.cell 0
  have d1 : wk.cell? ⟨mb, 1, none⟩ = some (.int .i64 T) := HBk.out.cell 1
  go_region_held3 (fun W => W.cell? ⟨mb, 0, none⟩ = some (.int .i64 P) ∧ W.cell? ⟨mb, 1, none⟩ = some (.int .i64 T) ∧ Only (· = mb) wk W)
    (first | assumption | (exact ⟨d0, d1, (Only.refl _ _).drew⟩) | (exact ⟨d0, d1, (Only.refl _ _).drewN _⟩) | (exact popHeld (by assumption) (by first | assumption | exact (Only.refl _ _).drewN _)) | (exact ⟨hb3.cell 0, hb3.cell 1, (hO4.mono (fun _ _ e => e.elim)).trans ho3⟩))
    (first
    | (go_at_call 31; refine (tagPage_any x _ H01.out.1 H01.out.2).mono ?_; rintro e w4 ⟨rfl, k2, rfl⟩; rw [← HY.out])
    | (go_at_call 35; refine (below_any P T y _).mono ?_; rintro e w5 ⟨rfl, ho5⟩; rw [← HNA.out]; have hO4 : Adds wk w5 := ((Only.refl (fun _ => False) wk).drewN _).thenF ho5; have HB5 := Lib.hid (HBk.out.only hO4 id))
    | (go_at_call 62; with_reducible refine (deskLoad_any HB5.out (by simp) na _ _ _).mono ?_; rintro e w6 ⟨rfl, hb3, hc3, ho3⟩; have HC := Lib.hid (And.intro hb3 (And.intro hc3 ho3))))
  all_goals
    go_wp2
    go_end0
    obtain ⟨b3, c3', o3⟩ := HC.out
    refine ⟨rfl, ⟨_, b3, ?_⟩, HOk.out.trans ((hO4.mono (fun _ _ e => e.elim)).trans o3)⟩
    rw [← HY.out, ← HNA.out]; exact c3'
set_option maxRecDepth 100000 in
set_option maxHeartbeats 2000000 in
theorem pop_next (hw : 0 ≤ was ∧ was < 18446744073709551616) (h0 : 0 ≤ x) (h1 : x < 18446744073709551616) (h : Blk w mb (poC P T hd was pg nx) 78) :
    Calls Tryz.prog 95 #[.pointer (some ⟨mb, 0, none⟩), .int .u64 x] w fun e w' => e = .returned (.tuple #[]) ∧ Pop3 w' mb P T hd was pg x ∧ Only (· = mb) w w' := by
  have hl := h.lt
  obtain ⟨wB, hW⟩ : ∃ wB, wB = w.alloc (.cells #[.pointer (some ⟨mb, 0, none⟩)] 43) := ⟨_, rfl⟩
  have HM : Hid (Blk wB w.heap.size #[.pointer (some ⟨mb, 0, none⟩)] 43) := by rw [hW]; exact Lib.hid (Blk.new w _ _)
  have HB : Hid (Blk wB mb (poC P T hd was pg nx) 78) := by rw [hW]; exact Lib.hid (h.alloc _)
  have HA : Hid (Adds w wB) := by rw [hW]; exact Lib.hid ((Only.refl _ _).alloc _)
  have HW := Lib.hid hW
  obtain ⟨u, hu⟩ : ∃ u, u = underV x := ⟨_, rfl⟩
  have hub : -1 ≤ u ∧ u < 4096 := by rw [hu]; unfold underV; split <;> omega
  obtain ⟨f, hf⟩ : ∃ f, f = Tag.nx was u := ⟨_, rfl⟩
  have HF := Lib.hid hf; have HU := Lib.hid hu; have HWW := Lib.hid hw; have H01 := Lib.hid (And.intro h0 h1); have HUB := Lib.hid hub
  have c0 := HM.out.one
  have c2 : wB.cell? ⟨mb, 3, none⟩ = some (.int .i64 hd) := HB.out.cell 3
  have c3 : wB.cell? ⟨mb, 4, none⟩ = some (.int .u64 was) := HB.out.cell 4
  have nM := Lib.hid (HB.out.multi' (by simp) HM.out)
  clear h hW hf hu hw h0 h1 hub
  go_enter Tryz.func95, Tryz.ntmps95
  go_wp2_with fail
  rw [← HW.out]
  go_region_held3 (fun W => W.cell? ⟨w.heap.size, 0, none⟩ = some (.pointer (some ⟨mb, 0, none⟩)) ∧ W.cell? ⟨mb, 3, none⟩ = some (.int .i64 hd) ∧ W.cell? ⟨mb, 4, none⟩ = some (.int .u64 was) ∧ True)
    (first | assumption | (exact ⟨c0, c2, c3, trivial⟩))
    (first
    | (go_at_call 34; refine (under_any x _ H01.out.1 H01.out.2).mono ?_; rintro e w2 ⟨rfl, rfl⟩; rw [← HU.out])
    | (go_at_call 89; refine (tagNext_any was u _ HWW.out.1 HWW.out.2 (by have := HUB.out; omega) (by have := HUB.out; omega)).mono ?_; rintro e w3 ⟨rfl, k, rfl⟩; rw [← HF.out]))
  rename_i hH
  have hO2 : Adds wB (wB.drewN (1 + k)) := (Only.refl (fun _ => False) wB).drewN _
  have HM2 := Lib.hid (HM.out.only hO2 id); have HB2 := Lib.hid (HB.out.only hO2 id); have HO2 := Lib.hid (HA.out.thenF hO2)
  obtain ⟨d0, d2, d3, -⟩ := hH
  obtain ⟨wk, hwk⟩ : ∃ wk, wk = wB.drewN (1 + k) := ⟨_, rfl⟩
  rw [← hwk] at HM2 HB2 HO2 d0 d2 d3
  rw [← hwk]
  clear hwk hO2 c0 c2 c3
  go_wp2_with fail
  go_region_held3 (fun W => W.cell? ⟨w.heap.size, 0, none⟩ = some (.pointer (some ⟨mb, 0, none⟩)) ∧ W.cell? ⟨mb, 3, none⟩ = some (.int .i64 hd) ∧ W.cell? ⟨mb, 4, none⟩ = some (.int .u64 was) ∧ True)
    (first | assumption | (exact ⟨d0, d2, d3, trivial⟩) | (exact ⟨(HM2.out.drew.only ho3 nM.out).one, hb3.cell 3, hb3.cell 4, trivial⟩))
    (first
    | (go_at_call 90; with_reducible refine (deskCas_any HB2.out.drew (by simp) hd was f _ _ _).mono ?_; rintro e w4 ⟨rfl, hb3, hc3, ho3⟩; have HC := Lib.hid (And.intro hb3 (And.intro hc3 ho3))))
  all_goals
    go_wp2
    go_end0
    obtain ⟨b3, c3', o3⟩ := HC.out
    refine ⟨rfl, ⟨_, HM2.out.drew.only o3 nM.out, ⟨_, b3, ?_⟩⟩, ((HO2.out.drew).mono (fun _ _ e => e.elim)).trans o3⟩
    rw [← HU.out, ← HF.out]; exact c3'
set_option maxRecDepth 100000 in
set_option maxHeartbeats 2000000 in
theorem pop_lost (hm : Blk w jm #[.pointer (some ⟨mb, 0, none⟩)] 43) (h : Blk w mb (poC P T hd was pg nx) 78) :
    Calls Tryz.prog 128 #[.bool false, .pointer (some ⟨jm, 0, none⟩)] w fun e w' => e = .returned (.tuple #[]) ∧ Pop1 w' mb P T hd was pg ∧ Only (· = mb) w w' := by
  have HB := Lib.hid h; have HM := Lib.hid hm
  have c0 := hm.one
  have c2 : w.cell? ⟨mb, 3, none⟩ = some (.int .i64 hd) := h.cell 3
  have nM := Lib.hid (h.multi' (by simp) hm)
  clear h hm
  go_enter Tryz.func128, Tryz.ntmps128
  go_wp2_with fail
  go_region_held3 (fun W => W.cell? ⟨jm, 0, none⟩ = some (.pointer (some ⟨mb, 0, none⟩)) ∧ W.cell? ⟨mb, 3, none⟩ = some (.int .i64 hd) ∧ True)
    (first | assumption | (exact ⟨c0, c2, trivial⟩) | (exact ⟨(HM.out.drew.only ho3 nM.out).one, hb3.cell 3, trivial⟩))
    (first
    | (go_at_call 62; with_reducible refine (deskLoad_any HB.out.drew (by simp) hd _ _ _).mono ?_; rintro e w4 ⟨rfl, hb3, hc3, ho3⟩; have HC := Lib.hid (And.intro hb3 (And.intro hc3 ho3))))
  all_goals
    go_wp2
    refine bodyPost_ret (results_none rfl _ _ _) rfl ?_
    obtain ⟨b3, c3', o3⟩ := HC.out
    exact ⟨rfl, ⟨_, b3, c3'⟩, ((Only.refl (fun x => x = mb) w).drew).trans o3⟩
set_option maxRecDepth 100000 in
set_option maxHeartbeats 2000000 in
theorem push_lost (hm : Blk w jm #[.pointer (some ⟨mb, 0, none⟩)] 44) (h : Blk w mb (puC P T hd pg nx) 76) :
    Calls Tryz.prog 91 #[.bool false, .pointer (some ⟨jm, 0, none⟩)] w fun e w' => e = .returned (.tuple #[]) ∧ Push1 w' mb P T hd pg ∧ Only (· = mb) w w' := by
  have HB := Lib.hid h; have HM := Lib.hid hm
  have c0 := hm.one
  have c2 : w.cell? ⟨mb, 3, none⟩ = some (.int .i64 hd) := h.cell 3
  have nM := Lib.hid (h.multi' (by simp) hm)
  clear h hm
  go_enter Tryz.func91, Tryz.ntmps91
  go_wp2_with fail
  go_region_held3 (fun W => W.cell? ⟨jm, 0, none⟩ = some (.pointer (some ⟨mb, 0, none⟩)) ∧ W.cell? ⟨mb, 3, none⟩ = some (.int .i64 hd) ∧ True)
    (first | assumption | (exact ⟨c0, c2, trivial⟩) | (exact ⟨(HM.out.drew.only ho3 nM.out).one, hb3.cell 3, trivial⟩))
    (first
    | (go_at_call 62; with_reducible refine (deskLoad_any HB.out.drew (by simp) hd _ _ _).mono ?_; rintro e w4 ⟨rfl, hb3, hc3, ho3⟩; have HC := Lib.hid (And.intro hb3 (And.intro hc3 ho3))))
  all_goals
    go_wp2
    go_end0
    obtain ⟨b3, c3', o3⟩ := HC.out
    exact ⟨rfl, ⟨_, b3, c3'⟩, ((Only.refl (fun x => x = mb) w).drew).trans o3⟩
end
section
variable {w : World} {mb jm : Nat} {P T hd was pg x : Int} {nx : Value}
set_option maxRecDepth 100000 in
set_option maxHeartbeats 2000000 in
theorem pop_won (hw : 0 ≤ was ∧ was < 18446744073709551616) (hm : Blk w jm #[.pointer (some ⟨mb, 0, none⟩)] 43) (h : Blk w mb (poC P T hd was pg nx) 78) :
    Calls Tryz.prog 128 #[.bool true, .pointer (some ⟨jm, 0, none⟩)] w fun e w' => e = .returned (.tuple #[]) ∧ Desk w' mb (poC P T hd was (Tag.pg was)) 78 .done ∧ Only (· = mb) w w' := by
  have HB := Lib.hid h; have HM := Lib.hid hm
  have c0 := hm.one
  have c4 : w.cell? ⟨mb, 4, none⟩ = some (.int .u64 was) := h.cell 4
  have c5 : w.cell? ⟨mb, 5, none⟩ = some (.int .i64 pg) := h.cell 5
  have f5 := h.frozen 5
  have hl := h.lt
  have nM := Lib.hid (h.multi' (by simp) hm)
  have nJ : jm ≠ mb := nM.out
  obtain ⟨y, hy⟩ : ∃ y, y = Tag.pg was := ⟨_, rfl⟩
  have HY := Lib.hid hy; have HW := Lib.hid hw
  clear h hm hy hw
  go_enter Tryz.func128, Tryz.ntmps128
  go_wp2_with fail
  go_region_with ((first
    | (go_at_call 31; refine (tagPage_any was _ HW.out.1 HW.out.2).mono ?_; rintro e w4 ⟨rfl, k2, rfl⟩; rw [← HY.out])))
  all_goals
    have HB2 := Lib.hid (show Blk ((w.drewN (1 + k2)).setCell ⟨mb, 5, none⟩ (.int .i64 y)) mb (poC P T hd was y nx) 78 from (HB.out.drewN (1 + k2)).setCell 5 _)
    go_wp2_with (go_at_call 92; refine (deskEnd_any HB2.out (by simp)).mono ?_; rintro e w1 ⟨rfl, rfl⟩)
    go_end0
    rw [← HY.out]
    exact ⟨rfl, HB2.out.setCell 2 _, (((Only.refl (fun x => x = mb) w).drewN _).setCell (.inl rfl) _).setCell (.inl rfl) _⟩
end
/-- What the words of a stack hold: the head, and below each page. -/
structure SW (s : StoreS) (P T hd H : Int) (f : Int → Int) : Prop where
  len : s.ws.length = (Lay.words P T).toNat
  top : s.word hd = H
  nx : ∀ q, 0 ≤ q → q < P → s.word (Lay.nextAt P T q) = f q
/-- A head. -/
structure HD (P T hd : Int) : Prop where
  may : Lay.may P T = true
  lo : 8 ≤ hd
  hi : hd < 68
theorem HD.of {P T hd : Int} (h : Lay.isHead P T hd = true) : HD P T hd := by
  unfold Lay.isHead at h; rw [Bool.and_eq_true, decide_eq_true_eq] at h; exact ⟨h.1, h.2.1, h.2.2⟩
theorem HD.to {P T hd : Int} (h : HD P T hd) : Lay.isHead P T hd = true := by
  unfold Lay.isHead; rw [Bool.and_eq_true, decide_eq_true_eq]; exact ⟨h.may, h.lo, h.hi⟩
theorem Lay.nextAt_eq {P T q : Int} (hm : Lay.may P T = true) (h0 : 0 ≤ q) (h1 : q < P) : Lay.nextAt P T q = 70 + 14 * T + 5 * q := by
  have hok : Lay.pageOk P T 11 q = true := by unfold Lay.pageOk; rw [hm, Bool.true_and, decide_eq_true_eq]; omega
  unfold Lay.nextAt atV Lay.pageAt
  rw [hok, if_pos rfl, if_neg (by decide)]
  omega
section
variable {s : StoreS} {P T hd H : Int} {f : Int → Int}
theorem HD.words (h : HD P T hd) : (Lay.words P T) = 68 + 14 * T + 6 * P + 2 * Lay.many P ∧ 1 ≤ Lay.many P ∧ 1 ≤ P ∧ P ≤ 4096 ∧ 1 ≤ T ∧ T ≤ 64 := by
  have hb := Lay.may_iff.1 h.may
  have hmb := Lay.many_bd hb.1 hb.2.1
  exact ⟨by simp [Lay.words, h.may], hmb.1, hb.1, hb.2.1, hb.2.2.1, hb.2.2.2⟩
theorem SW.big (h : SW s P T hd H f) (hh : HD P T hd) : 1 < s.ws.length := by
  rw [h.len]; have := hh.words; omega
theorem SW.inH (h : SW s P T hd H f) (hh : HD P T hd) : s.inR hd := by
  have := hh.words; have := hh.lo; have := hh.hi
  exact ⟨by omega, by rw [h.len]; omega⟩
theorem SW.inN (h : SW s P T hd H f) (hh : HD P T hd) (q : Int) : s.inR (Lay.nextAt P T q) :=
  ⟨(Lay.nextAt_bd hh.may).1, by have := (Lay.nextAt_bd (p := q) hh.may).2; rw [h.len]; omega⟩
theorem SW.load (h : SW s P T hd H f) (hh : HD P T hd) {i : Int} (hi : s.inR i) (k : Int) : SW (s.acc k i (s.word i)) P T hd H f := by
  have e : ∀ j, 0 ≤ j → (s.acc k i (s.word i)).word j = s.word j := fun j hj => by
    by_cases e : j = i
    · subst e; exact StoreS.acc_word hi _ _
    · exact StoreS.acc_word_other hi.1 hj e _ _
  refine ⟨by have := h.len; simpa [StoreS.acc] using this, by rw [e _ (by have := hh.lo; omega)]; exact h.top, fun q h0 h1 => by rw [e _ (Lay.nextAt_bd hh.may).1]; exact h.nx q h0 h1⟩
theorem SW.put (h : SW s P T hd H f) (hh : HD P T hd) {p : Int} (h0 : 0 ≤ p) (h1 : p < P) (v : Int) : SW (s.acc 2 (Lay.nextAt P T p) v) P T hd H (fun q => if q = p then v else f q) := by
  have hw := hh.words; have hl := hh.lo; have hu := hh.hi
  have ep := Lay.nextAt_eq hh.may h0 h1
  refine ⟨by have := h.len; simpa [StoreS.acc] using this, ?_, fun q g0 g1 => ?_⟩
  · rw [StoreS.acc_word_other (by omega) (by omega) (by omega)]; exact h.top
  · by_cases e : q = p
    · rw [if_pos e, e]; exact StoreS.acc_word (h.inN hh p) _ _
    · have eq := Lay.nextAt_eq hh.may g0 g1
      rw [if_neg e, StoreS.acc_word_other (by omega) (by omega) (by omega)]; exact h.nx q g0 g1
theorem SW.cas (h : SW s P T hd H f) (hh : HD P T hd) (v : Int) : SW (s.acc 3 hd v) P T hd v f := by
  have hw := hh.words; have hl := hh.lo; have hu := hh.hi
  refine ⟨by have := h.len; simpa [StoreS.acc] using this, StoreS.acc_word (h.inH hh) _ _, fun q g0 g1 => ?_⟩
  have eq := Lay.nextAt_eq hh.may g0 g1
  rw [StoreS.acc_word_other (by omega) (by omega) (by omega)]; exact h.nx q g0 g1
end
/-- An arena of which a stack's words are known. -/
def YS (w : World) (ab sb sm rb : Nat) (P T hd H : Int) (f : Int → Int) : Prop := ∃ s, Yard w ab sb sm rb P T s ∧ SW s P T hd H f
section
variable {w w' : World} {ab sb sm rb mb m2 : Nat} {P T hd H : Int} {f : Int → Int}
theorem YS.adds (h : YS w ab sb sm rb P T hd H f) (ho : Adds w w') : YS w' ab sb sm rb P T hd H f := by
  obtain ⟨s, h1, h2⟩ := h; exact ⟨s, h1.adds ho, h2⟩
theorem YS.beside (h : YS w ab sb sm rb P T hd H f) (hh : HD P T hd) {c2 : Value → Array Value} {t2 : TypeId} {k2 : DK} {c : Array Value} {t : TypeId} (h2 : Desk w m2 c2 t2 k2) (ht : MachT t2) (hm : Blk w mb c t) (hc : c.size ≠ 1) (hne : m2 ≠ mb) (ho : Only (fun j => SB sb sm j ∨ j = mb) w w') : Desk w' m2 c2 t2 k2 := by
  obtain ⟨s, hY, hS⟩ := h
  obtain ⟨nx, hb, _⟩ := h2.blk
  have hmb := hY.mach hb ht.1 ht.2.1 ht.2.2.1
  exact h2.only ho (fun e => e.elim (fun e => e.elim hmb.2.1 hmb.2.2) hne) (fun b x t h e => e.elim (hY.multi (hS.big hh) h) (hm.multi' hc h))
theorem YS.cell (h : YS w ab sb sm rb P T hd H f) (hh : HD P T hd) {c : Array Value} {t : TypeId} (hm : Blk w mb c t) (hc : c.size ≠ 1) {b : Nat} {x : Value} {u : TypeId} (hb : Blk w b #[x] u) (ho : Only (fun j => SB sb sm j ∨ j = mb) w w') : Blk w' b #[x] u := by
  obtain ⟨s, hY, hS⟩ := h
  exact hb.only ho (fun e => e.elim (hY.multi (hS.big hh) hb) (hm.multi' hc hb))
end
section
variable {w : World} {ab sb sm rb mb : Nat} {P T hd H was pg x : Int} {f : Int → Int}
theorem popLoadNone (h : Pop1 w mb P T hd was pg) (hY : YS w ab sb sm rb P T hd H f) (hh : HD P T hd) (hp : Tag.pg H < 0) :
    Calls Tryz.prog 11 #[.pointer (some ⟨mb, 0, none⟩), .pointer (some ⟨ab, 0, none⟩)] w fun e w' => e = .returned (.agg #[.int .i64 1, .int .i64 hd, .int .u64 H, .int .u64 H]) ∧ (Desk w' mb (poC P T hd H pg) 78 .done ∧ YS w' ab sb sm rb P T hd H f) ∧ Only (fun j => SB sb sm j ∨ j = mb) w w' := by
  obtain ⟨s, hY, hS⟩ := hY
  have hlt := hY.st.head.lt; have hlt2 := hY.st.row.lt
  have hml : mb < w.heap.size := by obtain ⟨_, hb, _⟩ := Desk.blk h; exact hb.lt
  have hw := StoreS.word_bd hY.st.fit hd
  have ew := hS.top
  rw [ew] at hw
  have st : Stays (fun w => Desk w mb (poC P T hd H pg) 78 .done) := Desk.stays _ _ _ _ (by decide)
  have key := stackPopStep_some (mb := mb) (a := some ⟨ab, 0, none⟩) (Q := fun w' => Desk w' mb (poC P T hd H pg) 78 .done ∧ Yard w' ab sb sm rb P T (s.acc 1 hd (s.word hd))) (S := fun j => SB sb sm j ∨ j = mb) (st.and (fun _ _ ho h => Yard.dids h ho)) (fun j hj => hj.elim (fun e => e.elim (· ▸ hlt) (· ▸ hlt2)) (· ▸ hml)) (fun w1 ho => Desk.stepLoad (poCells P T hd was pg) (by decide) (Desk.adds h ho) (hY.adds ho) (hS.big hh) (hS.inH hh) st (enters_of Tryz.func71 (by kernel_rfl) rfl) (fun w2 nx _ hb _ => by rw [ew]; exact pop_top_none hw.1 hw.2 hp hb))
  refine key.mono ?_
  rintro e w2 ⟨rfl, ⟨h1, h2⟩, h3⟩
  exact ⟨by simp only [ew], ⟨h1, _, h2, hS.load hh (hS.inH hh) 1⟩, h3⟩
theorem popLoadSome (h : Pop1 w mb P T hd was pg) (hY : YS w ab sb sm rb P T hd H f) (hh : HD P T hd) (hp : 0 ≤ Tag.pg H) :
    Calls Tryz.prog 11 #[.pointer (some ⟨mb, 0, none⟩), .pointer (some ⟨ab, 0, none⟩)] w fun e w' => e = .returned (.agg #[.int .i64 1, .int .i64 hd, .int .u64 H, .int .u64 H]) ∧ (Pop2 w' mb P T hd H pg ∧ YS w' ab sb sm rb P T hd H f) ∧ Only (fun j => SB sb sm j ∨ j = mb) w w' := by
  obtain ⟨s, hY, hS⟩ := hY
  have hlt := hY.st.head.lt; have hlt2 := hY.st.row.lt
  have hml : mb < w.heap.size := by obtain ⟨_, hb, _⟩ := Desk.blk h; exact hb.lt
  have hw := StoreS.word_bd hY.st.fit hd
  have ew := hS.top
  rw [ew] at hw
  have st : Stays (fun w => Pop2 w mb P T hd H pg) := Desk.stays _ _ _ _ (by decide)
  have key := stackPopStep_some (mb := mb) (a := some ⟨ab, 0, none⟩) (Q := fun w' => Pop2 w' mb P T hd H pg ∧ Yard w' ab sb sm rb P T (s.acc 1 hd (s.word hd))) (S := fun j => SB sb sm j ∨ j = mb) (st.and (fun _ _ ho h => Yard.dids h ho)) (fun j hj => hj.elim (fun e => e.elim (· ▸ hlt) (· ▸ hlt2)) (· ▸ hml)) (fun w1 ho => Desk.stepLoad (poCells P T hd was pg) (by decide) (Desk.adds h ho) (hY.adds ho) (hS.big hh) (hS.inH hh) st (enters_of Tryz.func71 (by kernel_rfl) rfl) (fun w2 nx _ hb _ => by rw [ew]; exact pop_top_some hw.1 hw.2 hp hb))
  refine key.mono ?_
  rintro e w2 ⟨rfl, ⟨h1, h2⟩, h3⟩
  exact ⟨by simp only [ew], ⟨h1, _, h2, hS.load hh (hS.inH hh) 1⟩, h3⟩
theorem popNext (h : Pop2 w mb P T hd was pg) (hY : YS w ab sb sm rb P T hd H f) (hh : HD P T hd) (hp : 0 ≤ Tag.pg was) (hp2 : Tag.pg was < P) (hwas : 0 ≤ was ∧ was < 18446744073709551616) :
    Calls Tryz.prog 11 #[.pointer (some ⟨mb, 0, none⟩), .pointer (some ⟨ab, 0, none⟩)] w fun e w' => e = .returned (.agg #[.int .i64 1, .int .i64 (Lay.nextAt P T (Tag.pg was)), .int .u64 (f (Tag.pg was)), .int .u64 (f (Tag.pg was))]) ∧ (Pop3 w' mb P T hd was pg (f (Tag.pg was)) ∧ YS w' ab sb sm rb P T hd H f) ∧ Only (fun j => SB sb sm j ∨ j = mb) w w' := by
  obtain ⟨s, hY, hS⟩ := hY
  have hlt := hY.st.head.lt; have hlt2 := hY.st.row.lt
  have hml : mb < w.heap.size := by obtain ⟨_, hb, _⟩ := Desk.blk h; exact hb.lt
  have hw := StoreS.word_bd hY.st.fit hd
  have ew := hS.top
  rw [ew] at hw
  have ex := hS.nx _ hp hp2
  have hx := StoreS.word_bd hY.st.fit (Lay.nextAt P T (Tag.pg was))
  rw [ex] at hx
  have st : Stays (fun w => Pop3 w mb P T hd was pg (f (Tag.pg was))) := fun a b ho => by
    rintro ⟨jm, h2, h3⟩
    exact ⟨jm, h2.dids ho (by decide), Desk.stays _ _ _ _ (by decide) a b ho h3⟩
  have key := stackPopStep_some (mb := mb) (a := some ⟨ab, 0, none⟩) (Q := fun w' => Pop3 w' mb P T hd was pg (f (Tag.pg was)) ∧ Yard w' ab sb sm rb P T (s.acc 1 (Lay.nextAt P T (Tag.pg was)) (s.word (Lay.nextAt P T (Tag.pg was))))) (S := fun j => SB sb sm j ∨ j = mb) (st.and (fun _ _ ho h => Yard.dids h ho)) (fun j hj => hj.elim (fun e => e.elim (· ▸ hlt) (· ▸ hlt2)) (· ▸ hml)) (fun w1 ho => Desk.stepLoad (poCells P T hd was pg) (by decide) (Desk.adds h ho) (hY.adds ho) (hS.big hh) (hS.inN hh _) st (enters_of Tryz.func95 (by kernel_rfl) rfl) (fun w2 nx _ hb _ => by rw [ex]; exact pop_next hwas hx.1 hx.2 hb))
  refine key.mono ?_
  rintro e w2 ⟨rfl, ⟨h1, h2⟩, h3⟩
  exact ⟨by simp only [ex], ⟨h1, _, h2, hS.load hh (hS.inN hh _) 1⟩, h3⟩
theorem popWin (h : Pop3 w mb P T hd was pg x) (hY : YS w ab sb sm rb P T hd H f) (hh : HD P T hd) (hH : H = was) :
    Calls Tryz.prog 11 #[.pointer (some ⟨mb, 0, none⟩), .pointer (some ⟨ab, 0, none⟩)] w fun e w' => e = .returned (.agg #[.int .i64 3, .int .i64 hd, .int .u64 H, .int .u64 (Tag.nx was (underV x))]) ∧ (Desk w' mb (poC P T hd was (Tag.pg was)) 78 .done ∧ YS w' ab sb sm rb P T hd (Tag.nx was (underV x)) f) ∧ Only (fun j => SB sb sm j ∨ j = mb) w w' := by
  obtain ⟨s, hY, hS⟩ := hY
  obtain ⟨jm, hjm, hd'⟩ := h
  have hlt := hY.st.head.lt; have hlt2 := hY.st.row.lt
  have hml : mb < w.heap.size := by obtain ⟨_, hb, _⟩ := Desk.blk hd'; exact hb.lt
  have hw := StoreS.word_bd hY.st.fit hd
  have ew := hS.top
  rw [ew] at hw
  have hb2 : 0 ≤ Tag.nx was (underV x) ∧ Tag.nx was (underV x) < 18446744073709551616 := Tag.mk_bd (by omega) (by omega)
  have st : Stays (fun w => Desk w mb (poC P T hd was (Tag.pg was)) 78 .done) := Desk.stays _ _ _ _ (by decide)
  have key := stackPopStep_some (mb := mb) (a := some ⟨ab, 0, none⟩) (Q := fun w' => Desk w' mb (poC P T hd was (Tag.pg was)) 78 .done ∧ Yard w' ab sb sm rb P T (s.acc 3 hd (Tag.nx was (underV x)))) (S := fun j => SB sb sm j ∨ j = mb) (st.and (fun _ _ ho h => Yard.dids h ho)) (fun j hj => hj.elim (fun e => e.elim (· ▸ hlt) (· ▸ hlt2)) (· ▸ hml)) (fun w1 ho => Desk.stepCasWin (poCells P T hd was pg) (by decide) (hd'.adds ho) (hY.adds ho) (hS.big hh) (hS.inH hh) (ew.trans hH) hb2 st (enters_of Tryz.func128 (by kernel_rfl) rfl) (fun w2 nx hk hb => pop_won (hH ▸ hw) (hk _ _ _ (hjm.only ho id)) hb))
  refine key.mono ?_
  rintro e w2 ⟨rfl, ⟨h1, h2⟩, h3⟩
  exact ⟨by simp only [ew], ⟨h1, _, h2, hS.cas hh _⟩, h3⟩
theorem popLost (h : Pop3 w mb P T hd was pg x) (hY : YS w ab sb sm rb P T hd H f) (hh : HD P T hd) (hH : H ≠ was) :
    Calls Tryz.prog 11 #[.pointer (some ⟨mb, 0, none⟩), .pointer (some ⟨ab, 0, none⟩)] w fun e w' => e = .returned (.agg #[.int .i64 4, .int .i64 hd, .int .u64 H, .int .u64 H]) ∧ (Pop1 w' mb P T hd was pg ∧ YS w' ab sb sm rb P T hd H f) ∧ Only (fun j => SB sb sm j ∨ j = mb) w w' := by
  obtain ⟨s, hY, hS⟩ := hY
  obtain ⟨jm, hjm, hd'⟩ := h
  have hlt := hY.st.head.lt; have hlt2 := hY.st.row.lt
  have hml : mb < w.heap.size := by obtain ⟨_, hb, _⟩ := Desk.blk hd'; exact hb.lt
  have hw := StoreS.word_bd hY.st.fit hd
  have ew := hS.top
  rw [ew] at hw
  have st : Stays (fun w => Pop1 w mb P T hd was pg) := Desk.stays _ _ _ _ (by decide)
  have key := stackPopStep_some (mb := mb) (a := some ⟨ab, 0, none⟩) (Q := fun w' => Pop1 w' mb P T hd was pg ∧ Yard w' ab sb sm rb P T (s.acc 4 hd (s.word hd))) (S := fun j => SB sb sm j ∨ j = mb) (st.and (fun _ _ ho h => Yard.dids h ho)) (fun j hj => hj.elim (fun e => e.elim (· ▸ hlt) (· ▸ hlt2)) (· ▸ hml)) (fun w1 ho => Desk.stepCasLost (poCells P T hd was pg) (by decide) (hd'.adds ho) (hY.adds ho) (hS.big hh) (hS.inH hh) (ew ▸ hH) st (enters_of Tryz.func128 (by kernel_rfl) rfl) (fun w2 nx hk hb _ => pop_lost (hk _ _ _ (hjm.only ho id)) hb))
  refine key.mono ?_
  rintro e w2 ⟨rfl, ⟨h1, h2⟩, h3⟩
  exact ⟨by simp only [ew], ⟨h1, _, h2, hS.load hh (hS.inH hh) 4⟩, h3⟩
theorem pushLoad (h : Push1 w mb P T hd pg) (hY : YS w ab sb sm rb P T hd H f) (hh : HD P T hd)  :
    Calls Tryz.prog 9 #[.pointer (some ⟨mb, 0, none⟩), .pointer (some ⟨ab, 0, none⟩)] w fun e w' => e = .returned (.agg #[.int .i64 1, .int .i64 hd, .int .u64 H, .int .u64 H]) ∧ (Push2 w' mb P T hd pg H ∧ YS w' ab sb sm rb P T hd H f) ∧ Only (fun j => SB sb sm j ∨ j = mb) w w' := by
  obtain ⟨s, hY, hS⟩ := hY
  have hlt := hY.st.head.lt; have hlt2 := hY.st.row.lt
  have hml : mb < w.heap.size := by obtain ⟨_, hb, _⟩ := Desk.blk h; exact hb.lt
  have hw := StoreS.word_bd hY.st.fit hd
  have ew := hS.top
  rw [ew] at hw
  have st : Stays (fun w => Push2 w mb P T hd pg H) := fun a b ho => by
    rintro ⟨jw, jm, h1, h2, h3⟩
    exact ⟨jw, jm, h1.dids ho (by decide), h2.dids ho (by decide), Desk.stays _ _ _ _ (by decide) a b ho h3⟩
  have key := stackPushStep_some (mb := mb) (a := some ⟨ab, 0, none⟩) (Q := fun w' => Push2 w' mb P T hd pg H ∧ Yard w' ab sb sm rb P T (s.acc 1 hd (s.word hd))) (S := fun j => SB sb sm j ∨ j = mb) (st.and (fun _ _ ho h => Yard.dids h ho)) (fun j hj => hj.elim (fun e => e.elim (· ▸ hlt) (· ▸ hlt2)) (· ▸ hml)) (fun w1 ho => Desk.stepLoad (puCells P T hd pg) (by decide) (Desk.adds h ho) (hY.adds ho) (hS.big hh) (hS.inH hh) st (enters_of Tryz.func63 (by kernel_rfl) rfl) (fun w2 nx _ hb _ => by rw [ew]; exact push_top hw.1 hw.2 hb))
  refine key.mono ?_
  rintro e w2 ⟨rfl, ⟨h1, h2⟩, h3⟩
  exact ⟨by simp only [ew], ⟨h1, _, h2, hS.load hh (hS.inH hh) 1⟩, h3⟩
theorem pushPut (h : Push2 w mb P T hd pg x) (hY : YS w ab sb sm rb P T hd H f) (hh : HD P T hd) (h0 : 0 ≤ x) (h1 : x < 18446744073709551616) (h2 : 0 ≤ pg) (h3 : pg < P) :
    Calls Tryz.prog 9 #[.pointer (some ⟨mb, 0, none⟩), .pointer (some ⟨ab, 0, none⟩)] w fun e w' => e = .returned (.agg #[.int .i64 2, .int .i64 (Lay.nextAt P T pg), .int .u64 (f pg), .int .u64 (Tag.pg x + 1)]) ∧ (Push3 w' mb P T hd pg x ∧ YS w' ab sb sm rb P T hd H (fun q => if q = pg then Tag.pg x + 1 else f q)) ∧ Only (fun j => SB sb sm j ∨ j = mb) w w' := by
  obtain ⟨s, hY, hS⟩ := hY
  obtain ⟨jw, jm, hjw, hjm, hd'⟩ := h
  have hlt := hY.st.head.lt; have hlt2 := hY.st.row.lt
  have hml : mb < w.heap.size := by obtain ⟨_, hb, _⟩ := Desk.blk hd'; exact hb.lt
  have hw := StoreS.word_bd hY.st.fit hd
  have ew := hS.top
  rw [ew] at hw
  have ex := hS.nx _ h2 h3
  have hpb := Tag.pg_bd x
  have hwd := hh.words
  have h2' := h2; have h3' := h3
  have st : Stays (fun w => Push3 w mb P T hd pg x) := fun a b ho => by
    rintro ⟨jm, h2, h3⟩
    exact ⟨jm, h2.dids ho (by decide), Desk.stays _ _ _ _ (by decide) a b ho h3⟩
  have key := stackPushStep_some (mb := mb) (a := some ⟨ab, 0, none⟩) (Q := fun w' => Push3 w' mb P T hd pg x ∧ Yard w' ab sb sm rb P T (s.acc 2 (Lay.nextAt P T pg) (Tag.pg x + 1))) (S := fun j => SB sb sm j ∨ j = mb) (st.and (fun _ _ ho h => Yard.dids h ho)) (fun j hj => hj.elim (fun e => e.elim (· ▸ hlt) (· ▸ hlt2)) (· ▸ hml)) (fun w1 ho => Desk.stepPut (puCells P T hd pg) (by decide) (hd'.adds ho) (hY.adds ho) (hS.big hh) (hS.inN hh _) ⟨by omega, by omega⟩ st (enters_of Tryz.func88 (by kernel_rfl) rfl) (fun w2 nx hk hb => push_mid h0 h1 h2 (by omega) (hk _ _ _ (hjw.only ho id)) (hk _ _ _ (hjm.only ho id)) hb))
  refine key.mono ?_
  rintro e w2 ⟨rfl, ⟨h1, h2⟩, h3⟩
  exact ⟨by simp only [ex], ⟨h1, _, h2, hS.put hh h2' h3' _⟩, h3⟩
theorem pushWin (h : Push3 w mb P T hd pg x) (hY : YS w ab sb sm rb P T hd H f) (hh : HD P T hd) (hH : H = x) :
    Calls Tryz.prog 9 #[.pointer (some ⟨mb, 0, none⟩), .pointer (some ⟨ab, 0, none⟩)] w fun e w' => e = .returned (.agg #[.int .i64 3, .int .i64 hd, .int .u64 H, .int .u64 (Tag.nx x pg)]) ∧ (Desk w' mb (puC P T hd pg) 76 .done ∧ YS w' ab sb sm rb P T hd (Tag.nx x pg) f) ∧ Only (fun j => SB sb sm j ∨ j = mb) w w' := by
  obtain ⟨s, hY, hS⟩ := hY
  obtain ⟨jm, hjm, hd'⟩ := h
  have hlt := hY.st.head.lt; have hlt2 := hY.st.row.lt
  have hml : mb < w.heap.size := by obtain ⟨_, hb, _⟩ := Desk.blk hd'; exact hb.lt
  have hw := StoreS.word_bd hY.st.fit hd
  have ew := hS.top
  rw [ew] at hw
  have hb2 : 0 ≤ Tag.nx x pg ∧ Tag.nx x pg < 18446744073709551616 := Tag.mk_bd (by omega) (by omega)
  have st : Stays (fun w => Desk w mb (puC P T hd pg) 76 .done) := Desk.stays _ _ _ _ (by decide)
  have key := stackPushStep_some (mb := mb) (a := some ⟨ab, 0, none⟩) (Q := fun w' => Desk w' mb (puC P T hd pg) 76 .done ∧ Yard w' ab sb sm rb P T (s.acc 3 hd (Tag.nx x pg))) (S := fun j => SB sb sm j ∨ j = mb) (st.and (fun _ _ ho h => Yard.dids h ho)) (fun j hj => hj.elim (fun e => e.elim (· ▸ hlt) (· ▸ hlt2)) (· ▸ hml)) (fun w1 ho => Desk.stepCasWin (puCells P T hd pg) (by decide) (hd'.adds ho) (hY.adds ho) (hS.big hh) (hS.inH hh) (ew.trans hH) hb2 st (enters_of Tryz.func91 (by kernel_rfl) rfl) (fun w2 nx hk hb => push_won (hk _ _ _ (hjm.only ho id)) hb))
  refine key.mono ?_
  rintro e w2 ⟨rfl, ⟨h1, h2⟩, h3⟩
  exact ⟨by simp only [ew], ⟨h1, _, h2, hS.cas hh _⟩, h3⟩
theorem pushLost (h : Push3 w mb P T hd pg x) (hY : YS w ab sb sm rb P T hd H f) (hh : HD P T hd) (hH : H ≠ x) :
    Calls Tryz.prog 9 #[.pointer (some ⟨mb, 0, none⟩), .pointer (some ⟨ab, 0, none⟩)] w fun e w' => e = .returned (.agg #[.int .i64 4, .int .i64 hd, .int .u64 H, .int .u64 H]) ∧ (Push1 w' mb P T hd pg ∧ YS w' ab sb sm rb P T hd H f) ∧ Only (fun j => SB sb sm j ∨ j = mb) w w' := by
  obtain ⟨s, hY, hS⟩ := hY
  obtain ⟨jm, hjm, hd'⟩ := h
  have hlt := hY.st.head.lt; have hlt2 := hY.st.row.lt
  have hml : mb < w.heap.size := by obtain ⟨_, hb, _⟩ := Desk.blk hd'; exact hb.lt
  have hw := StoreS.word_bd hY.st.fit hd
  have ew := hS.top
  rw [ew] at hw
  have st : Stays (fun w => Push1 w mb P T hd pg) := Desk.stays _ _ _ _ (by decide)
  have key := stackPushStep_some (mb := mb) (a := some ⟨ab, 0, none⟩) (Q := fun w' => Push1 w' mb P T hd pg ∧ Yard w' ab sb sm rb P T (s.acc 4 hd (s.word hd))) (S := fun j => SB sb sm j ∨ j = mb) (st.and (fun _ _ ho h => Yard.dids h ho)) (fun j hj => hj.elim (fun e => e.elim (· ▸ hlt) (· ▸ hlt2)) (· ▸ hml)) (fun w1 ho => Desk.stepCasLost (puCells P T hd pg) (by decide) (hd'.adds ho) (hY.adds ho) (hS.big hh) (hS.inH hh) (ew ▸ hH) st (enters_of Tryz.func91 (by kernel_rfl) rfl) (fun w2 nx hk hb _ => push_lost (hk _ _ _ (hjm.only ho id)) hb))
  refine key.mono ?_
  rintro e w2 ⟨rfl, ⟨h1, h2⟩, h3⟩
  exact ⟨by simp only [ew], ⟨h1, _, h2, hS.load hh (hS.inH hh) 4⟩, h3⟩
end
section
variable {w : World} {mb : Nat} {P T hd was pg x : Int}
theorem popIdle {a : Option Addr} (h : Desk w mb (poC P T hd was pg) 78 .done) : Calls Tryz.prog 11 #[.pointer (some ⟨mb, 0, none⟩), .pointer a] w fun e w' => e = .returned (.agg #[.int .i64 0, .int .i64 0, .int .u64 0, .int .u64 0]) ∧ Adds w w' :=
  (stackPopStep_some (Q := fun _ => True) (S := fun _ => False) (fun _ _ _ _ => trivial) (fun _ e => e.elim) (fun _ ho => (deskStep_done ((Blk.only h ho id).cell 2)).mono (fun _ _ h => ⟨h.1, trivial, h.2⟩))).mono (fun _ _ h => ⟨h.1, h.2.2⟩)
theorem popPage_any {k : DK} (h : Desk w mb (poC P T hd was pg) 78 k) : Calls Tryz.prog 13 #[.pointer (some ⟨mb, 0, none⟩)] w fun e w' => e = .returned (.int .i64 pg) ∧ w = w' := by
  obtain ⟨nx, hb, _⟩ := h.blk
  have c5 : w.cell? ⟨mb, 5, none⟩ = some (.int .i64 pg) := hb.cell 5
  clear h hb
  go_enter Tryz.func13, Tryz.ntmps13
  go_wp2
  go_ret
  exact ⟨rfl, rfl⟩
theorem popDone_any {k : DK} (h : Desk w mb (poC P T hd was pg) 78 k) (hk : k ≠ .done) : Calls Tryz.prog 12 #[.pointer (some ⟨mb, 0, none⟩)] w fun e w' => e = .returned (.bool false) ∧ w = w' := by
  obtain ⟨nx, hb, hl⟩ := h.blk
  obtain ⟨fn, a, b, rfl⟩ := hl hk
  exact stackPopDone_no (hb.cell 2)
theorem pushDone_any {k : DK} (h : Desk w mb (puC P T hd pg) 76 k) (hk : k ≠ .done) : Calls Tryz.prog 10 #[.pointer (some ⟨mb, 0, none⟩)] w fun e w' => e = .returned (.bool false) ∧ w = w' := by
  obtain ⟨nx, hb, hl⟩ := h.blk
  obtain ⟨fn, a, b, rfl⟩ := hl hk
  exact stackPushDone_no (hb.cell 2)
end
end Go.Proofs.YthhnpcniijpfeaaGreat

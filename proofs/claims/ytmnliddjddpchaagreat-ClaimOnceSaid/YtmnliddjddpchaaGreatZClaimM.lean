/- Package claim: its closures, one by one. By an AI agent. -/
import Derived.Test.YtmnliddjddpchaaGreatZE
import Derived.Test.YtmnliddjddpchaaGreatZStackM
import Derived.Test.YtmnliddjddpchaaGreatZ9
import Derived.Test.YtmnliddjddpchaaGreatZDocClaim
import Derived.Deep.RegionHeld3
namespace Go.Proofs.YtmnliddjddpchaaGreat
open Go.RowKit
set_option linter.unusedSimpArgs false
set_option linter.unusedVariables false
theorem sweepStep_meth (pb : Nat) (W : World) : Sem.run Tryz.prog (method 358 190 (.pointer (some ⟨pb, 0, none⟩)) "Step") W = .ok (243, .pointer (some ⟨pb, 0, none⟩)) W := by kernel_rfl
theorem sweepDone_meth (pb : Nat) (W : World) : Sem.run Tryz.prog (method 358 190 (.pointer (some ⟨pb, 0, none⟩)) "Done") W = .ok (242, .pointer (some ⟨pb, 0, none⟩)) W := by kernel_rfl
set_option maxRecDepth 100000 in
set_option maxHeartbeats 2000000 in
/-- What it does, if the other machine is a pop, and not done behind its step. -/
theorem run1_pop_on {w : World} {a : Option Addr} {n pb K : Nat} {f1 cap : Array Value} {k i o nw : Int} (h : HasRun w n (.iface 101 (.pointer (some ⟨pb, 0, none⟩))) (.func (.func K) f1 cap))
    {Q : World → Prop} (hstQ : Stays Q) {S : Nat → Prop} (hSl : ∀ j, S j → j < w.heap.size) (hn : ¬ S n) (hn1 : ¬ S (n + 1))
    (hS : ∀ w1, Adds w w1 → Calls Tryz.prog 240 #[.pointer (some ⟨pb, 0, none⟩), .pointer a] w1 fun e w' => e = .returned (.agg #[.int .i64 k, .int .i64 i, .int .u64 o, .int .u64 nw]) ∧ Q w' ∧ Only S w1 w')
    (hD : ∀ W, Q W → Calls Tryz.prog 239 #[.pointer (some ⟨pb, 0, none⟩)] W fun e w' => e = .returned (.bool false) ∧ W = w') :
    Calls Tryz.prog 98 #[.pointer a, .pointer (some ⟨n, 0, none⟩), .pointer (some ⟨n + 1, 0, none⟩)] w fun e w' => e = .returned (.agg #[.int .i64 k, .int .i64 i, .int .u64 o, .int .u64 nw]) ∧ Q w' ∧ Only S w w' := by
  obtain ⟨wR, hR⟩ : ∃ wR, wR = w.alloc (.cells #[.int .i64 0, .int .i64 0, .int .u64 0, .int .u64 0] 41) := ⟨_, rfl⟩
  have hBR : Hid (Blk wR w.heap.size #[.int .i64 0, .int .i64 0, .int .u64 0, .int .u64 0] 41) := by rw [hR]; exact Lib.hid (Blk.new _ _ _)
  have hAR : Hid (Adds w wR) := by rw [hR]; exact Lib.hid ((Only.refl _ _).alloc _)
  have hr := h.adds hAR.out
  have k0 := h.b0.one
  have H := Lib.hid hr; have HS := Lib.hid (hS wR hAR.out); have HD := Lib.hid hD; have HN := Lib.hid hn; have HN1 := Lib.hid hn1; have HSL := Lib.hid hSl
  have HQ := Lib.hid hstQ
  have HW := Lib.hid hR
  have hl := h.b0.lt
  have hmS := fun W => popStep_meth pb W
  have hmD := fun W => popDone_meth pb W
  have hk := HS.out
  rw [hR] at hk
  have HK := Lib.hid hk
  clear h hS hD hn hn1 hSl hR hr hk HS
  go_enter Tryz.func98, Tryz.ntmps98
  go_wp2_with (first
    | (go_at_call 240; refine HK.out.mono ?_; rintro e w2 ⟨rfl, hq, ho2⟩; rw [← HW.out] at ho2; have hB := hBR.out.only ho2 (fun e => Nat.lt_irrefl _ (HSL.out _ e)); have HB := Lib.hid hB; have hr2 := H.out.only ho2 (fun j h1 h2 => by obtain rfl | rfl := (show j = n ∨ j = n + 1 by omega); exact HN.out; exact HN1.out); have k2 := hr2.b0.one; have k3 := hr2.b1.one; have l2 := hr2.b0.lt; have l3 := hr2.b1.lt; have HQ2 := Lib.hid hq; have HO2 := Lib.hid ((hAR.out.mono (T := S) (fun _ _ e => e.elim)).trans ho2); have HX := Lib.hid (Blk.new w2 #[.int .i64 k, .int .i64 i, .int .u64 o, .int .u64 nw] 41); clear hB hr2 hq ho2)
    | (go_at_call 239; refine (HD.out _ (HQ.out _ _ (((Only.refl (Dids w2) w2).alloc _)) HQ2.out)).mono ?_; rintro e w3 ⟨rfl, rfl⟩; have hx := HX.out; obtain ⟨x0, x1, x2, x3, -⟩ := hx.four; have hB := HB.out.alloc (.cells #[.int .i64 k, .int .i64 i, .int .u64 o, .int .u64 nw] 41); obtain ⟨q0, q1, q2, q3, f0, f1, f2, f3⟩ := hB.four; have HB4 := Lib.hid hB; clear hB hx))
  exact bodyPost_ret (v := .agg #[.int .i64 k, .int .i64 i, .int .u64 o, .int .u64 nw]) (by simp [q0, q1, q2, q3, results, Tryz.results98, go_sem]) rfl ⟨rfl, HQ.out.box HB4.out (HQ.out _ _ ((Only.refl (Dids w2) w2).alloc _) HQ2.out) _ _ _ _, only_box4 (HO2.out.alloc _) (.inr (Nat.le_refl _)) _ _ _ _⟩
set_option maxRecDepth 100000 in
set_option maxHeartbeats 2000000 in
/-- What it does, if the other machine is a sweep, and done behind its step. -/
theorem run1_sweep {w : World} {a : Option Addr} {n pb K : Nat} {f1 cap : Array Value} {k i o nw : Int} (h : HasRun w n (.iface 190 (.pointer (some ⟨pb, 0, none⟩))) (.func (.func K) f1 cap))
    {Q R : World → Prop} (hstQ : Stays Q) (hstR : Stays R) {S M : Nat → Prop} (hSl : ∀ j, S j → j < w.heap.size) (hMl : ∀ j, M j → j < w.heap.size) (hn : ¬ S n) (hn1 : ¬ S (n + 1))
    (hS : ∀ w1, Adds w w1 → Calls Tryz.prog 243 #[.pointer (some ⟨pb, 0, none⟩), .pointer a] w1 fun e w' => e = .returned (.agg #[.int .i64 k, .int .i64 i, .int .u64 o, .int .u64 nw]) ∧ Q w' ∧ Only S w1 w')
    (hD : ∀ W, Q W → Calls Tryz.prog 242 #[.pointer (some ⟨pb, 0, none⟩)] W fun e w' => e = .returned (.bool true) ∧ W = w') (eg : Enters Tryz.prog K)
    (hT : ∀ W, Only S w W → Q W → Calls Tryz.prog K (f1 ++ cap) W fun e w2 => e = .returned (.tuple #[]) ∧ R w2 ∧ Only M W w2) :
    Calls Tryz.prog 98 #[.pointer a, .pointer (some ⟨n, 0, none⟩), .pointer (some ⟨n + 1, 0, none⟩)] w fun e w' => e = .returned (.agg #[.int .i64 k, .int .i64 i, .int .u64 o, .int .u64 nw]) ∧ R w' ∧ Only (fun j => S j ∨ M j) w w' := by
  obtain ⟨wR, hR⟩ : ∃ wR, wR = w.alloc (.cells #[.int .i64 0, .int .i64 0, .int .u64 0, .int .u64 0] 41) := ⟨_, rfl⟩
  have hBR : Hid (Blk wR w.heap.size #[.int .i64 0, .int .i64 0, .int .u64 0, .int .u64 0] 41) := by rw [hR]; exact Lib.hid (Blk.new _ _ _)
  have hAR : Hid (Adds w wR) := by rw [hR]; exact Lib.hid ((Only.refl _ _).alloc _)
  have hr := h.adds hAR.out
  have k0 := h.b0.one
  have H := Lib.hid hr; have HS := Lib.hid (hS wR hAR.out); have HD := Lib.hid hD; have HN := Lib.hid hn; have HN1 := Lib.hid hn1; have HT := Lib.hid hT; have HM := Lib.hid hMl; have HSL := Lib.hid hSl
  have HQ := Lib.hid hstQ; have HRR := Lib.hid hstR
  have eg' : ∀ args W, (callFunc K args).run Tryz.prog W = .ok (.enter K args) W := eg
  have HW := Lib.hid hR
  have hl := h.b0.lt
  have hmS := fun W => sweepStep_meth pb W
  have hmD := fun W => sweepDone_meth pb W
  have hk := HS.out
  rw [hR] at hk
  have HK := Lib.hid hk
  clear h hS hD hn hn1 hT hMl hSl hR hr hk HS
  go_enter Tryz.func98, Tryz.ntmps98
  go_wp2_with (first
    | (go_at_call 243; refine HK.out.mono ?_; rintro e w2 ⟨rfl, hq, ho2⟩; rw [← HW.out] at ho2; have hB := hBR.out.only ho2 (fun e => Nat.lt_irrefl _ (HSL.out _ e)); have HB := Lib.hid hB; have hr2 := H.out.only ho2 (fun j h1 h2 => by obtain rfl | rfl := (show j = n ∨ j = n + 1 by omega); exact HN.out; exact HN1.out); have k2 := hr2.b0.one; have k3 := hr2.b1.one; have l2 := hr2.b0.lt; have l3 := hr2.b1.lt; have HQ2 := Lib.hid hq; have HO2 := Lib.hid ((hAR.out.mono (T := S) (fun _ _ e => e.elim)).trans ho2); have HX := Lib.hid (Blk.new w2 #[.int .i64 k, .int .i64 i, .int .u64 o, .int .u64 nw] 41); clear hB hr2 hq ho2)
    | (go_at_call 242; refine (HD.out _ (HQ.out _ _ (((Only.refl (Dids w2) w2).alloc _)) HQ2.out)).mono ?_; rintro e w3 ⟨rfl, rfl⟩)
    | (go_at_fn K; refine (HT.out _ (HO2.out.alloc _) (HQ.out _ _ (((Only.refl (Dids w2) w2).alloc _)) HQ2.out)).mono ?_; rintro e w4 ⟨rfl, hr4, ho4⟩; have hx := HX.out.only ho4 (fun e => by have h1 := HM.out _ e; have h2 := HO2.out.size; omega); obtain ⟨x0, x1, x2, x3, -⟩ := hx.four; have hB := (HB.out.alloc _).only ho4 (fun e => Nat.lt_irrefl _ (HM.out _ e)); obtain ⟨q0, q1, q2, q3, f0, f1, f2, f3⟩ := hB.four; have HR4 := Lib.hid hr4; have HB4 := Lib.hid hB; have HO4 := Lib.hid ho4; clear hr4 hB ho4 hx))
  exact bodyPost_ret (v := .agg #[.int .i64 k, .int .i64 i, .int .u64 o, .int .u64 nw]) (by simp [q0, q1, q2, q3, results, Tryz.results98, go_sem]) rfl ⟨rfl, HRR.out.box HB4.out HR4.out _ _ _ _, only_box4 (((HO2.out.alloc _).mono (T := fun j => S j ∨ M j) (fun _ _ e => .inl e)).trans (HO4.out.mono (T := fun j => S j ∨ M j) (fun _ _ e => .inr e))) (.inr (Nat.le_refl _)) _ _ _ _⟩
set_option maxRecDepth 100000 in
set_option maxHeartbeats 2000000 in
/-- What it does, if the other machine is a sweep, and not done behind its step. -/
theorem run1_sweep_on {w : World} {a : Option Addr} {n pb K : Nat} {f1 cap : Array Value} {k i o nw : Int} (h : HasRun w n (.iface 190 (.pointer (some ⟨pb, 0, none⟩))) (.func (.func K) f1 cap))
    {Q : World → Prop} (hstQ : Stays Q) {S : Nat → Prop} (hSl : ∀ j, S j → j < w.heap.size) (hn : ¬ S n) (hn1 : ¬ S (n + 1))
    (hS : ∀ w1, Adds w w1 → Calls Tryz.prog 243 #[.pointer (some ⟨pb, 0, none⟩), .pointer a] w1 fun e w' => e = .returned (.agg #[.int .i64 k, .int .i64 i, .int .u64 o, .int .u64 nw]) ∧ Q w' ∧ Only S w1 w')
    (hD : ∀ W, Q W → Calls Tryz.prog 242 #[.pointer (some ⟨pb, 0, none⟩)] W fun e w' => e = .returned (.bool false) ∧ W = w') :
    Calls Tryz.prog 98 #[.pointer a, .pointer (some ⟨n, 0, none⟩), .pointer (some ⟨n + 1, 0, none⟩)] w fun e w' => e = .returned (.agg #[.int .i64 k, .int .i64 i, .int .u64 o, .int .u64 nw]) ∧ Q w' ∧ Only S w w' := by
  obtain ⟨wR, hR⟩ : ∃ wR, wR = w.alloc (.cells #[.int .i64 0, .int .i64 0, .int .u64 0, .int .u64 0] 41) := ⟨_, rfl⟩
  have hBR : Hid (Blk wR w.heap.size #[.int .i64 0, .int .i64 0, .int .u64 0, .int .u64 0] 41) := by rw [hR]; exact Lib.hid (Blk.new _ _ _)
  have hAR : Hid (Adds w wR) := by rw [hR]; exact Lib.hid ((Only.refl _ _).alloc _)
  have hr := h.adds hAR.out
  have k0 := h.b0.one
  have H := Lib.hid hr; have HS := Lib.hid (hS wR hAR.out); have HD := Lib.hid hD; have HN := Lib.hid hn; have HN1 := Lib.hid hn1; have HSL := Lib.hid hSl
  have HQ := Lib.hid hstQ
  have HW := Lib.hid hR
  have hl := h.b0.lt
  have hmS := fun W => sweepStep_meth pb W
  have hmD := fun W => sweepDone_meth pb W
  have hk := HS.out
  rw [hR] at hk
  have HK := Lib.hid hk
  clear h hS hD hn hn1 hSl hR hr hk HS
  go_enter Tryz.func98, Tryz.ntmps98
  go_wp2_with (first
    | (go_at_call 243; refine HK.out.mono ?_; rintro e w2 ⟨rfl, hq, ho2⟩; rw [← HW.out] at ho2; have hB := hBR.out.only ho2 (fun e => Nat.lt_irrefl _ (HSL.out _ e)); have HB := Lib.hid hB; have hr2 := H.out.only ho2 (fun j h1 h2 => by obtain rfl | rfl := (show j = n ∨ j = n + 1 by omega); exact HN.out; exact HN1.out); have k2 := hr2.b0.one; have k3 := hr2.b1.one; have l2 := hr2.b0.lt; have l3 := hr2.b1.lt; have HQ2 := Lib.hid hq; have HO2 := Lib.hid ((hAR.out.mono (T := S) (fun _ _ e => e.elim)).trans ho2); have HX := Lib.hid (Blk.new w2 #[.int .i64 k, .int .i64 i, .int .u64 o, .int .u64 nw] 41); clear hB hr2 hq ho2)
    | (go_at_call 242; refine (HD.out _ (HQ.out _ _ (((Only.refl (Dids w2) w2).alloc _)) HQ2.out)).mono ?_; rintro e w3 ⟨rfl, rfl⟩; have hx := HX.out; obtain ⟨x0, x1, x2, x3, -⟩ := hx.four; have hB := HB.out.alloc (.cells #[.int .i64 k, .int .i64 i, .int .u64 o, .int .u64 nw] 41); obtain ⟨q0, q1, q2, q3, f0, f1, f2, f3⟩ := hB.four; have HB4 := Lib.hid hB; clear hB hx))
  exact bodyPost_ret (v := .agg #[.int .i64 k, .int .i64 i, .int .u64 o, .int .u64 nw]) (by simp [q0, q1, q2, q3, results, Tryz.results98, go_sem]) rfl ⟨rfl, HQ.out.box HB4.out (HQ.out _ _ ((Only.refl (Dids w2) w2).alloc _) HQ2.out) _ _ _ _, only_box4 (HO2.out.alloc _) (.inr (Nat.le_refl _)) _ _ _ _⟩
abbrev clFound (mb : Nat) : Value := .func (.func 99) #[.pointer (some ⟨mb, 0, none⟩)] #[]
abbrev clHeld (jm : Nat) : Value := .func (.func 152) #[] #[.pointer (some ⟨jm, 0, none⟩)]
abbrev clHand (jm : Nat) : Value := .func (.func 157) #[] #[.pointer (some ⟨jm, 0, none⟩)]
abbrev clHad (mb : Nat) : Value := .func (.func 154) #[.pointer (some ⟨mb, 0, none⟩)] #[]
theorem clCells (P T hd gen st tk pgv held hand : Int) : Cells (clC P T hd gen st tk pgv held hand) P T := ⟨fun _ => rfl, fun _ => rfl, fun _ => rfl, fun _ _ => rfl⟩
section
variable {w w' : World} {mb pb jm n bp bm : Nat} {P T hd gen st tk pgv held hand x : Int} {nx : Value}
set_option maxRecDepth 100000 in
set_option maxHeartbeats 2000000 in
theorem claimLook_any (h : Blk w mb (clC P T hd gen st tk pgv held hand nx) 76) :
    Calls Tryz.prog 54 #[.pointer (some ⟨mb, 0, none⟩)] w fun e w' => e = .returned (.tuple #[]) ∧ Desk w' mb (clC P T hd gen st tk pgv held hand) 76 (.load st (clFound mb)) ∧ Only (· = mb) w w' := by
  have HB := Lib.hid h
  have c5 : w.cell? ⟨mb, 5, none⟩ = some (.int .i64 st) := h.cell 5
  clear h
  go_enter Tryz.func54, Tryz.ntmps54
  go_wp2_with fail
  go_region_held3 (fun W => W.cell? ⟨mb, 5, none⟩ = some (.int .i64 st) ∧ True)
    (first | assumption | (exact ⟨c5, trivial⟩) | (exact ⟨hb3.cell 5, trivial⟩))
    (first
    | (go_at_call 96; with_reducible refine (deskLoad_any HB.out.drew (by simp) st _ _ _).mono ?_; rintro e w4 ⟨rfl, hb3, hc3, ho3⟩; have HC := Lib.hid (And.intro hb3 (And.intro hc3 ho3))))
  all_goals
    go_wp2
    go_end0
    obtain ⟨b3, c3', o3⟩ := HC.out
    exact ⟨rfl, ⟨_, b3, c3'⟩, ((Only.refl (fun x => x = mb) w).drew).trans o3⟩
set_option maxHeartbeats 2000000 in
theorem claimHad_any (h : Blk w mb (clC P T hd gen st tk pgv held hand nx) 76) :
    Calls Tryz.prog 154 #[.pointer (some ⟨mb, 0, none⟩)] w fun e w' => e = .returned (.tuple #[]) ∧ Desk w' mb (clC P T hd gen st tk tk held hand) 76 .done ∧ Only (· = mb) w w' := by
  have HB := Lib.hid (show Blk (w.setCell ⟨mb, 7, none⟩ (.int .i64 tk)) mb (clC P T hd gen st tk tk held hand nx) 76 from h.setCell 7 _)
  have c6 : w.cell? ⟨mb, 6, none⟩ = some (.int .i64 tk) := h.cell 6
  have c7 : w.cell? ⟨mb, 7, none⟩ = some (.int .i64 pgv) := h.cell 7
  have f7 := h.frozen 7
  clear h
  go_enter Tryz.func154, Tryz.ntmps154
  go_wp2_with (go_at_call 52; refine (deskEnd_any HB.out (by simp)).mono ?_; rintro e w1 ⟨rfl, rfl⟩)
  go_end0
  exact ⟨rfl, HB.out.setCell 2 _, ((Only.refl (fun x => x = mb) w).setCell (.inl rfl) _).setCell (.inl rfl) _⟩

set_option maxRecDepth 100000 in
set_option maxHeartbeats 2000000 in
theorem found_held (h0 : 0 ≤ x) (h1 : x < 18446744073709551616) (hw : Ph.waits x gen = true) (h : Blk w mb (clC P T hd gen st tk pgv held hand nx) 76) :
    Calls Tryz.prog 99 #[.pointer (some ⟨mb, 0, none⟩), .int .u64 x] w fun e w' => e = .returned (.tuple #[]) ∧ ∃ jm, Blk w' jm #[.pointer (some ⟨mb, 0, none⟩)] 37 ∧ Desk w' mb (clC P T hd gen st tk pgv held hand) 76 (.cas st x held (clHeld jm)) ∧ Only (· = mb) w w' := by
  have HWA := Lib.hid hw
  clear hw
  have hl := h.lt
  obtain ⟨wB, hW⟩ : ∃ wB, wB = w.alloc (.cells #[.pointer (some ⟨mb, 0, none⟩)] 37) := ⟨_, rfl⟩
  have HM : Hid (Blk wB w.heap.size #[.pointer (some ⟨mb, 0, none⟩)] 37) := by rw [hW]; exact Lib.hid (Blk.new w _ _)
  have HB : Hid (Blk wB mb (clC P T hd gen st tk pgv held hand nx) 76) := by rw [hW]; exact Lib.hid (h.alloc _)
  have HA : Hid (Adds w wB) := by rw [hW]; exact Lib.hid ((Only.refl _ _).alloc _)
  have HW := Lib.hid hW
  have nM := Lib.hid (HB.out.multi' (by simp) HM.out)
  obtain ⟨jm, hjm⟩ : ∃ jm, jm = w.heap.size := ⟨_, rfl⟩
  rw [← hjm] at HM nM
  have HJ := Lib.hid hjm
  have c0 := HM.out.one
  have c4 : wB.cell? ⟨mb, 4, none⟩ = some (.int .i64 gen) := HB.out.cell 4
  have H01 := Lib.hid (And.intro h0 h1)
  clear h hW h0 h1 hjm
  go_enter Tryz.func99, Tryz.ntmps99
  go_upto_region 2 with fail
  rw [← HW.out, ← HJ.out]
  go_upto_region 3 with (go_at_call 150; refine (phWaits_any x gen _ H01.out.1 H01.out.2).mono ?_; rintro e w3 ⟨rfl, k, rfl⟩; rw [HWA.out])
  have hO1 : Adds wB (wB.drewN k) := (Only.refl (fun _ => False) wB).drewN k
  have HM1 := Lib.hid (HM.out.only hO1 id); have HB1 := Lib.hid (HB.out.only hO1 id); have HO1 := Lib.hid (HA.out.thenF hO1)
  obtain ⟨wk1, hwk1⟩ : ∃ wk, wk = wB.drewN k := ⟨_, rfl⟩
  rw [← hwk1] at HM1 HB1 HO1
  try rw [← hwk1]
  have d0 := HM1.out.one
  have d4 : wk1.cell? ⟨mb, 4, none⟩ = some (.int .i64 gen) := HB1.out.cell 4
  have d5 : wk1.cell? ⟨mb, 5, none⟩ = some (.int .i64 st) := HB1.out.cell 5
  have d8 : wk1.cell? ⟨mb, 8, none⟩ = some (.int .u64 held) := HB1.out.cell 8
  have d9 : wk1.cell? ⟨mb, 9, none⟩ = some (.int .u64 hand) := HB1.out.cell 9
  clear hO1 hwk1 c0 c4 d4 d9
  go_region_held3 (fun W => W.cell? ⟨jm, 0, none⟩ = some (.pointer (some ⟨mb, 0, none⟩)) ∧ W.cell? ⟨mb, 5, none⟩ = some (.int .i64 st) ∧ W.cell? ⟨mb, 8, none⟩ = some (.int .u64 held) ∧ True)
    (first | assumption | (exact ⟨d0, d5, d8, trivial⟩) | (exact ⟨(HM1.out.drew.only ho3 nM.out).one, hb3.cell 5, hb3.cell 8, trivial⟩))
    (first
    | (go_at_call 151; with_reducible refine (deskCas_any HB1.out.drew (by simp) st x held _ _ _).mono ?_; rintro e w4 ⟨rfl, hb3, hc3, ho3⟩; have HC := Lib.hid (And.intro hb3 (And.intro hc3 ho3))))
  all_goals
    go_wp2
    go_end0
    obtain ⟨b3, c3', o3⟩ := HC.out
    exact ⟨rfl, jm, HM1.out.drew.only o3 nM.out, ⟨_, b3, c3'⟩, ((HO1.out.drew).mono (fun _ _ e => e.elim)).trans o3⟩
set_option maxRecDepth 100000 in
set_option maxHeartbeats 2000000 in
theorem found_other (h0 : 0 ≤ x) (h1 : x < 18446744073709551616) (hw : Ph.waits x gen = false) (hge : Ph.gen x ≠ gen) (hh : Lay.isHead P T hd = true) (h : Blk w mb (clC P T hd gen st tk pgv held hand nx) 76) :
    Calls Tryz.prog 99 #[.pointer (some ⟨mb, 0, none⟩), .int .u64 x] w fun e w' => e = .returned (.tuple #[]) ∧ (∃ pb n bp bm, ClPop w' mb pb (clC P T hd gen st tk pgv held hand) n bp bm ∧ Pop1 w' pb P T hd 0 (-1) ∧ w.heap.size ≤ pb) ∧ Only (· = mb) w w' := by
  have HWA := Lib.hid hw
  obtain ⟨gx, hgx⟩ : ∃ gx, Ph.gen x = gx := ⟨_, rfl⟩
  rw [hgx] at hge
  have HGE := Lib.hid hgx
  have e1 : (gx != gen) = true := by simpa using hge
  have HH := Lib.hid hh
  clear hw hgx hge hh
  have hl := h.lt
  obtain ⟨wB, hW⟩ : ∃ wB, wB = w.alloc (.cells #[.pointer (some ⟨mb, 0, none⟩)] 37) := ⟨_, rfl⟩
  have HM : Hid (Blk wB w.heap.size #[.pointer (some ⟨mb, 0, none⟩)] 37) := by rw [hW]; exact Lib.hid (Blk.new w _ _)
  have HB : Hid (Blk wB mb (clC P T hd gen st tk pgv held hand nx) 76) := by rw [hW]; exact Lib.hid (h.alloc _)
  have HA : Hid (Adds w wB) := by rw [hW]; exact Lib.hid ((Only.refl _ _).alloc _)
  have HW := Lib.hid hW
  have nM := Lib.hid (HB.out.multi' (by simp) HM.out)
  obtain ⟨jm, hjm⟩ : ∃ jm, jm = w.heap.size := ⟨_, rfl⟩
  rw [← hjm] at HM nM
  have HJ := Lib.hid hjm
  have c0 := HM.out.one
  have c4 : wB.cell? ⟨mb, 4, none⟩ = some (.int .i64 gen) := HB.out.cell 4
  have H01 := Lib.hid (And.intro h0 h1)
  clear h hW h0 h1 hjm
  go_enter Tryz.func99, Tryz.ntmps99
  go_upto_region 2 with fail
  rw [← HW.out, ← HJ.out]
  go_upto_region 4 with (go_at_call 150; refine (phWaits_any x gen _ H01.out.1 H01.out.2).mono ?_; rintro e w3 ⟨rfl, k, rfl⟩; rw [HWA.out])
  have hO1 : Adds wB (wB.drewN k) := (Only.refl (fun _ => False) wB).drewN k
  have HM1 := Lib.hid (HM.out.only hO1 id); have HB1 := Lib.hid (HB.out.only hO1 id); have HO1 := Lib.hid (HA.out.thenF hO1)
  obtain ⟨wk1, hwk1⟩ : ∃ wk, wk = wB.drewN k := ⟨_, rfl⟩
  rw [← hwk1] at HM1 HB1 HO1
  try rw [← hwk1]
  have d0 := HM1.out.one
  have d4 : wk1.cell? ⟨mb, 4, none⟩ = some (.int .i64 gen) := HB1.out.cell 4
  have d5 : wk1.cell? ⟨mb, 5, none⟩ = some (.int .i64 st) := HB1.out.cell 5
  have d8 : wk1.cell? ⟨mb, 8, none⟩ = some (.int .u64 held) := HB1.out.cell 8
  have d9 : wk1.cell? ⟨mb, 9, none⟩ = some (.int .u64 hand) := HB1.out.cell 9
  rw [← hwk1] at hO1
  clear hwk1 c0 c4 d8 d9
  go_region_held3 (fun W => W.cell? ⟨jm, 0, none⟩ = some (.pointer (some ⟨mb, 0, none⟩)) ∧ W.cell? ⟨mb, 4, none⟩ = some (.int .i64 gen) ∧ Adds wB W)
    (first | assumption | (exact ⟨d0, d4, hO1.drew⟩) | (exact ⟨d0, d4, hO1⟩) | (exact ⟨(HM1.out.only (((Only.refl (fun _ => False) wk1)).drewN _) id).one, (HB1.out.only (((Only.refl (fun _ => False) wk1)).drewN _) id).cell 4, hO1.drewN _⟩))
    (first
    | (go_at_call 155; refine (phGen_any x _ H01.out.1 H01.out.2).mono ?_; rintro e w4 ⟨rfl, k2, rfl⟩; rw [HGE.out]))
  rename_i hH4
  clear hH4
  have hO2 : Adds wB (wk1.drewN (1 + k2)) := hO1.drewN _
  have HM2 := Lib.hid (HM.out.only hO2 id); have HB2 := Lib.hid (HB.out.only hO2 id); have HO2 := Lib.hid (HA.out.thenF hO2)
  have d0 := HM2.out.one
  have d4 : (wk1.drewN (1 + k2)).cell? ⟨mb, 4, none⟩ = some (.int .i64 gen) := HB2.out.cell 4
  have d5 : (wk1.drewN (1 + k2)).cell? ⟨mb, 5, none⟩ = some (.int .i64 st) := HB2.out.cell 5
  have d8 : (wk1.drewN (1 + k2)).cell? ⟨mb, 8, none⟩ = some (.int .u64 held) := HB2.out.cell 8
  have d9 : (wk1.drewN (1 + k2)).cell? ⟨mb, 9, none⟩ = some (.int .u64 hand) := HB2.out.cell 9
  go_wp2_with (go_at_call 27; refine (claimPop_any HB2.out HH.out).mono ?_; rintro e w5 ⟨rfl, hc5, ho5⟩; have HC5 := Lib.hid hc5; have HO5 := Lib.hid ho5; clear hc5 ho5)
  first
  | go_end0
  | refine bodyPost_ret (results_none rfl _ _ _) rfl ?_
  obtain ⟨pb, n, bp, bm, q1, q2, q3⟩ := HC5.out
  have hz := HO2.out.size
  exact ⟨rfl, ⟨pb, n, bp, bm, q1, q2, by omega⟩, (HO2.out.mono (fun _ _ e => e.elim)).trans HO5.out⟩
set_option maxRecDepth 100000 in
set_option maxHeartbeats 2000000 in
theorem found_hand (h0 : 0 ≤ x) (h1 : x < 18446744073709551616) (hw : Ph.waits x gen = false) (hge : Ph.gen x = gen) (hph : Ph.ph x = 4) (h : Blk w mb (clC P T hd gen st tk pgv held hand nx) 76) :
    Calls Tryz.prog 99 #[.pointer (some ⟨mb, 0, none⟩), .int .u64 x] w fun e w' => e = .returned (.tuple #[]) ∧ ∃ jm, Blk w' jm #[.pointer (some ⟨mb, 0, none⟩)] 37 ∧ Desk w' mb (clC P T hd gen st tk pgv held hand) 76 (.cas st x hand (clHand jm)) ∧ Only (· = mb) w w' := by
  have HWA := Lib.hid hw
  obtain ⟨gx, hgx⟩ : ∃ gx, Ph.gen x = gx := ⟨_, rfl⟩
  rw [hgx] at hge
  have HGE := Lib.hid hgx
  have e1 : (gx != gen) = false := by simpa using hge
  obtain ⟨px, hpx⟩ : ∃ px, Ph.ph x = px := ⟨_, rfl⟩
  rw [hpx] at hph
  have HPH := Lib.hid hpx
  have e2 : (px == 4) = true := by simp [hph]
  clear hw hgx hge hpx hph
  have hl := h.lt
  obtain ⟨wB, hW⟩ : ∃ wB, wB = w.alloc (.cells #[.pointer (some ⟨mb, 0, none⟩)] 37) := ⟨_, rfl⟩
  have HM : Hid (Blk wB w.heap.size #[.pointer (some ⟨mb, 0, none⟩)] 37) := by rw [hW]; exact Lib.hid (Blk.new w _ _)
  have HB : Hid (Blk wB mb (clC P T hd gen st tk pgv held hand nx) 76) := by rw [hW]; exact Lib.hid (h.alloc _)
  have HA : Hid (Adds w wB) := by rw [hW]; exact Lib.hid ((Only.refl _ _).alloc _)
  have HW := Lib.hid hW
  have nM := Lib.hid (HB.out.multi' (by simp) HM.out)
  obtain ⟨jm, hjm⟩ : ∃ jm, jm = w.heap.size := ⟨_, rfl⟩
  rw [← hjm] at HM nM
  have HJ := Lib.hid hjm
  have c0 := HM.out.one
  have c4 : wB.cell? ⟨mb, 4, none⟩ = some (.int .i64 gen) := HB.out.cell 4
  have H01 := Lib.hid (And.intro h0 h1)
  clear h hW h0 h1 hjm
  go_enter Tryz.func99, Tryz.ntmps99
  go_upto_region 2 with fail
  rw [← HW.out, ← HJ.out]
  go_upto_region 4 with (go_at_call 150; refine (phWaits_any x gen _ H01.out.1 H01.out.2).mono ?_; rintro e w3 ⟨rfl, k, rfl⟩; rw [HWA.out])
  have hO1 : Adds wB (wB.drewN k) := (Only.refl (fun _ => False) wB).drewN k
  have HM1 := Lib.hid (HM.out.only hO1 id); have HB1 := Lib.hid (HB.out.only hO1 id); have HO1 := Lib.hid (HA.out.thenF hO1)
  obtain ⟨wk1, hwk1⟩ : ∃ wk, wk = wB.drewN k := ⟨_, rfl⟩
  rw [← hwk1] at HM1 HB1 HO1
  try rw [← hwk1]
  have d0 := HM1.out.one
  have d4 : wk1.cell? ⟨mb, 4, none⟩ = some (.int .i64 gen) := HB1.out.cell 4
  have d5 : wk1.cell? ⟨mb, 5, none⟩ = some (.int .i64 st) := HB1.out.cell 5
  have d8 : wk1.cell? ⟨mb, 8, none⟩ = some (.int .u64 held) := HB1.out.cell 8
  have d9 : wk1.cell? ⟨mb, 9, none⟩ = some (.int .u64 hand) := HB1.out.cell 9
  rw [← hwk1] at hO1
  clear hwk1 c0 c4 d8 d9
  go_region_held3 (fun W => W.cell? ⟨jm, 0, none⟩ = some (.pointer (some ⟨mb, 0, none⟩)) ∧ W.cell? ⟨mb, 4, none⟩ = some (.int .i64 gen) ∧ Adds wB W)
    (first | assumption | (exact ⟨d0, d4, hO1.drew⟩) | (exact ⟨d0, d4, hO1⟩) | (exact ⟨(HM1.out.only (((Only.refl (fun _ => False) wk1)).drewN _) id).one, (HB1.out.only (((Only.refl (fun _ => False) wk1)).drewN _) id).cell 4, hO1.drewN _⟩))
    (first
    | (go_at_call 155; refine (phGen_any x _ H01.out.1 H01.out.2).mono ?_; rintro e w4 ⟨rfl, k2, rfl⟩; rw [HGE.out]))
  rename_i hH4
  clear hH4
  go_upto_region 7 with (go_at_call 156; refine (phPhase_any x _ H01.out.1 H01.out.2).mono ?_; rintro e w6 ⟨rfl, k3, rfl⟩; rw [HPH.out])
  have hO3 : Adds wB (wk1.drewN (1 + k2 + k3)) := hO1.drewN _
  have HM3 := Lib.hid (HM.out.only hO3 id); have HB3 := Lib.hid (HB.out.only hO3 id); have HO3 := Lib.hid (HA.out.thenF hO3)
  obtain ⟨wk3, hwk3⟩ : ∃ wk, wk = wk1.drewN (1 + k2 + k3) := ⟨_, rfl⟩
  rw [← hwk3] at HM3 HB3 HO3
  try rw [← hwk3]
  have d0 := HM3.out.one
  have d4 : wk3.cell? ⟨mb, 4, none⟩ = some (.int .i64 gen) := HB3.out.cell 4
  have d5 : wk3.cell? ⟨mb, 5, none⟩ = some (.int .i64 st) := HB3.out.cell 5
  have d8 : wk3.cell? ⟨mb, 8, none⟩ = some (.int .u64 held) := HB3.out.cell 8
  have d9 : wk3.cell? ⟨mb, 9, none⟩ = some (.int .u64 hand) := HB3.out.cell 9
  clear hwk3 hO3 hO1
  go_region_held3 (fun W => W.cell? ⟨jm, 0, none⟩ = some (.pointer (some ⟨mb, 0, none⟩)) ∧ W.cell? ⟨mb, 5, none⟩ = some (.int .i64 st) ∧ W.cell? ⟨mb, 9, none⟩ = some (.int .u64 hand) ∧ True)
    (first | assumption | (exact ⟨d0, d5, d9, trivial⟩) | (exact ⟨(HM3.out.drew.only ho3 nM.out).one, hb3.cell 5, hb3.cell 9, trivial⟩))
    (first
    | (go_at_call 151; with_reducible refine (deskCas_any HB3.out.drew (by simp) st x hand _ _ _).mono ?_; rintro e w4 ⟨rfl, hb3, hc3, ho3⟩; have HC := Lib.hid (And.intro hb3 (And.intro hc3 ho3))))
  all_goals
    go_wp2
    go_end0
    obtain ⟨b3, c3', o3⟩ := HC.out
    exact ⟨rfl, jm, HM3.out.drew.only o3 nM.out, ⟨_, b3, c3'⟩, ((HO3.out.drew).mono (fun _ _ e => e.elim)).trans o3⟩
set_option maxRecDepth 100000 in
set_option maxHeartbeats 2000000 in
theorem found_put (h0 : 0 ≤ x) (h1 : x < 18446744073709551616) (hw : Ph.waits x gen = false) (hge : Ph.gen x = gen) (hph : Ph.ph x = 5) (h : Blk w mb (clC P T hd gen st tk pgv held hand nx) 76) :
    Calls Tryz.prog 99 #[.pointer (some ⟨mb, 0, none⟩), .int .u64 x] w fun e w' => e = .returned (.tuple #[]) ∧ Desk w' mb (clC P T hd gen st tk pgv held hand) 76 (.put st held (clHad mb)) ∧ Only (· = mb) w w' := by
  have HWA := Lib.hid hw
  obtain ⟨gx, hgx⟩ : ∃ gx, Ph.gen x = gx := ⟨_, rfl⟩
  rw [hgx] at hge
  have HGE := Lib.hid hgx
  have e1 : (gx != gen) = false := by simpa using hge
  obtain ⟨px, hpx⟩ : ∃ px, Ph.ph x = px := ⟨_, rfl⟩
  rw [hpx] at hph
  have HPH := Lib.hid hpx
  have e2 : (px == 4) = false := by simp [hph]
  have e3 : (px == 5) = true := by simp [hph]
  clear hw hgx hge hpx hph
  have hl := h.lt
  obtain ⟨wB, hW⟩ : ∃ wB, wB = w.alloc (.cells #[.pointer (some ⟨mb, 0, none⟩)] 37) := ⟨_, rfl⟩
  have HM : Hid (Blk wB w.heap.size #[.pointer (some ⟨mb, 0, none⟩)] 37) := by rw [hW]; exact Lib.hid (Blk.new w _ _)
  have HB : Hid (Blk wB mb (clC P T hd gen st tk pgv held hand nx) 76) := by rw [hW]; exact Lib.hid (h.alloc _)
  have HA : Hid (Adds w wB) := by rw [hW]; exact Lib.hid ((Only.refl _ _).alloc _)
  have HW := Lib.hid hW
  have nM := Lib.hid (HB.out.multi' (by simp) HM.out)
  obtain ⟨jm, hjm⟩ : ∃ jm, jm = w.heap.size := ⟨_, rfl⟩
  rw [← hjm] at HM nM
  have HJ := Lib.hid hjm
  have c0 := HM.out.one
  have c4 : wB.cell? ⟨mb, 4, none⟩ = some (.int .i64 gen) := HB.out.cell 4
  have H01 := Lib.hid (And.intro h0 h1)
  clear h hW h0 h1 hjm
  go_enter Tryz.func99, Tryz.ntmps99
  go_upto_region 2 with fail
  rw [← HW.out, ← HJ.out]
  go_upto_region 4 with (go_at_call 150; refine (phWaits_any x gen _ H01.out.1 H01.out.2).mono ?_; rintro e w3 ⟨rfl, k, rfl⟩; rw [HWA.out])
  have hO1 : Adds wB (wB.drewN k) := (Only.refl (fun _ => False) wB).drewN k
  have HM1 := Lib.hid (HM.out.only hO1 id); have HB1 := Lib.hid (HB.out.only hO1 id); have HO1 := Lib.hid (HA.out.thenF hO1)
  obtain ⟨wk1, hwk1⟩ : ∃ wk, wk = wB.drewN k := ⟨_, rfl⟩
  rw [← hwk1] at HM1 HB1 HO1
  try rw [← hwk1]
  have d0 := HM1.out.one
  have d4 : wk1.cell? ⟨mb, 4, none⟩ = some (.int .i64 gen) := HB1.out.cell 4
  have d5 : wk1.cell? ⟨mb, 5, none⟩ = some (.int .i64 st) := HB1.out.cell 5
  have d8 : wk1.cell? ⟨mb, 8, none⟩ = some (.int .u64 held) := HB1.out.cell 8
  have d9 : wk1.cell? ⟨mb, 9, none⟩ = some (.int .u64 hand) := HB1.out.cell 9
  rw [← hwk1] at hO1
  clear hwk1 c0 c4 d8 d9
  go_region_held3 (fun W => W.cell? ⟨jm, 0, none⟩ = some (.pointer (some ⟨mb, 0, none⟩)) ∧ W.cell? ⟨mb, 4, none⟩ = some (.int .i64 gen) ∧ Adds wB W)
    (first | assumption | (exact ⟨d0, d4, hO1.drew⟩) | (exact ⟨d0, d4, hO1⟩) | (exact ⟨(HM1.out.only (((Only.refl (fun _ => False) wk1)).drewN _) id).one, (HB1.out.only (((Only.refl (fun _ => False) wk1)).drewN _) id).cell 4, hO1.drewN _⟩))
    (first
    | (go_at_call 155; refine (phGen_any x _ H01.out.1 H01.out.2).mono ?_; rintro e w4 ⟨rfl, k2, rfl⟩; rw [HGE.out]))
  rename_i hH4
  clear hH4
  go_upto_region 8 with (go_at_call 156; refine (phPhase_any x _ H01.out.1 H01.out.2).mono ?_; rintro e w6 ⟨rfl, k3, rfl⟩; rw [HPH.out])
  go_upto_region 9 with (go_at_call 156; refine (phPhase_any x _ H01.out.1 H01.out.2).mono ?_; rintro e w6 ⟨rfl, k4, rfl⟩; rw [HPH.out])
  have hO3 : Adds wB (wk1.drewN (1 + k2 + k3 + k4)) := hO1.drewN _
  have HM3 := Lib.hid (HM.out.only hO3 id); have HB3 := Lib.hid (HB.out.only hO3 id); have HO3 := Lib.hid (HA.out.thenF hO3)
  obtain ⟨wk3, hwk3⟩ : ∃ wk, wk = wk1.drewN (1 + k2 + k3 + k4) := ⟨_, rfl⟩
  rw [← hwk3] at HM3 HB3 HO3
  try rw [← hwk3]
  have d0 := HM3.out.one
  have d4 : wk3.cell? ⟨mb, 4, none⟩ = some (.int .i64 gen) := HB3.out.cell 4
  have d5 : wk3.cell? ⟨mb, 5, none⟩ = some (.int .i64 st) := HB3.out.cell 5
  have d8 : wk3.cell? ⟨mb, 8, none⟩ = some (.int .u64 held) := HB3.out.cell 8
  have d9 : wk3.cell? ⟨mb, 9, none⟩ = some (.int .u64 hand) := HB3.out.cell 9
  clear hwk3 hO3 hO1
  go_region_held3 (fun W => W.cell? ⟨jm, 0, none⟩ = some (.pointer (some ⟨mb, 0, none⟩)) ∧ W.cell? ⟨mb, 5, none⟩ = some (.int .i64 st) ∧ W.cell? ⟨mb, 8, none⟩ = some (.int .u64 held) ∧ True)
    (first | assumption | (exact ⟨d0, d5, d8, trivial⟩) | (exact ⟨(HM3.out.drew.only ho3 nM.out).one, hb3.cell 5, hb3.cell 8, trivial⟩))
    (first
    | (go_at_call 158; with_reducible refine (deskPut_any HB3.out.drew (by simp) st held _ _ _).mono ?_; rintro e w4 ⟨rfl, hb3, hc3, ho3⟩; have HC := Lib.hid (And.intro hb3 (And.intro hc3 ho3))))
  all_goals
    go_wp2
    go_end0
    obtain ⟨b3, c3', o3⟩ := HC.out
    exact ⟨rfl, ⟨_, b3, c3'⟩, ((HO3.out.drew).mono (fun _ _ e => e.elim)).trans o3⟩
set_option maxRecDepth 100000 in
set_option maxHeartbeats 2000000 in
theorem found_rest (h0 : 0 ≤ x) (h1 : x < 18446744073709551616) (hw : Ph.waits x gen = false) (hge : Ph.gen x = gen) (hph : Ph.ph x ≠ 4 ∧ Ph.ph x ≠ 5) (hh : Lay.isHead P T hd = true) (h : Blk w mb (clC P T hd gen st tk pgv held hand nx) 76) :
    Calls Tryz.prog 99 #[.pointer (some ⟨mb, 0, none⟩), .int .u64 x] w fun e w' => e = .returned (.tuple #[]) ∧ (∃ pb n bp bm, ClPop w' mb pb (clC P T hd gen st tk pgv held hand) n bp bm ∧ Pop1 w' pb P T hd 0 (-1) ∧ w.heap.size ≤ pb) ∧ Only (· = mb) w w' := by
  have HWA := Lib.hid hw
  obtain ⟨gx, hgx⟩ : ∃ gx, Ph.gen x = gx := ⟨_, rfl⟩
  rw [hgx] at hge
  have HGE := Lib.hid hgx
  have e1 : (gx != gen) = false := by simpa using hge
  obtain ⟨px, hpx⟩ : ∃ px, Ph.ph x = px := ⟨_, rfl⟩
  rw [hpx] at hph
  have HPH := Lib.hid hpx
  have e2 : (px == 4) = false := by simp [hph.1]
  have e3 : (px == 5) = false := by simp [hph.2]
  have HH := Lib.hid hh
  clear hw hgx hge hpx hph hh
  have hl := h.lt
  obtain ⟨wB, hW⟩ : ∃ wB, wB = w.alloc (.cells #[.pointer (some ⟨mb, 0, none⟩)] 37) := ⟨_, rfl⟩
  have HM : Hid (Blk wB w.heap.size #[.pointer (some ⟨mb, 0, none⟩)] 37) := by rw [hW]; exact Lib.hid (Blk.new w _ _)
  have HB : Hid (Blk wB mb (clC P T hd gen st tk pgv held hand nx) 76) := by rw [hW]; exact Lib.hid (h.alloc _)
  have HA : Hid (Adds w wB) := by rw [hW]; exact Lib.hid ((Only.refl _ _).alloc _)
  have HW := Lib.hid hW
  have nM := Lib.hid (HB.out.multi' (by simp) HM.out)
  obtain ⟨jm, hjm⟩ : ∃ jm, jm = w.heap.size := ⟨_, rfl⟩
  rw [← hjm] at HM nM
  have HJ := Lib.hid hjm
  have c0 := HM.out.one
  have c4 : wB.cell? ⟨mb, 4, none⟩ = some (.int .i64 gen) := HB.out.cell 4
  have H01 := Lib.hid (And.intro h0 h1)
  clear h hW h0 h1 hjm
  go_enter Tryz.func99, Tryz.ntmps99
  go_upto_region 2 with fail
  rw [← HW.out, ← HJ.out]
  go_upto_region 4 with (go_at_call 150; refine (phWaits_any x gen _ H01.out.1 H01.out.2).mono ?_; rintro e w3 ⟨rfl, k, rfl⟩; rw [HWA.out])
  have hO1 : Adds wB (wB.drewN k) := (Only.refl (fun _ => False) wB).drewN k
  have HM1 := Lib.hid (HM.out.only hO1 id); have HB1 := Lib.hid (HB.out.only hO1 id); have HO1 := Lib.hid (HA.out.thenF hO1)
  obtain ⟨wk1, hwk1⟩ : ∃ wk, wk = wB.drewN k := ⟨_, rfl⟩
  rw [← hwk1] at HM1 HB1 HO1
  try rw [← hwk1]
  have d0 := HM1.out.one
  have d4 : wk1.cell? ⟨mb, 4, none⟩ = some (.int .i64 gen) := HB1.out.cell 4
  have d5 : wk1.cell? ⟨mb, 5, none⟩ = some (.int .i64 st) := HB1.out.cell 5
  have d8 : wk1.cell? ⟨mb, 8, none⟩ = some (.int .u64 held) := HB1.out.cell 8
  have d9 : wk1.cell? ⟨mb, 9, none⟩ = some (.int .u64 hand) := HB1.out.cell 9
  rw [← hwk1] at hO1
  clear hwk1 c0 c4 d8 d9
  go_region_held3 (fun W => W.cell? ⟨jm, 0, none⟩ = some (.pointer (some ⟨mb, 0, none⟩)) ∧ W.cell? ⟨mb, 4, none⟩ = some (.int .i64 gen) ∧ Adds wB W)
    (first | assumption | (exact ⟨d0, d4, hO1.drew⟩) | (exact ⟨d0, d4, hO1⟩) | (exact ⟨(HM1.out.only (((Only.refl (fun _ => False) wk1)).drewN _) id).one, (HB1.out.only (((Only.refl (fun _ => False) wk1)).drewN _) id).cell 4, hO1.drewN _⟩))
    (first
    | (go_at_call 155; refine (phGen_any x _ H01.out.1 H01.out.2).mono ?_; rintro e w4 ⟨rfl, k2, rfl⟩; rw [HGE.out]))
  rename_i hH4
  clear hH4
  go_upto_region 8 with (go_at_call 156; refine (phPhase_any x _ H01.out.1 H01.out.2).mono ?_; rintro e w6 ⟨rfl, k3, rfl⟩; rw [HPH.out])
  go_upto_region 1 with (go_at_call 156; refine (phPhase_any x _ H01.out.1 H01.out.2).mono ?_; rintro e w6 ⟨rfl, k4, rfl⟩; rw [HPH.out])
  have hO3 : Adds wB (wk1.drewN (1 + k2 + k3 + k4)) := hO1.drewN _
  have HM3 := Lib.hid (HM.out.only hO3 id); have HB3 := Lib.hid (HB.out.only hO3 id); have HO3 := Lib.hid (HA.out.thenF hO3)
  obtain ⟨wk3, hwk3⟩ : ∃ wk, wk = wk1.drewN (1 + k2 + k3 + k4) := ⟨_, rfl⟩
  rw [← hwk3] at HM3 HB3 HO3
  try rw [← hwk3]
  have d0 := HM3.out.one
  have d4 : wk3.cell? ⟨mb, 4, none⟩ = some (.int .i64 gen) := HB3.out.cell 4
  have d5 : wk3.cell? ⟨mb, 5, none⟩ = some (.int .i64 st) := HB3.out.cell 5
  have d8 : wk3.cell? ⟨mb, 8, none⟩ = some (.int .u64 held) := HB3.out.cell 8
  have d9 : wk3.cell? ⟨mb, 9, none⟩ = some (.int .u64 hand) := HB3.out.cell 9
  clear hwk3 hO3 hO1
  go_wp2_with (go_at_call 27; refine (claimPop_any HB3.out HH.out).mono ?_; rintro e w5 ⟨rfl, hc5, ho5⟩; have HC5 := Lib.hid hc5; have HO5 := Lib.hid ho5; clear hc5 ho5)
  first
  | go_end0
  | refine bodyPost_ret (results_none rfl _ _ _) rfl ?_
  obtain ⟨pb, n, bp, bm, q1, q2, q3⟩ := HC5.out
  have hz := HO3.out.size
  exact ⟨rfl, ⟨pb, n, bp, bm, q1, q2, by omega⟩, (HO3.out.mono (fun _ _ e => e.elim)).trans HO5.out⟩
set_option maxRecDepth 100000 in
set_option maxHeartbeats 2000000 in
theorem held_lost (hm : Blk w jm #[.pointer (some ⟨mb, 0, none⟩)] 37) (h : Blk w mb (clC P T hd gen st tk pgv held hand nx) 76) :
    Calls Tryz.prog 152 #[.bool false, .pointer (some ⟨jm, 0, none⟩)] w fun e w' => e = .returned (.tuple #[]) ∧ Desk w' mb (clC P T hd gen st tk pgv held hand) 76 (.load st (clFound mb)) ∧ Only (· = mb) w w' := by
  have HB := Lib.hid h
  have c0 := hm.one
  clear h hm
  go_enter Tryz.func152, Tryz.ntmps152
  go_wp2_with (go_at_call 54; refine (claimLook_any HB.out).mono ?_; rintro e w1 ⟨rfl, h1, h2⟩)
  first
  | go_end0
  | refine bodyPost_ret (results_none rfl _ _ _) rfl ?_
  exact ⟨rfl, h1, h2⟩
set_option maxRecDepth 100000 in
set_option maxHeartbeats 2000000 in
theorem hand_lost (hm : Blk w jm #[.pointer (some ⟨mb, 0, none⟩)] 37) (h : Blk w mb (clC P T hd gen st tk pgv held hand nx) 76) :
    Calls Tryz.prog 157 #[.bool false, .pointer (some ⟨jm, 0, none⟩)] w fun e w' => e = .returned (.tuple #[]) ∧ Desk w' mb (clC P T hd gen st tk pgv held hand) 76 (.load st (clFound mb)) ∧ Only (· = mb) w w' := by
  have HB := Lib.hid h
  have c0 := hm.one
  clear h hm
  go_enter Tryz.func157, Tryz.ntmps157
  go_wp2_with (go_at_call 54; refine (claimLook_any HB.out).mono ?_; rintro e w1 ⟨rfl, h1, h2⟩)
  first
  | go_end0
  | refine bodyPost_ret (results_none rfl _ _ _) rfl ?_
  exact ⟨rfl, h1, h2⟩
set_option maxRecDepth 100000 in
set_option maxHeartbeats 2000000 in
theorem hand_won (hh : Lay.isHead P T hd = true) (hm : Blk w jm #[.pointer (some ⟨mb, 0, none⟩)] 37) (h : Blk w mb (clC P T hd gen st tk pgv held hand nx) 76) :
    Calls Tryz.prog 157 #[.bool true, .pointer (some ⟨jm, 0, none⟩)] w fun e w' => e = .returned (.tuple #[]) ∧ (∃ pb n bp bm, ClPop w' mb pb (clC P T hd gen st tk pgv held hand) n bp bm ∧ Pop1 w' pb P T hd 0 (-1) ∧ w.heap.size ≤ pb) ∧ Only (· = mb) w w' := by
  have HB := Lib.hid h; have HH := Lib.hid hh
  have c0 := hm.one
  clear h hm hh
  go_enter Tryz.func157, Tryz.ntmps157
  go_wp2_with (go_at_call 27; refine (claimPop_any HB.out HH.out).mono ?_; rintro e w1 ⟨rfl, h1, h2⟩)
  first
  | go_end0
  | refine bodyPost_ret (results_none rfl _ _ _) rfl ?_
  exact ⟨rfl, h1, h2⟩
set_option maxRecDepth 100000 in
set_option maxHeartbeats 2000000 in
theorem held_won (hp : (Lay.may P T && decide (0 ≤ tk ∧ tk < P)) = true) (hm : Blk w jm #[.pointer (some ⟨mb, 0, none⟩)] 37) (h : Blk w mb (clC P T hd gen st tk pgv held hand nx) 76) :
    Calls Tryz.prog 152 #[.bool true, .pointer (some ⟨jm, 0, none⟩)] w fun e w' => e = .returned (.tuple #[]) ∧ (∃ sb n, Blk w' mb (clC P T hd gen st tk pgv held hand (runF n)) 76 ∧ HasRun w' n (.iface 190 (.pointer (some ⟨sb, 0, none⟩))) (clHad mb) ∧ Sw1 w' sb P T (Lay.pageAt P T 12 tk) (Lay.pageAt P T 13 tk) ∧ w.heap.size ≤ sb) ∧ Only (· = mb) w w' := by
  have HB := Lib.hid h; have HM := Lib.hid hm
  have c0 := hm.one
  have c1 : w.cell? ⟨mb, 0, none⟩ = some (.int .i64 P) := h.cell 0
  have c2 : w.cell? ⟨mb, 1, none⟩ = some (.int .i64 T) := h.cell 1
  have c6 : w.cell? ⟨mb, 6, none⟩ = some (.int .i64 tk) := h.cell 6
  have nM := Lib.hid (h.multi' (by simp) hm)
  have HP := Lib.hid hp
  have hl := h.lt
  clear h hm hp
  go_enter Tryz.func152, Tryz.ntmps152
  go_wp2_with fail
  go_region_held3 (fun W => W.cell? ⟨jm, 0, none⟩ = some (.pointer (some ⟨mb, 0, none⟩)) ∧ W.cell? ⟨mb, 0, none⟩ = some (.int .i64 P) ∧ W.cell? ⟨mb, 1, none⟩ = some (.int .i64 T) ∧ W.cell? ⟨mb, 6, none⟩ = some (.int .i64 tk) ∧ True)
    (first | assumption | (exact ⟨c0, c1, c2, c6, trivial⟩) | (exact ⟨(HM2.out).one, HB2.out.cell 0, HB2.out.cell 1, HB2.out.cell 6, trivial⟩) | (exact ⟨(HM2.out.only ho3 nM.out).one, hb3.cell 0, hb3.cell 1, hb3.cell 6, trivial⟩))
    (first
    | (go_at_call 153; refine (newSweep_ok P T tk _ HP.out).mono ?_; rintro e w2 ⟨sb, rfl, hs, hoA, hls⟩; have hoW := ((Only.refl (fun _ => False) w).drew).thenF hoA; have HB2 := Lib.hid (HB.out.only hoW id); have HM2 := Lib.hid (HM.out.only hoW id); have HS := Lib.hid hs; have HOW := Lib.hid hoW; have HLS := Lib.hid (show w.heap.size ≤ sb by simpa using hls); clear hs hoA hoW hls)
    | (go_at_call 49; with_reducible refine (deskRun_any HB2.out (by simp) _ _ _ _ _).mono ?_; rintro e w4 ⟨rfl, hb3, hc3, ho3⟩; have HC := Lib.hid (And.intro hb3 (And.intro hc3 ho3))))
  all_goals
    go_wp2
    first
    | go_end0
    | refine bodyPost_ret (results_none rfl _ _ _) rfl ?_
    obtain ⟨b3, c3', o3⟩ := HC.out
    have hls := HLS.out
    exact ⟨rfl, ⟨sb, _, b3, c3', HS.out.only o3 (fun e => by omega) (fun b x t hx e => HB2.out.multi' (by simp) hx e), hls⟩, (HOW.out.mono (fun _ _ e => e.elim)).trans o3⟩
set_option maxRecDepth 100000 in
set_option maxHeartbeats 2000000 in
theorem taken_some {p : Int} (hp : PopX P T hd w pb (.inr p)) (hp0 : 0 ≤ p) (hok : Lay.pageOk P T 9 p = true) (hbp : Blk w bp #[.pointer (some ⟨pb, 0, none⟩)] 101) (hbm : Blk w bm #[.pointer (some ⟨mb, 0, none⟩)] 37) (h : Blk w mb (clC P T hd gen st tk pgv held hand nx) 76) :
    Calls Tryz.prog 50 #[.pointer (some ⟨bp, 0, none⟩), .pointer (some ⟨bm, 0, none⟩)] w fun e w' => e = .returned (.tuple #[]) ∧ Desk w' mb (clC P T hd gen (pgAt P T 9 p) p pgv held hand) 76 (.load (pgAt P T 9 p) (clFound mb)) ∧ Only (· = mb) w w' := by
  have HB := Lib.hid h; have HM := Lib.hid hbm; have HP := Lib.hid hp
  have c0 := hbp.one; have c1 := hbm.one
  have c6 : w.cell? ⟨mb, 6, none⟩ = some (.int .i64 tk) := h.cell 6
  have f6 := h.frozen 6
  have hl := h.lt
  have nM := Lib.hid (h.multi' (by simp) hbm)
  have nJ : bm ≠ mb := nM.out
  obtain ⟨ap, hap⟩ : ∃ ap, pgAt P T 9 p = ap := ⟨_, rfl⟩
  have HAP : Hid (Lay.pageAt P T 9 p = ap) := Lib.hid hap
  have HOK := Lib.hid hok
  rw [hap]
  clear h hbm hp hbp hap hok
  go_enter Tryz.func50, Tryz.ntmps50
  go_upto_region 1 with fail
  go_cut [] (fun wx => ∃ k, wx = (w.drewN k).setCell ⟨mb, 6, none⟩ (.int .i64 p))
  case first =>
    go_region_with ((first
      | (go_at_call 51; refine (popX_page HP.out).mono ?_; rintro e w4 ⟨rfl, rfl⟩)
      | (go_at_call 51; refine (popX_page (HP.out.keep ((Only.refl (fun _ => False) _).drew) id (fun _ _ _ _ => id))).mono ?_; rintro e w4 ⟨rfl, rfl⟩)))
    all_goals
      go_wp2_with fail
      go_meet
      exact ⟨1, rfl⟩
  case rest =>
    obtain ⟨k, rfl⟩ := hcut
    have hbk := (HB.out.drewN k).setCell 6 (.int .i64 p)
    have hbk2 : Blk ((w.drewN k).setCell ⟨mb, 6, none⟩ (.int .i64 p)) mb (clC P T hd gen st p pgv held hand nx) 76 := hbk
    have hok := ((Only.refl (fun j => j = mb) w).drewN k).setCell (p := ⟨mb, 6, none⟩) (.inl rfl) (.int .i64 p)
    have hmk := HM.out.only hok nM.out
    obtain ⟨wk, hwk⟩ : ∃ wk, wk = (w.drewN k).setCell ⟨mb, 6, none⟩ (.int .i64 p) := ⟨_, rfl⟩
    rw [← hwk] at hbk2 hok hmk
    rw [← hwk]
    have HBk := Lib.hid hbk2; have HOk := Lib.hid hok; have HMk := Lib.hid hmk
    have d1 := hmk.one
    have d0 : wk.cell? ⟨mb, 0, none⟩ = some (.int .i64 P) := hbk2.cell 0
    have d2 : wk.cell? ⟨mb, 1, none⟩ = some (.int .i64 T) := hbk2.cell 1
    have d6 : wk.cell? ⟨mb, 6, none⟩ = some (.int .i64 p) := hbk2.cell 6
    clear hbk hbk2 hok hmk hwk c0 c1 c6 f6
    go_upto_region 3 with fail
    go_region_held3 (fun W => W.cell? ⟨bm, 0, none⟩ = some (.pointer (some ⟨mb, 0, none⟩)) ∧ W.cell? ⟨mb, 0, none⟩ = some (.int .i64 P) ∧ W.cell? ⟨mb, 1, none⟩ = some (.int .i64 T) ∧ W.cell? ⟨mb, 6, none⟩ = some (.int .i64 p) ∧ True)
      (first | assumption | (exact ⟨d1, d0, d2, d6, trivial⟩) | (exact ⟨HM2.out.one, HB2.out.cell 0, HB2.out.cell 1, HB2.out.cell 6, trivial⟩) | (exact ⟨(HM2.out.setCell_other nJ 5 _).one, (HB2.out.setCell 5 _).cell 0, (HB2.out.setCell 5 _).cell 1, (HB2.out.setCell 5 _).cell 6, trivial⟩))
      (first
      | (go_at_call 53; refine (layPage_any P T 9 p _).mono ?_; rintro e w2 ⟨rfl, ho2⟩; rw [atOf_yes HOK.out, HAP.out]; have hoA := ((Only.refl (fun _ => False) wk).drew).thenF ho2; have HB2 := Lib.hid (HBk.out.only hoA id); have HM2 := Lib.hid (HMk.out.only hoA id); have HO2 := Lib.hid (HOk.out.trans (hoA.mono (fun _ _ e => e.elim))); have e5 : w2.cell? ⟨mb, 5, none⟩ = some (.int .i64 st) := HB2.out.cell 5; have f5 := HB2.out.frozen 5; clear hoA ho2))
    all_goals
      have HB3 := Lib.hid (show Blk (w2.setCell ⟨mb, 5, none⟩ (.int .i64 ap)) mb (clC P T hd gen ap p pgv held hand nx) 76 from HB2.out.setCell 5 _)
      have m1 := (HM2.out.setCell_other nJ 5 (.int .i64 ap)).one
      go_wp2_with (go_at_call 54; refine (claimLook_any HB3.out).mono ?_; rintro e w6 ⟨rfl, h1, h2⟩)
      first
      | go_end0
      | refine bodyPost_ret (results_none rfl _ _ _) rfl ?_
      exact ⟨rfl, h1, (HO2.out.setCell (p := ⟨mb, 5, none⟩) (.inl rfl) _).trans h2⟩
end
end Go.Proofs.YtmnliddjddpchaaGreat

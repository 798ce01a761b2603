/- Package act: another machine that is run. By an AI agent. -/
import Derived.Test.YtbcfeaimopijfaaGreatAct3
import Derived.Test.YtbcfeaimopijfaaGreatYards
namespace Go.Proofs.YtbcfeaimopijfaaGreat
open Go.RowKit
/-- What is laid. -/
structure HasRun (w : World) (n : Nat) (m thn : Value) : Prop where
  b0 : Blk w n #[m] 131
  b1 : Blk w (n + 1) #[thn] 1
abbrev runF (n : Nat) : Value := .func (.func 80) #[] #[.pointer (some ⟨n, 0, none⟩), .pointer (some ⟨n + 1, 0, none⟩)]
theorem HasRun.only {S : Nat → Prop} {w w' : World} {n : Nat} {m thn : Value} (h : HasRun w n m thn) (ho : Only S w w') (hS : ∀ j, n ≤ j → j < n + 2 → ¬ S j) : HasRun w' n m thn :=
  ⟨h.b0.only ho (hS _ (by omega) (by omega)), h.b1.only ho (hS _ (by omega) (by omega))⟩
theorem HasRun.adds {w w' : World} {n : Nat} {m thn : Value} (h : HasRun w n m thn) (ho : Adds w w') : HasRun w' n m thn := h.only ho (fun _ _ _ => id)
theorem HasRun.dids {w w' : World} {n : Nat} {m thn : Value} (h : HasRun w n m thn) (ho : Only (Dids w) w w') : HasRun w' n m thn :=
  ⟨h.b0.dids ho (by decide), h.b1.dids ho (by decide)⟩
theorem runBoxes (w W : World) (m thn : Value) (hz : W.heap.size = w.heap.size) :
    HasRun ((W.alloc (.cells #[m] 131)).alloc (.cells #[thn] 1)) w.heap.size m thn := by
  have n1 := Blk.new (W.alloc (.cells #[m] 131)) #[thn] 1
  simp only [World.size_alloc] at n1
  rw [← hz]
  exact ⟨(Blk.new W #[m] 131).alloc _, n1⟩
set_option maxHeartbeats 1000000 in
theorem deskRun_any {w : World} {mb : Nat} {c : Array Value} {t : TypeId} (h : Blk w mb c t) (h2 : 2 < c.size) (u : TypeId) (m : Value) (fn : Fn) (f1 cap : Array Value) :
    Calls Tryz.prog 50 #[.pointer (some ⟨mb, 0, none⟩), .iface u m, .func fn f1 cap] w fun e w' => e = .returned (.tuple #[]) ∧ Blk w' mb (c.setIfInBounds 2 (runF w.heap.size)) t ∧ HasRun w' w.heap.size (.iface u m) (.func fn f1 cap) ∧ Only (· = mb) w w' := by
  have f2 := h.frozen 2
  have c2 := h.cell 2
  obtain ⟨v2, hv2⟩ : ∃ v2, c[2]? = some v2 := ⟨_, Array.getElem?_eq_getElem h2⟩
  rw [hv2] at c2
  have hl := h.lt
  have hl1 : mb < w.heap.size + 1 := by omega
  have HB := Lib.hid h
  clear h hv2
  go_enter Tryz.func50, Tryz.ntmps50
  go_wp2
  go_end0
  exact ⟨rfl, ((HB.out.setCell 2 _).alloc _).alloc _, runBoxes w _ _ _ (by simp [World.setCell]), (((Only.refl (fun x => x = mb) w).setCell (.inl rfl) _).alloc _).alloc _⟩
theorem popStep_meth (pb : Nat) (W : World) : Sem.run Tryz.prog (method 300 102 (.pointer (some ⟨pb, 0, none⟩)) "Step") W = .ok (152, .pointer (some ⟨pb, 0, none⟩)) W := by kernel_rfl
theorem popDone_meth (pb : Nat) (W : World) : Sem.run Tryz.prog (method 300 102 (.pointer (some ⟨pb, 0, none⟩)) "Done") W = .ok (151, .pointer (some ⟨pb, 0, none⟩)) W := by kernel_rfl
set_option maxRecDepth 100000 in
set_option maxHeartbeats 2000000 in
/-- What it does, if the other machine is a pop, and done behind its step. -/
theorem run1_pop {w : World} {a : Option Addr} {n pb K : Nat} {f1 cap : Array Value} {k i o nw : Int} (h : HasRun w n (.iface 102 (.pointer (some ⟨pb, 0, none⟩))) (.func (.func K) f1 cap))
    {Q R : World → Prop} (hstQ : Stays Q) (hstR : Stays R) {S M : Nat → Prop} (hSl : ∀ j, S j → j < w.heap.size) (hMl : ∀ j, M j → j < w.heap.size) (hn : ¬ S n) (hn1 : ¬ S (n + 1))
    (hS : ∀ w1, Adds w w1 → Calls Tryz.prog 152 #[.pointer (some ⟨pb, 0, none⟩), .pointer a] w1 fun e w' => e = .returned (.agg #[.int .i64 k, .int .i64 i, .int .u64 o, .int .u64 nw]) ∧ Q w' ∧ Only S w1 w')
    (hD : ∀ W, Q W → Calls Tryz.prog 151 #[.pointer (some ⟨pb, 0, none⟩)] W fun e w' => e = .returned (.bool true) ∧ W = w') (eg : Enters Tryz.prog K)
    (hT : ∀ W, Only S w W → Q W → Calls Tryz.prog K (f1 ++ cap) W fun e w2 => e = .returned (.tuple #[]) ∧ R w2 ∧ Only M W w2) :
    Calls Tryz.prog 80 #[.pointer a, .pointer (some ⟨n, 0, none⟩), .pointer (some ⟨n + 1, 0, none⟩)] w fun e w' => e = .returned (.agg #[.int .i64 k, .int .i64 i, .int .u64 o, .int .u64 nw]) ∧ R w' ∧ Only (fun j => S j ∨ M j) w w' := by
  obtain ⟨wR, hR⟩ : ∃ wR, wR = w.alloc (.cells #[.int .i64 0, .int .i64 0, .int .u64 0, .int .u64 0] 32) := ⟨_, rfl⟩
  have hBR : Hid (Blk wR w.heap.size #[.int .i64 0, .int .i64 0, .int .u64 0, .int .u64 0] 32) := by rw [hR]; exact Lib.hid (Blk.new _ _ _)
  have hAR : Hid (Adds w wR) := by rw [hR]; exact Lib.hid ((Only.refl _ _).alloc _)
  have hr := h.adds hAR.out
  have k0 := h.b0.one
  have H := Lib.hid hr; have HS := Lib.hid (hS wR hAR.out); have HD := Lib.hid hD; have HN := Lib.hid hn; have HN1 := Lib.hid hn1; have HT := Lib.hid hT; have HM := Lib.hid hMl; have HSL := Lib.hid hSl
  have HQ := Lib.hid hstQ; have HRR := Lib.hid hstR
  have eg' : ∀ args W, (callFunc K args).run Tryz.prog W = .ok (.enter K args) W := eg
  have HW := Lib.hid hR
  have hl := h.b0.lt
  have hmS := fun W => popStep_meth pb W
  have hmD := fun W => popDone_meth pb W
  have hk := HS.out
  rw [hR] at hk
  have HK := Lib.hid hk
  clear h hS hD hn hn1 hT hMl hSl hR hr hk HS
  go_enter Tryz.func80, Tryz.ntmps80
  go_wp2_with (first
    | (go_at_call 152; refine HK.out.mono ?_; rintro e w2 ⟨rfl, hq, ho2⟩; rw [← HW.out] at ho2; have hB := hBR.out.only ho2 (fun e => Nat.lt_irrefl _ (HSL.out _ e)); have HB := Lib.hid hB; have hr2 := H.out.only ho2 (fun j h1 h2 => by obtain rfl | rfl := (show j = n ∨ j = n + 1 by omega); exact HN.out; exact HN1.out); have k2 := hr2.b0.one; have k3 := hr2.b1.one; have l2 := hr2.b0.lt; have l3 := hr2.b1.lt; have HQ2 := Lib.hid hq; have HO2 := Lib.hid ((hAR.out.mono (T := S) (fun _ _ e => e.elim)).trans ho2); have HX := Lib.hid (Blk.new w2 #[.int .i64 k, .int .i64 i, .int .u64 o, .int .u64 nw] 32); clear hB hr2 hq ho2)
    | (go_at_call 151; refine (HD.out _ (HQ.out _ _ (((Only.refl (Dids w2) w2).alloc _)) HQ2.out)).mono ?_; rintro e w3 ⟨rfl, rfl⟩)
    | (go_at_fn K; refine (HT.out _ (HO2.out.alloc _) (HQ.out _ _ (((Only.refl (Dids w2) w2).alloc _)) HQ2.out)).mono ?_; rintro e w4 ⟨rfl, hr4, ho4⟩; have hx := HX.out.only ho4 (fun e => by have h1 := HM.out _ e; have h2 := HO2.out.size; omega); obtain ⟨x0, x1, x2, x3, -⟩ := hx.four; have hB := (HB.out.alloc _).only ho4 (fun e => Nat.lt_irrefl _ (HM.out _ e)); obtain ⟨q0, q1, q2, q3, f0, f1, f2, f3⟩ := hB.four; have HR4 := Lib.hid hr4; have HB4 := Lib.hid hB; have HO4 := Lib.hid ho4; clear hr4 hB ho4 hx))
  exact bodyPost_ret (v := .agg #[.int .i64 k, .int .i64 i, .int .u64 o, .int .u64 nw]) (by simp [q0, q1, q2, q3, results, Tryz.results80, go_sem]) rfl ⟨rfl, HRR.out.box HB4.out HR4.out _ _ _ _, only_box4 (((HO2.out.alloc _).mono (T := fun j => S j ∨ M j) (fun _ _ e => .inl e)).trans (HO4.out.mono (T := fun j => S j ∨ M j) (fun _ _ e => .inr e))) (.inr (Nat.le_refl _)) _ _ _ _⟩
end Go.Proofs.YtbcfeaimopijfaaGreat

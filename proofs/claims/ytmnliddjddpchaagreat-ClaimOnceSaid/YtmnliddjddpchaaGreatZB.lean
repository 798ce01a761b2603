/- Package act: another machine that is run. Package claim: NewClaim; one that has not begun. By an AI agent. -/
import Derived.Test.YtmnliddjddpchaaGreatZ2
import Derived.Test.YtmnliddjddpchaaGreatZ7
import Derived.Test.YtmnliddjddpchaaGreatZA
import Derived.Deep.RegionWith
import Derived.Deep.DeepCutAuto
import Derived.Deep.CutBlock
namespace Go.Proofs.YtmnliddjddpchaaGreat
open Go.RowKit
set_option linter.unusedSimpArgs false
set_option linter.unusedVariables false
/-- What is laid. -/
structure HasRun (w : World) (n : Nat) (m thn : Value) : Prop where
  b0 : Blk w n #[m] 150
  b1 : Blk w (n + 1) #[thn] 1
abbrev runF (n : Nat) : Value := .func (.func 98) #[] #[.pointer (some ⟨n, 0, none⟩), .pointer (some ⟨n + 1, 0, none⟩)]
theorem HasRun.only {S : Nat → Prop} {w w' : World} {n : Nat} {m thn : Value} (h : HasRun w n m thn) (ho : Only S w w') (hS : ∀ j, n ≤ j → j < n + 2 → ¬ S j) : HasRun w' n m thn :=
  ⟨h.b0.only ho (hS _ (by omega) (by omega)), h.b1.only ho (hS _ (by omega) (by omega))⟩
theorem HasRun.adds {w w' : World} {n : Nat} {m thn : Value} (h : HasRun w n m thn) (ho : Adds w w') : HasRun w' n m thn := h.only ho (fun _ _ _ => id)
theorem HasRun.dids {w w' : World} {n : Nat} {m thn : Value} (h : HasRun w n m thn) (ho : Only (Dids w) w w') : HasRun w' n m thn :=
  ⟨h.b0.dids ho (by decide), h.b1.dids ho (by decide)⟩
theorem runBoxes (w W : World) (m thn : Value) (hz : W.heap.size = w.heap.size) :
    HasRun ((W.alloc (.cells #[m] 150)).alloc (.cells #[thn] 1)) w.heap.size m thn := by
  have n1 := Blk.new (W.alloc (.cells #[m] 150)) #[thn] 1
  simp only [World.size_alloc] at n1
  rw [← hz]
  exact ⟨(Blk.new W #[m] 150).alloc _, n1⟩
set_option maxHeartbeats 1000000 in
theorem deskRun_any {w : World} {mb : Nat} {c : Array Value} {t : TypeId} (h : Blk w mb c t) (h2 : 2 < c.size) (u : TypeId) (m : Value) (fn : Fn) (f1 cap : Array Value) :
    Calls Tryz.prog 49 #[.pointer (some ⟨mb, 0, none⟩), .iface u m, .func fn f1 cap] w fun e w' => e = .returned (.tuple #[]) ∧ Blk w' mb (c.setIfInBounds 2 (runF w.heap.size)) t ∧ HasRun w' w.heap.size (.iface u m) (.func fn f1 cap) ∧ Only (· = mb) w w' := by
  have f2 := h.frozen 2
  have c2 := h.cell 2
  obtain ⟨v2, hv2⟩ : ∃ v2, c[2]? = some v2 := ⟨_, Array.getElem?_eq_getElem h2⟩
  rw [hv2] at c2
  have hl := h.lt
  have hl1 : mb < w.heap.size + 1 := by omega
  have HB := Lib.hid h
  clear h hv2
  go_enter Tryz.func49, Tryz.ntmps49
  go_wp2
  go_end0
  exact ⟨rfl, ((HB.out.setCell 2 _).alloc _).alloc _, runBoxes w _ _ _ (by simp [World.setCell]), (((Only.refl (fun x => x = mb) w).setCell (.inl rfl) _).alloc _).alloc _⟩
theorem popStep_meth (pb : Nat) (W : World) : Sem.run Tryz.prog (method 358 101 (.pointer (some ⟨pb, 0, none⟩)) "Step") W = .ok (240, .pointer (some ⟨pb, 0, none⟩)) W := by kernel_rfl
theorem popDone_meth (pb : Nat) (W : World) : Sem.run Tryz.prog (method 358 101 (.pointer (some ⟨pb, 0, none⟩)) "Done") W = .ok (239, .pointer (some ⟨pb, 0, none⟩)) W := by kernel_rfl
set_option maxRecDepth 100000 in
set_option maxHeartbeats 2000000 in
/-- What it does, if the other machine is a pop, and done behind its step. -/
theorem run1_pop {w : World} {a : Option Addr} {n pb K : Nat} {f1 cap : Array Value} {k i o nw : Int} (h : HasRun w n (.iface 101 (.pointer (some ⟨pb, 0, none⟩))) (.func (.func K) f1 cap))
    {Q R : World → Prop} (hstQ : Stays Q) (hstR : Stays R) {S M : Nat → Prop} (hSl : ∀ j, S j → j < w.heap.size) (hMl : ∀ j, M j → j < w.heap.size) (hn : ¬ S n) (hn1 : ¬ S (n + 1))
    (hS : ∀ w1, Adds w w1 → Calls Tryz.prog 240 #[.pointer (some ⟨pb, 0, none⟩), .pointer a] w1 fun e w' => e = .returned (.agg #[.int .i64 k, .int .i64 i, .int .u64 o, .int .u64 nw]) ∧ Q w' ∧ Only S w1 w')
    (hD : ∀ W, Q W → Calls Tryz.prog 239 #[.pointer (some ⟨pb, 0, none⟩)] W fun e w' => e = .returned (.bool true) ∧ W = w') (eg : Enters Tryz.prog K)
    (hT : ∀ W, Only S w W → Q W → Calls Tryz.prog K (f1 ++ cap) W fun e w2 => e = .returned (.tuple #[]) ∧ R w2 ∧ Only M W w2) :
    Calls Tryz.prog 98 #[.pointer a, .pointer (some ⟨n, 0, none⟩), .pointer (some ⟨n + 1, 0, none⟩)] w fun e w' => e = .returned (.agg #[.int .i64 k, .int .i64 i, .int .u64 o, .int .u64 nw]) ∧ R w' ∧ Only (fun j => S j ∨ M j) w w' := by
  obtain ⟨wR, hR⟩ : ∃ wR, wR = w.alloc (.cells #[.int .i64 0, .int .i64 0, .int .u64 0, .int .u64 0] 41) := ⟨_, rfl⟩
  have hBR : Hid (Blk wR w.heap.size #[.int .i64 0, .int .i64 0, .int .u64 0, .int .u64 0] 41) := by rw [hR]; exact Lib.hid (Blk.new _ _ _)
  have hAR : Hid (Adds w wR) := by rw [hR]; exact Lib.hid ((Only.refl _ _).alloc _)
  have hr := h.adds hAR.out
  have k0 := h.b0.one
  have H := Lib.hid hr; have HS := Lib.hid (hS wR hAR.out); have HD := Lib.hid hD; have HN := Lib.hid hn; have HN1 := Lib.hid hn1; have HT := Lib.hid hT; have HM := Lib.hid hMl; have HSL := Lib.hid hSl
  have HQ := Lib.hid hstQ; have HRR := Lib.hid hstR
  have eg' : ∀ args W, (callFunc K args).run Tryz.prog W = .ok (.enter K args) W := eg
  have HW := Lib.hid hR
  have hl := h.b0.lt
  have hmS := fun W => popStep_meth pb W
  have hmD := fun W => popDone_meth pb W
  have hk := HS.out
  rw [hR] at hk
  have HK := Lib.hid hk
  clear h hS hD hn hn1 hT hMl hSl hR hr hk HS
  go_enter Tryz.func98, Tryz.ntmps98
  go_wp2_with (first
    | (go_at_call 240; refine HK.out.mono ?_; rintro e w2 ⟨rfl, hq, ho2⟩; rw [← HW.out] at ho2; have hB := hBR.out.only ho2 (fun e => Nat.lt_irrefl _ (HSL.out _ e)); have HB := Lib.hid hB; have hr2 := H.out.only ho2 (fun j h1 h2 => by obtain rfl | rfl := (show j = n ∨ j = n + 1 by omega); exact HN.out; exact HN1.out); have k2 := hr2.b0.one; have k3 := hr2.b1.one; have l2 := hr2.b0.lt; have l3 := hr2.b1.lt; have HQ2 := Lib.hid hq; have HO2 := Lib.hid ((hAR.out.mono (T := S) (fun _ _ e => e.elim)).trans ho2); have HX := Lib.hid (Blk.new w2 #[.int .i64 k, .int .i64 i, .int .u64 o, .int .u64 nw] 41); clear hB hr2 hq ho2)
    | (go_at_call 239; refine (HD.out _ (HQ.out _ _ (((Only.refl (Dids w2) w2).alloc _)) HQ2.out)).mono ?_; rintro e w3 ⟨rfl, rfl⟩)
    | (go_at_fn K; refine (HT.out _ (HO2.out.alloc _) (HQ.out _ _ (((Only.refl (Dids w2) w2).alloc _)) HQ2.out)).mono ?_; rintro e w4 ⟨rfl, hr4, ho4⟩; have hx := HX.out.only ho4 (fun e => by have h1 := HM.out _ e; have h2 := HO2.out.size; omega); obtain ⟨x0, x1, x2, x3, -⟩ := hx.four; have hB := (HB.out.alloc _).only ho4 (fun e => Nat.lt_irrefl _ (HM.out _ e)); obtain ⟨q0, q1, q2, q3, f0, f1, f2, f3⟩ := hB.four; have HR4 := Lib.hid hr4; have HB4 := Lib.hid hB; have HO4 := Lib.hid ho4; clear hr4 hB ho4 hx))
  exact bodyPost_ret (v := .agg #[.int .i64 k, .int .i64 i, .int .u64 o, .int .u64 nw]) (by simp [q0, q1, q2, q3, results, Tryz.results98, go_sem]) rfl ⟨rfl, HRR.out.box HB4.out HR4.out _ _ _ _, only_box4 (((HO2.out.alloc _).mono (T := fun j => S j ∨ M j) (fun _ _ e => .inl e)).trans (HO4.out.mono (T := fun j => S j ∨ M j) (fun _ _ e => .inr e))) (.inr (Nat.le_refl _)) _ _ _ _⟩
/-- A claim's cells. -/
abbrev clC (P T hd gen st tk pgv held hand : Int) : Value → Array Value := fun nx => #[.int .i64 P, .int .i64 T, nx, .int .i64 hd, .int .i64 gen, .int .i64 st, .int .i64 tk, .int .i64 pgv, .int .u64 held, .int .u64 hand]
abbrev clPop (bp bm : Nat) : Value := .func (.func 50) #[] #[.pointer (some ⟨bp, 0, none⟩), .pointer (some ⟨bm, 0, none⟩)]
abbrev popI (pb : Nat) : Value := .iface 101 (.pointer (some ⟨pb, 0, none⟩))
/-- A claim that has a pop next. -/
structure ClPop (w : World) (mb pb : Nat) (c : Value → Array Value) (n bp bm : Nat) : Prop where
  m : Blk w mb (c (runF n)) 76
  r : HasRun w n (popI pb) (clPop bp bm)
  p : Blk w bp #[.pointer (some ⟨pb, 0, none⟩)] 101
  b : Blk w bm #[.pointer (some ⟨mb, 0, none⟩)] 37
section
variable {w w' : World} {mb pb n bp bm : Nat} {c : Value → Array Value} {P T hd gen st tk pgv held hand : Int} {nx : Value}
theorem ClPop.adds (h : ClPop w mb pb c n bp bm) (ho : Adds w w') : ClPop w' mb pb c n bp bm :=
  ⟨h.m.only ho id, h.r.adds ho, h.p.only ho id, h.b.only ho id⟩
theorem Pop1.apart {b : Nat} {c : Array Value} {t : TypeId} (h : Pop1 w pb P T hd st tk) (hb : Blk w b c t) (ht : t ≠ 146 ∧ t ≠ 3 ∧ t ≠ 148) (ho : Only (· = b) w w') : Pop1 w' pb P T hd st tk := by
  obtain ⟨m, h1, h2⟩ := h
  have key : ∀ {B : Nat} {c : Array Value} {u : TypeId}, Blk w B c u → t ≠ u → ¬ B = b := fun hB ht e => by subst e; exact ht (hB.uniq hb).2.symm
  exact ⟨m, h1.only ho (key h1 ht.1), h2.b0.only ho (key h2.b0 ht.2.1), h2.b1.only ho (key h2.b1 ht.2.2)⟩
set_option maxRecDepth 100000 in
set_option maxHeartbeats 2000000 in
theorem claimPop_any (h : Blk w mb (clC P T hd gen st tk pgv held hand nx) 76) (hh : Lay.isHead P T hd = true) :
    Calls Tryz.prog 27 #[.pointer (some ⟨mb, 0, none⟩)] w fun e w' => e = .returned (.tuple #[]) ∧ (∃ pb n bp bm, ClPop w' mb pb (clC P T hd gen st tk pgv held hand) n bp bm ∧ Pop1 w' pb P T hd 0 (-1) ∧ w.heap.size ≤ pb) ∧ Only (· = mb) w w' := by
  have hl := h.lt
  obtain ⟨wM, hM⟩ : ∃ wM, wM = w.alloc (.cells #[.pointer (some ⟨mb, 0, none⟩)] 37) := ⟨_, rfl⟩
  have hB : Blk wM mb (clC P T hd gen st tk pgv held hand nx) 76 := by rw [hM]; exact h.alloc _
  have hBM : Blk wM w.heap.size #[.pointer (some ⟨mb, 0, none⟩)] 37 := by rw [hM]; exact Blk.new _ _ _
  have hA : Adds w wM := by rw [hM]; exact (Only.refl _ _).alloc _
  have c0 := hB.cell 0; have c1 := hB.cell 1; have c3 := hB.cell 3
  have k0 := hBM.one
  have lM := hBM.lt; have lB := hB.lt
  have HB := Lib.hid hB; have HBM := Lib.hid hBM; have HA := Lib.hid hA; have HM := Lib.hid hM; have HH := Lib.hid hh
  clear h hB hBM hA hM hh
  go_enter Tryz.func27, Tryz.ntmps27
  go_upto_region 1 with fail
  rw [← HM.out]
  go_cut [2, 12] (fun q v wx => ∃ b pb, q = .pointer (some ⟨b, 0, none⟩) ∧ v = .pointer (some ⟨pb, 0, none⟩) ∧ Blk wx b #[.pointer (some ⟨pb, 0, none⟩)] 101 ∧ Pop1 wx pb P T hd 0 (-1) ∧ Adds wM wx ∧ wM.heap.size ≤ pb)
  case first =>
   go_wp2_with fail
   go_region_with ((first
    | (go_at_call 48; with_reducible refine (newPop_ok P T hd wM HH.out).mono ?_; rintro e w1 ⟨pb, rfl, hm, ho, hlow⟩; have HP1 := Lib.hid hm; have HO1 := Lib.hid ho; have HL1 : Hid (wM.heap.size ≤ pb) := Lib.hid (by (try simp only [World.size_drew, World.size_alloc] at hlow); omega); clear hm ho hlow)
    | (go_at_call 48; with_reducible refine (newPop_ok P T hd wM.drew HH.out).mono ?_; rintro e w1 ⟨pb, rfl, hm, ho, hlow⟩; have HP1 := Lib.hid hm; have HO1 := Lib.hid ho; have HL1 : Hid (wM.heap.size ≤ pb) := Lib.hid (by (try simp only [World.size_drew, World.size_alloc] at hlow); omega); clear hm ho hlow)
    | (go_at_call 48; with_reducible refine (newPop_ok P T hd ((wM.alloc (.cells #[.pointer none] 101)).drew) HH.out).mono ?_; rintro e w1 ⟨pb, rfl, hm, ho, hlow⟩; have HP1 := Lib.hid hm; have HO1 := Lib.hid ho; have HL1 : Hid (wM.heap.size ≤ pb) := Lib.hid (by (try simp only [World.size_drew, World.size_alloc] at hlow); omega); have bn := (Blk.new wM #[.pointer none] 101).only (((Only.refl (fun _ => False) _).drew).thenF ho) id; have fb := bn.frozen 0; have cb := bn.one; have lb := bn.lt; have HBN := Lib.hid bn; clear bn; clear hm ho hlow)))
   all_goals (
     go_wp2_with fail
     go_meet
     first
     | exact ⟨_, _, rfl, rfl, HBN.out.setCell 0 _, HP1.out.apart HBN.out (by decide) ((Only.refl (· = wM.heap.size) w1).setCell (p := ⟨wM.heap.size, 0, none⟩) (.inl rfl) _), (((Only.refl (fun _ => False) _).alloc _).drew.thenF HO1.out).setCell (.inr (Nat.le_refl _)) _, HL1.out⟩
     | exact ⟨_, _, rfl, rfl, Blk.new w1 _ _, Desk.adds HP1.out ((Only.refl (fun _ => False) w1).alloc _), (((Only.refl (fun _ => False) _).drew).thenF HO1.out).alloc _, HL1.out⟩
     | exact ⟨_, _, rfl, rfl, Blk.new w1 _ _, Desk.adds HP1.out ((Only.refl (fun _ => False) w1).alloc _), HO1.out.alloc _, HL1.out⟩)
  case rest =>
    obtain ⟨b, pb, rfl, rfl, hb, hp, ho, hpl⟩ := hcut
    have p0 := hb.one
    have m0 := (HBM.out.only ho id).one
    have HB2 := Lib.hid (HB.out.only ho id); have HBM2 := Lib.hid (HBM.out.only ho id); have HBB := Lib.hid hb; have HP := Lib.hid hp; have HO := Lib.hid ho
    clear hb hp ho c0 c1 c3 k0
    go_wp2_with fail
    go_region_with ((first
    | (go_at_call 49; refine (deskRun_any (c := clC P T hd gen st tk pgv held hand nx) (HB2.out.only ((Only.refl (fun _ => False) _).drew) id) (by simp) _ _ _ _ _).mono ?_; rintro e w2 ⟨rfl, hm, hr, ho2⟩)))
    all_goals (
      go_end0
      have ho3 := ((Only.refl (· = mb) wc).drew).trans ho2
      exact ⟨rfl, ⟨pb, _, b, w.heap.size, ⟨hm, hr, HBB.out.only ho3 (fun e => by subst e; exact absurd (HBB.out.uniq HB2.out).2 (by decide)), HBM2.out.only ho3 (fun e => by subst e; exact absurd (HBM2.out.uniq HB2.out).2 (by decide))⟩, HP.out.apart HB2.out (by decide) ho3, by omega⟩, ((HA.out.thenF HO.out).mono (T := (· = mb)) (fun _ _ e => e.elim)).trans ho3⟩)
end
end Go.Proofs.YtmnliddjddpchaaGreat

/- RecordRuns: a machine of both sides made, and stepped. By an AI agent. -/
import Derived.Test.YtbepbcjklgfmjaaGreatDoorZRecInv
import Derived.Test.YtbepbcjklgfmjaaGreatDoorZRecFix
import Derived.Deep.RegionHeld3
import Derived.Deep.DeepCutAuto
import Derived.Deep.CutBlock
namespace Go.Proofs.YtbepbcjklgfmjaaGreatDoor
open Go.RowKit
set_option linter.unusedSimpArgs false
set_option linter.unusedVariables false
abbrev rcMS (what P pg cl ps gn al : Int) : MS := ⟨what, P, 2, 0, pg, cl, ps, gn, 0, 0, 0, al, [], false, 0, false, 0, 0, 0, 0, 0, 0, 0, 0, 0⟩
/-- What made leaves. -/
def MadeR (P : Int) (k : RcS) (w : World) (e : Ending) (w' : World) : Prop := ∃ (m p b : Nat) (x : MS), e = .returned (.pointer (some ⟨m, 0, none⟩)) ∧ Blk w' m (rcMach k.isLay p b) 69 ∧ RcA P 2 w' p k ∧ IsM w' b x (.slice none 0 0) (.slice none 0 0) (.pointer none) ∧ RcM x P 2 k ∧ Adds w w' ∧ w.heap.size ≤ m ∧ w.heap.size ≤ p ∧ w.heap.size ≤ b
theorem madeR_end {P : Int} {w v1 V v2 : World} {m p b i : Nat} {k : RcS} {x : MS} {cr : Array Value} (h1 : Adds w v1) (hb : IsM v1 b x (.slice none 0 0) (.slice none 0 0) (.pointer none)) (hbl : w.heap.size ≤ b) (h2 : Adds v1 V) (hm : Blk V m cr 69) (hml : v1.heap.size ≤ m) (h3 : Adds V v2) (ha : RcA P 2 v2 p k) (hp : V.heap.size ≤ p) (hx : RcM x P 2 k)
    (hc : cr.setIfInBounds i (.pointer (some ⟨p, 0, none⟩)) = rcMach k.isLay p b) (hs : cr.size ≠ 1) : MadeR P k w (.returned (.pointer (some ⟨m, 0, none⟩))) (v2.setCell ⟨m, i, none⟩ (.pointer (some ⟨p, 0, none⟩))) := by
  have ho := only_at v2 m i (.pointer (some ⟨p, 0, none⟩))
  have hm2 := hm.only h3 id
  have z1 := h1.size; have z2 := h2.size; have z3 := h3.size; have z4 := hm.lt
  refine ⟨m, p, b, x, rfl, ?_, (rcO P 2).keep ha ho (by omega) (fun q y u hq e => by subst e; exact hs (by rw [(hm2.uniq hq).1]; rfl)), ((hb.adds h2).adds h3).only ho (fun e => by have := hb.blk.lt; omega) (fun g hg => by cases hg), hx, ((h1.thenF h2).thenF h3).setCell (p := ⟨m, i, none⟩) (.inr (by show w.heap.size ≤ m; omega)) _, by omega, by omega, hbl⟩
  rw [← hc]
  exact hm2.setCell i _
section
variable {w : World} {P pg cl al gn : Int} {n : Nat}
theorem rcA_lay0 {p : Nat} {st : Int} (h : LayI w p P 2 pg cl n al st 0) (hn : 1 ≤ n) : RcA P 2 w p (.lay ⟨pg, n, cl, al, st⟩ 0) := ⟨show 0 < n + 4 by omega, .inl ⟨show ((0 : Nat) : Int) < n by omega, h⟩⟩
theorem rcA_gone0 {p : Nat} (h : GoneI w p P 2 pg n 0) (hn : 1 ≤ n) : RcA P 2 w p (.gone ⟨pg, n, 0, 0, 0⟩ 0) := ⟨show 0 < n + 1 by omega, .inl ⟨show ((0 : Nat) : Int) < n by omega, h⟩⟩
set_option maxRecDepth 100000 in
set_option maxHeartbeats 4000000 in
theorem madeLay_any (hT : Tab w) (F : Fix P pg cl n al gn) (ha : al ≤ onesV (clS cl)) (hc : cl = 14 ∨ (0 ≤ cl ∧ cl < 14 ∧ (n : Int) = clP cl)) :
    Calls Tryz.prog 17 #[.agg (mCellsZ 5 P 2 0 pg cl n gn 0 0 0 al)] w (MadeR P (.lay ⟨pg, n, cl, al, Ph.mk gn 2⟩ 0) w) := by
  obtain ⟨C, hC⟩ : ∃ C, mCellsZ 5 P 2 0 pg cl n gn 0 0 0 al = C := ⟨_, rfl⟩
  rw [hC]
  have hs : C.size = 32 := by rw [← hC]; rfl
  have hs1 : ¬ C.size = 1 := by omega
  obtain ⟨B0, hB0⟩ : ∃ B, w.heap.size = B := ⟨_, rfl⟩
  obtain ⟨W0, hW0⟩ : ∃ W, w.alloc (.cells C 61) = W := ⟨_, rfl⟩
  have hl : Blk W0 B0 C 61 := by rw [← hW0, ← hB0]; exact Blk.new w _ _
  have hO0 : Adds w W0 := by rw [← hW0]; exact (Only.refl (fun _ => False) w).alloc _
  have HL : Hid (∀ W, Adds W0 W → W.cell? ⟨B0, 0, none⟩ = some (.int .i64 5) ∧ W.cell? ⟨B0, 1, none⟩ = some (.int .i64 P) ∧ W.cell? ⟨B0, 2, none⟩ = some (.int .i64 2) ∧ W.cell? ⟨B0, 4, none⟩ = some (.int .i64 pg) ∧ W.cell? ⟨B0, 5, none⟩ = some (.int .i64 cl) ∧ W.cell? ⟨B0, 6, none⟩ = some (.int .i64 n) ∧ W.cell? ⟨B0, 7, none⟩ = some (.int .i64 gn) ∧ W.cell? ⟨B0, 11, none⟩ = some (.int .u64 al)) := Lib.hid (fun W hA => by
    have h2 := hl.only hA id
    rw [← hC] at h2
    exact ⟨h2.cell 0, h2.cell 1, h2.cell 2, h2.cell 4, h2.cell 5, h2.cell 6, h2.cell 7, h2.cell 11⟩)
  have HLB := Lib.hid hl; have HO := Lib.hid hO0; have HC := Lib.hid hC
  have HTab := Lib.hid hT; have HF := Lib.hid F; have HA9 := Lib.hid ha; have HC9 := Lib.hid hc
  have hn1 : 1 ≤ n := by have := F.h1; omega
  clear hT F ha hc
  clear hl hO0 hC
  go_enter Tryz.func17, Tryz.ntmps17
  go_upto_region 1 with fail
  try rw [hW0]
  try rw [hB0]
  go_step
  refine wpList_load_row rfl 61 _ rfl B0 rfl 61 C (0, 0) _ HLB.out Tryz.underlying61 rfl (by rw [hs]; exact infoM) ?_
  go_wp2_with fail
  refine (mNew_any (x := rcMS 5 P pg cl n gn al) HC.out.symm rfl ⟨Nat.le_refl _, fun e => (by cases e)⟩ _).mono ?_
  rintro e v1 ⟨b, rfl, hb, ho1, hbl⟩
  obtain ⟨m, hmm⟩ : ∃ m, v1.heap.size = m := ⟨_, rfl⟩
  obtain ⟨V, hV⟩ : ∃ V, v1.alloc (.cells #[.pointer none, .pointer none, .pointer (some ⟨b, 0, none⟩)] 69) = V := ⟨_, rfl⟩
  have hmb : Blk V m #[.pointer none, .pointer none, .pointer (some ⟨b, 0, none⟩)] 69 := by rw [← hV, ← hmm]; exact Blk.new v1 _ _
  have hO2 : Adds v1 V := by rw [← hV]; exact (Only.refl (fun _ => False) v1).alloc _
  obtain ⟨r0, r1, r2, r4, r5, r6, r7, r11⟩ := HL.out V (ho1.thenF hO2)
  have HMB := Lib.hid hmb; have HO2 := Lib.hid hO2; have HB := Lib.hid hb; have HO1 := Lib.hid ho1; have HBL := Lib.hid hbl
  have hml := Nat.le_of_eq hmm
  have HML := Lib.hid hml
  have hx9 : Adds w V := (HO.out.thenF ho1).thenF hO2
  clear hmb hO2 hb ho1 hbl hml
  go_wp2_with (go_at_call 36; refine (newLay_fix (HTab.out.adds hx9) HF.out HA9.out HC9.out).mono ?_; rintro e v2 ⟨p, rfl, ha, ho3, hp⟩; have HA := Lib.hid ha; have HO3 := Lib.hid ho3; have HP := Lib.hid hp; have c9 : v2.cell? ⟨m, 0, none⟩ = some (.pointer none) := (HMB.out.only ho3 id).cell 0; have f9 : v2.frozen? ⟨m, 0, none⟩ = false := (HMB.out.only ho3 id).frozen 0; clear ha ho3 hp)
  go_ret
  exact madeR_end (k := .lay ⟨pg, n, cl, al, Ph.mk gn 2⟩ 0) (i := 0) (HO.out.thenF HO1.out) HB.out (Nat.le_trans HO.out.size HBL.out) HO2.out HMB.out HML.out HO3.out (rcA_lay0 HA.out hn1) HP.out ⟨rfl, rfl, rfl, rfl, ⟨rfl, rfl, rfl, rfl, rfl⟩, rfl, show 0 < n + 4 by omega⟩ rfl (by simp)
set_option maxRecDepth 100000 in
set_option maxHeartbeats 4000000 in
theorem madeGone_any (hm : Lay.may P 2 = true) (h0 : 0 ≤ pg) (hn1 : 1 ≤ n) (h2 : pg + n ≤ P) :
    Calls Tryz.prog 17 #[.agg (mCellsZ 6 P 2 0 pg 0 n 0 0 0 0 0)] w (MadeR P (.gone ⟨pg, n, 0, 0, 0⟩ 0) w) := by
  obtain ⟨C, hC⟩ : ∃ C, mCellsZ 6 P 2 0 pg 0 n 0 0 0 0 0 = C := ⟨_, rfl⟩
  rw [hC]
  have hs : C.size = 32 := by rw [← hC]; rfl
  have hs1 : ¬ C.size = 1 := by omega
  obtain ⟨B0, hB0⟩ : ∃ B, w.heap.size = B := ⟨_, rfl⟩
  obtain ⟨W0, hW0⟩ : ∃ W, w.alloc (.cells C 61) = W := ⟨_, rfl⟩
  have hl : Blk W0 B0 C 61 := by rw [← hW0, ← hB0]; exact Blk.new w _ _
  have hO0 : Adds w W0 := by rw [← hW0]; exact (Only.refl (fun _ => False) w).alloc _
  have HL : Hid (∀ W, Adds W0 W → W.cell? ⟨B0, 0, none⟩ = some (.int .i64 6) ∧ W.cell? ⟨B0, 1, none⟩ = some (.int .i64 P) ∧ W.cell? ⟨B0, 2, none⟩ = some (.int .i64 2) ∧ W.cell? ⟨B0, 4, none⟩ = some (.int .i64 pg) ∧ W.cell? ⟨B0, 5, none⟩ = some (.int .i64 0) ∧ W.cell? ⟨B0, 6, none⟩ = some (.int .i64 n) ∧ W.cell? ⟨B0, 7, none⟩ = some (.int .i64 0) ∧ W.cell? ⟨B0, 11, none⟩ = some (.int .u64 0)) := Lib.hid (fun W hA => by
    have h2 := hl.only hA id
    rw [← hC] at h2
    exact ⟨h2.cell 0, h2.cell 1, h2.cell 2, h2.cell 4, h2.cell 5, h2.cell 6, h2.cell 7, h2.cell 11⟩)
  have HLB := Lib.hid hl; have HO := Lib.hid hO0; have HC := Lib.hid hC
  have HMM := Lib.hid hm
  have HTH : Hid (thereB P pg n = true) := Lib.hid (by unfold thereB; exact decide_eq_true ⟨by omega, by omega, by omega, by omega⟩)
  clear hm h0 h2
  clear hl hO0 hC
  go_enter Tryz.func17, Tryz.ntmps17
  go_upto_region 1 with fail
  try rw [hW0]
  try rw [hB0]
  go_step
  refine wpList_load_row rfl 61 _ rfl B0 rfl 61 C (0, 0) _ HLB.out Tryz.underlying61 rfl (by rw [hs]; exact infoM) ?_
  go_wp2_with fail
  refine (mNew_any (x := rcMS 6 P pg 0 n 0 0) HC.out.symm rfl ⟨Nat.le_refl _, fun e => (by cases e)⟩ _).mono ?_
  rintro e v1 ⟨b, rfl, hb, ho1, hbl⟩
  obtain ⟨m, hmm⟩ : ∃ m, v1.heap.size = m := ⟨_, rfl⟩
  obtain ⟨V, hV⟩ : ∃ V, v1.alloc (.cells #[.pointer none, .pointer none, .pointer (some ⟨b, 0, none⟩)] 69) = V := ⟨_, rfl⟩
  have hmb : Blk V m #[.pointer none, .pointer none, .pointer (some ⟨b, 0, none⟩)] 69 := by rw [← hV, ← hmm]; exact Blk.new v1 _ _
  have hO2 : Adds v1 V := by rw [← hV]; exact (Only.refl (fun _ => False) v1).alloc _
  obtain ⟨r0, r1, r2, r4, r5, r6, r7, r11⟩ := HL.out V (ho1.thenF hO2)
  have HMB := Lib.hid hmb; have HO2 := Lib.hid hO2; have HB := Lib.hid hb; have HO1 := Lib.hid ho1; have HBL := Lib.hid hbl
  have hml := Nat.le_of_eq hmm
  have HML := Lib.hid hml
  have hx9 : Adds w V := (HO.out.thenF ho1).thenF hO2
  clear hmb hO2 hb ho1 hbl hml
  go_wp2_with (go_at_call 44; refine (newGone_ok _ _ _ _ _ HMM.out HTH.out).mono ?_; rintro e v2 ⟨p, rfl, ha, ho3, hp⟩; have HA := Lib.hid ha; have HO3 := Lib.hid ho3; have HP := Lib.hid hp; have c9 : v2.cell? ⟨m, 1, none⟩ = some (.pointer none) := (HMB.out.only ho3 id).cell 1; have f9 : v2.frozen? ⟨m, 1, none⟩ = false := (HMB.out.only ho3 id).frozen 1; clear ha ho3 hp)
  go_ret
  exact madeR_end (k := .gone ⟨pg, n, 0, 0, 0⟩ 0) (i := 1) (HO.out.thenF HO1.out) HB.out (Nat.le_trans HO.out.size HBL.out) HO2.out HMB.out HML.out HO3.out (rcA_gone0 HA.out hn1) HP.out ⟨rfl, rfl, rfl, rfl, ⟨rfl, rfl⟩, rfl, show 0 < n + 1 by omega⟩ rfl (by simp)
end
theorem RH.cellsM {w W : World} {ab sb sm rb rg bb tb tm ub fb onb stb t m : Nat} {P : Int} {s s' : StoreS} {L : List (Option RcL)} {Ms : List (Option Nat)} {z : RcL} (h : RH w ab sb sm rb rg bb tb tm ub fb onb stb P W s s' L Ms) (hz : L[t]? = some (some z)) (hM : Ms[t]? = some (some m)) : Blk W m (rcMach z.k.isLay z.a z.b) 69 := by
  obtain ⟨m', h1, h2⟩ := h.mach t z hz
  rw [hM] at h1
  injection h1 with h1
  injection h1 with h1
  subst h1; exact h2
section
variable {w wr : World} {ab sb sm rb rg bb tb tm ub fb onb stb t m : Nat} {P : Int} {s s' : StoreS} {L : List (Option RcL)} {Ms : List (Option Nat)} {z : RcL} {q : RcP} {i : Nat}
set_option maxRecDepth 100000 in
set_option maxHeartbeats 8000000 in
theorem stepLay_any (h : RH w ab sb sm rb rg bb tb tm ub fb onb stb P wr s s' L Ms) (hz : L[t]? = some (some z)) (hM : Ms[t]? = some (some m)) (hm : Lay.may P 2 = true) (hk : z.k = .lay q i) (hx : RcM z.x P 2 z.k) (hq : q.Ok P) (he : s.ws = s'.ws) :
    Calls Tryz.prog 18 #[.pointer (some ⟨m, 0, none⟩), .pointer (some ⟨ab, 0, none⟩), .pointer (some ⟨bb, 0, none⟩)] wr fun e w' => e = .returned (.bool true) ∧ ∃ z2 : RcL, (z2.a = z.a ∧ z2.b = z.b ∧ z2.k = z.k.nx) ∧ (z.k.nx.got = false → RcM z2.x P 2 z.k.nx) ∧ w'.cell? ⟨z.b, 15, none⟩ = some (.bool z.k.nx.got) ∧ RH w ab sb sm rb rg bb tb tm ub fb onb stb P w' ((z.k.ac P 2).act s) ((z.k.ac P 2).act s') (L.set t (some z2)) Ms := by
  obtain ⟨ka, hka⟩ : ∃ v, ((z.k.ac P 2).act s).k = v := ⟨_, rfl⟩
  obtain ⟨kp, hkp⟩ : ∃ v, ((z.k.ac P 2).act s).pos = v := ⟨_, rfl⟩
  obtain ⟨ko, hko⟩ : ∃ v, ((z.k.ac P 2).act s).old = v := ⟨_, rfl⟩
  obtain ⟨kn, hkn⟩ : ∃ v, ((z.k.ac P 2).act s).new = v := ⟨_, rfl⟩
  have hdA : didA ((z.k.ac P 2).act s) = #[.int .i64 ka, .int .i64 kp, .int .u64 ko, .int .u64 kn] := by rw [← hka, ← hkp, ← hko, ← hkn]
  obtain ⟨dn, hdn⟩ : ∃ d, z.k.nx.got = d := ⟨_, rfl⟩
  have hlay : z.k.isLay = true := by rw [hk]; rfl
  have hqq : z.k.q.Ok P := by rw [hk]; exact hq
  have hlt : t < L.length := (List.getElem?_eq_some_iff.1 hz).1
  have hl1 : (L.set t (some { z with k := z.k.nx }))[t]? = some (some { z with k := z.k.nx }) := List.getElem?_set_self hlt
  have HCM : Hid (∀ (W : World) (S S' : StoreS) (L1 : List (Option RcL)) (y : RcL), RH w ab sb sm rb rg bb tb tm ub fb onb stb P W S S' L1 Ms → L1[t]? = some (some y) → y.k.isLay = true → y.a = z.a → y.b = z.b → W.cell? ⟨m, 0, none⟩ = some (.pointer (some ⟨z.a, 0, none⟩)) ∧ W.cell? ⟨m, 0, none⟩ = some (.pointer (some ⟨z.a, 0, none⟩)) ∧ W.cell? ⟨m, 2, none⟩ = some (.pointer (some ⟨z.b, 0, none⟩))) := Lib.hid (fun W S S' L1 y h1 h2 h3 h4 h5 => by
    have hb := h1.cellsM h2 hM
    rw [h3, h4, h5] at hb
    exact ⟨hb.cell 0, hb.cell 0, hb.cell 2⟩)
  have HOUR : Hid (∀ W, Adds wr W → Calls Tryz.prog 39 #[.pointer (some ⟨z.a, 0, none⟩), .pointer (some ⟨ab, 0, none⟩)] W fun e w' => e = .returned (.agg #[.int .i64 ka, .int .i64 kp, .int .u64 ko, .int .u64 kn]) ∧ Hid (RH w ab sb sm rb rg bb tb tm ub fb onb stb P w' ((z.k.ac P 2).act s) s' (L.set t (some { z with k := z.k.nx })) Ms)) := Lib.hid (fun W hA => by
    refine (ourLay (h.add hA) hz hm hk hq).mono (fun e w' c => ⟨?_, Lib.hid c.2⟩)
    rw [← hdA]; exact c.1)
  have HDOC : Hid (∀ W, RH w ab sb sm rb rg bb tb tm ub fb onb stb P W ((z.k.ac P 2).act s) s' (L.set t (some { z with k := z.k.nx })) Ms → Calls Tryz.prog 45 #[.pointer (some ⟨z.b, 0, none⟩), .pointer (some ⟨bb, 0, none⟩)] W fun e w' => e = .returned (.agg #[.int .i64 ka, .int .i64 kp, .int .u64 ko, .int .u64 kn]) ∧ ∃ z2 : RcL, Hid ((z2.a = z.a ∧ z2.b = z.b ∧ z2.k = z.k.nx) ∧ (dn = false → RcM z2.x P 2 z.k.nx)) ∧ Hid (w'.cell? ⟨z.b, 15, none⟩ = some (.bool dn)) ∧ Hid (RH w ab sb sm rb rg bb tb tm ub fb onb stb P w' ((z.k.ac P 2).act s) ((z.k.ac P 2).act s') (L.set t (some z2)) Ms ∧ (L.set t (some z2))[t]? = some (some z2))) := Lib.hid (fun W hR => by
    refine (docStepR (s := s) hR hl1 hm hx hqq he).mono (fun e w' c => ?_)
    obtain ⟨c1, z2, c2, c3, c4, c5⟩ := c
    rw [hdA] at c1
    rw [hdn] at c3 c4
    rw [List.set_set] at c5
    exact ⟨c1, z2, Lib.hid ⟨c2, c3⟩, Lib.hid c4, Lib.hid ⟨c5, List.getElem?_set_self hlt⟩⟩)
  have HDN : Hid (∀ W (y : RcL), RcA P 2 W y.a y.k → y.a = z.a → y.k = z.k.nx → Calls Tryz.prog 38 #[.pointer (some ⟨z.a, 0, none⟩)] W fun e w' => e = .returned (.bool dn) ∧ W = w') := Lib.hid (fun W y h1 h2 h3 => by
    rw [h2, h3] at h1
    rw [← hdn]
    exact rcLay_done h1 (by rw [RcS.nx_isLay]; exact hlay))
  obtain ⟨c0, cp, c2⟩ := HCM.out wr s s' L z h hz hlay rfl rfl
  have HL1 := Lib.hid hl1
  have HLAY : Hid (z.k.nx.isLay = true) := Lib.hid (by rw [RcS.nx_isLay]; exact hlay)
  have hde : ∀ W, Sem.run Tryz.prog (binOp .eql 57 (.agg #[.int .i64 ka, .int .i64 kp, .int .u64 ko, .int .u64 kn]) (.agg #[.int .i64 ka, .int .i64 kp, .int .u64 ko, .int .u64 kn])) W = .ok (.bool true) W := fun W => by rw [did_eql]; simp
  rw [hdn]
  clear h hz hM hm hk hx hq he hka hkp hko hkn hdA hdn hlay hqq hlt hl1
  go_enter Tryz.func18, Tryz.ntmps18
  go_upto_region 2 with fail
  refine wp_region_held_drew (S := (fun V => V.cell? ⟨m, 0, none⟩ = some (.pointer (some ⟨z.a, 0, none⟩)) ∧ V.cell? ⟨m, 2, none⟩ = some (.pointer (some ⟨z.b, 0, none⟩)))) (by kernel_rfl) ⟨cp, c2⟩ (fun hHeld => ?_)
  refine wpAnyH_take (i := 0) (v := (.pointer (some ⟨m, 0, none⟩))) rfl (by kernel_rfl) (by kernel_rfl) (by kernel_rfl) (fun _ _ _ h => h) (Or.inl ⟨by rfl, fun W hS => by first | rfl | (go_simp; done)⟩) hHeld ?_
  try simp only [Act.put, List.getElem_toArray, List.getElem_cons_succ, List.getElem_cons_zero, List.setIfInBounds_toArray, List.set_cons_zero, List.set_cons_succ]
  refine wpAnyH_take (i := 1) (v := (.pointer (some ⟨m, 0, none⟩))) rfl (by kernel_rfl) (by kernel_rfl) (by kernel_rfl) (fun _ _ _ h => h) (Or.inl ⟨by rfl, fun W hS => by first | rfl | (go_simp; done)⟩) hHeld ?_
  try simp only [Act.put, List.getElem_toArray, List.getElem_cons_succ, List.getElem_cons_zero, List.setIfInBounds_toArray, List.set_cons_zero, List.set_cons_succ]
  refine wpAnyH_take (i := 2) (v := (.pointer (some ⟨m, 0, none⟩))) rfl (by kernel_rfl) (by kernel_rfl) (by kernel_rfl) (fun _ _ _ h => h) (Or.inl ⟨by rfl, fun W hS => by first | rfl | (go_simp; done)⟩) hHeld ?_
  try simp only [Act.put, List.getElem_toArray, List.getElem_cons_succ, List.getElem_cons_zero, List.setIfInBounds_toArray, List.set_cons_zero, List.set_cons_succ]
  refine wpAnyH_take (i := 3) (v := (.pointer (some ⟨z.a, 0, none⟩))) rfl (by kernel_rfl) (by kernel_rfl) (by kernel_rfl) (fun _ _ _ h => h) (Or.inl ⟨by rfl, fun W hS => by (obtain ⟨q1, q2⟩ := hS; go_simp; done)⟩) hHeld ?_
  try simp only [Act.put, List.getElem_toArray, List.getElem_cons_succ, List.getElem_cons_zero, List.setIfInBounds_toArray, List.set_cons_zero, List.set_cons_succ]
  refine wpAnyH_take (i := 4) (v := (.pointer (some ⟨ab, 0, none⟩))) rfl (by kernel_rfl) (by kernel_rfl) (by kernel_rfl) (fun _ _ _ h => h) (Or.inl ⟨by rfl, fun W hS => by first | rfl | (go_simp; done)⟩) hHeld ?_
  try simp only [Act.put, List.getElem_toArray, List.getElem_cons_succ, List.getElem_cons_zero, List.setIfInBounds_toArray, List.set_cons_zero, List.set_cons_succ]
  refine wpAnyH_take (i := 6) (v := (.pointer (some ⟨m, 0, none⟩))) rfl (by kernel_rfl) (by kernel_rfl) (by kernel_rfl) (fun _ _ _ h => h) (Or.inl ⟨by rfl, fun W hS => by first | rfl | (go_simp; done)⟩) hHeld ?_
  try simp only [Act.put, List.getElem_toArray, List.getElem_cons_succ, List.getElem_cons_zero, List.setIfInBounds_toArray, List.set_cons_zero, List.set_cons_succ]
  refine wpAnyH_take (i := 7) (v := (.pointer (some ⟨m, 0, none⟩))) rfl (by kernel_rfl) (by kernel_rfl) (by kernel_rfl) (fun _ _ _ h => h) (Or.inl ⟨by rfl, fun W hS => by first | rfl | (go_simp; done)⟩) hHeld ?_
  try simp only [Act.put, List.getElem_toArray, List.getElem_cons_succ, List.getElem_cons_zero, List.setIfInBounds_toArray, List.set_cons_zero, List.set_cons_succ]
  refine wpAnyH_take (i := 8) (v := (.pointer (some ⟨m, 2, none⟩))) rfl (by kernel_rfl) (by kernel_rfl) (by kernel_rfl) (fun _ _ _ h => h) (Or.inl ⟨by rfl, fun W hS => by first | rfl | (go_simp; done)⟩) hHeld ?_
  try simp only [Act.put, List.getElem_toArray, List.getElem_cons_succ, List.getElem_cons_zero, List.setIfInBounds_toArray, List.set_cons_zero, List.set_cons_succ]
  refine wpAnyH_take (i := 9) (v := (.pointer (some ⟨z.b, 0, none⟩))) rfl (by kernel_rfl) (by kernel_rfl) (by kernel_rfl) (fun _ _ _ h => h) (Or.inl ⟨by rfl, fun W hS => by (obtain ⟨q1, q2⟩ := hS; go_simp; done)⟩) hHeld ?_
  try simp only [Act.put, List.getElem_toArray, List.getElem_cons_succ, List.getElem_cons_zero, List.setIfInBounds_toArray, List.set_cons_zero, List.set_cons_succ]
  refine wpAnyH_take (i := 10) (v := (.pointer (some ⟨bb, 0, none⟩))) rfl (by kernel_rfl) (by kernel_rfl) (by kernel_rfl) (fun _ _ _ h => h) (Or.inl ⟨by rfl, fun W hS => by first | rfl | (go_simp; done)⟩) hHeld ?_
  try simp only [Act.put, List.getElem_toArray, List.getElem_cons_succ, List.getElem_cons_zero, List.setIfInBounds_toArray, List.set_cons_zero, List.set_cons_succ]
  refine wpAnyH_ready (rs := [5]) (by kernel_rfl) (by simp) (AllReadyH.cons rfl (fun K hK => ?_) AllReadyH.nil)
  simp only [List.getElem_toArray, List.getElem_cons_succ, List.getElem_cons_zero]
  go_simp
  refine (HOUR.out _ ((Only.refl (fun _ => False) wr).drew)).mono ?_
  rintro e v1 ⟨rfl, HV1⟩
  obtain ⟨-, a0, a2⟩ := HCM.out v1 _ _ _ _ HV1.out HL1.out HLAY.out rfl rfl
  refine hK.out _ _ ⟨a0, a2⟩ (fun hHeld => ?_)
  clear hK K
  try simp only [Act.put, List.getElem_toArray, List.getElem_cons_succ, List.getElem_cons_zero, List.setIfInBounds_toArray, List.set_cons_zero, List.set_cons_succ]
  refine wpAnyH_ready (rs := [11]) (by kernel_rfl) (by simp) (AllReadyH.cons rfl (fun K hK => ?_) AllReadyH.nil)
  simp only [List.getElem_toArray, List.getElem_cons_succ, List.getElem_cons_zero]
  go_simp
  refine (HDOC.out v1 HV1.out).mono ?_
  rintro e v2 ⟨rfl, z2, HZ2, HC15, HV2⟩
  obtain ⟨-, b0, b2⟩ := HCM.out v2 _ _ _ z2 HV2.out.1 HV2.out.2 (by rw [HZ2.out.1.2.2]; exact HLAY.out) HZ2.out.1.1 HZ2.out.1.2.1
  have b15 := HC15.out
  refine hK.out _ _ ⟨b0, b2⟩ (fun hHeld => ?_)
  clear hK K
  try simp only [Act.put, List.getElem_toArray, List.getElem_cons_succ, List.getElem_cons_zero, List.setIfInBounds_toArray, List.set_cons_zero, List.set_cons_succ]
  refine wpAnyH_mono (S2 := (fun V => V.cell? ⟨m, 0, none⟩ = some (.pointer (some ⟨z.a, 0, none⟩)) ∧ V.cell? ⟨m, 2, none⟩ = some (.pointer (some ⟨z.b, 0, none⟩)) ∧ V.cell? ⟨z.b, 15, none⟩ = some (.bool dn))) (fun W h => ⟨h.1, h.2.1⟩) ?_
  replace hHeld := And.intro b0 (And.intro b2 b15)
  refine wpAnyH_take (i := 12) (v := (.bool true)) rfl (by kernel_rfl) (by kernel_rfl) (by kernel_rfl) (fun _ _ _ h => h) (Or.inl ⟨by rfl, fun W hS => by first | rfl | (go_simp; done) | (simp [go_sem, hde]; done)⟩) hHeld ?_
  try simp only [Act.put, List.getElem_toArray, List.getElem_cons_succ, List.getElem_cons_zero, List.setIfInBounds_toArray, List.set_cons_zero, List.set_cons_succ]
  refine wpAnyH_take (i := 13) (v := (.bool true)) rfl (by kernel_rfl) (by kernel_rfl) (by kernel_rfl) (fun _ _ _ h => h) (Or.inl ⟨by rfl, fun W hS => by first | rfl | (go_simp; done)⟩) hHeld ?_
  try simp only [Act.put, List.getElem_toArray, List.getElem_cons_succ, List.getElem_cons_zero, List.setIfInBounds_toArray, List.set_cons_zero, List.set_cons_succ]
  refine wpAnyH_take (i := 14) (v := (.pointer (some ⟨m, 0, none⟩))) rfl (by kernel_rfl) (by kernel_rfl) (by kernel_rfl) (fun _ _ _ h => h) (Or.inl ⟨by rfl, fun W hS => by first | rfl | (go_simp; done)⟩) hHeld ?_
  try simp only [Act.put, List.getElem_toArray, List.getElem_cons_succ, List.getElem_cons_zero, List.setIfInBounds_toArray, List.set_cons_zero, List.set_cons_succ]
  refine wpAnyH_take (i := 15) (v := (.pointer (some ⟨m, 0, none⟩))) rfl (by kernel_rfl) (by kernel_rfl) (by kernel_rfl) (fun _ _ _ h => h) (Or.inl ⟨by rfl, fun W hS => by first | rfl | (go_simp; done)⟩) hHeld ?_
  try simp only [Act.put, List.getElem_toArray, List.getElem_cons_succ, List.getElem_cons_zero, List.setIfInBounds_toArray, List.set_cons_zero, List.set_cons_succ]
  refine wpAnyH_take (i := 16) (v := (.pointer (some ⟨m, 0, none⟩))) rfl (by kernel_rfl) (by kernel_rfl) (by kernel_rfl) (fun _ _ _ h => h) (Or.inl ⟨by rfl, fun W hS => by first | rfl | (go_simp; done)⟩) hHeld ?_
  try simp only [Act.put, List.getElem_toArray, List.getElem_cons_succ, List.getElem_cons_zero, List.setIfInBounds_toArray, List.set_cons_zero, List.set_cons_succ]
  refine wpAnyH_take (i := 17) (v := (.pointer (some ⟨z.a, 0, none⟩))) rfl (by kernel_rfl) (by kernel_rfl) (by kernel_rfl) (fun _ _ _ h => h) (Or.inl ⟨by rfl, fun W hS => by (obtain ⟨q1, q2, q3⟩ := hS; go_simp; done)⟩) hHeld ?_
  try simp only [Act.put, List.getElem_toArray, List.getElem_cons_succ, List.getElem_cons_zero, List.setIfInBounds_toArray, List.set_cons_zero, List.set_cons_succ]
  refine wpAnyH_take (i := 19) (v := (.pointer (some ⟨m, 0, none⟩))) rfl (by kernel_rfl) (by kernel_rfl) (by kernel_rfl) (fun _ _ _ h => h) (Or.inl ⟨by rfl, fun W hS => by first | rfl | (go_simp; done)⟩) hHeld ?_
  try simp only [Act.put, List.getElem_toArray, List.getElem_cons_succ, List.getElem_cons_zero, List.setIfInBounds_toArray, List.set_cons_zero, List.set_cons_succ]
  refine wpAnyH_take (i := 20) (v := (.pointer (some ⟨m, 0, none⟩))) rfl (by kernel_rfl) (by kernel_rfl) (by kernel_rfl) (fun _ _ _ h => h) (Or.inl ⟨by rfl, fun W hS => by first | rfl | (go_simp; done)⟩) hHeld ?_
  try simp only [Act.put, List.getElem_toArray, List.getElem_cons_succ, List.getElem_cons_zero, List.setIfInBounds_toArray, List.set_cons_zero, List.set_cons_succ]
  refine wpAnyH_take (i := 21) (v := (.pointer (some ⟨m, 2, none⟩))) rfl (by kernel_rfl) (by kernel_rfl) (by kernel_rfl) (fun _ _ _ h => h) (Or.inl ⟨by rfl, fun W hS => by first | rfl | (go_simp; done)⟩) hHeld ?_
  try simp only [Act.put, List.getElem_toArray, List.getElem_cons_succ, List.getElem_cons_zero, List.setIfInBounds_toArray, List.set_cons_zero, List.set_cons_succ]
  refine wpAnyH_take (i := 22) (v := (.pointer (some ⟨z.b, 0, none⟩))) rfl (by kernel_rfl) (by kernel_rfl) (by kernel_rfl) (fun _ _ _ h => h) (Or.inl ⟨by rfl, fun W hS => by (obtain ⟨q1, q2, q3⟩ := hS; go_simp; done)⟩) hHeld ?_
  try simp only [Act.put, List.getElem_toArray, List.getElem_cons_succ, List.getElem_cons_zero, List.setIfInBounds_toArray, List.set_cons_zero, List.set_cons_succ]
  refine wpAnyH_take (i := 23) (v := (.pointer (some ⟨z.b, 0, none⟩))) rfl (by kernel_rfl) (by kernel_rfl) (by kernel_rfl) (fun _ _ _ h => h) (Or.inl ⟨by rfl, fun W hS => by first | rfl | (go_simp; done)⟩) hHeld ?_
  try simp only [Act.put, List.getElem_toArray, List.getElem_cons_succ, List.getElem_cons_zero, List.setIfInBounds_toArray, List.set_cons_zero, List.set_cons_succ]
  refine wpAnyH_take (i := 24) (v := (.pointer (some ⟨z.b, 15, none⟩))) rfl (by kernel_rfl) (by kernel_rfl) (by kernel_rfl) (fun _ _ _ h => h) (Or.inl ⟨by rfl, fun W hS => by first | rfl | (go_simp; done)⟩) hHeld ?_
  try simp only [Act.put, List.getElem_toArray, List.getElem_cons_succ, List.getElem_cons_zero, List.setIfInBounds_toArray, List.set_cons_zero, List.set_cons_succ]
  refine wpAnyH_take (i := 25) (v := (.bool dn)) rfl (by kernel_rfl) (by kernel_rfl) (by kernel_rfl) (fun _ _ _ h => h) (Or.inl ⟨by rfl, fun W hS => by (obtain ⟨q1, q2, q3⟩ := hS; go_simp; done)⟩) hHeld ?_
  try simp only [Act.put, List.getElem_toArray, List.getElem_cons_succ, List.getElem_cons_zero, List.setIfInBounds_toArray, List.set_cons_zero, List.set_cons_succ]
  refine wpAnyH_ready (rs := [18]) (by kernel_rfl) (by simp) (AllReadyH.cons rfl (fun K hK => ?_) AllReadyH.nil)
  simp only [List.getElem_toArray, List.getElem_cons_succ, List.getElem_cons_zero]
  go_simp
  refine (HDN.out v2 z2 (HV2.out.1.sc.lanes.A t z2 HV2.out.2) HZ2.out.1.1 HZ2.out.1.2.2).mono ?_
  rintro e v3 ⟨rfl, rfl⟩
  refine hK.out _ _ hHeld (fun hHeld => ?_)
  clear hK K
  try simp only [Act.put, List.getElem_toArray, List.getElem_cons_succ, List.getElem_cons_zero, List.setIfInBounds_toArray, List.set_cons_zero, List.set_cons_succ]
  refine wpAnyH_take (i := 26) (v := (.bool true)) rfl (by kernel_rfl) (by kernel_rfl) (by kernel_rfl) (fun _ _ _ h => h) (Or.inl ⟨by rfl, fun W hS => by first | rfl | (go_simp; done) | (cases dn <;> (go_simp; done)) | (simp [go_sem]; done)⟩) hHeld ?_
  try simp only [Act.put, List.getElem_toArray, List.getElem_cons_succ, List.getElem_cons_zero, List.setIfInBounds_toArray, List.set_cons_zero, List.set_cons_succ]
  refine wpAnyH_take (i := 27) (v := (.bool true)) rfl (by kernel_rfl) (by kernel_rfl) (by kernel_rfl) (fun _ _ _ h => h) (Or.inl ⟨by rfl, fun W hS => by first | rfl | (go_simp; done)⟩) hHeld ?_
  try simp only [Act.put, List.getElem_toArray, List.getElem_cons_succ, List.getElem_cons_zero, List.setIfInBounds_toArray, List.set_cons_zero, List.set_cons_succ]
  refine wpAnyH_take (i := 28) (v := (.bool true)) rfl (by kernel_rfl) (by kernel_rfl) (by kernel_rfl) (fun _ _ _ h => h) (Or.inl ⟨by rfl, fun W hS => by first | rfl | (go_simp; done)⟩) hHeld ?_
  try simp only [Act.put, List.getElem_toArray, List.getElem_cons_succ, List.getElem_cons_zero, List.setIfInBounds_toArray, List.set_cons_zero, List.set_cons_succ]
  refine wpAnyH_done (by kernel_rfl) ?_ _
  go_wp2_with fail
  go_ret
  exact ⟨rfl, z2, HZ2.out.1, HZ2.out.2, HC15.out, HV2.out.1⟩
set_option maxRecDepth 100000 in
set_option maxHeartbeats 8000000 in
theorem stepGone_any (h : RH w ab sb sm rb rg bb tb tm ub fb onb stb P wr s s' L Ms) (hz : L[t]? = some (some z)) (hM : Ms[t]? = some (some m)) (hm : Lay.may P 2 = true) (hk : z.k = .gone q i) (hx : RcM z.x P 2 z.k) (hq : q.Ok P) (he : s.ws = s'.ws) :
    Calls Tryz.prog 18 #[.pointer (some ⟨m, 0, none⟩), .pointer (some ⟨ab, 0, none⟩), .pointer (some ⟨bb, 0, none⟩)] wr fun e w' => e = .returned (.bool true) ∧ ∃ z2 : RcL, (z2.a = z.a ∧ z2.b = z.b ∧ z2.k = z.k.nx) ∧ (z.k.nx.got = false → RcM z2.x P 2 z.k.nx) ∧ w'.cell? ⟨z.b, 15, none⟩ = some (.bool z.k.nx.got) ∧ RH w ab sb sm rb rg bb tb tm ub fb onb stb P w' ((z.k.ac P 2).act s) ((z.k.ac P 2).act s') (L.set t (some z2)) Ms := by
  obtain ⟨ka, hka⟩ : ∃ v, ((z.k.ac P 2).act s).k = v := ⟨_, rfl⟩
  obtain ⟨kp, hkp⟩ : ∃ v, ((z.k.ac P 2).act s).pos = v := ⟨_, rfl⟩
  obtain ⟨ko, hko⟩ : ∃ v, ((z.k.ac P 2).act s).old = v := ⟨_, rfl⟩
  obtain ⟨kn, hkn⟩ : ∃ v, ((z.k.ac P 2).act s).new = v := ⟨_, rfl⟩
  have hdA : didA ((z.k.ac P 2).act s) = #[.int .i64 ka, .int .i64 kp, .int .u64 ko, .int .u64 kn] := by rw [← hka, ← hkp, ← hko, ← hkn]
  obtain ⟨dn, hdn⟩ : ∃ d, z.k.nx.got = d := ⟨_, rfl⟩
  have hlay : z.k.isLay = false := by rw [hk]; rfl
  have hqq : z.k.q.Ok P := by rw [hk]; exact hq
  have hlt : t < L.length := (List.getElem?_eq_some_iff.1 hz).1
  have hl1 : (L.set t (some { z with k := z.k.nx }))[t]? = some (some { z with k := z.k.nx }) := List.getElem?_set_self hlt
  have HCM : Hid (∀ (W : World) (S S' : StoreS) (L1 : List (Option RcL)) (y : RcL), RH w ab sb sm rb rg bb tb tm ub fb onb stb P W S S' L1 Ms → L1[t]? = some (some y) → y.k.isLay = false → y.a = z.a → y.b = z.b → W.cell? ⟨m, 0, none⟩ = some (.pointer none) ∧ W.cell? ⟨m, 1, none⟩ = some (.pointer (some ⟨z.a, 0, none⟩)) ∧ W.cell? ⟨m, 2, none⟩ = some (.pointer (some ⟨z.b, 0, none⟩))) := Lib.hid (fun W S S' L1 y h1 h2 h3 h4 h5 => by
    have hb := h1.cellsM h2 hM
    rw [h3, h4, h5] at hb
    exact ⟨hb.cell 0, hb.cell 1, hb.cell 2⟩)
  have HOUR : Hid (∀ W, Adds wr W → Calls Tryz.prog 46 #[.pointer (some ⟨z.a, 0, none⟩), .pointer (some ⟨ab, 0, none⟩)] W fun e w' => e = .returned (.agg #[.int .i64 ka, .int .i64 kp, .int .u64 ko, .int .u64 kn]) ∧ Hid (RH w ab sb sm rb rg bb tb tm ub fb onb stb P w' ((z.k.ac P 2).act s) s' (L.set t (some { z with k := z.k.nx })) Ms)) := Lib.hid (fun W hA => by
    refine (ourGone (h.add hA) hz hm hk hq).mono (fun e w' c => ⟨?_, Lib.hid c.2⟩)
    rw [← hdA]; exact c.1)
  have HDOC : Hid (∀ W, RH w ab sb sm rb rg bb tb tm ub fb onb stb P W ((z.k.ac P 2).act s) s' (L.set t (some { z with k := z.k.nx })) Ms → Calls Tryz.prog 45 #[.pointer (some ⟨z.b, 0, none⟩), .pointer (some ⟨bb, 0, none⟩)] W fun e w' => e = .returned (.agg #[.int .i64 ka, .int .i64 kp, .int .u64 ko, .int .u64 kn]) ∧ ∃ z2 : RcL, Hid ((z2.a = z.a ∧ z2.b = z.b ∧ z2.k = z.k.nx) ∧ (dn = false → RcM z2.x P 2 z.k.nx)) ∧ Hid (w'.cell? ⟨z.b, 15, none⟩ = some (.bool dn)) ∧ Hid (RH w ab sb sm rb rg bb tb tm ub fb onb stb P w' ((z.k.ac P 2).act s) ((z.k.ac P 2).act s') (L.set t (some z2)) Ms ∧ (L.set t (some z2))[t]? = some (some z2))) := Lib.hid (fun W hR => by
    refine (docStepR (s := s) hR hl1 hm hx hqq he).mono (fun e w' c => ?_)
    obtain ⟨c1, z2, c2, c3, c4, c5⟩ := c
    rw [hdA] at c1
    rw [hdn] at c3 c4
    rw [List.set_set] at c5
    exact ⟨c1, z2, Lib.hid ⟨c2, c3⟩, Lib.hid c4, Lib.hid ⟨c5, List.getElem?_set_self hlt⟩⟩)
  have HDN : Hid (∀ W (y : RcL), RcA P 2 W y.a y.k → y.a = z.a → y.k = z.k.nx → Calls Tryz.prog 47 #[.pointer (some ⟨z.a, 0, none⟩)] W fun e w' => e = .returned (.bool dn) ∧ W = w') := Lib.hid (fun W y h1 h2 h3 => by
    rw [h2, h3] at h1
    rw [← hdn]
    exact rcGone_done h1 (by rw [RcS.nx_isLay]; exact hlay))
  obtain ⟨c0, cp, c2⟩ := HCM.out wr s s' L z h hz hlay rfl rfl
  have HL1 := Lib.hid hl1
  have HLAY : Hid (z.k.nx.isLay = false) := Lib.hid (by rw [RcS.nx_isLay]; exact hlay)
  have hde : ∀ W, Sem.run Tryz.prog (binOp .eql 57 (.agg #[.int .i64 ka, .int .i64 kp, .int .u64 ko, .int .u64 kn]) (.agg #[.int .i64 ka, .int .i64 kp, .int .u64 ko, .int .u64 kn])) W = .ok (.bool true) W := fun W => by rw [did_eql]; simp
  rw [hdn]
  clear h hz hM hm hk hx hq he hka hkp hko hkn hdA hdn hlay hqq hlt hl1
  go_enter Tryz.func18, Tryz.ntmps18
  go_upto_region 3 with fail
  refine wp_region_held_drew (S := (fun V => V.cell? ⟨m, 1, none⟩ = some (.pointer (some ⟨z.a, 0, none⟩)) ∧ V.cell? ⟨m, 2, none⟩ = some (.pointer (some ⟨z.b, 0, none⟩)))) (by kernel_rfl) ⟨cp, c2⟩ (fun hHeld => ?_)
  refine wpAnyH_take (i := 0) (v := (.pointer (some ⟨m, 0, none⟩))) rfl (by kernel_rfl) (by kernel_rfl) (by kernel_rfl) (fun _ _ _ h => h) (Or.inl ⟨by rfl, fun W hS => by first | rfl | (go_simp; done)⟩) hHeld ?_
  try simp only [Act.put, List.getElem_toArray, List.getElem_cons_succ, List.getElem_cons_zero, List.setIfInBounds_toArray, List.set_cons_zero, List.set_cons_succ]
  refine wpAnyH_take (i := 1) (v := (.pointer (some ⟨m, 0, none⟩))) rfl (by kernel_rfl) (by kernel_rfl) (by kernel_rfl) (fun _ _ _ h => h) (Or.inl ⟨by rfl, fun W hS => by first | rfl | (go_simp; done)⟩) hHeld ?_
  try simp only [Act.put, List.getElem_toArray, List.getElem_cons_succ, List.getElem_cons_zero, List.setIfInBounds_toArray, List.set_cons_zero, List.set_cons_succ]
  refine wpAnyH_take (i := 2) (v := (.pointer (some ⟨m, 1, none⟩))) rfl (by kernel_rfl) (by kernel_rfl) (by kernel_rfl) (fun _ _ _ h => h) (Or.inl ⟨by rfl, fun W hS => by first | rfl | (go_simp; done)⟩) hHeld ?_
  try simp only [Act.put, List.getElem_toArray, List.getElem_cons_succ, List.getElem_cons_zero, List.setIfInBounds_toArray, List.set_cons_zero, List.set_cons_succ]
  refine wpAnyH_take (i := 3) (v := (.pointer (some ⟨z.a, 0, none⟩))) rfl (by kernel_rfl) (by kernel_rfl) (by kernel_rfl) (fun _ _ _ h => h) (Or.inl ⟨by rfl, fun W hS => by (obtain ⟨q1, q2⟩ := hS; go_simp; done)⟩) hHeld ?_
  try simp only [Act.put, List.getElem_toArray, List.getElem_cons_succ, List.getElem_cons_zero, List.setIfInBounds_toArray, List.set_cons_zero, List.set_cons_succ]
  refine wpAnyH_take (i := 4) (v := (.pointer (some ⟨ab, 0, none⟩))) rfl (by kernel_rfl) (by kernel_rfl) (by kernel_rfl) (fun _ _ _ h => h) (Or.inl ⟨by rfl, fun W hS => by first | rfl | (go_simp; done)⟩) hHeld ?_
  try simp only [Act.put, List.getElem_toArray, List.getElem_cons_succ, List.getElem_cons_zero, List.setIfInBounds_toArray, List.set_cons_zero, List.set_cons_succ]
  refine wpAnyH_take (i := 6) (v := (.pointer (some ⟨m, 0, none⟩))) rfl (by kernel_rfl) (by kernel_rfl) (by kernel_rfl) (fun _ _ _ h => h) (Or.inl ⟨by rfl, fun W hS => by first | rfl | (go_simp; done)⟩) hHeld ?_
  try simp only [Act.put, List.getElem_toArray, List.getElem_cons_succ, List.getElem_cons_zero, List.setIfInBounds_toArray, List.set_cons_zero, List.set_cons_succ]
  refine wpAnyH_take (i := 7) (v := (.pointer (some ⟨m, 0, none⟩))) rfl (by kernel_rfl) (by kernel_rfl) (by kernel_rfl) (fun _ _ _ h => h) (Or.inl ⟨by rfl, fun W hS => by first | rfl | (go_simp; done)⟩) hHeld ?_
  try simp only [Act.put, List.getElem_toArray, List.getElem_cons_succ, List.getElem_cons_zero, List.setIfInBounds_toArray, List.set_cons_zero, List.set_cons_succ]
  refine wpAnyH_take (i := 8) (v := (.pointer (some ⟨m, 2, none⟩))) rfl (by kernel_rfl) (by kernel_rfl) (by kernel_rfl) (fun _ _ _ h => h) (Or.inl ⟨by rfl, fun W hS => by first | rfl | (go_simp; done)⟩) hHeld ?_
  try simp only [Act.put, List.getElem_toArray, List.getElem_cons_succ, List.getElem_cons_zero, List.setIfInBounds_toArray, List.set_cons_zero, List.set_cons_succ]
  refine wpAnyH_take (i := 9) (v := (.pointer (some ⟨z.b, 0, none⟩))) rfl (by kernel_rfl) (by kernel_rfl) (by kernel_rfl) (fun _ _ _ h => h) (Or.inl ⟨by rfl, fun W hS => by (obtain ⟨q1, q2⟩ := hS; go_simp; done)⟩) hHeld ?_
  try simp only [Act.put, List.getElem_toArray, List.getElem_cons_succ, List.getElem_cons_zero, List.setIfInBounds_toArray, List.set_cons_zero, List.set_cons_succ]
  refine wpAnyH_take (i := 10) (v := (.pointer (some ⟨bb, 0, none⟩))) rfl (by kernel_rfl) (by kernel_rfl) (by kernel_rfl) (fun _ _ _ h => h) (Or.inl ⟨by rfl, fun W hS => by first | rfl | (go_simp; done)⟩) hHeld ?_
  try simp only [Act.put, List.getElem_toArray, List.getElem_cons_succ, List.getElem_cons_zero, List.setIfInBounds_toArray, List.set_cons_zero, List.set_cons_succ]
  refine wpAnyH_ready (rs := [5]) (by kernel_rfl) (by simp) (AllReadyH.cons rfl (fun K hK => ?_) AllReadyH.nil)
  simp only [List.getElem_toArray, List.getElem_cons_succ, List.getElem_cons_zero]
  go_simp
  refine (HOUR.out _ ((Only.refl (fun _ => False) wr).drew)).mono ?_
  rintro e v1 ⟨rfl, HV1⟩
  obtain ⟨-, a0, a2⟩ := HCM.out v1 _ _ _ _ HV1.out HL1.out HLAY.out rfl rfl
  refine hK.out _ _ ⟨a0, a2⟩ (fun hHeld => ?_)
  clear hK K
  try simp only [Act.put, List.getElem_toArray, List.getElem_cons_succ, List.getElem_cons_zero, List.setIfInBounds_toArray, List.set_cons_zero, List.set_cons_succ]
  refine wpAnyH_ready (rs := [11]) (by kernel_rfl) (by simp) (AllReadyH.cons rfl (fun K hK => ?_) AllReadyH.nil)
  simp only [List.getElem_toArray, List.getElem_cons_succ, List.getElem_cons_zero]
  go_simp
  refine (HDOC.out v1 HV1.out).mono ?_
  rintro e v2 ⟨rfl, z2, HZ2, HC15, HV2⟩
  obtain ⟨-, b0, b2⟩ := HCM.out v2 _ _ _ z2 HV2.out.1 HV2.out.2 (by rw [HZ2.out.1.2.2]; exact HLAY.out) HZ2.out.1.1 HZ2.out.1.2.1
  have b15 := HC15.out
  refine hK.out _ _ ⟨b0, b2⟩ (fun hHeld => ?_)
  clear hK K
  try simp only [Act.put, List.getElem_toArray, List.getElem_cons_succ, List.getElem_cons_zero, List.setIfInBounds_toArray, List.set_cons_zero, List.set_cons_succ]
  refine wpAnyH_mono (S2 := (fun V => V.cell? ⟨m, 1, none⟩ = some (.pointer (some ⟨z.a, 0, none⟩)) ∧ V.cell? ⟨m, 2, none⟩ = some (.pointer (some ⟨z.b, 0, none⟩)) ∧ V.cell? ⟨z.b, 15, none⟩ = some (.bool dn))) (fun W h => ⟨h.1, h.2.1⟩) ?_
  replace hHeld := And.intro b0 (And.intro b2 b15)
  refine wpAnyH_take (i := 12) (v := (.bool true)) rfl (by kernel_rfl) (by kernel_rfl) (by kernel_rfl) (fun _ _ _ h => h) (Or.inl ⟨by rfl, fun W hS => by first | rfl | (go_simp; done) | (simp [go_sem, hde]; done)⟩) hHeld ?_
  try simp only [Act.put, List.getElem_toArray, List.getElem_cons_succ, List.getElem_cons_zero, List.setIfInBounds_toArray, List.set_cons_zero, List.set_cons_succ]
  refine wpAnyH_take (i := 13) (v := (.bool true)) rfl (by kernel_rfl) (by kernel_rfl) (by kernel_rfl) (fun _ _ _ h => h) (Or.inl ⟨by rfl, fun W hS => by first | rfl | (go_simp; done)⟩) hHeld ?_
  try simp only [Act.put, List.getElem_toArray, List.getElem_cons_succ, List.getElem_cons_zero, List.setIfInBounds_toArray, List.set_cons_zero, List.set_cons_succ]
  refine wpAnyH_take (i := 14) (v := (.pointer (some ⟨m, 0, none⟩))) rfl (by kernel_rfl) (by kernel_rfl) (by kernel_rfl) (fun _ _ _ h => h) (Or.inl ⟨by rfl, fun W hS => by first | rfl | (go_simp; done)⟩) hHeld ?_
  try simp only [Act.put, List.getElem_toArray, List.getElem_cons_succ, List.getElem_cons_zero, List.setIfInBounds_toArray, List.set_cons_zero, List.set_cons_succ]
  refine wpAnyH_take (i := 15) (v := (.pointer (some ⟨m, 0, none⟩))) rfl (by kernel_rfl) (by kernel_rfl) (by kernel_rfl) (fun _ _ _ h => h) (Or.inl ⟨by rfl, fun W hS => by first | rfl | (go_simp; done)⟩) hHeld ?_
  try simp only [Act.put, List.getElem_toArray, List.getElem_cons_succ, List.getElem_cons_zero, List.setIfInBounds_toArray, List.set_cons_zero, List.set_cons_succ]
  refine wpAnyH_take (i := 16) (v := (.pointer (some ⟨m, 1, none⟩))) rfl (by kernel_rfl) (by kernel_rfl) (by kernel_rfl) (fun _ _ _ h => h) (Or.inl ⟨by rfl, fun W hS => by first | rfl | (go_simp; done)⟩) hHeld ?_
  try simp only [Act.put, List.getElem_toArray, List.getElem_cons_succ, List.getElem_cons_zero, List.setIfInBounds_toArray, List.set_cons_zero, List.set_cons_succ]
  refine wpAnyH_take (i := 17) (v := (.pointer (some ⟨z.a, 0, none⟩))) rfl (by kernel_rfl) (by kernel_rfl) (by kernel_rfl) (fun _ _ _ h => h) (Or.inl ⟨by rfl, fun W hS => by (obtain ⟨q1, q2, q3⟩ := hS; go_simp; done)⟩) hHeld ?_
  try simp only [Act.put, List.getElem_toArray, List.getElem_cons_succ, List.getElem_cons_zero, List.setIfInBounds_toArray, List.set_cons_zero, List.set_cons_succ]
  refine wpAnyH_take (i := 19) (v := (.pointer (some ⟨m, 0, none⟩))) rfl (by kernel_rfl) (by kernel_rfl) (by kernel_rfl) (fun _ _ _ h => h) (Or.inl ⟨by rfl, fun W hS => by first | rfl | (go_simp; done)⟩) hHeld ?_
  try simp only [Act.put, List.getElem_toArray, List.getElem_cons_succ, List.getElem_cons_zero, List.setIfInBounds_toArray, List.set_cons_zero, List.set_cons_succ]
  refine wpAnyH_take (i := 20) (v := (.pointer (some ⟨m, 0, none⟩))) rfl (by kernel_rfl) (by kernel_rfl) (by kernel_rfl) (fun _ _ _ h => h) (Or.inl ⟨by rfl, fun W hS => by first | rfl | (go_simp; done)⟩) hHeld ?_
  try simp only [Act.put, List.getElem_toArray, List.getElem_cons_succ, List.getElem_cons_zero, List.setIfInBounds_toArray, List.set_cons_zero, List.set_cons_succ]
  refine wpAnyH_take (i := 21) (v := (.pointer (some ⟨m, 2, none⟩))) rfl (by kernel_rfl) (by kernel_rfl) (by kernel_rfl) (fun _ _ _ h => h) (Or.inl ⟨by rfl, fun W hS => by first | rfl | (go_simp; done)⟩) hHeld ?_
  try simp only [Act.put, List.getElem_toArray, List.getElem_cons_succ, List.getElem_cons_zero, List.setIfInBounds_toArray, List.set_cons_zero, List.set_cons_succ]
  refine wpAnyH_take (i := 22) (v := (.pointer (some ⟨z.b, 0, none⟩))) rfl (by kernel_rfl) (by kernel_rfl) (by kernel_rfl) (fun _ _ _ h => h) (Or.inl ⟨by rfl, fun W hS => by (obtain ⟨q1, q2, q3⟩ := hS; go_simp; done)⟩) hHeld ?_
  try simp only [Act.put, List.getElem_toArray, List.getElem_cons_succ, List.getElem_cons_zero, List.setIfInBounds_toArray, List.set_cons_zero, List.set_cons_succ]
  refine wpAnyH_take (i := 23) (v := (.pointer (some ⟨z.b, 0, none⟩))) rfl (by kernel_rfl) (by kernel_rfl) (by kernel_rfl) (fun _ _ _ h => h) (Or.inl ⟨by rfl, fun W hS => by first | rfl | (go_simp; done)⟩) hHeld ?_
  try simp only [Act.put, List.getElem_toArray, List.getElem_cons_succ, List.getElem_cons_zero, List.setIfInBounds_toArray, List.set_cons_zero, List.set_cons_succ]
  refine wpAnyH_take (i := 24) (v := (.pointer (some ⟨z.b, 15, none⟩))) rfl (by kernel_rfl) (by kernel_rfl) (by kernel_rfl) (fun _ _ _ h => h) (Or.inl ⟨by rfl, fun W hS => by first | rfl | (go_simp; done)⟩) hHeld ?_
  try simp only [Act.put, List.getElem_toArray, List.getElem_cons_succ, List.getElem_cons_zero, List.setIfInBounds_toArray, List.set_cons_zero, List.set_cons_succ]
  refine wpAnyH_take (i := 25) (v := (.bool dn)) rfl (by kernel_rfl) (by kernel_rfl) (by kernel_rfl) (fun _ _ _ h => h) (Or.inl ⟨by rfl, fun W hS => by (obtain ⟨q1, q2, q3⟩ := hS; go_simp; done)⟩) hHeld ?_
  try simp only [Act.put, List.getElem_toArray, List.getElem_cons_succ, List.getElem_cons_zero, List.setIfInBounds_toArray, List.set_cons_zero, List.set_cons_succ]
  refine wpAnyH_ready (rs := [18]) (by kernel_rfl) (by simp) (AllReadyH.cons rfl (fun K hK => ?_) AllReadyH.nil)
  simp only [List.getElem_toArray, List.getElem_cons_succ, List.getElem_cons_zero]
  go_simp
  refine (HDN.out v2 z2 (HV2.out.1.sc.lanes.A t z2 HV2.out.2) HZ2.out.1.1 HZ2.out.1.2.2).mono ?_
  rintro e v3 ⟨rfl, rfl⟩
  refine hK.out _ _ hHeld (fun hHeld => ?_)
  clear hK K
  try simp only [Act.put, List.getElem_toArray, List.getElem_cons_succ, List.getElem_cons_zero, List.setIfInBounds_toArray, List.set_cons_zero, List.set_cons_succ]
  refine wpAnyH_take (i := 26) (v := (.bool true)) rfl (by kernel_rfl) (by kernel_rfl) (by kernel_rfl) (fun _ _ _ h => h) (Or.inl ⟨by rfl, fun W hS => by first | rfl | (go_simp; done) | (cases dn <;> (go_simp; done)) | (simp [go_sem]; done)⟩) hHeld ?_
  try simp only [Act.put, List.getElem_toArray, List.getElem_cons_succ, List.getElem_cons_zero, List.setIfInBounds_toArray, List.set_cons_zero, List.set_cons_succ]
  refine wpAnyH_take (i := 27) (v := (.bool true)) rfl (by kernel_rfl) (by kernel_rfl) (by kernel_rfl) (fun _ _ _ h => h) (Or.inl ⟨by rfl, fun W hS => by first | rfl | (go_simp; done)⟩) hHeld ?_
  try simp only [Act.put, List.getElem_toArray, List.getElem_cons_succ, List.getElem_cons_zero, List.setIfInBounds_toArray, List.set_cons_zero, List.set_cons_succ]
  refine wpAnyH_take (i := 28) (v := (.bool true)) rfl (by kernel_rfl) (by kernel_rfl) (by kernel_rfl) (fun _ _ _ h => h) (Or.inl ⟨by rfl, fun W hS => by first | rfl | (go_simp; done)⟩) hHeld ?_
  try simp only [Act.put, List.getElem_toArray, List.getElem_cons_succ, List.getElem_cons_zero, List.setIfInBounds_toArray, List.set_cons_zero, List.set_cons_succ]
  refine wpAnyH_done (by kernel_rfl) ?_ _
  go_wp2_with fail
  go_ret
  exact ⟨rfl, z2, HZ2.out.1, HZ2.out.2, HC15.out, HV2.out.1⟩
end
end Go.Proofs.YtbepbcjklgfmjaaGreatDoor

/- WorldAlone: a machine made; the example. By an AI agent. -/
import Derived.Test.YtbepbcjklgfmjaaZWADo
import Derived.Test.YtbepbcjklgfmjaaZ6
namespace Go.Proofs.Ytbepbcjklgfmjaa
open Go.RowKit
set_option linter.unusedSimpArgs false
set_option linter.unusedVariables false
theorem begun_first {n : Nat} {v : Int} (h : 0 < n) : (StoreS.begun n 0 v).word 0 = v := by
  simp [StoreS.word, StoreS.begun, StoreS.fresh, h]
set_option maxRecDepth 100000 in
set_option maxHeartbeats 4000000 in
theorem awake20_any (w : World) : Calls Try.prog 9 #[] w fun e w' => e = .returned (.bool true) ∧ Adds w w' := by
  have hkd := fun W a b c d => did_kind W a b c d
  obtain ⟨s0, hs0⟩ : ∃ s0, s0 = StoreS.begun 90 0 1 := ⟨_, rfl⟩
  have HL : Hid (s0.ws.length = 90 ∧ s0.word 0 = 1 ∧ s0.word 1 = 0) := by rw [hs0]; exact Lib.hid ⟨begun_len _ _ _, begun_first (by omega), begun_other _ _ _ (by omega)⟩
  have HS0 := Lib.hid hs0
  have inr : Hid (∀ i : Int, 0 ≤ i → i < 90 → s0.inR i) := Lib.hid (fun i h0 h1 => ⟨h0, by rw [HL.out.1]; exact h1⟩)
  clear hs0
  go_enter Try.func9, Try.ntmps9
  go_wp2_with (first
    | (go_at_call 4; refine (arenaNew_yard 1 1 _ (by decide)).mono ?_; rintro e w1 ⟨ab, sb, sm, rb, rfl, hy, ho, hlow⟩; rw [show (Lay.words 1 1).toNat = 90 from by decide, ← HS0.out] at hy; have HY1 := Lib.hid hy; have HO1 := Lib.hid ho; have HN1 := Lib.hid hlow; clear hy ho hlow)
    | (go_at_call 15; refine (newEnter_ok 1 1 _ (by decide)).mono ?_; rintro e w2 ⟨mb, rfl, hm, ho, hlow⟩; have HY2 := Lib.hid (HY1.out.adds ho); have HM2 := Lib.hid hm; have HN2 := Lib.hid (show w.heap.size ≤ sb ∧ w.heap.size ≤ sm ∧ w.heap.size ≤ mb from ⟨HN1.out.2.1, HN1.out.2.2, Nat.le_trans HO1.out.size hlow⟩); have HO2 := Lib.hid (HO1.out.thenF ho); clear hm ho hlow)
    | (go_at_call 19; refine (enterStep_gen HM4.out HY4.out (by rw [HL4.out.1]; omega) (by rw [HL4.out.2.1]; omega)).mono ?_; rintro e w5 ⟨rfl, ⟨hm, hy⟩, ho⟩; rw [HL4.out.2.1] at hm; have HM5 := Lib.hid hm; have HO5 := Lib.hid (HO4.out.andThen ho (fun i hi e => by have := HN2.out; rcases e with (rfl | rfl) | rfl <;> omega)); clear hm hy ho)
    | (go_at_call 19; refine (enterStep_look_yes HM3.out HY3.out (by rw [HL3.out.1]; omega) HL3.out.2.2).mono ?_; rintro e w4 ⟨rfl, ⟨hm, hy⟩, ho⟩; obtain ⟨s4, hs4⟩ : ∃ s4, s4 = s3.acc 1 1 (s3.word 1) := ⟨_, rfl⟩; rw [← hs4] at hy; have HM4 := Lib.hid hm; have HY4 := Lib.hid hy; have HL4 : Hid (s4.ws.length = 90 ∧ s4.word 0 = 1 ∧ True) := (by rw [hs4]; exact Lib.hid ⟨by have := HL3.out.1; simpa [StoreS.acc] using this, by rw [StoreS.acc_word_other (by omega) (by omega) (by omega)]; exact HL3.out.2.1, trivial⟩); have HO4 := Lib.hid (HO3.out.andThen ho (fun i hi e => by have := HN2.out; rcases e with (rfl | rfl) | rfl <;> omega)); clear hm hy ho hs4)
    | (go_at_call 19; refine (enterStep_begin HM2.out HY2.out (by rw [HL.out.1]; omega)).mono ?_; rintro e w3 ⟨rfl, ⟨hm, hy⟩, ho⟩; obtain ⟨s3, hs3⟩ : ∃ s3, s3 = s0.acc 5 4 ((s0.word 4 + 1) % 18446744073709551616) := ⟨_, rfl⟩; rw [← hs3] at hy; have HM3 := Lib.hid hm; have HY3 := Lib.hid hy; have HL3 : Hid (s3.ws.length = 90 ∧ s3.word 0 = 1 ∧ s3.word 1 = 0) := (by rw [hs3]; exact Lib.hid ⟨by have := HL.out.1; simpa [StoreS.acc] using this, by rw [StoreS.acc_word_other (by omega) (by omega) (by omega)]; exact HL.out.2.1, by rw [StoreS.acc_word_other (by omega) (by omega) (by omega)]; exact HL.out.2.2⟩); have HO3 := Lib.hid (HO2.out.andThen ho (fun i hi e => by have := HN2.out; rcases e with (rfl | rfl) | rfl <;> omega)); clear hm hy ho hs3)
    | (go_at_call 20; refine (enterDone_yes HM5.out).mono ?_; rintro e w6 ⟨rfl, rfl⟩)
    | (go_at_call 21; refine (enterGen_any HM5.out).mono ?_; rintro e w7 ⟨rfl, rfl⟩))
  go_ret
  exact ⟨rfl, HO5.out⟩
abbrev wdC (what P T t : Int) : Array Value := #[.int .i64 what, .int .i64 P, .int .i64 T, .int .i64 t, .int .i64 0, .int .i64 0, .int .i64 0, .int .i64 0, .int .i64 0, .int .i64 0, .int .i64 0, .int .u64 0, .bool false, .slice none 0 0, .slice none 0 0, .bool false, .int .i64 0, .bool false, .pointer none, .int .i64 0, .int .i64 0, .int .u64 0, .int .u64 0, .int .i64 0, .int .i64 0, .int .i64 0, .int .i64 0, .int .u64 0, .slice none 0 0, .slice none 0 0, .int .i64 0, .int .i64 0]
set_option maxRecDepth 100000 in
set_option maxHeartbeats 2000000 in
theorem freshA_any {w : World} {mb : Nat} {what P T t : Int} (h : Blk w mb (wdC what P T t) 65) :
    Calls Try.prog 38 #[.pointer (some ⟨mb, 0, none⟩)] w fun e w' => e = .returned (.tuple #[]) ∧ Only (· = mb) w w' := by
  have H := Lib.hid h
  have c16 : w.cell? ⟨mb, 16, none⟩ = some (.int .i64 0) := h.cell 16
  have c17 : w.cell? ⟨mb, 17, none⟩ = some (.bool false) := h.cell 17
  have c19 : w.cell? ⟨mb, 19, none⟩ = some (.int .i64 0) := h.cell 19
  have c20 : w.cell? ⟨mb, 20, none⟩ = some (.int .i64 0) := h.cell 20
  have c21 : w.cell? ⟨mb, 21, none⟩ = some (.int .u64 0) := h.cell 21
  have c22 : w.cell? ⟨mb, 22, none⟩ = some (.int .u64 0) := h.cell 22
  have f16 := h.frozen 16; have f17 := h.frozen 17
  have f19 := h.frozen 19; have f20 := h.frozen 20; have f21 := h.frozen 21; have f22 := h.frozen 22
  clear h
  go_enter Try.func38, Try.ntmps38
  go_upto_region 1 with fail
  obtain ⟨wa, hwa⟩ : ∃ wa, wa = ((((((w.setCell ⟨mb, 16, none⟩ (.int .i64 0)).setCell ⟨mb, 17, none⟩ (.bool false)).setCell ⟨mb, 19, none⟩ (.int .i64 0)).setCell ⟨mb, 20, none⟩ (.int .i64 0)).setCell ⟨mb, 21, none⟩ (.int .u64 0)).setCell ⟨mb, 22, none⟩ (.int .u64 0)) := ⟨_, rfl⟩
  have hOa : Only (· = mb) w wa := by rw [hwa]; exact ((((((Only.refl (fun j => j = mb) w).setCell (.inl rfl) _).setCell (.inl rfl) _).setCell (.inl rfl) _).setCell (.inl rfl) _).setCell (.inl rfl) _).setCell (.inl rfl) _
  have hBa : Blk wa mb (wdC what P T t) 65 := by
    rw [hwa]; exact (((((H.out.setCell 16 _).setCell 17 _).setCell 19 _).setCell 20 _).setCell 21 _).setCell 22 _
  rw [← hwa]
  have HA := Lib.hid hOa
  have c23 : wa.cell? ⟨mb, 23, none⟩ = some (.int .i64 0) := hBa.cell 23
  have c24 : wa.cell? ⟨mb, 24, none⟩ = some (.int .i64 0) := hBa.cell 24
  have c25 : wa.cell? ⟨mb, 25, none⟩ = some (.int .i64 0) := hBa.cell 25
  have c26 : wa.cell? ⟨mb, 26, none⟩ = some (.int .i64 0) := hBa.cell 26
  have c27 : wa.cell? ⟨mb, 27, none⟩ = some (.int .u64 0) := hBa.cell 27
  have c28 : wa.cell? ⟨mb, 28, none⟩ = some (.slice none 0 0) := hBa.cell 28
  have c29 : wa.cell? ⟨mb, 29, none⟩ = some (.slice none 0 0) := hBa.cell 29
  have c30 : wa.cell? ⟨mb, 30, none⟩ = some (.int .i64 0) := hBa.cell 30
  have g23 := hBa.frozen 23; have g24 := hBa.frozen 24; have g25 := hBa.frozen 25; have g26 := hBa.frozen 26; have g27 := hBa.frozen 27; have g28 := hBa.frozen 28; have g29 := hBa.frozen 29; have g30 := hBa.frozen 30
  have HB := Lib.hid hBa
  clear hwa hOa hBa c16 c17 c19 c20 c21 c22 f16 f17 f19 f20 f21 f22
  go_wp2_with fail
  go_end0
  exact ⟨rfl, (((((((HA.out.setCell (.inl rfl) _).setCell (.inl rfl) _).setCell (.inl rfl) _).setCell (.inl rfl) _).setCell (.inl rfl) _).setCell (.inl rfl) _).setCell (.inl rfl) _).setCell (.inl rfl) _⟩
set_option maxRecDepth 100000 in
set_option maxHeartbeats 2000000 in
theorem newA_any (what P T t : Int) (w : World) :
    Calls Try.prog 14 #[.agg (wdC what P T t)] w fun e w' => ∃ mb, e = .returned (.pointer (some ⟨mb, 0, none⟩)) ∧ Adds w w' := by
  obtain ⟨c, hc⟩ : ∃ c, wdC what P T t = c := ⟨_, rfl⟩
  rw [hc]
  have hs : c.size = 32 := by rw [← hc]; rfl
  have hs1 : ¬ c.size = 1 := by omega
  have HC := Lib.hid hc
  clear hc
  go_enter Try.func14, Try.ntmps14
  go_upto_region 1 with fail
  have HB : Hid (Blk (w.alloc (.cells c 65)) w.heap.size (wdC what P T t) 65) := Lib.hid (by rw [HC.out]; exact Blk.new _ _ _)
  go_wp2_with (go_at_call 38; refine (freshA_any HB.out).mono ?_; rintro e w1 ⟨rfl, ho⟩)
  go_ret
  exact ⟨_, rfl, ((Only.refl (fun _ => False) w).alloc _).andThen ho (fun i hi e => by omega)⟩
/-- What made leaves. -/
def MadeQ (P T t : Int) (k : WdS) (w : World) (e : Ending) (w' : World) : Prop := ∃ (m p b : Nat), e = .returned (.pointer (some ⟨m, 0, none⟩)) ∧ Blk w' m (machC k.sort p b) 46 ∧ WdA P T w' p k ∧ Adds w w' ∧ w.heap.size ≤ m ∧ w.heap.size ≤ p
theorem made_end {P T t : Int} {w v1 V v2 : World} {m p b i : Nat} {k : WdS} {cr : Array Value} (h1 : Adds w v1) (h2 : Adds v1 V) (hm : Blk V m cr 46) (hml : v1.heap.size ≤ m) (h3 : Adds V v2) (ha : WdA P T v2 p k) (hp : V.heap.size ≤ p)
    (hc : cr.setIfInBounds i (.pointer (some ⟨p, 0, none⟩)) = machC k.sort p b) (hs : cr.size ≠ 1) : MadeQ P T t k w (.returned (.pointer (some ⟨m, 0, none⟩))) (v2.setCell ⟨m, i, none⟩ (.pointer (some ⟨p, 0, none⟩))) := by
  have ho := only_at v2 m i (.pointer (some ⟨p, 0, none⟩))
  have hm2 := hm.only h3 id
  have z1 := h1.size; have z2 := h2.size; have z3 := h3.size; have z4 := hm.lt
  refine ⟨m, p, b, rfl, ?_, (wdO P T).keep ha ho (by omega) (fun q y u hq e => by subst e; exact hs (by rw [(hm2.uniq hq).1]; rfl)), ((h1.thenF h2).thenF h3).setCell (p := ⟨m, i, none⟩) (.inr (by show w.heap.size ≤ m; omega)) _, by omega, by omega⟩
  rw [← hc]
  exact hm2.setCell i _
section
variable {P t : Int} {n : Nat}

set_option maxRecDepth 100000 in
set_option maxHeartbeats 4000000 in
theorem madeEnter_any (hm : Lay.may P n = true) (ht : decide (0 ≤ t ∧ t < (n : Int)) = true) (w : World) :
    Calls Try.prog 6 #[.agg #[.int .i64 P, .int .i64 n], .int .i64 13, .int .i64 t] w (MadeQ P n t (.enter .begin) w) := by
  obtain ⟨B0, hB0⟩ : ∃ B, w.heap.size = B := ⟨_, rfl⟩
  obtain ⟨W0, hW0⟩ : ∃ W, w.alloc (.cells #[.int .i64 P, .int .i64 n] 24) = W := ⟨_, rfl⟩
  have hl : Blk W0 B0 #[.int .i64 P, .int .i64 n] 24 := by rw [← hW0, ← hB0]; exact Blk.new w _ _
  have hO0 : Adds w W0 := by rw [← hW0]; exact (Only.refl (fun _ => False) w).alloc _
  have l0 : W0.cell? ⟨B0, 0, none⟩ = some (.int .i64 P) := hl.cell 0
  have l1 : W0.cell? ⟨B0, 1, none⟩ = some (.int .i64 n) := hl.cell 1
  have HL := Lib.hid hl; have HO := Lib.hid hO0
  clear hl hO0
  go_enter Try.func6, Try.ntmps6
  go_upto_region 1 with fail
  go_wp2_with fail
  refine (newA_any 13 P n t _).mono ?_
  rintro e v1 ⟨b, rfl, ho1⟩
  have q0 := cell_al l0 ho1; have q1 := cell_al l1 ho1
  obtain ⟨m, hmm⟩ : ∃ m, v1.heap.size = m := ⟨_, rfl⟩
  obtain ⟨V, hV⟩ : ∃ V, v1.alloc (.cells #[.pointer none, .pointer none, .pointer none, .pointer none, .pointer (some ⟨b, 0, none⟩)] 46) = V := ⟨_, rfl⟩
  have hmb : Blk V m #[.pointer none, .pointer none, .pointer none, .pointer none, .pointer (some ⟨b, 0, none⟩)] 46 := by rw [← hV, ← hmm]; exact Blk.new v1 _ _
  have hO2 : Adds v1 V := by rw [← hV]; exact (Only.refl (fun _ => False) v1).alloc _
  have r0 := cell_al q0 hO2; have r1 := cell_al q1 hO2
  have HMB := Lib.hid hmb; have HO2 := Lib.hid hO2; have HO1 := Lib.hid ho1
  have hml := Nat.le_of_eq hmm
  have HML := Lib.hid hml
  clear hmb hO2 ho1 hml l0 l1
  go_wp2_with (go_at_call 15; refine (newEnter_ok P n _ hm).mono ?_; rintro e v2 ⟨p, rfl, ha, ho3, hp⟩; have HA := Lib.hid ha; have HO3 := Lib.hid ho3; have HP := Lib.hid hp; have c9 : v2.cell? ⟨m, 0, none⟩ = some (.pointer none) := (HMB.out.only ho3 id).cell 0; have f9 : v2.frozen? ⟨m, 0, none⟩ = false := (HMB.out.only ho3 id).frozen 0; clear ha ho3 hp)
  go_ret
  exact made_end (k := .enter .begin) (i := 0) (HO.out.thenF HO1.out) HO2.out HMB.out HML.out HO3.out HA.out HP.out rfl (by simp)
set_option maxRecDepth 100000 in
set_option maxHeartbeats 4000000 in
theorem madeExit_any (hm : Lay.may P n = true) (ht : decide (0 ≤ t ∧ t < (n : Int)) = true) (w : World) :
    Calls Try.prog 6 #[.agg #[.int .i64 P, .int .i64 n], .int .i64 14, .int .i64 t] w (MadeQ P n t (.exit) w) := by
  obtain ⟨B0, hB0⟩ : ∃ B, w.heap.size = B := ⟨_, rfl⟩
  obtain ⟨W0, hW0⟩ : ∃ W, w.alloc (.cells #[.int .i64 P, .int .i64 n] 24) = W := ⟨_, rfl⟩
  have hl : Blk W0 B0 #[.int .i64 P, .int .i64 n] 24 := by rw [← hW0, ← hB0]; exact Blk.new w _ _
  have hO0 : Adds w W0 := by rw [← hW0]; exact (Only.refl (fun _ => False) w).alloc _
  have l0 : W0.cell? ⟨B0, 0, none⟩ = some (.int .i64 P) := hl.cell 0
  have l1 : W0.cell? ⟨B0, 1, none⟩ = some (.int .i64 n) := hl.cell 1
  have HL := Lib.hid hl; have HO := Lib.hid hO0
  clear hl hO0
  go_enter Try.func6, Try.ntmps6
  go_upto_region 1 with fail
  go_wp2_with fail
  refine (newA_any 14 P n t _).mono ?_
  rintro e v1 ⟨b, rfl, ho1⟩
  have q0 := cell_al l0 ho1; have q1 := cell_al l1 ho1
  obtain ⟨m, hmm⟩ : ∃ m, v1.heap.size = m := ⟨_, rfl⟩
  obtain ⟨V, hV⟩ : ∃ V, v1.alloc (.cells #[.pointer none, .pointer none, .pointer none, .pointer none, .pointer (some ⟨b, 0, none⟩)] 46) = V := ⟨_, rfl⟩
  have hmb : Blk V m #[.pointer none, .pointer none, .pointer none, .pointer none, .pointer (some ⟨b, 0, none⟩)] 46 := by rw [← hV, ← hmm]; exact Blk.new v1 _ _
  have hO2 : Adds v1 V := by rw [← hV]; exact (Only.refl (fun _ => False) v1).alloc _
  have r0 := cell_al q0 hO2; have r1 := cell_al q1 hO2
  have HMB := Lib.hid hmb; have HO2 := Lib.hid hO2; have HO1 := Lib.hid ho1
  have hml := Nat.le_of_eq hmm
  have HML := Lib.hid hml
  clear hmb hO2 ho1 hml l0 l1
  go_wp2_with (go_at_call 16; refine (newExit_ok P n _ hm).mono ?_; rintro e v2 ⟨p, rfl, ha, ho3, hp⟩; have HA := Lib.hid ha; have HO3 := Lib.hid ho3; have HP := Lib.hid hp; have c9 : v2.cell? ⟨m, 1, none⟩ = some (.pointer none) := (HMB.out.only ho3 id).cell 1; have f9 : v2.frozen? ⟨m, 1, none⟩ = false := (HMB.out.only ho3 id).frozen 1; clear ha ho3 hp)
  go_ret
  exact made_end (k := .exit) (i := 1) (HO.out.thenF HO1.out) HO2.out HMB.out HML.out HO3.out HA.out HP.out rfl (by simp)
set_option maxRecDepth 100000 in
set_option maxHeartbeats 4000000 in
theorem madeStop_any (hm : Lay.may P n = true) (ht : decide (0 ≤ t ∧ t < (n : Int)) = true) (w : World) :
    Calls Try.prog 6 #[.agg #[.int .i64 P, .int .i64 n], .int .i64 15, .int .i64 t] w (MadeQ P n t (.stop (.try_ t)) w) := by
  obtain ⟨B0, hB0⟩ : ∃ B, w.heap.size = B := ⟨_, rfl⟩
  obtain ⟨W0, hW0⟩ : ∃ W, w.alloc (.cells #[.int .i64 P, .int .i64 n] 24) = W := ⟨_, rfl⟩
  have hl : Blk W0 B0 #[.int .i64 P, .int .i64 n] 24 := by rw [← hW0, ← hB0]; exact Blk.new w _ _
  have hO0 : Adds w W0 := by rw [← hW0]; exact (Only.refl (fun _ => False) w).alloc _
  have l0 : W0.cell? ⟨B0, 0, none⟩ = some (.int .i64 P) := hl.cell 0
  have l1 : W0.cell? ⟨B0, 1, none⟩ = some (.int .i64 n) := hl.cell 1
  have HL := Lib.hid hl; have HO := Lib.hid hO0
  clear hl hO0
  go_enter Try.func6, Try.ntmps6
  go_upto_region 1 with fail
  go_wp2_with fail
  refine (newA_any 15 P n t _).mono ?_
  rintro e v1 ⟨b, rfl, ho1⟩
  have q0 := cell_al l0 ho1; have q1 := cell_al l1 ho1
  obtain ⟨m, hmm⟩ : ∃ m, v1.heap.size = m := ⟨_, rfl⟩
  obtain ⟨V, hV⟩ : ∃ V, v1.alloc (.cells #[.pointer none, .pointer none, .pointer none, .pointer none, .pointer (some ⟨b, 0, none⟩)] 46) = V := ⟨_, rfl⟩
  have hmb : Blk V m #[.pointer none, .pointer none, .pointer none, .pointer none, .pointer (some ⟨b, 0, none⟩)] 46 := by rw [← hV, ← hmm]; exact Blk.new v1 _ _
  have hO2 : Adds v1 V := by rw [← hV]; exact (Only.refl (fun _ => False) v1).alloc _
  have r0 := cell_al q0 hO2; have r1 := cell_al q1 hO2
  have HMB := Lib.hid hmb; have HO2 := Lib.hid hO2; have HO1 := Lib.hid ho1
  have hml := Nat.le_of_eq hmm
  have HML := Lib.hid hml
  clear hmb hO2 ho1 hml l0 l1
  go_wp2_with (go_at_call 17; refine (newStop_ok P n t _ hm ht).mono ?_; rintro e v2 ⟨p, rfl, ha, ho3, hp⟩; have HA := Lib.hid ha; have HO3 := Lib.hid ho3; have HP := Lib.hid hp; have c9 : v2.cell? ⟨m, 2, none⟩ = some (.pointer none) := (HMB.out.only ho3 id).cell 2; have f9 : v2.frozen? ⟨m, 2, none⟩ = false := (HMB.out.only ho3 id).frozen 2; clear ha ho3 hp)
  go_ret
  exact made_end (k := .stop (.try_ t)) (i := 2) (HO.out.thenF HO1.out) HO2.out HMB.out HML.out HO3.out HA.out HP.out rfl (by simp)
set_option maxRecDepth 100000 in
set_option maxHeartbeats 4000000 in
theorem madeGo_any (hm : Lay.may P n = true) (ht : decide (0 ≤ t ∧ t < (n : Int)) = true) (w : World) :
    Calls Try.prog 6 #[.agg #[.int .i64 P, .int .i64 n], .int .i64 16, .int .i64 t] w (MadeQ P n t (.go) w) := by
  obtain ⟨B0, hB0⟩ : ∃ B, w.heap.size = B := ⟨_, rfl⟩
  obtain ⟨W0, hW0⟩ : ∃ W, w.alloc (.cells #[.int .i64 P, .int .i64 n] 24) = W := ⟨_, rfl⟩
  have hl : Blk W0 B0 #[.int .i64 P, .int .i64 n] 24 := by rw [← hW0, ← hB0]; exact Blk.new w _ _
  have hO0 : Adds w W0 := by rw [← hW0]; exact (Only.refl (fun _ => False) w).alloc _
  have l0 : W0.cell? ⟨B0, 0, none⟩ = some (.int .i64 P) := hl.cell 0
  have l1 : W0.cell? ⟨B0, 1, none⟩ = some (.int .i64 n) := hl.cell 1
  have HL := Lib.hid hl; have HO := Lib.hid hO0
  clear hl hO0
  go_enter Try.func6, Try.ntmps6
  go_upto_region 1 with fail
  go_wp2_with fail
  refine (newA_any 16 P n t _).mono ?_
  rintro e v1 ⟨b, rfl, ho1⟩
  have q0 := cell_al l0 ho1; have q1 := cell_al l1 ho1
  obtain ⟨m, hmm⟩ : ∃ m, v1.heap.size = m := ⟨_, rfl⟩
  obtain ⟨V, hV⟩ : ∃ V, v1.alloc (.cells #[.pointer none, .pointer none, .pointer none, .pointer none, .pointer (some ⟨b, 0, none⟩)] 46) = V := ⟨_, rfl⟩
  have hmb : Blk V m #[.pointer none, .pointer none, .pointer none, .pointer none, .pointer (some ⟨b, 0, none⟩)] 46 := by rw [← hV, ← hmm]; exact Blk.new v1 _ _
  have hO2 : Adds v1 V := by rw [← hV]; exact (Only.refl (fun _ => False) v1).alloc _
  have r0 := cell_al q0 hO2; have r1 := cell_al q1 hO2
  have HMB := Lib.hid hmb; have HO2 := Lib.hid hO2; have HO1 := Lib.hid ho1
  have hml := Nat.le_of_eq hmm
  have HML := Lib.hid hml
  clear hmb hO2 ho1 hml l0 l1
  go_wp2_with (go_at_call 18; refine (newGo_ok P n _ hm).mono ?_; rintro e v2 ⟨p, rfl, ha, ho3, hp⟩; have HA := Lib.hid ha; have HO3 := Lib.hid ho3; have HP := Lib.hid hp; have c9 : v2.cell? ⟨m, 3, none⟩ = some (.pointer none) := (HMB.out.only ho3 id).cell 3; have f9 : v2.frozen? ⟨m, 3, none⟩ = false := (HMB.out.only ho3 id).frozen 3; clear ha ho3 hp)
  go_ret
  exact made_end (k := .go) (i := 3) (HO.out.thenF HO1.out) HO2.out HMB.out HML.out HO3.out HA.out HP.out rfl (by simp)
end
end Go.Proofs.Ytbepbcjklgfmjaa

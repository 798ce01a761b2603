/- The document's store: what each call does to it in memory, for every argument. The reference's layouts (chapter 8): the same answers. Package dustpanplay: Word, Read. By an AI agent. -/
import Derived.Test.YthhnpcniijpfeaaGreatZ1
import Derived.Test.YthhnpcniijpfeaaGreatZ4
import Derived.Test.YthhnpcniijpfeaaGreatZ2
namespace Go.Proofs.YthhnpcniijpfeaaGreat
open Go.RowKit
set_option linter.unusedSimpArgs false
set_option linter.unusedVariables false

/-- Block b is the document's store s, block m its words. -/
structure IsRef (w : World) (b m : Nat) (s : StoreS) : Prop where
  head : Blk w b (s.arr m) 101
  row : Blk w m (s.ws.map (Value.int .u64)).toArray 48
  ne : b ≠ m
  fit : s.fit
theorem IsRef.only {S : Nat → Prop} {w w' : World} {b m : Nat} {s : StoreS} (h : IsRef w b m s) (ho : Only S w w') (hb : ¬ S b) (hm : ¬ S m) : IsRef w' b m s :=
  ⟨h.head.only ho hb, h.row.only ho hm, h.ne, h.fit⟩
theorem IsRef.drewN {w : World} {b m : Nat} {s : StoreS} (h : IsRef w b m s) (n : Nat) : IsRef (w.drewN n) b m s := ⟨h.head, h.row, h.ne, h.fit⟩
theorem IsRef.alloc {w : World} {b m : Nat} {s : StoreS} (h : IsRef w b m s) (o : Obj) : IsRef (w.alloc o) b m s := ⟨h.head.alloc o, h.row.alloc o, h.ne, h.fit⟩
theorem IsRef.cells {w : World} {b m : Nat} {s : StoreS} (h : IsRef w b m s) :
    w.cell? ⟨b, 0, none⟩ = some (.slice (some ⟨m, 0, none⟩) s.ws.length s.ws.length) ∧ w.cell? ⟨b, 1, none⟩ = some (.int .i64 s.k) ∧ w.cell? ⟨b, 2, none⟩ = some (.int .i64 s.pos) ∧
    w.cell? ⟨b, 3, none⟩ = some (.int .u64 s.old) ∧ w.cell? ⟨b, 4, none⟩ = some (.int .u64 s.new) ∧ w.cell? ⟨b, 5, none⟩ = some (.int .i64 s.many) :=
  ⟨h.head.cell 0, h.head.cell 1, h.head.cell 2, h.head.cell 3, h.head.cell 4, h.head.cell 5⟩
theorem IsRef.wordCell {w : World} {b m : Nat} {s : StoreS} (h : IsRef w b m s) {i : Int} (hi : s.inR i) : w.cell? ⟨m, i.toNat, none⟩ = some (.int .u64 (s.word i)) := by
  rw [h.row.cell]
  obtain ⟨h0, h1⟩ := hi
  have hlt : i.toNat < s.ws.length := by omega
  simp [StoreS.word, List.getElem?_eq_getElem hlt]
theorem IsRef.lts {w : World} {b m : Nat} {s : StoreS} (h : IsRef w b m s) : b < w.heap.size ∧ m < w.heap.size := ⟨h.head.lt, h.row.lt⟩
theorem IsRef.accessed {w : World} {b m : Nat} {s : StoreS} (h : IsRef w b m s) {k i v : Int} (hv0 : 0 ≤ v) (hv1 : v < 18446744073709551616) :
    IsRef ((((((w.setCell ⟨m, i.toNat, none⟩ (.int .u64 v)).setCell ⟨b, 1, none⟩ (.int .i64 k)).setCell ⟨b, 2, none⟩ (.int .i64 i)).setCell ⟨b, 3, none⟩ (.int .u64 (s.word i))).setCell ⟨b, 4, none⟩ (.int .u64 v)).setCell ⟨b, 5, none⟩ (.int .i64 (wrap64 (s.many + 1)))) b m (s.acc k i v) := by
  have hbm := h.ne
  have h1 := (((((h.head.setCell_other hbm i.toNat (.int .u64 v)).setCell 1 (.int .i64 k)).setCell 2 (.int .i64 i)).setCell 3 (.int .u64 (s.word i))).setCell 4 (.int .u64 v)).setCell 5 (.int .i64 (wrap64 (s.many + 1)))
  have h2 := (((((h.row.setCell i.toNat (.int .u64 v)).setCell_other hbm.symm 1 (.int .i64 k)).setCell_other hbm.symm 2 (.int .i64 i)).setCell_other hbm.symm 3 (.int .u64 (s.word i))).setCell_other hbm.symm 4 (.int .u64 v)).setCell_other hbm.symm 5 (.int .i64 (wrap64 (s.many + 1)))
  refine ⟨?_, ?_, hbm, StoreS.acc_fit h.fit k i hv0 hv1⟩
  · have e : (s.acc k i v).arr m = (((((s.arr m).setIfInBounds 1 (.int .i64 k)).setIfInBounds 2 (.int .i64 i)).setIfInBounds 3 (.int .u64 (s.word i))).setIfInBounds 4 (.int .u64 v)).setIfInBounds 5 (.int .i64 (wrap64 (s.many + 1))) := by
      simp [StoreS.arr, StoreS.acc]
    rw [e]; exact h1
  · have e : ((s.acc k i v).ws.map (Value.int .u64)).toArray = (s.ws.map (Value.int .u64)).toArray.setIfInBounds i.toNat (.int .u64 v) := by
      simp [StoreS.acc]
    rw [e]; exact h2
set_option maxHeartbeats 1000000 in
theorem refTurn_any (b m : Nat) (k i v : Int) (s : StoreS) (w : World) (h : IsRef w b m s) (hi : s.inR i) (hv0 : 0 ≤ v) (hv1 : v < 18446744073709551616) :
    Calls Tryz.prog 184 #[.pointer (some ⟨b, 0, none⟩), .int .i64 k, .int .i64 i, .int .u64 v] w fun e w' => e = .returned (.int .u64 (s.word i)) ∧ IsRef w' b m (s.acc k i v) ∧ Only (SB b m) w w' := by
  have hfin := Lib.hid (h.accessed (k := k) (i := i) hv0 hv1)
  obtain ⟨hc0, hc1, hc2, hc3, hc4, hc5⟩ := h.cells
  have hx := h.wordCell hi
  have f1 := h.head.frozen 1
  have f2 := h.head.frozen 2
  have f3 := h.head.frozen 3
  have f4 := h.head.frozen 4
  have f5 := h.head.frozen 5
  have fm := h.row.frozen i.toNat
  have hbm := h.ne
  have hbm' : m ≠ b := hbm.symm
  have hn := h.fit.1
  obtain ⟨hi0, hi1⟩ := hi
  clear h
  go_enter Tryz.func184, Tryz.ntmps184
  go_wp2
  go_ret
  exact ⟨rfl, hfin.out, only_access _ _ _ _ _ _ _ _ _ _⟩
set_option maxHeartbeats 400000 in
theorem refThere_any (b m : Nat) (i : Int) (s : StoreS) (w : World) (h : IsRef w b m s) :
    Calls Tryz.prog 183 #[.pointer (some ⟨b, 0, none⟩), .int .i64 i] w fun e w' => e = .returned (.bool (decide (s.inR i))) ∧ w = w' := by
  have hc0 := h.cells.1
  obtain ⟨n, hn⟩ : ∃ n, n = s.ws.length := ⟨_, rfl⟩
  have hN := Lib.hid hn
  rw [← hn] at hc0
  have hr : decide (s.inR i) = (decide (0 ≤ i) && decide (i < n)) := by
    rw [Bool.eq_iff_iff]
    simp only [decide_eq_true_eq, Bool.and_eq_true]
    show (0 ≤ i ∧ i < (s.ws.length : Int)) ↔ _
    rw [hn]
  rw [hr]
  clear h hr hn
  by_cases h0 : 0 ≤ i
  · go_enter Tryz.func183, Tryz.ntmps183
    go_wp2
    go_ret
    exact ⟨by simp [h0], rfl⟩
  · have h0' : decide (0 ≤ i) = false := by simpa using h0
    go_enter Tryz.func183, Tryz.ntmps183
    go_wp2
    go_ret
    exact ⟨by simp [h0], rfl⟩
set_option maxHeartbeats 1000000 in
theorem refLoad_in (b m : Nat) (i : Int) (s : StoreS) (w : World) (h : IsRef w b m s) (hi : s.inR i) :
    Calls Tryz.prog 179 #[.pointer (some ⟨b, 0, none⟩), .int .i64 i] w fun e w' => e = .returned (.tuple #[.int .u64 (s.word i), .int .i64 0]) ∧ IsRef w' b m (s.acc 1 i (s.word i)) ∧ Only (SB b m) w w' := by
  have hc0 := h.cells.1
  have hx := h.wordCell hi
  have hn := h.fit.1
  have hw := StoreS.word_bd h.fit i
  have hth := refThere_any b m i s w h
  rw [decide_eq_true hi] at hth
  obtain ⟨hi0, hi1⟩ := id hi
  go_enter Tryz.func179, Tryz.ntmps179
  go_wp2_with (first
    | (go_at_call 183; refine hth.mono ?_; rintro e w' ⟨rfl, rfl⟩)
    | (go_at_call 184; refine (refTurn_any b m _ _ _ s _ h hi hw.1 hw.2).mono ?_; rintro e w' ⟨rfl, hs, ho⟩))
  go_ret2
  exact ⟨rfl, by assumption, by assumption⟩
set_option maxHeartbeats 1000000 in
theorem refPut_in (b m : Nat) (i v : Int) (s : StoreS) (w : World) (h : IsRef w b m s) (hi : s.inR i) (hv0 : 0 ≤ v) (hv1 : v < 18446744073709551616) :
    Calls Tryz.prog 144 #[.pointer (some ⟨b, 0, none⟩), .int .i64 i, .int .u64 v] w fun e w' => e = .returned (.int .i64 0) ∧ IsRef w' b m (s.acc 2 i v) ∧ Only (SB b m) w w' := by
  have hth := refThere_any b m i s w h
  rw [decide_eq_true hi] at hth
  go_enter Tryz.func144, Tryz.ntmps144
  go_wp2_with (first
    | (go_at_call 183; refine hth.mono ?_; rintro e w' ⟨rfl, rfl⟩)
    | (go_at_call 184; refine (refTurn_any b m _ _ _ s _ h hi hv0 hv1).mono ?_; rintro e w' ⟨rfl, hs, ho⟩))
  go_ret
  exact ⟨rfl, by assumption, by assumption⟩
set_option maxHeartbeats 1000000 in
theorem refCas_win (b m : Nat) (i o v : Int) (s : StoreS) (w : World) (h : IsRef w b m s) (hi : s.inR i) (hne : (s.word i != o) = false) (hv0 : 0 ≤ v) (hv1 : v < 18446744073709551616) :
    Calls Tryz.prog 182 #[.pointer (some ⟨b, 0, none⟩), .int .i64 i, .int .u64 o, .int .u64 v] w fun e w' => e = .returned (.tuple #[.int .u64 (s.word i), .int .i64 0]) ∧ IsRef w' b m (s.acc 3 i v) ∧ Only (SB b m) w w' := by
  have hc0 := h.cells.1
  have hx := h.wordCell hi
  have hn := h.fit.1
  have hth := refThere_any b m i s w h
  rw [decide_eq_true hi] at hth
  obtain ⟨hi0, hi1⟩ := id hi
  go_enter Tryz.func182, Tryz.ntmps182
  go_wp2_with (first
    | (go_at_call 183; refine hth.mono ?_; rintro e w' ⟨rfl, rfl⟩)
    | (go_at_call 184; refine (refTurn_any b m _ _ _ s _ h hi hv0 hv1).mono ?_; rintro e w' ⟨rfl, hs, ho⟩))
  go_ret2
  exact ⟨rfl, by assumption, by assumption⟩
set_option maxHeartbeats 1000000 in
theorem refCas_lost (b m : Nat) (i o v : Int) (s : StoreS) (w : World) (h : IsRef w b m s) (hi : s.inR i) (hne : (s.word i != o) = true) :
    Calls Tryz.prog 182 #[.pointer (some ⟨b, 0, none⟩), .int .i64 i, .int .u64 o, .int .u64 v] w fun e w' => e = .returned (.tuple #[.int .u64 (s.word i), .int .i64 5]) ∧ IsRef w' b m (s.acc 4 i (s.word i)) ∧ Only (SB b m) w w' := by
  have hc0 := h.cells.1
  have hx := h.wordCell hi
  have hn := h.fit.1
  have hw := StoreS.word_bd h.fit i
  have hth := refThere_any b m i s w h
  rw [decide_eq_true hi] at hth
  obtain ⟨hi0, hi1⟩ := id hi
  go_enter Tryz.func182, Tryz.ntmps182
  go_wp2_with (first
    | (go_at_call 183; refine hth.mono ?_; rintro e w' ⟨rfl, rfl⟩)
    | (go_at_call 184; refine (refTurn_any b m _ _ _ s _ h hi hw.1 hw.2).mono ?_; rintro e w' ⟨rfl, hs, ho⟩))
  go_ret2
  exact ⟨rfl, by assumption, by assumption⟩
set_option maxHeartbeats 1000000 in
theorem refAdd_in (b m : Nat) (i v : Int) (s : StoreS) (w : World) (h : IsRef w b m s) (hi : s.inR i) :
    Calls Tryz.prog 191 #[.pointer (some ⟨b, 0, none⟩), .int .i64 i, .int .u64 v] w fun e w' => e = .returned (.tuple #[.int .u64 (s.word i), .int .i64 0]) ∧ IsRef w' b m (s.acc 5 i ((s.word i + v) % 18446744073709551616)) ∧ Only (SB b m) w w' := by
  have hc0 := h.cells.1
  have hx := h.wordCell hi
  have hn := h.fit.1
  have hth := refThere_any b m i s w h
  rw [decide_eq_true hi] at hth
  obtain ⟨hi0, hi1⟩ := id hi
  have hv0 : 0 ≤ (s.word i + v) % 18446744073709551616 := by omega
  have hv1 : (s.word i + v) % 18446744073709551616 < 18446744073709551616 := by omega
  go_enter Tryz.func191, Tryz.ntmps191
  go_wp2_with (first
    | (go_at_call 183; refine hth.mono ?_; rintro e w' ⟨rfl, rfl⟩)
    | (go_at_call 184; refine (refTurn_any b m _ _ _ s _ h hi hv0 hv1).mono ?_; rintro e w' ⟨rfl, hs, ho⟩))
  go_ret2
  exact ⟨rfl, by assumption, by assumption⟩
section
variable (b m : Nat) (i o v : Int) (s : StoreS) (w : World) (h : IsRef w b m s) (hi : ¬ s.inR i)
include h hi
set_option maxHeartbeats 400000 in
theorem refLoad_out : Calls Tryz.prog 179 #[.pointer (some ⟨b, 0, none⟩), .int .i64 i] w fun e w' => e = .returned (.tuple #[.int .u64 0, .int .i64 1]) ∧ w = w' := by
  have hth := refThere_any b m i s w h
  rw [decide_eq_false hi] at hth
  go_enter Tryz.func179, Tryz.ntmps179
  go_wp2_with (go_at_call 183; refine hth.mono ?_; rintro e w' ⟨rfl, rfl⟩)
  go_ret2
  exact ⟨rfl, rfl⟩
set_option maxHeartbeats 400000 in
theorem refPut_out : Calls Tryz.prog 144 #[.pointer (some ⟨b, 0, none⟩), .int .i64 i, .int .u64 v] w fun e w' => e = .returned (.int .i64 1) ∧ w = w' := by
  have hth := refThere_any b m i s w h
  rw [decide_eq_false hi] at hth
  go_enter Tryz.func144, Tryz.ntmps144
  go_wp2_with (go_at_call 183; refine hth.mono ?_; rintro e w' ⟨rfl, rfl⟩)
  go_ret
  exact ⟨rfl, rfl⟩
set_option maxHeartbeats 400000 in
theorem refCas_out : Calls Tryz.prog 182 #[.pointer (some ⟨b, 0, none⟩), .int .i64 i, .int .u64 o, .int .u64 v] w fun e w' => e = .returned (.tuple #[.int .u64 0, .int .i64 1]) ∧ w = w' := by
  have hth := refThere_any b m i s w h
  rw [decide_eq_false hi] at hth
  go_enter Tryz.func182, Tryz.ntmps182
  go_wp2_with (go_at_call 183; refine hth.mono ?_; rintro e w' ⟨rfl, rfl⟩)
  go_ret2
  exact ⟨rfl, rfl⟩
set_option maxHeartbeats 400000 in
theorem refAdd_out : Calls Tryz.prog 191 #[.pointer (some ⟨b, 0, none⟩), .int .i64 i, .int .u64 v] w fun e w' => e = .returned (.tuple #[.int .u64 0, .int .i64 1]) ∧ w = w' := by
  have hth := refThere_any b m i s w h
  rw [decide_eq_false hi] at hth
  go_enter Tryz.func191, Tryz.ntmps191
  go_wp2_with (go_at_call 183; refine hth.mono ?_; rintro e w' ⟨rfl, rfl⟩)
  go_ret2
  exact ⟨rfl, rfl⟩
end
set_option maxRecDepth 100000 in
set_option maxHeartbeats 1000000 in
theorem refNew_ok (n' : Int) (w : World) (h1' : 1 ≤ n') (h2' : n' ≤ 65536) :
    Calls Tryz.prog 69 #[.int .i64 n'] w fun e w' => e = .returned (.pointer (some ⟨w.heap.size + 1, 0, none⟩)) ∧ IsRef w' (w.heap.size + 1) w.heap.size (StoreS.fresh n'.toNat) ∧ Only (fun _ => False) w w' ∧ w'.heap.size = w.heap.size + 2 := by
  obtain ⟨n, rfl⟩ := Int.eq_ofNat_of_zero_le (show 0 ≤ n' by omega)
  rw [Int.toNat_natCast]
  have h1 : 1 ≤ n := by omega
  have h2 : n ≤ 65536 := by omega
  clear h1' h2'
  obtain ⟨i0, hi, hz0, hz1, hz2⟩ := info_parts infoU64
  have hmk := fun W => run_make (P := Tryz.prog) W 87 48 i0 (.int .u64 0) Tryz.underlying87 hi hz0 .i64 .i64 (n : Int) (n : Int) (by omega) (by omega) (by rw [hz2]; omega) (by omega)
  simp only [Int.toNat_natCast, hz1] at hmk
  go_enter Tryz.func69, Tryz.ntmps69
  go_wp2
  go_ret
  refine ⟨rfl, ⟨?_, ?_, by omega, StoreS.fresh_fit h2⟩, ((Only.refl _ _).alloc _).alloc _, by simp⟩
  · have := Blk.new (w.alloc (.cells (madeCells #[Value.int .u64 0] n) 48)) ((StoreS.fresh n).arr w.heap.size) 101
    rw [World.size_alloc] at this
    simpa [StoreS.arr, StoreS.fresh] using this
  · have := (Blk.new w (madeCells #[Value.int .u64 0] n) 48).alloc (.cells ((StoreS.fresh n).arr w.heap.size) 101)
    rw [madeCells_u64] at this ⊢
    simpa [StoreS.arr, StoreS.fresh] using this
set_option maxHeartbeats 400000 in
theorem r6LayMay_any (P T : Int) (w : World) :
    Calls Tryz.prog 67 #[.agg #[.int .i64 P, .int .i64 T]] w fun e w' => e = .returned (.bool (Lay.may P T)) ∧ Adds w w' := by
  cases hm : Lay.may P T
  · have h := Lay.may_not hm
    clear hm
    by_cases h1 : P < 1
    · go_enter Tryz.func67, Tryz.ntmps67
      go_wp2
      go_ret
      exact ⟨rfl, (Only.refl _ _).alloc _⟩
    by_cases h2 : 4096 < P
    · go_enter Tryz.func67, Tryz.ntmps67
      go_wp2
      go_ret
      exact ⟨rfl, (Only.refl _ _).alloc _⟩
    by_cases h3 : T < 1
    · go_enter Tryz.func67, Tryz.ntmps67
      go_wp2
      go_ret
      exact ⟨rfl, (Only.refl _ _).alloc _⟩
    have h4 : decide (T ≤ 64) = false := by simp; omega
    clear h
    go_enter Tryz.func67, Tryz.ntmps67
    go_wp2
    go_ret
    exact ⟨rfl, (Only.refl _ _).alloc _⟩
  · obtain ⟨h1, h2, h3, h4⟩ := Lay.may_iff.1 hm
    clear hm
    go_enter Tryz.func67, Tryz.ntmps67
    go_wp2
    go_ret
    exact ⟨rfl, (Only.refl _ _).alloc _⟩
set_option maxHeartbeats 400000 in
theorem r6Maps_any (P T : Int) (w : World) (h1 : 1 ≤ P) (h2 : P ≤ 4096) :
    Calls Tryz.prog 66 #[.agg #[.int .i64 P, .int .i64 T]] w fun e w' => e = .returned (.int .i64 (Lay.many P)) ∧ Adds w w' := by
  go_enter Tryz.func66, Tryz.ntmps66
  go_wp2
  go_ret
  exact ⟨rfl, (Only.refl _ _).alloc _⟩
set_option maxHeartbeats 1000000 in
theorem r6Words_any (P T : Int) (w : World) :
    Calls Tryz.prog 65 #[.agg #[.int .i64 P, .int .i64 T]] w fun e w' => e = .returned (.int .i64 (Lay.words P T)) ∧ Adds w w' := by
  cases hm : Lay.may P T
  · have e : Lay.words P T = 0 := by simp [Lay.words, hm]
    rw [e]; clear e
    go_enter Tryz.func65, Tryz.ntmps65
    go_wp2_with (go_at_call 67; refine (r6LayMay_any _ _ _).mono ?_; rintro e w1 ⟨rfl, ho⟩; obtain ⟨q0, q1, ha⟩ := box2_cells ho; have HA := Lib.hid ha; clear ho ha)
    go_ret
    exact ⟨rfl, Hid.out (by assumption)⟩
  · have e : Lay.words P T = 68 + 14 * T + 6 * P + 2 * Lay.many P := by simp [Lay.words, hm]
    have E := Lib.hid e
    clear e
    obtain ⟨hP1, hP2, hT1, hT2⟩ := Lay.may_iff.1 hm
    obtain ⟨hb1, hb2⟩ := Lay.many_bd hP1 hP2
    go_enter Tryz.func65, Tryz.ntmps65
    go_wp2_with fail
    refine (r6LayMay_any _ _ _).mono ?_; rintro e w1 ⟨rfl, ho⟩; obtain ⟨q0, q1, ha⟩ := box2_cells ho; have HA := Lib.hid ha; clear ho ha
    go_wp2
    go_region_held3 (fun w' => w'.cell? ⟨w.heap.size, 0, none⟩ = some (.int .i64 P) ∧ w'.cell? ⟨w.heap.size, 1, none⟩ = some (.int .i64 T) ∧ Adds w w')
      (first | (exact ⟨by simp [*], by simp [*], HA.out.drew⟩) | (exact held2 (by assumption) (by assumption)))
      (first | (go_at_call 66; refine (r6Maps_any _ _ _ hP1 hP2).mono ?_; rintro e w' ⟨rfl, ho⟩))
    rename_i hH
    have HH := Lib.hid hH.2.2
    clear hH
    go_wp2
    go_ret
    exact ⟨retI (by rw [E.out]; simp only [IntKind.wrap_i64]; omega), HH.out⟩
set_option maxHeartbeats 2000000 in
theorem r6Head_any (P T c p : Int) (full : Bool) (w : World) :
    Calls Tryz.prog 209 #[.agg #[.int .i64 P, .int .i64 T], .int .i64 c, .bool full, .int .i64 p] w fun e w' => e = atOf (Lay.headOk P T c p) (Lay.headAt c full p) ∧ Adds w w' := by
  cases hm : Lay.may P T
  · rw [atOf_no (by simp [Lay.headOk, hm])]
    go_enter Tryz.func209, Tryz.ntmps209
    go_wp2_with (go_at_call 67; refine (r6LayMay_any _ _ _).mono ?_; rintro e w1 ⟨rfl, ho⟩; obtain ⟨q0, q1, ha⟩ := box2_cells ho; have HA := Lib.hid ha; clear ho ha)
    go_ret2
    exact ⟨rfl, Hid.out (by assumption)⟩
  by_cases h1 : c < 0
  · rw [atOf_no (by simp [Lay.headOk]; omega)]
    go_enter Tryz.func209, Tryz.ntmps209
    go_wp2_with (go_at_call 67; refine (r6LayMay_any _ _ _).mono ?_; rintro e w1 ⟨rfl, ho⟩; obtain ⟨q0, q1, ha⟩ := box2_cells ho; have HA := Lib.hid ha; clear ho ha)
    go_ret2
    exact ⟨rfl, Hid.out (by assumption)⟩
  by_cases h2 : 14 < c
  · rw [atOf_no (by simp [Lay.headOk]; omega)]
    go_enter Tryz.func209, Tryz.ntmps209
    go_wp2_with (go_at_call 67; refine (r6LayMay_any _ _ _).mono ?_; rintro e w1 ⟨rfl, ho⟩; obtain ⟨q0, q1, ha⟩ := box2_cells ho; have HA := Lib.hid ha; clear ho ha)
    go_ret2
    exact ⟨rfl, Hid.out (by assumption)⟩
  by_cases h3 : p < 0
  · rw [atOf_no (by simp [Lay.headOk]; omega)]
    go_enter Tryz.func209, Tryz.ntmps209
    go_wp2_with (go_at_call 67; refine (r6LayMay_any _ _ _).mono ?_; rintro e w1 ⟨rfl, ho⟩; obtain ⟨q0, q1, ha⟩ := box2_cells ho; have HA := Lib.hid ha; clear ho ha)
    go_ret2
    exact ⟨rfl, Hid.out (by assumption)⟩
  by_cases h4 : 1 < p
  · rw [atOf_no (by simp [Lay.headOk]; omega)]
    have h5 : decide (1 < p) = true := by simp; omega
    go_enter Tryz.func209, Tryz.ntmps209
    go_wp2_with (go_at_call 67; refine (r6LayMay_any _ _ _).mono ?_; rintro e w1 ⟨rfl, ho⟩; obtain ⟨q0, q1, ha⟩ := box2_cells ho; have HA := Lib.hid ha; clear ho ha)
    go_ret2
    exact ⟨rfl, Hid.out (by assumption)⟩
  rw [atOf_yes (by simp [Lay.headOk, hm]; omega)]
  have h5 : decide (1 < p) = false := by simp; omega
  cases full
  all_goals
    go_enter Tryz.func209, Tryz.ntmps209
    go_wp2_with (go_at_call 67; refine (r6LayMay_any _ _ _).mono ?_; rintro e w1 ⟨rfl, ho⟩; obtain ⟨q0, q1, ha⟩ := box2_cells ho; have HA := Lib.hid ha; clear ho ha)
    go_ret2
    exact ⟨retIB (by simp [Lay.headAt]) rfl, Hid.out (by assumption)⟩
set_option maxHeartbeats 2000000 in
theorem r6Cache_any (P T t c : Int) (w : World) :
    Calls Tryz.prog 210 #[.agg #[.int .i64 P, .int .i64 T], .int .i64 t, .int .i64 c] w fun e w' => e = atOf (Lay.cacheOk P T t c) (Lay.cacheAt t c) ∧ Adds w w' := by
  cases hm : Lay.may P T
  · rw [atOf_no (by simp [Lay.cacheOk, hm])]
    go_enter Tryz.func210, Tryz.ntmps210
    go_wp2_with (go_at_call 67; refine (r6LayMay_any _ _ _).mono ?_; rintro e w1 ⟨rfl, ho⟩; obtain ⟨q0, q1, ha⟩ := box2_cells ho; have HA := Lib.hid ha; clear ho ha)
    go_ret2
    exact ⟨rfl, Hid.out (by assumption)⟩
  obtain ⟨_, _, hT1, hT2⟩ := Lay.may_iff.1 hm
  by_cases h1 : t < 0
  · rw [atOf_no (by simp [Lay.cacheOk]; omega)]
    go_enter Tryz.func210, Tryz.ntmps210
    go_wp2_with (go_at_call 67; refine (r6LayMay_any _ _ _).mono ?_; rintro e w1 ⟨rfl, ho⟩; obtain ⟨q0, q1, ha⟩ := box2_cells ho; have HA := Lib.hid ha; clear ho ha)
    go_ret2
    exact ⟨rfl, Hid.out (by assumption)⟩
  by_cases h2 : T ≤ t
  · rw [atOf_no (by simp [Lay.cacheOk]; omega)]
    go_enter Tryz.func210, Tryz.ntmps210
    go_wp2_with (go_at_call 67; refine (r6LayMay_any _ _ _).mono ?_; rintro e w1 ⟨rfl, ho⟩; obtain ⟨q0, q1, ha⟩ := box2_cells ho; have HA := Lib.hid ha; clear ho ha)
    go_ret2
    exact ⟨rfl, Hid.out (by assumption)⟩
  by_cases h3 : c < 0
  · rw [atOf_no (by simp [Lay.cacheOk]; omega)]
    go_enter Tryz.func210, Tryz.ntmps210
    go_wp2_with (go_at_call 67; refine (r6LayMay_any _ _ _).mono ?_; rintro e w1 ⟨rfl, ho⟩; obtain ⟨q0, q1, ha⟩ := box2_cells ho; have HA := Lib.hid ha; clear ho ha)
    go_ret2
    exact ⟨rfl, Hid.out (by assumption)⟩
  by_cases h4 : 14 ≤ c
  · rw [atOf_no (by simp [Lay.cacheOk]; omega)]
    have h5 : decide (14 ≤ c) = true := by simp; omega
    go_enter Tryz.func210, Tryz.ntmps210
    go_wp2_with (go_at_call 67; refine (r6LayMay_any _ _ _).mono ?_; rintro e w1 ⟨rfl, ho⟩; obtain ⟨q0, q1, ha⟩ := box2_cells ho; have HA := Lib.hid ha; clear ho ha)
    go_ret2
    exact ⟨rfl, Hid.out (by assumption)⟩
  rw [atOf_yes (by simp [Lay.cacheOk, hm]; omega)]
  have h5 : decide (14 ≤ c) = false := by simp; omega
  go_enter Tryz.func210, Tryz.ntmps210
  go_wp2_with (go_at_call 67; refine (r6LayMay_any _ _ _).mono ?_; rintro e w1 ⟨rfl, ho⟩; obtain ⟨q0, q1, ha⟩ := box2_cells ho; have HA := Lib.hid ha; clear ho ha)
  go_ret2
  exact ⟨retIB (by simp [Lay.cacheAt]) rfl, Hid.out (by assumption)⟩
set_option maxHeartbeats 2000000 in
theorem r6PageWord_any (P T k p : Int) (w : World) :
    Calls Tryz.prog 43 #[.agg #[.int .i64 P, .int .i64 T], .int .i64 k, .int .i64 p] w fun e w' => e = atOf (Lay.pageOk P T k p) (Lay.pageAt P T k p) ∧ Adds w w' := by
  cases hm : Lay.may P T
  · rw [atOf_no (by simp [Lay.pageOk, hm])]
    go_enter Tryz.func43, Tryz.ntmps43
    go_wp2_with (go_at_call 67; refine (r6LayMay_any _ _ _).mono ?_; rintro e w1 ⟨rfl, ho⟩; obtain ⟨q0, q1, ha⟩ := box2_cells ho; have HA := Lib.hid ha; clear ho ha)
    go_ret2
    exact ⟨rfl, Hid.out (by assumption)⟩
  obtain ⟨hP1, hP2, hT1, hT2⟩ := Lay.may_iff.1 hm
  by_cases h1 : p < 0
  · rw [atOf_no (by simp [Lay.pageOk]; omega)]
    go_enter Tryz.func43, Tryz.ntmps43
    go_wp2_with (go_at_call 67; refine (r6LayMay_any _ _ _).mono ?_; rintro e w1 ⟨rfl, ho⟩; obtain ⟨q0, q1, ha⟩ := box2_cells ho; have HA := Lib.hid ha; clear ho ha)
    go_ret2
    exact ⟨rfl, Hid.out (by assumption)⟩
  by_cases h2 : P ≤ p
  · rw [atOf_no (by simp [Lay.pageOk]; omega)]
    go_enter Tryz.func43, Tryz.ntmps43
    go_wp2_with (go_at_call 67; refine (r6LayMay_any _ _ _).mono ?_; rintro e w1 ⟨rfl, ho⟩; obtain ⟨q0, q1, ha⟩ := box2_cells ho; have HA := Lib.hid ha; clear ho ha)
    go_ret2
    exact ⟨rfl, Hid.out (by assumption)⟩
  by_cases h3 : k < 9
  · rw [atOf_no (by simp [Lay.pageOk]; omega)]
    go_enter Tryz.func43, Tryz.ntmps43
    go_wp2_with (go_at_call 67; refine (r6LayMay_any _ _ _).mono ?_; rintro e w1 ⟨rfl, ho⟩; obtain ⟨q0, q1, ha⟩ := box2_cells ho; have HA := Lib.hid ha; clear ho ha)
    go_ret2
    exact ⟨rfl, Hid.out (by assumption)⟩
  by_cases h4 : 14 < k
  · rw [atOf_no (by simp [Lay.pageOk]; omega)]
    have h5 : decide (14 < k) = true := by simp; omega
    go_enter Tryz.func43, Tryz.ntmps43
    go_wp2_with (go_at_call 67; refine (r6LayMay_any _ _ _).mono ?_; rintro e w1 ⟨rfl, ho⟩; obtain ⟨q0, q1, ha⟩ := box2_cells ho; have HA := Lib.hid ha; clear ho ha)
    go_ret2
    exact ⟨rfl, Hid.out (by assumption)⟩
  have h5 : decide (14 < k) = false := by simp; omega
  rw [atOf_yes (by simp [Lay.pageOk, hm]; omega)]
  by_cases hk : k = 14
  · subst hk
    go_enter Tryz.func43, Tryz.ntmps43
    go_wp2_with (go_at_call 67; refine (r6LayMay_any _ _ _).mono ?_; rintro e w1 ⟨rfl, ho⟩; obtain ⟨q0, q1, ha⟩ := box2_cells ho; have HA := Lib.hid ha; clear ho ha)
    go_ret2
    exact ⟨retIB (by simp [Lay.pageAt]) rfl, Hid.out (by assumption)⟩
  · have hk' : (k == 14) = false := by simpa using hk
    have E : Hid (Lay.pageAt P T k p = 68 + 14 * T + 5 * p + k - 9) := by show Lay.pageAt P T k p = _; simp [Lay.pageAt, hk]
    clear hk
    go_enter Tryz.func43, Tryz.ntmps43
    go_wp2_with (go_at_call 67; refine (r6LayMay_any _ _ _).mono ?_; rintro e w1 ⟨rfl, ho⟩; obtain ⟨q0, q1, ha⟩ := box2_cells ho; have HA := Lib.hid ha; clear ho ha)
    go_ret2
    exact ⟨retIB (by rw [E.out]) rfl, Hid.out (by assumption)⟩
set_option maxHeartbeats 4000000 in
theorem r6Map_any (P T k i : Int) (w : World) :
    Calls Tryz.prog 192 #[.agg #[.int .i64 P, .int .i64 T], .int .i64 k, .int .i64 i] w fun e w' => e = atOf (Lay.mapOk P T k i) (Lay.mapAt P T k i) ∧ Adds w w' := by
  cases hm : Lay.may P T
  · rw [atOf_no (by simp [Lay.mapOk, hm])]
    go_enter Tryz.func192, Tryz.ntmps192
    go_wp2_with (go_at_call 67; refine (r6LayMay_any _ _ _).mono ?_; rintro e w1 ⟨rfl, ho⟩; obtain ⟨q0, q1, ha⟩ := box2_cells ho; have HA := Lib.hid ha; clear ho ha)
    go_ret2
    exact ⟨rfl, Hid.out (by assumption)⟩
  obtain ⟨hP1, hP2, hT1, hT2⟩ := Lay.may_iff.1 hm
  obtain ⟨hb1, hb2⟩ := Lay.many_bd hP1 hP2
  by_cases h1 : i < 0
  · rw [atOf_no (by simp [Lay.mapOk]; omega)]
    go_enter Tryz.func192, Tryz.ntmps192
    go_wp2_with (go_at_call 67; refine (r6LayMay_any _ _ _).mono ?_; rintro e w1 ⟨rfl, ho⟩; obtain ⟨q0, q1, ha⟩ := box2_cells ho; have HA := Lib.hid ha; clear ho ha)
    go_ret2
    exact ⟨rfl, Hid.out (by assumption)⟩
  by_cases h2 : Lay.many P ≤ i
  · rw [atOf_no (by simp [Lay.mapOk]; omega)]
    go_enter Tryz.func192, Tryz.ntmps192
    go_wp2_with (first | (go_at_call 67; refine (r6LayMay_any _ _ _).mono ?_; rintro e w1 ⟨rfl, ho⟩; obtain ⟨q0, q1, ha⟩ := box2_cells ho; have HA := Lib.hid ha; clear ho ha) | (go_at_call 66; refine (r6Maps_any _ _ _ hP1 hP2).mono ?_; rintro e w2 ⟨rfl, ho⟩; obtain ⟨q2, q3, hb⟩ := held2 ⟨q0, q1, HA.out⟩ ho; have HB := Lib.hid hb; clear ho hb q0 q1 HA))
    go_ret2
    exact ⟨rfl, Hid.out (by assumption)⟩
  by_cases hk : k = 15
  · subst hk
    rw [atOf_yes (by simp [Lay.mapOk, hm]; omega)]
    go_enter Tryz.func192, Tryz.ntmps192
    go_wp2_with (first | (go_at_call 67; refine (r6LayMay_any _ _ _).mono ?_; rintro e w1 ⟨rfl, ho⟩; obtain ⟨q0, q1, ha⟩ := box2_cells ho; have HA := Lib.hid ha; clear ho ha) | (go_at_call 66; refine (r6Maps_any _ _ _ hP1 hP2).mono ?_; rintro e w2 ⟨rfl, ho⟩; obtain ⟨q2, q3, hb⟩ := held2 ⟨q0, q1, HA.out⟩ ho; have HB := Lib.hid hb; clear ho hb q0 q1 HA))
    go_ret2
    exact ⟨retIB (by simp [Lay.mapAt]) rfl, Hid.out (by assumption)⟩
  have hk' : (k == 15) = false := by simpa using hk
  have hk1 : (k != 15) = true := by simpa using hk
  by_cases hk2 : k = 16
  · subst hk2
    rw [atOf_yes (by simp [Lay.mapOk, hm]; omega)]
    clear hk hk' hk1
    go_enter Tryz.func192, Tryz.ntmps192
    go_wp2_with (first | (go_at_call 67; refine (r6LayMay_any _ _ _).mono ?_; rintro e w1 ⟨rfl, ho⟩; obtain ⟨q0, q1, ha⟩ := box2_cells ho; have HA := Lib.hid ha; clear ho ha) | (go_at_call 66; refine (r6Maps_any _ _ _ hP1 hP2).mono ?_; rintro e w2 ⟨rfl, ho⟩; obtain ⟨q2, q3, hb⟩ := held2 ⟨q0, q1, HA.out⟩ ho; have HB := Lib.hid hb; clear ho hb q0 q1 HA) | (go_at_call 66; refine (r6Maps_any _ _ _ hP1 hP2).mono ?_; rintro e w2 ⟨rfl, ho⟩; obtain ⟨q4, q5, hb⟩ := held2 ⟨q2, q3, HB.out⟩ ho; have HC := Lib.hid hb; clear ho hb q2 q3 HB))
    go_ret2
    exact ⟨retIB (by simp [Lay.mapAt]; omega) rfl, Hid.out (by assumption)⟩
  · have hk3 : (k != 16) = true := by simpa using hk2
    rw [atOf_no (by simp [Lay.mapOk, hk, hk2])]
    clear hk hk2
    go_enter Tryz.func192, Tryz.ntmps192
    go_wp2_with (first | (go_at_call 67; refine (r6LayMay_any _ _ _).mono ?_; rintro e w1 ⟨rfl, ho⟩; obtain ⟨q0, q1, ha⟩ := box2_cells ho; have HA := Lib.hid ha; clear ho ha) | (go_at_call 66; refine (r6Maps_any _ _ _ hP1 hP2).mono ?_; rintro e w2 ⟨rfl, ho⟩; obtain ⟨q2, q3, hb⟩ := held2 ⟨q0, q1, HA.out⟩ ho; have HB := Lib.hid hb; clear ho hb q0 q1 HA))
    go_ret2
    exact ⟨rfl, Hid.out (by assumption)⟩
theorem Adds.any {S : Nat → Prop} {a b : World} (h : Adds a b) : Only S a b := h.mono (fun _ _ e => e.elim)
theorem heldMS2 {S : Nat → Prop} {w W w' : World} {b : Nat} {x y : Value} (hb : ¬ S b) (h : W.cell? ⟨b, 0, none⟩ = some x ∧ W.cell? ⟨b, 1, none⟩ = some y ∧ Only S w W) (ho : Only S W w') :
    w'.cell? ⟨b, 0, none⟩ = some x ∧ w'.cell? ⟨b, 1, none⟩ = some y ∧ Only S w w' :=
  ⟨(ho.cellF (p := ⟨b, 0, none⟩) (cell_lt h.1) hb).trans h.1, (ho.cellF (p := ⟨b, 1, none⟩) (cell_lt h.2.1) hb).trans h.2.1, h.2.2.trans ho⟩
theorem row_at {w : World} {base : Nat} {e : TypeId} {v : Value} {n : Nat} {xs : List Value} (h : w.ownsRow base e 1 v n xs) {k : Nat} {x : Value} (hk : k < n) (hx : xs[k]? = some x) :
    ∃ g cp, v = .slice (some ⟨g, 0, none⟩) n cp ∧ w.cell? ⟨g, k, none⟩ = some x := by
  obtain ⟨_, ⟨_, h1⟩ | ⟨g, cap, cur, h1, h2, h3, _, _, _, h5⟩⟩ := h
  · omega
  · have e1 : (cur.toList.take (n * 1))[k]? = some x := by rw [h5]; exact hx
    rw [List.getElem?_take_of_lt (by omega)] at e1
    exact ⟨g, cap, h1, by simpa [World.cell?, h3] using e1⟩
set_option maxHeartbeats 1000000 in
theorem playRead_any {w : World} {ab sb sm rb : Nat} {P T i : Int} {s : StoreS} (hY : Yard w ab sb sm rb P T s) (hi : s.inR i) :
    Calls Tryz.prog 18 #[.pointer (some ⟨ab, 0, none⟩), .int .i64 i] w fun e w' => e = .returned (.int .u64 (s.word i)) ∧ Adds w w' := by
  obtain ⟨hi0, hi1⟩ := id hi
  have hn := hY.st.fit.1
  have hpos : s.ws.length ≠ 0 := by omega
  have hx : s.ws[i.toNat]? = some (s.word i) := by
    have hlt : i.toNat < s.ws.length := by omega
    simp [StoreS.word, List.getElem?_eq_getElem hlt]
  obtain ⟨x, hxx⟩ : ∃ x, x = s.word i := ⟨_, rfl⟩
  rw [← hxx] at hx ⊢
  obtain ⟨k, rfl⟩ := Int.eq_ofNat_of_zero_le hi0
  rw [Int.toNat_natCast] at hx
  have HY := Lib.hid hY; have HX := Lib.hid hx
  obtain ⟨n, hnn⟩ : ∃ n, n = s.ws.length := ⟨_, rfl⟩
  have HN := Lib.hid hnn
  rw [← hnn] at hi1 hn hpos
  clear hY hi hx hxx hnn
  go_enter Tryz.func18, Tryz.ntmps18
  go_wp2_with (first
    | (go_at_call 32; refine (arenaStore_any HY.out.ar).mono ?_; rintro e w1 ⟨rfl, rfl⟩)
    | (go_at_call 37; refine (words_any _ _ _ _ HY.out.st).mono ?_; rintro e w2 ⟨v, rfl, hv, ho⟩; rw [← HN.out] at hv; obtain ⟨g, cp, rfl, hg⟩ := row_at hv (k := k) (x := .int .u64 x) (by omega) (by simp [HX.out]); have HO := Lib.hid ho; clear ho hv))
  go_ret
  exact ⟨rfl, HO.out⟩
end Go.Proofs.YthhnpcniijpfeaaGreat

/- The document's store: what each call does to it in memory, for every argument. By an AI agent. -/
import Derived.Test.YtffhoaimcjpjhaaGreatStoreMisc
namespace Go.Proofs.YtffhoaimcjpjhaaGreat
open Go.RowKit

/-- Block b is the document's store s, block m its words. -/
structure IsRef (w : World) (b m : Nat) (s : StoreS) : Prop where
  head : Blk w b (s.arr m) 108
  row : Blk w m (s.ws.map (Value.int .u64)).toArray 33
  ne : b ≠ m
  fit : s.fit
theorem IsRef.only {S : Nat → Prop} {w w' : World} {b m : Nat} {s : StoreS} (h : IsRef w b m s) (ho : Only S w w') (hb : ¬ S b) (hm : ¬ S m) : IsRef w' b m s :=
  ⟨h.head.only ho hb, h.row.only ho hm, h.ne, h.fit⟩
theorem IsRef.drewN {w : World} {b m : Nat} {s : StoreS} (h : IsRef w b m s) (n : Nat) : IsRef (w.drewN n) b m s := ⟨h.head, h.row, h.ne, h.fit⟩
theorem IsRef.alloc {w : World} {b m : Nat} {s : StoreS} (h : IsRef w b m s) (o : Obj) : IsRef (w.alloc o) b m s := ⟨h.head.alloc o, h.row.alloc o, h.ne, h.fit⟩
theorem IsRef.cells {w : World} {b m : Nat} {s : StoreS} (h : IsRef w b m s) :
    w.cell? ⟨b, 0, none⟩ = some (.slice (some ⟨m, 0, none⟩) s.ws.length s.ws.length) ∧ w.cell? ⟨b, 1, none⟩ = some (.int .i64 s.k) ∧ w.cell? ⟨b, 2, none⟩ = some (.int .i64 s.pos) ∧
    w.cell? ⟨b, 3, none⟩ = some (.int .u64 s.old) ∧ w.cell? ⟨b, 4, none⟩ = some (.int .u64 s.new) ∧ w.cell? ⟨b, 5, none⟩ = some (.int .i64 s.many) :=
  ⟨h.head.cell 0, h.head.cell 1, h.head.cell 2, h.head.cell 3, h.head.cell 4, h.head.cell 5⟩
theorem IsRef.wordCell {w : World} {b m : Nat} {s : StoreS} (h : IsRef w b m s) {i : Int} (hi : s.inR i) : w.cell? ⟨m, i.toNat, none⟩ = some (.int .u64 (s.word i)) := by
  rw [h.row.cell]
  obtain ⟨h0, h1⟩ := hi
  have hlt : i.toNat < s.ws.length := by omega
  simp [StoreS.word, List.getElem?_eq_getElem hlt]
theorem IsRef.lts {w : World} {b m : Nat} {s : StoreS} (h : IsRef w b m s) : b < w.heap.size ∧ m < w.heap.size := ⟨h.head.lt, h.row.lt⟩
theorem IsRef.accessed {w : World} {b m : Nat} {s : StoreS} (h : IsRef w b m s) {k i v : Int} (hv0 : 0 ≤ v) (hv1 : v < 18446744073709551616) :
    IsRef ((((((w.setCell ⟨m, i.toNat, none⟩ (.int .u64 v)).setCell ⟨b, 1, none⟩ (.int .i64 k)).setCell ⟨b, 2, none⟩ (.int .i64 i)).setCell ⟨b, 3, none⟩ (.int .u64 (s.word i))).setCell ⟨b, 4, none⟩ (.int .u64 v)).setCell ⟨b, 5, none⟩ (.int .i64 (wrap64 (s.many + 1)))) b m (s.acc k i v) := by
  have hbm := h.ne
  have h1 := (((((h.head.setCell_other hbm i.toNat (.int .u64 v)).setCell 1 (.int .i64 k)).setCell 2 (.int .i64 i)).setCell 3 (.int .u64 (s.word i))).setCell 4 (.int .u64 v)).setCell 5 (.int .i64 (wrap64 (s.many + 1)))
  have h2 := (((((h.row.setCell i.toNat (.int .u64 v)).setCell_other hbm.symm 1 (.int .i64 k)).setCell_other hbm.symm 2 (.int .i64 i)).setCell_other hbm.symm 3 (.int .u64 (s.word i))).setCell_other hbm.symm 4 (.int .u64 v)).setCell_other hbm.symm 5 (.int .i64 (wrap64 (s.many + 1)))
  refine ⟨?_, ?_, hbm, StoreS.acc_fit h.fit k i hv0 hv1⟩
  · have e : (s.acc k i v).arr m = (((((s.arr m).setIfInBounds 1 (.int .i64 k)).setIfInBounds 2 (.int .i64 i)).setIfInBounds 3 (.int .u64 (s.word i))).setIfInBounds 4 (.int .u64 v)).setIfInBounds 5 (.int .i64 (wrap64 (s.many + 1))) := by
      simp [StoreS.arr, StoreS.acc]
    rw [e]; exact h1
  · have e : ((s.acc k i v).ws.map (Value.int .u64)).toArray = (s.ws.map (Value.int .u64)).toArray.setIfInBounds i.toNat (.int .u64 v) := by
      simp [StoreS.acc]
    rw [e]; exact h2
set_option maxHeartbeats 1000000 in
theorem refTurn_any (b m : Nat) (k i v : Int) (s : StoreS) (w : World) (h : IsRef w b m s) (hi : s.inR i) (hv0 : 0 ≤ v) (hv1 : v < 18446744073709551616) :
    Calls Tryz.prog 103 #[.pointer (some ⟨b, 0, none⟩), .int .i64 k, .int .i64 i, .int .u64 v] w fun e w' => e = .returned (.int .u64 (s.word i)) ∧ IsRef w' b m (s.acc k i v) ∧ Only (SB b m) w w' := by
  have hfin := Lib.hid (h.accessed (k := k) (i := i) hv0 hv1)
  obtain ⟨hc0, hc1, hc2, hc3, hc4, hc5⟩ := h.cells
  have hx := h.wordCell hi
  have f1 := h.head.frozen 1
  have f2 := h.head.frozen 2
  have f3 := h.head.frozen 3
  have f4 := h.head.frozen 4
  have f5 := h.head.frozen 5
  have fm := h.row.frozen i.toNat
  have hbm := h.ne
  have hbm' : m ≠ b := hbm.symm
  have hn := h.fit.1
  obtain ⟨hi0, hi1⟩ := hi
  clear h
  go_enter Tryz.func103, Tryz.ntmps103
  go_wp2
  go_ret
  exact ⟨rfl, hfin.out, only_access _ _ _ _ _ _ _ _ _ _⟩
set_option maxHeartbeats 400000 in
theorem refThere_any (b m : Nat) (i : Int) (s : StoreS) (w : World) (h : IsRef w b m s) :
    Calls Tryz.prog 102 #[.pointer (some ⟨b, 0, none⟩), .int .i64 i] w fun e w' => e = .returned (.bool (decide (s.inR i))) ∧ w = w' := by
  have hc0 := h.cells.1
  obtain ⟨n, hn⟩ : ∃ n, n = s.ws.length := ⟨_, rfl⟩
  have hN := Lib.hid hn
  rw [← hn] at hc0
  have hr : decide (s.inR i) = (decide (0 ≤ i) && decide (i < n)) := by
    rw [Bool.eq_iff_iff]
    simp only [decide_eq_true_eq, Bool.and_eq_true]
    show (0 ≤ i ∧ i < (s.ws.length : Int)) ↔ _
    rw [hn]
  rw [hr]
  clear h hr hn
  by_cases h0 : 0 ≤ i
  · go_enter Tryz.func102, Tryz.ntmps102
    go_wp2
    go_ret
    exact ⟨by simp [h0], rfl⟩
  · have h0' : decide (0 ≤ i) = false := by simpa using h0
    go_enter Tryz.func102, Tryz.ntmps102
    go_wp2
    go_ret
    exact ⟨by simp [h0], rfl⟩
set_option maxHeartbeats 1000000 in
theorem refLoad_in (b m : Nat) (i : Int) (s : StoreS) (w : World) (h : IsRef w b m s) (hi : s.inR i) :
    Calls Tryz.prog 222 #[.pointer (some ⟨b, 0, none⟩), .int .i64 i] w fun e w' => e = .returned (.tuple #[.int .u64 (s.word i), .int .i64 0]) ∧ IsRef w' b m (s.acc 1 i (s.word i)) ∧ Only (SB b m) w w' := by
  have hc0 := h.cells.1
  have hx := h.wordCell hi
  have hn := h.fit.1
  have hw := StoreS.word_bd h.fit i
  have hth := refThere_any b m i s w h
  rw [decide_eq_true hi] at hth
  obtain ⟨hi0, hi1⟩ := id hi
  go_enter Tryz.func222, Tryz.ntmps222
  go_wp2_with (first
    | (go_at_call 102; refine hth.mono ?_; rintro e w' ⟨rfl, rfl⟩)
    | (go_at_call 103; refine (refTurn_any b m _ _ _ s _ h hi hw.1 hw.2).mono ?_; rintro e w' ⟨rfl, hs, ho⟩))
  go_ret2
  exact ⟨rfl, by assumption, by assumption⟩
set_option maxHeartbeats 1000000 in
theorem refPut_in (b m : Nat) (i v : Int) (s : StoreS) (w : World) (h : IsRef w b m s) (hi : s.inR i) (hv0 : 0 ≤ v) (hv1 : v < 18446744073709551616) :
    Calls Tryz.prog 50 #[.pointer (some ⟨b, 0, none⟩), .int .i64 i, .int .u64 v] w fun e w' => e = .returned (.int .i64 0) ∧ IsRef w' b m (s.acc 2 i v) ∧ Only (SB b m) w w' := by
  have hth := refThere_any b m i s w h
  rw [decide_eq_true hi] at hth
  go_enter Tryz.func50, Tryz.ntmps50
  go_wp2_with (first
    | (go_at_call 102; refine hth.mono ?_; rintro e w' ⟨rfl, rfl⟩)
    | (go_at_call 103; refine (refTurn_any b m _ _ _ s _ h hi hv0 hv1).mono ?_; rintro e w' ⟨rfl, hs, ho⟩))
  go_ret
  exact ⟨rfl, by assumption, by assumption⟩
set_option maxHeartbeats 1000000 in
theorem refCas_win (b m : Nat) (i o v : Int) (s : StoreS) (w : World) (h : IsRef w b m s) (hi : s.inR i) (hne : (s.word i != o) = false) (hv0 : 0 ≤ v) (hv1 : v < 18446744073709551616) :
    Calls Tryz.prog 224 #[.pointer (some ⟨b, 0, none⟩), .int .i64 i, .int .u64 o, .int .u64 v] w fun e w' => e = .returned (.tuple #[.int .u64 (s.word i), .int .i64 0]) ∧ IsRef w' b m (s.acc 3 i v) ∧ Only (SB b m) w w' := by
  have hc0 := h.cells.1
  have hx := h.wordCell hi
  have hn := h.fit.1
  have hth := refThere_any b m i s w h
  rw [decide_eq_true hi] at hth
  obtain ⟨hi0, hi1⟩ := id hi
  go_enter Tryz.func224, Tryz.ntmps224
  go_wp2_with (first
    | (go_at_call 102; refine hth.mono ?_; rintro e w' ⟨rfl, rfl⟩)
    | (go_at_call 103; refine (refTurn_any b m _ _ _ s _ h hi hv0 hv1).mono ?_; rintro e w' ⟨rfl, hs, ho⟩))
  go_ret2
  exact ⟨rfl, by assumption, by assumption⟩
set_option maxHeartbeats 1000000 in
theorem refCas_lost (b m : Nat) (i o v : Int) (s : StoreS) (w : World) (h : IsRef w b m s) (hi : s.inR i) (hne : (s.word i != o) = true) :
    Calls Tryz.prog 224 #[.pointer (some ⟨b, 0, none⟩), .int .i64 i, .int .u64 o, .int .u64 v] w fun e w' => e = .returned (.tuple #[.int .u64 (s.word i), .int .i64 5]) ∧ IsRef w' b m (s.acc 4 i (s.word i)) ∧ Only (SB b m) w w' := by
  have hc0 := h.cells.1
  have hx := h.wordCell hi
  have hn := h.fit.1
  have hw := StoreS.word_bd h.fit i
  have hth := refThere_any b m i s w h
  rw [decide_eq_true hi] at hth
  obtain ⟨hi0, hi1⟩ := id hi
  go_enter Tryz.func224, Tryz.ntmps224
  go_wp2_with (first
    | (go_at_call 102; refine hth.mono ?_; rintro e w' ⟨rfl, rfl⟩)
    | (go_at_call 103; refine (refTurn_any b m _ _ _ s _ h hi hw.1 hw.2).mono ?_; rintro e w' ⟨rfl, hs, ho⟩))
  go_ret2
  exact ⟨rfl, by assumption, by assumption⟩
set_option maxHeartbeats 1000000 in
theorem refAdd_in (b m : Nat) (i v : Int) (s : StoreS) (w : World) (h : IsRef w b m s) (hi : s.inR i) :
    Calls Tryz.prog 230 #[.pointer (some ⟨b, 0, none⟩), .int .i64 i, .int .u64 v] w fun e w' => e = .returned (.tuple #[.int .u64 (s.word i), .int .i64 0]) ∧ IsRef w' b m (s.acc 5 i ((s.word i + v) % 18446744073709551616)) ∧ Only (SB b m) w w' := by
  have hc0 := h.cells.1
  have hx := h.wordCell hi
  have hn := h.fit.1
  have hth := refThere_any b m i s w h
  rw [decide_eq_true hi] at hth
  obtain ⟨hi0, hi1⟩ := id hi
  have hv0 : 0 ≤ (s.word i + v) % 18446744073709551616 := by omega
  have hv1 : (s.word i + v) % 18446744073709551616 < 18446744073709551616 := by omega
  go_enter Tryz.func230, Tryz.ntmps230
  go_wp2_with (first
    | (go_at_call 102; refine hth.mono ?_; rintro e w' ⟨rfl, rfl⟩)
    | (go_at_call 103; refine (refTurn_any b m _ _ _ s _ h hi hv0 hv1).mono ?_; rintro e w' ⟨rfl, hs, ho⟩))
  go_ret2
  exact ⟨rfl, by assumption, by assumption⟩
section
variable (b m : Nat) (i o v : Int) (s : StoreS) (w : World) (h : IsRef w b m s) (hi : ¬ s.inR i)
include h hi
set_option maxHeartbeats 400000 in
theorem refLoad_out : Calls Tryz.prog 222 #[.pointer (some ⟨b, 0, none⟩), .int .i64 i] w fun e w' => e = .returned (.tuple #[.int .u64 0, .int .i64 1]) ∧ w = w' := by
  have hth := refThere_any b m i s w h
  rw [decide_eq_false hi] at hth
  go_enter Tryz.func222, Tryz.ntmps222
  go_wp2_with (go_at_call 102; refine hth.mono ?_; rintro e w' ⟨rfl, rfl⟩)
  go_ret2
  exact ⟨rfl, rfl⟩
set_option maxHeartbeats 400000 in
theorem refPut_out : Calls Tryz.prog 50 #[.pointer (some ⟨b, 0, none⟩), .int .i64 i, .int .u64 v] w fun e w' => e = .returned (.int .i64 1) ∧ w = w' := by
  have hth := refThere_any b m i s w h
  rw [decide_eq_false hi] at hth
  go_enter Tryz.func50, Tryz.ntmps50
  go_wp2_with (go_at_call 102; refine hth.mono ?_; rintro e w' ⟨rfl, rfl⟩)
  go_ret
  exact ⟨rfl, rfl⟩
set_option maxHeartbeats 400000 in
theorem refCas_out : Calls Tryz.prog 224 #[.pointer (some ⟨b, 0, none⟩), .int .i64 i, .int .u64 o, .int .u64 v] w fun e w' => e = .returned (.tuple #[.int .u64 0, .int .i64 1]) ∧ w = w' := by
  have hth := refThere_any b m i s w h
  rw [decide_eq_false hi] at hth
  go_enter Tryz.func224, Tryz.ntmps224
  go_wp2_with (go_at_call 102; refine hth.mono ?_; rintro e w' ⟨rfl, rfl⟩)
  go_ret2
  exact ⟨rfl, rfl⟩
set_option maxHeartbeats 400000 in
theorem refAdd_out : Calls Tryz.prog 230 #[.pointer (some ⟨b, 0, none⟩), .int .i64 i, .int .u64 v] w fun e w' => e = .returned (.tuple #[.int .u64 0, .int .i64 1]) ∧ w = w' := by
  have hth := refThere_any b m i s w h
  rw [decide_eq_false hi] at hth
  go_enter Tryz.func230, Tryz.ntmps230
  go_wp2_with (go_at_call 102; refine hth.mono ?_; rintro e w' ⟨rfl, rfl⟩)
  go_ret2
  exact ⟨rfl, rfl⟩
end
set_option maxRecDepth 100000 in
set_option maxHeartbeats 1000000 in
theorem refNew_ok (n' : Int) (w : World) (h1' : 1 ≤ n') (h2' : n' ≤ 65536) :
    Calls Tryz.prog 97 #[.int .i64 n'] w fun e w' => e = .returned (.pointer (some ⟨w.heap.size + 1, 0, none⟩)) ∧ IsRef w' (w.heap.size + 1) w.heap.size (StoreS.fresh n'.toNat) ∧ Only (fun _ => False) w w' ∧ w'.heap.size = w.heap.size + 2 := by
  obtain ⟨n, rfl⟩ := Int.eq_ofNat_of_zero_le (show 0 ≤ n' by omega)
  rw [Int.toNat_natCast]
  have h1 : 1 ≤ n := by omega
  have h2 : n ≤ 65536 := by omega
  clear h1' h2'
  obtain ⟨i0, hi, hz0, hz1, hz2⟩ := info_parts infoU64
  have hmk := fun W => run_make (P := Tryz.prog) W 56 33 i0 (.int .u64 0) Tryz.underlying56 hi hz0 .i64 .i64 (n : Int) (n : Int) (by omega) (by omega) (by rw [hz2]; omega) (by omega)
  simp only [Int.toNat_natCast, hz1] at hmk
  go_enter Tryz.func97, Tryz.ntmps97
  go_wp2
  go_ret
  refine ⟨rfl, ⟨?_, ?_, by omega, StoreS.fresh_fit h2⟩, ((Only.refl _ _).alloc _).alloc _, by simp⟩
  · have := Blk.new (w.alloc (.cells (madeCells #[Value.int .u64 0] n) 33)) ((StoreS.fresh n).arr w.heap.size) 108
    rw [World.size_alloc] at this
    simpa [StoreS.arr, StoreS.fresh] using this
  · have := (Blk.new w (madeCells #[Value.int .u64 0] n) 33).alloc (.cells ((StoreS.fresh n).arr w.heap.size) 108)
    rw [madeCells_u64] at this ⊢
    simpa [StoreS.arr, StoreS.fresh] using this
end Go.Proofs.YtffhoaimcjpjhaaGreat

/- The document's store: what each call does to it in memory, for every argument. By an AI agent. -/
import Derived.Test.YtbijbpnhakbeeaaStoreMisc
namespace Go.Proofs.Ytbijbpnhakbeeaa
open Go.RowKit

/-- Block b is the document's store s, block m its words. -/
structure IsRef (w : World) (b m : Nat) (s : StoreS) : Prop where
  head : Blk w b (s.arr m) 47
  row : Blk w m (s.ws.map (Value.int .u64)).toArray 43
  ne : b ≠ m
  fit : s.fit
theorem IsRef.only {S : Nat → Prop} {w w' : World} {b m : Nat} {s : StoreS} (h : IsRef w b m s) (ho : Only S w w') (hb : ¬ S b) (hm : ¬ S m) : IsRef w' b m s :=
  ⟨h.head.only ho hb, h.row.only ho hm, h.ne, h.fit⟩
theorem IsRef.drewN {w : World} {b m : Nat} {s : StoreS} (h : IsRef w b m s) (n : Nat) : IsRef (w.drewN n) b m s := ⟨h.head, h.row, h.ne, h.fit⟩
theorem IsRef.alloc {w : World} {b m : Nat} {s : StoreS} (h : IsRef w b m s) (o : Obj) : IsRef (w.alloc o) b m s := ⟨h.head.alloc o, h.row.alloc o, h.ne, h.fit⟩
theorem IsRef.cells {w : World} {b m : Nat} {s : StoreS} (h : IsRef w b m s) :
    w.cell? ⟨b, 0, none⟩ = some (.slice (some ⟨m, 0, none⟩) s.ws.length s.ws.length) ∧ w.cell? ⟨b, 1, none⟩ = some (.int .i64 s.k) ∧ w.cell? ⟨b, 2, none⟩ = some (.int .i64 s.pos) ∧
    w.cell? ⟨b, 3, none⟩ = some (.int .u64 s.old) ∧ w.cell? ⟨b, 4, none⟩ = some (.int .u64 s.new) ∧ w.cell? ⟨b, 5, none⟩ = some (.int .i64 s.many) :=
  ⟨h.head.cell 0, h.head.cell 1, h.head.cell 2, h.head.cell 3, h.head.cell 4, h.head.cell 5⟩
theorem IsRef.wordCell {w : World} {b m : Nat} {s : StoreS} (h : IsRef w b m s) {i : Int} (hi : s.inR i) : w.cell? ⟨m, i.toNat, none⟩ = some (.int .u64 (s.word i)) := by
  rw [h.row.cell]
  obtain ⟨h0, h1⟩ := hi
  have hlt : i.toNat < s.ws.length := by omega
  simp [StoreS.word, List.getElem?_eq_getElem hlt]
theorem IsRef.lts {w : World} {b m : Nat} {s : StoreS} (h : IsRef w b m s) : b < w.heap.size ∧ m < w.heap.size := ⟨h.head.lt, h.row.lt⟩
theorem IsRef.accessed {w : World} {b m : Nat} {s : StoreS} (h : IsRef w b m s) {k i v : Int} (hv0 : 0 ≤ v) (hv1 : v < 18446744073709551616) :
    IsRef ((((((w.setCell ⟨m, i.toNat, none⟩ (.int .u64 v)).setCell ⟨b, 1, none⟩ (.int .i64 k)).setCell ⟨b, 2, none⟩ (.int .i64 i)).setCell ⟨b, 3, none⟩ (.int .u64 (s.word i))).setCell ⟨b, 4, none⟩ (.int .u64 v)).setCell ⟨b, 5, none⟩ (.int .i64 (wrap64 (s.many + 1)))) b m (s.acc k i v) := by
  have hbm := h.ne
  have h1 := (((((h.head.setCell_other hbm i.toNat (.int .u64 v)).setCell 1 (.int .i64 k)).setCell 2 (.int .i64 i)).setCell 3 (.int .u64 (s.word i))).setCell 4 (.int .u64 v)).setCell 5 (.int .i64 (wrap64 (s.many + 1)))
  have h2 := (((((h.row.setCell i.toNat (.int .u64 v)).setCell_other hbm.symm 1 (.int .i64 k)).setCell_other hbm.symm 2 (.int .i64 i)).setCell_other hbm.symm 3 (.int .u64 (s.word i))).setCell_other hbm.symm 4 (.int .u64 v)).setCell_other hbm.symm 5 (.int .i64 (wrap64 (s.many + 1)))
  refine ⟨?_, ?_, hbm, StoreS.acc_fit h.fit k i hv0 hv1⟩
  · have e : (s.acc k i v).arr m = (((((s.arr m).setIfInBounds 1 (.int .i64 k)).setIfInBounds 2 (.int .i64 i)).setIfInBounds 3 (.int .u64 (s.word i))).setIfInBounds 4 (.int .u64 v)).setIfInBounds 5 (.int .i64 (wrap64 (s.many + 1))) := by
      simp [StoreS.arr, StoreS.acc]
    rw [e]; exact h1
  · have e : ((s.acc k i v).ws.map (Value.int .u64)).toArray = (s.ws.map (Value.int .u64)).toArray.setIfInBounds i.toNat (.int .u64 v) := by
      simp [StoreS.acc]
    rw [e]; exact h2
section
variable (b m : Nat) (i o v : Int) (s : StoreS) (w : World) (h : IsRef w b m s) (hi : ¬ s.inR i)
include h hi
end
set_option maxRecDepth 100000 in
set_option maxHeartbeats 1000000 in
theorem refNew_ok (n' : Int) (w : World) (h1' : 1 ≤ n') (h2' : n' ≤ 65536) :
    Calls Try.prog 51 #[.int .i64 n'] w fun e w' => e = .returned (.pointer (some ⟨w.heap.size + 1, 0, none⟩)) ∧ IsRef w' (w.heap.size + 1) w.heap.size (StoreS.fresh n'.toNat) ∧ Only (fun _ => False) w w' ∧ w'.heap.size = w.heap.size + 2 := by
  obtain ⟨n, rfl⟩ := Int.eq_ofNat_of_zero_le (show 0 ≤ n' by omega)
  rw [Int.toNat_natCast]
  have h1 : 1 ≤ n := by omega
  have h2 : n ≤ 65536 := by omega
  clear h1' h2'
  obtain ⟨i0, hi, hz0, hz1, hz2⟩ := info_parts infoU64
  have hmk := fun W => run_make (P := Try.prog) W 39 43 i0 (.int .u64 0) Try.underlying39 hi hz0 .i64 .i64 (n : Int) (n : Int) (by omega) (by omega) (by rw [hz2]; omega) (by omega)
  simp only [Int.toNat_natCast, hz1] at hmk
  go_enter Try.func51, Try.ntmps51
  go_wp2
  go_ret
  refine ⟨rfl, ⟨?_, ?_, by omega, StoreS.fresh_fit h2⟩, ((Only.refl _ _).alloc _).alloc _, by simp⟩
  · have := Blk.new (w.alloc (.cells (madeCells #[Value.int .u64 0] n) 43)) ((StoreS.fresh n).arr w.heap.size) 47
    rw [World.size_alloc] at this
    simpa [StoreS.arr, StoreS.fresh] using this
  · have := (Blk.new w (madeCells #[Value.int .u64 0] n) 43).alloc (.cells ((StoreS.fresh n).arr w.heap.size) 47)
    rw [madeCells_u64] at this ⊢
    simpa [StoreS.arr, StoreS.fresh] using this
end Go.Proofs.Ytbijbpnhakbeeaa

/- Package store: New, Last, Count, Len, Words, Peek. By an AI agent. -/
import Derived.Test.YtabpniceedjooaaStoreOps
namespace Go.Proofs.Ytabpniceedjooaa
open Go.RowKit
theorem infoU64 : (Try.prog.info? 36).map (fun i => (i.zero, i.size, i.bytes)) = some (some (.int .u64 0), 1, 8) := by kernel_rfl

theorem madeCells_u64 (n : Nat) : madeCells #[Value.int .u64 0] n = ((List.replicate n (0 : Int)).map (Value.int .u64)).toArray := by
  apply Array.ext'
  rw [toList_madeCells_one]
  simp

def StoreS.fresh (n : Nat) : StoreS := ⟨List.replicate n 0, 0, 0, 0, 0, 0⟩
theorem StoreS.fresh_inR {n i : Int} (h0 : 0 ≤ i) (h1 : i < n) : (StoreS.fresh n.toNat).inR i := by
  refine ⟨h0, ?_⟩
  simp only [fresh, List.length_replicate]
  omega
theorem StoreS.fresh_fit {n : Nat} (h : n ≤ 65536) : (StoreS.fresh n).fit :=
  ⟨by simpa [fresh] using h, fun x hx => by
    have : x = 0 := (List.mem_replicate.1 hx).2
    omega⟩

set_option maxRecDepth 100000 in
set_option maxHeartbeats 400000 in
theorem storeNew_ok (n' : Int) (w : World) (h1' : 1 ≤ n') (h2' : n' ≤ 65536) :
    Calls Try.prog 43 #[.int .i64 n'] w fun e w' => e = .returned (.pointer (some ⟨w.heap.size + 1, 0, none⟩)) ∧ IsStore w' (w.heap.size + 1) w.heap.size (StoreS.fresh n'.toNat) ∧ Only (fun _ => False) w w' ∧ w'.heap.size = w.heap.size + 2 := by
  obtain ⟨n, rfl⟩ := Int.eq_ofNat_of_zero_le (show 0 ≤ n' by omega)
  rw [Int.toNat_natCast]
  have h1 : 1 ≤ n := by omega
  have h2 : n ≤ 65536 := by omega
  clear h1' h2'
  obtain ⟨i0, hi, hz0, hz1, hz2⟩ := info_parts infoU64
  have hmk := fun W => run_make (P := Try.prog) W 49 36 i0 (.int .u64 0) Try.underlying49 hi hz0 .i64 .i64 (n : Int) (n : Int) (by omega) (by omega) (by rw [hz2]; omega) (by omega)
  simp only [Int.toNat_natCast, hz1] at hmk
  go_enter Try.func43, Try.ntmps43
  go_wp2
  go_ret
  refine ⟨rfl, ⟨?_, ?_, by omega, StoreS.fresh_fit h2⟩, ((Only.refl _ _).alloc _).alloc _, by simp⟩
  · have := Blk.new (w.alloc (.cells (madeCells #[Value.int .u64 0] n) 36)) ((StoreS.fresh n).arr w.heap.size) 79
    rw [World.size_alloc] at this
    simpa [StoreS.arr, StoreS.fresh] using this
  · have := (Blk.new w (madeCells #[Value.int .u64 0] n) 36).alloc (.cells ((StoreS.fresh n).arr w.heap.size) 79)
    rw [madeCells_u64] at this ⊢
    simpa [StoreS.arr, StoreS.fresh] using this
set_option maxHeartbeats 400000 in
theorem storeNew_no (n : Int) (w : World) (h : n < 1 ∨ 65536 < n) :
    Calls Try.prog 43 #[.int .i64 n] w fun e w' => e = .returned (.pointer none) ∧ w = w' := by
  rcases h with h | h
  · go_enter Try.func43, Try.ntmps43
    go_wp2
    go_ret
    exact ⟨rfl, rfl⟩
  · have h' : 1 ≤ n := by omega
    go_enter Try.func43, Try.ntmps43
    go_wp2
    go_ret
    exact ⟨rfl, rfl⟩
set_option maxHeartbeats 400000 in
theorem last_any (b m : Nat) (s : StoreS) (w : World) (h : IsStore w b m s) :
    Calls Try.prog 53 #[.pointer (some ⟨b, 0, none⟩)] w fun e w' => e = .returned (.agg #[.int .i64 s.k, .int .i64 s.pos, .int .u64 s.old, .int .u64 s.new]) ∧ Only (fun _ => False) w w' := by
  obtain ⟨hc0, hc1, hc2, hc3, hc4, hc5⟩ := h.cells
  have hlt := h.head.lt
  go_enter Try.func53, Try.ntmps53
  go_wp2
  exact bodyPost_ret (v := .agg #[.int .i64 s.k, .int .i64 s.pos, .int .u64 s.old, .int .u64 s.new]) (by simp [results, Try.results53, go_sem]) rfl ⟨rfl, (Only.refl _ _).alloc _⟩
set_option maxHeartbeats 400000 in
theorem last_nil (w : World) :
    Calls Try.prog 53 #[.pointer none] w fun e w' => e = .returned (.agg #[.int .i64 0, .int .i64 0, .int .u64 0, .int .u64 0]) ∧ Only (fun _ => False) w w' := by
  go_enter Try.func53, Try.ntmps53
  go_wp2
  exact bodyPost_ret (v := .agg #[.int .i64 0, .int .i64 0, .int .u64 0, .int .u64 0]) (by simp [results, Try.results53, go_sem]) rfl ⟨rfl, (Only.refl _ _).alloc _⟩
set_option maxHeartbeats 400000 in
theorem count_any (b m : Nat) (s : StoreS) (w : World) (h : IsStore w b m s) :
    Calls Try.prog 23 #[.pointer (some ⟨b, 0, none⟩)] w fun e w' => e = .returned (.int .i64 s.many) ∧ w = w' := by
  obtain ⟨hc0, hc1, hc2, hc3, hc4, hc5⟩ := h.cells
  go_enter Try.func23, Try.ntmps23
  go_wp2
  go_ret
  exact ⟨rfl, rfl⟩
set_option maxHeartbeats 400000 in
theorem count_nil (w : World) : Calls Try.prog 23 #[.pointer none] w fun e w' => e = .returned (.int .i64 0) ∧ w = w' := by
  go_enter Try.func23, Try.ntmps23
  go_wp2
  go_ret
  exact ⟨rfl, rfl⟩
set_option maxHeartbeats 400000 in
theorem peek_in (b m : Nat) (i : Int) (s : StoreS) (w : World) (h : IsStore w b m s) (hi : s.inR i) :
    Calls Try.prog 34 #[.pointer (some ⟨b, 0, none⟩), .int .i64 i] w fun e w' => e = .returned (.int .u64 (s.word i)) ∧ w = w' := by
  have hc0 := h.cells.1
  have hx := h.wordCell hi
  have hn := h.fit.1
  have hi' := hi
  obtain ⟨hi0, hi1⟩ := hi'
  go_enter Try.func34, Try.ntmps34
  go_wp2_with (go_at_call 44; refine (check_in b m _ s _ h hi).mono ?_; rintro e w' ⟨rfl, rfl⟩)
  go_ret
  exact ⟨rfl, rfl⟩
set_option maxHeartbeats 400000 in
theorem peek_out (b m : Nat) (i : Int) (s : StoreS) (w : World) (h : IsStore w b m s) (hi : ¬ s.inR i) :
    Calls Try.prog 34 #[.pointer (some ⟨b, 0, none⟩), .int .i64 i] w fun e w' => e = .returned (.int .u64 0) ∧ w = w' := by
  go_enter Try.func34, Try.ntmps34
  go_wp2_with (go_at_call 44; refine (check_out b m _ s _ h hi).mono ?_; rintro e w' ⟨rfl, rfl⟩)
  go_ret
  exact ⟨rfl, rfl⟩
set_option maxHeartbeats 400000 in
theorem peek_nil (i : Int) (w : World) :
    Calls Try.prog 34 #[.pointer none, .int .i64 i] w fun e w' => e = .returned (.int .u64 0) ∧ w = w' := by
  go_enter Try.func34, Try.ntmps34
  go_wp2_with (go_at_call 44; refine (check_nil _ _).mono ?_; rintro e w' ⟨rfl, rfl⟩)
  go_ret
  exact ⟨rfl, rfl⟩
theorem row_cells {w : World} {b m : Nat} {s : StoreS} (h : IsStore w b m s) : ∀ j u, (s.ws.map (Value.int .u64))[j]? = some u → w.cell? ((⟨m, 0, none⟩ : Addr).add j) = some u := by
  intro j u hj
  have : (⟨m, 0, none⟩ : Addr).add j = ⟨m, j, none⟩ := by unfold Addr.add; split <;> simp_all
  rw [this, h.row.cell]
  simpa using hj
end Go.Proofs.Ytabpniceedjooaa

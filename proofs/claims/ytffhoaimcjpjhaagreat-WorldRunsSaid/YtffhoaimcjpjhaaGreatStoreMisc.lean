/- Package store: New, Last, Count, Len, Words, Peek. By an AI agent. -/
import Derived.Test.YtffhoaimcjpjhaaGreatStoreOps
namespace Go.Proofs.YtffhoaimcjpjhaaGreat
open Go.RowKit
theorem infoU64 : (Tryz.prog.info? 33).map (fun i => (i.zero, i.size, i.bytes)) = some (some (.int .u64 0), 1, 8) := by kernel_rfl

theorem madeCells_u64 (n : Nat) : madeCells #[Value.int .u64 0] n = ((List.replicate n (0 : Int)).map (Value.int .u64)).toArray := by
  apply Array.ext'
  rw [toList_madeCells_one]
  simp

def StoreS.fresh (n : Nat) : StoreS := ⟨List.replicate n 0, 0, 0, 0, 0, 0⟩
theorem StoreS.fresh_inR {n i : Int} (h0 : 0 ≤ i) (h1 : i < n) : (StoreS.fresh n.toNat).inR i := by
  refine ⟨h0, ?_⟩
  simp only [fresh, List.length_replicate]
  omega
theorem StoreS.fresh_fit {n : Nat} (h : n ≤ 65536) : (StoreS.fresh n).fit :=
  ⟨by simpa [fresh] using h, fun x hx => by
    have : x = 0 := (List.mem_replicate.1 hx).2
    omega⟩

set_option maxRecDepth 100000 in
set_option maxHeartbeats 400000 in
theorem storeNew_ok (n' : Int) (w : World) (h1' : 1 ≤ n') (h2' : n' ≤ 65536) :
    Calls Tryz.prog 148 #[.int .i64 n'] w fun e w' => e = .returned (.pointer (some ⟨w.heap.size + 1, 0, none⟩)) ∧ IsStore w' (w.heap.size + 1) w.heap.size (StoreS.fresh n'.toNat) ∧ Only (fun _ => False) w w' ∧ w'.heap.size = w.heap.size + 2 := by
  obtain ⟨n, rfl⟩ := Int.eq_ofNat_of_zero_le (show 0 ≤ n' by omega)
  rw [Int.toNat_natCast]
  have h1 : 1 ≤ n := by omega
  have h2 : n ≤ 65536 := by omega
  clear h1' h2'
  obtain ⟨i0, hi, hz0, hz1, hz2⟩ := info_parts infoU64
  have hmk := fun W => run_make (P := Tryz.prog) W 56 33 i0 (.int .u64 0) Tryz.underlying56 hi hz0 .i64 .i64 (n : Int) (n : Int) (by omega) (by omega) (by rw [hz2]; omega) (by omega)
  simp only [Int.toNat_natCast, hz1] at hmk
  go_enter Tryz.func148, Tryz.ntmps148
  go_wp2
  go_ret
  refine ⟨rfl, ⟨?_, ?_, by omega, StoreS.fresh_fit h2⟩, ((Only.refl _ _).alloc _).alloc _, by simp⟩
  · have := Blk.new (w.alloc (.cells (madeCells #[Value.int .u64 0] n) 33)) ((StoreS.fresh n).arr w.heap.size) 186
    rw [World.size_alloc] at this
    simpa [StoreS.arr, StoreS.fresh] using this
  · have := (Blk.new w (madeCells #[Value.int .u64 0] n) 33).alloc (.cells ((StoreS.fresh n).arr w.heap.size) 186)
    rw [madeCells_u64] at this ⊢
    simpa [StoreS.arr, StoreS.fresh] using this
set_option maxHeartbeats 400000 in
theorem storeNew_no (n : Int) (w : World) (h : n < 1 ∨ 65536 < n) :
    Calls Tryz.prog 148 #[.int .i64 n] w fun e w' => e = .returned (.pointer none) ∧ w = w' := by
  rcases h with h | h
  · go_enter Tryz.func148, Tryz.ntmps148
    go_wp2
    go_ret
    exact ⟨rfl, rfl⟩
  · have h' : 1 ≤ n := by omega
    go_enter Tryz.func148, Tryz.ntmps148
    go_wp2
    go_ret
    exact ⟨rfl, rfl⟩
set_option maxHeartbeats 400000 in
theorem last_any (b m : Nat) (s : StoreS) (w : World) (h : IsStore w b m s) :
    Calls Tryz.prog 162 #[.pointer (some ⟨b, 0, none⟩)] w fun e w' => e = .returned (.agg #[.int .i64 s.k, .int .i64 s.pos, .int .u64 s.old, .int .u64 s.new]) ∧ Only (fun _ => False) w w' := by
  obtain ⟨hc0, hc1, hc2, hc3, hc4, hc5⟩ := h.cells
  have hlt := h.head.lt
  go_enter Tryz.func162, Tryz.ntmps162
  go_wp2
  exact bodyPost_ret (v := .agg #[.int .i64 s.k, .int .i64 s.pos, .int .u64 s.old, .int .u64 s.new]) (by simp [results, Tryz.results162, go_sem]) rfl ⟨rfl, (Only.refl _ _).alloc _⟩
set_option maxHeartbeats 400000 in
theorem last_nil (w : World) :
    Calls Tryz.prog 162 #[.pointer none] w fun e w' => e = .returned (.agg #[.int .i64 0, .int .i64 0, .int .u64 0, .int .u64 0]) ∧ Only (fun _ => False) w w' := by
  go_enter Tryz.func162, Tryz.ntmps162
  go_wp2
  exact bodyPost_ret (v := .agg #[.int .i64 0, .int .i64 0, .int .u64 0, .int .u64 0]) (by simp [results, Tryz.results162, go_sem]) rfl ⟨rfl, (Only.refl _ _).alloc _⟩
set_option maxHeartbeats 400000 in
theorem peek_in (b m : Nat) (i : Int) (s : StoreS) (w : World) (h : IsStore w b m s) (hi : s.inR i) :
    Calls Tryz.prog 78 #[.pointer (some ⟨b, 0, none⟩), .int .i64 i] w fun e w' => e = .returned (.int .u64 (s.word i)) ∧ w = w' := by
  have hc0 := h.cells.1
  have hx := h.wordCell hi
  have hn := h.fit.1
  have hi' := hi
  obtain ⟨hi0, hi1⟩ := hi'
  go_enter Tryz.func78, Tryz.ntmps78
  go_wp2_with (go_at_call 100; refine (check_in b m _ s _ h hi).mono ?_; rintro e w' ⟨rfl, rfl⟩)
  go_ret
  exact ⟨rfl, rfl⟩
set_option maxHeartbeats 400000 in
theorem peek_out (b m : Nat) (i : Int) (s : StoreS) (w : World) (h : IsStore w b m s) (hi : ¬ s.inR i) :
    Calls Tryz.prog 78 #[.pointer (some ⟨b, 0, none⟩), .int .i64 i] w fun e w' => e = .returned (.int .u64 0) ∧ w = w' := by
  go_enter Tryz.func78, Tryz.ntmps78
  go_wp2_with (go_at_call 100; refine (check_out b m _ s _ h hi).mono ?_; rintro e w' ⟨rfl, rfl⟩)
  go_ret
  exact ⟨rfl, rfl⟩
set_option maxHeartbeats 400000 in
theorem peek_nil (i : Int) (w : World) :
    Calls Tryz.prog 78 #[.pointer none, .int .i64 i] w fun e w' => e = .returned (.int .u64 0) ∧ w = w' := by
  go_enter Tryz.func78, Tryz.ntmps78
  go_wp2_with (go_at_call 100; refine (check_nil _ _).mono ?_; rintro e w' ⟨rfl, rfl⟩)
  go_ret
  exact ⟨rfl, rfl⟩
set_option maxHeartbeats 400000 in
theorem cloneU64_any (m n c : Nat) (xs : List Value) (w : World) (hx : xs.length = n * 1) (hn : n ≤ 65536) (hc : ∀ j u, xs[j]? = some u → w.cell? ((⟨m, 0, none⟩ : Addr).add j) = some u) (hm : m < w.heap.size) (h1 : ∀ u ∈ xs, u.oneCell' = true) :
    Calls Tryz.prog 135 #[.slice (some ⟨m, 0, none⟩) n c] w fun e w' => ∃ v, e = .returned v ∧ w'.ownsRow w.heap.size 33 1 v n xs ∧ Only (fun _ => False) w w' := by
  have he := fun W => Lib.run_eql_slice_nil (P := Tryz.prog) W 56 33 (some ⟨m, 0, none⟩) n c 0 0 Tryz.underlying56
  obtain ⟨i0, hi, hz0, hz1, hz2⟩ := info_parts infoU64
  have hown := World.ownsRow_made (base := w.heap.size) (e := 33) (size := 1) w #[] 0 (Nat.le_refl _) (by unfold maxLen; omega) rfl
  have hc' : ∀ j u, xs[j]? = some u → (w.alloc (Obj.cells #[] 33)).cell? ((⟨m, 0, none⟩ : Addr).add j) = some u := fun j u hj => by
    rw [World.cell?_alloc_lt _ _ _ (by unfold Addr.add; split <;> exact hm)]; exact hc j u hj
  have HC := Lib.hid hc'
  have HX := Lib.hid hx
  clear hc hc' hx
  go_enter Tryz.func135, Tryz.ntmps135
  go_wp2_with (at_builtin; refine wpList_append_own _ rfl _ _ 56 rfl w.heap.size 33 i0 (.int .u64 0) 1 8 Tryz.underlying56 hi hz0 hz1 hz2 rfl (by decide) _ _ _ rfl hown ⟨m, 0, none⟩ n c xs rfl HX.out HC.out h1 (by unfold maxLen; omega) (by omega) (by simp) ?_; intro v' w1 hown' hgrow _)
  simp only [Nat.zero_add, List.nil_append] at hown'
  go_ret
  have hb := ((Below.refl w.heap.size w).alloc (Nat.le_refl _) (Obj.cells #[] 33)).grown hgrow (by simp) (fun k hk => by cases hk; exact Nat.le_refl _)
  exact ⟨_, rfl, hown', ⟨hb.os, hb.tape, hb.output, hb.size, fun k hk _ => hb.block k hk⟩⟩
theorem row_cells {w : World} {b m : Nat} {s : StoreS} (h : IsStore w b m s) : ∀ j u, (s.ws.map (Value.int .u64))[j]? = some u → w.cell? ((⟨m, 0, none⟩ : Addr).add j) = some u := by
  intro j u hj
  have : (⟨m, 0, none⟩ : Addr).add j = ⟨m, j, none⟩ := by unfold Addr.add; split <;> simp_all
  rw [this, h.row.cell]
  simpa using hj
set_option maxHeartbeats 400000 in
theorem words_any (b m : Nat) (s : StoreS) (w : World) (h : IsStore w b m s) :
    Calls Tryz.prog 68 #[.pointer (some ⟨b, 0, none⟩)] w fun e w' => ∃ v, e = .returned v ∧ w'.ownsRow w.heap.size 33 1 v s.ws.length (s.ws.map (Value.int .u64)) ∧ Only (fun _ => False) w w' := by
  obtain ⟨hc0, hc1, hc2, hc3, hc4, hc5⟩ := h.cells
  have hn := h.fit.1
  go_enter Tryz.func68, Tryz.ntmps68
  go_wp2_with (go_at_call 135; refine (cloneU64_any m _ _ (s.ws.map (Value.int .u64)) _ (by simp) hn (row_cells h) h.row.lt (by intro u hu; obtain ⟨x, _, rfl⟩ := List.mem_map.1 hu; rfl)).mono ?_; rintro e w' ⟨v, rfl, ho, hb⟩)
  go_ret
  exact ⟨_, rfl, by assumption, by assumption⟩
set_option maxHeartbeats 400000 in
theorem words_nil (w : World) : Calls Tryz.prog 68 #[.pointer none] w fun e w' => e = .returned (.slice none 0 0) ∧ w = w' := by
  go_enter Tryz.func68, Tryz.ntmps68
  go_wp2
  go_ret
  exact ⟨rfl, rfl⟩
end Go.Proofs.YtffhoaimcjpjhaaGreat

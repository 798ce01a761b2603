/- ArenaNew: its walk. By an AI agent. -/
import Derived.Test.YtbijbpnhakbeeaaDocBB
import Derived.Test.YtbijbpnhakbeeaaArenaAwakeD
import Derived.Test.YtbijbpnhakbeeaaRow
namespace Go.Proofs.Ytbijbpnhakbeeaa
open Go.RowKit
set_option maxRecDepth 100000 in
set_option maxHeartbeats 2000000 in
theorem sameWords_eq (g d n c1 c2 : Nat) (f : Nat → Int) (w : World) (q1 : ∀ j : Nat, j < n → w.cell? ⟨g, j, none⟩ = some (.int .u64 (f j))) (q2 : ∀ j : Nat, j < n → w.cell? ⟨d, j, none⟩ = some (.int .u64 (f j))) (hn : n < 1000000) :
    Calls Try.prog 17 #[.slice (some ⟨g, 0, none⟩) n c1, .slice (some ⟨d, 0, none⟩) n c2] w fun e w' => e = .returned (.bool true) ∧ ∃ k, w' = w.drewN k := by
  have Q1 := Lib.hid q1; have Q2 := Lib.hid q2
  clear q1 q2
  go_enter Try.func17, Try.ntmps17
  go_wp2
  go_loopw [5] (fun i wr => ∃ k m : Nat, k ≤ n ∧ i = .int .i64 k ∧ wr = w.drewN m) (fun i _ => n - (intOf i).toNat)
  case atStart => exact ⟨0, 0, Nat.zero_le _, rfl, rfl⟩
  case round =>
    obtain ⟨k, m, hk, rfl, rfl⟩ := hrel
    by_cases hkn : k < n
    · have p1 := Q1.out k hkn; have p2 := Q2.out k hkn
      obtain ⟨x, hx⟩ : ∃ x, x = f k := ⟨_, rfl⟩
      rw [← hx] at p1 p2
      clear hx
      have t1 : (x != x) = false := by simp
      go_wp2
      go_quiet ((fail))
      go_wp2
      go_roundw
      case rel => exact ⟨k + 1, _, by omega, by go_num, rfl⟩
      case measure => simp [intOf]; omega
    · go_wp2
      go_ret
      exact ⟨rfl, m, rfl⟩
theorem rowU_cells {w : World} {base n : Nat} {v : Value} {xs : List Int} (h : w.ownsRow base 43 1 v n (xs.map (Value.int .u64))) (hn : xs.length = n) (h0 : 0 < n) : ∃ g c, v = .slice (some ⟨g, 0, none⟩) n c ∧ ∀ j : Nat, j < n → w.cell? ⟨g, j, none⟩ = some (.int .u64 (xs.getD j 0)) := by
  obtain ⟨_, ⟨_, h1⟩ | ⟨g, cap, cur, h1, h2, h3, _, _, _, h5⟩⟩ := h
  · omega
  · refine ⟨g, cap, h1, fun j hj => ?_⟩
    have e : (cur.toList.take (n * 1))[j]? = some (.int .u64 (xs.getD j 0)) := by
      rw [h5]
      have hj2 : j < xs.length := by omega
      simp [List.getElem?_map, List.getElem?_eq_getElem hj2]
    rw [List.getElem?_take_of_lt (by omega)] at e
    simpa [World.cell?, h3] using e
set_option maxHeartbeats 400000 in
theorem arenaLayout_any {w : World} {ab sb rb : Nat} {P T : Int} (h : IsArena w ab sb rb P T) : Calls Try.prog 15 #[.pointer (some ⟨ab, 0, none⟩)] w fun e w' => e = .returned (.agg #[.int .i64 P, .int .i64 T]) ∧ Adds w w' := by
  have c0 := h.head.cell 0; have c1 := h.head.cell 1; have hlt := h.head.lt
  clear h
  go_enter Try.func15, Try.ntmps15
  go_wp2
  exact bodyPost_ret (v := .agg #[.int .i64 P, .int .i64 T]) (by simp [results, Try.results15, go_sem]) rfl ⟨rfl, (Only.refl _ _).alloc _⟩
theorem draws_row {w : World} {a : Option Addr} {len cap : Nat} {zs : List Int} (h : IsRow .u32 w a len cap zs) {k : Nat} (hk : k ≤ len) : Draws w (.slice a k cap) ((List.range k).map (fun i => zs.getD i 0)) := by
  by_cases hz : k = 0
  · subst hz
    rcases h with ⟨rfl, rfl, rfl, rfl⟩ | ⟨x, rfl, _⟩
    · exact .inl ⟨rfl, rfl⟩
    · exact .inr (.inr ⟨rfl, x, cap, rfl⟩)
  · obtain ⟨b, off, rfl, _⟩ := rows_at h (show 0 < len by omega)
    refine .inr (.inl ⟨b, off, cap, by simp, fun j d hj => ?_⟩)
    have hjk : j < k := by have := (List.getElem?_eq_some_iff.1 hj).1; simpa using this
    obtain ⟨b', off', he, _, hc, _⟩ := rows_at h (show j < len by omega)
    cases he
    rw [List.getElem?_map, List.getElem?_range hjk] at hj
    have e : zs.getD j 0 = d := by simpa using hj
    rw [e] at hc; exact hc
/-- An arena of ours and the document's, in one heap. -/
structure Ars (w : World) (ab sb sm bb tb tm : Nat) (P T : Int) (S : StoreS) (s : RS) (d : DS) : Prop where
  ar : IsArena w ab sb s.rb P T
  st : IsStore w sb sm S
  rs : IsRuns w s
  me : IsMemD w bb tb tm P T S d
  sim : Sim s d
theorem Ars.adds {w w' : World} {ab sb sm bb tb tm : Nat} {P T : Int} {S : StoreS} {s : RS} {d : DS} (h : Ars w ab sb sm bb tb tm P T S s d) (ho : Adds w w') : Ars w' ab sb sm bb tb tm P T S s d :=
  ⟨h.ar.only ho id, h.st.only ho id id, h.rs.adds ho, h.me.adds ho, h.sim⟩
theorem layout_neqN {a b a' b' : Int} {W : World} : Sem.run Try.prog (binOp .neq 31 (.agg #[.int .i64 a, .int .i64 b]) (.agg #[.int .i64 a', .int .i64 b'])) W = .ok (.bool (!(a == a' && b == b'))) W := by
  rw [run_neq_struct, run_equalIn_struct W 9999 _ _ _ (by kernel_rfl) (by kernel_rfl)]
  simp only [Program.fieldsOf, Try.underlying31]
  simp [go_sem]
  by_cases h1 : a = a' <;> by_cases h2 : b = b' <;> simp [h1, h2]
set_option maxRecDepth 100000 in
set_option maxHeartbeats 8000000 in
theorem arenaNew_law (P : Int) (w0 : (Lit.int .i64 P).wf = true) (T : Int) (w1 : (Lit.int .i64 T).wf = true) (a1 : Option Addr) (l1 c1 : Nat) (z1 : List Int) (w : World) (h1 : IsRow .u32 w a1 l1 c1 z1) :
    Calls Try.prog 3 #[.int .i64 P, .int .i64 T, .slice a1 l1 c1] w fun e w' => e = .returned (.bool true) ∧ Below w.heap.size w w' := by
  clear w0 w1
  obtain ⟨hlc, hc63⟩ := rows_len h1
  obtain ⟨k, hk⟩ : ∃ k : Nat, min (l1 : Int) 50 = k := ⟨min l1 50, by omega⟩
  have hkl : k ≤ l1 := by omega
  have hk50 : k ≤ 50 := by omega
  have hkc : k ≤ c1 := by omega
  have hdr := draws_row h1 hkl
  obtain ⟨ds, hds⟩ : ∃ ds, (List.range k).map (fun i => z1.getD i 0) = ds := ⟨_, rfl⟩
  rw [hds] at hdr
  have hdl : ds.length < 1000000 := by rw [← hds]; simp; omega
  clear hds
  obtain ⟨B, hB⟩ : ∃ B, w.heap.size = B := ⟨_, rfl⟩
  obtain ⟨W, hW⟩ : ∃ W, w.alloc (.cells #[.int .i64 P, .int .i64 T, .slice a1 k c1] 24) = W := ⟨_, rfl⟩
  have hbx : Blk W B #[.int .i64 P, .int .i64 T, .slice a1 k c1] 24 := by rw [← hW, ← hB]; exact Blk.new w _ _
  have hO : Adds w W := by rw [← hW]; exact (Only.refl (fun _ => False) w).alloc _
  have b0 := hbx.cell 0; have b1 := hbx.cell 1; have b2 := hbx.cell 2
  have HDR := Lib.hid (hdr.adds hO); have HO := Lib.hid hO
  clear hbx hO hdr h1
  by_cases hm : Lay.may P T = true
  · have HM := Lib.hid hm
    have HP := Lib.hid (Lay.may_iff.1 hm)
    have HWB := Lib.hid (words_bd hm)
    have HA1 := Lib.hid (fun V (ho : Adds W V) => arenaNewD_ok P T a1 k c1 ds V (HDR.out.adds ho) hdl hm)
    have HA2 := Lib.hid (fun V (ho : Adds W V) => newMemD_ok P T a1 k c1 ds V (HDR.out.adds ho) hdl hm)
    clear hm
    go_enter Try.func3, Try.ntmps3
    go_upto_region 2 with fail
    refine wp_region_held_drew (S := (fun W' => W'.cell? ⟨B, 0, none⟩ = some (.int .i64 P) ∧ W'.cell? ⟨B, 1, none⟩ = some (.int .i64 T) ∧ W'.cell? ⟨B, 2, none⟩ = some (.slice a1 k c1))) (by kernel_rfl) ⟨b0, b1, b2⟩ (fun hHeld => ?_)
    refine wpAnyH_take (i := 0) (v := (.agg #[.int .i64 P, .int .i64 T, .slice a1 k c1])) rfl (by kernel_rfl) (by kernel_rfl) (by kernel_rfl) (fun _ _ _ h => h) (Or.inl ⟨by rfl, fun W hS => by (obtain ⟨q1, q2, q3⟩ := hS; go_simp; done)⟩) hHeld ?_
    try simp only [Act.put, List.getElem_toArray, List.getElem_cons_succ, List.getElem_cons_zero, List.setIfInBounds_toArray, List.set_cons_zero, List.set_cons_succ]
    refine wpAnyH_take (i := 2) (v := (.agg #[.int .i64 P, .int .i64 T, .slice a1 k c1])) rfl (by kernel_rfl) (by kernel_rfl) (by kernel_rfl) (fun _ _ _ h => h) (Or.inl ⟨by rfl, fun W hS => by (obtain ⟨q1, q2, q3⟩ := hS; go_simp; done)⟩) hHeld ?_
    try simp only [Act.put, List.getElem_toArray, List.getElem_cons_succ, List.getElem_cons_zero, List.setIfInBounds_toArray, List.set_cons_zero, List.set_cons_succ]
    refine wpAnyH_ready (rs := [1]) (by kernel_rfl) (by simp) (AllReadyH.cons rfl (fun K hK => ?_) AllReadyH.nil)
    simp only [List.getElem_toArray, List.getElem_cons_succ, List.getElem_cons_zero]
    go_simp
    refine (HA1.out _ ((Only.refl (fun _ => False) W).drew)).mono ?_
    rintro e u1 ⟨ab, sb, sm, s, rfl, i1, i2, i3, i4, o1, -, -⟩
    have oA : Adds W u1 := ((Only.refl (fun _ => False) W).drew).thenF o1
    refine hK.out _ _ ⟨cell_al hHeld.1 o1, cell_al hHeld.2.1 o1, cell_al hHeld.2.2 o1⟩ (fun hHeld => ?_)
    clear hK K
    try simp only [Act.put, List.getElem_toArray, List.getElem_cons_succ, List.getElem_cons_zero, List.setIfInBounds_toArray, List.set_cons_zero, List.set_cons_succ]
    refine wpAnyH_ready (rs := [3]) (by kernel_rfl) (by simp) (AllReadyH.cons rfl (fun K hK => ?_) AllReadyH.nil)
    simp only [List.getElem_toArray, List.getElem_cons_succ, List.getElem_cons_zero]
    go_simp
    refine (HA2.out _ oA).mono ?_
    rintro e u2 ⟨bb, tb, tm, d, rfl, j1, j2, o2, -, -, -, -⟩
    refine hK.out _ _ ⟨cell_al hHeld.1 o2, cell_al hHeld.2.1 o2, cell_al hHeld.2.2 o2⟩ (fun hHeld => ?_)
    clear hK K
    try simp only [Act.put, List.getElem_toArray, List.getElem_cons_succ, List.getElem_cons_zero, List.setIfInBounds_toArray, List.set_cons_zero, List.set_cons_succ]
    refine wpAnyH_take (i := 4) (v := (.pointer (some ⟨ab, 0, none⟩))) rfl (by kernel_rfl) (by kernel_rfl) (by kernel_rfl) (fun _ _ _ h => h) (Or.inl ⟨by rfl, fun W hS => by first | rfl | (go_simp; done)⟩) hHeld ?_
    try simp only [Act.put, List.getElem_toArray, List.getElem_cons_succ, List.getElem_cons_zero, List.setIfInBounds_toArray, List.set_cons_zero, List.set_cons_succ]
    refine wpAnyH_take (i := 5) (v := (.pointer (some ⟨bb, 0, none⟩))) rfl (by kernel_rfl) (by kernel_rfl) (by kernel_rfl) (fun _ _ _ h => h) (Or.inl ⟨by rfl, fun W hS => by first | rfl | (go_simp; done)⟩) hHeld ?_
    try simp only [Act.put, List.getElem_toArray, List.getElem_cons_succ, List.getElem_cons_zero, List.setIfInBounds_toArray, List.set_cons_zero, List.set_cons_succ]
    refine wpAnyH_done (by kernel_rfl) ?_ _
    have HR := Lib.hid (show Ars u2 ab sb sm bb tb tm P T (StoreS.begun (Lay.words P T).toNat 0 1) s d from ⟨i1.only o2 id, i2.only o2 id id, i3.adds o2, j1, Sim.new (P := P.toNat) (by have := HP.out; omega) (by rw [show ((P.toNat : Nat) : Int) = P by have := HP.out; omega]; exact i4) j2⟩)
    have HO2 := Lib.hid ((HO.out.thenF oA).thenF o2)
    clear hHeld i1 i2 i3 i4 j1 j2 o1 o2 oA HA1 HA2 HDR b0 b1 b2
    go_upto_region 5 with fail
    have ln : ∀ W, Sem.run Try.prog (binOp .neq 31 (.agg #[.int .i64 P, .int .i64 T]) (.agg #[.int .i64 P, .int .i64 T])) W = .ok (.bool false) W := fun W => by rw [layout_neqN]; simp
    have hgen : Hid (∀ V, Adds u2 V → Calls Try.prog 16 #[.pointer (some ⟨ab, 0, none⟩)] V fun e w' => e = .returned (.int .i64 1) ∧ V = w') := Lib.hid (fun V ho => by have hw := begun_first (Lay.words P T).toNat (by have := HWB.out; omega); have h9 := arenaGenD_any (HR.out.adds ho).ar (HR.out.adds ho).st ⟨by omega, by simp [StoreS.begun, StoreS.fresh]; have := HWB.out; omega⟩ (by rw [hw]; omega); rw [hw] at h9; exact h9)
    have hlay := Lib.hid (fun V (ho : Adds u2 V) => arenaLayout_any (HR.out.adds ho).ar)
    have c2 : u2.cell? ⟨bb, 2, none⟩ = some (.int .i64 P) := HR.out.me.head.cell 2
    have c3 : u2.cell? ⟨bb, 3, none⟩ = some (.int .i64 T) := HR.out.me.head.cell 3
    refine wp_region_held_drew (S := (fun W' => W'.cell? ⟨bb, 2, none⟩ = some (.int .i64 P) ∧ W'.cell? ⟨bb, 3, none⟩ = some (.int .i64 T) ∧ Adds u2 W')) (by kernel_rfl) ⟨c2, c3, (Only.refl (fun _ => False) u2).drew⟩ (fun hHeld => ?_)
    refine wpAnyH_take (i := 0) (v := (.pointer (some ⟨ab, 0, none⟩))) rfl (by kernel_rfl) (by kernel_rfl) (by kernel_rfl) (fun _ _ _ h => h) (Or.inl ⟨by rfl, fun W hS => by first | rfl | (go_simp; done)⟩) hHeld ?_
    try simp only [Act.put, List.getElem_toArray, List.getElem_cons_succ, List.getElem_cons_zero, List.setIfInBounds_toArray, List.set_cons_zero, List.set_cons_succ]
    refine wpAnyH_take (i := 1) (v := (.bool false)) rfl (by kernel_rfl) (by kernel_rfl) (by kernel_rfl) (fun _ _ _ h => h) (Or.inl ⟨by rfl, fun W hS => by (go_simp; done)⟩) hHeld ?_
    try simp only [Act.put, List.getElem_toArray, List.getElem_cons_succ, List.getElem_cons_zero, List.setIfInBounds_toArray, List.set_cons_zero, List.set_cons_succ]
    refine wpAnyH_take (i := 2) (v := (.bool false)) rfl (by kernel_rfl) (by kernel_rfl) (by kernel_rfl) (fun _ _ _ h => h) (Or.inl ⟨by rfl, fun W hS => by (go_simp; done)⟩) hHeld ?_
    try simp only [Act.put, List.getElem_toArray, List.getElem_cons_succ, List.getElem_cons_zero, List.setIfInBounds_toArray, List.set_cons_zero, List.set_cons_succ]
    refine wpAnyH_take (i := 3) (v := (.pointer (some ⟨ab, 0, none⟩))) rfl (by kernel_rfl) (by kernel_rfl) (by kernel_rfl) (fun _ _ _ h => h) (Or.inl ⟨by rfl, fun W hS => by first | rfl | (go_simp; done)⟩) hHeld ?_
    try simp only [Act.put, List.getElem_toArray, List.getElem_cons_succ, List.getElem_cons_zero, List.setIfInBounds_toArray, List.set_cons_zero, List.set_cons_succ]
    refine wpAnyH_take (i := 5) (v := (.pointer (some ⟨bb, 0, none⟩))) rfl (by kernel_rfl) (by kernel_rfl) (by kernel_rfl) (fun _ _ _ h => h) (Or.inl ⟨by rfl, fun W hS => by first | rfl | (go_simp; done)⟩) hHeld ?_
    try simp only [Act.put, List.getElem_toArray, List.getElem_cons_succ, List.getElem_cons_zero, List.setIfInBounds_toArray, List.set_cons_zero, List.set_cons_succ]
    refine wpAnyH_take (i := 6) (v := (.pointer (some ⟨bb, 0, none⟩))) rfl (by kernel_rfl) (by kernel_rfl) (by kernel_rfl) (fun _ _ _ h => h) (Or.inl ⟨by rfl, fun W hS => by first | rfl | (go_simp; done)⟩) hHeld ?_
    try simp only [Act.put, List.getElem_toArray, List.getElem_cons_succ, List.getElem_cons_zero, List.setIfInBounds_toArray, List.set_cons_zero, List.set_cons_succ]
    refine wpAnyH_take (i := 7) (v := (.pointer (some ⟨bb, 2, none⟩))) rfl (by kernel_rfl) (by kernel_rfl) (by kernel_rfl) (fun _ _ _ h => h) (Or.inl ⟨by rfl, fun W hS => by first | rfl | (go_simp; done)⟩) hHeld ?_
    try simp only [Act.put, List.getElem_toArray, List.getElem_cons_succ, List.getElem_cons_zero, List.setIfInBounds_toArray, List.set_cons_zero, List.set_cons_succ]
    refine wpAnyH_take (i := 8) (v := (.agg #[.int .i64 P, .int .i64 T])) rfl (by kernel_rfl) (by kernel_rfl) (by kernel_rfl) (fun _ _ _ h => h) (Or.inl ⟨by rfl, fun W hS => by (obtain ⟨q1, q2, -⟩ := hS; go_simp; done)⟩) hHeld ?_
    try simp only [Act.put, List.getElem_toArray, List.getElem_cons_succ, List.getElem_cons_zero, List.setIfInBounds_toArray, List.set_cons_zero, List.set_cons_succ]
    refine wpAnyH_ready (rs := [4]) (by kernel_rfl) (by simp) (AllReadyH.cons rfl (fun K hK => ?_) AllReadyH.nil)
    simp only [List.getElem_toArray, List.getElem_cons_succ, List.getElem_cons_zero]
    go_simp
    refine (hlay.out _ hHeld.2.2).mono ?_
    rintro e u3 ⟨rfl, o3⟩
    refine hK.out _ _ ⟨cell_al hHeld.1 o3, cell_al hHeld.2.1 o3, hHeld.2.2.thenF o3⟩ (fun hHeld => ?_)
    clear hK K
    try simp only [Act.put, List.getElem_toArray, List.getElem_cons_succ, List.getElem_cons_zero, List.setIfInBounds_toArray, List.set_cons_zero, List.set_cons_succ]
    refine wpAnyH_take (i := 9) (v := (.bool false)) rfl (by kernel_rfl) (by kernel_rfl) (by kernel_rfl) (fun _ _ _ h => h) (Or.inl ⟨by rfl, fun W hS => by (go_simp; done)⟩) hHeld ?_
    try simp only [Act.put, List.getElem_toArray, List.getElem_cons_succ, List.getElem_cons_zero, List.setIfInBounds_toArray, List.set_cons_zero, List.set_cons_succ]
    refine wpAnyH_take (i := 10) (v := (.bool false)) rfl (by kernel_rfl) (by kernel_rfl) (by kernel_rfl) (fun _ _ _ h => h) (Or.inl ⟨by rfl, fun W hS => by (go_simp; done)⟩) hHeld ?_
    try simp only [Act.put, List.getElem_toArray, List.getElem_cons_succ, List.getElem_cons_zero, List.setIfInBounds_toArray, List.set_cons_zero, List.set_cons_succ]
    refine wpAnyH_take (i := 11) (v := (.bool false)) rfl (by kernel_rfl) (by kernel_rfl) (by kernel_rfl) (fun _ _ _ h => h) (Or.inl ⟨by rfl, fun W hS => by (go_simp; done)⟩) hHeld ?_
    try simp only [Act.put, List.getElem_toArray, List.getElem_cons_succ, List.getElem_cons_zero, List.setIfInBounds_toArray, List.set_cons_zero, List.set_cons_succ]
    refine wpAnyH_take (i := 12) (v := (.pointer (some ⟨ab, 0, none⟩))) rfl (by kernel_rfl) (by kernel_rfl) (by kernel_rfl) (fun _ _ _ h => h) (Or.inl ⟨by rfl, fun W hS => by first | rfl | (go_simp; done)⟩) hHeld ?_
    try simp only [Act.put, List.getElem_toArray, List.getElem_cons_succ, List.getElem_cons_zero, List.setIfInBounds_toArray, List.set_cons_zero, List.set_cons_succ]
    refine wpAnyH_ready (rs := [13]) (by kernel_rfl) (by simp) (AllReadyH.cons rfl (fun K hK => ?_) AllReadyH.nil)
    simp only [List.getElem_toArray, List.getElem_cons_succ, List.getElem_cons_zero]
    go_simp
    refine (hgen.out _ hHeld.2.2).mono ?_
    rintro e u4 ⟨rfl, rfl⟩
    refine hK.out _ _ hHeld (fun hHeld => ?_)
    clear hK K
    try simp only [Act.put, List.getElem_toArray, List.getElem_cons_succ, List.getElem_cons_zero, List.setIfInBounds_toArray, List.set_cons_zero, List.set_cons_succ]
    refine wpAnyH_take (i := 14) (v := (.bool false)) rfl (by kernel_rfl) (by kernel_rfl) (by kernel_rfl) (fun _ _ _ h => h) (Or.inl ⟨by rfl, fun W hS => by (go_simp; done)⟩) hHeld ?_
    try simp only [Act.put, List.getElem_toArray, List.getElem_cons_succ, List.getElem_cons_zero, List.setIfInBounds_toArray, List.set_cons_zero, List.set_cons_succ]
    refine wpAnyH_take (i := 15) (v := (.bool false)) rfl (by kernel_rfl) (by kernel_rfl) (by kernel_rfl) (fun _ _ _ h => h) (Or.inl ⟨by rfl, fun W hS => by (go_simp; done)⟩) hHeld ?_
    try simp only [Act.put, List.getElem_toArray, List.getElem_cons_succ, List.getElem_cons_zero, List.setIfInBounds_toArray, List.set_cons_zero, List.set_cons_succ]
    refine wpAnyH_done (by kernel_rfl) ?_ _
    have HR3 := Lib.hid (HR.out.adds hHeld.2.2)
    have HO3 := Lib.hid (HO2.out.thenF hHeld.2.2)
    clear hHeld c2 c3 hgen hlay o3 HR HO2 ln
    go_upto_region 7 with fail
    obtain ⟨n, hn⟩ : ∃ n, (Lay.words P T).toNat = n := ⟨_, rfl⟩
    have hn1 : 90 ≤ n ∧ n ≤ 65536 := by have := HWB.out; omega
    rw [hn] at HR3
    clear hn
    have hwl : (StoreS.begun n 0 1).ws.length = n := by simp [StoreS.begun, StoreS.fresh]
    have hlen : s.xs.length ≤ 4096 := by have := HR3.out.rs.ok.list.len (by have := HR3.out.rs.ok.P1; omega); have := HR3.out.rs.ok.P2; omega
    have hsz : s.t.size = s.xs.length := HR3.out.rs.ok.size
    have hsl : (s.t.shape 0).length = s.t.size := Tr.shape_len _ _
    have k0 : u3.cell? ⟨bb, 0, none⟩ = some (.pointer (some ⟨tb, 0, none⟩)) := HR3.out.me.head.cell 0
    have k1 : u3.cell? ⟨bb, 1, none⟩ = some (.pointer (some ⟨d.rb, 0, none⟩)) := HR3.out.me.head.cell 1
    have k2 : u3.cell? ⟨tb, 0, none⟩ = some (.slice (some ⟨tm, 0, none⟩) n n) := by have := HR3.out.me.st.cells.1; rw [hwl] at this; exact this
    have hwd : Hid (∀ V, Adds u3 V → ∀ j : Nat, j < n → V.cell? ⟨tm, j, none⟩ = some (.int .u64 ((StoreS.begun n 0 1).word j))) := Lib.hid (fun V ho j hj => by have := (HR3.out.adds ho).me.st.wordCell (i := j) ⟨by omega, by rw [hwl]; omega⟩; simpa using this)
    have HXS := Lib.hid HR3.out.sim.list
    have HKD := Lib.hid HR3.out.sim.kd
    clear hk hB hW
    refine wp_region_held_drew (S := (fun W' => W'.cell? ⟨bb, 0, none⟩ = some (.pointer (some ⟨tb, 0, none⟩)) ∧ W'.cell? ⟨bb, 1, none⟩ = some (.pointer (some ⟨d.rb, 0, none⟩)) ∧ W'.cell? ⟨tb, 0, none⟩ = some (.slice (some ⟨tm, 0, none⟩) n n) ∧ Adds u3 W')) (by kernel_rfl) ⟨k0, k1, k2, (Only.refl (fun _ => False) u3).drew⟩ (fun hHeld => ?_)
    refine wpAnyH_take (i := 0) (v := (.pointer (some ⟨ab, 0, none⟩))) rfl (by kernel_rfl) (by kernel_rfl) (by kernel_rfl) (fun _ _ _ h => h) (Or.inl ⟨by rfl, fun W hS => by first | rfl | (go_simp; done)⟩) hHeld ?_
    try simp only [Act.put, List.getElem_toArray, List.getElem_cons_succ, List.getElem_cons_zero, List.setIfInBounds_toArray, List.set_cons_zero, List.set_cons_succ]
    refine wpAnyH_take (i := 3) (v := (.pointer (some ⟨bb, 0, none⟩))) rfl (by kernel_rfl) (by kernel_rfl) (by kernel_rfl) (fun _ _ _ h => h) (Or.inl ⟨by rfl, fun W hS => by first | rfl | (go_simp; done)⟩) hHeld ?_
    try simp only [Act.put, List.getElem_toArray, List.getElem_cons_succ, List.getElem_cons_zero, List.setIfInBounds_toArray, List.set_cons_zero, List.set_cons_succ]
    refine wpAnyH_take (i := 4) (v := (.pointer (some ⟨bb, 0, none⟩))) rfl (by kernel_rfl) (by kernel_rfl) (by kernel_rfl) (fun _ _ _ h => h) (Or.inl ⟨by rfl, fun W hS => by first | rfl | (go_simp; done)⟩) hHeld ?_
    try simp only [Act.put, List.getElem_toArray, List.getElem_cons_succ, List.getElem_cons_zero, List.setIfInBounds_toArray, List.set_cons_zero, List.set_cons_succ]
    refine wpAnyH_take (i := 5) (v := (.pointer (some ⟨bb, 0, none⟩))) rfl (by kernel_rfl) (by kernel_rfl) (by kernel_rfl) (fun _ _ _ h => h) (Or.inl ⟨by rfl, fun W hS => by first | rfl | (go_simp; done)⟩) hHeld ?_
    try simp only [Act.put, List.getElem_toArray, List.getElem_cons_succ, List.getElem_cons_zero, List.setIfInBounds_toArray, List.set_cons_zero, List.set_cons_succ]
    refine wpAnyH_take (i := 6) (v := (.pointer (some ⟨tb, 0, none⟩))) rfl (by kernel_rfl) (by kernel_rfl) (by kernel_rfl) (fun _ _ _ h => h) (Or.inl ⟨by rfl, fun W hS => by (obtain ⟨q1, q2, q3, -⟩ := hS; go_simp; done)⟩) hHeld ?_
    try simp only [Act.put, List.getElem_toArray, List.getElem_cons_succ, List.getElem_cons_zero, List.setIfInBounds_toArray, List.set_cons_zero, List.set_cons_succ]
    refine wpAnyH_take (i := 7) (v := (.pointer (some ⟨tb, 0, none⟩))) rfl (by kernel_rfl) (by kernel_rfl) (by kernel_rfl) (fun _ _ _ h => h) (Or.inl ⟨by rfl, fun W hS => by first | rfl | (go_simp; done)⟩) hHeld ?_
    try simp only [Act.put, List.getElem_toArray, List.getElem_cons_succ, List.getElem_cons_zero, List.setIfInBounds_toArray, List.set_cons_zero, List.set_cons_succ]
    refine wpAnyH_take (i := 8) (v := (.pointer (some ⟨tb, 0, none⟩))) rfl (by kernel_rfl) (by kernel_rfl) (by kernel_rfl) (fun _ _ _ h => h) (Or.inl ⟨by rfl, fun W hS => by first | rfl | (go_simp; done)⟩) hHeld ?_
    try simp only [Act.put, List.getElem_toArray, List.getElem_cons_succ, List.getElem_cons_zero, List.setIfInBounds_toArray, List.set_cons_zero, List.set_cons_succ]
    refine wpAnyH_take (i := 9) (v := (.slice (some ⟨tm, 0, none⟩) n n)) rfl (by kernel_rfl) (by kernel_rfl) (by kernel_rfl) (fun _ _ _ h => h) (Or.inl ⟨by rfl, fun W hS => by (obtain ⟨q1, q2, q3, -⟩ := hS; go_simp; done)⟩) hHeld ?_
    try simp only [Act.put, List.getElem_toArray, List.getElem_cons_succ, List.getElem_cons_zero, List.setIfInBounds_toArray, List.set_cons_zero, List.set_cons_succ]
    refine wpAnyH_ready (rs := [1]) (by kernel_rfl) (by simp) (AllReadyH.cons rfl (fun K hK => ?_) AllReadyH.nil)
    simp only [List.getElem_toArray, List.getElem_cons_succ, List.getElem_cons_zero]
    go_simp
    refine (arenaStore_any (HR3.out.adds hHeld.2.2.2).ar).mono ?_
    rintro e x1 ⟨rfl, rfl⟩
    refine hK.out _ _ hHeld (fun hHeld => ?_)
    clear hK K
    try simp only [Act.put, List.getElem_toArray, List.getElem_cons_succ, List.getElem_cons_zero, List.setIfInBounds_toArray, List.set_cons_zero, List.set_cons_succ]
    refine wpAnyH_ready (rs := [2]) (by kernel_rfl) (by simp) (AllReadyH.cons rfl (fun K hK => ?_) AllReadyH.nil)
    simp only [List.getElem_toArray, List.getElem_cons_succ, List.getElem_cons_zero]
    go_simp
    refine (words_any _ _ _ _ (HR3.out.adds hHeld.2.2.2).st).mono ?_
    rintro e x2 ⟨v2, rfl, hv2, o2⟩
    rw [hwl] at hv2
    obtain ⟨g2, cc2, rfl, hq2⟩ := rowU_cells hv2 hwl (by omega)
    refine hK.out _ _ ⟨cell_al hHeld.1 o2, cell_al hHeld.2.1 o2, cell_al hHeld.2.2.1 o2, hHeld.2.2.2.thenF o2⟩ (fun hHeld => ?_)
    clear hK K
    try simp only [Act.put, List.getElem_toArray, List.getElem_cons_succ, List.getElem_cons_zero, List.setIfInBounds_toArray, List.set_cons_zero, List.set_cons_succ]
    refine wpAnyH_ready (rs := [10]) (by kernel_rfl) (by simp) (AllReadyH.cons rfl (fun K hK => ?_) AllReadyH.nil)
    simp only [List.getElem_toArray, List.getElem_cons_succ, List.getElem_cons_zero]
    go_simp
    refine (sameWords_eq g2 tm n cc2 n (fun j => (StoreS.begun n 0 1).word j) _ (fun j hj => by have := hq2 j hj; simpa [StoreS.word] using this) (hwd.out _ hHeld.2.2.2) (by omega)).mono ?_
    rintro e x3 ⟨rfl, q3, rfl⟩
    refine hK.out _ _ ⟨cell_al hHeld.1 ((Only.refl (fun _ => False) _).drewN q3), cell_al hHeld.2.1 ((Only.refl (fun _ => False) _).drewN q3), cell_al hHeld.2.2.1 ((Only.refl (fun _ => False) _).drewN q3), hHeld.2.2.2.thenF ((Only.refl (fun _ => False) _).drewN q3)⟩ (fun hHeld => ?_)
    clear hK K
    try simp only [Act.put, List.getElem_toArray, List.getElem_cons_succ, List.getElem_cons_zero, List.setIfInBounds_toArray, List.set_cons_zero, List.set_cons_succ]
    refine wpAnyH_take (i := 11) (v := (.bool true)) rfl (by kernel_rfl) (by kernel_rfl) (by kernel_rfl) (fun _ _ _ h => h) (Or.inl ⟨by rfl, fun W hS => by first | rfl | (go_simp; done)⟩) hHeld ?_
    try simp only [Act.put, List.getElem_toArray, List.getElem_cons_succ, List.getElem_cons_zero, List.setIfInBounds_toArray, List.set_cons_zero, List.set_cons_succ]
    refine wpAnyH_take (i := 12) (v := (.pointer (some ⟨ab, 0, none⟩))) rfl (by kernel_rfl) (by kernel_rfl) (by kernel_rfl) (fun _ _ _ h => h) (Or.inl ⟨by rfl, fun W hS => by first | rfl | (go_simp; done)⟩) hHeld ?_
    try simp only [Act.put, List.getElem_toArray, List.getElem_cons_succ, List.getElem_cons_zero, List.setIfInBounds_toArray, List.set_cons_zero, List.set_cons_succ]
    refine wpAnyH_ready (rs := [13]) (by kernel_rfl) (by simp) (AllReadyH.cons rfl (fun K hK => ?_) AllReadyH.nil)
    simp only [List.getElem_toArray, List.getElem_cons_succ, List.getElem_cons_zero]
    go_simp
    refine (arenaStore_any (HR3.out.adds hHeld.2.2.2).ar).mono ?_
    rintro e x1 ⟨rfl, rfl⟩
    refine hK.out _ _ hHeld (fun hHeld => ?_)
    clear hK K
    try simp only [Act.put, List.getElem_toArray, List.getElem_cons_succ, List.getElem_cons_zero, List.setIfInBounds_toArray, List.set_cons_zero, List.set_cons_succ]
    refine wpAnyH_ready (rs := [14]) (by kernel_rfl) (by simp) (AllReadyH.cons rfl (fun K hK => ?_) AllReadyH.nil)
    simp only [List.getElem_toArray, List.getElem_cons_succ, List.getElem_cons_zero]
    go_simp
    refine (count_any _ _ _ _ (HR3.out.adds hHeld.2.2.2).st).mono ?_
    rintro e x1 ⟨rfl, rfl⟩
    rw [show (StoreS.begun n 0 1).many = 0 from rfl]
    refine hK.out _ _ hHeld (fun hHeld => ?_)
    clear hK K
    try simp only [Act.put, List.getElem_toArray, List.getElem_cons_succ, List.getElem_cons_zero, List.setIfInBounds_toArray, List.set_cons_zero, List.set_cons_succ]
    refine wpAnyH_take (i := 15) (v := (.bool true)) rfl (by kernel_rfl) (by kernel_rfl) (by kernel_rfl) (fun _ _ _ h => h) (Or.inl ⟨by rfl, fun W hS => by (go_simp; done)⟩) hHeld ?_
    try simp only [Act.put, List.getElem_toArray, List.getElem_cons_succ, List.getElem_cons_zero, List.setIfInBounds_toArray, List.set_cons_zero, List.set_cons_succ]
    refine wpAnyH_take (i := 16) (v := (.bool true)) rfl (by kernel_rfl) (by kernel_rfl) (by kernel_rfl) (fun _ _ _ h => h) (Or.inl ⟨by rfl, fun W hS => by (go_simp; done)⟩) hHeld ?_
    try simp only [Act.put, List.getElem_toArray, List.getElem_cons_succ, List.getElem_cons_zero, List.setIfInBounds_toArray, List.set_cons_zero, List.set_cons_succ]
    refine wpAnyH_take (i := 17) (v := (.bool true)) rfl (by kernel_rfl) (by kernel_rfl) (by kernel_rfl) (fun _ _ _ h => h) (Or.inl ⟨by rfl, fun W hS => by first | rfl | (go_simp; done)⟩) hHeld ?_
    try simp only [Act.put, List.getElem_toArray, List.getElem_cons_succ, List.getElem_cons_zero, List.setIfInBounds_toArray, List.set_cons_zero, List.set_cons_succ]
    refine wpAnyH_take (i := 18) (v := (.pointer (some ⟨ab, 0, none⟩))) rfl (by kernel_rfl) (by kernel_rfl) (by kernel_rfl) (fun _ _ _ h => h) (Or.inl ⟨by rfl, fun W hS => by first | rfl | (go_simp; done)⟩) hHeld ?_
    try simp only [Act.put, List.getElem_toArray, List.getElem_cons_succ, List.getElem_cons_zero, List.setIfInBounds_toArray, List.set_cons_zero, List.set_cons_succ]
    refine wpAnyH_take (i := 21) (v := (.pointer (some ⟨bb, 0, none⟩))) rfl (by kernel_rfl) (by kernel_rfl) (by kernel_rfl) (fun _ _ _ h => h) (Or.inl ⟨by rfl, fun W hS => by first | rfl | (go_simp; done)⟩) hHeld ?_
    try simp only [Act.put, List.getElem_toArray, List.getElem_cons_succ, List.getElem_cons_zero, List.setIfInBounds_toArray, List.set_cons_zero, List.set_cons_succ]
    refine wpAnyH_take (i := 22) (v := (.pointer (some ⟨bb, 0, none⟩))) rfl (by kernel_rfl) (by kernel_rfl) (by kernel_rfl) (fun _ _ _ h => h) (Or.inl ⟨by rfl, fun W hS => by first | rfl | (go_simp; done)⟩) hHeld ?_
    try simp only [Act.put, List.getElem_toArray, List.getElem_cons_succ, List.getElem_cons_zero, List.setIfInBounds_toArray, List.set_cons_zero, List.set_cons_succ]
    refine wpAnyH_take (i := 23) (v := (.pointer (some ⟨bb, 1, none⟩))) rfl (by kernel_rfl) (by kernel_rfl) (by kernel_rfl) (fun _ _ _ h => h) (Or.inl ⟨by rfl, fun W hS => by first | rfl | (go_simp; done)⟩) hHeld ?_
    try simp only [Act.put, List.getElem_toArray, List.getElem_cons_succ, List.getElem_cons_zero, List.setIfInBounds_toArray, List.set_cons_zero, List.set_cons_succ]
    refine wpAnyH_take (i := 24) (v := (.pointer (some ⟨d.rb, 0, none⟩))) rfl (by kernel_rfl) (by kernel_rfl) (by kernel_rfl) (fun _ _ _ h => h) (Or.inl ⟨by rfl, fun W hS => by (obtain ⟨q1, q2, q3, -⟩ := hS; go_simp; done)⟩) hHeld ?_
    try simp only [Act.put, List.getElem_toArray, List.getElem_cons_succ, List.getElem_cons_zero, List.setIfInBounds_toArray, List.set_cons_zero, List.set_cons_succ]
    refine wpAnyH_ready (rs := [19]) (by kernel_rfl) (by simp) (AllReadyH.cons rfl (fun K hK => ?_) AllReadyH.nil)
    simp only [List.getElem_toArray, List.getElem_cons_succ, List.getElem_cons_zero]
    go_simp
    refine (arenaRuns_any (HR3.out.adds hHeld.2.2.2).ar).mono ?_
    rintro e x1 ⟨rfl, rfl⟩
    refine hK.out _ _ hHeld (fun hHeld => ?_)
    clear hK K
    try simp only [Act.put, List.getElem_toArray, List.getElem_cons_succ, List.getElem_cons_zero, List.setIfInBounds_toArray, List.set_cons_zero, List.set_cons_succ]
    refine wpAnyH_ready (rs := [20]) (by kernel_rfl) (by simp) (AllReadyH.cons rfl (fun K hK => ?_) AllReadyH.nil)
    simp only [List.getElem_toArray, List.getElem_cons_succ, List.getElem_cons_zero]
    go_simp
    refine (list_any (HR3.out.adds hHeld.2.2.2).rs).mono ?_
    rintro e x5 ⟨v5, rfl, r5, o5⟩
    refine hK.out _ _ ⟨cell_al hHeld.1 o5, cell_al hHeld.2.1 o5, cell_al hHeld.2.2.1 o5, hHeld.2.2.2.thenF o5⟩ (fun hHeld => ?_)
    clear hK K
    try simp only [Act.put, List.getElem_toArray, List.getElem_cons_succ, List.getElem_cons_zero, List.setIfInBounds_toArray, List.set_cons_zero, List.set_cons_succ]
    refine wpAnyH_ready (rs := [25]) (by kernel_rfl) (by simp) (AllReadyH.cons rfl (fun K hK => ?_) AllReadyH.nil)
    simp only [List.getElem_toArray, List.getElem_cons_succ, List.getElem_cons_zero]
    go_simp
    refine (list9_any (HR3.out.adds hHeld.2.2.2).me.ru).mono ?_
    rintro e x6 ⟨v6, rfl, r6, o6⟩
    rw [HXS.out] at r6
    refine hK.out _ _ ⟨cell_al hHeld.1 o6, cell_al hHeld.2.1 o6, cell_al hHeld.2.2.1 o6, hHeld.2.2.2.thenF o6⟩ (fun hHeld => ?_)
    clear hK K
    try simp only [Act.put, List.getElem_toArray, List.getElem_cons_succ, List.getElem_cons_zero, List.setIfInBounds_toArray, List.set_cons_zero, List.set_cons_succ]
    refine wpAnyH_ready (rs := [26]) (by kernel_rfl) (by simp) (AllReadyH.cons rfl (fun K hK => ?_) AllReadyH.nil)
    simp only [List.getElem_toArray, List.getElem_cons_succ, List.getElem_cons_zero]
    go_simp
    refine (sameRuns_any v5 v6 s.xs s.xs _ ((NodesAt.of_owns r5).adds o6) (NodesAt.of_owns r6) (by omega) (by omega)).mono ?_
    rintro e x7 ⟨rfl, q7, rfl⟩
    rw [show decide (s.xs = s.xs) = true by simp]
    refine hK.out _ _ ⟨cell_al hHeld.1 ((Only.refl (fun _ => False) _).drewN q7), cell_al hHeld.2.1 ((Only.refl (fun _ => False) _).drewN q7), cell_al hHeld.2.2.1 ((Only.refl (fun _ => False) _).drewN q7), hHeld.2.2.2.thenF ((Only.refl (fun _ => False) _).drewN q7)⟩ (fun hHeld => ?_)
    clear hK K
    try simp only [Act.put, List.getElem_toArray, List.getElem_cons_succ, List.getElem_cons_zero, List.setIfInBounds_toArray, List.set_cons_zero, List.set_cons_succ]
    refine wpAnyH_take (i := 27) (v := (.bool true)) rfl (by kernel_rfl) (by kernel_rfl) (by kernel_rfl) (fun _ _ _ h => h) (Or.inl ⟨by rfl, fun W hS => by (go_simp; done)⟩) hHeld ?_
    try simp only [Act.put, List.getElem_toArray, List.getElem_cons_succ, List.getElem_cons_zero, List.setIfInBounds_toArray, List.set_cons_zero, List.set_cons_succ]
    refine wpAnyH_take (i := 28) (v := (.bool true)) rfl (by kernel_rfl) (by kernel_rfl) (by kernel_rfl) (fun _ _ _ h => h) (Or.inl ⟨by rfl, fun W hS => by first | rfl | (go_simp; done)⟩) hHeld ?_
    try simp only [Act.put, List.getElem_toArray, List.getElem_cons_succ, List.getElem_cons_zero, List.setIfInBounds_toArray, List.set_cons_zero, List.set_cons_succ]
    refine wpAnyH_take (i := 29) (v := (.pointer (some ⟨ab, 0, none⟩))) rfl (by kernel_rfl) (by kernel_rfl) (by kernel_rfl) (fun _ _ _ h => h) (Or.inl ⟨by rfl, fun W hS => by first | rfl | (go_simp; done)⟩) hHeld ?_
    try simp only [Act.put, List.getElem_toArray, List.getElem_cons_succ, List.getElem_cons_zero, List.setIfInBounds_toArray, List.set_cons_zero, List.set_cons_succ]
    refine wpAnyH_take (i := 32) (v := (.pointer (some ⟨bb, 0, none⟩))) rfl (by kernel_rfl) (by kernel_rfl) (by kernel_rfl) (fun _ _ _ h => h) (Or.inl ⟨by rfl, fun W hS => by first | rfl | (go_simp; done)⟩) hHeld ?_
    try simp only [Act.put, List.getElem_toArray, List.getElem_cons_succ, List.getElem_cons_zero, List.setIfInBounds_toArray, List.set_cons_zero, List.set_cons_succ]
    refine wpAnyH_take (i := 33) (v := (.pointer (some ⟨bb, 0, none⟩))) rfl (by kernel_rfl) (by kernel_rfl) (by kernel_rfl) (fun _ _ _ h => h) (Or.inl ⟨by rfl, fun W hS => by first | rfl | (go_simp; done)⟩) hHeld ?_
    try simp only [Act.put, List.getElem_toArray, List.getElem_cons_succ, List.getElem_cons_zero, List.setIfInBounds_toArray, List.set_cons_zero, List.set_cons_succ]
    refine wpAnyH_take (i := 34) (v := (.pointer (some ⟨bb, 1, none⟩))) rfl (by kernel_rfl) (by kernel_rfl) (by kernel_rfl) (fun _ _ _ h => h) (Or.inl ⟨by rfl, fun W hS => by first | rfl | (go_simp; done)⟩) hHeld ?_
    try simp only [Act.put, List.getElem_toArray, List.getElem_cons_succ, List.getElem_cons_zero, List.setIfInBounds_toArray, List.set_cons_zero, List.set_cons_succ]
    refine wpAnyH_take (i := 35) (v := (.pointer (some ⟨d.rb, 0, none⟩))) rfl (by kernel_rfl) (by kernel_rfl) (by kernel_rfl) (fun _ _ _ h => h) (Or.inl ⟨by rfl, fun W hS => by (obtain ⟨q1, q2, q3, -⟩ := hS; go_simp; done)⟩) hHeld ?_
    try simp only [Act.put, List.getElem_toArray, List.getElem_cons_succ, List.getElem_cons_zero, List.setIfInBounds_toArray, List.set_cons_zero, List.set_cons_succ]
    refine wpAnyH_ready (rs := [30]) (by kernel_rfl) (by simp) (AllReadyH.cons rfl (fun K hK => ?_) AllReadyH.nil)
    simp only [List.getElem_toArray, List.getElem_cons_succ, List.getElem_cons_zero]
    go_simp
    refine (arenaRuns_any (HR3.out.adds hHeld.2.2.2).ar).mono ?_
    rintro e x1 ⟨rfl, rfl⟩
    refine hK.out _ _ hHeld (fun hHeld => ?_)
    clear hK K
    try simp only [Act.put, List.getElem_toArray, List.getElem_cons_succ, List.getElem_cons_zero, List.setIfInBounds_toArray, List.set_cons_zero, List.set_cons_succ]
    refine wpAnyH_ready (rs := [31]) (by kernel_rfl) (by simp) (AllReadyH.cons rfl (fun K hK => ?_) AllReadyH.nil)
    simp only [List.getElem_toArray, List.getElem_cons_succ, List.getElem_cons_zero]
    go_simp
    refine (shape_any (HR3.out.adds hHeld.2.2.2).rs).mono ?_
    rintro e x8 ⟨v8, rfl, r8, o8⟩
    rw [← hsl] at r8
    refine hK.out _ _ ⟨cell_al hHeld.1 o8, cell_al hHeld.2.1 o8, cell_al hHeld.2.2.1 o8, hHeld.2.2.2.thenF o8⟩ (fun hHeld => ?_)
    clear hK K
    try simp only [Act.put, List.getElem_toArray, List.getElem_cons_succ, List.getElem_cons_zero, List.setIfInBounds_toArray, List.set_cons_zero, List.set_cons_succ]
    refine wpAnyH_ready (rs := [36]) (by kernel_rfl) (by simp) (AllReadyH.cons rfl (fun K hK => ?_) AllReadyH.nil)
    simp only [List.getElem_toArray, List.getElem_cons_succ, List.getElem_cons_zero]
    go_simp
    refine (shape9R_any (HR3.out.adds hHeld.2.2.2).me.ru (HR3.out.rs.ok.tree.bst) (HR3.out.rs.ok.tree.heap) HKD.out).mono ?_
    rintro e x9 ⟨v9, rfl, r9, o9⟩
    refine hK.out _ _ ⟨cell_al hHeld.1 o9, cell_al hHeld.2.1 o9, cell_al hHeld.2.2.1 o9, hHeld.2.2.2.thenF o9⟩ (fun hHeld => ?_)
    clear hK K
    try simp only [Act.put, List.getElem_toArray, List.getElem_cons_succ, List.getElem_cons_zero, List.setIfInBounds_toArray, List.set_cons_zero, List.set_cons_succ]
    refine wpAnyH_ready (rs := [37]) (by kernel_rfl) (by simp) (AllReadyH.cons rfl (fun K hK => ?_) AllReadyH.nil)
    simp only [List.getElem_toArray, List.getElem_cons_succ, List.getElem_cons_zero]
    go_simp
    refine (sameNodes_any v8 v9 (s.t.shape 0) (s.t.shape 0) _ ((NodesAt.of_owns r8).adds o9) (NodesAt.of_owns r9) (by omega) (by omega)).mono ?_
    rintro e x7 ⟨rfl, q9, rfl⟩
    rw [show decide (s.t.shape 0 = s.t.shape 0) = true by simp]
    refine hK.out _ _ ⟨cell_al hHeld.1 ((Only.refl (fun _ => False) _).drewN q9), cell_al hHeld.2.1 ((Only.refl (fun _ => False) _).drewN q9), cell_al hHeld.2.2.1 ((Only.refl (fun _ => False) _).drewN q9), hHeld.2.2.2.thenF ((Only.refl (fun _ => False) _).drewN q9)⟩ (fun hHeld => ?_)
    clear hK K
    try simp only [Act.put, List.getElem_toArray, List.getElem_cons_succ, List.getElem_cons_zero, List.setIfInBounds_toArray, List.set_cons_zero, List.set_cons_succ]
    refine wpAnyH_take (i := 38) (v := (.bool true)) rfl (by kernel_rfl) (by kernel_rfl) (by kernel_rfl) (fun _ _ _ h => h) (Or.inl ⟨by rfl, fun W hS => by (go_simp; done)⟩) hHeld ?_
    try simp only [Act.put, List.getElem_toArray, List.getElem_cons_succ, List.getElem_cons_zero, List.setIfInBounds_toArray, List.set_cons_zero, List.set_cons_succ]
    refine wpAnyH_take (i := 39) (v := (.bool true)) rfl (by kernel_rfl) (by kernel_rfl) (by kernel_rfl) (fun _ _ _ h => h) (Or.inl ⟨by rfl, fun W hS => by first | rfl | (go_simp; done)⟩) hHeld ?_
    try simp only [Act.put, List.getElem_toArray, List.getElem_cons_succ, List.getElem_cons_zero, List.setIfInBounds_toArray, List.set_cons_zero, List.set_cons_succ]
    refine wpAnyH_ready (rs := [40]) (by kernel_rfl) (by simp) (AllReadyH.cons rfl (fun K hK => ?_) AllReadyH.nil)
    simp only [List.getElem_toArray, List.getElem_cons_succ, List.getElem_cons_zero]
    go_simp
    refine (awake11D_any _).mono ?_
    rintro e x10 ⟨rfl, o10⟩
    refine hK.out _ _ ⟨cell_al hHeld.1 o10, cell_al hHeld.2.1 o10, cell_al hHeld.2.2.1 o10, hHeld.2.2.2.thenF o10⟩ (fun hHeld => ?_)
    clear hK K
    try simp only [Act.put, List.getElem_toArray, List.getElem_cons_succ, List.getElem_cons_zero, List.setIfInBounds_toArray, List.set_cons_zero, List.set_cons_succ]
    refine wpAnyH_take (i := 41) (v := (.bool true)) rfl (by kernel_rfl) (by kernel_rfl) (by kernel_rfl) (fun _ _ _ h => h) (Or.inl ⟨by rfl, fun W hS => by (go_simp; done)⟩) hHeld ?_
    try simp only [Act.put, List.getElem_toArray, List.getElem_cons_succ, List.getElem_cons_zero, List.setIfInBounds_toArray, List.set_cons_zero, List.set_cons_succ]
    refine wpAnyH_take (i := 42) (v := (.bool true)) rfl (by kernel_rfl) (by kernel_rfl) (by kernel_rfl) (fun _ _ _ h => h) (Or.inl ⟨by rfl, fun W hS => by first | rfl | (go_simp; done)⟩) hHeld ?_
    try simp only [Act.put, List.getElem_toArray, List.getElem_cons_succ, List.getElem_cons_zero, List.setIfInBounds_toArray, List.set_cons_zero, List.set_cons_succ]
    refine wpAnyH_done (by kernel_rfl) ?_ _
    go_wp2_with fail
    go_ret
    exact ⟨rfl, (HO3.out.thenF hHeld.2.2.2).below (Nat.le_refl _) (fun _ _ h => h)⟩
  · have hmf : Lay.may P T = false := by simpa using hm
    have HA1 := Lib.hid (fun V => arenaNewD_no P T a1 k c1 V hmf)
    have HA2 := Lib.hid (fun V => newMemD_no P T a1 k c1 V hmf)
    clear hm hmf
    go_enter Try.func3, Try.ntmps3
    go_upto_region 2 with fail
    refine wp_region_held_drew (S := (fun W' => W'.cell? ⟨B, 0, none⟩ = some (.int .i64 P) ∧ W'.cell? ⟨B, 1, none⟩ = some (.int .i64 T) ∧ W'.cell? ⟨B, 2, none⟩ = some (.slice a1 k c1))) (by kernel_rfl) ⟨b0, b1, b2⟩ (fun hHeld => ?_)
    refine wpAnyH_take (i := 0) (v := (.agg #[.int .i64 P, .int .i64 T, .slice a1 k c1])) rfl (by kernel_rfl) (by kernel_rfl) (by kernel_rfl) (fun _ _ _ h => h) (Or.inl ⟨by rfl, fun W hS => by (obtain ⟨q1, q2, q3⟩ := hS; go_simp; done)⟩) hHeld ?_
    try simp only [Act.put, List.getElem_toArray, List.getElem_cons_succ, List.getElem_cons_zero, List.setIfInBounds_toArray, List.set_cons_zero, List.set_cons_succ]
    refine wpAnyH_take (i := 2) (v := (.agg #[.int .i64 P, .int .i64 T, .slice a1 k c1])) rfl (by kernel_rfl) (by kernel_rfl) (by kernel_rfl) (fun _ _ _ h => h) (Or.inl ⟨by rfl, fun W hS => by (obtain ⟨q1, q2, q3⟩ := hS; go_simp; done)⟩) hHeld ?_
    try simp only [Act.put, List.getElem_toArray, List.getElem_cons_succ, List.getElem_cons_zero, List.setIfInBounds_toArray, List.set_cons_zero, List.set_cons_succ]
    refine wpAnyH_ready (rs := [1]) (by kernel_rfl) (by simp) (AllReadyH.cons rfl (fun K hK => ?_) AllReadyH.nil)
    simp only [List.getElem_toArray, List.getElem_cons_succ, List.getElem_cons_zero]
    go_simp
    refine (HA1.out _).mono ?_
    rintro e u1 ⟨rfl, o1⟩
    refine hK.out _ _ ⟨cell_al hHeld.1 o1, cell_al hHeld.2.1 o1, cell_al hHeld.2.2 o1⟩ (fun hHeld => ?_)
    clear hK K
    try simp only [Act.put, List.getElem_toArray, List.getElem_cons_succ, List.getElem_cons_zero, List.setIfInBounds_toArray, List.set_cons_zero, List.set_cons_succ]
    refine wpAnyH_ready (rs := [3]) (by kernel_rfl) (by simp) (AllReadyH.cons rfl (fun K hK => ?_) AllReadyH.nil)
    simp only [List.getElem_toArray, List.getElem_cons_succ, List.getElem_cons_zero]
    go_simp
    refine (HA2.out _).mono ?_
    rintro e u2 ⟨rfl, o2⟩
    refine hK.out _ _ ⟨cell_al hHeld.1 o2, cell_al hHeld.2.1 o2, cell_al hHeld.2.2 o2⟩ (fun hHeld => ?_)
    clear hK K
    try simp only [Act.put, List.getElem_toArray, List.getElem_cons_succ, List.getElem_cons_zero, List.setIfInBounds_toArray, List.set_cons_zero, List.set_cons_succ]
    refine wpAnyH_take (i := 4) (v := (.pointer none)) rfl (by kernel_rfl) (by kernel_rfl) (by kernel_rfl) (fun _ _ _ h => h) (Or.inl ⟨by rfl, fun W hS => by first | rfl | (go_simp; done)⟩) hHeld ?_
    try simp only [Act.put, List.getElem_toArray, List.getElem_cons_succ, List.getElem_cons_zero, List.setIfInBounds_toArray, List.set_cons_zero, List.set_cons_succ]
    refine wpAnyH_take (i := 5) (v := (.pointer none)) rfl (by kernel_rfl) (by kernel_rfl) (by kernel_rfl) (fun _ _ _ h => h) (Or.inl ⟨by rfl, fun W hS => by first | rfl | (go_simp; done)⟩) hHeld ?_
    try simp only [Act.put, List.getElem_toArray, List.getElem_cons_succ, List.getElem_cons_zero, List.setIfInBounds_toArray, List.set_cons_zero, List.set_cons_succ]
    refine wpAnyH_done (by kernel_rfl) ?_ _
    go_wp2_with (go_at_call 14; refine (awake11D_any _).mono ?_; rintro e v9 ⟨rfl, ho9⟩)
    go_ret
    exact ⟨rfl, ((((HO.out.drew).thenF o1).thenF o2).thenF ho9).below (by omega) (fun _ _ h => h)⟩
end Go.Proofs.Ytbijbpnhakbeeaa

/- Package runs: List (slices.Clone of runs), New with draws, at whatever state; of no runs. By an AI agent. -/
import Derived.Test.YtbijbpnhakbeeaaRunsOps
import Derived.Maps.AppendAt
namespace Go.Proofs.Ytbijbpnhakbeeaa
open Go.RowKit

set_option maxRecDepth 100000 in
set_option maxHeartbeats 2000000 in
theorem cloneRun_any {w : World} {v : Value} {n : Nat} {cs : List Value} (hr : w.ownsRow 0 63 2 v n cs) (h1 : ∀ u ∈ cs, u.oneCell' = true) (hn : n < 1000000) :
    Calls Try.prog 55 #[v] w fun e w' => ∃ v', e = .returned v' ∧ w'.ownsRow w.heap.size 63 2 v' n cs ∧ Adds w w' := by
  have he := fun W a n c => Lib.run_eql_slice_nil (P := Try.prog) W 49 63 a n c 0 0 Try.underlying49
  rcases row_shape hr with ⟨rfl, rfl⟩ | ⟨g, cap, rfl⟩
  · have hcs : cs = [] := by have := hr.1; simpa using this
    subst hcs
    go_enter Try.func55, Try.ntmps55
    go_wp2
    go_ret
    exact ⟨_, rfl, World.ownsRow_nil _ _ _ _, Only.refl _ _⟩
  · obtain ⟨i0, hi, hz0, hz1, hz2⟩ := info_parts infoRunI
    have hc : ∀ j u, cs[j]? = some u → (w.alloc (.cells #[] 63)).cell? ((⟨g, 0, none⟩ : Addr).add j) = some u := by
      intro j u hj
      rw [Addr.add_lit, Nat.zero_add]
      refine cell_al ?_ ((Only.refl _ w).alloc _)
      rcases hr.2 with ⟨h0, _⟩ | ⟨g', cap', cur, h0, _, hg, _, _, _, hx⟩
      · cases h0
      · cases h0
        rw [← hx, List.getElem?_take] at hj
        split at hj
        · simpa [World.cell?, hg] using hj
        · cases hj
    have hl := hr.1
    have HC := Lib.hid hc; have H1 := Lib.hid h1
    clear hc hr h1
    go_enter Try.func55, Try.ntmps55
    go_wp2_with (at_builtin; refine wpList_append_own _ rfl _ _ 49 rfl w.heap.size 63 i0 (.agg #[.int .i64 0, .int .i64 0]) 2 16 Try.underlying49 hi hz0 hz1 hz2 rfl (by decide) _ _ _ rfl (World.ownsRow_made w #[] 0 (Nat.le_refl _) (Nat.zero_le _) (by simp)) ⟨g, 0, none⟩ n cap cs rfl hl HC.out H1.out (by unfold maxLen; omega) (by omega) (by simp) ?_; intro v' w' hown' hgrow hnil)
    go_ret
    have hb := ((Below.refl w.heap.size w).alloc (Nat.le_refl _) (.cells #[] 63)).grown hgrow (by simp) (fun k e => by cases e; exact Nat.le_refl _)
    exact ⟨v', rfl, by simpa using hown', (Only.of_below hb).mono (fun _ hk h => absurd hk (Nat.not_lt.2 h))⟩
theorem infoU32R : (Try.prog.info? 113).map (fun i => (i.zero, i.size, i.bytes)) = some (some (.int .u32 0), 1, 4) := by kernel_rfl
/-- A slice of draws that may be read. -/
def Draws (w : World) (v : Value) (ds : List Int) : Prop := (v = .slice none 0 0 ∧ ds = []) ∨ (∃ g off cap, v = .slice (some ⟨g, off, none⟩) ds.length cap ∧ ∀ (j : Nat) (d : Int), ds[j]? = some d → w.cell? ⟨g, off + j, none⟩ = some (.int .u32 d)) ∨ (ds = [] ∧ ∃ ad c, v = .slice (some ad) 0 c)
theorem Draws.adds {w w' : World} {v : Value} {ds : List Int} (h : Draws w v ds) (ho : Adds w w') : Draws w' v ds := by
  rcases h with h | ⟨g, off, cap, h1, h2⟩ | h
  · exact .inl h
  · exact .inr (.inl ⟨g, off, cap, h1, fun j d hj => cell_al (h2 j d hj) ho⟩)
  · exact .inr (.inr h)
theorem Draws.row {w : World} {base n : Nat} {v : Value} {ds : List Int} (h : w.ownsRow base 113 1 v n (ds.map (.int .u32))) : Draws w v ds := by
  have hl := h.1
  simp at hl
  rcases h.2 with ⟨rfl, h0⟩ | ⟨g, cap, cur, hv, _, hg, _, _, _, hx⟩
  · exact .inl ⟨rfl, List.length_eq_zero_iff.1 (by omega)⟩
  · refine .inr (.inl ⟨g, 0, cap, by rw [hv, hl], fun j d hj => ?_⟩)
    have h1 : (cur.toList.take (n * 1))[j]? = some (.int .u32 d) := by rw [hx, List.getElem?_map, hj]; rfl
    rw [List.getElem?_take] at h1
    split at h1
    · simpa [World.cell?, hg] using h1
    · cases h1
set_option maxRecDepth 100000 in
set_option maxHeartbeats 2000000 in
theorem cloneU32_any {w : World} {v : Value} {ds : List Int} (hr : Draws w v ds) (hn : ds.length < 1000000) :
    Calls Try.prog 63 #[v] w fun e w' => ∃ v', e = .returned v' ∧ w'.ownsRow w.heap.size 113 1 v' ds.length (ds.map (.int .u32)) ∧ Adds w w' := by
  have he := fun W a n c => Lib.run_eql_slice_nil (P := Try.prog) W 22 113 a n c 0 0 Try.underlying22
  rcases hr with ⟨rfl, rfl⟩ | hr
  · go_enter Try.func63, Try.ntmps63
    go_wp2
    go_ret
    exact ⟨_, rfl, World.ownsRow_nil _ _ _ _, Only.refl _ _⟩
  · obtain ⟨i0, hi, hz0, hz1, hz2⟩ := info_parts infoU32R
    obtain ⟨ad, cap, rfl, hc⟩ : ∃ ad cap, v = .slice (some ad) ds.length cap ∧ ∀ j u, (ds.map (Value.int .u32))[j]? = some u → (w.alloc (.cells #[] 113)).cell? (ad.add j) = some u := by
      rcases hr with ⟨g, off, cap, rfl, hr⟩ | ⟨rfl, ad, c, rfl⟩
      · refine ⟨⟨g, off, none⟩, cap, rfl, fun j u hj => ?_⟩
        rw [Addr.add_lit]
        rw [List.getElem?_map] at hj
        cases hd : ds[j]? with
        | none => rw [hd] at hj; cases hj
        | some d =>
          rw [hd] at hj; cases hj
          exact cell_al (hr j d hd) ((Only.refl _ w).alloc _)
      · exact ⟨ad, c, rfl, fun j u hj => by simp at hj⟩
    have HC := Lib.hid hc
    clear hc hr
    go_enter Try.func63, Try.ntmps63
    go_wp2_with (at_builtin; refine wpList_append_own _ rfl _ _ 22 rfl w.heap.size 113 i0 (.int .u32 0) 1 4 Try.underlying22 hi hz0 hz1 hz2 rfl (by decide) _ _ _ rfl (World.ownsRow_made w #[] 0 (Nat.le_refl _) (Nat.zero_le _) (by simp)) ad ds.length cap (ds.map (.int .u32)) rfl (by simp) HC.out (by intro u hu; obtain ⟨d, _, rfl⟩ := List.mem_map.1 hu; rfl) (by unfold maxLen; omega) (by omega) (by simp) ?_; intro v' w' hown' hgrow hnil)
    go_ret
    have hb := ((Below.refl w.heap.size w).alloc (Nat.le_refl _) (.cells #[] 113)).grown hgrow (by simp) (fun k e => by cases e; exact Nat.le_refl _)
    exact ⟨v', rfl, by simpa using hown', (Only.of_below hb).mono (fun _ hk h => absurd hk (Nat.not_lt.2 h))⟩
set_option maxHeartbeats 1000000 in
theorem list_any {w : World} {s : RS} (h : IsRuns w s) : Calls Try.prog 23 #[.pointer (some ⟨s.rb, 0, none⟩)] w fun e w' => ∃ v, e = .returned v ∧ w'.ownsRow w.heap.size 63 2 v s.xs.length (shCells s.xs) ∧ Adds w w' := by
  obtain ⟨_, _, _, _, c4, _⟩ := h.cells
  have hsz : s.xs.length < 1000000 := by have := h.ok.list.len (by have := h.ok.P1; omega); have := h.ok.P2; omega
  have HS := Lib.hid (cloneRun_any h.row (shCells_one _) hsz)
  clear h
  go_enter Try.func23, Try.ntmps23
  go_wp2_with (go_at_call 55; refine HS.out.mono ?_; rintro e w1 ⟨v, rfl, hr, ho⟩)
  go_ret
  exact ⟨v, rfl, hr, ho⟩

theorem ownsRow_base0 {W : World} {base : Nat} {e : TypeId} {size : Nat} {v : Value} {k : Nat} {xs : List Value} (h : W.ownsRow base e size v k xs) : W.ownsRow 0 e size v k xs := by
  refine ⟨h.1, ?_⟩
  rcases h.2 with hn | ⟨g, cap, cur, hv, _, rest⟩
  · exact .inl hn
  · exact .inr ⟨g, cap, cur, hv, Nat.zero_le _, rest⟩
/-- The runs of an arena that begins. -/
structure NewRuns (P : Int) (ds : List Int) (s : RS) : Prop where
  eP : s.P = P
  eds : s.ds = ds
  edn : s.dn = 1
  exs : s.xs = [(0, P)]
  et : ∃ nb, s.t = .node nb (8192 * P) (ds[0]?.getD 0) (.agg #[.int .i64 0, .int .i64 P]) .nil .nil
set_option maxRecDepth 100000 in
set_option maxHeartbeats 4000000 in
theorem new_any {w : World} (P : Int) {v : Value} {ds : List Int} (h1 : 1 ≤ P) (h2 : P ≤ 4096) (hd : Draws w v ds) (hn : ds.length < 1000000) :
    Calls Try.prog 34 #[.int .i64 P, v] w fun e w' => ∃ s, e = .returned (.pointer (some ⟨s.rb, 0, none⟩)) ∧ IsRuns w' s ∧ NewRuns P ds s ∧ Adds w w' ∧ ∀ y, s.all y → w.heap.size ≤ y := by
  have HC := Lib.hid (cloneU32_any hd hn)
  clear hd
  go_enter Try.func34, Try.ntmps34
  go_wp2_with fail
  refine HC.out.mono ?_; rintro e w1 ⟨dv, rfl, hrow, ho1⟩
  obtain ⟨da, dl, dc, hdv⟩ := ownsRow_slice hrow
  subst hdv
  have HROW := Lib.hid hrow; have HO1 := Lib.hid ho1
  clear hrow ho1
  obtain ⟨dv, hdv⟩ : ∃ dv, dv = Value.slice da dl dc := ⟨_, rfl⟩
  rw [← hdv] at HROW
  go_wp2_with fail
  refine (newR_any _).mono ?_; rintro e w2 ⟨rfl, ht2, ho2⟩
  obtain ⟨s0, hs0⟩ : ∃ s0 : RS, s0 = { rb := w2.heap.size, tb := w1.heap.size, P := P, dv := .slice da dl dc, ds := ds, dn := 0, t := .nil, lv := .slice none 0 0, xs := [] } := ⟨_, rfl⟩
  have hsz1 := HO1.out.size; have hsz2 := ho2.size
  subst hdv
  have hI : IsRuns (w2.alloc (.cells #[.int .i64 P, .slice da dl dc, .int .i64 0, .pointer (some ⟨w1.heap.size, 0, none⟩), .slice none 0 0, .int .i64 0] 98)) s0 := by
    subst hs0
    refine ⟨Blk.new w2 _ _, ?_, ht2.alloc _, World.ownsRow_nil _ _ _ _, ?_, id, ⟨h1, h2, RunsOk.nil _, Tr.ok_nil, rfl, fun e he => (by cases he), fun x hx => (by cases hx)⟩⟩
    · exact row_only2 (ownsRow_base0 HROW.out) (ho2.thenF ((Only.refl _ w2).alloc _)) (fun _ _ h => h)
    · have := ht2.head.lt; show w2.heap.size ≠ w1.heap.size; omega
  have HI := Lib.hid hI
  clear hI ht2
  go_wp2_with fail
  obtain ⟨x, hx⟩ : ∃ x : Int × Int, x = (0, P) := ⟨_, rfl⟩
  have hpt := put_any HI.out x (by subst hs0 hx; simp only; omega) (by subst hs0; intro y hy; cases hy) (by subst hs0; simp)
  subst hs0 hx
  refine hpt.mono ?_
  rintro e w3 ⟨⟨v3, rfl⟩, nb, lv, h3, m3⟩
  have H3 := Lib.hid h3; have M3 := Lib.hid m3
  clear h3 m3 hpt
  go_wp2_with fail
  go_ret
  refine ⟨_, rfl, H3.out, ⟨rfl, rfl, rfl, rfl, nb, ?_⟩, ?_, fun y hy => ?_⟩
  · show Tr.put nb _ _ _ .nil = _
    simp [Tr.put, Tr.split, Tr.join, Tr.joinWith, RS.draw, kOf]
  · refine (((HO1.out.thenF ho2).thenF ((Only.refl _ w2).alloc _))).andThen M3.out.only (fun i hi hy => ?_)
    rcases hy with hy | (hy | hy) | hy
    · simp only at hy; omega
    · simp only at hy; omega
    · exact hy.elim
    · simp [Value.ownBlock] at hy
  · rcases hy with hy | hy
    · rcases M3.out.own y hy with (hy | (hy | hy) | hy) | hy
      · simp only at hy; omega
      · simp only at hy; omega
      · exact hy.elim
      · simp [Value.ownBlock] at hy
      · simp at hy; omega
    · rcases HROW.out.2 with ⟨e, _⟩ | ⟨g, cap, cur, e, hb, _⟩
      · replace hy : some y = (Value.slice da dl dc).ownBlock := hy
        rw [e] at hy; simp [Value.ownBlock] at hy
      · replace hy : some y = (Value.slice da dl dc).ownBlock := hy
        rw [e] at hy
        obtain rfl : y = g := by simpa [Value.ownBlock] using hy
        exact hb
end Go.Proofs.Ytbijbpnhakbeeaa

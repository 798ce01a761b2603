/- The document's free runs: Shape; New with whatever draws. By an AI agent. -/
import Derived.Deep.DeepCutAuto
import Derived.Deep.CutBlock
import Derived.Deep.OwnRows
import Derived.Test.YtbijbpnhakbeeaaDocShape
namespace Go.Proofs.Ytbijbpnhakbeeaa
open Go.RowKit
set_option maxHeartbeats 2000000 in
theorem shape9R_any {w : World} {s : DS} (h : IsDoc w s) {t : Tr} (hb : t.bst) (hh : t.heap) (hk : kdI s.its = kdT t) :
    Calls Try.prog 27 #[.pointer (some ⟨s.rb, 0, none⟩)] w (ShapeTo w 0 t) := by
  have hl := kd_len hk
  have c1 : w.cell? ⟨s.rb, 1, none⟩ = some s.lv := h.blk.cell 1
  have HS := Lib.hid (show Calls Try.prog 76 #[s.lv, .int .i64 0] w (ShapeTo w 0 t) from shape9_any t w s.lv s.its 0 hb hh hk (ItAt.of_owns h.row).1 (by have := h.il; omega))
  have hT : Calls Try.prog 57 #[.pointer (some ⟨s.rb, 1, none⟩)] w (ShapeTo w 0 t) := by
    clear h
    generalize s.lv = lv at c1 HS
    generalize s.rb = rb at c1
    go_enter Try.func57, Try.ntmps57
    go_wp2_with (go_at_call 76; refine HS.out.mono ?_; rintro e w1 ⟨u, rfl, h1, h2⟩)
    go_ret
    exact ⟨u, rfl, h1, h2⟩
  have HT := Lib.hid hT
  clear h hT c1 HS
  go_enter Try.func27, Try.ntmps27
  go_wp2_with (go_at_call 57; refine HT.out.mono ?_; rintro e w1 ⟨u, rfl, h1, h2⟩)
  go_ret
  exact ⟨u, rfl, h1, h2⟩
theorem infoBool9 : (Try.prog.info? 4).map (fun i => (i.zero, i.size, i.bytes)) = some (some (.bool false), 1, 1) := by kernel_rfl
theorem Draws.src {w : World} {v : Value} {ds : List Int} (h : Draws w v ds) : Src w v ds.length (ds.map (.int .u32)) := by
  rcases h with ⟨rfl, rfl⟩ | ⟨g, off, cap, rfl, h⟩ | ⟨rfl, ad, c, rfl⟩
  · exact .inl ⟨rfl, rfl, rfl⟩
  rotate_left
  · exact .inr (.inr ⟨rfl, rfl, ad, c, rfl⟩)
  · refine .inr (.inl ⟨g, off, cap, rfl, fun j x hj => ?_⟩)
    rw [List.getElem?_map] at hj
    cases hd : ds[j]? with
    | none => rw [hd] at hj; cases hj
    | some d => rw [hd] at hj; cases hj; exact h j d hd
theorem u32_one (ds : List Int) : ∀ u ∈ ds.map (Value.int .u32), u.oneCell' = true := by
  intro u hu
  obtain ⟨d, _, rfl⟩ := List.mem_map.1 hu
  rfl
/-- The document's runs as they are made: no page is free, no run is put. -/
structure Begun (P : Nat) (ds : List Int) (w wx : World) (s : DS) : Prop where
  doc : IsDoc wx s
  fr : s.fr = List.replicate P false
  its : s.its = []
  ds : s.ds = ds
  n : s.n = 0
  adds : Adds w wx
  new : ∀ y, s.all y → w.heap.size ≤ y
theorem Begun.of {P : Nat} {ds : List Int} {w wx : World} {rb fb : Nat} {dv : Value} (h1 : 1 ≤ P) (h2 : P ≤ 4096) (hd : ds.length < 1000000) (hR : Blk wx rb (rCells (.slice (some ⟨fb, 0, none⟩) P P) (.slice none 0 0) dv 0) 104) (hF : Blk wx fb (madeCells #[Value.bool false] P) 4)
    (hD : wx.ownsRow w.heap.size 113 1 dv ds.length (ds.map (.int .u32))) (hA : Adds w wx) (l1 : w.heap.size ≤ rb) (l2 : w.heap.size ≤ fb) : ∃ s, (Value.pointer (some ⟨rb, 0, none⟩)) = .pointer (some ⟨s.rb, 0, none⟩) ∧ Begun P ds w wx s := by
  have hne : rb ≠ fb := fun e => by subst e; exact absurd (hR.uniq hF).2 (by decide)
  have hf : madeCells #[Value.bool false] P = ((List.replicate P false).map Value.bool).toArray := by
    apply Array.ext'
    rw [toList_madeCells_one]
    simp
  refine ⟨⟨rb, fb, List.replicate P false, .slice none 0 0, [], dv, ds, 0⟩, rfl, ⟨?_, ?_, ownsRow_base0 hD, World.ownsRow_nil _ _ _ _, hne, by simpa using h1, by simpa using h2, by simp, hd⟩, rfl, rfl, rfl, rfl, hA, ?_⟩
  · have := hR; unfold DS.fv; simpa using this
  · rw [← hf]; exact hF
  · rintro y ((rfl | rfl) | e | e)
    · exact l1
    · exact l2
    · simp [Value.ownBlock] at e
    · exact row_base hD y e
/-- What New makes. -/
structure NewDoc (P : Nat) (ds : List Int) (s : DS) : Prop where
  fr : s.fr = setTo (List.replicate P false) 0 true P
  its : s.its = [(8192 * (P : Int), ds[0]?.getD 0, 0)]
  ds : s.ds = ds
  n : s.n = 1
theorem begun_page {w wr : World} {D : DS} {k : Nat} (hR : IsDoc wr (D.setF 0 true k)) (hA : Adds w wr) (hl : w.heap.size ≤ D.fb) : IsDoc (wr.setCell ⟨D.fb, k, none⟩ (.bool true)) (D.setF 0 true (k + 1)) ∧ Adds w (wr.setCell ⟨D.fb, k, none⟩ (.bool true)) := by
  have h9 := hR.page (.bool true) rfl
  rw [Nat.zero_add] at h9
  exact ⟨h9, hA.setCell (p := ⟨D.fb, k, none⟩) (.inr hl) _⟩
set_option maxRecDepth 100000 in
set_option maxHeartbeats 8000000 in
theorem new9_any {w : World} (P : Nat) {v : Value} {ds : List Int} (h1 : 1 ≤ P) (h2 : P ≤ 4096) (hd : Draws w v ds) (hn : ds.length < 1000000) :
    Calls Try.prog 38 #[.int .i64 (P : Int), v] w fun e w' => ∃ s, e = .returned (.pointer (some ⟨s.rb, 0, none⟩)) ∧ IsDoc w' s ∧ NewDoc P ds s ∧ Adds w w' ∧ ∀ y, s.all y → w.heap.size ≤ y := by
  obtain ⟨i0, hi, hz0, hz1, hz2⟩ := info_parts infoU32R
  have hmk := fun W => run_make_row' (P := Try.prog) 99 4 (.bool false) 1 Try.underlying99 infoBool9 rfl .i64 .i64 P (by omega) (by omega) W
  have g1 : decide ((P : Int) < 1) = false := by simp; omega
  have g2 : decide ((P : Int) > 4096) = false := by simp; omega
  have g3 : ¬ (P : Int) < 1 := by omega
  have g4 : ¬ (P : Int) > 4096 := by omega
  have HD := Lib.hid hd.src
  obtain ⟨dl, hdl⟩ : ∃ dl, ds.length = dl := ⟨_, rfl⟩
  obtain ⟨dc, hdc⟩ : ∃ dc, ds.map (Value.int .u32) = dc := ⟨_, rfl⟩
  have hdcl : dc.length = dl := by rw [← hdc, ← hdl]; simp
  have hd1 : ∀ u ∈ dc, u.oneCell' = true := by rw [← hdc]; exact u32_one ds
  rw [hdl, hdc] at HD
  rw [hdl] at hn
  have HDL := Lib.hid hdl; have HDC := Lib.hid hdc; have HD1 := Lib.hid hd1
  clear hd hdl hdc hd1
  go_enter Try.func38, Try.ntmps38
  go_upto_region 3 with fail
  go_cut [5] (fun x wx => ∃ s, x = .pointer (some ⟨s.rb, 0, none⟩) ∧ Begun P ds w wx s)
  case first =>
    refine wp_region_held_drew (S := (fun W => Adds w W)) (by kernel_rfl) ((Only.refl (fun _ => False) w).drew) (fun hHeld => ?_)
    refine wpAnyH_take (i := 0) (v := (.int .i64 (P : Int))) rfl (by kernel_rfl) (by kernel_rfl) (by kernel_rfl) (fun _ _ _ h => h) (Or.inl ⟨by rfl, fun W hS => by first | rfl | (go_simp; done)⟩) hHeld ?_
    try simp only [Act.put, List.getElem_toArray, List.getElem_cons_succ, List.getElem_cons_zero, List.setIfInBounds_toArray, List.set_cons_zero, List.set_cons_succ]
    refine wpAnyH_take (i := 3) (v := v) rfl (by kernel_rfl) (by kernel_rfl) (by kernel_rfl) (fun _ _ _ h => h) (Or.inl ⟨by rfl, fun W hS => by first | rfl | (go_simp; done)⟩) hHeld ?_
    try simp only [Act.put, List.getElem_toArray, List.getElem_cons_succ, List.getElem_cons_zero, List.setIfInBounds_toArray, List.set_cons_zero, List.set_cons_succ]
    refine wpAnyH_ready (rs := [1, 2]) (by kernel_rfl) (by simp) (AllReadyH.cons rfl (fun K hK => ?_) (AllReadyH.cons rfl (fun K hK => ?_) AllReadyH.nil))
    · simp only [List.getElem_toArray, List.getElem_cons_succ, List.getElem_cons_zero]
      go_simp
      have hF : Blk (w.drew.alloc (.cells (madeCells #[Value.bool false] P) 4)) w.drew.heap.size (madeCells #[Value.bool false] P) 4 := Blk.new w.drew _ _
      have hlf : w.heap.size ≤ w.heap.size := Nat.le_refl _
      have hF : Blk _ w.heap.size _ _ := hF
      refine hK.out _ (w.drew.alloc (.cells (madeCells #[Value.bool false] P) 4)) (hHeld.alloc _) (fun hHeld => ?_)
      clear hK
      try simp only [Act.put, List.getElem_toArray, List.getElem_cons_succ, List.getElem_cons_zero, List.setIfInBounds_toArray, List.set_cons_zero, List.set_cons_succ]
      generalize w.drew.alloc (.cells (madeCells #[Value.bool false] P) 4) = W1 at hF hHeld ⊢
      refine wpAnyH_ready (rs := [2]) (by kernel_rfl) (by simp) (AllReadyH.cons rfl (fun K hK => ?_) AllReadyH.nil)
      simp only [List.getElem_toArray, List.getElem_cons_succ, List.getElem_cons_zero]
      go_simp
      have hE : Blk (W1.alloc (.cells #[] 113)) W1.heap.size #[] 113 := Blk.new W1 _ _
      have hF := hF.alloc (.cells #[] 113)
      have hle : w.heap.size ≤ W1.heap.size := hHeld.size
      refine hK.out _ (W1.alloc (.cells #[] 113)) (hHeld.alloc _) (fun hHeld => ?_)
      clear hK
      try simp only [Act.put, List.getElem_toArray, List.getElem_cons_succ, List.getElem_cons_zero, List.setIfInBounds_toArray, List.set_cons_zero, List.set_cons_succ]
      generalize W1.heap.size = gE at hE hle ⊢
      generalize W1.alloc (.cells #[] 113) = W2 at hE hF hHeld ⊢
      refine wpAnyH_ready (rs := [4]) (by kernel_rfl) (by simp) (AllReadyH.cons rfl (fun K hK => ?_) AllReadyH.nil)
      simp only [List.getElem_toArray, List.getElem_cons_succ, List.getElem_cons_zero]
      rw [if_pos (by rfl)]
      refine wp_append_src _ _ 22 113 rfl i0 (.int .u32 0) 1 4 Try.underlying22 hi hz0 hz1 hz2 rfl (by decide) w.heap.size (.slice (some ⟨gE, 0, none⟩) 0 0) 0 [] rfl (owns_emptyB hE hle 1) v dl dc rfl (HD.out.adds hHeld) (by omega) HD1.out (by unfold maxLen; omega) (by omega) (by have := hHeld.size; omega) ?_
      intro dv W3 hD hO'
      have hO := hO'.mono (T := (w.heap.size ≤ ·)) (fun y _ e => row_base (owns_emptyB hE hle 1) y e)
      rw [Nat.zero_add, List.nil_append] at hD
      have hF := hF.only hO' (fun e => by have e2 := Option.some.inj e; simp only at e2; rw [e2] at hF; exact absurd (hE.uniq hF).2 (by decide))
      refine hK.out _ W3 (hHeld.andThen hO (fun i hi e => by omega)) (fun hHeld => ?_)
      clear hK hO hO' hE
      try simp only [Act.put, List.getElem_toArray, List.getElem_cons_succ, List.getElem_cons_zero, List.setIfInBounds_toArray, List.set_cons_zero, List.set_cons_succ]
      obtain ⟨da, dcap, rfl⟩ := ownsRow_opened hD
      refine wpAnyH_take (i := 5) (v := (.agg (rCells (.slice (some ⟨w.heap.size, 0, none⟩) P P) (.slice none 0 0) (.slice da dl dcap) 0))) rfl (by kernel_rfl) (by kernel_rfl) (by kernel_rfl) (fun _ _ _ h => h) (Or.inl ⟨by rfl, fun W hS => by (go_simp; done)⟩) hHeld ?_
      try simp only [Act.put, List.getElem_toArray, List.getElem_cons_succ, List.getElem_cons_zero, List.setIfInBounds_toArray, List.set_cons_zero, List.set_cons_succ]
      refine wpAnyH_ready (rs := [6]) (by kernel_rfl) (by simp) (AllReadyH.cons rfl (fun K hK => ?_) AllReadyH.nil)
      simp only [List.getElem_toArray, List.getElem_cons_succ, List.getElem_cons_zero]
      go_simp
      have hR : Blk (W3.alloc (.cells (rCells (.slice (some ⟨w.heap.size, 0, none⟩) P P) (.slice none 0 0) (.slice da dl dcap) 0) 104)) W3.heap.size (rCells (.slice (some ⟨w.heap.size, 0, none⟩) P P) (.slice none 0 0) (.slice da dl dcap) 0) 104 := Blk.new W3 _ _
      have hF := hF.alloc (.cells (rCells (.slice (some ⟨w.heap.size, 0, none⟩) P P) (.slice none 0 0) (.slice da dl dcap) 0) 104)
      have hD := row_only2 hD ((Only.refl (fun _ => False) W3).alloc (.cells (rCells (.slice (some ⟨w.heap.size, 0, none⟩) P P) (.slice none 0 0) (.slice da dl dcap) 0) 104)) (fun _ _ h => h)
      have hlr : w.heap.size ≤ W3.heap.size := hHeld.size
      refine hK.out _ (W3.alloc (.cells (rCells (.slice (some ⟨w.heap.size, 0, none⟩) P P) (.slice none 0 0) (.slice da dl dcap) 0) 104)) (hHeld.alloc _) (fun hHeld => ?_)
      clear hK
      try simp only [Act.put, List.getElem_toArray, List.getElem_cons_succ, List.getElem_cons_zero, List.setIfInBounds_toArray, List.set_cons_zero, List.set_cons_succ]
      generalize W3.heap.size = gR at hR hlr ⊢
      generalize W3.alloc (.cells (rCells (.slice (some ⟨w.heap.size, 0, none⟩) P P) (.slice none 0 0) (.slice da dl dcap) 0) 104) = WZ at hF hD hR hHeld ⊢
      refine wpAnyH_take (i := 7) (v := (.pointer (some ⟨gR, 0, none⟩))) rfl (by kernel_rfl) (by kernel_rfl) (by kernel_rfl) (fun _ _ _ h => h) (Or.inl ⟨by rfl, fun W hS => by first | rfl | (go_simp; done)⟩) hHeld ?_
      try simp only [Act.put, List.getElem_toArray, List.getElem_cons_succ, List.getElem_cons_zero, List.setIfInBounds_toArray, List.set_cons_zero, List.set_cons_succ]
      refine wpAnyH_done (by kernel_rfl) ?_ _
      go_wp2_with fail
      go_meet
      rw [← HDC.out, ← HDL.out] at hD
      rw [← HDL.out] at hR
      exact Begun.of h1 h2 (by rw [HDL.out]; exact hn) hR hF hD hHeld hlr hlf
    · simp only [List.getElem_toArray, List.getElem_cons_succ, List.getElem_cons_zero]
      go_simp
      have hE : Blk (w.drew.alloc (.cells #[] 113)) w.drew.heap.size #[] 113 := Blk.new w.drew _ _
      have hle : w.heap.size ≤ w.drew.heap.size := hHeld.size
      refine hK.out _ (w.drew.alloc (.cells #[] 113)) (hHeld.alloc _) (fun hHeld => ?_)
      clear hK
      try simp only [Act.put, List.getElem_toArray, List.getElem_cons_succ, List.getElem_cons_zero, List.setIfInBounds_toArray, List.set_cons_zero, List.set_cons_succ]
      have hE : Blk _ w.heap.size #[] 113 := hE
      have hle : w.heap.size ≤ w.heap.size := Nat.le_refl _
      generalize w.drew.alloc (.cells #[] 113) = W4 at hE hHeld ⊢
      refine wpAnyH_ready (rs := [1, 4]) (by kernel_rfl) (by simp) (AllReadyH.cons rfl (fun K hK => ?_) (AllReadyH.cons rfl (fun K hK => ?_) AllReadyH.nil))
      · simp only [List.getElem_toArray, List.getElem_cons_succ, List.getElem_cons_zero]
        go_simp
        have hF : Blk (W4.alloc (.cells (madeCells #[Value.bool false] P) 4)) W4.heap.size (madeCells #[Value.bool false] P) 4 := Blk.new W4 _ _
        have hE := hE.alloc (.cells (madeCells #[Value.bool false] P) 4)
        have hlf : w.heap.size ≤ W4.heap.size := hHeld.size
        refine hK.out _ (W4.alloc (.cells (madeCells #[Value.bool false] P) 4)) (hHeld.alloc _) (fun hHeld => ?_)
        clear hK
        try simp only [Act.put, List.getElem_toArray, List.getElem_cons_succ, List.getElem_cons_zero, List.setIfInBounds_toArray, List.set_cons_zero, List.set_cons_succ]
        generalize W4.heap.size = gF at hF hlf ⊢
        generalize W4.alloc (.cells (madeCells #[Value.bool false] P) 4) = W5 at hF hE hHeld ⊢
        refine wpAnyH_ready (rs := [4]) (by kernel_rfl) (by simp) (AllReadyH.cons rfl (fun K hK => ?_) AllReadyH.nil)
        simp only [List.getElem_toArray, List.getElem_cons_succ, List.getElem_cons_zero]
        rw [if_pos (by rfl)]
        refine wp_append_src _ _ 22 113 rfl i0 (.int .u32 0) 1 4 Try.underlying22 hi hz0 hz1 hz2 rfl (by decide) w.heap.size (.slice (some ⟨w.heap.size, 0, none⟩) 0 0) 0 [] rfl (owns_emptyB hE hle 1) v dl dc rfl (HD.out.adds hHeld) (by omega) HD1.out (by unfold maxLen; omega) (by omega) (by have := hHeld.size; omega) ?_
        intro dv W6 hD hO'
        have hO := hO'.mono (T := (w.heap.size ≤ ·)) (fun y _ e => row_base (owns_emptyB hE hle 1) y e)
        rw [Nat.zero_add, List.nil_append] at hD
        have hF := hF.only hO' (fun e => by have e2 := Option.some.inj e; simp only at e2; rw [e2] at hF; exact absurd (hE.uniq hF).2 (by decide))
        refine hK.out _ W6 (hHeld.andThen hO (fun i hi e => by omega)) (fun hHeld => ?_)
        clear hK hO hO' hE
        try simp only [Act.put, List.getElem_toArray, List.getElem_cons_succ, List.getElem_cons_zero, List.setIfInBounds_toArray, List.set_cons_zero, List.set_cons_succ]
        obtain ⟨da, dcap, rfl⟩ := ownsRow_opened hD
        refine wpAnyH_take (i := 5) (v := (.agg (rCells (.slice (some ⟨gF, 0, none⟩) P P) (.slice none 0 0) (.slice da dl dcap) 0))) rfl (by kernel_rfl) (by kernel_rfl) (by kernel_rfl) (fun _ _ _ h => h) (Or.inl ⟨by rfl, fun W hS => by (go_simp; done)⟩) hHeld ?_
        try simp only [Act.put, List.getElem_toArray, List.getElem_cons_succ, List.getElem_cons_zero, List.setIfInBounds_toArray, List.set_cons_zero, List.set_cons_succ]
        refine wpAnyH_ready (rs := [6]) (by kernel_rfl) (by simp) (AllReadyH.cons rfl (fun K hK => ?_) AllReadyH.nil)
        simp only [List.getElem_toArray, List.getElem_cons_succ, List.getElem_cons_zero]
        go_simp
        have hR : Blk (W6.alloc (.cells (rCells (.slice (some ⟨gF, 0, none⟩) P P) (.slice none 0 0) (.slice da dl dcap) 0) 104)) W6.heap.size (rCells (.slice (some ⟨gF, 0, none⟩) P P) (.slice none 0 0) (.slice da dl dcap) 0) 104 := Blk.new W6 _ _
        have hF := hF.alloc (.cells (rCells (.slice (some ⟨gF, 0, none⟩) P P) (.slice none 0 0) (.slice da dl dcap) 0) 104)
        have hD := row_only2 hD ((Only.refl (fun _ => False) W6).alloc (.cells (rCells (.slice (some ⟨gF, 0, none⟩) P P) (.slice none 0 0) (.slice da dl dcap) 0) 104)) (fun _ _ h => h)
        have hlr : w.heap.size ≤ W6.heap.size := hHeld.size
        refine hK.out _ (W6.alloc (.cells (rCells (.slice (some ⟨gF, 0, none⟩) P P) (.slice none 0 0) (.slice da dl dcap) 0) 104)) (hHeld.alloc _) (fun hHeld => ?_)
        clear hK
        try simp only [Act.put, List.getElem_toArray, List.getElem_cons_succ, List.getElem_cons_zero, List.setIfInBounds_toArray, List.set_cons_zero, List.set_cons_succ]
        generalize W6.heap.size = gR at hR hlr ⊢
        generalize W6.alloc (.cells (rCells (.slice (some ⟨gF, 0, none⟩) P P) (.slice none 0 0) (.slice da dl dcap) 0) 104) = WZ at hF hD hR hHeld ⊢
        refine wpAnyH_take (i := 7) (v := (.pointer (some ⟨gR, 0, none⟩))) rfl (by kernel_rfl) (by kernel_rfl) (by kernel_rfl) (fun _ _ _ h => h) (Or.inl ⟨by rfl, fun W hS => by first | rfl | (go_simp; done)⟩) hHeld ?_
        try simp only [Act.put, List.getElem_toArray, List.getElem_cons_succ, List.getElem_cons_zero, List.setIfInBounds_toArray, List.set_cons_zero, List.set_cons_succ]
        refine wpAnyH_done (by kernel_rfl) ?_ _
        go_wp2_with fail
        go_meet
        rw [← HDC.out, ← HDL.out] at hD
        rw [← HDL.out] at hR
        exact Begun.of h1 h2 (by rw [HDL.out]; exact hn) hR hF hD hHeld hlr hlf
      · simp only [List.getElem_toArray, List.getElem_cons_succ, List.getElem_cons_zero]
        rw [if_pos (by rfl)]
        refine wp_append_src _ _ 22 113 rfl i0 (.int .u32 0) 1 4 Try.underlying22 hi hz0 hz1 hz2 rfl (by decide) w.heap.size (.slice (some ⟨w.heap.size, 0, none⟩) 0 0) 0 [] rfl (owns_emptyB hE hle 1) v dl dc rfl (HD.out.adds hHeld) (by omega) HD1.out (by unfold maxLen; omega) (by omega) (by have := hHeld.size; omega) ?_
        intro dv W7 hD hO'
        have hO := hO'.mono (T := (w.heap.size ≤ ·)) (fun y _ e => row_base (owns_emptyB hE hle 1) y e)
        rw [Nat.zero_add, List.nil_append] at hD
        refine hK.out _ W7 (hHeld.andThen hO (fun i hi e => by omega)) (fun hHeld => ?_)
        clear hK hO hO' hE
        try simp only [Act.put, List.getElem_toArray, List.getElem_cons_succ, List.getElem_cons_zero, List.setIfInBounds_toArray, List.set_cons_zero, List.set_cons_succ]
        refine wpAnyH_ready (rs := [1]) (by kernel_rfl) (by simp) (AllReadyH.cons rfl (fun K hK => ?_) AllReadyH.nil)
        simp only [List.getElem_toArray, List.getElem_cons_succ, List.getElem_cons_zero]
        go_simp
        have hF : Blk (W7.alloc (.cells (madeCells #[Value.bool false] P) 4)) W7.heap.size (madeCells #[Value.bool false] P) 4 := Blk.new W7 _ _
        have hD := row_only2 hD ((Only.refl (fun _ => False) W7).alloc (.cells (madeCells #[Value.bool false] P) 4)) (fun _ _ h => h)
        have hlf : w.heap.size ≤ W7.heap.size := hHeld.size
        refine hK.out _ (W7.alloc (.cells (madeCells #[Value.bool false] P) 4)) (hHeld.alloc _) (fun hHeld => ?_)
        clear hK
        try simp only [Act.put, List.getElem_toArray, List.getElem_cons_succ, List.getElem_cons_zero, List.setIfInBounds_toArray, List.set_cons_zero, List.set_cons_succ]
        generalize W7.heap.size = gF at hF hlf ⊢
        generalize W7.alloc (.cells (madeCells #[Value.bool false] P) 4) = W8 at hF hD hHeld ⊢
        obtain ⟨da, dcap, rfl⟩ := ownsRow_opened hD
        refine wpAnyH_take (i := 5) (v := (.agg (rCells (.slice (some ⟨gF, 0, none⟩) P P) (.slice none 0 0) (.slice da dl dcap) 0))) rfl (by kernel_rfl) (by kernel_rfl) (by kernel_rfl) (fun _ _ _ h => h) (Or.inl ⟨by rfl, fun W hS => by (go_simp; done)⟩) hHeld ?_
        try simp only [Act.put, List.getElem_toArray, List.getElem_cons_succ, List.getElem_cons_zero, List.setIfInBounds_toArray, List.set_cons_zero, List.set_cons_succ]
        refine wpAnyH_ready (rs := [6]) (by kernel_rfl) (by simp) (AllReadyH.cons rfl (fun K hK => ?_) AllReadyH.nil)
        simp only [List.getElem_toArray, List.getElem_cons_succ, List.getElem_cons_zero]
        go_simp
        have hR : Blk (W8.alloc (.cells (rCells (.slice (some ⟨gF, 0, none⟩) P P) (.slice none 0 0) (.slice da dl dcap) 0) 104)) W8.heap.size (rCells (.slice (some ⟨gF, 0, none⟩) P P) (.slice none 0 0) (.slice da dl dcap) 0) 104 := Blk.new W8 _ _
        have hF := hF.alloc (.cells (rCells (.slice (some ⟨gF, 0, none⟩) P P) (.slice none 0 0) (.slice da dl dcap) 0) 104)
        have hD := row_only2 hD ((Only.refl (fun _ => False) W8).alloc (.cells (rCells (.slice (some ⟨gF, 0, none⟩) P P) (.slice none 0 0) (.slice da dl dcap) 0) 104)) (fun _ _ h => h)
        have hlr : w.heap.size ≤ W8.heap.size := hHeld.size
        refine hK.out _ (W8.alloc (.cells (rCells (.slice (some ⟨gF, 0, none⟩) P P) (.slice none 0 0) (.slice da dl dcap) 0) 104)) (hHeld.alloc _) (fun hHeld => ?_)
        clear hK
        try simp only [Act.put, List.getElem_toArray, List.getElem_cons_succ, List.getElem_cons_zero, List.setIfInBounds_toArray, List.set_cons_zero, List.set_cons_succ]
        generalize W8.heap.size = gR at hR hlr ⊢
        generalize W8.alloc (.cells (rCells (.slice (some ⟨gF, 0, none⟩) P P) (.slice none 0 0) (.slice da dl dcap) 0) 104) = WZ at hF hD hR hHeld ⊢
        refine wpAnyH_take (i := 7) (v := (.pointer (some ⟨gR, 0, none⟩))) rfl (by kernel_rfl) (by kernel_rfl) (by kernel_rfl) (fun _ _ _ h => h) (Or.inl ⟨by rfl, fun W hS => by first | rfl | (go_simp; done)⟩) hHeld ?_
        try simp only [Act.put, List.getElem_toArray, List.getElem_cons_succ, List.getElem_cons_zero, List.setIfInBounds_toArray, List.set_cons_zero, List.set_cons_succ]
        refine wpAnyH_done (by kernel_rfl) ?_ _
        go_wp2_with fail
        go_meet
        rw [← HDC.out, ← HDL.out] at hD
        rw [← HDL.out] at hR
        exact Begun.of h1 h2 (by rw [HDL.out]; exact hn) hR hF hD hHeld hlr hlf
  case rest =>
    obtain ⟨s0, rfl, hB⟩ := hcut
    have hdoc := hB.doc; have hA := hB.adds
    have hl2 : w.heap.size ≤ s0.fb := hB.new _ (.inl (.inr rfl))
    have hlen : s0.fr.length = P := by rw [hB.fr]; simp
    have H0 := Lib.hid hdoc; have HA := Lib.hid hA; have HB := Lib.hid hB
    clear hdoc hA hB
    go_wp2_with fail
    go_loopw [6] (fun iv wr => ∃ i : Nat, iv = .int .i64 (i : Int) ∧ i ≤ P ∧ Hid (IsDoc wr (s0.setF 0 true i)) ∧ Hid (Adds w wr)) (fun iv _ => P - (intOf iv).toNat)
    case atStart => exact ⟨0, rfl, Nat.zero_le _, H0, HA⟩
    case round =>
      obtain ⟨i, rfl, hik, HR, HAW⟩ := hrel
      have hlf : (setTo s0.fr 0 true i).length = P := by rw [setTo_len]; exact hlen
      have d0 : wr.cell? ⟨s0.rb, 0, none⟩ = some (.slice (some ⟨s0.fb, 0, none⟩) P P) := by
        have h9 := HR.out.blk.cell 0
        rw [show (s0.setF 0 true i).rb = s0.rb from rfl, show (s0.setF 0 true i).fv = .slice (some ⟨s0.fb, 0, none⟩) P P by unfold DS.setF DS.fv; simp only [hlf]] at h9
        exact h9
      have hwi := wrap_succ i (by omega)
      by_cases hi2 : i < P
      · have e0 := HR.out.freeCell (i := i) (by show i < (setTo s0.fr 0 true i).length; rw [hlf]; exact hi2)
        rw [show (s0.setF 0 true i).fb = s0.fb from rfl] at e0
        generalize (s0.setF 0 true i).fr.getD i false = ob at e0
        have fe : wr.frozen? ⟨s0.fb, i, none⟩ = false := HR.out.fre.frozen i
        go_wp2_with fail
        go_roundw
        case rel =>
          obtain ⟨n1, n2⟩ := begun_page HR.out HAW.out hl2
          exact ⟨i + 1, by simp, hi2, Lib.hid n1, Lib.hid n2⟩
        case measure => simp [intOf]; omega
      · obtain rfl : i = P := Nat.le_antisymm hik (Nat.le_of_not_lt hi2)
        have had := add9_any HR.out ((0 : Int), (i : Int)) (by simp only; omega) (by show hasK _ s0.its = false; rw [HB.out.its]; rfl) (by show s0.n < _; rw [HB.out.n]; decide) (by show s0.its.length < _; rw [HB.out.its]; decide)
        simp only at had
        have HAD := Lib.hid (show Calls Try.prog 65 #[.pointer (some ⟨s0.rb, 0, none⟩), .agg #[.int .i64 0, .int .i64 i]] wr _ from had)
        clear had
        go_wp2_with (go_at_call 65; refine HAD.out.mono ?_; rintro e W3 ⟨⟨v, rfl⟩, lv, h5, m5⟩; have H5 := Lib.hid h5; have M5 := Lib.hid m5; clear h5 m5)
        go_ret
        refine ⟨(s0.setF 0 true i).add (0, (i : Int)) lv, rfl, H5.out, ⟨?_, ?_, HB.out.ds, ?_⟩, HAW.out.andThen M5.out.only (fun y hy e => ?_), fun y hy => ?_⟩
        · show setTo s0.fr 0 true i = _
          rw [HB.out.fr]
        · show insI _ _ _ s0.its = _
          rw [HB.out.its]
          show [(kOf ((0 : Int), (i : Int)), s0.ds[s0.n]?.getD 0, (0 : Int))] = _
          rw [HB.out.ds, HB.out.n]
          simp [kOf]
        · show s0.n + 1 = 1
          rw [HB.out.n]
        · have := HB.out.new y (.inl e); omega
        · rcases M5.out.all y hy with h9 | h9
          · exact HB.out.new y h9
          · exact Nat.le_trans HAW.out.size h9
end Go.Proofs.Ytbijbpnhakbeeaa

/- The document's free runs: add, at whatever state. By an AI agent. -/
import Derived.Test.YtbijbpnhakbeeaaDocBest
import Derived.Test.YtbijbpnhakbeeaaRunsFree
namespace Go.Proofs.Ytbijbpnhakbeeaa
open Go.RowKit
def DS.draw (s : DS) : Int := s.ds[s.n]?.getD 0
def insI (key d v : Int) (xs : List It) : List It := xs.take (plc key xs) ++ (key, d, v) :: xs.drop (plc key xs)
theorem insI_len (key d v : Int) (xs : List It) : (insI key d v xs).length = xs.length + 1 := by
  unfold insI
  have := plc_le key xs
  simp only [List.length_append, List.length_take, List.length_cons, List.length_drop]
  omega
def DS.add (s : DS) (x : Int × Int) (lv : Value) : DS := { s with n := s.n + 1, lv := lv, its := insI (kOf x) s.draw x.1 s.its }
/-- What a call of the document's runs turns. -/
structure MovD (s s' : DS) (w w' : World) : Prop where
  only : Only s.own w w'
  rb : s'.rb = s.rb
  fb : s'.fb = s.fb
  all : ∀ y, s'.all y → s.all y ∨ w.heap.size ≤ y
theorem MovD.refl (s : DS) {w w' : World} (h : Adds w w') : MovD s s w w' := ⟨h.mono (fun _ _ h => h.elim), rfl, rfl, fun _ h => .inl h⟩
theorem MovD.own_eq {a b : DS} {u v : World} (h : MovD a b u v) : b.own = a.own := by
  funext y; unfold DS.own; rw [h.rb, h.fb]
theorem MovD.trans {a b c : DS} {u v w : World} (h : MovD a b u v) (k : MovD b c v w) : MovD a c u w :=
  ⟨h.only.trans (by have := k.only; rwa [h.own_eq] at this), k.rb.trans h.rb, k.fb.trans h.fb, fun y hy => (k.all y hy).elim (fun h1 => h.all y h1) (fun h1 => .inr (Nat.le_trans h.only.size h1))⟩
theorem MovD.ahead {a b : DS} {u v w : World} (h : Adds u v) (k : MovD a b v w) : MovD a b u w :=
  ⟨(h.mono (T := a.own) (fun _ _ h => h.elim)).trans k.only, k.rb, k.fb, fun y hy => (k.all y hy).elim .inl (fun h1 => .inr (Nat.le_trans h.size h1))⟩
theorem MovD.behind {a b : DS} {u v w : World} (k : MovD a b u v) (h : Adds v w) : MovD a b u w :=
  ⟨k.only.trans (h.mono (fun _ _ h => h.elim)), k.rb, k.fb, k.all⟩
theorem DS.head_ne {w : World} {s : DS} (h : IsDoc w s) : (∀ g, some g = s.lv.ownBlock → g ≠ s.rb) ∧ (∀ g, some g = s.dv.ownBlock → g ≠ s.rb) :=
  ⟨fun g hg e => blk_not_row h.blk (by decide) h.row (by rw [← e]; exact hg), fun g hg e => blk_not_row h.blk (by decide) h.drs (by rw [← e]; exact hg)⟩
/-- The tree's row is another one, and how many draws were taken. -/
theorem IsDoc.turn {w w' : World} {s : DS} (h : IsDoc w s) (ho : Only (· = s.rb) w w') {lv : Value} {its : List It} {n : Nat} (hb : Blk w' s.rb (rCells s.fv lv s.dv n) 104) (hr : w'.ownsRow 0 140 3 lv its.length (itCells its)) (hl : its.length < 900000) : IsDoc w' { s with lv := lv, its := its, n := n } :=
  ⟨hb, h.fre.only ho (fun e => h.ne e.symm), row_only2 h.drs ho (fun g hg e => (DS.head_ne h).2 g hg e), hr, h.ne, h.P1, h.P2, hl, h.dl⟩
theorem IsDoc.moved {w w' : World} {s s' : DS} (h : IsDoc w s) (h' : IsDoc w' s') (ho : Only s.own w w') (hrb : s'.rb = s.rb) (hfb : s'.fb = s.fb) (hdv : s'.dv = s.dv) (hlv : s'.lv = s.lv ∨ ∀ g, some g = s'.lv.ownBlock → w.heap.size ≤ g) : MovD s s' w w' :=
  ⟨ho, hrb, hfb, fun y hy => by
    rcases hy with (e | e) | e | e
    · exact .inl (.inl (.inl (e.trans hrb)))
    · exact .inl (.inl (.inr (e.trans hfb)))
    · rcases hlv with hlv | hlv
      · exact .inl (.inr (.inl (by rw [← hlv]; exact e)))
      · exact .inr (hlv y e)
    · exact .inl (.inr (.inr (by rw [← hdv]; exact e)))⟩
set_option maxRecDepth 100000 in
set_option maxHeartbeats 8000000 in
theorem add9_any {w : World} {s : DS} (h : IsDoc w s) (x : Int × Int) (hx : 0 ≤ x.1 ∧ 1 ≤ x.2 ∧ x.1 + x.2 ≤ 4096) (hk : hasK (kOf x) s.its = false) (hn : s.n < 1000000) (hil : s.its.length < 800000) :
    Calls Try.prog 65 #[.pointer (some ⟨s.rb, 0, none⟩), .agg #[.int .i64 x.1, .int .i64 x.2]] w fun e w' => (∃ v, e = .returned v) ∧ ∃ lv, IsDoc w' (s.add x lv) ∧ MovD s (s.add x lv) w w' := by
  obtain ⟨x1, x2⟩ := x
  simp only at hx
  obtain ⟨rb, hrb⟩ : ∃ rb, s.rb = rb := ⟨_, rfl⟩
  obtain ⟨n, hnn⟩ : ∃ n, s.n = n := ⟨_, rfl⟩
  obtain ⟨da, dc, hdv⟩ := ownsRow_opened h.drs
  have H := Lib.hid h
  have c3 : w.cell? ⟨rb, 3, none⟩ = some (.int .i64 n) := by rw [← hrb, ← hnn]; exact h.blk.cell 3
  have c2 : w.cell? ⟨rb, 2, none⟩ = some (.slice da s.ds.length dc) := by rw [← hrb, ← hdv]; exact h.blk.cell 2
  have f3 : w.frozen? ⟨rb, 3, none⟩ = false := by rw [← hrb]; exact h.blk.frozen 3
  have hrbl : rb < w.heap.size := by rw [← hrb]; exact h.blk.lt
  have hlvf : True := trivial
  obtain ⟨d, hdd⟩ : ∃ d, s.draw = d := ⟨_, rfl⟩
  have hw1 := wrap_ok (8192 * x2) (by omega) (by omega)
  have hw1' := wrap64_ok (8192 * x2) (by omega) (by omega)
  have hw2 := wrap_ok (8192 * x2 + x1) (by omega) (by omega)
  have hw2' := wrap64_ok (8192 * x2 + x1) (by omega) (by omega)
  have hwn := wrap_succ n (by omega)
  have hdraw : (n < s.ds.length ∧ ∃ dg, da = some ⟨dg, 0, none⟩ ∧ w.cell? ⟨dg, n, none⟩ = some (.int .u32 d)) ∨ (¬ n < s.ds.length ∧ d = 0) := by
    by_cases hlt : n < s.ds.length
    · refine .inl ⟨hlt, ?_⟩
      rcases h.drs.2 with ⟨h0, h1⟩ | ⟨g, cap, cur, h1, _, hg, _, _, _, hc⟩
      · omega
      · rw [hdv] at h1
        cases h1
        refine ⟨g, rfl, ?_⟩
        have h2 : s.ds[n]? = some d := by
          unfold DS.draw at hdd
          rw [hnn, List.getElem?_eq_getElem hlt] at hdd
          rw [List.getElem?_eq_getElem hlt]; exact congrArg some hdd
        have h3 : (cur.toList.take (s.ds.length * 1))[n]? = some (.int .u32 d) := by rw [hc, List.getElem?_map, h2]; rfl
        rw [List.getElem?_take] at h3
        split at h3
        · simpa [World.cell?, hg] using h3
        · cases h3
    · refine .inr ⟨hlt, ?_⟩
      unfold DS.draw at hdd
      rw [hnn, List.getElem?_eq_none (by omega)] at hdd
      exact hdd.symm
  obtain ⟨dl, hdl⟩ : ∃ dl, s.ds.length = dl := ⟨_, rfl⟩
  rw [hdl] at hdraw c2
  have HDD := Lib.hid hdd; have HK := Lib.hid hk
  obtain ⟨B, hB⟩ : ∃ B, w.heap.size = B := ⟨_, rfl⟩
  obtain ⟨W, hW⟩ : ∃ W, w.alloc (.cells #[.int .i64 x1, .int .i64 x2] 63) = W := ⟨_, rfl⟩
  have hO0 : Adds w W := by rw [← hW]; exact (Only.refl _ w).alloc _
  have hbx : Blk W B #[.int .i64 x1, .int .i64 x2] 63 := by rw [← hW, ← hB]; exact Blk.new w _ _
  have HO := Lib.hid hO0; have HBX := Lib.hid hbx; have HB := Lib.hid hB
  have c3 := cell_al c3 hO0
  have c2 := cell_al c2 hO0
  have f3 : W.frozen? ⟨rb, 3, none⟩ = false := by rw [← hrb]; exact (H.out.adds hO0).blk.frozen 3
  have HHI := Lib.hid (H.out.adds hO0)
  have hbn : B ≠ rb := by omega
  have HRB := Lib.hid hrb; have HNN := Lib.hid hnn
  rw [hrb]
  have hmv : ∀ (w4 : World), Only (fun _ => False) W w4 → Calls Try.prog 86 #[.pointer (some ⟨rb, 1, none⟩), .int .i64 (8192 * x2 + x1), .int .u32 d, .int .i64 x1] (w4.setCell ⟨rb, 3, none⟩ (.int .i64 (n + 1 : Int))) (fun e w' => (∃ v, e = .returned v) ∧ ∃ lv, IsDoc w' (s.add (x1, x2) lv) ∧ MovD s (s.add (x1, x2) lv) W w' ∧ Only (· = rb) (w4.setCell ⟨rb, 3, none⟩ (.int .i64 (n + 1 : Int))) w') := fun w4 h4 => by
    have h5 := HHI.out.adds h4
    have h6 : Blk (w4.setCell ⟨rb, 3, none⟩ (.int .i64 (n + 1 : Int))) rb (rCells s.fv s.lv s.dv (n + 1 : Int)) 104 := by
      have := h5.blk.setCell 3 (.int .i64 (n + 1 : Int))
      rw [HRB.out] at this
      exact this
    have hoS : Only (· = rb) w4 (w4.setCell ⟨rb, 3, none⟩ (.int .i64 (n + 1 : Int))) := (Only.refl (· = rb) w4).setCell (p := ⟨rb, 3, none⟩) (.inl rfl) _
    have h7 := row_only2 h5.row hoS (fun g hg e => (DS.head_ne h5).1 g hg (e.trans HRB.out.symm))
    refine (put9_any h6 h7 (by omega) HK.out).mono ?_
    rintro e w' ⟨rfl, ⟨tl', b1, b2⟩, b3⟩
    have hoT : Only (· = s.rb) w4 w' := by rw [HRB.out]; exact hoS.trans b3
    have h8 := h5.turn (lv := tl') (its := insI (kOf (x1, x2)) d x1 s.its) (n := n + 1) hoT (by rw [HRB.out]; exact_mod_cast b1) (by rw [insI_len]; exact ownsRow_base0 b2) (by rw [insI_len]; omega)
    have h9 : ({ s with lv := tl', its := insI (kOf (x1, x2)) d x1 s.its, n := n + 1 } : DS) = s.add (x1, x2) tl' := by unfold DS.add; rw [HDD.out, HNN.out]
    rw [h9] at h8
    refine ⟨⟨_, rfl⟩, tl', h8, ?_, b3⟩
    refine MovD.ahead h4 (h5.moved h8 (hoT.mono (fun y _ e => .inl e)) rfl rfl rfl (.inr (fun g hg => ?_)))
    have := row_base b2 g hg
    have h10 := hoS.size
    omega
  have HMV := Lib.hid hmv
  have HCL := Lib.hid (fun (w4 : World) (h4 : Only (fun _ => False) W w4) => (HBX.out.only h4 id).only ((Only.refl (· = rb) w4).setCell (p := ⟨rb, 3, none⟩) (.inl rfl) (.int .i64 (n + 1 : Int))) hbn)
  clear h hk hdd hdv hmv hO0 hbx hrb hnn hdl
  rcases hdraw with ⟨hlt, dg, rfl, hcd⟩ | ⟨hlt, rfl⟩
  · have hcd := cell_al hcd HO.out
    go_enter Try.func65, Try.ntmps65
    go_wp2_with fail
    go_quiet ((fail))
    go_wp2_with fail
    go_quiet ((fail))
    go_wp2_with fail
    refine wp_region_held_drew (S := (fun W' => W'.cell? ⟨B, 0, none⟩ = some (.int .i64 x1) ∧ W'.cell? ⟨B, 1, none⟩ = some (.int .i64 x2))) (by kernel_rfl) ⟨(HCL.out _ ⟨rfl, rfl, rfl, Nat.le_refl _, fun _ _ _ => rfl⟩).cell 0, (HCL.out _ ⟨rfl, rfl, rfl, Nat.le_refl _, fun _ _ _ => rfl⟩).cell 1⟩ (fun hHeld => ?_)
    refine wpAnyH_take (i := 0) (v := (.pointer (some ⟨rb, 0, none⟩))) rfl (by kernel_rfl) (by kernel_rfl) (by kernel_rfl) (fun _ _ _ h => h) (Or.inl ⟨by rfl, fun W hS => by first | rfl | (go_simp; done)⟩) hHeld ?_
    try simp only [Act.put, List.getElem_toArray, List.getElem_cons_succ, List.getElem_cons_zero, List.setIfInBounds_toArray, List.set_cons_zero, List.set_cons_succ]
    refine wpAnyH_take (i := 1) (v := (.pointer (some ⟨rb, 0, none⟩))) rfl (by kernel_rfl) (by kernel_rfl) (by kernel_rfl) (fun _ _ _ h => h) (Or.inl ⟨by rfl, fun W hS => by first | rfl | (go_simp; done)⟩) hHeld ?_
    try simp only [Act.put, List.getElem_toArray, List.getElem_cons_succ, List.getElem_cons_zero, List.setIfInBounds_toArray, List.set_cons_zero, List.set_cons_succ]
    refine wpAnyH_take (i := 2) (v := (.pointer (some ⟨rb, 1, none⟩))) rfl (by kernel_rfl) (by kernel_rfl) (by kernel_rfl) (fun _ _ _ h => h) (Or.inl ⟨by rfl, fun W hS => by first | rfl | (go_simp; done)⟩) hHeld ?_
    try simp only [Act.put, List.getElem_toArray, List.getElem_cons_succ, List.getElem_cons_zero, List.setIfInBounds_toArray, List.set_cons_zero, List.set_cons_succ]
    refine wpAnyH_take (i := 3) (v := (.pointer (some ⟨B, 1, none⟩))) rfl (by kernel_rfl) (by kernel_rfl) (by kernel_rfl) (fun _ _ _ h => h) (Or.inl ⟨by rfl, fun W hS => by first | rfl | (go_simp; done)⟩) hHeld ?_
    try simp only [Act.put, List.getElem_toArray, List.getElem_cons_succ, List.getElem_cons_zero, List.setIfInBounds_toArray, List.set_cons_zero, List.set_cons_succ]
    refine wpAnyH_take (i := 4) (v := (.int .i64 x2)) rfl (by kernel_rfl) (by kernel_rfl) (by kernel_rfl) (fun _ _ _ h => h) (Or.inl ⟨by rfl, fun W hS => by (obtain ⟨q1, q2⟩ := hS; go_simp; done)⟩) hHeld ?_
    try simp only [Act.put, List.getElem_toArray, List.getElem_cons_succ, List.getElem_cons_zero, List.setIfInBounds_toArray, List.set_cons_zero, List.set_cons_succ]
    refine wpAnyH_take (i := 5) (v := (.int .i64 (8192 * x2))) rfl (by kernel_rfl) (by kernel_rfl) (by kernel_rfl) (fun _ _ _ h => h) (Or.inl ⟨by rfl, fun W hS => by (go_simp; done)⟩) hHeld ?_
    try simp only [Act.put, List.getElem_toArray, List.getElem_cons_succ, List.getElem_cons_zero, List.setIfInBounds_toArray, List.set_cons_zero, List.set_cons_succ]
    refine wpAnyH_take (i := 6) (v := (.pointer (some ⟨B, 0, none⟩))) rfl (by kernel_rfl) (by kernel_rfl) (by kernel_rfl) (fun _ _ _ h => h) (Or.inl ⟨by rfl, fun W hS => by first | rfl | (go_simp; done)⟩) hHeld ?_
    try simp only [Act.put, List.getElem_toArray, List.getElem_cons_succ, List.getElem_cons_zero, List.setIfInBounds_toArray, List.set_cons_zero, List.set_cons_succ]
    refine wpAnyH_take (i := 7) (v := (.int .i64 x1)) rfl (by kernel_rfl) (by kernel_rfl) (by kernel_rfl) (fun _ _ _ h => h) (Or.inl ⟨by rfl, fun W hS => by (obtain ⟨q1, q2⟩ := hS; go_simp; done)⟩) hHeld ?_
    try simp only [Act.put, List.getElem_toArray, List.getElem_cons_succ, List.getElem_cons_zero, List.setIfInBounds_toArray, List.set_cons_zero, List.set_cons_succ]
    refine wpAnyH_take (i := 8) (v := (.int .i64 (8192 * x2 + x1))) rfl (by kernel_rfl) (by kernel_rfl) (by kernel_rfl) (fun _ _ _ h => h) (Or.inl ⟨by rfl, fun W hS => by (go_simp; done)⟩) hHeld ?_
    try simp only [Act.put, List.getElem_toArray, List.getElem_cons_succ, List.getElem_cons_zero, List.setIfInBounds_toArray, List.set_cons_zero, List.set_cons_succ]
    refine wpAnyH_take (i := 9) (v := (.int .u32 d)) rfl (by kernel_rfl) (by kernel_rfl) (by kernel_rfl) (fun _ _ _ h => h) (Or.inl ⟨by rfl, fun W hS => by first | rfl | (go_simp; done)⟩) hHeld ?_
    try simp only [Act.put, List.getElem_toArray, List.getElem_cons_succ, List.getElem_cons_zero, List.setIfInBounds_toArray, List.set_cons_zero, List.set_cons_succ]
    refine wpAnyH_take (i := 10) (v := (.pointer (some ⟨B, 0, none⟩))) rfl (by kernel_rfl) (by kernel_rfl) (by kernel_rfl) (fun _ _ _ h => h) (Or.inl ⟨by rfl, fun W hS => by first | rfl | (go_simp; done)⟩) hHeld ?_
    try simp only [Act.put, List.getElem_toArray, List.getElem_cons_succ, List.getElem_cons_zero, List.setIfInBounds_toArray, List.set_cons_zero, List.set_cons_succ]
    refine wpAnyH_take (i := 11) (v := (.int .i64 x1)) rfl (by kernel_rfl) (by kernel_rfl) (by kernel_rfl) (fun _ _ _ h => h) (Or.inl ⟨by rfl, fun W hS => by (obtain ⟨q1, q2⟩ := hS; go_simp; done)⟩) hHeld ?_
    try simp only [Act.put, List.getElem_toArray, List.getElem_cons_succ, List.getElem_cons_zero, List.setIfInBounds_toArray, List.set_cons_zero, List.set_cons_succ]
    refine wpAnyH_ready (rs := [12]) (by kernel_rfl) (by simp) (AllReadyH.cons rfl (fun K hK => ?_) AllReadyH.nil)
    simp only [List.getElem_toArray, List.getElem_cons_succ, List.getElem_cons_zero]
    go_simp
    rw [show ∀ (w : World) p v, (w.setCell p v).drew = w.drew.setCell p v from fun _ _ _ => rfl]
    refine (HMV.out (World.drew (World.drewN W _)) ⟨rfl, rfl, rfl, Nat.le_refl _, fun _ _ _ => rfl⟩).mono ?_
    rintro e w8 ⟨⟨v, rfl⟩, lv, h8, m8, ho8⟩
    refine hK.out _ _ ⟨(ho8.cellF (p := ⟨B, 0, none⟩) (cell_lt hHeld.1) hbn).trans hHeld.1, (ho8.cellF (p := ⟨B, 1, none⟩) (cell_lt hHeld.2) hbn).trans hHeld.2⟩ (fun hHeld => ?_)
    clear hK K
    try simp only [Act.put, List.getElem_toArray, List.getElem_cons_succ, List.getElem_cons_zero, List.setIfInBounds_toArray, List.set_cons_zero, List.set_cons_succ]
    refine wpAnyH_done (by kernel_rfl) ?_ _
    go_wp2_with fail
    go_end0
    exact ⟨⟨_, rfl⟩, lv, h8, MovD.ahead HO.out m8⟩
  · have hlt' : decide ((n : Int) < (dl : Int)) = false := by simpa using hlt
    go_enter Try.func65, Try.ntmps65
    go_wp2_with fail
    go_quiet ((fail))
    go_wp2_with fail
    refine wp_region_held_drew (S := (fun W' => W'.cell? ⟨B, 0, none⟩ = some (.int .i64 x1) ∧ W'.cell? ⟨B, 1, none⟩ = some (.int .i64 x2))) (by kernel_rfl) ⟨(HCL.out _ ⟨rfl, rfl, rfl, Nat.le_refl _, fun _ _ _ => rfl⟩).cell 0, (HCL.out _ ⟨rfl, rfl, rfl, Nat.le_refl _, fun _ _ _ => rfl⟩).cell 1⟩ (fun hHeld => ?_)
    refine wpAnyH_take (i := 0) (v := (.pointer (some ⟨rb, 0, none⟩))) rfl (by kernel_rfl) (by kernel_rfl) (by kernel_rfl) (fun _ _ _ h => h) (Or.inl ⟨by rfl, fun W hS => by first | rfl | (go_simp; done)⟩) hHeld ?_
    try simp only [Act.put, List.getElem_toArray, List.getElem_cons_succ, List.getElem_cons_zero, List.setIfInBounds_toArray, List.set_cons_zero, List.set_cons_succ]
    refine wpAnyH_take (i := 1) (v := (.pointer (some ⟨rb, 0, none⟩))) rfl (by kernel_rfl) (by kernel_rfl) (by kernel_rfl) (fun _ _ _ h => h) (Or.inl ⟨by rfl, fun W hS => by first | rfl | (go_simp; done)⟩) hHeld ?_
    try simp only [Act.put, List.getElem_toArray, List.getElem_cons_succ, List.getElem_cons_zero, List.setIfInBounds_toArray, List.set_cons_zero, List.set_cons_succ]
    refine wpAnyH_take (i := 2) (v := (.pointer (some ⟨rb, 1, none⟩))) rfl (by kernel_rfl) (by kernel_rfl) (by kernel_rfl) (fun _ _ _ h => h) (Or.inl ⟨by rfl, fun W hS => by first | rfl | (go_simp; done)⟩) hHeld ?_
    try simp only [Act.put, List.getElem_toArray, List.getElem_cons_succ, List.getElem_cons_zero, List.setIfInBounds_toArray, List.set_cons_zero, List.set_cons_succ]
    refine wpAnyH_take (i := 3) (v := (.pointer (some ⟨B, 1, none⟩))) rfl (by kernel_rfl) (by kernel_rfl) (by kernel_rfl) (fun _ _ _ h => h) (Or.inl ⟨by rfl, fun W hS => by first | rfl | (go_simp; done)⟩) hHeld ?_
    try simp only [Act.put, List.getElem_toArray, List.getElem_cons_succ, List.getElem_cons_zero, List.setIfInBounds_toArray, List.set_cons_zero, List.set_cons_succ]
    refine wpAnyH_take (i := 4) (v := (.int .i64 x2)) rfl (by kernel_rfl) (by kernel_rfl) (by kernel_rfl) (fun _ _ _ h => h) (Or.inl ⟨by rfl, fun W hS => by (obtain ⟨q1, q2⟩ := hS; go_simp; done)⟩) hHeld ?_
    try simp only [Act.put, List.getElem_toArray, List.getElem_cons_succ, List.getElem_cons_zero, List.setIfInBounds_toArray, List.set_cons_zero, List.set_cons_succ]
    refine wpAnyH_take (i := 5) (v := (.int .i64 (8192 * x2))) rfl (by kernel_rfl) (by kernel_rfl) (by kernel_rfl) (fun _ _ _ h => h) (Or.inl ⟨by rfl, fun W hS => by (go_simp; done)⟩) hHeld ?_
    try simp only [Act.put, List.getElem_toArray, List.getElem_cons_succ, List.getElem_cons_zero, List.setIfInBounds_toArray, List.set_cons_zero, List.set_cons_succ]
    refine wpAnyH_take (i := 6) (v := (.pointer (some ⟨B, 0, none⟩))) rfl (by kernel_rfl) (by kernel_rfl) (by kernel_rfl) (fun _ _ _ h => h) (Or.inl ⟨by rfl, fun W hS => by first | rfl | (go_simp; done)⟩) hHeld ?_
    try simp only [Act.put, List.getElem_toArray, List.getElem_cons_succ, List.getElem_cons_zero, List.setIfInBounds_toArray, List.set_cons_zero, List.set_cons_succ]
    refine wpAnyH_take (i := 7) (v := (.int .i64 x1)) rfl (by kernel_rfl) (by kernel_rfl) (by kernel_rfl) (fun _ _ _ h => h) (Or.inl ⟨by rfl, fun W hS => by (obtain ⟨q1, q2⟩ := hS; go_simp; done)⟩) hHeld ?_
    try simp only [Act.put, List.getElem_toArray, List.getElem_cons_succ, List.getElem_cons_zero, List.setIfInBounds_toArray, List.set_cons_zero, List.set_cons_succ]
    refine wpAnyH_take (i := 8) (v := (.int .i64 (8192 * x2 + x1))) rfl (by kernel_rfl) (by kernel_rfl) (by kernel_rfl) (fun _ _ _ h => h) (Or.inl ⟨by rfl, fun W hS => by (go_simp; done)⟩) hHeld ?_
    try simp only [Act.put, List.getElem_toArray, List.getElem_cons_succ, List.getElem_cons_zero, List.setIfInBounds_toArray, List.set_cons_zero, List.set_cons_succ]
    refine wpAnyH_take (i := 9) (v := (.int .u32 0)) rfl (by kernel_rfl) (by kernel_rfl) (by kernel_rfl) (fun _ _ _ h => h) (Or.inl ⟨by rfl, fun W hS => by first | rfl | (go_simp; done)⟩) hHeld ?_
    try simp only [Act.put, List.getElem_toArray, List.getElem_cons_succ, List.getElem_cons_zero, List.setIfInBounds_toArray, List.set_cons_zero, List.set_cons_succ]
    refine wpAnyH_take (i := 10) (v := (.pointer (some ⟨B, 0, none⟩))) rfl (by kernel_rfl) (by kernel_rfl) (by kernel_rfl) (fun _ _ _ h => h) (Or.inl ⟨by rfl, fun W hS => by first | rfl | (go_simp; done)⟩) hHeld ?_
    try simp only [Act.put, List.getElem_toArray, List.getElem_cons_succ, List.getElem_cons_zero, List.setIfInBounds_toArray, List.set_cons_zero, List.set_cons_succ]
    refine wpAnyH_take (i := 11) (v := (.int .i64 x1)) rfl (by kernel_rfl) (by kernel_rfl) (by kernel_rfl) (fun _ _ _ h => h) (Or.inl ⟨by rfl, fun W hS => by (obtain ⟨q1, q2⟩ := hS; go_simp; done)⟩) hHeld ?_
    try simp only [Act.put, List.getElem_toArray, List.getElem_cons_succ, List.getElem_cons_zero, List.setIfInBounds_toArray, List.set_cons_zero, List.set_cons_succ]
    refine wpAnyH_ready (rs := [12]) (by kernel_rfl) (by simp) (AllReadyH.cons rfl (fun K hK => ?_) AllReadyH.nil)
    simp only [List.getElem_toArray, List.getElem_cons_succ, List.getElem_cons_zero]
    go_simp
    rw [show ∀ (w : World) p v, (w.setCell p v).drew = w.drew.setCell p v from fun _ _ _ => rfl]
    refine (HMV.out (World.drew (World.drewN W _)) ⟨rfl, rfl, rfl, Nat.le_refl _, fun _ _ _ => rfl⟩).mono ?_
    rintro e w8 ⟨⟨v, rfl⟩, lv, h8, m8, ho8⟩
    refine hK.out _ _ ⟨(ho8.cellF (p := ⟨B, 0, none⟩) (cell_lt hHeld.1) hbn).trans hHeld.1, (ho8.cellF (p := ⟨B, 1, none⟩) (cell_lt hHeld.2) hbn).trans hHeld.2⟩ (fun hHeld => ?_)
    clear hK K
    try simp only [Act.put, List.getElem_toArray, List.getElem_cons_succ, List.getElem_cons_zero, List.setIfInBounds_toArray, List.set_cons_zero, List.set_cons_succ]
    refine wpAnyH_done (by kernel_rfl) ?_ _
    go_wp2_with fail
    go_end0
    exact ⟨⟨_, rfl⟩, lv, h8, MovD.ahead HO.out m8⟩
end Go.Proofs.Ytbijbpnhakbeeaa

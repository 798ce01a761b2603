/- Package runs: drop, at whatever state. By an AI agent. -/
import Derived.Test.YtbijbpnhakbeeaaRunsPut
namespace Go.Proofs.Ytbijbpnhakbeeaa
open Go.RowKit

/-- The state with a run dropped. -/
def RS.del (s : RS) (x : Int × Int) (lv : Value) : RS := { s with t := Tr.drop (kOf x) s.t, lv := lv, xs := delL x s.xs }
theorem RS.Ok.find_mem {s : RS} (h : s.Ok) {x : Int × Int} (hx : x ∈ s.xs) : ∃ nb d l r, Tr.find (kOf x) s.t = .node nb (kOf x) d (vOf x) l r := by
  obtain ⟨e, he, hk⟩ := h.have_ x hx
  obtain ⟨y, hy, hk2, hv⟩ := h.mem e he
  obtain rfl := h.key_inj (h.list.bd x hx) (h.list.bd y hy) (hk.symm.trans hk2)
  obtain ⟨b, l, r, hf⟩ := Tr.find_mem h.tree.bst he
  rw [hk, hv] at hf
  exact ⟨b, _, l, r, hf⟩
theorem RS.Ok.del {s : RS} (h : s.Ok) {x : Int × Int} (hx : x ∈ s.xs) (lv : Value) : (s.del x lv).Ok where
  P1 := h.P1
  P2 := h.P2
  list := delL_ok h.list hx
  tree := Tr.drop_ok h.tree
  size := by
    obtain ⟨nb, d, l, r, hf⟩ := h.find_mem hx
    have h1 := Tr.drop_size (key := kOf x) (t := s.t) (by rw [hf]; exact fun e => by cases e)
    have h2 := delL_length h.list hx
    have h3 := h.size
    show (Tr.drop (kOf x) s.t).size = (delL x s.xs).length
    omega
  mem := fun e he => by
    replace he : e ∈ (Tr.drop (kOf x) s.t).ins := he
    rw [Tr.drop_ins h.tree.bst, List.mem_filter] at he
    obtain ⟨y, hy, h1, h2⟩ := h.mem e he.1
    refine ⟨y, (mem_delL h.list hx).2 ⟨hy, fun e2 => ?_⟩, h1, h2⟩
    have h3 := he.2
    rw [h1, e2] at h3
    simp at h3
  have_ := fun y hy => by
    obtain ⟨hy, hne⟩ := (mem_delL h.list hx).1 hy
    obtain ⟨e, he, h1⟩ := h.have_ y hy
    refine ⟨e, ?_, h1⟩
    show e ∈ (Tr.drop (kOf x) s.t).ins
    rw [Tr.drop_ins h.tree.bst, List.mem_filter]
    refine ⟨he, ?_⟩
    have : e.1 ≠ kOf x := fun e2 => hne (h.key_inj (h.list.bd y hy) (h.list.bd x hx) (h1.symm.trans e2))
    simpa using this
theorem RS.del_is {W7 : World} {s : RS} {x : Int × Int} {lv' : Value} (hB : Blk W7 s.rb #[.int .i64 s.P, s.dv, .int .i64 s.dn, .pointer (some ⟨s.tb, 0, none⟩), lv', .int .i64 (tot s.xs)] 98)
    (hD : W7.ownsRow 0 113 1 s.dv s.ds.length (s.ds.map (.int .u32))) (hT : IsTreap2 125 122 W7 s.tb (Tr.drop (kOf x) s.t) ((Tr.drop (kOf x) s.t).size : Nat))
    (hL : W7.ownsRow 0 63 2 lv' (s.xs.length - 1) (shCells (delL x s.xs))) (h : s.Ok) (nrt : s.rb ≠ s.tb) (nrh : ¬ s.t.has s.rb) (hx : x ∈ s.xs) :
    IsRuns (W7.setCell ⟨s.rb, 5, none⟩ (.int .i64 (tot s.xs - x.2))) (s.del x lv') := by
  have ho : Only (· = s.rb) W7 (W7.setCell ⟨s.rb, 5, none⟩ (.int .i64 (tot s.xs - x.2))) := (Only.refl (· = s.rb) W7).setCell (p := ⟨s.rb, 5, none⟩) (.inl rfl) _
  refine ⟨?_, row_only2 hD ho (fun g e e2 => blk_not_row hB (by decide) hD (e2 ▸ e)), hT.only ho (fun e => nrt e.symm) (fun y hy e => nrh (Tr.drop_has (e ▸ hy))), ?_, nrt, fun hh => nrh (Tr.drop_has hh), h.del hx lv'⟩
  · show Blk _ s.rb #[.int .i64 s.P, s.dv, .int .i64 s.dn, .pointer (some ⟨s.tb, 0, none⟩), lv', .int .i64 (tot (delL x s.xs))] _
    rw [delL_tot h.list hx]
    exact hB.setCell 5 _
  · show World.ownsRow _ _ _ _ lv' (delL x s.xs).length _
    rw [show (delL x s.xs).length = s.xs.length - 1 by have := delL_length h.list hx; omega]
    exact row_only2 hL ho (fun g e e2 => blk_not_row hB (by decide) hL (e2 ▸ e))
theorem RS.del_own {s : RS} {x : Int × Int} {lv' : Value} (hob : lv'.ownBlock = s.lv.ownBlock) : ∀ y, (s.del x lv').own y → s.own y := by
  rintro y (rfl | (rfl | hy) | hy)
  · exact .inl rfl
  · exact .inr (.inl (.inl rfl))
  · exact .inr (.inl (.inr (Tr.drop_has hy)))
  · exact .inr (.inr ((show some y = lv'.ownBlock from hy).trans hob))
set_option maxRecDepth 100000 in
set_option maxHeartbeats 8000000 in
theorem drop_any {w0 : World} {s : RS} (h0 : IsRuns w0 s) (x : Int × Int) (hx : x ∈ s.xs) :
    Calls Try.prog 59 #[.pointer (some ⟨s.rb, 0, none⟩), .agg #[.int .i64 x.1, .int .i64 x.2]] w0 fun e w' => (∃ v, e = .returned v) ∧ ∃ lv, IsRuns w' (s.del x lv) ∧ Moves s (s.del x lv) w0 w' := by
  obtain ⟨B, hB⟩ : ∃ B, w0.heap.size = B := ⟨_, rfl⟩
  obtain ⟨W, hW⟩ : ∃ W, w0.alloc (.cells #[.int .i64 x.1, .int .i64 x.2] 63) = W := ⟨_, rfl⟩
  have hbx : Blk W B #[.int .i64 x.1, .int .i64 x.2] 63 := by rw [← hW, ← hB]; exact Blk.new w0 _ _
  have hO0 : Adds w0 W := by rw [← hW]; exact (Only.refl _ w0).alloc _
  have h := h0.adds hO0
  have hB0 : ¬ s.all B := fun hh => Nat.lt_irrefl _ (Nat.lt_of_lt_of_eq (h0.lt _ hh) hB)
  have hok := h.ok
  have hP2 := hok.P2
  obtain ⟨nb, d, tl, tr, hfind⟩ := hok.find_mem hx
  have htot := tot_le (a := 0) hok.list (by have := hok.P1; omega) (by have := hok.P1; omega) (fun y hy => (hok.list.bd y hy).1)
  have htot0 := tot_nonneg hok.list
  have hxb := hok.list.bd x hx
  have hsz : s.t.size < 1000000 := by have := hok.size; have := hok.list.len (by have := hok.P1; omega); omega
  obtain ⟨_, _, _, c3, c4, c5⟩ := h.cells
  have x0 : W.cell? ⟨B, 0, none⟩ = some (.int .i64 x.1) := hbx.cell 0
  have x1 : W.cell? ⟨B, 1, none⟩ = some (.int .i64 x.2) := hbx.cell 1
  have hxt : x.2 ≤ tot s.xs := by have := delL_tot hok.list hx; have := tot_nonneg (delL_ok hok.list hx); omega
  have H := Lib.hid h; have HO := Lib.hid hO0; have HBX := Lib.hid hbx; have HF := Lib.hid hfind; have HOK := Lib.hid hok; have HX := Lib.hid hx; have HB0 := Lib.hid hB0
  have hbne : s.rb ≠ B := fun e => hB0 (.inl (.inl e.symm))
  clear h h0 hbx hfind hok hB0 hO0 hx
  have hw9 : wrap64 (tot s.xs - x.2) = tot s.xs - x.2 := by simp [wrap64]; omega
  have hw8 : IntKind.i64.wrap (x.1 + x.2) = x.1 + x.2 := by rw [IntKind.wrap_i64]; omega
  go_enter Try.func59, Try.ntmps59
  go_wp2_with fail
  clear hW hB
  refine wp_region_held_drew (S := (fun W' => W'.cell? ⟨s.rb, 3, none⟩ = some (.pointer (some ⟨s.tb, 0, none⟩)) ∧ W'.cell? ⟨B, 0, none⟩ = some (.int .i64 x.1) ∧ W'.cell? ⟨B, 1, none⟩ = some (.int .i64 x.2))) (by kernel_rfl) ⟨c3, x0, x1⟩ (fun hHeld => ?_)
  refine wpAnyH_take (i := 0) (v := (.pointer (some ⟨s.rb, 0, none⟩))) rfl (by kernel_rfl) (by kernel_rfl) (by kernel_rfl) (fun _ _ _ h => h) (Or.inl ⟨by rfl, fun W hS => by first | rfl | (go_simp; done)⟩) hHeld ?_
  try simp only [Act.put, List.getElem_toArray, List.getElem_cons_succ, List.getElem_cons_zero, List.setIfInBounds_toArray, List.set_cons_zero, List.set_cons_succ]
  refine wpAnyH_take (i := 1) (v := (.pointer (some ⟨s.rb, 0, none⟩))) rfl (by kernel_rfl) (by kernel_rfl) (by kernel_rfl) (fun _ _ _ h => h) (Or.inl ⟨by rfl, fun W hS => by first | rfl | (go_simp; done)⟩) hHeld ?_
  try simp only [Act.put, List.getElem_toArray, List.getElem_cons_succ, List.getElem_cons_zero, List.setIfInBounds_toArray, List.set_cons_zero, List.set_cons_succ]
  refine wpAnyH_take (i := 2) (v := (.pointer (some ⟨s.rb, 3, none⟩))) rfl (by kernel_rfl) (by kernel_rfl) (by kernel_rfl) (fun _ _ _ h => h) (Or.inl ⟨by rfl, fun W hS => by first | rfl | (go_simp; done)⟩) hHeld ?_
  try simp only [Act.put, List.getElem_toArray, List.getElem_cons_succ, List.getElem_cons_zero, List.setIfInBounds_toArray, List.set_cons_zero, List.set_cons_succ]
  refine wpAnyH_take (i := 3) (v := (.pointer (some ⟨s.tb, 0, none⟩))) rfl (by kernel_rfl) (by kernel_rfl) (by kernel_rfl) (fun _ _ _ h => h) (Or.inl ⟨by rfl, fun W hS => by (obtain ⟨q1, q2, q3⟩ := hS; go_simp; done)⟩) hHeld ?_
  try simp only [Act.put, List.getElem_toArray, List.getElem_cons_succ, List.getElem_cons_zero, List.setIfInBounds_toArray, List.set_cons_zero, List.set_cons_succ]
  refine wpAnyH_take (i := 4) (v := (.agg #[.int .i64 x.1, .int .i64 x.2])) rfl (by kernel_rfl) (by kernel_rfl) (by kernel_rfl) (fun _ _ _ h => h) (Or.inl ⟨by rfl, fun W hS => by (obtain ⟨q1, q2, q3⟩ := hS; go_simp; done)⟩) hHeld ?_
  try simp only [Act.put, List.getElem_toArray, List.getElem_cons_succ, List.getElem_cons_zero, List.setIfInBounds_toArray, List.set_cons_zero, List.set_cons_succ]
  refine wpAnyH_ready (rs := [5]) (by kernel_rfl) (by simp) (AllReadyH.cons rfl (fun K hK => ?_) AllReadyH.nil)
  simp only [List.getElem_toArray, List.getElem_cons_succ, List.getElem_cons_zero]
  go_simp
  refine (runsKey_any x.1 x.2 _ (by omega) (by omega) (by omega) (by omega)).mono ?_
  rintro e v1 ⟨rfl, hk⟩
  refine hK.out _ _ ⟨cell_al hHeld.1 hk, cell_al hHeld.2.1 hk, cell_al hHeld.2.2 hk⟩ (fun hHeld => ?_)
  clear hK K
  try simp only [Act.put, List.getElem_toArray, List.getElem_cons_succ, List.getElem_cons_zero, List.setIfInBounds_toArray, List.set_cons_zero, List.set_cons_succ]
  have H3 := Lib.hid (H.out.adds ((Only.refl (fun _ => False) W).drew.thenF hk))
  have HBX3 := Lib.hid (HBX.out.only ((Only.refl (fun _ => False) W).drew.thenF hk) id)
  have HK3 := Lib.hid ((Only.refl (fun _ => False) W).drew.thenF hk)
  clear hk
  refine wpAnyH_ready (rs := [6]) (by kernel_rfl) (by simp) (AllReadyH.cons rfl (fun K hK => ?_) AllReadyH.nil)
  simp only [List.getElem_toArray, List.getElem_cons_succ, List.getElem_cons_zero]
  go_simp
  refine (dropR_yes s.tb s.t _ (kOf x) v1 H3.out.tree HOK.out.tree.sep nb (kOf x) d x.1 x.2 tl tr HF.out).mono ?_
  rintro e v2 ⟨rfl, ht2, ho2⟩
  have hrb2 : ¬ TB s.tb s.t s.rb := fun h => h.elim H3.out.nrt H3.out.nrh
  have hB2 : ¬ TB s.tb s.t B := fun h => HB0.out (.inl (.inr (.inl h)))
  have e3 := (H3.out.blk.only ho2 hrb2).cell 3
  have e0 := (HBX3.out.only ho2 hB2).cell 0
  have e1 := (HBX3.out.only ho2 hB2).cell 1
  refine hK.out _ _ ⟨e3, e0, e1⟩ (fun hHeld => ?_)
  clear hK K
  try simp only [Act.put, List.getElem_toArray, List.getElem_cons_succ, List.getElem_cons_zero, List.setIfInBounds_toArray, List.set_cons_zero, List.set_cons_succ]
  refine wpAnyH_done (by kernel_rfl) ?_ _
  have hB4 := H3.out.blk.only ho2 hrb2
  have hD4 := row_only2 H3.out.drs ho2 (fun g e e2 => H3.out.draws_apart g e (.inr (.inl e2)))
  have hL4 := row_only2 H3.out.row ho2 (fun g e e2 => tb_not_row H3.out.tree (by decide) (by decide) H3.out.row g e2 e)
  have hX4 := HBX3.out.only ho2 hB2
  have hT4 : IsTreap2 125 122 v2 s.tb (Tr.drop (kOf x) s.t) ((Tr.drop (kOf x) s.t).size : Nat) := by
    have h9 := Tr.drop_size (key := kOf x) (t := s.t) (by rw [HF.out]; exact fun e => by cases e)
    rwa [show wrap64 ((s.t.size : Int) - 1) = ((Tr.drop (kOf x) s.t).size : Int) by simp [wrap64]; omega] at ht2
  have hO4 : Only s.own W v2 := ((HK3.out.mono (T := s.own) (fun _ _ h => h.elim))).andThen ho2 (fun i _ h => .inr (.inl h))
  have HB4 := Lib.hid hB4; have HD4 := Lib.hid hD4; have HL4 := Lib.hid hL4; have HX4 := Lib.hid hX4; have HT4 := Lib.hid hT4; have HO4 := Lib.hid hO4
  have c4 := hB4.cell 4; have f4 := hB4.frozen 4; have x0 := hX4.cell 0; have x1 := hX4.cell 1
  replace c4 : v2.cell? ⟨s.rb, 4, none⟩ = some s.lv := c4
  replace x0 : v2.cell? ⟨B, 0, none⟩ = some (.int .i64 x.1) := x0
  replace x1 : v2.cell? ⟨B, 1, none⟩ = some (.int .i64 x.2) := x1
  clear hB4 hD4 hL4 hX4 hT4 hO4 ht2 ho2 hrb2 hB2 e3 e0 e1 c3 H3 HBX3 HK3 hHeld
  have hpl := fun a => place_row c4 HL4.out HOK.out.list ⟨HOK.out.P1, HOK.out.P2⟩ a
  have HPL := Lib.hid hpl
  clear hpl
  go_wp2_with (go_at_call 80; refine (HPL.out _).mono ?_; rintro e v3 ⟨rfl, hpl⟩; have c4 := cell_al c4 hpl; have f4 := (HB4.out.only hpl id).frozen 4; have x1 := cell_al x1 hpl)
  have hlen : (s.xs.length : Int) ≤ 4096 := by have := HOK.out.list.len (by have := HOK.out.P1; omega); omega
  have hpin : placeOf s.xs (x.1 + x.2) < s.xs.length := by
    obtain ⟨l, r, e, hp⟩ := place_self HOK.out.list HX.out
    rw [hp, e]; simp
  have hwi : wrap64 ((placeOf s.xs (x.1 + x.2) : Int) + 1) = ((placeOf s.xs (x.1 + x.2) + 1 : Nat) : Int) := by simp [wrap64]; omega
  obtain ⟨_, h9⟩ | ⟨g, cp, hlv⟩ := row_shape HL4.out
  · omega
  have hr3 := row_only2 HL4.out hpl (fun _ _ h => h)
  rw [hwi, hlv]
  rw [hlv] at hr3
  refine (delete_any 0 g cp s.xs.length (placeOf s.xs (x.1 + x.2)) (shCells s.xs) v3 hr3 (shCells_one _) hpin (by omega)).mono ?_
  rintro e W6 ⟨rfl, hr6, ho6⟩
  rw [shCells_delL] at hr6
  have ho6' : Only (fun y => some y = s.lv.ownBlock) v3 W6 := ho6.mono (fun y _ e => by rw [hlv, e]; rfl)
  have hrb6 : ¬ (some s.rb = s.lv.ownBlock) := blk_not_row HB4.out (by decide) HL4.out
  have hbx6 : ¬ (some B = s.lv.ownBlock) := fun e => HB0.out (.inl (.inr (.inr e)))
  have hB6 := (HB4.out.only hpl id).only ho6' hrb6
  have hX6 := (HX4.out.only hpl id).only ho6' hbx6
  have c4' := hB6.cell 4; have f4' := hB6.frozen 4
  clear c4 f4 x1 x0
  replace c4' : W6.cell? ⟨s.rb, 4, none⟩ = some s.lv := c4'
  have HHB6 := Lib.hid hB6; have HHX6 := Lib.hid hX6; have HR6 := Lib.hid hr6; have HO6 := Lib.hid ho6'; have HPLO := Lib.hid hpl; have HLV := Lib.hid hlv
  clear hB6 hX6 hr6 ho6 ho6' hr3 hpl hlv hHeld
  go_upto_region 4 with fail
  have hB7 := HHB6.out.setCell 4 (.slice (some ⟨g, 0, none⟩) (s.xs.length - 1) cp)
  have hX7 := HHX6.out.setCell_other hbne.symm 4 (.slice (some ⟨g, 0, none⟩) (s.xs.length - 1) cp)
  have hO7 : Only (· = s.rb) W6 (W6.setCell ⟨s.rb, 4, none⟩ (.slice (some ⟨g, 0, none⟩) (s.xs.length - 1) cp)) := (Only.refl (· = s.rb) W6).setCell (p := ⟨s.rb, 4, none⟩) (.inl rfl) _
  have hL7 := row_only2 HR6.out hO7 (fun g e e2 => blk_not_row HHB6.out (by decide) HR6.out (e2 ▸ e))
  have hO6 : Only s.own w0 W6 := (((HO.out.mono (T := s.own) (fun _ _ h => h.elim)).andThen HO4.out (fun _ _ h => h)).andThen HPLO.out (fun _ _ h => h.elim)).andThen HO6.out (fun i _ h => .inr (.inr h))
  have hD6 := row_only2 (row_only2 HD4.out HPLO.out (fun _ _ h => h)) HO6.out (fun g e e2 => H.out.draws_apart g e (.inr (.inr e2)))
  have hD7 := row_only2 hD6 hO7 (fun g e e2 => blk_not_row HHB6.out (by decide) hD6 (e2 ▸ e))
  have hT6 := (HT4.out.adds HPLO.out).only HO6.out (tb_not_row HT4.out (by decide) (by decide) HL4.out s.tb (.inl rfl)) (fun y hy => tb_not_row HT4.out (by decide) (by decide) HL4.out y (.inr hy))
  have hT7 := hT6.only hO7 (fun e => H.out.nrt e.symm) (fun y hy e => H.out.nrh (Tr.drop_has (e ▸ hy)))
  have HB7 := Lib.hid hB7; have HX7 := Lib.hid hX7; have HL7 := Lib.hid hL7; have HD7 := Lib.hid hD7; have HT7 := Lib.hid hT7; have HO67 := Lib.hid (hO6.andThen hO7 (fun i _ e => .inl e))
  clear hB7 hX7 hO7 hL7 hO6 hD6 hD7 hT6 hT7 c4'
  generalize W6.setCell ⟨s.rb, 4, none⟩ (.slice (some ⟨g, 0, none⟩) (s.xs.length - 1) cp) = W7 at *
  have c5 := HB7.out.cell 5; have f5 := HB7.out.frozen 5; have x1 := HX7.out.cell 1
  go_region
  all_goals (
    go_wp2_with fail
    go_end0
    refine ⟨⟨_, rfl⟩, _, (RS.del_is HB7.out HD7.out HT7.out HL7.out HOK.out H.out.nrt H.out.nrh HX.out).adds (Only.refl _ _).drew, ?_⟩
    exact ⟨(HO67.out.setCell (p := ⟨s.rb, 5, none⟩) (.inl (.inl rfl)) _).drew, fun y hy => .inl (RS.del_own (by rw [HLV.out]; rfl) y hy), rfl, rfl, rfl, rfl⟩)
end Go.Proofs.Ytbijbpnhakbeeaa

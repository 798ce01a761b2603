/- Package stack: a pop, step by step; a push that has lost. By an AI agent. -/
import Derived.Test.YtbcfeaimopijfaaGreatStack2
namespace Go.Proofs.YtbcfeaimopijfaaGreat
open Go.RowKit
abbrev poNext (mb : Nat) : Value := .func (.func 93) #[.pointer (some ⟨mb, 0, none⟩)] #[]
abbrev poEnd (jm : Nat) : Value := .func (.func 115) #[] #[.pointer (some ⟨jm, 0, none⟩)]
/-- A pop that has the head; that has the page below. -/
def Pop2 (w : World) (mb : Nat) (P T hd was pg : Int) : Prop := Desk w mb (poC P T hd was pg) 127 (.load (Lay.nextAt P T (Tag.pg was)) (poNext mb))
def Pop3 (w : World) (mb : Nat) (P T hd was pg x : Int) : Prop := ∃ jm, Blk w jm #[.pointer (some ⟨mb, 0, none⟩)] 102 ∧ Desk w mb (poC P T hd was pg) 127 (.cas hd was (Tag.nx was (underV x)) (poEnd jm))
theorem popHeld {M : Nat → Prop} {w W w' : World} {b : Nat} {x y : Value} (h : W.cell? ⟨b, 0, none⟩ = some x ∧ W.cell? ⟨b, 1, none⟩ = some y ∧ Only M w W) (ho : Adds W w') :
    w'.cell? ⟨b, 0, none⟩ = some x ∧ w'.cell? ⟨b, 1, none⟩ = some y ∧ Only M w w' :=
  ⟨(ho.cellF (p := ⟨b, 0, none⟩) (cell_lt h.1) id).trans h.1, (ho.cellF (p := ⟨b, 1, none⟩) (cell_lt h.2.1) id).trans h.2.1, h.2.2.trans (ho.mono (fun _ _ e => e.elim))⟩
section
variable {w : World} {mb jm : Nat} {P T hd was pg x : Int} {nx : Value}
set_option maxRecDepth 100000 in
set_option maxHeartbeats 2000000 in
theorem pop_top_none (h0 : 0 ≤ x) (h1 : x < 18446744073709551616) (hn : Tag.pg x < 0) (h : Blk w mb (poC P T hd was pg nx) 127) :
    Calls Tryz.prog 79 #[.pointer (some ⟨mb, 0, none⟩), .int .u64 x] w fun e w' => e = .returned (.tuple #[]) ∧ Desk w' mb (poC P T hd x pg) 127 .done ∧ Only (· = mb) w w' := by
  have f4 := h.frozen 4
  have c4 : w.cell? ⟨mb, 4, none⟩ = some (.int .u64 was) := h.cell 4
  have hl := h.lt
  have HB := Lib.hid (show Blk (w.setCell ⟨mb, 4, none⟩ (.int .u64 x)) mb (poC P T hd x pg nx) 127 from h.setCell 4 _)
  obtain ⟨y, hy⟩ : ∃ y, y = Tag.pg x := ⟨_, rfl⟩
  have HY := Lib.hid hy; have H01 := Lib.hid (And.intro h0 h1)
  rw [← hy] at hn
  clear h hy h0 h1
  go_enter Tryz.func79, Tryz.ntmps79
  go_wp2_with (first
    | (go_at_call 91; refine (tagPage_any x _ H01.out.1 H01.out.2).mono ?_; rintro e w3 ⟨rfl, k, rfl⟩; rw [← HY.out]; have HB2 := Lib.hid (HB.out.drewN k))
    | (go_at_call 53; refine (deskEnd_any HB2.out (by simp)).mono ?_; rintro e w1 ⟨rfl, rfl⟩))
  refine bodyPost_ret (results_none rfl _ _ _) rfl ?_
  exact ⟨rfl, HB2.out.setCell 2 _, (((Only.refl (fun x => x = mb) w).setCell (.inl rfl) _).drewN _).setCell (.inl rfl) _⟩
set_option maxRecDepth 100000 in
set_option maxHeartbeats 2000000 in
theorem pop_top_some (h0 : 0 ≤ x) (h1 : x < 18446744073709551616) (hn : 0 ≤ Tag.pg x) (h : Blk w mb (poC P T hd was pg nx) 127) :
    Calls Tryz.prog 79 #[.pointer (some ⟨mb, 0, none⟩), .int .u64 x] w fun e w' => e = .returned (.tuple #[]) ∧ Pop2 w' mb P T hd x pg ∧ Only (· = mb) w w' := by
  have f4 := h.frozen 4
  have c4 : w.cell? ⟨mb, 4, none⟩ = some (.int .u64 was) := h.cell 4
  have hl := h.lt
  have HB := Lib.hid (show Blk (w.setCell ⟨mb, 4, none⟩ (.int .u64 x)) mb (poC P T hd x pg nx) 127 from h.setCell 4 _)
  obtain ⟨y, hy⟩ : ∃ y, y = Tag.pg x := ⟨_, rfl⟩
  obtain ⟨na, hna⟩ : ∃ na, na = Lay.nextAt P T y := ⟨_, rfl⟩
  have HY := Lib.hid hy; have H01 := Lib.hid (And.intro h0 h1); have HNA := Lib.hid hna
  rw [← hy] at hn
  clear h hy h0 h1 hna
  go_enter Tryz.func79, Tryz.ntmps79
  go_wp2_with (go_at_call 91; refine (tagPage_any x _ H01.out.1 H01.out.2).mono ?_; rintro e w3 ⟨rfl, k, rfl⟩; rw [← HY.out])
  have HBk := Lib.hid (HB.out.drewN k)
  have HOk := Lib.hid (((Only.refl (fun x => x = mb) w).setCell (p := ⟨mb, 4, none⟩) (.inl rfl) (.int .u64 x)).drewN k)
  obtain ⟨wk, hwk⟩ : ∃ wk, wk = (w.setCell ⟨mb, 4, none⟩ (.int .u64 x)).drewN k := ⟨_, rfl⟩
  rw [← hwk] at HBk HOk
  rw [← hwk]
  clear hwk
  have d0 : wk.cell? ⟨mb, 0, none⟩ = some (.int .i64 P) := HBk.out.cell 0
  have d1 : wk.cell? ⟨mb, 1, none⟩ = some (.int .i64 T) := HBk.out.cell 1
  go_region_held3 (fun W => W.cell? ⟨mb, 0, none⟩ = some (.int .i64 P) ∧ W.cell? ⟨mb, 1, none⟩ = some (.int .i64 T) ∧ Only (· = mb) wk W)
    (first | assumption | (exact ⟨d0, d1, (Only.refl _ _).drew⟩) | (exact ⟨d0, d1, (Only.refl _ _).drewN _⟩) | (exact popHeld (by assumption) (by first | assumption | exact (Only.refl _ _).drewN _)) | (exact ⟨hb3.cell 0, hb3.cell 1, (hO4.mono (fun _ _ e => e.elim)).trans ho3⟩))
    (first
    | (go_at_call 91; refine (tagPage_any x _ H01.out.1 H01.out.2).mono ?_; rintro e w4 ⟨rfl, k2, rfl⟩; rw [← HY.out])
    | (go_at_call 92; refine (below_any P T y _).mono ?_; rintro e w5 ⟨rfl, ho5⟩; rw [← HNA.out]; have hO4 : Adds wk w5 := ((Only.refl (fun _ => False) wk).drewN _).thenF ho5; have HB5 := Lib.hid (HBk.out.only hO4 id))
    | (go_at_call 78; with_reducible refine (deskLoad_any HB5.out (by simp) na _ _ _).mono ?_; rintro e w6 ⟨rfl, hb3, hc3, ho3⟩; have HC := Lib.hid (And.intro hb3 (And.intro hc3 ho3))))
  all_goals
    go_wp2
    go_end0
    obtain ⟨b3, c3', o3⟩ := HC.out
    refine ⟨rfl, ⟨_, b3, ?_⟩, HOk.out.trans ((hO4.mono (fun _ _ e => e.elim)).trans o3)⟩
    rw [← HY.out, ← HNA.out]; exact c3'
set_option maxRecDepth 100000 in
set_option maxHeartbeats 2000000 in
theorem pop_next (hw : 0 ≤ was ∧ was < 18446744073709551616) (h0 : 0 ≤ x) (h1 : x < 18446744073709551616) (h : Blk w mb (poC P T hd was pg nx) 127) :
    Calls Tryz.prog 93 #[.pointer (some ⟨mb, 0, none⟩), .int .u64 x] w fun e w' => e = .returned (.tuple #[]) ∧ Pop3 w' mb P T hd was pg x ∧ Only (· = mb) w w' := by
  have hl := h.lt
  obtain ⟨wB, hW⟩ : ∃ wB, wB = w.alloc (.cells #[.pointer (some ⟨mb, 0, none⟩)] 102) := ⟨_, rfl⟩
  have HM : Hid (Blk wB w.heap.size #[.pointer (some ⟨mb, 0, none⟩)] 102) := by rw [hW]; exact Lib.hid (Blk.new w _ _)
  have HB : Hid (Blk wB mb (poC P T hd was pg nx) 127) := by rw [hW]; exact Lib.hid (h.alloc _)
  have HA : Hid (Adds w wB) := by rw [hW]; exact Lib.hid ((Only.refl _ _).alloc _)
  have HW := Lib.hid hW
  obtain ⟨u, hu⟩ : ∃ u, u = underV x := ⟨_, rfl⟩
  have hub : -1 ≤ u ∧ u < 4096 := by rw [hu]; unfold underV; split <;> omega
  obtain ⟨f, hf⟩ : ∃ f, f = Tag.nx was u := ⟨_, rfl⟩
  have HF := Lib.hid hf; have HU := Lib.hid hu; have HWW := Lib.hid hw; have H01 := Lib.hid (And.intro h0 h1); have HUB := Lib.hid hub
  have c0 := HM.out.one
  have c2 : wB.cell? ⟨mb, 3, none⟩ = some (.int .i64 hd) := HB.out.cell 3
  have c3 : wB.cell? ⟨mb, 4, none⟩ = some (.int .u64 was) := HB.out.cell 4
  have nM := Lib.hid (HB.out.multi' (by simp) HM.out)
  clear h hW hf hu hw h0 h1 hub
  go_enter Tryz.func93, Tryz.ntmps93
  go_wp2_with fail
  rw [← HW.out]
  go_region_held3 (fun W => W.cell? ⟨w.heap.size, 0, none⟩ = some (.pointer (some ⟨mb, 0, none⟩)) ∧ W.cell? ⟨mb, 3, none⟩ = some (.int .i64 hd) ∧ W.cell? ⟨mb, 4, none⟩ = some (.int .u64 was) ∧ True)
    (first | assumption | (exact ⟨c0, c2, c3, trivial⟩))
    (first
    | (go_at_call 114; refine (under_any x _ H01.out.1 H01.out.2).mono ?_; rintro e w2 ⟨rfl, rfl⟩; rw [← HU.out])
    | (go_at_call 113; refine (tagNext_any was u _ HWW.out.1 HWW.out.2 (by have := HUB.out; omega) (by have := HUB.out; omega)).mono ?_; rintro e w3 ⟨rfl, k, rfl⟩; rw [← HF.out]))
  rename_i hH
  have hO2 : Adds wB (wB.drewN (1 + k)) := (Only.refl (fun _ => False) wB).drewN _
  have HM2 := Lib.hid (HM.out.only hO2 id); have HB2 := Lib.hid (HB.out.only hO2 id); have HO2 := Lib.hid (HA.out.thenF hO2)
  obtain ⟨d0, d2, d3, -⟩ := hH
  obtain ⟨wk, hwk⟩ : ∃ wk, wk = wB.drewN (1 + k) := ⟨_, rfl⟩
  rw [← hwk] at HM2 HB2 HO2 d0 d2 d3
  rw [← hwk]
  clear hwk hO2 c0 c2 c3
  go_wp2_with fail
  go_region_held3 (fun W => W.cell? ⟨w.heap.size, 0, none⟩ = some (.pointer (some ⟨mb, 0, none⟩)) ∧ W.cell? ⟨mb, 3, none⟩ = some (.int .i64 hd) ∧ W.cell? ⟨mb, 4, none⟩ = some (.int .u64 was) ∧ True)
    (first | assumption | (exact ⟨d0, d2, d3, trivial⟩) | (exact ⟨(HM2.out.drew.only ho3 nM.out).one, hb3.cell 3, hb3.cell 4, trivial⟩))
    (first
    | (go_at_call 95; with_reducible refine (deskCas_any HB2.out.drew (by simp) hd was f _ _ _).mono ?_; rintro e w4 ⟨rfl, hb3, hc3, ho3⟩; have HC := Lib.hid (And.intro hb3 (And.intro hc3 ho3))))
  all_goals
    go_wp2
    go_end0
    obtain ⟨b3, c3', o3⟩ := HC.out
    refine ⟨rfl, ⟨_, HM2.out.drew.only o3 nM.out, ⟨_, b3, ?_⟩⟩, ((HO2.out.drew).mono (fun _ _ e => e.elim)).trans o3⟩
    rw [← HU.out, ← HF.out]; exact c3'
set_option maxRecDepth 100000 in
set_option maxHeartbeats 2000000 in
theorem pop_lost (hm : Blk w jm #[.pointer (some ⟨mb, 0, none⟩)] 102) (h : Blk w mb (poC P T hd was pg nx) 127) :
    Calls Tryz.prog 115 #[.bool false, .pointer (some ⟨jm, 0, none⟩)] w fun e w' => e = .returned (.tuple #[]) ∧ Pop1 w' mb P T hd was pg ∧ Only (· = mb) w w' := by
  have HB := Lib.hid h; have HM := Lib.hid hm
  have c0 := hm.one
  have c2 : w.cell? ⟨mb, 3, none⟩ = some (.int .i64 hd) := h.cell 3
  have nM := Lib.hid (h.multi' (by simp) hm)
  clear h hm
  go_enter Tryz.func115, Tryz.ntmps115
  go_wp2_with fail
  go_region_held3 (fun W => W.cell? ⟨jm, 0, none⟩ = some (.pointer (some ⟨mb, 0, none⟩)) ∧ W.cell? ⟨mb, 3, none⟩ = some (.int .i64 hd) ∧ True)
    (first | assumption | (exact ⟨c0, c2, trivial⟩) | (exact ⟨(HM.out.drew.only ho3 nM.out).one, hb3.cell 3, trivial⟩))
    (first
    | (go_at_call 78; with_reducible refine (deskLoad_any HB.out.drew (by simp) hd _ _ _).mono ?_; rintro e w4 ⟨rfl, hb3, hc3, ho3⟩; have HC := Lib.hid (And.intro hb3 (And.intro hc3 ho3))))
  all_goals
    go_wp2
    refine bodyPost_ret (results_none rfl _ _ _) rfl ?_
    obtain ⟨b3, c3', o3⟩ := HC.out
    exact ⟨rfl, ⟨_, b3, c3'⟩, ((Only.refl (fun x => x = mb) w).drew).trans o3⟩
end
end Go.Proofs.YtbcfeaimopijfaaGreat

/- Package sweep: NewSweep; sweeps that may not be there. By an AI agent. -/
import Derived.Test.YtfgjacgkgonglaaGreatSweep2
namespace Go.Proofs.YtfgjacgkgonglaaGreat
open Go.RowKit
theorem pageOk12 (P T p : Int) : Lay.pageOk P T 12 p = (Lay.may P T && decide (0 ≤ p ∧ p < P)) := by
  unfold Lay.pageOk; congr 1; simp
theorem pageOk13 (P T p : Int) : Lay.pageOk P T 13 p = (Lay.may P T && decide (0 ≤ p ∧ p < P)) := by
  unfold Lay.pageOk; congr 1; simp
set_option maxHeartbeats 1000000 in
theorem newSweep_no (P T p : Int) (w : World) (h : (Lay.may P T && decide (0 ≤ p ∧ p < P)) = false) :
    Calls Tryz.prog 12 #[.agg #[.int .i64 P, .int .i64 T], .int .i64 p] w fun e w' => e = .returned (.pointer none) ∧ Adds w w' := by
  have h12 := pageOk12 P T p; have h13 := pageOk13 P T p
  rw [h] at h12 h13
  have H12 := Lib.hid h12; have H13 := Lib.hid h13
  clear h h12 h13
  go_enter Tryz.func12, Tryz.ntmps12
  go_wp2_with (first
    | (go_at_call 65; with_reducible refine (layPage_any P T 13 p _).mono ?_; rintro e w1 ⟨rfl, ho1⟩; rw [atOf_no H13.out]; obtain ⟨x0, x1, ho2⟩ := box2_cells ho1; have HO2 := Lib.hid ho2; clear ho1 ho2; have hlx := cell_lt x0)
    | (go_at_call 65; with_reducible refine (layPage_any P T 12 p _).mono ?_; rintro e w2 ⟨rfl, ho3⟩; rw [atOf_no H12.out]))
  go_ret
  exact ⟨rfl, ((HO2.out.alloc _).thenF ho3).alloc _⟩
set_option maxHeartbeats 2000000 in
theorem newSweep_ok (P T p : Int) (w : World) (h : (Lay.may P T && decide (0 ≤ p ∧ p < P)) = true) :
    Calls Tryz.prog 12 #[.agg #[.int .i64 P, .int .i64 T], .int .i64 p] w fun e w' => ∃ mb, e = .returned (.pointer (some ⟨mb, 0, none⟩)) ∧ Sw1 w' mb P T (Lay.pageAt P T 12 p) (Lay.pageAt P T 13 p) ∧ Adds w w' ∧ w.heap.size ≤ mb := by
  have h12 := pageOk12 P T p; have h13 := pageOk13 P T p
  rw [h] at h12 h13
  have H12 := Lib.hid h12; have H13 := Lib.hid h13
  obtain ⟨al, hal⟩ : ∃ al, al = Lay.pageAt P T 12 p := ⟨_, rfl⟩
  obtain ⟨mk, hmk⟩ : ∃ mk, mk = Lay.pageAt P T 13 p := ⟨_, rfl⟩
  have HAL := Lib.hid hal; have HMK := Lib.hid hmk
  rw [← hal, ← hmk]
  clear h h12 h13 hal hmk
  go_enter Tryz.func12, Tryz.ntmps12
  go_wp2_with (first
    | (go_at_call 65; with_reducible refine (layPage_any P T 13 p _).mono ?_; rintro e w1 ⟨rfl, ho1⟩; rw [atOf_yes H13.out, ← HMK.out]; obtain ⟨x0, x1, ho2⟩ := box2_cells ho1; have HO2 := Lib.hid ho2; clear ho1 ho2; have hlx := cell_lt x0)
    | (go_at_call 65; with_reducible refine (layPage_any P T 12 p _).mono ?_; rintro e w2 ⟨rfl, ho3⟩; rw [atOf_yes H12.out, ← HAL.out]; have y0 := (((Only.refl (fun _ => False) w1).alloc (.cells #[.int .i64 mk] 3)).thenF ho3).cellF (p := ⟨w.heap.size, 0, none⟩) hlx id |>.trans x0; have y1 := (((Only.refl (fun _ => False) w1).alloc (.cells #[.int .i64 mk] 3)).thenF ho3).cellF (p := ⟨w.heap.size, 1, none⟩) hlx id |>.trans x1; have HK := Lib.hid ((Blk.new w1 #[.int .i64 mk] 3).only ho3 id); have HO3 := Lib.hid ((HO2.out.alloc (.cells #[.int .i64 mk] 3)).thenF ho3); clear ho3 x0 x1; have hly := cell_lt y0))
  have hkl := HK.out.lt
  have hB := (((HK.out.alloc (.cells #[.int .i64 al] 3)).alloc (.cells (swCells P T .nilFunc 0) 126)).alloc (.cells #[.pointer (some ⟨w2.heap.size + 1, 0, none⟩)] 31))
  have hA := ((Blk.new w2 #[.int .i64 al] 3).alloc (.cells (swCells P T .nilFunc 0) 126)).alloc (.cells #[.pointer (some ⟨w2.heap.size + 1, 0, none⟩)] 31)
  have hM := (Blk.new (w2.alloc (.cells #[.int .i64 al] 3)) (swCells P T .nilFunc 0) 126).alloc (.cells #[.pointer (some ⟨w2.heap.size + 1, 0, none⟩)] 31)
  have hJ := Blk.new ((w2.alloc (.cells #[.int .i64 al] 3)).alloc (.cells (swCells P T .nilFunc 0) 126)) #[.pointer (some ⟨w2.heap.size + 1, 0, none⟩)] 31
  simp only [World.size_alloc] at hM hJ
  have hO := ((HO3.out.alloc (.cells #[.int .i64 al] 3)).alloc (.cells (swCells P T .nilFunc 0) 126)).alloc (.cells #[.pointer (some ⟨w2.heap.size + 1, 0, none⟩)] 31)
  have hz := HO3.out.size
  obtain ⟨wB, hW⟩ : ∃ wB, wB = ((w2.alloc (.cells #[.int .i64 al] 3)).alloc (.cells (swCells P T .nilFunc 0) 126)).alloc (.cells #[.pointer (some ⟨w2.heap.size + 1, 0, none⟩)] 31) := ⟨_, rfl⟩
  rw [← hW] at hB hA hM hJ hO
  rw [← hW]
  have HB := Lib.hid hB; have HA := Lib.hid hA; have HM := Lib.hid hM; have HJ := Lib.hid hJ; have HO := Lib.hid hO; have HZ := Lib.hid hz
  have c0 := hJ.one; have c1 := hB.one
  clear hB hA hM hJ hO hz hW y0 y1 hkl HK hly hlx
  go_region_held3 (fun W => W.cell? ⟨w2.heap.size + 1 + 1, 0, none⟩ = some (.pointer (some ⟨w2.heap.size + 1, 0, none⟩)) ∧ W.cell? ⟨w1.heap.size, 0, none⟩ = some (.int .i64 mk))
    (first | (exact ⟨c0, c1⟩) | (exact ⟨sw_keep2 HJ.out (by assumption) (HM.out.multi (by simp)), sw_keep2 HB.out (by assumption) (HM.out.multi (by simp))⟩))
    (first | (go_at_call 66; refine (deskLoad_any HM.out.drew (by simp) mk _ _ _).mono ?_; rintro e w3 ⟨rfl, hb3, hc3, ho3⟩; have HC := Lib.hid (And.intro hb3 (And.intro hc3 ho3)); clear hb3 hc3; have j3 := sw_keep2 HJ.out ho3 (HM.out.multi (by simp))))
  clear ho3
  go_wp2
  go_ret
  obtain ⟨b3, c3, o3'⟩ := HC.out
  have o3 := ((Only.refl (fun x => x = w2.heap.size + 1) wB).drew).trans o3'
  have hs : ∀ (q : Nat) (x : Value) (t : TypeId), Blk wB q #[x] t → ¬ q = w2.heap.size + 1 := fun q x t hq => HM.out.multi (by simp) hq
  have hzz := HZ.out
  exact ⟨_, rfl, ⟨_, _, _, _, ⟨HJ.out.only o3 (hs _ _ _ HJ.out), HA.out.only o3 (hs _ _ _ HA.out), HB.out.only o3 (hs _ _ _ HB.out)⟩, by simpa using b3, c3⟩, HO.out.andThen o3 (fun i hi e => by omega), by omega⟩
/-- A sweep that has not begun, or none. -/
def SweepP (w : World) (p : Option Addr) (P T : Int) : Prop := p = none ∨ ∃ mb al mk, p = some ⟨mb, 0, none⟩ ∧ Sw1 w mb P T al mk
section
variable {w w' : World} {p : Option Addr} {P T : Int}
theorem SweepP.adds (h : SweepP w p P T) (ho : Adds w w') : SweepP w' p P T := h.imp id (fun ⟨mb, al, mk, e, h⟩ => ⟨mb, al, mk, e, h.adds ho⟩)
theorem newSweepP (P T q : Int) (w : World) :
    Calls Tryz.prog 12 #[.agg #[.int .i64 P, .int .i64 T], .int .i64 q] w fun e w' => ∃ p, e = .returned (.pointer p) ∧ p.isSome = (Lay.may P T && decide (0 ≤ q ∧ q < P)) ∧ SweepP w' p P T ∧ Adds w w' := by
  cases h : (Lay.may P T && decide (0 ≤ q ∧ q < P))
  · exact (newSweep_no P T q w h).mono (fun _ _ ⟨he, ho⟩ => ⟨none, he, rfl, .inl rfl, ho⟩)
  · exact (newSweep_ok P T q w h).mono (fun _ _ ⟨mb, he, hi, ho, _⟩ => ⟨_, he, rfl, .inr ⟨mb, _, _, rfl, hi⟩, ho⟩)
theorem sweepP_nilA (h : SweepP w p P T) : Calls Tryz.prog 14 #[.pointer p, .pointer none] w fun e w' => e = .returned (.agg #[.int .i64 0, .int .i64 0, .int .u64 0, .int .u64 0]) ∧ Adds w w' := by
  obtain rfl | ⟨mb, al, mk, rfl, h⟩ := h
  · exact sweepSweepStep_nil _ _
  · obtain ⟨nx, fn, f, c, hn, hb⟩ := h.live
    exact sweepStep_nilA hn hb
theorem sweepP_other {ab sb rb : Nat} {P' T' : Int} (h : SweepP w p P T) (hA : IsArena w ab sb rb P' T') (hne : (P' == P && T' == T) = false) :
    Calls Tryz.prog 14 #[.pointer p, .pointer (some ⟨ab, 0, none⟩)] w fun e w' => e = .returned (.agg #[.int .i64 0, .int .i64 0, .int .u64 0, .int .u64 0]) ∧ Adds w w' := by
  obtain rfl | ⟨mb, al, mk, rfl, h⟩ := h
  · exact sweepSweepStep_nil _ _
  · obtain ⟨nx, fn, f, c, hn, hb⟩ := h.live
    exact sweepStep_other hn hb hA hne
theorem sweepP_done (h : SweepP w p P T) : Calls Tryz.prog 16 #[.pointer p] w fun e w' => e = .returned (.bool false) ∧ w = w' := by
  obtain rfl | ⟨mb, al, mk, rfl, h⟩ := h
  · exact sweepSweepDone_nil _
  · obtain ⟨nx, fn, f, c, hn, hb⟩ := h.live
    subst hn
    exact sweepSweepDone_no (hb.cell 2)
theorem sweepP_freed (h : SweepP w p P T) : Calls Tryz.prog 17 #[.pointer p] w fun e w' => e = .returned (.int .u64 0) ∧ w = w' := by
  obtain rfl | ⟨mb, al, mk, rfl, h⟩ := h
  · exact freed_nil _
  · obtain ⟨nx, fn, f, c, hn, hb⟩ := h.live
    exact freed_any hb
theorem sweep_nonnil (p : Option Addr) (W : World) : Sem.run Tryz.prog (binOp .neq 31 (.pointer p) (.pointer none)) W = .ok (.bool p.isSome) W := by cases p <;> kernel_rfl
end
end Go.Proofs.YtfgjacgkgonglaaGreat

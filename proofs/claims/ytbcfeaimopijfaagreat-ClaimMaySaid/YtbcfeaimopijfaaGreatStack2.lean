/- Package stack: NewPop, NewPush; those that may not be there. By an AI agent. -/
import Derived.Test.YtbcfeaimopijfaaGreatStack
namespace Go.Proofs.YtbcfeaimopijfaaGreat
open Go.RowKit
abbrev poC (P T hd was pg : Int) : Value → Array Value := fun nx => #[.int .i64 P, .int .i64 T, nx, .int .i64 hd, .int .u64 was, .int .i64 pg]
theorem poCells (P T hd was pg : Int) : Cells (poC P T hd was pg) P T := ⟨fun _ => rfl, fun _ => rfl, fun _ => rfl, fun _ _ => rfl⟩
abbrev poTop (mb : Nat) : Value := .func (.func 79) #[.pointer (some ⟨mb, 0, none⟩)] #[]
def Pop1 (w : World) (mb : Nat) (P T hd was pg : Int) : Prop := Desk w mb (poC P T hd was pg) 127 (.load hd (poTop mb))
set_option maxHeartbeats 1000000 in
theorem newPop_no (P T hd : Int) (w : World) (h : Lay.isHead P T hd = false) : Calls Tryz.prog 49 #[.agg #[.int .i64 P, .int .i64 T], .int .i64 hd] w fun e w' => e = .returned (.pointer none) ∧ Adds w w' := by
  cases hm : Lay.may P T
  · go_enter Tryz.func49, Tryz.ntmps49
    go_wp2_with (go_at_call 25; refine (layMay_any P T _).mono ?_; rintro e w1 ⟨rfl, ho1⟩; rw [hm])
    go_ret
    exact ⟨rfl, Adds.box ho1⟩
  · go_enter Tryz.func49, Tryz.ntmps49
    go_wp2_with (first
      | (go_at_call 25; refine (layMay_any P T _).mono ?_; rintro e w1 ⟨rfl, ho1⟩; rw [hm]; obtain ⟨x0, x1, ho2⟩ := box2_cells ho1; have HO2 := Lib.hid ho2; clear ho1 ho2)
      | (go_at_call 26; refine (stackHead_any P T hd _).mono ?_; rintro e w2 ⟨rfl, ho3⟩; rw [h]))
    go_ret
    exact ⟨rfl, HO2.out.thenF ho3⟩
set_option maxHeartbeats 1000000 in
theorem newPop_ok (P T hd : Int) (w : World) (h : Lay.isHead P T hd = true) : Calls Tryz.prog 49 #[.agg #[.int .i64 P, .int .i64 T], .int .i64 hd] w fun e w' => ∃ mb, e = .returned (.pointer (some ⟨mb, 0, none⟩)) ∧ Pop1 w' mb P T hd 0 (-1) ∧ Adds w w' ∧ w.heap.size ≤ mb := by
  have hm : Lay.may P T = true := by unfold Lay.isHead at h; rw [Bool.and_eq_true] at h; exact h.1
  go_enter Tryz.func49, Tryz.ntmps49
  go_wp2_with (first
    | (go_at_call 25; refine (layMay_any P T _).mono ?_; rintro e w1 ⟨rfl, ho1⟩; rw [hm]; obtain ⟨x0, x1, ho2⟩ := box2_cells ho1; have HO2 := Lib.hid ho2; clear ho1 ho2)
    | (go_at_call 26; refine (stackHead_any P T hd _).mono ?_; rintro e w2 ⟨rfl, ho3⟩; rw [h]; have x0' := (ho3.cellF (p := ⟨w.heap.size, 0, none⟩) (cell_lt x0) id).trans x0; have x1' := (ho3.cellF (p := ⟨w.heap.size, 1, none⟩) (cell_lt x0) id).trans x1; have HO3 := Lib.hid (HO2.out.thenF ho3); clear ho3)
    | (go_at_call 78; refine (deskLoad_any (c := poC P T hd 0 (-1) .nilFunc) (Blk.new w2 _ _) (by simp) hd _ _ _).mono ?_; rintro e w3 ⟨rfl, hb3, hc3, ho4⟩; have HC3 := Lib.hid (And.intro hb3 (And.intro hc3 ho4)); clear hb3 hc3 ho4))
  go_ret
  obtain ⟨b3, c3', o4⟩ := HC3.out
  have hz := HO3.out.size
  exact ⟨_, rfl, ⟨_, b3, c3'⟩, (HO3.out.alloc _).andThen o4 (fun i hi e => by omega), hz⟩
def PopP (w : World) (p : Option Addr) (P T : Int) : Prop := p = none ∨ ∃ mb hd, p = some ⟨mb, 0, none⟩ ∧ Pop1 w mb P T hd 0 (-1)
section
variable {w w' : World} {p : Option Addr} {P T : Int}
theorem PopP.adds (h : PopP w p P T) (ho : Adds w w') : PopP w' p P T := h.imp id (fun ⟨mb, hd, e, h⟩ => ⟨mb, hd, e, Desk.adds h ho⟩)
theorem newPopP (P T hd : Int) (w : World) : Calls Tryz.prog 49 #[.agg #[.int .i64 P, .int .i64 T], .int .i64 hd] w fun e w' => ∃ p, e = .returned (.pointer p) ∧ p.isSome = Lay.isHead P T hd ∧ PopP w' p P T ∧ Adds w w' := by
  cases h : Lay.isHead P T hd
  · exact (newPop_no P T hd w h).mono (fun _ _ ⟨he, ho⟩ => ⟨none, he, rfl, .inl rfl, ho⟩)
  · exact (newPop_ok P T hd w h).mono (fun _ _ ⟨mb, he, hi, ho, _⟩ => ⟨_, he, rfl, .inr ⟨mb, hd, rfl, hi⟩, ho⟩)
theorem popP_nilA (h : PopP w p P T) : Calls Tryz.prog 152 #[.pointer p, .pointer none] w fun e w' => e = .returned (.agg #[.int .i64 0, .int .i64 0, .int .u64 0, .int .u64 0]) ∧ Adds w w' := by
  obtain rfl | ⟨mb, hd, rfl, h⟩ := h
  · exact stackPopStep_nil _ _
  · exact (stackPopStep_some (Q := fun _ => True) (S := fun _ => False) (fun _ _ _ _ => trivial) (fun _ e => e.elim) (fun w1 ho => (Desk.adds h ho).inNone (poCells ..) (by simp))).mono (fun _ _ h => ⟨h.1, h.2.2⟩)
theorem popP_other {ab sb rb : Nat} {P' T' : Int} (h : PopP w p P T) (hA : IsArena w ab sb rb P' T') (hne : (P' == P && T' == T) = false) : Calls Tryz.prog 152 #[.pointer p, .pointer (some ⟨ab, 0, none⟩)] w fun e w' => e = .returned (.agg #[.int .i64 0, .int .i64 0, .int .u64 0, .int .u64 0]) ∧ Adds w w' := by
  obtain rfl | ⟨mb, hd, rfl, h⟩ := h
  · exact stackPopStep_nil _ _
  · exact (stackPopStep_some (Q := fun _ => True) (S := fun _ => False) (fun _ _ _ _ => trivial) (fun _ e => e.elim) (fun w1 ho => (Desk.adds h ho).inOther (poCells ..) (by simp) (hA.only ho id) hne)).mono (fun _ _ h => ⟨h.1, h.2.2⟩)
theorem popP_done (h : PopP w p P T) : Calls Tryz.prog 151 #[.pointer p] w fun e w' => e = .returned (.bool false) ∧ w = w' := by
  obtain rfl | ⟨mb, hd, rfl, n, hb, _⟩ := h
  · exact stackPopDone_nil _
  · exact stackPopDone_no (hb.cell 2)
theorem pop_nonnil (p : Option Addr) (W : World) : Sem.run Tryz.prog (binOp .neq 102 (.pointer p) (.pointer none)) W = .ok (.bool p.isSome) W := by cases p <;> kernel_rfl
set_option maxHeartbeats 400000 in
theorem popPage_nil (w : World) : Calls Tryz.prog 52 #[.pointer none] w fun e w' => e = .returned (.int .i64 0) ∧ w = w' := by
  go_enter Tryz.func52, Tryz.ntmps52
  go_wp2
  go_ret
  exact ⟨rfl, rfl⟩
end
end Go.Proofs.YtbcfeaimopijfaaGreat

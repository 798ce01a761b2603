/- Package dustpanlaw12: a push, alone. By an AI agent. -/
import Derived.Test.YtbcfeaimopijfaaStack4
import Derived.Test.YtbcfeaimopijfaaStackAwake
namespace Go.Proofs.Ytbcfeaimopijfaa
open Go.RowKit
section
variable {w : World} {ab sb sm rb : Nat} {P T H p : Int} {f : Int → Int}
theorem YS.low {hd : Int} (h : YS w ab sb sm rb P T hd H f) : sb < w.heap.size ∧ sm < w.heap.size := by
  obtain ⟨s, h1, _⟩ := h; exact ⟨h1.st.head.lt, h1.st.row.lt⟩
theorem YS.bd {hd : Int} (h : YS w ab sb sm rb P T hd H f) : 0 ≤ H ∧ H < 18446744073709551616 := by
  obtain ⟨s, h1, h2⟩ := h; have := StoreS.word_bd h1.st.fit hd; rw [h2.top] at this; exact this
set_option maxRecDepth 100000 in
set_option maxHeartbeats 2000000 in
theorem law12push_any (hY : YS w ab sb sm rb P T 8 H f) (hh : HD P T 8) (h0 : 0 ≤ p) (h1 : p < P) :
    Calls Try.prog 20 #[.pointer (some ⟨ab, 0, none⟩), .agg #[.int .i64 P, .int .i64 T], .int .i64 p] w fun e w' => e = .returned (.bool true) ∧ YS w' ab sb sm rb P T 8 (Tag.nx H p) (fun q => if q = p then Tag.pg H + 1 else f q) ∧ Only (SB sb sm) w w' := by
  have hlo := hY.low; have hbd := hY.bd
  have HY := Lib.hid hY; have HH := Lib.hid hh; have HP := Lib.hid (And.intro h0 h1); have HLO := Lib.hid hlo; have HBD := Lib.hid hbd
  clear hY hh h0 h1 hlo hbd
  go_enter Try.func20, Try.ntmps20
  go_wp2_with (go_at_call 10; refine (newPush_ok P T 8 p _ HH.out.to HP.out.1 HP.out.2).mono ?_; rintro e w1 ⟨mb, rfl, hm, ho, hlow⟩; have HM1 := Lib.hid hm; have hoz := ((Only.refl (fun _ => False) w).alloc _).thenF ho; have HY1 := Lib.hid (HY.out.adds hoz); have HO1 := Lib.hid (hoz.mono (fun _ _ e => e.elim) : Only (SB sb sm) w w1); have HL : Hid (w.heap.size ≤ mb) := Lib.hid (by simp only [World.size_alloc] at hlow; omega); clear hm ho hoz hlow)
  refine wp_loop_rounds 4 ?_
  rw [rounds_succ]
  go_wp2_with (go_at_call 12; refine (pushLoad HM1.out HY1.out HH.out).mono ?_; rintro e w2 ⟨rfl, ⟨hm, hy⟩, ho⟩; have HM2 := Lib.hid hm; have HY2 := Lib.hid hy; have HO2 := Lib.hid (HO1.out.andThen ho (fun i hi e => by have := HL.out; exact e.elim id (fun e => absurd e (by omega)))); clear hm hy ho)
  rw [rounds_succ]
  go_wp2_with (go_at_call 12; refine (pushPut HM2.out HY2.out HH.out HBD.out.1 HBD.out.2 HP.out.1 HP.out.2).mono ?_; rintro e w3 ⟨rfl, ⟨hm, hy⟩, ho⟩; have HM3 := Lib.hid hm; have HY3 := Lib.hid hy; have HO3 := Lib.hid (HO2.out.andThen ho (fun i hi e => by have := HL.out; exact e.elim id (fun e => absurd e (by omega)))); clear hm hy ho)
  rw [rounds_succ]
  go_wp2_with (go_at_call 12; refine (pushWin HM3.out HY3.out HH.out rfl).mono ?_; rintro e w4 ⟨rfl, ⟨hm, hy⟩, ho⟩; have HM4 := Lib.hid hm; have HY4 := Lib.hid hy; have HO4 := Lib.hid (HO3.out.andThen ho (fun i hi e => by have := HL.out; exact e.elim id (fun e => absurd e (by omega)))); clear hm hy ho)
  rw [rounds_succ]
  go_wp2_with (go_at_call 11; refine (stackPushDone_yes (Blk.cell HM4.out 2)).mono ?_; rintro e w5 ⟨rfl, rfl⟩)
  go_ret
  exact ⟨rfl, HY4.out, HO4.out⟩
end
end Go.Proofs.Ytbcfeaimopijfaa

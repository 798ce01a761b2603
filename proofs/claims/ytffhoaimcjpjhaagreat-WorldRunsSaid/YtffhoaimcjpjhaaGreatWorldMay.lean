/- Machines of chapter 20 that may not be there; its example. By an AI agent. -/
import Derived.Test.YtffhoaimcjpjhaaGreatWorld
import Derived.Test.YtffhoaimcjpjhaaGreatWorld2
import Derived.Test.YtffhoaimcjpjhaaGreatYardNew
namespace Go.Proofs.YtffhoaimcjpjhaaGreat
open Go.RowKit
def EnterP (w : World) (p : Option Addr) (P T : Int) : Prop := p = none ∨ ∃ mb, p = some ⟨mb, 0, none⟩ ∧ IsEnter w mb P T 0 .begin
theorem EnterP.adds {w w' : World} {p : Option Addr} {P T : Int} (h : EnterP w p P T) (ho : Adds w w') : EnterP w' p P T := h.imp id (fun ⟨mb, e, h⟩ => ⟨mb, e, h.adds ho⟩)
theorem newEnterP (P T : Int) (w : World) :
    Calls Tryz.prog 51 #[.agg #[.int .i64 P, .int .i64 T]] w fun e w' => ∃ p, e = .returned (.pointer p) ∧ p.isSome = (Lay.may P T) ∧ EnterP w' p P T ∧ Adds w w' := by
  cases h : (Lay.may P T)
  · exact (newEnter_no P T w h).mono (fun _ _ ⟨he, ho⟩ => ⟨none, he, rfl, .inl rfl, ho⟩)
  · exact (newEnter_ok P T w h).mono (fun _ _ ⟨mb, he, hi, ho, _⟩ => ⟨_, he, rfl, .inr ⟨mb, rfl, hi⟩, ho⟩)
theorem enterP_nilA {w : World} {p : Option Addr} {P T : Int} (h : EnterP w p P T) : Calls Tryz.prog 55 #[.pointer p, .pointer none] w fun e w' => e = .returned (.agg #[.int .i64 0, .int .i64 0, .int .u64 0, .int .u64 0]) ∧ Adds w w' := by
  obtain rfl | ⟨mb, rfl, h⟩ := h
  · exact worldEnterStep_nil _ _
  · exact enterStep_none h
theorem enterP_other {w : World} {p : Option Addr} {P T : Int} {ab sb rb : Nat} {P' T' : Int} (h : EnterP w p P T) (hA : IsArena w ab sb rb P' T') (hne : (P' == P && T' == T) = false) :
    Calls Tryz.prog 55 #[.pointer p, .pointer (some ⟨ab, 0, none⟩)] w fun e w' => e = .returned (.agg #[.int .i64 0, .int .i64 0, .int .u64 0, .int .u64 0]) ∧ Adds w w' := by
  obtain rfl | ⟨mb, rfl, h⟩ := h
  · exact worldEnterStep_nil _ _
  · exact enterStep_other h hA hne
theorem enterP_done {w : World} {p : Option Addr} {P T : Int} (h : EnterP w p P T) : Calls Tryz.prog 56 #[.pointer p] w fun e w' => e = .returned (.bool false) ∧ w = w' := by
  obtain rfl | ⟨mb, rfl, h⟩ := h
  · exact worldEnterDone_nil _
  · exact enterDone_no h
theorem enter_nonnil (p : Option Addr) (W : World) : Sem.run Tryz.prog (binOp .neq 48 (.pointer p) (.pointer none)) W = .ok (.bool p.isSome) W := by cases p <;> kernel_rfl
def ExitP (w : World) (p : Option Addr) (P T : Int) : Prop := p = none ∨ ∃ mb, p = some ⟨mb, 0, none⟩ ∧ IsExit w mb P T
theorem ExitP.adds {w w' : World} {p : Option Addr} {P T : Int} (h : ExitP w p P T) (ho : Adds w w') : ExitP w' p P T := h.imp id (fun ⟨mb, e, h⟩ => ⟨mb, e, h.adds ho⟩)
theorem newExitP (P T : Int) (w : World) :
    Calls Tryz.prog 52 #[.agg #[.int .i64 P, .int .i64 T]] w fun e w' => ∃ p, e = .returned (.pointer p) ∧ p.isSome = (Lay.may P T) ∧ ExitP w' p P T ∧ Adds w w' := by
  cases h : (Lay.may P T)
  · exact (newExit_no P T w h).mono (fun _ _ ⟨he, ho⟩ => ⟨none, he, rfl, .inl rfl, ho⟩)
  · exact (newExit_ok P T w h).mono (fun _ _ ⟨mb, he, hi, ho, _⟩ => ⟨_, he, rfl, .inr ⟨mb, rfl, hi⟩, ho⟩)
theorem exitP_nilA {w : World} {p : Option Addr} {P T : Int} (h : ExitP w p P T) : Calls Tryz.prog 58 #[.pointer p, .pointer none] w fun e w' => e = .returned (.agg #[.int .i64 0, .int .i64 0, .int .u64 0, .int .u64 0]) ∧ Adds w w' := by
  obtain rfl | ⟨mb, rfl, h⟩ := h
  · exact worldExitStep_nil _ _
  · exact exitStep_none h
theorem exitP_other {w : World} {p : Option Addr} {P T : Int} {ab sb rb : Nat} {P' T' : Int} (h : ExitP w p P T) (hA : IsArena w ab sb rb P' T') (hne : (P' == P && T' == T) = false) :
    Calls Tryz.prog 58 #[.pointer p, .pointer (some ⟨ab, 0, none⟩)] w fun e w' => e = .returned (.agg #[.int .i64 0, .int .i64 0, .int .u64 0, .int .u64 0]) ∧ Adds w w' := by
  obtain rfl | ⟨mb, rfl, h⟩ := h
  · exact worldExitStep_nil _ _
  · exact exitStep_other h hA hne
theorem exitP_done {w : World} {p : Option Addr} {P T : Int} (h : ExitP w p P T) : Calls Tryz.prog 59 #[.pointer p] w fun e w' => e = .returned (.bool false) ∧ w = w' := by
  obtain rfl | ⟨mb, rfl, h⟩ := h
  · exact worldExitDone_nil _
  · exact exitDone_no h
theorem exit_nonnil (p : Option Addr) (W : World) : Sem.run Tryz.prog (binOp .neq 49 (.pointer p) (.pointer none)) W = .ok (.bool p.isSome) W := by cases p <;> kernel_rfl
def StopP (w : World) (p : Option Addr) (P T t : Int) : Prop := p = none ∨ ∃ mb, p = some ⟨mb, 0, none⟩ ∧ IsStop w mb P T 0 (.try_ t)
theorem StopP.adds {w w' : World} {p : Option Addr} {P T t : Int} (h : StopP w p P T t) (ho : Adds w w') : StopP w' p P T t := h.imp id (fun ⟨mb, e, h⟩ => ⟨mb, e, h.adds ho⟩)
theorem newStopP (P T t : Int) (w : World) :
    Calls Tryz.prog 53 #[.agg #[.int .i64 P, .int .i64 T], .int .i64 t] w fun e w' => ∃ p, e = .returned (.pointer p) ∧ p.isSome = (Lay.may P T && decide (0 ≤ t ∧ t < T)) ∧ StopP w' p P T t ∧ Adds w w' := by
  cases h : (Lay.may P T && decide (0 ≤ t ∧ t < T))
  · exact (newStop_no P T t w h).mono (fun _ _ ⟨he, ho⟩ => ⟨none, he, rfl, .inl rfl, ho⟩)
  · rw [Bool.and_eq_true] at h
    exact (newStop_ok P T t w h.1 h.2).mono (fun _ _ ⟨mb, he, hi, ho, _⟩ => ⟨_, he, rfl, .inr ⟨mb, rfl, hi⟩, ho⟩)
theorem stopP_nilA {w : World} {p : Option Addr} {P T t : Int} (h : StopP w p P T t) : Calls Tryz.prog 60 #[.pointer p, .pointer none] w fun e w' => e = .returned (.agg #[.int .i64 0, .int .i64 0, .int .u64 0, .int .u64 0]) ∧ Adds w w' := by
  obtain rfl | ⟨mb, rfl, h⟩ := h
  · exact worldStopStep_nil _ _
  · exact stopStep_none h
theorem stopP_other {w : World} {p : Option Addr} {P T t : Int} {ab sb rb : Nat} {P' T' : Int} (h : StopP w p P T t) (hA : IsArena w ab sb rb P' T') (hne : (P' == P && T' == T) = false) :
    Calls Tryz.prog 60 #[.pointer p, .pointer (some ⟨ab, 0, none⟩)] w fun e w' => e = .returned (.agg #[.int .i64 0, .int .i64 0, .int .u64 0, .int .u64 0]) ∧ Adds w w' := by
  obtain rfl | ⟨mb, rfl, h⟩ := h
  · exact worldStopStep_nil _ _
  · exact stopStep_other h hA hne
theorem stopP_done {w : World} {p : Option Addr} {P T t : Int} (h : StopP w p P T t) : Calls Tryz.prog 61 #[.pointer p] w fun e w' => e = .returned (.bool false) ∧ w = w' := by
  obtain rfl | ⟨mb, rfl, h⟩ := h
  · exact worldStopDone_nil _
  · exact stopDone_no h
theorem stop_nonnil (p : Option Addr) (W : World) : Sem.run Tryz.prog (binOp .neq 50 (.pointer p) (.pointer none)) W = .ok (.bool p.isSome) W := by cases p <;> kernel_rfl
def GoP (w : World) (p : Option Addr) (P T : Int) : Prop := p = none ∨ ∃ mb, p = some ⟨mb, 0, none⟩ ∧ IsGo w mb P T
theorem GoP.adds {w w' : World} {p : Option Addr} {P T : Int} (h : GoP w p P T) (ho : Adds w w') : GoP w' p P T := h.imp id (fun ⟨mb, e, h⟩ => ⟨mb, e, h.adds ho⟩)
theorem newGoP (P T : Int) (w : World) :
    Calls Tryz.prog 54 #[.agg #[.int .i64 P, .int .i64 T]] w fun e w' => ∃ p, e = .returned (.pointer p) ∧ p.isSome = (Lay.may P T) ∧ GoP w' p P T ∧ Adds w w' := by
  cases h : (Lay.may P T)
  · exact (newGo_no P T w h).mono (fun _ _ ⟨he, ho⟩ => ⟨none, he, rfl, .inl rfl, ho⟩)
  · exact (newGo_ok P T w h).mono (fun _ _ ⟨mb, he, hi, ho, _⟩ => ⟨_, he, rfl, .inr ⟨mb, rfl, hi⟩, ho⟩)
theorem goP_nilA {w : World} {p : Option Addr} {P T : Int} (h : GoP w p P T) : Calls Tryz.prog 63 #[.pointer p, .pointer none] w fun e w' => e = .returned (.agg #[.int .i64 0, .int .i64 0, .int .u64 0, .int .u64 0]) ∧ Adds w w' := by
  obtain rfl | ⟨mb, rfl, h⟩ := h
  · exact worldGoStep_nil _ _
  · exact goStep_none h
theorem goP_other {w : World} {p : Option Addr} {P T : Int} {ab sb rb : Nat} {P' T' : Int} (h : GoP w p P T) (hA : IsArena w ab sb rb P' T') (hne : (P' == P && T' == T) = false) :
    Calls Tryz.prog 63 #[.pointer p, .pointer (some ⟨ab, 0, none⟩)] w fun e w' => e = .returned (.agg #[.int .i64 0, .int .i64 0, .int .u64 0, .int .u64 0]) ∧ Adds w w' := by
  obtain rfl | ⟨mb, rfl, h⟩ := h
  · exact worldGoStep_nil _ _
  · exact goStep_other h hA hne
theorem goP_done {w : World} {p : Option Addr} {P T : Int} (h : GoP w p P T) : Calls Tryz.prog 64 #[.pointer p] w fun e w' => e = .returned (.bool false) ∧ w = w' := by
  obtain rfl | ⟨mb, rfl, h⟩ := h
  · exact worldGoDone_nil _
  · exact goDone_no h
theorem go_nonnil (p : Option Addr) (W : World) : Sem.run Tryz.prog (binOp .neq 51 (.pointer p) (.pointer none)) W = .ok (.bool p.isSome) W := by cases p <;> kernel_rfl
theorem enterP_gen {w : World} {p : Option Addr} {P T : Int} (h : EnterP w p P T) : Calls Tryz.prog 57 #[.pointer p] w fun e w' => e = .returned (.int .i64 0) ∧ w = w' := by
  obtain rfl | ⟨mb, rfl, _, _, hd⟩ := h
  · exact enterGen_nil _
  · obtain ⟨nx, hb, _⟩ := hd.blk
    exact enterGen_any hb
theorem stopP_gen {w : World} {p : Option Addr} {P T t : Int} (h : StopP w p P T t) : Calls Tryz.prog 62 #[.pointer p] w fun e w' => e = .returned (.int .i64 0) ∧ w = w' := by
  obtain rfl | ⟨mb, rfl, _, _, hd⟩ := h
  · exact stopGen_nil _
  · obtain ⟨nx, hb, _⟩ := hd.blk
    exact stopGen_any hb
/-- All four. -/
structure Four (w : World) (p q r u : Option Addr) (P T t : Int) : Prop where
  en : EnterP w p P T
  ex : ExitP w q P T
  st : StopP w r P T t
  go : GoP w u P T
theorem Four.adds {w w' : World} {p q r u : Option Addr} {P T t : Int} (h : Four w p q r u P T t) (ho : Adds w w') : Four w' p q r u P T t := ⟨h.en.adds ho, h.ex.adds ho, h.st.adds ho, h.go.adds ho⟩
theorem begun_first {n : Nat} {v : Int} (h : 0 < n) : (StoreS.begun n 0 v).word 0 = v := by
  simp [StoreS.word, StoreS.begun, StoreS.fresh, h]
set_option maxRecDepth 100000 in
set_option maxHeartbeats 4000000 in
theorem awake20_any (w : World) : Calls Tryz.prog 16 #[] w fun e w' => e = .returned (.bool true) ∧ Adds w w' := by
  have hkd := fun W a b c d => did_kind W a b c d
  obtain ⟨s0, hs0⟩ : ∃ s0, s0 = StoreS.begun 90 0 1 := ⟨_, rfl⟩
  have HL : Hid (s0.ws.length = 90 ∧ s0.word 0 = 1 ∧ s0.word 1 = 0) := by rw [hs0]; exact Lib.hid ⟨begun_len _ _ _, begun_first (by omega), begun_other _ _ _ (by omega)⟩
  have HS0 := Lib.hid hs0
  have inr : Hid (∀ i : Int, 0 ≤ i → i < 90 → s0.inR i) := Lib.hid (fun i h0 h1 => ⟨h0, by rw [HL.out.1]; exact h1⟩)
  clear hs0
  go_enter Tryz.func16, Tryz.ntmps16
  go_wp2_with (first
    | (go_at_call 45; refine (arenaNew_yard 1 1 _ (by decide)).mono ?_; rintro e w1 ⟨ab, sb, sm, rb, rfl, hy, ho, hlow⟩; rw [show (Lay.words 1 1).toNat = 90 from by decide, ← HS0.out] at hy; have HY1 := Lib.hid hy; have HO1 := Lib.hid ho; have HN1 := Lib.hid hlow; clear hy ho hlow)
    | (go_at_call 51; refine (newEnter_ok 1 1 _ (by decide)).mono ?_; rintro e w2 ⟨mb, rfl, hm, ho, hlow⟩; have HY2 := Lib.hid (HY1.out.adds ho); have HM2 := Lib.hid hm; have HN2 := Lib.hid (show w.heap.size ≤ sb ∧ w.heap.size ≤ sm ∧ w.heap.size ≤ mb from ⟨HN1.out.2.1, HN1.out.2.2, Nat.le_trans HO1.out.size hlow⟩); have HO2 := Lib.hid (HO1.out.thenF ho); clear hm ho hlow)
    | (go_at_call 55; refine (enterStep_gen HM4.out HY4.out (by rw [HL4.out.1]; omega) (by rw [HL4.out.2.1]; omega)).mono ?_; rintro e w5 ⟨rfl, ⟨hm, hy⟩, ho⟩; rw [HL4.out.2.1] at hm; have HM5 := Lib.hid hm; have HO5 := Lib.hid (HO4.out.andThen ho (fun i hi e => by have := HN2.out; rcases e with (rfl | rfl) | rfl <;> omega)); clear hm hy ho)
    | (go_at_call 55; refine (enterStep_look_yes HM3.out HY3.out (by rw [HL3.out.1]; omega) HL3.out.2.2).mono ?_; rintro e w4 ⟨rfl, ⟨hm, hy⟩, ho⟩; obtain ⟨s4, hs4⟩ : ∃ s4, s4 = s3.acc 1 1 (s3.word 1) := ⟨_, rfl⟩; rw [← hs4] at hy; have HM4 := Lib.hid hm; have HY4 := Lib.hid hy; have HL4 : Hid (s4.ws.length = 90 ∧ s4.word 0 = 1 ∧ True) := (by rw [hs4]; exact Lib.hid ⟨by have := HL3.out.1; simpa [StoreS.acc] using this, by rw [StoreS.acc_word_other (by omega) (by omega) (by omega)]; exact HL3.out.2.1, trivial⟩); have HO4 := Lib.hid (HO3.out.andThen ho (fun i hi e => by have := HN2.out; rcases e with (rfl | rfl) | rfl <;> omega)); clear hm hy ho hs4)
    | (go_at_call 55; refine (enterStep_begin HM2.out HY2.out (by rw [HL.out.1]; omega)).mono ?_; rintro e w3 ⟨rfl, ⟨hm, hy⟩, ho⟩; obtain ⟨s3, hs3⟩ : ∃ s3, s3 = s0.acc 5 4 ((s0.word 4 + 1) % 18446744073709551616) := ⟨_, rfl⟩; rw [← hs3] at hy; have HM3 := Lib.hid hm; have HY3 := Lib.hid hy; have HL3 : Hid (s3.ws.length = 90 ∧ s3.word 0 = 1 ∧ s3.word 1 = 0) := (by rw [hs3]; exact Lib.hid ⟨by have := HL.out.1; simpa [StoreS.acc] using this, by rw [StoreS.acc_word_other (by omega) (by omega) (by omega)]; exact HL.out.2.1, by rw [StoreS.acc_word_other (by omega) (by omega) (by omega)]; exact HL.out.2.2⟩); have HO3 := Lib.hid (HO2.out.andThen ho (fun i hi e => by have := HN2.out; rcases e with (rfl | rfl) | rfl <;> omega)); clear hm hy ho hs3)
    | (go_at_call 56; refine (enterDone_yes HM5.out).mono ?_; rintro e w6 ⟨rfl, rfl⟩)
    | (go_at_call 57; refine (enterGen_any HM5.out).mono ?_; rintro e w7 ⟨rfl, rfl⟩))
  go_ret
  exact ⟨rfl, HO5.out⟩
end Go.Proofs.YtffhoaimcjpjhaaGreat

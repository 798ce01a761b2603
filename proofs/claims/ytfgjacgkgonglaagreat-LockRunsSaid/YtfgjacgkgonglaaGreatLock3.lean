/- Package lock: a leave's step; Held; machines that may not be there. By an AI agent. -/
import Derived.Test.YtfgjacgkgonglaaGreatLock2
import Derived.Test.YtfgjacgkgonglaaGreatArena
namespace Go.Proofs.YtfgjacgkgonglaaGreat
open Go.RowKit
section
variable {w : World} {lo mb ab sb sm rb : Nat} {P T t : Int} {s : StoreS}
set_option maxHeartbeats 1000000 in
theorem leaveStep_any (h : IsLeave w mb P T) (hY : Yard w ab sb sm rb P T s) (hi : s.inR 2) (hbig : 1 < s.ws.length) :
    Calls Tryz.prog 26 #[.pointer (some ⟨mb, 0, none⟩), .pointer (some ⟨ab, 0, none⟩)] w fun e w' => e = .returned (.agg #[.int .i64 2, .int .i64 2, .int .u64 (s.word 2), .int .u64 0]) ∧
      (Blk w' mb #[.int .i64 P, .int .i64 T, .nilFunc] 143 ∧ Yard w' ab sb sm rb P T (s.acc 2 2 0)) ∧ Only (fun j => SB sb sm j ∨ j = mb) w w' := by
  have hlt := hY.st.head.lt; have hlt2 := hY.st.row.lt
  obtain ⟨n, h1, h2⟩ := h
  have hmb := hY.mach h1 (by decide) (by decide) (by decide)
  refine lockLeaveStep_some (Q := fun w' => Blk w' mb #[.int .i64 P, .int .i64 T, .nilFunc] 143 ∧ Yard w' ab sb sm rb P T (s.acc 2 2 0)) (S := fun j => SB sb sm j ∨ j = mb) ((stays_blk _ _ _ (by decide)).and (fun _ _ ho h => Yard.dids h ho)) (fun j hj => hj.elim (fun e => e.elim (· ▸ hlt) (· ▸ hlt2)) (· ▸ h1.lt)) (fun w1 ho => ?_)
  have g1 := h1.only ho id
  refine (stepPut (s' := s.acc 2 2 0) (n := n) (g1.cell 2) (g1.cell 0) (g1.cell 1) (hY.adds ho) (h2.only ho (fun _ _ _ => id)) hbig
    (fun W hs => put_in sb sm 2 0 s W hs hi (by omega) (by omega)) (Q := fun w => Blk w mb #[.int .i64 P, .int .i64 T, .nilFunc] 143) (stays_blk _ _ _ (by decide)) (M := (· = mb)) (fun j e => by subst e; exact ⟨g1.lt, hmb⟩)
    (enters_of Tryz.func71 (by kernel_rfl) rfl) (fun w2 ho2 hy2 => ?_)).mono ?_
  · have g2 := g1.only ho2 (fun e => e.elim hmb.2.1 hmb.2.2)
    refine (deskEnd_any g2 (by simp)).mono ?_
    rintro e w3 ⟨rfl, rfl⟩
    exact ⟨rfl, g2.setCell 2 _, (Only.refl (fun x => x = mb) _).setCell (.inl rfl) _⟩
  · rintro e w2 ⟨rfl, hq, ho2⟩
    exact ⟨rfl, hq, ho2⟩
theorem leaveStep_nilA (h : IsLeave w mb P T) :
    Calls Tryz.prog 26 #[.pointer (some ⟨mb, 0, none⟩), .pointer none] w fun e w' => e = .returned (.agg #[.int .i64 0, .int .i64 0, .int .u64 0, .int .u64 0]) ∧ Adds w w' := by
  obtain ⟨n, h1, h2⟩ := h
  exact (lockLeaveStep_some (Q := fun _ => True) (S := fun _ => False) (fun _ _ _ _ => trivial) (fun _ e => e.elim) (fun w1 ho => (deskStep_nilA ((h1.only ho id).cell 2)).mono (fun e w2 h => ⟨h.1, trivial, h.2⟩))).mono (fun e w2 h => ⟨h.1, h.2.2⟩)
theorem leaveStep_other {P' T' : Int} (h : IsLeave w mb P T) (hA : IsArena w ab sb rb P' T') (hne : (P' == P && T' == T) = false) :
    Calls Tryz.prog 26 #[.pointer (some ⟨mb, 0, none⟩), .pointer (some ⟨ab, 0, none⟩)] w fun e w' => e = .returned (.agg #[.int .i64 0, .int .i64 0, .int .u64 0, .int .u64 0]) ∧ Adds w w' := by
  obtain ⟨n, h1, h2⟩ := h
  exact (lockLeaveStep_some (Q := fun _ => True) (S := fun _ => False) (fun _ _ _ _ => trivial) (fun _ e => e.elim) (fun w1 ho => (deskStep_other ((h1.only ho id).cell 2) ((h1.only ho id).cell 0) ((h1.only ho id).cell 1) (hA.only ho id) hne).mono (fun e w2 h => ⟨h.1, trivial, h.2⟩))).mono (fun e w2 h => ⟨h.1, h.2.2⟩)
theorem leaveDone_no (h : IsLeave w mb P T) : Calls Tryz.prog 27 #[.pointer (some ⟨mb, 0, none⟩)] w fun e w' => e = .returned (.bool false) ∧ w = w' := by
  obtain ⟨n, h1, h2⟩ := h
  exact lockLeaveDone_no (h1.cell 2)
set_option maxHeartbeats 400000 in
theorem held_nil (w : World) : Calls Tryz.prog 28 #[.pointer none] w fun e w' => e = .returned (.int .i64 (-1)) ∧ w = w' := by
  go_enter Tryz.func28, Tryz.ntmps28
  go_wp2_with (first
    | (go_at_call 60; refine (arenaStore_nil _).mono ?_; rintro e w1 ⟨rfl, rfl⟩)
    | (go_at_call 86; refine (peek_nil _ _).mono ?_; rintro e w1 ⟨rfl, rfl⟩))
  go_ret
  exact ⟨rfl, rfl⟩
set_option maxHeartbeats 400000 in
theorem held_any (hY : Yard w ab sb sm rb P T s) (hi : s.inR 2) (hb : s.word 2 < 2147483648) : Calls Tryz.prog 28 #[.pointer (some ⟨ab, 0, none⟩)] w fun e w' => e = .returned (.int .i64 (s.word 2 - 1)) ∧ w = w' := by
  have hw := (StoreS.word_bd hY.st.fit 2).1
  obtain ⟨x, hx⟩ : ∃ x, x = s.word 2 := ⟨_, rfl⟩
  have hp := Lib.hid (peek_in _ _ _ _ _ hY.st hi)
  have HA := Lib.hid hY.ar
  rw [← hx] at hb hw hp ⊢
  clear hY hx
  go_enter Tryz.func28, Tryz.ntmps28
  go_wp2_with (first
    | (go_at_call 60; refine (arenaStore_any HA.out).mono ?_; rintro e w1 ⟨rfl, rfl⟩)
    | (go_at_call 86; refine hp.out.mono ?_; rintro e w1 ⟨rfl, rfl⟩))
  go_ret
  exact ⟨by first | rfl | (congr 2), rfl⟩
end
/-- A take, or none. -/
def TakeP (w : World) (p : Option Addr) (P T t : Int) : Prop := p = none ∨ ∃ mb, p = some ⟨mb, 0, none⟩ ∧ IsTake 0 w mb P T t
def LeaveP (w : World) (p : Option Addr) (P T : Int) : Prop := p = none ∨ ∃ mb, p = some ⟨mb, 0, none⟩ ∧ IsLeave w mb P T
section
variable {w w' : World} {p : Option Addr} {P T t : Int}
theorem TakeP.adds (h : TakeP w p P T t) (ho : Adds w w') : TakeP w' p P T t := h.imp id (fun ⟨mb, e, h⟩ => ⟨mb, e, h.adds ho⟩)
theorem LeaveP.adds (h : LeaveP w p P T) (ho : Adds w w') : LeaveP w' p P T := h.imp id (fun ⟨mb, e, h⟩ => ⟨mb, e, h.adds ho⟩)
theorem newTakeP (P T t : Int) (w : World) :
    Calls Tryz.prog 22 #[.agg #[.int .i64 P, .int .i64 T], .int .i64 t] w fun e w' => ∃ p, e = .returned (.pointer p) ∧ p.isSome = (Lay.may P T && decide (0 ≤ t ∧ t < T)) ∧ TakeP w' p P T t ∧ Adds w w' := by
  cases h : (Lay.may P T && decide (0 ≤ t ∧ t < T))
  · exact (newTake_no P T t w h).mono (fun e w1 ⟨he, ho⟩ => ⟨none, he, rfl, .inl rfl, ho⟩)
  · rw [Bool.and_eq_true] at h
    exact (newTake_ok P T t w h.1 h.2).mono (fun e w1 ⟨mb, he, hi, ho⟩ => ⟨_, he, rfl, .inr ⟨mb, rfl, hi.mono (Nat.zero_le _)⟩, ho⟩)
theorem newLeaveP (P T : Int) (w : World) :
    Calls Tryz.prog 23 #[.agg #[.int .i64 P, .int .i64 T]] w fun e w' => ∃ p, e = .returned (.pointer p) ∧ p.isSome = Lay.may P T ∧ LeaveP w' p P T ∧ Adds w w' := by
  cases h : Lay.may P T
  · exact (newLeave_no P T w h).mono (fun e w1 ⟨he, ho⟩ => ⟨none, he, rfl, .inl rfl, ho⟩)
  · exact (newLeave_ok P T w h).mono (fun _ _ ⟨mb, he, hi, ho, _⟩ => ⟨_, he, rfl, .inr ⟨mb, rfl, hi⟩, ho⟩)
theorem takeP_nilA (h : TakeP w p P T t) : Calls Tryz.prog 24 #[.pointer p, .pointer none] w fun e w' => e = .returned (.agg #[.int .i64 0, .int .i64 0, .int .u64 0, .int .u64 0]) ∧ Adds w w' := by
  obtain rfl | ⟨mb, rfl, h⟩ := h
  · exact lockTakeStep_nil _ _
  · exact takeStep_nilA h
theorem takeP_other {ab sb rb : Nat} {P' T' : Int} (h : TakeP w p P T t) (hA : IsArena w ab sb rb P' T') (hne : (P' == P && T' == T) = false) :
    Calls Tryz.prog 24 #[.pointer p, .pointer (some ⟨ab, 0, none⟩)] w fun e w' => e = .returned (.agg #[.int .i64 0, .int .i64 0, .int .u64 0, .int .u64 0]) ∧ Adds w w' := by
  obtain rfl | ⟨mb, rfl, h⟩ := h
  · exact lockTakeStep_nil _ _
  · exact takeStep_other h hA hne
theorem takeP_done (h : TakeP w p P T t) : Calls Tryz.prog 25 #[.pointer p] w fun e w' => e = .returned (.bool false) ∧ w = w' := by
  obtain rfl | ⟨mb, rfl, h⟩ := h
  · exact lockTakeDone_nil _
  · exact takeDone_no h
theorem leaveP_nilA (h : LeaveP w p P T) : Calls Tryz.prog 26 #[.pointer p, .pointer none] w fun e w' => e = .returned (.agg #[.int .i64 0, .int .i64 0, .int .u64 0, .int .u64 0]) ∧ Adds w w' := by
  obtain rfl | ⟨mb, rfl, h⟩ := h
  · exact lockLeaveStep_nil _ _
  · exact leaveStep_nilA h
theorem leaveP_other {ab sb rb : Nat} {P' T' : Int} (h : LeaveP w p P T) (hA : IsArena w ab sb rb P' T') (hne : (P' == P && T' == T) = false) :
    Calls Tryz.prog 26 #[.pointer p, .pointer (some ⟨ab, 0, none⟩)] w fun e w' => e = .returned (.agg #[.int .i64 0, .int .i64 0, .int .u64 0, .int .u64 0]) ∧ Adds w w' := by
  obtain rfl | ⟨mb, rfl, h⟩ := h
  · exact lockLeaveStep_nil _ _
  · exact leaveStep_other h hA hne
theorem leaveP_done (h : LeaveP w p P T) : Calls Tryz.prog 27 #[.pointer p] w fun e w' => e = .returned (.bool false) ∧ w = w' := by
  obtain rfl | ⟨mb, rfl, h⟩ := h
  · exact lockLeaveDone_nil _
  · exact leaveDone_no h
theorem take_nonnil (p : Option Addr) (W : World) : Sem.run Tryz.prog (binOp .neq 64 (.pointer p) (.pointer none)) W = .ok (.bool p.isSome) W := by cases p <;> kernel_rfl
theorem leave_nonnil (p : Option Addr) (W : World) : Sem.run Tryz.prog (binOp .neq 65 (.pointer p) (.pointer none)) W = .ok (.bool p.isSome) W := by cases p <;> kernel_rfl
end
end Go.Proofs.YtfgjacgkgonglaaGreat

/- Package lock: what a step of a take, and of a leave, does; Held. By an AI agent. -/
import Derived.Test.YtfgjacgkgonglaaGreatLock
import Derived.Test.YtfgjacgkgonglaaGreatMach
import Derived.Test.YtfgjacgkgonglaaGreatYards
namespace Go.Proofs.YtfgjacgkgonglaaGreat
open Go.RowKit
section
variable {w : World} {lo mb ab sb sm rb : Nat} {P T t : Int} {s : StoreS}
set_option maxHeartbeats 1000000 in
theorem takeStep_win (h : IsTake lo w mb P T t) (hY : Yard w ab sb sm rb P T s) (hi : s.inR 2) (hbig : 1 < s.ws.length) (h0 : s.word 2 = 0) (ht : 0 ≤ t ∧ t < 64) :
    Calls Tryz.prog 24 #[.pointer (some ⟨mb, 0, none⟩), .pointer (some ⟨ab, 0, none⟩)] w fun e w' => e = .returned (.agg #[.int .i64 3, .int .i64 2, .int .u64 0, .int .u64 (t + 1)]) ∧
      (Blk w' mb #[.int .i64 P, .int .i64 T, .nilFunc] 140 ∧ Yard w' ab sb sm rb P T (s.acc 3 2 (t + 1))) ∧ Only (fun j => SB sb sm j ∨ j = mb) w w' := by
  have hlt := hY.st.head.lt; have hlt2 := hY.st.row.lt
  obtain ⟨n, j, l1, l2, l3, h1, h2, h3⟩ := h
  have hmb := hY.mach h1 (by decide) (by decide) (by decide)
  refine lockTakeStep_some (Q := fun w' => Blk w' mb #[.int .i64 P, .int .i64 T, .nilFunc] 140 ∧ Yard w' ab sb sm rb P T (s.acc 3 2 (t + 1))) (S := fun j => SB sb sm j ∨ j = mb) ((stays_blk _ _ _ (by decide)).and (fun _ _ ho h => Yard.dids h ho)) (fun j hj => hj.elim (fun e => e.elim (· ▸ hlt) (· ▸ hlt2)) (· ▸ h1.lt)) (fun w1 ho => ?_)
  have g1 := h1.only ho id
  refine (stepCas (s' := s.acc 3 2 (t + 1)) (er := 0) (won := true) (n := n) (g1.cell 2) (g1.cell 0) (g1.cell 1) (hY.adds ho) (h2.only ho (fun _ _ _ => id)) hbig
    (fun W hs => by have := cas_win sb sm 2 0 (t + 1) s W hs hi (by simp [h0]) (by omega) (by omega); rwa [h0] at this ⊢) rfl (Q := fun w => Blk w mb #[.int .i64 P, .int .i64 T, .nilFunc] 140) (stays_blk _ _ _ (by decide)) (M := (· = mb)) (fun j e => by subst e; exact ⟨g1.lt, hmb⟩)
    (enters_of Tryz.func85 (by kernel_rfl) rfl) (fun w2 ho2 hy2 => ?_)).mono ?_
  · have g2 := g1.only ho2 (fun e => e.elim hmb.2.1 hmb.2.2)
    refine (takeThen_won ((h3.only ho id).only ho2 ((hY.adds ho).multi hbig (h3.only ho id))).one g2 (by simp)).mono ?_
    rintro e w3 ⟨rfl, rfl⟩
    exact ⟨rfl, g2.setCell 2 _, (Only.refl (fun x => x = mb) _).setCell (.inl rfl) _⟩
  · rintro e w2 ⟨rfl, hq, ho2⟩
    refine ⟨?_, hq, ho2⟩
    show Ending.returned (.agg #[.int .i64 3, .int .i64 2, .int .u64 (s.word 2), .int .u64 (t + 1)]) = _
    rw [h0]
set_option maxHeartbeats 1000000 in
theorem takeStep_lost (h : IsTake lo w mb P T t) (hY : Yard w ab sb sm rb P T s) (hi : s.inR 2) (hbig : 1 < s.ws.length) (h0 : s.word 2 ≠ 0) :
    Calls Tryz.prog 24 #[.pointer (some ⟨mb, 0, none⟩), .pointer (some ⟨ab, 0, none⟩)] w fun e w' => e = .returned (.agg #[.int .i64 4, .int .i64 2, .int .u64 (s.word 2), .int .u64 (s.word 2)]) ∧
      (IsTake lo w' mb P T t ∧ Yard w' ab sb sm rb P T (s.acc 4 2 (s.word 2))) ∧ Only (fun j => SB sb sm j) w w' := by
  have hlt := hY.st.head.lt; have hlt2 := hY.st.row.lt
  have hst : Stays (fun w => IsTake lo w mb P T t) := fun a b ho => by
    rintro ⟨n, j, l1, l2, l3, h1, h2, h3⟩
    exact ⟨n, j, l1, l2, l3, h1.dids ho (by decide), h2.dids ho, h3.dids ho (by decide)⟩
  have H := h
  obtain ⟨n, j, l1, l2, l3, h1, h2, h3⟩ := h
  have hmb := hY.mach h1 (by decide) (by decide) (by decide)
  refine lockTakeStep_some (Q := fun w' => IsTake lo w' mb P T t ∧ Yard w' ab sb sm rb P T (s.acc 4 2 (s.word 2))) (S := fun j => SB sb sm j) (hst.and (fun _ _ ho h => Yard.dids h ho)) (fun j hj => hj.elim (· ▸ hlt) (· ▸ hlt2)) (fun w1 ho => ?_)
  have g1 := h1.only ho id
  refine (stepCas (s' := s.acc 4 2 (s.word 2)) (er := 5) (won := false) (n := n) (g1.cell 2) (g1.cell 0) (g1.cell 1) (hY.adds ho) (h2.only ho (fun _ _ _ => id)) hbig
    (fun W hs => cas_lost sb sm 2 0 (t + 1) s W hs hi (by simpa using h0)) rfl (Q := fun w => IsTake lo w mb P T t) hst (M := fun _ => False) (fun j e => e.elim)
    (enters_of Tryz.func85 (by kernel_rfl) rfl) (fun w2 ho2 hy2 => ?_)).mono ?_
  · have H2 := (H.adds ho).only ho2 (fun e => e.elim hmb.2.1 hmb.2.2) (fun b x t _ hb => (hY.adds ho).multi hbig hb)
    refine (takeThen_lost w2 j).mono ?_
    rintro e w3 ⟨rfl, rfl⟩
    exact ⟨rfl, H2, Only.refl _ _⟩
  · rintro e w2 ⟨rfl, hq, ho2⟩
    exact ⟨rfl, hq, ho2.mono (fun _ _ e => e.elim id (fun e => e.elim))⟩
theorem takeStep_nilA (h : IsTake lo w mb P T t) :
    Calls Tryz.prog 24 #[.pointer (some ⟨mb, 0, none⟩), .pointer none] w fun e w' => e = .returned (.agg #[.int .i64 0, .int .i64 0, .int .u64 0, .int .u64 0]) ∧ Adds w w' := by
  obtain ⟨n, j, l1, l2, l3, h1, h2, h3⟩ := h
  exact (lockTakeStep_some (Q := fun _ => True) (S := fun _ => False) (fun _ _ _ _ => trivial) (fun _ e => e.elim) (fun w1 ho => (deskStep_nilA ((h1.only ho id).cell 2)).mono (fun e w2 h => ⟨h.1, trivial, h.2⟩))).mono (fun e w2 h => ⟨h.1, h.2.2⟩)
theorem takeStep_other {P' T' : Int} (h : IsTake lo w mb P T t) (hA : IsArena w ab sb rb P' T') (hne : (P' == P && T' == T) = false) :
    Calls Tryz.prog 24 #[.pointer (some ⟨mb, 0, none⟩), .pointer (some ⟨ab, 0, none⟩)] w fun e w' => e = .returned (.agg #[.int .i64 0, .int .i64 0, .int .u64 0, .int .u64 0]) ∧ Adds w w' := by
  obtain ⟨n, j, l1, l2, l3, h1, h2, h3⟩ := h
  exact (lockTakeStep_some (Q := fun _ => True) (S := fun _ => False) (fun _ _ _ _ => trivial) (fun _ e => e.elim) (fun w1 ho => (deskStep_other ((h1.only ho id).cell 2) ((h1.only ho id).cell 0) ((h1.only ho id).cell 1) (hA.only ho id) hne).mono (fun e w2 h => ⟨h.1, trivial, h.2⟩))).mono (fun e w2 h => ⟨h.1, h.2.2⟩)
theorem takeDone_no (h : IsTake lo w mb P T t) : Calls Tryz.prog 25 #[.pointer (some ⟨mb, 0, none⟩)] w fun e w' => e = .returned (.bool false) ∧ w = w' := by
  obtain ⟨n, j, l1, l2, l3, h1, h2, h3⟩ := h
  exact lockTakeDone_no (h1.cell 2)
/-- A leave that has not begun. -/
def IsLeave (w : World) (mb : Nat) (P T : Int) : Prop :=
  ∃ n, Blk w mb #[.int .i64 P, .int .i64 T, putF n] 143 ∧ HasPut w n 2 0 (.func (.func 71) #[.pointer (some ⟨mb, 0, none⟩)] #[])
theorem IsLeave.adds {w' : World} (h : IsLeave w mb P T) (ho : Adds w w') : IsLeave w' mb P T := by
  obtain ⟨n, h1, h2⟩ := h
  exact ⟨n, h1.only ho id, h2.only ho (fun _ _ _ => id)⟩
set_option maxHeartbeats 400000 in
theorem newLeave_no (P T : Int) (w : World) (hm : Lay.may P T = false) : Calls Tryz.prog 23 #[.agg #[.int .i64 P, .int .i64 T]] w fun e w' => e = .returned (.pointer none) ∧ Adds w w' := by
  go_enter Tryz.func23, Tryz.ntmps23
  go_wp2_with (go_at_call 82; refine (layMay_any P T _).mono ?_; rintro e w1 ⟨rfl, ho1⟩; rw [hm])
  go_ret
  exact ⟨rfl, Adds.box ho1⟩
set_option maxHeartbeats 2000000 in
theorem newLeave_ok (P T : Int) (w : World) (hm : Lay.may P T = true) : Calls Tryz.prog 23 #[.agg #[.int .i64 P, .int .i64 T]] w fun e w' => ∃ mb, e = .returned (.pointer (some ⟨mb, 0, none⟩)) ∧ IsLeave w' mb P T ∧ Adds w w' ∧ w.heap.size ≤ mb := by
  go_enter Tryz.func23, Tryz.ntmps23
  go_wp2_with (go_at_call 82; refine (layMay_any P T _).mono ?_; rintro e w1 ⟨rfl, ho1⟩; rw [hm]; obtain ⟨x0, x1, ho2⟩ := box2_cells ho1; have HO2 := Lib.hid ho2; clear ho1 ho2)
  go_region_held3 (fun _ => True) (trivial)
    (first | (go_at_call 69; refine (deskPut_any (c := #[.int .i64 P, .int .i64 T, .nilFunc]) (Blk.new w1 #[.int .i64 P, .int .i64 T, .nilFunc] 143).drew (by simp) 2 0 _ _ _).mono ?_; rintro e w3 ⟨rfl, hb3, hc3, ho4⟩; have HC3 := Lib.hid (And.intro hb3 (And.intro hc3 ho4)); clear hb3 hc3 ho4))
  go_wp2
  go_ret
  obtain ⟨b3, c3, o4⟩ := HC3.out
  have hz := HO2.out.size
  have oA : Adds w w3 := (HO2.out.thenF ((Only.refl _ w1).alloc _).drew).andThen o4 (fun i hi e => by omega)
  exact ⟨_, rfl, ⟨_, by simpa using b3, c3⟩, oA, by simpa using hz⟩
end
end Go.Proofs.YtfgjacgkgonglaaGreat

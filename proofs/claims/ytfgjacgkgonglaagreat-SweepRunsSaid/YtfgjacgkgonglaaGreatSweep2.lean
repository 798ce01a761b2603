/- Package sweep: NewSweep, its four steps, what it does where it may not. By an AI agent. -/
import Derived.Test.YtfgjacgkgonglaaGreatSweep
import Derived.Test.YtfgjacgkgonglaaGreatBits
import Derived.Test.YtfgjacgkgonglaaGreatLayout2
import Derived.Test.YtfgjacgkgonglaaGreatYards
namespace Go.Proofs.YtfgjacgkgonglaaGreat
open Go.RowKit
section
variable {w : World} {mb ab sb sm rb : Nat} {P T al mk a b : Int} {s : StoreS}
theorem sweepStep_one (h : Sw1 w mb P T al mk) (hY : Yard w ab sb sm rb P T s) (hi : s.inR mk) (hbig : 1 < s.ws.length) :
    Calls Tryz.prog 14 #[.pointer (some ⟨mb, 0, none⟩), .pointer (some ⟨ab, 0, none⟩)] w fun e w' => e = .returned (.agg #[.int .i64 1, .int .i64 mk, .int .u64 (s.word mk), .int .u64 (s.word mk)]) ∧
      (Sw2 w' mb P T al mk (s.word mk) ∧ Yard w' ab sb sm rb P T (s.acc 1 mk (s.word mk))) ∧ Only (fun j => SB sb sm j ∨ j = mb) w w' := by
  have hlt := hY.st.head.lt; have hlt2 := hY.st.row.lt
  obtain ⟨n, jm, ja, jk, h0, h1, h2⟩ := h
  have hmb := hY.mach h1 (by decide) (by decide) (by decide)
  refine sweepSweepStep_some (Q := fun w' => Sw2 w' mb P T al mk (s.word mk) ∧ Yard w' ab sb sm rb P T (s.acc 1 mk (s.word mk))) (S := fun j => SB sb sm j ∨ j = mb) ((Sw2.stays _ _ _ _ _ _).and (fun _ _ ho h => Yard.dids h ho)) (fun j hj => hj.elim (fun e => e.elim (· ▸ hlt) (· ▸ hlt2)) (· ▸ h1.lt)) (fun w1 ho => ?_)
  have g1 := h1.only ho id
  refine (stepLoad (s' := s.acc 1 mk (s.word mk)) (n := n) (g1.cell 2) (g1.cell 0) (g1.cell 1) (hY.adds ho) (h2.only ho (fun _ _ _ => id)) hbig
    (fun W hs => load_in sb sm mk s W hs hi) (Q := fun w => Sw2 w mb P T al mk (s.word mk)) (Sw2.stays _ _ _ _ _ _) (M := (· = mb)) (fun j e => by subst e; exact ⟨g1.lt, hmb⟩)
    (enters_of Tryz.func67 (by kernel_rfl) rfl) (fun w2 ho2 _ => ?_)).mono ?_
  · have g2 := g1.only ho2 (fun e => e.elim hmb.2.1 hmb.2.2)
    refine (sw_one ((h0.only ho (fun _ _ _ _ => id)).only ho2 (fun _ _ _ hb => (hY.adds ho).multi hbig hb)) g2).mono ?_
    rintro e w3 ⟨rfl, h3, ho3⟩
    exact ⟨rfl, h3, ho3⟩
  · rintro e w2 ⟨rfl, hq, ho2⟩
    exact ⟨rfl, hq, ho2⟩
theorem sweepStep_two (h : Sw2 w mb P T al mk b) (hY : Yard w ab sb sm rb P T s) (hi : s.inR al) (hbig : 1 < s.ws.length) :
    Calls Tryz.prog 14 #[.pointer (some ⟨mb, 0, none⟩), .pointer (some ⟨ab, 0, none⟩)] w fun e w' => e = .returned (.agg #[.int .i64 1, .int .i64 al, .int .u64 (s.word al), .int .u64 (s.word al)]) ∧
      (Sw3 w' mb P T al mk b (s.word al) ∧ Yard w' ab sb sm rb P T (s.acc 1 al (s.word al))) ∧ Only (fun j => SB sb sm j ∨ j = mb) w w' := by
  have hlt := hY.st.head.lt; have hlt2 := hY.st.row.lt
  obtain ⟨n, jm, ja, jk, jb, h0, hb, h1, h2⟩ := h
  have hmb := hY.mach h1 (by decide) (by decide) (by decide)
  refine sweepSweepStep_some (Q := fun w' => Sw3 w' mb P T al mk b (s.word al) ∧ Yard w' ab sb sm rb P T (s.acc 1 al (s.word al))) (S := fun j => SB sb sm j ∨ j = mb) ((Sw3.stays _ _ _ _ _ _ _).and (fun _ _ ho h => Yard.dids h ho)) (fun j hj => hj.elim (fun e => e.elim (· ▸ hlt) (· ▸ hlt2)) (· ▸ h1.lt)) (fun w1 ho => ?_)
  have g1 := h1.only ho id
  refine (stepLoad (s' := s.acc 1 al (s.word al)) (n := n) (g1.cell 2) (g1.cell 0) (g1.cell 1) (hY.adds ho) (h2.only ho (fun _ _ _ => id)) hbig
    (fun W hs => load_in sb sm al s W hs hi) (Q := fun w => Sw3 w mb P T al mk b (s.word al)) (Sw3.stays _ _ _ _ _ _ _) (M := (· = mb)) (fun j e => by subst e; exact ⟨g1.lt, hmb⟩)
    (enters_of Tryz.func68 (by kernel_rfl) rfl) (fun w2 ho2 _ => ?_)).mono ?_
  · have g2 := g1.only ho2 (fun e => e.elim hmb.2.1 hmb.2.2)
    have hs := fun (q : Nat) (x : Value) (t : TypeId) (hb : Blk w1 q #[x] t) => (hY.adds ho).multi hbig hb
    refine (sw_two ((h0.only ho (fun _ _ _ _ => id)).only ho2 hs) ((hb.only ho id).only ho2 (hs _ _ _ (hb.only ho id))) g2).mono ?_
    rintro e w3 ⟨rfl, h3, ho3⟩
    exact ⟨rfl, h3, ho3⟩
  · rintro e w2 ⟨rfl, hq, ho2⟩
    exact ⟨rfl, hq, ho2⟩
theorem sweepStep_three (h : Sw3 w mb P T al mk b a) (hY : Yard w ab sb sm rb P T s) (hi : s.inR al) (hbig : 1 < s.ws.length) :
    Calls Tryz.prog 14 #[.pointer (some ⟨mb, 0, none⟩), .pointer (some ⟨ab, 0, none⟩)] w fun e w' => e = .returned (.agg #[.int .i64 2, .int .i64 al, .int .u64 (s.word al), .int .u64 (andU a b)]) ∧
      (Sw4 w' mb P T mk b a ∧ Yard w' ab sb sm rb P T (s.acc 2 al (andU a b))) ∧ Only (fun j => SB sb sm j ∨ j = mb) w w' := by
  have hlt := hY.st.head.lt; have hlt2 := hY.st.row.lt
  obtain ⟨n, jm, ja, jk, jb, jx, h0, hb, hx, h1, h2⟩ := h
  have hmb := hY.mach h1 (by decide) (by decide) (by decide)
  refine sweepSweepStep_some (Q := fun w' => Sw4 w' mb P T mk b a ∧ Yard w' ab sb sm rb P T (s.acc 2 al (andU a b))) (S := fun j => SB sb sm j ∨ j = mb) ((Sw4.stays _ _ _ _ _ _).and (fun _ _ ho h => Yard.dids h ho)) (fun j hj => hj.elim (fun e => e.elim (· ▸ hlt) (· ▸ hlt2)) (· ▸ h1.lt)) (fun w1 ho => ?_)
  have g1 := h1.only ho id
  refine (stepPut (s' := s.acc 2 al (andU a b)) (n := n) (g1.cell 2) (g1.cell 0) (g1.cell 1) (hY.adds ho) (h2.only ho (fun _ _ _ => id)) hbig
    (fun W hs => put_in sb sm al _ s W hs hi (and_bd a b).1 (and_bd a b).2) (Q := fun w => Sw4 w mb P T mk b a) (Sw4.stays _ _ _ _ _ _) (M := (· = mb)) (fun j e => by subst e; exact ⟨g1.lt, hmb⟩)
    (enters_of Tryz.func70 (by kernel_rfl) rfl) (fun w2 ho2 _ => ?_)).mono ?_
  · have g2 := g1.only ho2 (fun e => e.elim hmb.2.1 hmb.2.2)
    have hs := fun (q : Nat) (x : Value) (t : TypeId) (hb : Blk w1 q #[x] t) => (hY.adds ho).multi hbig hb
    refine (sw_three ((h0.only ho (fun _ _ _ _ => id)).only ho2 hs) ((hb.only ho id).only ho2 (hs _ _ _ (hb.only ho id))) ((hx.only ho id).only ho2 (hs _ _ _ (hx.only ho id))) g2).mono ?_
    rintro e w3 ⟨rfl, h3, ho3⟩
    exact ⟨rfl, h3, ho3⟩
  · rintro e w2 ⟨rfl, hq, ho2⟩
    exact ⟨rfl, hq, ho2⟩
theorem sweepStep_four (h : Sw4 w mb P T mk b a) (hY : Yard w ab sb sm rb P T s) (hi : s.inR mk) (hbig : 1 < s.ws.length) :
    Calls Tryz.prog 14 #[.pointer (some ⟨mb, 0, none⟩), .pointer (some ⟨ab, 0, none⟩)] w fun e w' => e = .returned (.agg #[.int .i64 2, .int .i64 mk, .int .u64 (s.word mk), .int .u64 0]) ∧
      (Blk w' mb (swCells P T .nilFunc (clrU a b)) 126 ∧ Yard w' ab sb sm rb P T (s.acc 2 mk 0)) ∧ Only (fun j => SB sb sm j ∨ j = mb) w w' := by
  have hlt := hY.st.head.lt; have hlt2 := hY.st.row.lt
  obtain ⟨n, h1, h2⟩ := h
  have hmb := hY.mach h1 (by decide) (by decide) (by decide)
  refine sweepSweepStep_some (Q := fun w' => Blk w' mb (swCells P T .nilFunc (clrU a b)) 126 ∧ Yard w' ab sb sm rb P T (s.acc 2 mk 0)) (S := fun j => SB sb sm j ∨ j = mb) ((stays_blk _ _ _ (by decide)).and (fun _ _ ho h => Yard.dids h ho)) (fun j hj => hj.elim (fun e => e.elim (· ▸ hlt) (· ▸ hlt2)) (· ▸ h1.lt)) (fun w1 ho => ?_)
  have g1 := h1.only ho id
  refine (stepPut (s' := s.acc 2 mk 0) (n := n) (g1.cell 2) (g1.cell 0) (g1.cell 1) (hY.adds ho) (h2.only ho (fun _ _ _ => id)) hbig
    (fun W hs => put_in sb sm mk 0 s W hs hi (by omega) (by omega)) (Q := fun w => Blk w mb (swCells P T .nilFunc (clrU a b)) 126) (stays_blk _ _ _ (by decide)) (M := (· = mb)) (fun j e => by subst e; exact ⟨g1.lt, hmb⟩)
    (enters_of Tryz.func71 (by kernel_rfl) rfl) (fun w2 ho2 _ => ?_)).mono ?_
  · have g2 := g1.only ho2 (fun e => e.elim hmb.2.1 hmb.2.2)
    refine (deskEnd_any g2 (by simp)).mono ?_
    rintro e w3 ⟨rfl, rfl⟩
    exact ⟨rfl, g2.setCell 2 _, (Only.refl (fun x => x = mb) _).setCell (.inl rfl) _⟩
  · rintro e w2 ⟨rfl, hq, ho2⟩
    exact ⟨rfl, hq, ho2⟩
set_option maxHeartbeats 400000 in
theorem freed_nil (w : World) : Calls Tryz.prog 17 #[.pointer none] w fun e w' => e = .returned (.int .u64 0) ∧ w = w' := by
  go_enter Tryz.func17, Tryz.ntmps17
  go_wp2
  go_ret
  exact ⟨rfl, rfl⟩
set_option maxHeartbeats 400000 in
theorem freed_any {nx : Value} {fr : Int} (h : Blk w mb (swCells P T nx fr) 126) : Calls Tryz.prog 17 #[.pointer (some ⟨mb, 0, none⟩)] w fun e w' => e = .returned (.int .u64 fr) ∧ w = w' := by
  have c3 : w.cell? ⟨mb, 3, none⟩ = some (.int .u64 fr) := h.cell 3
  clear h
  go_enter Tryz.func17, Tryz.ntmps17
  go_wp2
  go_ret
  exact ⟨rfl, rfl⟩
theorem sweepStep_nilA {nx : Value} {fn : Fn} {f c : Array Value} {fr : Int} (hn : nx = .func fn f c) (h : Blk w mb (swCells P T nx fr) 126) :
    Calls Tryz.prog 14 #[.pointer (some ⟨mb, 0, none⟩), .pointer none] w fun e w' => e = .returned (.agg #[.int .i64 0, .int .i64 0, .int .u64 0, .int .u64 0]) ∧ Adds w w' := by
  subst hn
  exact (sweepSweepStep_some (Q := fun _ => True) (S := fun _ => False) (fun _ _ _ _ => trivial) (fun _ e => e.elim) (fun w1 ho => (deskStep_nilA ((h.only ho id).cell 2)).mono (fun _ _ h => ⟨h.1, trivial, h.2⟩))).mono (fun _ _ h => ⟨h.1, h.2.2⟩)
theorem sweepStep_other {P' T' : Int} {nx : Value} {fn : Fn} {f c : Array Value} {fr : Int} (hn : nx = .func fn f c) (h : Blk w mb (swCells P T nx fr) 126) (hA : IsArena w ab sb rb P' T') (hne : (P' == P && T' == T) = false) :
    Calls Tryz.prog 14 #[.pointer (some ⟨mb, 0, none⟩), .pointer (some ⟨ab, 0, none⟩)] w fun e w' => e = .returned (.agg #[.int .i64 0, .int .i64 0, .int .u64 0, .int .u64 0]) ∧ Adds w w' := by
  subst hn
  exact (sweepSweepStep_some (Q := fun _ => True) (S := fun _ => False) (fun _ _ _ _ => trivial) (fun _ e => e.elim) (fun w1 ho => (deskStep_other ((h.only ho id).cell 2) ((h.only ho id).cell 0) ((h.only ho id).cell 1) (hA.only ho id) hne).mono (fun _ _ h => ⟨h.1, trivial, h.2⟩))).mono (fun _ _ h => ⟨h.1, h.2.2⟩)
end
end Go.Proofs.YtfgjacgkgonglaaGreat

/- Package claim: a claim at an empty stack; the example of chapter 16. By an AI agent. -/
import Derived.Test.YtbcfeaimopijfaaGreatClaim2
import Derived.Test.YtbcfeaimopijfaaGreatStack4
import Derived.Test.YtbcfeaimopijfaaGreatYardNew
import Derived.Deep.RegionHeld3
namespace Go.Proofs.YtbcfeaimopijfaaGreat
open Go.RowKit
section
variable {w w' : World} {ab sb sm rb mb pb n bp bm : Nat} {P T hd gen st tk pgv held hand H : Int} {f : Int → Int} {nx : Value} {k : DK} {was : Int}
set_option maxRecDepth 100000 in
set_option maxHeartbeats 2000000 in
theorem claimTaken_none (hp : Desk w pb (poC P T hd was (-1)) 127 k) (hbp : Blk w bp #[.pointer (some ⟨pb, 0, none⟩)] 102) (hbm : Blk w bm #[.pointer (some ⟨mb, 0, none⟩)] 24) (h : Blk w mb (clC P T hd gen st tk pgv held hand nx) 74) :
    Calls Tryz.prog 51 #[.pointer (some ⟨bp, 0, none⟩), .pointer (some ⟨bm, 0, none⟩)] w fun e w' => e = .returned (.tuple #[]) ∧ Blk w' mb (clC P T hd gen st (-1) pgv held hand .nilFunc) 74 ∧ Only (· = mb) w w' := by
  have HB := Lib.hid h; have HM := Lib.hid hbm; have HP := Lib.hid hp
  have c0 := hbp.one; have c1 := hbm.one
  have c6 : w.cell? ⟨mb, 6, none⟩ = some (.int .i64 tk) := h.cell 6
  have f6 := h.frozen 6
  have hl := h.lt
  have nM := Lib.hid (h.multi' (by simp) hbm)
  have nJ : bm ≠ mb := nM.out
  clear h hbm hp hbp
  go_enter Tryz.func51, Tryz.ntmps51
  go_wp2_with fail
  go_region_with ((first
    | (go_at_call 52; refine (popPage_any HP.out).mono ?_; rintro e w4 ⟨rfl, rfl⟩)
    | (go_at_call 52; refine (popPage_any (HP.out.adds ((Only.refl _ _).drew))).mono ?_; rintro e w4 ⟨rfl, rfl⟩)))
  all_goals
    have HB2 := Lib.hid (show Blk ((w.drew).setCell ⟨mb, 6, none⟩ (.int .i64 (-1))) mb (clC P T hd gen st (-1) pgv held hand nx) 74 from ((HB.out.only ((Only.refl (fun _ => False) _).drew) id).setCell 6 _))
    go_wp2_with (go_at_call 53; refine (deskEnd_any HB2.out (by simp)).mono ?_; rintro e w1 ⟨rfl, rfl⟩)
    refine bodyPost_ret (results_none rfl _ _ _) rfl ?_
    exact ⟨rfl, HB2.out.setCell 2 _, (((Only.refl (fun x => x = mb) w).drew).setCell (.inl rfl) _).setCell (.inl rfl) _⟩
theorem YS.stays (ab sb sm rb : Nat) (P T hd H : Int) (f : Int → Int) : Stays (fun w => YS w ab sb sm rb P T hd H f) := fun _ _ ho ⟨s, h1, h2⟩ => ⟨s, Yard.dids h1 ho, h2⟩
set_option maxRecDepth 100000 in
set_option maxHeartbeats 2000000 in
theorem claimStep_empty (h : ClPop w mb pb (clC P T hd gen st tk pgv held hand) n bp bm) (hp : Pop1 w pb P T hd 0 (-1)) (hY : YS w ab sb sm rb P T hd H f) (hh : HD P T hd) (hH : Tag.pg H < 0) :
    Calls Tryz.prog 10 #[.pointer (some ⟨mb, 0, none⟩), .pointer (some ⟨ab, 0, none⟩)] w fun e w' => e = .returned (.agg #[.int .i64 1, .int .i64 hd, .int .u64 H, .int .u64 H]) ∧ (Blk w' mb (clC P T hd gen st (-1) pgv held hand .nilFunc) 74 ∧ YS w' ab sb sm rb P T hd H f) ∧ Only (fun j => (SB sb sm j ∨ j = pb) ∨ j = mb) w w' := by
  obtain ⟨nxp, hpb, -⟩ := Desk.blk hp
  have lS : ∀ j, (SB sb sm j ∨ j = pb) → j < w.heap.size := fun j hj => hj.elim (fun e => by obtain ⟨s, hy, _⟩ := hY; exact e.elim (· ▸ hy.st.head.lt) (· ▸ hy.st.row.lt)) (· ▸ hpb.lt)
  have lM : ∀ j, j = mb → j < w.heap.size := fun j e => e ▸ h.m.lt
  have key : ∀ {b : Nat} {c : Array Value} {t : TypeId}, Blk w b c t → t ≠ 84 ∧ t ≠ 27 ∧ t ≠ 82 ∧ t ≠ 127 → ¬ (SB sb sm b ∨ b = pb) := fun hb ht e => by
    obtain ⟨s, hy, _⟩ := hY
    have hm := hy.mach hb ht.1 ht.2.1 ht.2.2.1
    rcases e with (e | e) | e
    · exact hm.2.1 e
    · exact hm.2.2 e
    · subst e; exact ht.2.2.2 (hb.uniq hpb).2
  have nm := key h.m (by decide)
  have stR : Stays (fun w => Blk w mb (clC P T hd gen st (-1) pgv held hand .nilFunc) 74 ∧ YS w ab sb sm rb P T hd H f) := fun a b ho hx => ⟨hx.1.dids ho (by decide), YS.stays _ _ _ _ _ _ _ _ _ a b ho hx.2⟩
  have stQ : Stays (fun w => Desk w pb (poC P T hd H (-1)) 127 .done ∧ YS w ab sb sm rb P T hd H f) := fun a b ho hx => ⟨Desk.stays _ _ _ _ (by decide) a b ho hx.1, YS.stays _ _ _ _ _ _ _ _ _ a b ho hx.2⟩
  have hYA := hY
  obtain ⟨s, hy, _⟩ := hYA
  refine claimClaimStep_some (Q := fun w => Blk w mb (clC P T hd gen st (-1) pgv held hand .nilFunc) 74 ∧ YS w ab sb sm rb P T hd H f) (S := fun j => (SB sb sm j ∨ j = pb) ∨ j = mb) stR (fun j e => e.elim (lS j) (lM j)) (fun w1 ho1 => ?_)
  have h1 := h.adds ho1
  refine deskStep_live (K := 80) (h1.m.cell 2) (h1.m.cell 0) (h1.m.cell 1) (hy.ar.only ho1 id) stR (fun j e => Nat.lt_of_lt_of_le (e.elim (lS j) (lM j)) ho1.size) (enters_of Tryz.func80 (by kernel_rfl) rfl) (fun w2 ho2 => ?_)
  have hA := ho1.thenF ho2
  have h2 := h.adds hA
  have hY2 := hY.adds hA
  refine run1_pop (K := 51) (S := fun j => SB sb sm j ∨ j = pb) (M := fun j => j = mb) h2.r stQ stR (fun j e => Nat.lt_of_lt_of_le (lS j e) hA.size) (fun j e => Nat.lt_of_lt_of_le (lM j e) hA.size) (key h.r.b0 (by decide)) (key h.r.b1 (by decide))
    (fun w3 ho3 => popLoadNone (Desk.adds hp (hA.thenF ho3)) (hY2.adds ho3) hh hH) (fun W hq => stackPopDone_yes (Blk.cell hq.1 2)) (enters_of Tryz.func51 (by kernel_rfl) rfl)
    (fun W ho hq => ?_)
  have hm3 := h2.m.only ho nm
  refine (claimTaken_none hq.1 (h2.p.only ho (key h.p (by decide))) (h2.b.only ho (key h.b (by decide))) hm3).mono ?_
  rintro e w4 ⟨he, hb, ho4⟩
  refine ⟨he, ⟨hb, ?_⟩, ho4⟩
  obtain ⟨s2, hy2, hs2⟩ := hq.2
  have hmm := hy2.mach hm3 (by decide) (by decide) (by decide)
  exact ⟨s2, hy2.only ho4 hmm.1.symm hmm.2.1.symm hmm.2.2.symm, hs2⟩
end
end Go.Proofs.YtbcfeaimopijfaaGreat

/- Package claim: NewClaim, whatever it is given; Step, Done, Page of one that may not be there. Package claim: a claim at an empty stack; the example of chapter 16. The example of chapter 16 holds. By an AI agent. -/
import Derived.Test.YtmnliddjddpchaaGreatZB
import Derived.Test.YtmnliddjddpchaaGreatZ7
import Derived.Test.YtmnliddjddpchaaGreatZ6
import Derived.Deep.RegionHeld3
namespace Go.Proofs.YtmnliddjddpchaaGreat
open Go.RowKit
set_option linter.unusedSimpArgs false
set_option linter.unusedVariables false
theorem Ph.ok2 (g : Int) : Ph.okB g 2 = Ph.cyc g := by unfold Ph.okB Ph.cyc; simp
theorem Ph.ok6 (g : Int) : Ph.okB g 6 = Ph.cyc g := by unfold Ph.okB Ph.cyc; simp
section
variable {w w' : World} {mb pb n bp bm : Nat} {c : Value → Array Value} {P T hd gen st tk pgv held hand : Int} {nx : Value}
set_option maxRecDepth 100000 in
set_option maxHeartbeats 2000000 in
theorem newClaim_no (P T hd gen : Int) (w : World) (h : (Lay.isHead P T hd && Ph.cyc gen) = false) : Calls Tryz.prog 6 #[.agg #[.int .i64 P, .int .i64 T], .int .i64 hd, .int .i64 gen] w fun e w' => e = .returned (.pointer none) ∧ Adds w w' := by
  obtain ⟨K, hK⟩ : ∃ K, K = Ph.mk gen 2 := ⟨_, rfl⟩
  have HK := Lib.hid hK
  clear hK
  cases hg : Ph.cyc gen
  · have hok : Hid (Ph.okB gen 2 = false) := Lib.hid (by rw [Ph.ok2]; exact hg)
    clear h hg
    go_enter Tryz.func6, Tryz.ntmps6
    go_wp2_with (go_at_call 24; refine (phMake_any gen 2 _ (by omega) (by omega)).mono ?_; rintro e w0 ⟨rfl, rfl⟩; rw [hok.out, ← HK.out])
    go_ret
    exact ⟨rfl, (Only.refl _ _).alloc _⟩
  · have hok : Hid (Ph.okB gen 2 = true) := Lib.hid (by rw [Ph.ok2]; exact hg)
    have hh : Hid (Lay.isHead P T hd = false) := Lib.hid (by rw [hg, Bool.and_true] at h; exact h)
    clear h hg
    cases hm : Lay.may P T
    · go_enter Tryz.func6, Tryz.ntmps6
      go_wp2_with (first
        | (go_at_call 24; refine (phMake_any gen 2 _ (by omega) (by omega)).mono ?_; rintro e w0 ⟨rfl, rfl⟩; rw [hok.out, ← HK.out])
        | (go_at_call 25; refine (layMay_any P T _).mono ?_; rintro e w1 ⟨rfl, ho1⟩; rw [hm]))
      go_ret
      exact ⟨rfl, Adds.box ho1⟩
    · go_enter Tryz.func6, Tryz.ntmps6
      go_wp2_with (first
        | (go_at_call 24; refine (phMake_any gen 2 _ (by omega) (by omega)).mono ?_; rintro e w0 ⟨rfl, rfl⟩; rw [hok.out, ← HK.out])
        | (go_at_call 25; refine (layMay_any P T _).mono ?_; rintro e w1 ⟨rfl, ho1⟩; rw [hm]; obtain ⟨x0, x1, ho2⟩ := box2_cells ho1; have HO2 := Lib.hid ho2; clear ho1 ho2)
        | (go_at_call 26; refine (stackHead_any P T hd _).mono ?_; rintro e w2 ⟨rfl, ho3⟩; rw [hh.out]))
      go_ret
      exact ⟨rfl, HO2.out.thenF ho3⟩
set_option maxRecDepth 100000 in
set_option maxHeartbeats 2000000 in
theorem newClaim_ok (P T hd gen : Int) (w : World) (hh : Lay.isHead P T hd = true) (hg : Ph.cyc gen = true) : Calls Tryz.prog 6 #[.agg #[.int .i64 P, .int .i64 T], .int .i64 hd, .int .i64 gen] w fun e w' => ∃ mb pb n bp bm, e = .returned (.pointer (some ⟨mb, 0, none⟩)) ∧ ClPop w' mb pb (clC P T hd gen 0 0 (-1) (Ph.mk gen 2) (Ph.mk gen 6)) n bp bm ∧ Pop1 w' pb P T hd 0 (-1) ∧ Adds w w' ∧ w.heap.size ≤ mb ∧ w.heap.size ≤ pb := by
  obtain ⟨K, hK⟩ : ∃ K, K = Ph.mk gen 2 := ⟨_, rfl⟩
  obtain ⟨J, hJ⟩ : ∃ J, J = Ph.mk gen 6 := ⟨_, rfl⟩
  rw [← hK, ← hJ]
  have HK := Lib.hid hK; have HJ := Lib.hid hJ
  have hok : Hid (Ph.okB gen 2 = true) := Lib.hid (by rw [Ph.ok2]; exact hg)
  have hok6 : Hid (Ph.okB gen 6 = true) := Lib.hid (by rw [Ph.ok6]; exact hg)
  have hm : Lay.may P T = true := by unfold Lay.isHead at hh; rw [Bool.and_eq_true] at hh; exact hh.1
  have HH := Lib.hid hh; have HM := Lib.hid hm
  clear hK hJ hg hh hm
  go_enter Tryz.func6, Tryz.ntmps6
  go_wp2_with (first
    | (go_at_call 24; with_reducible refine (phMake_any gen 2 _ (by omega) (by omega)).mono ?_; rintro e w0 ⟨rfl, rfl⟩; rw [hok.out, ← HK.out])
    | (go_at_call 25; refine (layMay_any P T _).mono ?_; rintro e w1 ⟨rfl, ho1⟩; rw [HM.out]; obtain ⟨x0, x1, ho2⟩ := box2_cells ho1; have HO2 := Lib.hid ho2; clear ho1 ho2)
    | (go_at_call 26; refine (stackHead_any P T hd _).mono ?_; rintro e w2 ⟨rfl, ho3⟩; rw [HH.out]; have x0' := (ho3.cellF (p := ⟨w.heap.size, 0, none⟩) (cell_lt x0) id).trans x0; have x1' := (ho3.cellF (p := ⟨w.heap.size, 1, none⟩) (cell_lt x0) id).trans x1; have HO3 := Lib.hid (HO2.out.thenF ho3); clear ho3)
    | (go_at_call 24; with_reducible refine (phMake_any gen 6 _ (by omega) (by omega)).mono ?_; rintro e w0 ⟨rfl, rfl⟩; rw [hok6.out, ← HJ.out])
    | (go_at_call 27; refine (claimPop_any (nx := .nilFunc) (Blk.new w2 (clC P T hd gen 0 0 (-1) K J .nilFunc) 76) HH.out).mono ?_; rintro e w3 ⟨rfl, hc, ho4⟩; have HC3 := Lib.hid (And.intro hc ho4); clear hc ho4))
  go_ret
  obtain ⟨⟨pb, n, bp, bm, h1, h2, h3⟩, o4⟩ := HC3.out
  have hz := HO3.out.size
  exact ⟨_, pb, n, bp, bm, rfl, h1, h2, (HO3.out.alloc _).andThen o4 (fun i hi e => by omega), hz, by simp only [World.size_alloc] at h3; omega⟩
def ClaimP (w : World) (p : Option Addr) (P T : Int) : Prop := p = none ∨ ∃ mb pb n bp bm hd gen st tk pgv held hand, p = some ⟨mb, 0, none⟩ ∧ ClPop w mb pb (clC P T hd gen st tk pgv held hand) n bp bm
theorem ClaimP.adds {p : Option Addr} (h : ClaimP w p P T) (ho : Adds w w') : ClaimP w' p P T :=
  h.imp id (fun ⟨mb, pb, n, bp, bm, hd, gen, st, tk, pgv, held, hand, e, h⟩ => ⟨mb, pb, n, bp, bm, hd, gen, st, tk, pgv, held, hand, e, h.adds ho⟩)
theorem newClaimP (P T hd gen : Int) (w : World) : Calls Tryz.prog 6 #[.agg #[.int .i64 P, .int .i64 T], .int .i64 hd, .int .i64 gen] w fun e w' => ∃ p, e = .returned (.pointer p) ∧ p.isSome = (Lay.isHead P T hd && Ph.cyc gen) ∧ ClaimP w' p P T ∧ Adds w w' := by
  cases h : (Lay.isHead P T hd && Ph.cyc gen)
  · exact (newClaim_no P T hd gen w h).mono (fun _ _ ⟨he, ho⟩ => ⟨none, he, rfl, .inl rfl, ho⟩)
  · rw [Bool.and_eq_true] at h
    exact (newClaim_ok P T hd gen w h.1 h.2).mono (fun _ _ ⟨mb, pb, n, bp, bm, he, h1, _, ho, _, _⟩ => ⟨_, he, rfl, .inr ⟨mb, pb, n, bp, bm, hd, gen, 0, 0, -1, _, _, rfl, h1⟩, ho⟩)
theorem claimP_nilA {p : Option Addr} (h : ClaimP w p P T) : Calls Tryz.prog 7 #[.pointer p, .pointer none] w fun e w' => e = .returned (.agg #[.int .i64 0, .int .i64 0, .int .u64 0, .int .u64 0]) ∧ Adds w w' := by
  obtain rfl | ⟨mb, pb, n, bp, bm, hd, gen, st, tk, pgv, held, hand, rfl, h⟩ := h
  · exact claimClaimStep_nil _ _
  · exact (claimClaimStep_some (Q := fun _ => True) (S := fun _ => False) (fun _ _ _ _ => trivial) (fun _ e => e.elim) (fun w1 ho => (deskStep_nilA ((h.adds ho).m.cell 2)).mono (fun _ _ h => ⟨h.1, trivial, h.2⟩))).mono (fun _ _ h => ⟨h.1, h.2.2⟩)
theorem claimP_other {p : Option Addr} {ab sb rb : Nat} {P' T' : Int} (h : ClaimP w p P T) (hA : IsArena w ab sb rb P' T') (hne : (P' == P && T' == T) = false) : Calls Tryz.prog 7 #[.pointer p, .pointer (some ⟨ab, 0, none⟩)] w fun e w' => e = .returned (.agg #[.int .i64 0, .int .i64 0, .int .u64 0, .int .u64 0]) ∧ Adds w w' := by
  obtain rfl | ⟨mb, pb, n, bp, bm, hd, gen, st, tk, pgv, held, hand, rfl, h⟩ := h
  · exact claimClaimStep_nil _ _
  · exact (claimClaimStep_some (Q := fun _ => True) (S := fun _ => False) (fun _ _ _ _ => trivial) (fun _ e => e.elim) (fun w1 ho => (deskStep_other ((h.adds ho).m.cell 2) ((h.adds ho).m.cell 0) ((h.adds ho).m.cell 1) (hA.only ho id) hne).mono (fun _ _ h => ⟨h.1, trivial, h.2⟩))).mono (fun _ _ h => ⟨h.1, h.2.2⟩)
theorem claimP_done {p : Option Addr} (h : ClaimP w p P T) : Calls Tryz.prog 8 #[.pointer p] w fun e w' => e = .returned (.bool false) ∧ w = w' := by
  obtain rfl | ⟨mb, pb, n, bp, bm, hd, gen, st, tk, pgv, held, hand, rfl, h⟩ := h
  · exact claimClaimDone_nil _
  · exact claimClaimDone_no (h.m.cell 2)
theorem claim_nonnil (p : Option Addr) (W : World) : Sem.run Tryz.prog (binOp .neq 37 (.pointer p) (.pointer none)) W = .ok (.bool p.isSome) W := by cases p <;> kernel_rfl
set_option maxHeartbeats 400000 in
theorem claimPage_nil (w : World) : Calls Tryz.prog 9 #[.pointer none] w fun e w' => e = .returned (.int .i64 0) ∧ w = w' := by
  go_enter Tryz.func9, Tryz.ntmps9
  go_wp2
  go_ret
  exact ⟨rfl, rfl⟩
end
section
variable {w w' : World} {ab sb sm rb mb pb n bp bm : Nat} {P T hd gen st tk pgv held hand H : Int} {f : Int → Int} {nx : Value} {k : DK} {was : Int}
set_option maxRecDepth 100000 in
set_option maxHeartbeats 2000000 in
theorem claimTaken_none (hp : Desk w pb (poC P T hd was (-1)) 146 k) (hbp : Blk w bp #[.pointer (some ⟨pb, 0, none⟩)] 101) (hbm : Blk w bm #[.pointer (some ⟨mb, 0, none⟩)] 37) (h : Blk w mb (clC P T hd gen st tk pgv held hand nx) 76) :
    Calls Tryz.prog 50 #[.pointer (some ⟨bp, 0, none⟩), .pointer (some ⟨bm, 0, none⟩)] w fun e w' => e = .returned (.tuple #[]) ∧ Blk w' mb (clC P T hd gen st (-1) pgv held hand .nilFunc) 76 ∧ Only (· = mb) w w' := by
  have HB := Lib.hid h; have HM := Lib.hid hbm; have HP := Lib.hid hp
  have c0 := hbp.one; have c1 := hbm.one
  have c6 : w.cell? ⟨mb, 6, none⟩ = some (.int .i64 tk) := h.cell 6
  have f6 := h.frozen 6
  have hl := h.lt
  have nM := Lib.hid (h.multi' (by simp) hbm)
  have nJ : bm ≠ mb := nM.out
  clear h hbm hp hbp
  go_enter Tryz.func50, Tryz.ntmps50
  go_wp2_with fail
  go_region_with ((first
    | (go_at_call 51; refine (popPage_any HP.out).mono ?_; rintro e w4 ⟨rfl, rfl⟩)
    | (go_at_call 51; refine (popPage_any (HP.out.adds ((Only.refl _ _).drew))).mono ?_; rintro e w4 ⟨rfl, rfl⟩)))
  all_goals
    have HB2 := Lib.hid (show Blk ((w.drew).setCell ⟨mb, 6, none⟩ (.int .i64 (-1))) mb (clC P T hd gen st (-1) pgv held hand nx) 76 from ((HB.out.only ((Only.refl (fun _ => False) _).drew) id).setCell 6 _))
    go_wp2_with (go_at_call 52; refine (deskEnd_any HB2.out (by simp)).mono ?_; rintro e w1 ⟨rfl, rfl⟩)
    refine bodyPost_ret (results_none rfl _ _ _) rfl ?_
    exact ⟨rfl, HB2.out.setCell 2 _, (((Only.refl (fun x => x = mb) w).drew).setCell (.inl rfl) _).setCell (.inl rfl) _⟩
theorem YS.stays (ab sb sm rb : Nat) (P T hd H : Int) (f : Int → Int) : Stays (fun w => YS w ab sb sm rb P T hd H f) := fun _ _ ho ⟨s, h1, h2⟩ => ⟨s, Yard.dids h1 ho, h2⟩
set_option maxRecDepth 100000 in
set_option maxHeartbeats 2000000 in
theorem claimStep_empty (h : ClPop w mb pb (clC P T hd gen st tk pgv held hand) n bp bm) (hp : Pop1 w pb P T hd 0 (-1)) (hY : YS w ab sb sm rb P T hd H f) (hh : HD P T hd) (hH : Tag.pg H < 0) :
    Calls Tryz.prog 7 #[.pointer (some ⟨mb, 0, none⟩), .pointer (some ⟨ab, 0, none⟩)] w fun e w' => e = .returned (.agg #[.int .i64 1, .int .i64 hd, .int .u64 H, .int .u64 H]) ∧ (Blk w' mb (clC P T hd gen st (-1) pgv held hand .nilFunc) 76 ∧ YS w' ab sb sm rb P T hd H f) ∧ Only (fun j => (SB sb sm j ∨ j = pb) ∨ j = mb) w w' := by
  obtain ⟨nxp, hpb, -⟩ := Desk.blk hp
  have lS : ∀ j, (SB sb sm j ∨ j = pb) → j < w.heap.size := fun j hj => hj.elim (fun e => by obtain ⟨s, hy, _⟩ := hY; exact e.elim (· ▸ hy.st.head.lt) (· ▸ hy.st.row.lt)) (· ▸ hpb.lt)
  have lM : ∀ j, j = mb → j < w.heap.size := fun j e => e ▸ h.m.lt
  have key : ∀ {b : Nat} {c : Array Value} {t : TypeId}, Blk w b c t → t ≠ 110 ∧ t ≠ 39 ∧ t ≠ 107 ∧ t ≠ 146 → ¬ (SB sb sm b ∨ b = pb) := fun hb ht e => by
    obtain ⟨s, hy, _⟩ := hY
    have hm := hy.mach hb ht.1 ht.2.1 ht.2.2.1
    rcases e with (e | e) | e
    · exact hm.2.1 e
    · exact hm.2.2 e
    · subst e; exact ht.2.2.2 (hb.uniq hpb).2
  have nm := key h.m (by decide)
  have stR : Stays (fun w => Blk w mb (clC P T hd gen st (-1) pgv held hand .nilFunc) 76 ∧ YS w ab sb sm rb P T hd H f) := fun a b ho hx => ⟨hx.1.dids ho (by decide), YS.stays _ _ _ _ _ _ _ _ _ a b ho hx.2⟩
  have stQ : Stays (fun w => Desk w pb (poC P T hd H (-1)) 146 .done ∧ YS w ab sb sm rb P T hd H f) := fun a b ho hx => ⟨Desk.stays _ _ _ _ (by decide) a b ho hx.1, YS.stays _ _ _ _ _ _ _ _ _ a b ho hx.2⟩
  have hYA := hY
  obtain ⟨s, hy, _⟩ := hYA
  refine claimClaimStep_some (Q := fun w => Blk w mb (clC P T hd gen st (-1) pgv held hand .nilFunc) 76 ∧ YS w ab sb sm rb P T hd H f) (S := fun j => (SB sb sm j ∨ j = pb) ∨ j = mb) stR (fun j e => e.elim (lS j) (lM j)) (fun w1 ho1 => ?_)
  have h1 := h.adds ho1
  refine deskStep_live (K := 98) (h1.m.cell 2) (h1.m.cell 0) (h1.m.cell 1) (hy.ar.only ho1 id) stR (fun j e => Nat.lt_of_lt_of_le (e.elim (lS j) (lM j)) ho1.size) (enters_of Tryz.func98 (by kernel_rfl) rfl) (fun w2 ho2 => ?_)
  have hA := ho1.thenF ho2
  have h2 := h.adds hA
  have hY2 := hY.adds hA
  refine run1_pop (K := 50) (S := fun j => SB sb sm j ∨ j = pb) (M := fun j => j = mb) h2.r stQ stR (fun j e => Nat.lt_of_lt_of_le (lS j e) hA.size) (fun j e => Nat.lt_of_lt_of_le (lM j e) hA.size) (key h.r.b0 (by decide)) (key h.r.b1 (by decide))
    (fun w3 ho3 => popLoadNone (Desk.adds hp (hA.thenF ho3)) (hY2.adds ho3) hh hH) (fun W hq => stackPopDone_yes (Blk.cell hq.1 2)) (enters_of Tryz.func50 (by kernel_rfl) rfl)
    (fun W ho hq => ?_)
  have hm3 := h2.m.only ho nm
  refine (claimTaken_none hq.1 (h2.p.only ho (key h.p (by decide))) (h2.b.only ho (key h.b (by decide))) hm3).mono ?_
  rintro e w4 ⟨he, hb, ho4⟩
  refine ⟨he, ⟨hb, ?_⟩, ho4⟩
  obtain ⟨s2, hy2, hs2⟩ := hq.2
  have hmm := hy2.mach hm3 (by decide) (by decide) (by decide)
  exact ⟨s2, hy2.only ho4 hmm.1.symm hmm.2.1.symm hmm.2.2.symm, hs2⟩
end
theorem YS.new' {w : World} {ab sb sm rb : Nat} {P T hd : Int} (h : Yard w ab sb sm rb P T (StoreS.begun (Lay.words P T).toNat 0 1)) (hh : HD P T hd) : YS w ab sb sm rb P T hd 0 (fun _ => 0) := by
  have hl := hh.lo
  have hw := hh.words
  exact ⟨_, h, begun_len _ _ _, begun_other _ _ _ (by omega), fun q h0 h1 => begun_other _ _ _ (by have := Lay.nextAt_eq hh.may h0 h1; omega)⟩
section
variable {w : World} {mb : Nat} {P T hd gen st tk pgv held hand : Int} {nx : Value}
set_option maxHeartbeats 400000 in
theorem claimPage_any (h : Blk w mb (clC P T hd gen st tk pgv held hand nx) 76) : Calls Tryz.prog 9 #[.pointer (some ⟨mb, 0, none⟩)] w fun e w' => e = .returned (.int .i64 pgv) ∧ w = w' := by
  have c7 : w.cell? ⟨mb, 7, none⟩ = some (.int .i64 pgv) := h.cell 7
  clear h
  go_enter Tryz.func9, Tryz.ntmps9
  go_wp2
  go_ret
  exact ⟨rfl, rfl⟩
end
set_option maxRecDepth 100000 in
set_option maxHeartbeats 4000000 in
theorem awake16_any (w : World) : Calls Tryz.prog 14 #[] w fun e w' => e = .returned (.bool true) ∧ Adds w w' := by
  have hkd := fun W a b c d => did_kind W a b c d
  have HD12 : Hid (HD 2 1 12) := Lib.hid ⟨by decide, by decide, by decide⟩
  have hB := Blk.new w #[.int .i64 2, .int .i64 1] 29
  have x0 : (w.alloc (.cells #[.int .i64 2, .int .i64 1] 29)).cell? ⟨w.heap.size, 0, none⟩ = some (.int .i64 2) := hB.cell 0
  have x1 : (w.alloc (.cells #[.int .i64 2, .int .i64 1] 29)).cell? ⟨w.heap.size, 1, none⟩ = some (.int .i64 1) := hB.cell 1
  clear hB
  go_enter Tryz.func14, Tryz.ntmps14
  go_wp2_with fail
  go_region_held3 (fun w' => w'.cell? ⟨w.heap.size, 0, none⟩ = some (.int .i64 2) ∧ w'.cell? ⟨w.heap.size, 1, none⟩ = some (.int .i64 1) ∧ Adds w w')
    (first | (exact ⟨x0, x1, ((Only.refl _ _).alloc _).drew⟩) | (exact heldM2 (by assumption) (by assumption)))
    (first
    | (go_at_call 34; refine (arenaNew_yard 2 1 _ (by decide)).mono ?_; rintro e w1 ⟨ab, sb, sm, rb, rfl, hy, ho1, hlow⟩)
    | (go_at_call 6; refine (newClaim_ok 2 1 12 3 _ HD12.out.to (by decide)).mono ?_; rintro e w2 ⟨mb, pb, n, bp, bm, rfl, hc, hp, ho2, hlow2, hlow3⟩))
  rename_i hH
  have HO2 := Lib.hid hH.2.2
  have HY2 := Lib.hid ((YS.new' hy HD12.out).adds ho2); have HC2 := Lib.hid hc; have HP2 := Lib.hid hp
  have HLO : Hid (w.heap.size ≤ sb ∧ w.heap.size ≤ sm ∧ w.heap.size ≤ pb ∧ w.heap.size ≤ mb) := Lib.hid (by
    have h1 := ho1.size
    simp only [World.size_drew, World.size_alloc] at hlow h1
    omega)
  clear hH hy hc hp ho1 ho2 hlow hlow2 hlow3 x0 x1
  go_wp2_with (first
    | (go_at_call 7; refine (claimStep_empty HC2.out HP2.out HY2.out HD12.out (by decide)).mono ?_; rintro e w3 ⟨rfl, ⟨hb, hy⟩, ho⟩; have HB3 := Lib.hid hb; have HO3 := Lib.hid (HO2.out.andThen ho (fun i hi e => by have h := HLO.out; unfold SB at e; omega)); clear hb hy ho)
    | (go_at_call 8; refine (claimClaimDone_yes (HB3.out.cell 2)).mono ?_; rintro e w4 ⟨rfl, rfl⟩)
    | (go_at_call 9; refine (claimPage_any HB3.out).mono ?_; rintro e w5 ⟨rfl, rfl⟩))
  go_ret
  exact ⟨rfl, HO3.out⟩
end Go.Proofs.YtmnliddjddpchaaGreat

/- StackLost: its walk. By an AI agent. -/
import Derived.Test.YtbcfeaimopijfaaStackBeside
import Derived.Test.YtbcfeaimopijfaaRow
namespace Go.Proofs.Ytbcfeaimopijfaa
open Go.RowKit
theorem hiM {n sb sm mb : Nat} (h1 : n ≤ sb) (h2 : n ≤ sm) (h3 : n ≤ mb) (i : Nat) (hi : i < n) : ¬ (SB sb sm i ∨ i = mb) := by unfold SB; omega
set_option maxRecDepth 100000 in
set_option maxHeartbeats 8000000 in
theorem stackLost_go (p q : Int) (hp : 0 ≤ p ∧ p < 40) (hq : 0 ≤ q ∧ q < 40) (hpq : p ≠ q) (K1 K2 K3 K4 L4 : Int) (e1 : Tag.nx 0 p = K1) (e2 : Tag.nx K1 (-1) = K2) (e3 : Tag.nx K2 p = K3) (e4 : Tag.nx K3 (-1) = K4) (e5 : Tag.nx K3 q = L4)
    (a b : Int) (pop : Bool) (w : World) (h0 : 0 ≤ a) (h1 : a < 256) (g0 : 0 ≤ b) (g1 : b < 256) (ea : a % 40 = p) (hcase : ((a % 40 == b % 40) = false ∧ b % 40 = q) ∨ ((a % 40 == b % 40) = true ∧ (a + 1) % 40 = q)) :
    Calls Try.prog 4 #[.int .u8 a, .int .u8 b, .bool pop] w fun e w' => e = .returned (.bool true) ∧ Adds w w' := by
  have hkd := fun W a b c d => did_kind W a b c d
  have hB := Lib.hid (Blk.new w #[.int .i64 40, .int .i64 1] 24)
  have ea' : IntKind.i64.wrap (a % 40 + 1) = a % 40 + 1 := by simp [IntKind.wrap_i64]; omega
  have ea2 : Int.tmod (a % 40 + 1) 40 = (a % 40 + 1) % 40 := Int.tmod_eq_emod_of_nonneg (by omega)
  have HD8 : Hid (HD 40 1 8) := Lib.hid ⟨by decide, by decide, by decide⟩
  have pg1 : Tag.pg K1 = p := by rw [← e1]; exact Tag.pg_nx (by omega)
  have pg2 : Tag.pg K2 = -1 := by rw [← e2]; exact Tag.pg_nx (by omega)
  have pg3 : Tag.pg K3 = p := by rw [← e3]; exact Tag.pg_nx (by omega)
  have pg4 : Tag.pg K4 = -1 := by rw [← e4]; exact Tag.pg_nx (by omega)
  have pg5 : Tag.pg L4 = q := by rw [← e5]; exact Tag.pg_nx (by omega)
  have b1 : 0 ≤ K1 ∧ K1 < 18446744073709551616 := by rw [← e1]; exact Tag.mk_bd (by omega) (by omega)
  have b3 : 0 ≤ K3 ∧ K3 < 18446744073709551616 := by rw [← e3]; exact Tag.mk_bd (by omega) (by omega)
  have n31 : K3 ≠ K1 := by
    have t1 : Tag.tg K1 = 1 := by rw [← e1, Tag.tg_nx (by omega)]; decide
    have t2 : Tag.tg K2 = 2 := by rw [← e2, Tag.tg_nx (by omega), t1]; decide
    have t3 : Tag.tg K3 = 3 := by rw [← e3, Tag.tg_nx (by omega), t2]; decide
    intro e; rw [e, t1] at t3; omega
  have u0 : underV 0 = -1 := by decide
  obtain ⟨F, hF⟩ : ∃ F : Int → Int, F = fun j => if j = q then p + 1 else 0 := ⟨_, rfl⟩
  have hFp : F p = 0 := by rw [hF]; simp [hpq]
  have hFq : underV (F q) = p := by rw [hF]; unfold underV; simp only [if_pos]; rw [if_neg (by omega)]; omega
  have hcv : ∀ j, (if j = p then Tag.pg K2 + 1 else F j) = F j := fun j => by
    by_cases hj : j = p
    · rw [if_pos hj, hj, pg2, hFp]; rfl
    · rw [if_neg hj]
  have HCV := Lib.hid hcv
  have HF := Lib.hid hF
  have G := Lib.hid (And.intro pg1 (And.intro pg2 (And.intro pg3 (And.intro pg4 (And.intro pg5 (And.intro b1 (And.intro b3 (And.intro n31 (And.intro u0 (And.intro hFp hFq))))))))))
  have E := Lib.hid (And.intro e1 (And.intro e2 (And.intro e3 (And.intro e4 e5))))
  have HPQ := Lib.hid (And.intro hp (And.intro hq hpq))
  clear pg1 pg2 pg3 pg4 pg5 b1 b3 n31 u0 hF hFp hFq e1 e2 e3 e4 e5 hp hq hpq hcv
  have EA := Lib.hid ea
  clear ea
  obtain ⟨ec, eb⟩ | ⟨ec, eb⟩ := hcase
  all_goals
    go_enter Try.func4, Try.ntmps4
    have EB := Lib.hid eb
    clear eb
    go_wp2_with (go_at_call 7; refine (arenaNew_yard 40 1 _ (by decide)).mono ?_; rintro e w1 ⟨ab, sb, sm, rb, rfl, hy, ho, hlow⟩; have HY1 := Lib.hid (YS.new hy HD8.out); have HB1 := Lib.hid (hB.out.only ho id); have x0_1 := HB1.out.cell 0; have x1_1 := HB1.out.cell 1; have HLOW : Hid (w.heap.size < ab ∧ w.heap.size < sb ∧ w.heap.size < sm) := Lib.hid (by simp only [World.size_alloc] at hlow; omega); have HO1 := Lib.hid (((Only.refl (fun _ => False) w).alloc _).thenF ho); clear hy ho hlow)
    simp only [EA.out, EB.out]
    clear ec ea' ea2 x0_1 x1_1
    have HLO : Hid (w.heap.size < ab ∧ w.heap.size < sb ∧ w.heap.size < sm ∧ sb < w1.heap.size ∧ sm < w1.heap.size ∧ w.heap.size < w1.heap.size) := Lib.hid (by have h := HLOW.out; have h2 := HY1.out.low; omega)
    clear HLOW
    go_wp2_with (go_at_call 20; refine (law12push_any HY1.out HD8.out HPQ.out.1.1 HPQ.out.1.2).mono ?_; rintro e w2 ⟨rfl, hy, ho⟩; rw [E.out.1] at hy; have HY2 := Lib.hid (hy.conv (g := fun _ => 0) (fun j _ _ => by split <;> rfl)); have HB2 := Lib.hid (HB1.out.only ho (by have h := HLO.out; rintro (h | h) <;> omega)); have x0_2 := HB2.out.cell 0; have x1_2 := HB2.out.cell 1; have HO2 := Lib.hid (HO1.out.andThen ho (fun i hi e => by have h := HLO.out; rcases e with e | e <;> omega)); have HZ2 := Lib.hid ho.size; clear hy ho)
    go_region_held3 (fun W => W.cell? ⟨w.heap.size, 0, none⟩ = some (.int .i64 40) ∧ W.cell? ⟨w.heap.size, 1, none⟩ = some (.int .i64 1) ∧ Adds w2 W)
      (first | (exact ⟨x0_2, x1_2, (Only.refl _ _).drew⟩) | (exact ⟨x0_2, x1_2, (Only.refl _ _).drewN _⟩) | (exact heldM2 (by assumption) (by first | assumption | exact (Only.refl _ _).drewN _)))
      (first
      | (go_at_call 15; refine (newPop_ok 40 1 8 _ HD8.out.to).mono ?_; rintro e w3 ⟨xm, rfl, hx, ho3, hlow3⟩)
      | (go_at_call 10; refine (newPush_ok 40 1 8 q _ HD8.out.to HPQ.out.2.1.1 HPQ.out.2.1.2).mono ?_; rintro e w4 ⟨ym, rfl, hv, ho4, hlow4⟩))
    rename_i hH
    have HO2b := hH.2.2
    have hxl := Desk.lt hx
    have HX4 : Hid (Pop1 w4 xm 40 1 8 0 (-1)) := Lib.hid (by first | exact Desk.adds hx ho4 | exact Desk.adds (Desk.adds hx ((Only.refl (fun _ => False) _).drew)) ho4)
    have HV4 := Lib.hid hv
    have HY4 := Lib.hid (HY2.out.adds HO2b); have HB4 := Lib.hid (HB2.out.only HO2b id); have HO4 := Lib.hid (HO2.out.thenF HO2b)
    have HNE : Hid (w.heap.size < ab ∧ w.heap.size < sb ∧ w.heap.size < sm ∧ sb < xm ∧ sm < xm ∧ w.heap.size < xm ∧ xm < ym) := Lib.hid (by
      have h1 := HLO.out; have h2 := HZ2.out
      try simp only [World.size_drew] at hlow3 hlow4
      refine ⟨?_, ?_, ?_, ?_, ?_, ?_, ?_⟩ <;> omega)
    clear hH HO2b hxl hx hv ho3 ho4 hlow3 hlow4 HLO HZ2 x0_2 x1_2 HB1 HO1 HY1 HB2 HO2 HY2
    go_wp2_with fail
    refine wp_loop_rounds 3 ?_
    rw [rounds_succ]
    go_wp2_with (first
      | (go_at_call 12; with_reducible refine (pushLoad HV5.out HY5.out HD8.out ).mono ?_; rintro e w6 ⟨rfl, ⟨hm, hy⟩, ho⟩; have HV6 : Hid (Push2 w6 ym 40 1 8 q K1) := Lib.hid hm; have HY6 : Hid (YS w6 ab sb sm rb 40 1 8 K1 (fun _ => 0)) := Lib.hid (hy); have HX6 := Lib.hid (HY5.out.pop2 HD8.out HX5.out (by have h := HNE.out; omega) (Aloof.push1 HV5.out) ho); have HB6 := Lib.hid (HB5.out.only ho (hiM (n := w.heap.size + 1) (by have h := HNE.out; omega) (by have h := HNE.out; omega) (by have h := HNE.out; omega) _ (by omega))); have HO6 := Lib.hid (HO5.out.andThen ho (fun i hi e => absurd e (hiM (n := w.heap.size) (by have h := HNE.out; omega) (by have h := HNE.out; omega) (by have h := HNE.out; omega) i hi))); clear hm hy ho)
      | (go_at_call 18; with_reducible refine (popLoadSome HX4.out HY4.out HD8.out (by rw [G.out.1]; exact HPQ.out.1.1)).mono ?_; rintro e w5 ⟨rfl, ⟨hm, hy⟩, ho⟩; have HX5 : Hid (Pop2 w5 xm 40 1 8 K1 (-1)) := Lib.hid hm; have HY5 : Hid (YS w5 ab sb sm rb 40 1 8 K1 (fun _ => 0)) := Lib.hid (hy); have HV5 := Lib.hid (HY4.out.push1 HD8.out HV4.out (by have h := HNE.out; omega) (Aloof.pop1 HX4.out) ho); have HB5 := Lib.hid (HB4.out.only ho (hiM (n := w.heap.size + 1) (by have h := HNE.out; omega) (by have h := HNE.out; omega) (by have h := HNE.out; omega) _ (by omega))); have HO5 := Lib.hid (HO4.out.andThen ho (fun i hi e => absurd e (hiM (n := w.heap.size) (by have h := HNE.out; omega) (by have h := HNE.out; omega) (by have h := HNE.out; omega) i hi))); clear hm hy ho))
    rw [rounds_succ]
    go_wp2_with (first
      | (go_at_call 12; with_reducible refine (pushPut HV7.out HY7.out HD8.out G.out.2.2.2.2.2.1.1 G.out.2.2.2.2.2.1.2 HPQ.out.2.1.1 HPQ.out.2.1.2).mono ?_; rintro e w8 ⟨rfl, ⟨hm, hy⟩, ho⟩; have HV8 : Hid (Push3 w8 ym 40 1 8 q K1) := Lib.hid hm; have HY8 : Hid (YS w8 ab sb sm rb 40 1 8 K1 F) := Lib.hid (hy.conv (g := F) (fun j _ _ => by rw [HF.out]; simp only [G.out.1])); have HX8 := Lib.hid (HY7.out.pop3 HD8.out HX7.out (by have h := HNE.out; omega) (Aloof.push2 HV7.out) ho); have HB8 := Lib.hid (HB7.out.only ho (hiM (n := w.heap.size + 1) (by have h := HNE.out; omega) (by have h := HNE.out; omega) (by have h := HNE.out; omega) _ (by omega))); have HO8 := Lib.hid (HO7.out.andThen ho (fun i hi e => absurd e (hiM (n := w.heap.size) (by have h := HNE.out; omega) (by have h := HNE.out; omega) (by have h := HNE.out; omega) i hi))); clear hm hy ho)
      | (go_at_call 18; with_reducible refine (popNext HX6.out HY6.out HD8.out (by rw [G.out.1]; exact HPQ.out.1.1) (by rw [G.out.1]; exact HPQ.out.1.2) G.out.2.2.2.2.2.1).mono ?_; rintro e w7 ⟨rfl, ⟨hm, hy⟩, ho⟩; have HX7 : Hid (Pop3 w7 xm 40 1 8 K1 (-1) 0) := Lib.hid hm; have HY7 : Hid (YS w7 ab sb sm rb 40 1 8 K1 (fun _ => 0)) := Lib.hid (hy); have HV7 := Lib.hid (HY6.out.push2 HD8.out HV6.out (by have h := HNE.out; omega) (Aloof.pop2 HX6.out) ho); have HB7 := Lib.hid (HB6.out.only ho (hiM (n := w.heap.size + 1) (by have h := HNE.out; omega) (by have h := HNE.out; omega) (by have h := HNE.out; omega) _ (by omega))); have HO7 := Lib.hid (HO6.out.andThen ho (fun i hi e => absurd e (hiM (n := w.heap.size) (by have h := HNE.out; omega) (by have h := HNE.out; omega) (by have h := HNE.out; omega) i hi))); clear hm hy ho))
    rw [rounds_succ]
    have x0_8 := HB8.out.cell 0; have x1_8 := HB8.out.cell 1
    go_wp2_with (go_at_call 15; refine (newPop_ok 40 1 8 _ HD8.out.to).mono ?_; rintro e w9 ⟨zm, rfl, hz, ho, hlow⟩; have HZ9 := Lib.hid hz; have HX9 := Lib.hid (HX8.out.adds ho); have HV9 := Lib.hid (HV8.out.adds ho); have HY9 := Lib.hid (HY8.out.adds ho); have HB9 := Lib.hid (HB8.out.only ho id); have HO9 := Lib.hid (HO8.out.thenF ho); have hyl : ym < w8.heap.size := (by obtain ⟨_, _, h⟩ := HV8.out; exact Desk.lt h); have HNZ : Hid (xm < zm ∧ ym < zm) := Lib.hid (by have h := HNE.out; omega); clear hz ho hlow hyl x0_8 x1_8)
    have HNE : Hid (w.heap.size < ab ∧ w.heap.size < sb ∧ w.heap.size < sm ∧ sb < xm ∧ sm < xm ∧ w.heap.size < xm ∧ xm < ym ∧ ym < zm) := Lib.hid (by have h1 := HNE.out; have h2 := HNZ.out; omega)
    clear HNZ
    refine wp_loop_rounds 4 ?_
    rw [rounds_succ]
    go_wp2_with (go_at_call 18; with_reducible refine (popLoadSome HZ9.out HY9.out HD8.out (by rw [G.out.1]; exact HPQ.out.1.1)).mono ?_; rintro e w10 ⟨rfl, ⟨hm, hy⟩, ho⟩; have HZ10 : Hid (Pop2 w10 zm 40 1 8 K1 (-1)) := Lib.hid hm; have HY10 : Hid (YS w10 ab sb sm rb 40 1 8 K1 F) := Lib.hid (hy); have HV10 := Lib.hid (HY9.out.push3 HD8.out HV9.out (by have h := HNE.out; omega) (Aloof.pop1 HZ9.out) ho); have HX10 := Lib.hid (HY9.out.pop3 HD8.out HX9.out (by have h := HNE.out; omega) (Aloof.pop1 HZ9.out) ho); have HB10 := Lib.hid (HB9.out.only ho (hiM (n := w.heap.size + 1) (by have h := HNE.out; omega) (by have h := HNE.out; omega) (by have h := HNE.out; omega) _ (by omega))); have HO10 := Lib.hid (HO9.out.andThen ho (fun i hi e => absurd e (hiM (n := w.heap.size) (by have h := HNE.out; omega) (by have h := HNE.out; omega) (by have h := HNE.out; omega) i hi))); clear hm hy ho)
    rw [rounds_succ]
    go_wp2_with (go_at_call 18; with_reducible refine (popNext HZ10.out HY10.out HD8.out (by rw [G.out.1]; exact HPQ.out.1.1) (by rw [G.out.1]; exact HPQ.out.1.2) G.out.2.2.2.2.2.1).mono ?_; rintro e w11 ⟨rfl, ⟨hm, hy⟩, ho⟩; rw [G.out.1, G.out.2.2.2.2.2.2.2.2.2.1] at hm; have HZ11 : Hid (Pop3 w11 zm 40 1 8 K1 (-1) 0) := Lib.hid hm; have HY11 : Hid (YS w11 ab sb sm rb 40 1 8 K1 F) := Lib.hid (hy); have HV11 := Lib.hid (HY10.out.push3 HD8.out HV10.out (by have h := HNE.out; omega) (Aloof.pop2 HZ10.out) ho); have HX11 := Lib.hid (HY10.out.pop3 HD8.out HX10.out (by have h := HNE.out; omega) (Aloof.pop2 HZ10.out) ho); have HB11 := Lib.hid (HB10.out.only ho (hiM (n := w.heap.size + 1) (by have h := HNE.out; omega) (by have h := HNE.out; omega) (by have h := HNE.out; omega) _ (by omega))); have HO11 := Lib.hid (HO10.out.andThen ho (fun i hi e => absurd e (hiM (n := w.heap.size) (by have h := HNE.out; omega) (by have h := HNE.out; omega) (by have h := HNE.out; omega) i hi))); clear hm hy ho)
    rw [rounds_succ]
    go_wp2_with (go_at_call 18; with_reducible refine (popWin HZ11.out HY11.out HD8.out rfl).mono ?_; rintro e w12 ⟨rfl, ⟨hm, hy⟩, ho⟩; rw [G.out.1] at hm; rw [G.out.2.2.2.2.2.2.2.2.1, E.out.2.1] at hy; have HZ12 : Hid (Desk w12 zm (poC 40 1 8 K1 p) 93 .done) := Lib.hid hm; have HY12 : Hid (YS w12 ab sb sm rb 40 1 8 K2 F) := Lib.hid (hy); have HV12 := Lib.hid (HY11.out.push3 HD8.out HV11.out (by have h := HNE.out; omega) (Aloof.pop3 HZ11.out) ho); have HX12 := Lib.hid (HY11.out.pop3 HD8.out HX11.out (by have h := HNE.out; omega) (Aloof.pop3 HZ11.out) ho); have HB12 := Lib.hid (HB11.out.only ho (hiM (n := w.heap.size + 1) (by have h := HNE.out; omega) (by have h := HNE.out; omega) (by have h := HNE.out; omega) _ (by omega))); have HO12 := Lib.hid (HO11.out.andThen ho (fun i hi e => absurd e (hiM (n := w.heap.size) (by have h := HNE.out; omega) (by have h := HNE.out; omega) (by have h := HNE.out; omega) i hi))); clear hm hy ho)
    rw [rounds_succ]
    have x0_12 := HB12.out.cell 0; have x1_12 := HB12.out.cell 1
    cases pop
    all_goals
      go_wp2_with (first
        | (go_at_call 18; with_reducible refine (popWin HX16.out HY16.out HD8.out rfl).mono ?_; rintro e w17 ⟨rfl, ⟨hm, hy⟩, ho⟩; rw [G.out.2.2.1] at hm; rw [G.out.2.2.2.2.2.2.2.2.1, E.out.2.2.2.1] at hy; have HX17 : Hid (Desk w17 xm (poC 40 1 8 K3 p) 93 .done) := Lib.hid hm; have HY17 : Hid (YS w17 ab sb sm rb 40 1 8 K4 F) := Lib.hid (hy); have HO17 := Lib.hid (HO16.out.andThen ho (fun i hi e => absurd e (hiM (n := w.heap.size) (by have h := HNE.out; omega) (by have h := HNE.out; omega) (by have h := HNE.out; omega) i hi))); clear hm hy ho)
        | (go_at_call 18; with_reducible refine (popNext HX15.out HY15.out HD8.out (by rw [G.out.2.2.1]; exact HPQ.out.1.1) (by rw [G.out.2.2.1]; exact HPQ.out.1.2) G.out.2.2.2.2.2.2.1).mono ?_; rintro e w16 ⟨rfl, ⟨hm, hy⟩, ho⟩; rw [G.out.2.2.1, G.out.2.2.2.2.2.2.2.2.2.1] at hm; have HX16 : Hid (Pop3 w16 xm 40 1 8 K3 (-1) 0) := Lib.hid hm; have HY16 : Hid (YS w16 ab sb sm rb 40 1 8 K3 F) := Lib.hid (hy); have HO16 := Lib.hid (HO15.out.andThen ho (fun i hi e => absurd e (hiM (n := w.heap.size) (by have h := HNE.out; omega) (by have h := HNE.out; omega) (by have h := HNE.out; omega) i hi))); clear hm hy ho)
        | (go_at_call 18; with_reducible refine (popLoadSome HX14.out HY14.out HD8.out (by rw [G.out.2.2.1]; exact HPQ.out.1.1)).mono ?_; rintro e w15 ⟨rfl, ⟨hm, hy⟩, ho⟩; have HX15 : Hid (Pop2 w15 xm 40 1 8 K3 (-1)) := Lib.hid hm; have HY15 : Hid (YS w15 ab sb sm rb 40 1 8 K3 F) := Lib.hid (hy); have HO15 := Lib.hid (HO14.out.andThen ho (fun i hi e => absurd e (hiM (n := w.heap.size) (by have h := HNE.out; omega) (by have h := HNE.out; omega) (by have h := HNE.out; omega) i hi))); clear hm hy ho)
        | (go_at_call 18; with_reducible refine (popLost HX13.out HY13.out HD8.out G.out.2.2.2.2.2.2.2.1).mono ?_; rintro e w14 ⟨rfl, ⟨hm, hy⟩, ho⟩; have HX14 : Hid (Pop1 w14 xm 40 1 8 K1 (-1)) := Lib.hid hm; have HY14 : Hid (YS w14 ab sb sm rb 40 1 8 K3 F) := Lib.hid (hy); have HO14 := Lib.hid (HO13.out.andThen ho (fun i hi e => absurd e (hiM (n := w.heap.size) (by have h := HNE.out; omega) (by have h := HNE.out; omega) (by have h := HNE.out; omega) i hi))); clear hm hy ho)
        | (go_at_call 16; refine (stackPopDone_yes (Blk.cell HX17.out 2)).mono ?_; rintro e u3 ⟨rfl, rfl⟩)
        | (go_at_call 16; refine (popDone_any HX14.out (by simp)).mono ?_; rintro e u2 ⟨rfl, rfl⟩)
        | (go_at_call 17; refine (popPage_any HX17.out).mono ?_; rintro e u4 ⟨rfl, rfl⟩)
        | (go_at_call 14; refine (list_any HY17.out HD8.out (L := []) (by rw [G.out.2.2.2.1]; exact (by omega : ¬ ((0 : Int) ≤ -1 ∧ (-1 : Int) < 40))) (by simp)).mono ?_; rintro e w18 ⟨v, rfl, ⟨a0, cp, rfl, -⟩, ho⟩; have HO18 := Lib.hid (HO17.out.thenF ho); clear ho)
        | (go_at_call 19; refine (awake12_any _).mono ?_; rintro e w19 ⟨rfl, ho⟩; have HO19 := Lib.hid (HO18.out.thenF ho); clear ho)
        | (go_at_call 12; with_reducible refine (pushWin HV26.out HY26.out HD8.out rfl).mono ?_; rintro e v17 ⟨rfl, ⟨hm, hy⟩, ho⟩; rw [E.out.2.2.2.2] at hy; have HV27 : Hid (Desk v17 ym (puC 40 1 8 q) 86 .done) := Lib.hid hm; have HY27 : Hid (YS v17 ab sb sm rb 40 1 8 L4 F) := Lib.hid (hy); have HO27 := Lib.hid (HO26.out.andThen ho (fun i hi e => absurd e (hiM (n := w.heap.size) (by have h := HNE.out; omega) (by have h := HNE.out; omega) (by have h := HNE.out; omega) i hi))); clear hm hy ho)
        | (go_at_call 12; with_reducible refine (pushPut HV25.out HY25.out HD8.out G.out.2.2.2.2.2.2.1.1 G.out.2.2.2.2.2.2.1.2 HPQ.out.2.1.1 HPQ.out.2.1.2).mono ?_; rintro e v16 ⟨rfl, ⟨hm, hy⟩, ho⟩; have HV26 : Hid (Push3 v16 ym 40 1 8 q K3) := Lib.hid hm; have HY26 : Hid (YS v16 ab sb sm rb 40 1 8 K3 F) := Lib.hid (hy.conv (g := F) (fun j _ _ => by rw [HF.out]; simp only [G.out.2.2.1]; split <;> rfl)); have HO26 := Lib.hid (HO25.out.andThen ho (fun i hi e => absurd e (hiM (n := w.heap.size) (by have h := HNE.out; omega) (by have h := HNE.out; omega) (by have h := HNE.out; omega) i hi))); clear hm hy ho)
        | (go_at_call 12; with_reducible refine (pushLoad HV24.out HY24.out HD8.out ).mono ?_; rintro e v15 ⟨rfl, ⟨hm, hy⟩, ho⟩; have HV25 : Hid (Push2 v15 ym 40 1 8 q K3) := Lib.hid hm; have HY25 : Hid (YS v15 ab sb sm rb 40 1 8 K3 F) := Lib.hid (hy); have HO25 := Lib.hid (HO24.out.andThen ho (fun i hi e => absurd e (hiM (n := w.heap.size) (by have h := HNE.out; omega) (by have h := HNE.out; omega) (by have h := HNE.out; omega) i hi))); clear hm hy ho)
        | (go_at_call 12; with_reducible refine (pushLost HV13.out HY13.out HD8.out G.out.2.2.2.2.2.2.2.1).mono ?_; rintro e v14 ⟨rfl, ⟨hm, hy⟩, ho⟩; have HV24 : Hid (Push1 v14 ym 40 1 8 q) := Lib.hid hm; have HY24 : Hid (YS v14 ab sb sm rb 40 1 8 K3 F) := Lib.hid (hy); have HO24 := Lib.hid (HO13.out.andThen ho (fun i hi e => absurd e (hiM (n := w.heap.size) (by have h := HNE.out; omega) (by have h := HNE.out; omega) (by have h := HNE.out; omega) i hi))); clear hm hy ho)
        | (go_at_call 11; refine (stackPushDone_yes (Blk.cell HV27.out 2)).mono ?_; rintro e u3 ⟨rfl, rfl⟩)
        | (go_at_call 11; refine (pushDone_any HV24.out (by simp)).mono ?_; rintro e u2 ⟨rfl, rfl⟩)
        | (go_at_call 14; refine (list_any HY27.out HD8.out (L := [q, p]) (by rw [G.out.2.2.2.2.1]; exact ⟨rfl, HPQ.out.2.1, by rw [G.out.2.2.2.2.2.2.2.2.2.2]; exact ⟨rfl, HPQ.out.1, by rw [G.out.2.2.2.2.2.2.2.2.2.1, G.out.2.2.2.2.2.2.2.2.1]; exact (by omega : ¬ ((0 : Int) ≤ -1 ∧ (-1 : Int) < 40))⟩⟩) (by simp)).mono ?_; rintro e v18 ⟨v, rfl, hi, ho⟩; have HI := Lib.hid hi; have HO28 := Lib.hid (HO27.out.thenF ho); have HLo := Lib.hid ho; clear ho hi)
        | (go_at_call 13; refine (sameInts_lit2 HI.out).mono ?_; rintro e v19 ⟨rfl, k19, hv19⟩; have HO29 : Hid (Adds w v19) := Lib.hid (by rw [hv19]; exact (HO28.out.alloc _).drewN k19); clear hv19)
        | (go_at_call 19; refine (awake12_any _).mono ?_; rintro e v20 ⟨rfl, ho⟩; have HO30 := Lib.hid (HO29.out.thenF ho); clear ho)
        | (go_at_call 20; refine (law12push_any HY12.out HD8.out HPQ.out.1.1 HPQ.out.1.2).mono ?_; rintro e w13 ⟨rfl, hy, ho⟩; rw [E.out.2.2.1] at hy; have HY13 : Hid (YS w13 ab sb sm rb 40 1 8 K3 F) := Lib.hid (hy.conv (g := F) (fun j _ _ => HCV.out j)); have ho' := (ho.mono (T := fun j => SB sb sm j ∨ False) (fun _ _ e => .inl e)); have HX13 := Lib.hid (HY12.out.pop3 HD8.out HX12.out (fun h => h) Aloof.none ho'); have HV13 := Lib.hid (HY12.out.push3 HD8.out HV12.out (fun h => h) Aloof.none ho'); have HO13 := Lib.hid (HO12.out.andThen ho (fun i hi e => absurd (Or.inl e) (hiM (mb := sb) (n := w.heap.size) (by have h := HNE.out; omega) (by have h := HNE.out; omega) (by have h := HNE.out; omega) i hi))); have HB13 : Hid True := Lib.hid trivial; clear hy ho ho')
        | (go_at_call 17; refine (popPage_any HZ12.out).mono ?_; rintro e u1 ⟨rfl, rfl⟩))
      all_goals
        go_ret
        first | exact ⟨rfl, HO19.out⟩ | exact ⟨rfl, HO30.out⟩

theorem stackLost_law (a : Int) (w0 : (Lit.int .u8 a).wf = true) (b : Int) (w1 : (Lit.int .u8 b).wf = true) (pop : Bool) (w : World) :
    Calls Try.prog 4 #[.int .u8 a, .int .u8 b, .bool pop] w fun e w' => e = .returned (.bool true) ∧ Below w.heap.size w w' := by
  obtain ⟨a0, a1⟩ := bd_u8 w0
  obtain ⟨b0, b1⟩ := bd_u8 w1
  by_cases c : a % 40 = b % 40
  · exact (stackLost_go (a % 40) ((a + 1) % 40) (by omega) (by omega) (by omega) _ _ _ _ _ rfl rfl rfl rfl rfl a b pop w a0 a1 b0 b1 rfl (.inr ⟨by simpa using c, rfl⟩)).mono (fun _ _ h => ⟨h.1, Adds.below' h.2⟩)
  · exact (stackLost_go (a % 40) (b % 40) (by omega) (by omega) c _ _ _ _ _ rfl rfl rfl rfl rfl a b pop w a0 a1 b0 b1 rfl (.inl ⟨by simpa using c, rfl⟩)).mono (fun _ _ h => ⟨h.1, Adds.below' h.2⟩)
end Go.Proofs.Ytbcfeaimopijfaa

/- The document's Right, of lays and gones. By an AI agent. -/
import Derived.Test.YtcikhlihgebnbaaDoorRight
import Derived.Test.YtcikhlihgebnbaaDoorRecNew
import Derived.Test.YtcikhlihgebnbaaDoorRecRead
import Derived.Deep.DeepCutAuto
import Derived.Deep.CutBlock
namespace Go.Proofs.YtcikhlihgebnbaaDoor
open Go.RowKit
theorem okGone_eq {P T pg ps : Int} (hm : Lay.may P T = true) : okGone P T pg ps = decide (0 ≤ pg ∧ 1 ≤ ps ∧ pg < P ∧ ps ≤ P - pg) := by
  unfold okGone thereB; rw [hm]; rfl
theorem okLay_eq {P T pg cl ps gn al : Int} (hm : Lay.may P T = true) : okLay P T pg cl ps gn al = decide ((0 ≤ pg ∧ 1 ≤ ps ∧ pg < P ∧ ps ≤ P - pg) ∧ (0 ≤ cl ∧ cl ≤ 14) ∧ (cl = 14 ∨ ps = clP cl) ∧ (1 ≤ gn ∧ gn ≤ 2147483648) ∧ al ≤ onesV (clS cl)) := by
  unfold okLay thereB Ph.cyc; rw [hm]
  simp only [Bool.true_and, ← Bool.decide_and, ← Bool.decide_or]
  exact decide_eq_decide.2 (by constructor <;> (intro h; simp_all))
set_option maxRecDepth 100000 in
set_option maxHeartbeats 8000000 in
theorem right_goneA (P T pg cl ps gn al : Int) (w : World) (hm : Lay.may P T = true) :
    Calls Tryd.prog 18 #[mAgg 6 P T 0 pg cl ps gn 0 0 0 al] w fun e w' => e = .returned (.bool (okGone P T pg ps)) ∧ Adds w w' := by
  obtain ⟨p1, p2, p3, p4⟩ := Lay.may_iff.1 hm
  obtain ⟨B, hB⟩ : ∃ B, B = okGone P T pg ps := ⟨_, rfl⟩
  rw [← hB]
  rw [okGone_eq hm] at hB
  have HB := Lib.hid hB
  clear hB
  go_enter Tryd.func18, Tryd.ntmps18
  go_wp2_with (go_at_call 47; refine (r6May_any P T _).mono ?_; rintro e w1 ⟨rfl, ho1⟩; rw [hm]; obtain ⟨c0, c1, c2, c3, c4, c5, c6, c7, c8, c9, c10⟩ := mCells ho1; have HO1 := Lib.hid (Adds.box ho1); clear ho1)
  all_goals (
    go_ret
    refine ⟨ret_bool ?_, HO1.out⟩
    rw [HB.out]
    first
    | exact (decide_eq_false (by omega)).symm
    | exact decide_eq_decide.2 (by rw [IntKind.wrap_i64]; omega)
    | exact decide_eq_decide.2 (by omega)
    | exact (decide_eq_true (by omega)).symm)
-- LAYS
set_option maxRecDepth 100000 in
set_option maxHeartbeats 8000000 in
theorem right_layA (P T pg cl ps gn al : Int) (w : World) (hm : Lay.may P T = true) :
    Calls Tryd.prog 18 #[mAgg 5 P T 0 pg cl ps gn 0 0 0 al] w fun e w' => e = .returned (.bool (okLay P T pg cl ps gn al)) ∧ Adds w w' := by
  obtain ⟨p1, p2, p3, p4⟩ := Lay.may_iff.1 hm
  obtain ⟨PG, hPG⟩ : ∃ PG, PG = decide (0 ≤ pg ∧ pg < P) := ⟨_, rfl⟩
  obtain ⟨PS, hPS⟩ : ∃ PS, PS = decide (0 ≤ pg ∧ 1 ≤ ps ∧ pg < P ∧ ps ≤ P - pg) := ⟨_, rfl⟩
  obtain ⟨GB, hGB⟩ : ∃ GB, GB = decide (1 ≤ gn ∧ gn ≤ 2147483648) := ⟨_, rfl⟩
  obtain ⟨CB, hCB⟩ : ∃ CB, CB = decide ((0 ≤ cl ∧ cl ≤ 14) ∧ (cl = 14 ∨ ps = clP cl)) := ⟨_, rfl⟩
  have hb := clS_bd cl
  obtain ⟨CS, hcs⟩ : ∃ CS : Nat, (CS : Int) = clS cl := ⟨(clS cl).toNat, by omega⟩
  obtain ⟨ON, hon⟩ : ∃ ON : Int, ON = 2 ^ CS - 1 := ⟨_, rfl⟩
  have ho : ON = onesV (clS cl) := by rw [hon]; unfold onesV; rw [← hcs]; rfl
  obtain ⟨B, hB⟩ : ∃ B, B = okLay P T pg cl ps gn al := ⟨_, rfl⟩
  have hB2 : B = (PS && CB && GB && decide (al ≤ ON)) := by
    rw [hB, okLay_eq hm, hPS, hCB, hGB, ho]
    simp only [← Bool.decide_and]
    exact decide_eq_decide.2 (by constructor <;> (intro h; simp_all))
  rw [← hB]
  have HPG := Lib.hid hPG; have HPS := Lib.hid hPS; have HGB := Lib.hid hGB; have HCB := Lib.hid hCB; have HBB := Lib.hid hB2; have HCS := Lib.hid hcs; have HON := Lib.hid hon; have HB64 : Hid (CS ≤ 64) := Lib.hid (by omega)
  clear hPG hPS hGB hCB hB2 hB hcs hon ho hb
  go_enter Tryd.func18, Tryd.ntmps18
  go_upto_region 4 with (go_at_call 47; refine (r6May_any P T _).mono ?_; rintro e w1 ⟨rfl, ho1⟩; rw [hm]; obtain ⟨c0, c1, c2, c3, c4, c5, c6, c7, c8, c9, c10⟩ := mCells ho1; have c11 : w1.cell? ⟨w.heap.size, 11, none⟩ = some (.int .u64 al) := ((Blk.new w _ _).only ho1 id).cell 11; have HO1 := Lib.hid (Adds.box ho1); clear ho1)
  go_cut [4] (fun a wx => a = .bool PG ∧ wx = w1)
  case first => as_aux_lemma =>
    go_wp2_with fail
    all_goals (
      go_meet
      refine ⟨?_, rfl⟩
      rw [HPG.out]
      first
      | exact congrArg Value.bool (decide_eq_false (by omega)).symm
      | exact congrArg Value.bool (decide_eq_decide.2 (by omega))
      | exact congrArg Value.bool (decide_eq_true (by omega)).symm)
  case rest =>
    obtain ⟨rfl, rfl⟩ := hcut
    go_upto_region 5 with fail
    go_cut [5] (fun a wx => a = .bool PS ∧ wx = wc)
    case first => as_aux_lemma =>
      have hPG := HPG.out
      cases PG
      · have h1 := of_decide_eq_false hPG.symm
        clear hPG HPG
        go_wp2_with fail
        all_goals (
          go_meet
          exact ⟨by rw [HPS.out]; exact congrArg Value.bool (decide_eq_false (by omega)).symm, rfl⟩)
      · have h1 := of_decide_eq_true hPG.symm
        obtain ⟨a1, a2⟩ := h1
        have e1 : IntKind.i64.wrap (P - pg) = P - pg := by rw [IntKind.wrap_i64]; omega
        clear hPG HPG
        go_wp2_with fail
        all_goals (
          go_meet
          refine ⟨?_, rfl⟩
          rw [HPS.out]
          first
          | exact congrArg Value.bool (decide_eq_false (by omega)).symm
          | exact congrArg Value.bool (decide_eq_decide.2 (by omega))
          | exact congrArg Value.bool (decide_eq_true (by omega)).symm)
    case rest =>
      obtain ⟨rfl, rfl⟩ := hcut
      clear HPG
      go_upto_region 6 with fail
      go_cut [6] (fun a wx => a = .bool GB ∧ wx = wc)
      case first => as_aux_lemma =>
        go_wp2_with fail
        all_goals (
          go_meet
          refine ⟨?_, rfl⟩
          rw [HGB.out]
          first
          | exact congrArg Value.bool (decide_eq_false (by omega)).symm
          | exact congrArg Value.bool (decide_eq_decide.2 (by omega))
          | exact congrArg Value.bool (decide_eq_true (by omega)).symm)
      case rest =>
        obtain ⟨rfl, rfl⟩ := hcut
        go_upto_region 18 with fail
        go_cut [8] (fun a wx => a = .bool CB ∧ Adds wc wx)
        case first => as_aux_lemma =>
          have hcc : cl < 0 ∨ 14 < cl ∨ cl = 14 ∨ (0 ≤ cl ∧ cl < 14) := by omega
          have hCB := HCB.out
          clear HCB
          rcases hcc with h | h | h | h
          · have e : CB = false := by rw [hCB]; exact decide_eq_false (by omega)
            have t1 : decide (0 ≤ cl) = false := decide_eq_false (by omega)
            have t1' : ¬ 0 ≤ cl := by omega
            clear hCB
            subst e
            go_wp2_with fail
            go_quiet ((fail))
            go_wp2_with fail
            all_goals (
              go_meet
              exact ⟨rfl, (Only.refl _ _).drewN _⟩)
          · have e : CB = false := by rw [hCB]; exact decide_eq_false (by omega)
            have h2 : 0 ≤ cl := by omega
            have t1 : decide (0 ≤ cl) = true := decide_eq_true (by omega)
            have t2 : decide (cl ≤ 14) = false := decide_eq_false (by omega)
            have t2' : ¬ cl ≤ 14 := by omega
            clear hCB
            subst e
            go_wp2_with fail
            go_quiet ((fail))
            go_wp2_with fail
            all_goals (
              go_meet
              exact ⟨rfl, (Only.refl _ _).drewN _⟩)
          · have e : CB = true := by rw [hCB]; exact decide_eq_true (by omega)
            clear hCB
            subst e
            subst h
            go_wp2_with fail
            go_quiet ((fail))
            go_wp2_with fail
            all_goals (
              go_meet
              exact ⟨rfl, (Only.refl _ _).drewN _⟩)
          · obtain ⟨CP, hcp⟩ : ∃ CP, CP = clP cl := ⟨_, rfl⟩
            have e : CB = decide (ps = CP) := by rw [hCB, hcp]; exact decide_eq_decide.2 (by omega)
            have HCP := Lib.hid hcp; have HE := Lib.hid e
            obtain ⟨h1, h2⟩ := h
            have h3 : ¬ cl = 14 := by omega
            have h4 : cl ≤ 14 := by omega
            have t1 : decide (0 ≤ cl) = true := decide_eq_true (by omega)
            have t2 : decide (cl ≤ 14) = true := decide_eq_true (by omega)
            have t3 : decide (cl = 14) = false := decide_eq_false (by omega)
            have t4 : (cl == 14) = false := by simpa using h3
            clear hCB e hcp
            go_wp2_with fail
            go_region_held3 (fun W => W.cell? ⟨w.heap.size, 5, none⟩ = some (.int .i64 cl) ∧ W.cell? ⟨w.heap.size, 6, none⟩ = some (.int .i64 ps) ∧ W.cell? ⟨w.heap.size, 11, none⟩ = some (.int .u64 al) ∧ W.cell? ⟨w.heap.size, 5, none⟩ = some (.int .i64 cl) ∧ Adds wc W)
              (first | assumption | (exact ⟨c5, c6, c11, c5, (Only.refl _ _).drew⟩) | (exact held4 (by assumption) (by first | assumption | exact Only.refl _ _)))
              (first | (go_at_call 26; refine (r1Pages_any cl _ (by omega) (by omega)).mono ?_; rintro e w2 ⟨rfl, ho2⟩; rw [← HCP.out]))
            all_goals (
              rename_i hH
              go_wp2_with fail
              go_meet
              exact ⟨congrArg Value.bool (by first | (rw [HE.out]; done) | (rw [HE.out]; rfl) | (rw [HE.out]; exact decide_eq_decide.2 (by omega)) | (rw [HE.out]; simp)), hH.2.2.2.2⟩)
        case rest =>
          obtain ⟨rfl, ho⟩ := hcut
          have d5 := (ho.cellF (p := ⟨w.heap.size, 5, none⟩) (cell_lt c5) id).trans c5
          have d11 := (ho.cellF (p := ⟨w.heap.size, 11, none⟩) (cell_lt c11) id).trans c11
          have HW := Lib.hid (HO1.out.thenF ho)
          clear c0 c1 c2 c3 c4 c5 c6 c7 c8 c9 c10 c11 ho HPS HGB
          cases PS
          · clear HCB
            have e : B = false := by rw [HBB.out]; rfl
            subst e
            clear HBB
            go_wp2_with fail
            go_quiet ((fail))
            go_wp2_with fail
            all_goals (
              go_ret
              exact ⟨rfl, HW.out.drewN _⟩)
          · cases CB
            · clear HCB
              have e : B = false := by rw [HBB.out]; rfl
              subst e
              clear HBB
              go_wp2_with fail
              go_quiet ((fail))
              go_wp2_with fail
              all_goals (
                go_ret
                exact ⟨rfl, HW.out.drewN _⟩)
            · cases GB
              · clear HCB
                have e : B = false := by rw [HBB.out]; rfl
                subst e
                clear HBB
                go_wp2_with fail
                go_quiet ((fail))
                go_wp2_with fail
                all_goals (
                  go_ret
                  exact ⟨rfl, HW.out.drewN _⟩)
              · have hc := (of_decide_eq_true HCB.out.symm).1
                have e : B = decide (al ≤ ON) := by rw [HBB.out]; simp
                have HE := Lib.hid e
                clear HBB HCB e
                go_wp2_with fail
                go_region_held3 (fun W => W.cell? ⟨w.heap.size, 5, none⟩ = some (.int .i64 cl) ∧ W.cell? ⟨w.heap.size, 11, none⟩ = some (.int .u64 al) ∧ W.cell? ⟨w.heap.size, 5, none⟩ = some (.int .i64 cl) ∧ W.cell? ⟨w.heap.size, 11, none⟩ = some (.int .u64 al) ∧ Adds w W)
                  (first | assumption | (exact ⟨d5, d11, d5, d11, HW.out.drew⟩) | (exact held4 (by assumption) (by first | assumption | exact Only.refl _ _)))
                  (first
                  | (go_at_call 28; refine (r1Slots_any cl _ hc.1 (by omega)).mono ?_; rintro e w3 ⟨rfl, ho3⟩; rw [← HCS.out])
                  | (go_at_call 27; refine (r1Ones_any CS _ HB64.out).mono ?_; rintro e w4 ⟨rfl, rfl⟩; rw [← HON.out]))
                all_goals (
                  rename_i hH
                  go_wp2_with fail
                  go_ret
                  exact ⟨by rw [HE.out]; first | rfl | simp, hH.2.2.2.2⟩)
theorem right_layP (P T pg cl ps gn al : Int) (w : World) : Calls Tryd.prog 18 #[mAgg 5 P T 0 pg cl ps gn 0 0 0 al] w fun e w' => e = .returned (.bool (okLay P T pg cl ps gn al)) ∧ Adds w w' := by
  cases hm : Lay.may P T
  · rw [show okLay P T pg cl ps gn al = false by simp [okLay, hm]]; exact right_no 5 P T 0 pg cl ps gn 0 0 0 al w hm
  · exact right_layA P T pg cl ps gn al w hm
theorem right_goneP (P T pg cl ps gn al : Int) (w : World) : Calls Tryd.prog 18 #[mAgg 6 P T 0 pg cl ps gn 0 0 0 al] w fun e w' => e = .returned (.bool (okGone P T pg ps)) ∧ Adds w w' := by
  cases hm : Lay.may P T
  · rw [show okGone P T pg ps = false by simp [okGone, hm]]; exact right_no 6 P T 0 pg cl ps gn 0 0 0 al w hm
  · exact right_goneA P T pg cl ps gn al w hm
end Go.Proofs.YtcikhlihgebnbaaDoor

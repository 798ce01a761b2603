/- Package record: NewLay, NewGone, whatever they are given. By an AI agent. -/
import Derived.Test.YtbepbcjklgfmjaaGreatDoorZRecord2
import Derived.Test.YtbepbcjklgfmjaaGreatDoorZRecTab
import Derived.Test.YtbepbcjklgfmjaaGreatDoorZA
namespace Go.Proofs.YtbepbcjklgfmjaaGreatDoor
open Go.RowKit
set_option linter.unusedSimpArgs false
set_option linter.unusedVariables false
def thereB (P pg ps : Int) : Bool := decide (0 ≤ pg ∧ 1 ≤ ps ∧ pg < P ∧ ps ≤ P - pg)
set_option maxHeartbeats 1000000 in
theorem there_any (P T pg ps : Int) (w : World) (h0 : 1 ≤ P) (h1 : P ≤ 4096) : Calls Tryz.prog 69 #[.agg #[.int .i64 P, .int .i64 T], .int .i64 pg, .int .i64 ps] w fun e w' => e = .returned (.bool (thereB P pg ps)) ∧ Adds w w' := by
  unfold thereB
  by_cases a1 : 0 ≤ pg
  · by_cases a2 : 1 ≤ ps
    · by_cases a3 : pg < P
      · have e1 : IntKind.i64.wrap (P - pg) = P - pg := by rw [IntKind.wrap_i64]; omega
        by_cases a4 : ps ≤ P - pg
        · rw [decide_eq_true ⟨a1, a2, a3, a4⟩]
          go_enter Tryz.func69, Tryz.ntmps69
          go_wp2
          go_ret
          exact ⟨by first | rfl | simp [*], (Only.refl _ _).alloc _⟩
        · rw [decide_eq_false (show ¬ (0 ≤ pg ∧ 1 ≤ ps ∧ pg < P ∧ ps ≤ P - pg) by omega)]
          go_enter Tryz.func69, Tryz.ntmps69
          go_wp2
          go_ret
          exact ⟨by first | rfl | (simp; omega), (Only.refl _ _).alloc _⟩
      · rw [decide_eq_false (show ¬ (0 ≤ pg ∧ 1 ≤ ps ∧ pg < P ∧ ps ≤ P - pg) by omega)]
        go_enter Tryz.func69, Tryz.ntmps69
        go_wp2
        go_ret
        exact ⟨by first | rfl | (simp; omega), (Only.refl _ _).alloc _⟩
    · rw [decide_eq_false (show ¬ (0 ≤ pg ∧ 1 ≤ ps ∧ pg < P ∧ ps ≤ P - pg) by omega)]
      go_enter Tryz.func69, Tryz.ntmps69
      go_wp2
      go_ret
      exact ⟨by first | rfl | (simp; omega), (Only.refl _ _).alloc _⟩
  · rw [decide_eq_false (show ¬ (0 ≤ pg ∧ 1 ≤ ps ∧ pg < P ∧ ps ≤ P - pg) by omega)]
    go_enter Tryz.func69, Tryz.ntmps69
    go_wp2
    go_ret
    exact ⟨by first | rfl | (simp; omega), (Only.refl _ _).alloc _⟩
def okLay (P T pg cl ps gn al : Int) : Bool := Lay.may P T && thereB P pg ps && decide (0 ≤ cl ∧ cl ≤ 14) && (decide (cl = 14) || decide (ps = clP cl)) && Ph.cyc gn && decide (al ≤ onesV (clS cl))
def okGone (P T pg ps : Int) : Bool := Lay.may P T && thereB P pg ps
theorem Ph.ok2' (g : Int) : Ph.okB g 2 = Ph.cyc g := by unfold Ph.okB Ph.cyc; simp
section
variable (P T pg cl ps gn al : Int) (w : World)

set_option maxRecDepth 100000 in
set_option maxHeartbeats 4000000 in
theorem newLay_noGen (hT : Tab w) (hg : Ph.cyc gn = false) : Calls Tryz.prog 36 #[.agg #[.int .i64 P, .int .i64 T], .int .i64 pg, .int .i64 cl, .int .i64 ps, .int .i64 gn, .int .u64 al] w fun e w' => e = .returned (.pointer none) ∧ Adds w w' := by
  obtain ⟨K, hK⟩ : ∃ K, K = Ph.mk gn 2 := ⟨_, rfl⟩
  have HK := Lib.hid hK; have HT := Lib.hid hT
  obtain ⟨CP, hcp⟩ : ∃ CP, CP = clP cl := ⟨_, rfl⟩
  obtain ⟨CS, hcs⟩ : ∃ CS, CS = clS cl := ⟨_, rfl⟩
  have hcsb := clS_bd cl
  rw [← hcs] at hcsb
  obtain ⟨ON, hon⟩ : ∃ ON : Int, ON = 2 ^ CS.toNat - 1 := ⟨_, rfl⟩
  have hCP := Lib.hid hcp; have hCS := Lib.hid hcs; have hCSb := Lib.hid hcsb; have hON := Lib.hid hon
  have hok : Hid (Ph.okB gn 2 = false) := Lib.hid (by rw [Ph.ok2']; exact hg)
  clear hg hK hcp hcs hcsb hon hT
  go_enter Tryz.func36, Tryz.ntmps36
  go_wp2_with (first
    | (go_at_call 68; refine (phMake_any gn 2 _ (by omega) (by omega)).mono ?_; rintro e w0 ⟨rfl, rfl⟩; rw [hok.out, ← HK.out])
    | (go_at_call 53; refine (layMay_any P T _).mono ?_; rintro e w1 ⟨rfl, ho1⟩; rw [hmay.out]; obtain ⟨x0, x1, ho2⟩ := box2_cells ho1; have HO2 := Lib.hid ho2; clear ho1 ho2)
    | (go_at_call 69; refine (there_any P T pg ps _ hP.out.1 hP.out.2).mono ?_; rintro e w2 ⟨rfl, ho3⟩; rw [hth.out]; have x0' := (ho3.cellF (p := ⟨w.heap.size, 0, none⟩) (cell_lt x0) id).trans x0; have x1' := (ho3.cellF (p := ⟨w.heap.size, 1, none⟩) (cell_lt x0) id).trans x1; have HO3 := Lib.hid (HO2.out.thenF ho3); have HT3 := Lib.hid (HT.out.adds HO3.out); clear ho3)
    | (go_at_call 70; refine (classPages_any cl _ HT3.out).mono ?_; rintro e w3 ⟨rfl, rfl⟩; rw [← hCP.out])
    | (go_at_call 72; refine (classSlots_any cl _ HT3.out).mono ?_; rintro e w4 ⟨rfl, n4, rfl⟩; rw [← hCS.out])
    | (go_at_call 71; refine (ones_any CS _ hCSb.out.1 hCSb.out.2).mono ?_; rintro e w5 ⟨rfl, rfl⟩; rw [← hON.out]))
  go_ret
  exact ⟨rfl, (Only.refl _ _).alloc _⟩
set_option maxRecDepth 100000 in
set_option maxHeartbeats 4000000 in
theorem newLay_noMay (hT : Tab w) (hg : Ph.cyc gn = true) (hm : Lay.may P T = false) : Calls Tryz.prog 36 #[.agg #[.int .i64 P, .int .i64 T], .int .i64 pg, .int .i64 cl, .int .i64 ps, .int .i64 gn, .int .u64 al] w fun e w' => e = .returned (.pointer none) ∧ Adds w w' := by
  obtain ⟨K, hK⟩ : ∃ K, K = Ph.mk gn 2 := ⟨_, rfl⟩
  have HK := Lib.hid hK; have HT := Lib.hid hT
  obtain ⟨CP, hcp⟩ : ∃ CP, CP = clP cl := ⟨_, rfl⟩
  obtain ⟨CS, hcs⟩ : ∃ CS, CS = clS cl := ⟨_, rfl⟩
  have hcsb := clS_bd cl
  rw [← hcs] at hcsb
  obtain ⟨ON, hon⟩ : ∃ ON : Int, ON = 2 ^ CS.toNat - 1 := ⟨_, rfl⟩
  have hCP := Lib.hid hcp; have hCS := Lib.hid hcs; have hCSb := Lib.hid hcsb; have hON := Lib.hid hon
  have hok : Hid (Ph.okB gn 2 = true) := Lib.hid (by rw [Ph.ok2']; exact hg)
  have hmay : Hid (Lay.may P T = false) := Lib.hid hm
  clear hg hm hK hcp hcs hcsb hon hT
  go_enter Tryz.func36, Tryz.ntmps36
  go_wp2_with (first
    | (go_at_call 68; refine (phMake_any gn 2 _ (by omega) (by omega)).mono ?_; rintro e w0 ⟨rfl, rfl⟩; rw [hok.out, ← HK.out])
    | (go_at_call 53; refine (layMay_any P T _).mono ?_; rintro e w1 ⟨rfl, ho1⟩; rw [hmay.out]; obtain ⟨x0, x1, ho2⟩ := box2_cells ho1; have HO2 := Lib.hid ho2; clear ho1 ho2)
    | (go_at_call 69; refine (there_any P T pg ps _ hP.out.1 hP.out.2).mono ?_; rintro e w2 ⟨rfl, ho3⟩; rw [hth.out]; have x0' := (ho3.cellF (p := ⟨w.heap.size, 0, none⟩) (cell_lt x0) id).trans x0; have x1' := (ho3.cellF (p := ⟨w.heap.size, 1, none⟩) (cell_lt x0) id).trans x1; have HO3 := Lib.hid (HO2.out.thenF ho3); have HT3 := Lib.hid (HT.out.adds HO3.out); clear ho3)
    | (go_at_call 70; refine (classPages_any cl _ HT3.out).mono ?_; rintro e w3 ⟨rfl, rfl⟩; rw [← hCP.out])
    | (go_at_call 72; refine (classSlots_any cl _ HT3.out).mono ?_; rintro e w4 ⟨rfl, n4, rfl⟩; rw [← hCS.out])
    | (go_at_call 71; refine (ones_any CS _ hCSb.out.1 hCSb.out.2).mono ?_; rintro e w5 ⟨rfl, rfl⟩; rw [← hON.out]))
  go_ret
  exact ⟨rfl, HO2.out⟩
set_option maxRecDepth 100000 in
set_option maxHeartbeats 4000000 in
theorem newLay_noThere (hT : Tab w) (hg : Ph.cyc gn = true) (hm : Lay.may P T = true) (hh : thereB P pg ps = false) : Calls Tryz.prog 36 #[.agg #[.int .i64 P, .int .i64 T], .int .i64 pg, .int .i64 cl, .int .i64 ps, .int .i64 gn, .int .u64 al] w fun e w' => e = .returned (.pointer none) ∧ Adds w w' := by
  obtain ⟨K, hK⟩ : ∃ K, K = Ph.mk gn 2 := ⟨_, rfl⟩
  have HK := Lib.hid hK; have HT := Lib.hid hT
  obtain ⟨CP, hcp⟩ : ∃ CP, CP = clP cl := ⟨_, rfl⟩
  obtain ⟨CS, hcs⟩ : ∃ CS, CS = clS cl := ⟨_, rfl⟩
  have hcsb := clS_bd cl
  rw [← hcs] at hcsb
  obtain ⟨ON, hon⟩ : ∃ ON : Int, ON = 2 ^ CS.toNat - 1 := ⟨_, rfl⟩
  have hCP := Lib.hid hcp; have hCS := Lib.hid hcs; have hCSb := Lib.hid hcsb; have hON := Lib.hid hon
  have hok : Hid (Ph.okB gn 2 = true) := Lib.hid (by rw [Ph.ok2']; exact hg)
  have hmay : Hid (Lay.may P T = true) := Lib.hid hm
  have hP : Hid (1 ≤ P ∧ P ≤ 4096) := Lib.hid (by have := Lay.may_iff.1 hm; omega)
  have hth : Hid (thereB P pg ps = false) := Lib.hid hh
  clear hg hm hh hK hcp hcs hcsb hon hT
  go_enter Tryz.func36, Tryz.ntmps36
  go_wp2_with (first
    | (go_at_call 68; refine (phMake_any gn 2 _ (by omega) (by omega)).mono ?_; rintro e w0 ⟨rfl, rfl⟩; rw [hok.out, ← HK.out])
    | (go_at_call 53; refine (layMay_any P T _).mono ?_; rintro e w1 ⟨rfl, ho1⟩; rw [hmay.out]; obtain ⟨x0, x1, ho2⟩ := box2_cells ho1; have HO2 := Lib.hid ho2; clear ho1 ho2)
    | (go_at_call 69; refine (there_any P T pg ps _ hP.out.1 hP.out.2).mono ?_; rintro e w2 ⟨rfl, ho3⟩; rw [hth.out]; have x0' := (ho3.cellF (p := ⟨w.heap.size, 0, none⟩) (cell_lt x0) id).trans x0; have x1' := (ho3.cellF (p := ⟨w.heap.size, 1, none⟩) (cell_lt x0) id).trans x1; have HO3 := Lib.hid (HO2.out.thenF ho3); have HT3 := Lib.hid (HT.out.adds HO3.out); clear ho3)
    | (go_at_call 70; refine (classPages_any cl _ HT3.out).mono ?_; rintro e w3 ⟨rfl, rfl⟩; rw [← hCP.out])
    | (go_at_call 72; refine (classSlots_any cl _ HT3.out).mono ?_; rintro e w4 ⟨rfl, n4, rfl⟩; rw [← hCS.out])
    | (go_at_call 71; refine (ones_any CS _ hCSb.out.1 hCSb.out.2).mono ?_; rintro e w5 ⟨rfl, rfl⟩; rw [← hON.out]))
  go_ret
  exact ⟨rfl, HO3.out⟩
set_option maxRecDepth 100000 in
set_option maxHeartbeats 4000000 in
theorem newLay_noClass1 (hT : Tab w) (hg : Ph.cyc gn = true) (hm : Lay.may P T = true) (hh : thereB P pg ps = true) (c0 : cl < 0) : Calls Tryz.prog 36 #[.agg #[.int .i64 P, .int .i64 T], .int .i64 pg, .int .i64 cl, .int .i64 ps, .int .i64 gn, .int .u64 al] w fun e w' => e = .returned (.pointer none) ∧ Adds w w' := by
  obtain ⟨K, hK⟩ : ∃ K, K = Ph.mk gn 2 := ⟨_, rfl⟩
  have HK := Lib.hid hK; have HT := Lib.hid hT
  obtain ⟨CP, hcp⟩ : ∃ CP, CP = clP cl := ⟨_, rfl⟩
  obtain ⟨CS, hcs⟩ : ∃ CS, CS = clS cl := ⟨_, rfl⟩
  have hcsb := clS_bd cl
  rw [← hcs] at hcsb
  obtain ⟨ON, hon⟩ : ∃ ON : Int, ON = 2 ^ CS.toNat - 1 := ⟨_, rfl⟩
  have hCP := Lib.hid hcp; have hCS := Lib.hid hcs; have hCSb := Lib.hid hcsb; have hON := Lib.hid hon
  have hok : Hid (Ph.okB gn 2 = true) := Lib.hid (by rw [Ph.ok2']; exact hg)
  have hmay : Hid (Lay.may P T = true) := Lib.hid hm
  have hP : Hid (1 ≤ P ∧ P ≤ 4096) := Lib.hid (by have := Lay.may_iff.1 hm; omega)
  have hth : Hid (thereB P pg ps = true) := Lib.hid hh
  clear hg hm hh hK hcs hcsb hT
  clear hcp hon
  go_enter Tryz.func36, Tryz.ntmps36
  go_wp2_with (first
    | (go_at_call 68; refine (phMake_any gn 2 _ (by omega) (by omega)).mono ?_; rintro e w0 ⟨rfl, rfl⟩; rw [hok.out, ← HK.out])
    | (go_at_call 53; refine (layMay_any P T _).mono ?_; rintro e w1 ⟨rfl, ho1⟩; rw [hmay.out]; obtain ⟨x0, x1, ho2⟩ := box2_cells ho1; have HO2 := Lib.hid ho2; clear ho1 ho2)
    | (go_at_call 69; refine (there_any P T pg ps _ hP.out.1 hP.out.2).mono ?_; rintro e w2 ⟨rfl, ho3⟩; rw [hth.out]; have x0' := (ho3.cellF (p := ⟨w.heap.size, 0, none⟩) (cell_lt x0) id).trans x0; have x1' := (ho3.cellF (p := ⟨w.heap.size, 1, none⟩) (cell_lt x0) id).trans x1; have HO3 := Lib.hid (HO2.out.thenF ho3); have HT3 := Lib.hid (HT.out.adds HO3.out); clear ho3)
    | (go_at_call 70; refine (classPages_any cl _ HT3.out).mono ?_; rintro e w3 ⟨rfl, rfl⟩; rw [← hCP.out])
    | (go_at_call 72; refine (classSlots_any cl _ HT3.out).mono ?_; rintro e w4 ⟨rfl, n4, rfl⟩; rw [← hCS.out])
    | (go_at_call 71; refine (ones_any CS _ hCSb.out.1 hCSb.out.2).mono ?_; rintro e w5 ⟨rfl, rfl⟩; rw [← hON.out]))
  go_ret
  exact ⟨rfl, HO3.out⟩
set_option maxRecDepth 100000 in
set_option maxHeartbeats 4000000 in
theorem newLay_noClass2 (hT : Tab w) (hg : Ph.cyc gn = true) (hm : Lay.may P T = true) (hh : thereB P pg ps = true) (c0 : 14 < cl) : Calls Tryz.prog 36 #[.agg #[.int .i64 P, .int .i64 T], .int .i64 pg, .int .i64 cl, .int .i64 ps, .int .i64 gn, .int .u64 al] w fun e w' => e = .returned (.pointer none) ∧ Adds w w' := by
  obtain ⟨K, hK⟩ : ∃ K, K = Ph.mk gn 2 := ⟨_, rfl⟩
  have HK := Lib.hid hK; have HT := Lib.hid hT
  obtain ⟨CP, hcp⟩ : ∃ CP, CP = clP cl := ⟨_, rfl⟩
  obtain ⟨CS, hcs⟩ : ∃ CS, CS = clS cl := ⟨_, rfl⟩
  have hcsb := clS_bd cl
  rw [← hcs] at hcsb
  obtain ⟨ON, hon⟩ : ∃ ON : Int, ON = 2 ^ CS.toNat - 1 := ⟨_, rfl⟩
  have hCP := Lib.hid hcp; have hCS := Lib.hid hcs; have hCSb := Lib.hid hcsb; have hON := Lib.hid hon
  have hok : Hid (Ph.okB gn 2 = true) := Lib.hid (by rw [Ph.ok2']; exact hg)
  have hmay : Hid (Lay.may P T = true) := Lib.hid hm
  have hP : Hid (1 ≤ P ∧ P ≤ 4096) := Lib.hid (by have := Lay.may_iff.1 hm; omega)
  have hth : Hid (thereB P pg ps = true) := Lib.hid hh
  clear hg hm hh hK hcs hcsb hT
  clear hcp hon
  go_enter Tryz.func36, Tryz.ntmps36
  go_wp2_with (first
    | (go_at_call 68; refine (phMake_any gn 2 _ (by omega) (by omega)).mono ?_; rintro e w0 ⟨rfl, rfl⟩; rw [hok.out, ← HK.out])
    | (go_at_call 53; refine (layMay_any P T _).mono ?_; rintro e w1 ⟨rfl, ho1⟩; rw [hmay.out]; obtain ⟨x0, x1, ho2⟩ := box2_cells ho1; have HO2 := Lib.hid ho2; clear ho1 ho2)
    | (go_at_call 69; refine (there_any P T pg ps _ hP.out.1 hP.out.2).mono ?_; rintro e w2 ⟨rfl, ho3⟩; rw [hth.out]; have x0' := (ho3.cellF (p := ⟨w.heap.size, 0, none⟩) (cell_lt x0) id).trans x0; have x1' := (ho3.cellF (p := ⟨w.heap.size, 1, none⟩) (cell_lt x0) id).trans x1; have HO3 := Lib.hid (HO2.out.thenF ho3); have HT3 := Lib.hid (HT.out.adds HO3.out); clear ho3)
    | (go_at_call 70; refine (classPages_any cl _ HT3.out).mono ?_; rintro e w3 ⟨rfl, rfl⟩; rw [← hCP.out])
    | (go_at_call 72; refine (classSlots_any cl _ HT3.out).mono ?_; rintro e w4 ⟨rfl, n4, rfl⟩; rw [← hCS.out])
    | (go_at_call 71; refine (ones_any CS _ hCSb.out.1 hCSb.out.2).mono ?_; rintro e w5 ⟨rfl, rfl⟩; rw [← hON.out]))
  go_ret
  exact ⟨rfl, HO3.out⟩
set_option maxRecDepth 100000 in
set_option maxHeartbeats 4000000 in
theorem newLay_noPages (hT : Tab w) (hg : Ph.cyc gn = true) (hm : Lay.may P T = true) (hh : thereB P pg ps = true) (c0 : 0 ≤ cl) (c1 : cl < 14) (hne : ps ≠ clP cl) : Calls Tryz.prog 36 #[.agg #[.int .i64 P, .int .i64 T], .int .i64 pg, .int .i64 cl, .int .i64 ps, .int .i64 gn, .int .u64 al] w fun e w' => e = .returned (.pointer none) ∧ Adds w w' := by
  obtain ⟨K, hK⟩ : ∃ K, K = Ph.mk gn 2 := ⟨_, rfl⟩
  have HK := Lib.hid hK; have HT := Lib.hid hT
  obtain ⟨CP, hcp⟩ : ∃ CP, CP = clP cl := ⟨_, rfl⟩
  obtain ⟨CS, hcs⟩ : ∃ CS, CS = clS cl := ⟨_, rfl⟩
  have hcsb := clS_bd cl
  rw [← hcs] at hcsb
  obtain ⟨ON, hon⟩ : ∃ ON : Int, ON = 2 ^ CS.toNat - 1 := ⟨_, rfl⟩
  have hCP := Lib.hid hcp; have hCS := Lib.hid hcs; have hCSb := Lib.hid hcsb; have hON := Lib.hid hon
  have hok : Hid (Ph.okB gn 2 = true) := Lib.hid (by rw [Ph.ok2']; exact hg)
  have hmay : Hid (Lay.may P T = true) := Lib.hid hm
  have hP : Hid (1 ≤ P ∧ P ≤ 4096) := Lib.hid (by have := Lay.may_iff.1 hm; omega)
  have hth : Hid (thereB P pg ps = true) := Lib.hid hh
  have hne2 : ¬ ps = CP := by rw [hcp]; exact hne
  clear hg hm hh hK hcs hcsb hT
  clear hcp hon hne
  go_enter Tryz.func36, Tryz.ntmps36
  go_wp2_with (first
    | (go_at_call 68; refine (phMake_any gn 2 _ (by omega) (by omega)).mono ?_; rintro e w0 ⟨rfl, rfl⟩; rw [hok.out, ← HK.out])
    | (go_at_call 53; refine (layMay_any P T _).mono ?_; rintro e w1 ⟨rfl, ho1⟩; rw [hmay.out]; obtain ⟨x0, x1, ho2⟩ := box2_cells ho1; have HO2 := Lib.hid ho2; clear ho1 ho2)
    | (go_at_call 69; refine (there_any P T pg ps _ hP.out.1 hP.out.2).mono ?_; rintro e w2 ⟨rfl, ho3⟩; rw [hth.out]; have x0' := (ho3.cellF (p := ⟨w.heap.size, 0, none⟩) (cell_lt x0) id).trans x0; have x1' := (ho3.cellF (p := ⟨w.heap.size, 1, none⟩) (cell_lt x0) id).trans x1; have HO3 := Lib.hid (HO2.out.thenF ho3); have HT3 := Lib.hid (HT.out.adds HO3.out); clear ho3)
    | (go_at_call 70; refine (classPages_any cl _ HT3.out).mono ?_; rintro e w3 ⟨rfl, rfl⟩; rw [← hCP.out])
    | (go_at_call 72; refine (classSlots_any cl _ HT3.out).mono ?_; rintro e w4 ⟨rfl, n4, rfl⟩; rw [← hCS.out])
    | (go_at_call 71; refine (ones_any CS _ hCSb.out.1 hCSb.out.2).mono ?_; rintro e w5 ⟨rfl, rfl⟩; rw [← hON.out]))
  go_ret
  exact ⟨rfl, HO3.out⟩
set_option maxRecDepth 100000 in
set_option maxHeartbeats 4000000 in
theorem newLay_noBits (hT : Tab w) (hg : Ph.cyc gn = true) (hm : Lay.may P T = true) (hh : thereB P pg ps = true) (c0 : 0 ≤ cl) (c1 : cl < 14) (he : ps = clP cl) (hb : onesV (clS cl) < al) : Calls Tryz.prog 36 #[.agg #[.int .i64 P, .int .i64 T], .int .i64 pg, .int .i64 cl, .int .i64 ps, .int .i64 gn, .int .u64 al] w fun e w' => e = .returned (.pointer none) ∧ Adds w w' := by
  obtain ⟨K, hK⟩ : ∃ K, K = Ph.mk gn 2 := ⟨_, rfl⟩
  have HK := Lib.hid hK; have HT := Lib.hid hT
  have hcp : ps = clP cl := he
  obtain ⟨CS, hcs⟩ : ∃ CS, CS = clS cl := ⟨_, rfl⟩
  have hcsb := clS_bd cl
  rw [← hcs] at hcsb
  obtain ⟨ON, hon⟩ : ∃ ON : Int, ON = 2 ^ CS.toNat - 1 := ⟨_, rfl⟩
  have hCP := Lib.hid hcp; have hCS := Lib.hid hcs; have hCSb := Lib.hid hcsb; have hON := Lib.hid hon
  have hok : Hid (Ph.okB gn 2 = true) := Lib.hid (by rw [Ph.ok2']; exact hg)
  have hmay : Hid (Lay.may P T = true) := Lib.hid hm
  have hP : Hid (1 ≤ P ∧ P ≤ 4096) := Lib.hid (by have := Lay.may_iff.1 hm; omega)
  have hth : Hid (thereB P pg ps = true) := Lib.hid hh
  have hb2 : ON < al := by rw [hon, hcs]; exact hb
  clear hg hm hh hK hcs hcsb hT
  clear hcp hon he hb
  go_enter Tryz.func36, Tryz.ntmps36
  go_wp2_with (first
    | (go_at_call 68; refine (phMake_any gn 2 _ (by omega) (by omega)).mono ?_; rintro e w0 ⟨rfl, rfl⟩; rw [hok.out, ← HK.out])
    | (go_at_call 53; refine (layMay_any P T _).mono ?_; rintro e w1 ⟨rfl, ho1⟩; rw [hmay.out]; obtain ⟨x0, x1, ho2⟩ := box2_cells ho1; have HO2 := Lib.hid ho2; clear ho1 ho2)
    | (go_at_call 69; refine (there_any P T pg ps _ hP.out.1 hP.out.2).mono ?_; rintro e w2 ⟨rfl, ho3⟩; rw [hth.out]; have x0' := (ho3.cellF (p := ⟨w.heap.size, 0, none⟩) (cell_lt x0) id).trans x0; have x1' := (ho3.cellF (p := ⟨w.heap.size, 1, none⟩) (cell_lt x0) id).trans x1; have HO3 := Lib.hid (HO2.out.thenF ho3); have HT3 := Lib.hid (HT.out.adds HO3.out); clear ho3)
    | (go_at_call 70; refine (classPages_any cl _ HT3.out).mono ?_; rintro e w3 ⟨rfl, rfl⟩; rw [← hCP.out])
    | (go_at_call 72; refine (classSlots_any cl _ HT3.out).mono ?_; rintro e w4 ⟨rfl, n4, rfl⟩; rw [← hCS.out])
    | (go_at_call 71; refine (ones_any CS _ hCSb.out.1 hCSb.out.2).mono ?_; rintro e w5 ⟨rfl, rfl⟩; rw [← hON.out]))
  go_ret
  exact ⟨rfl, HO3.out.drewN _⟩
set_option maxRecDepth 100000 in
set_option maxHeartbeats 4000000 in
theorem newLay_noBits14 (hT : Tab w) (hg : Ph.cyc gn = true) (hm : Lay.may P T = true) (hh : thereB P pg ps = true) (c0 : cl = 14) (hb : onesV (clS cl) < al) : Calls Tryz.prog 36 #[.agg #[.int .i64 P, .int .i64 T], .int .i64 pg, .int .i64 cl, .int .i64 ps, .int .i64 gn, .int .u64 al] w fun e w' => e = .returned (.pointer none) ∧ Adds w w' := by
  subst c0
  obtain ⟨K, hK⟩ : ∃ K, K = Ph.mk gn 2 := ⟨_, rfl⟩
  have HK := Lib.hid hK; have HT := Lib.hid hT
  obtain ⟨CP, hcp⟩ : ∃ CP, CP = clP 14 := ⟨_, rfl⟩
  obtain ⟨CS, hcs⟩ : ∃ CS, CS = clS 14 := ⟨_, rfl⟩
  have hcsb := clS_bd 14
  rw [← hcs] at hcsb
  obtain ⟨ON, hon⟩ : ∃ ON : Int, ON = 2 ^ CS.toNat - 1 := ⟨_, rfl⟩
  have hCP := Lib.hid hcp; have hCS := Lib.hid hcs; have hCSb := Lib.hid hcsb; have hON := Lib.hid hon
  have hok : Hid (Ph.okB gn 2 = true) := Lib.hid (by rw [Ph.ok2']; exact hg)
  have hmay : Hid (Lay.may P T = true) := Lib.hid hm
  have hP : Hid (1 ≤ P ∧ P ≤ 4096) := Lib.hid (by have := Lay.may_iff.1 hm; omega)
  have hth : Hid (thereB P pg ps = true) := Lib.hid hh
  have hb2 : ON < al := by rw [hon, hcs]; exact hb
  clear hg hm hh hK hcs hcsb hT
  clear hcp hon hb
  go_enter Tryz.func36, Tryz.ntmps36
  go_wp2_with (first
    | (go_at_call 68; refine (phMake_any gn 2 _ (by omega) (by omega)).mono ?_; rintro e w0 ⟨rfl, rfl⟩; rw [hok.out, ← HK.out])
    | (go_at_call 53; refine (layMay_any P T _).mono ?_; rintro e w1 ⟨rfl, ho1⟩; rw [hmay.out]; obtain ⟨x0, x1, ho2⟩ := box2_cells ho1; have HO2 := Lib.hid ho2; clear ho1 ho2)
    | (go_at_call 69; refine (there_any P T pg ps _ hP.out.1 hP.out.2).mono ?_; rintro e w2 ⟨rfl, ho3⟩; rw [hth.out]; have x0' := (ho3.cellF (p := ⟨w.heap.size, 0, none⟩) (cell_lt x0) id).trans x0; have x1' := (ho3.cellF (p := ⟨w.heap.size, 1, none⟩) (cell_lt x0) id).trans x1; have HO3 := Lib.hid (HO2.out.thenF ho3); have HT3 := Lib.hid (HT.out.adds HO3.out); clear ho3)
    | (go_at_call 70; refine (classPages_any 14 _ HT3.out).mono ?_; rintro e w3 ⟨rfl, rfl⟩; rw [← hCP.out])
    | (go_at_call 72; refine (classSlots_any 14 _ HT3.out).mono ?_; rintro e w4 ⟨rfl, n4, rfl⟩; rw [← hCS.out])
    | (go_at_call 71; refine (ones_any CS _ hCSb.out.1 hCSb.out.2).mono ?_; rintro e w5 ⟨rfl, rfl⟩; rw [← hON.out]))
  go_ret
  exact ⟨rfl, HO3.out.drewN _⟩
set_option maxRecDepth 100000 in
set_option maxHeartbeats 4000000 in
theorem newLay_ok (hT : Tab w) (hg : Ph.cyc gn = true) (hm : Lay.may P T = true) (hh : thereB P pg ps = true) (c0 : 0 ≤ cl) (c1 : cl < 14) (he : ps = clP cl) (hb : al ≤ onesV (clS cl)) : Calls Tryz.prog 36 #[.agg #[.int .i64 P, .int .i64 T], .int .i64 pg, .int .i64 cl, .int .i64 ps, .int .i64 gn, .int .u64 al] w fun e w' => ∃ mb, e = .returned (.pointer (some ⟨mb, 0, none⟩)) ∧ LayI w' mb P T pg cl ps al (Ph.mk gn 2) 0 ∧ Adds w w' ∧ w.heap.size ≤ mb := by
  obtain ⟨K, hK⟩ : ∃ K, K = Ph.mk gn 2 := ⟨_, rfl⟩
  have HK := Lib.hid hK; have HT := Lib.hid hT
  have hcp : ps = clP cl := he
  obtain ⟨CS, hcs⟩ : ∃ CS, CS = clS cl := ⟨_, rfl⟩
  have hcsb := clS_bd cl
  rw [← hcs] at hcsb
  obtain ⟨ON, hon⟩ : ∃ ON : Int, ON = 2 ^ CS.toNat - 1 := ⟨_, rfl⟩
  have hCP := Lib.hid hcp; have hCS := Lib.hid hcs; have hCSb := Lib.hid hcsb; have hON := Lib.hid hon
  have hok : Hid (Ph.okB gn 2 = true) := Lib.hid (by rw [Ph.ok2']; exact hg)
  have hmay : Hid (Lay.may P T = true) := Lib.hid hm
  have hP : Hid (1 ≤ P ∧ P ≤ 4096) := Lib.hid (by have := Lay.may_iff.1 hm; omega)
  have hth : Hid (thereB P pg ps = true) := Lib.hid hh
  have hpb : Hid (0 ≤ pg ∧ 1 ≤ ps ∧ pg + ps ≤ 4096) := Lib.hid (by unfold thereB at hh; rw [decide_eq_true_eq] at hh; have := Lay.may_iff.1 hm; omega)
  rw [← hK]
  have hb2 : al ≤ ON := by rw [hon, hcs]; exact hb
  clear hg hm hh hK hcs hcsb hT
  clear hcp hon he hb
  go_enter Tryz.func36, Tryz.ntmps36
  go_wp2_with (first
    | (go_at_call 68; refine (phMake_any gn 2 _ (by omega) (by omega)).mono ?_; rintro e w0 ⟨rfl, rfl⟩; rw [hok.out, ← HK.out])
    | (go_at_call 53; refine (layMay_any P T _).mono ?_; rintro e w1 ⟨rfl, ho1⟩; rw [hmay.out]; obtain ⟨x0, x1, ho2⟩ := box2_cells ho1; have HO2 := Lib.hid ho2; clear ho1 ho2)
    | (go_at_call 69; refine (there_any P T pg ps _ hP.out.1 hP.out.2).mono ?_; rintro e w2 ⟨rfl, ho3⟩; rw [hth.out]; have x0' := (ho3.cellF (p := ⟨w.heap.size, 0, none⟩) (cell_lt x0) id).trans x0; have x1' := (ho3.cellF (p := ⟨w.heap.size, 1, none⟩) (cell_lt x0) id).trans x1; have HO3 := Lib.hid (HO2.out.thenF ho3); have HT3 := Lib.hid (HT.out.adds HO3.out); clear ho3)
    | (go_at_call 70; refine (classPages_any cl _ HT3.out).mono ?_; rintro e w3 ⟨rfl, rfl⟩; rw [← hCP.out])
    | (go_at_call 72; refine (classSlots_any cl _ HT3.out).mono ?_; rintro e w4 ⟨rfl, n4, rfl⟩; rw [← hCS.out])
    | (go_at_call 71; refine (ones_any CS _ hCSb.out.1 hCSb.out.2).mono ?_; rintro e w5 ⟨rfl, rfl⟩; rw [← hON.out])
    | (go_at_call 73; have HBN := Lib.hid (Blk.new (w2.drewN n4) (laC P T pg cl ps al K .nilFunc) 122); refine (layIndex_lt HBN.out hpb.out.1 hpb.out.2.1 hpb.out.2.2 (by omega) hpb.out.2.1).mono ?_; rintro e w6 ⟨rfl, hs, ho6⟩; have HS6 := Lib.hid hs; have HO6 := Lib.hid ho6; clear hs ho6))
  go_ret
  have hz := HO3.out.size
  exact ⟨_, rfl, HS6.out, ((HO3.out.drewN n4).alloc _).andThen HO6.out (fun i hi e => by have e2 : i = w2.heap.size := e; omega), hz⟩
set_option maxRecDepth 100000 in
set_option maxHeartbeats 4000000 in
theorem newLay_ok14 (hT : Tab w) (hg : Ph.cyc gn = true) (hm : Lay.may P T = true) (hh : thereB P pg ps = true) (c0 : cl = 14) (hb : al ≤ onesV (clS cl)) : Calls Tryz.prog 36 #[.agg #[.int .i64 P, .int .i64 T], .int .i64 pg, .int .i64 cl, .int .i64 ps, .int .i64 gn, .int .u64 al] w fun e w' => ∃ mb, e = .returned (.pointer (some ⟨mb, 0, none⟩)) ∧ LayI w' mb P T pg cl ps al (Ph.mk gn 2) 0 ∧ Adds w w' ∧ w.heap.size ≤ mb := by
  subst c0
  obtain ⟨K, hK⟩ : ∃ K, K = Ph.mk gn 2 := ⟨_, rfl⟩
  have HK := Lib.hid hK; have HT := Lib.hid hT
  obtain ⟨CP, hcp⟩ : ∃ CP, CP = clP 14 := ⟨_, rfl⟩
  obtain ⟨CS, hcs⟩ : ∃ CS, CS = clS 14 := ⟨_, rfl⟩
  have hcsb := clS_bd 14
  rw [← hcs] at hcsb
  obtain ⟨ON, hon⟩ : ∃ ON : Int, ON = 2 ^ CS.toNat - 1 := ⟨_, rfl⟩
  have hCP := Lib.hid hcp; have hCS := Lib.hid hcs; have hCSb := Lib.hid hcsb; have hON := Lib.hid hon
  have hok : Hid (Ph.okB gn 2 = true) := Lib.hid (by rw [Ph.ok2']; exact hg)
  have hmay : Hid (Lay.may P T = true) := Lib.hid hm
  have hP : Hid (1 ≤ P ∧ P ≤ 4096) := Lib.hid (by have := Lay.may_iff.1 hm; omega)
  have hth : Hid (thereB P pg ps = true) := Lib.hid hh
  have hpb : Hid (0 ≤ pg ∧ 1 ≤ ps ∧ pg + ps ≤ 4096) := Lib.hid (by unfold thereB at hh; rw [decide_eq_true_eq] at hh; have := Lay.may_iff.1 hm; omega)
  rw [← hK]
  have hb2 : al ≤ ON := by rw [hon, hcs]; exact hb
  clear hg hm hh hK hcs hcsb hT
  clear hcp hon hb
  go_enter Tryz.func36, Tryz.ntmps36
  go_wp2_with (first
    | (go_at_call 68; refine (phMake_any gn 2 _ (by omega) (by omega)).mono ?_; rintro e w0 ⟨rfl, rfl⟩; rw [hok.out, ← HK.out])
    | (go_at_call 53; refine (layMay_any P T _).mono ?_; rintro e w1 ⟨rfl, ho1⟩; rw [hmay.out]; obtain ⟨x0, x1, ho2⟩ := box2_cells ho1; have HO2 := Lib.hid ho2; clear ho1 ho2)
    | (go_at_call 69; refine (there_any P T pg ps _ hP.out.1 hP.out.2).mono ?_; rintro e w2 ⟨rfl, ho3⟩; rw [hth.out]; have x0' := (ho3.cellF (p := ⟨w.heap.size, 0, none⟩) (cell_lt x0) id).trans x0; have x1' := (ho3.cellF (p := ⟨w.heap.size, 1, none⟩) (cell_lt x0) id).trans x1; have HO3 := Lib.hid (HO2.out.thenF ho3); have HT3 := Lib.hid (HT.out.adds HO3.out); clear ho3)
    | (go_at_call 70; refine (classPages_any 14 _ HT3.out).mono ?_; rintro e w3 ⟨rfl, rfl⟩; rw [← hCP.out])
    | (go_at_call 72; refine (classSlots_any 14 _ HT3.out).mono ?_; rintro e w4 ⟨rfl, n4, rfl⟩; rw [← hCS.out])
    | (go_at_call 71; refine (ones_any CS _ hCSb.out.1 hCSb.out.2).mono ?_; rintro e w5 ⟨rfl, rfl⟩; rw [← hON.out])
    | (go_at_call 73; have HBN := Lib.hid (Blk.new (w2.drewN n4) (laC P T pg 14 ps al K .nilFunc) 122); refine (layIndex_lt HBN.out hpb.out.1 hpb.out.2.1 hpb.out.2.2 (by omega) hpb.out.2.1).mono ?_; rintro e w6 ⟨rfl, hs, ho6⟩; have HS6 := Lib.hid hs; have HO6 := Lib.hid ho6; clear hs ho6))
  go_ret
  have hz := HO3.out.size
  exact ⟨_, rfl, HS6.out, ((HO3.out.drewN n4).alloc _).andThen HO6.out (fun i hi e => by have e2 : i = w2.heap.size := e; omega), hz⟩
set_option maxRecDepth 100000 in
set_option maxHeartbeats 4000000 in
theorem newGone_noMay (hm : Lay.may P T = false) : Calls Tryz.prog 44 #[.agg #[.int .i64 P, .int .i64 T], .int .i64 pg, .int .i64 ps] w fun e w' => e = .returned (.pointer none) ∧ Adds w w' := by
  have hmay : Hid (Lay.may P T = false) := Lib.hid hm
  clear hm
  go_enter Tryz.func44, Tryz.ntmps44
  go_wp2_with (first
    | (go_at_call 53; refine (layMay_any P T _).mono ?_; rintro e w1 ⟨rfl, ho1⟩; rw [hmay.out]; obtain ⟨x0, x1, ho2⟩ := box2_cells ho1; have HO2 := Lib.hid ho2; clear ho1 ho2)
    | (go_at_call 69; refine (there_any P T pg ps _ hP.out.1 hP.out.2).mono ?_; rintro e w2 ⟨rfl, ho3⟩; rw [hth.out]; have x0' := (ho3.cellF (p := ⟨w.heap.size, 0, none⟩) (cell_lt x0) id).trans x0; have x1' := (ho3.cellF (p := ⟨w.heap.size, 1, none⟩) (cell_lt x0) id).trans x1; have HO3 := Lib.hid (HO2.out.thenF ho3); clear ho3))
  go_ret
  exact ⟨rfl, HO2.out⟩
set_option maxRecDepth 100000 in
set_option maxHeartbeats 4000000 in
theorem newGone_noThere (hm : Lay.may P T = true) (hh : thereB P pg ps = false) : Calls Tryz.prog 44 #[.agg #[.int .i64 P, .int .i64 T], .int .i64 pg, .int .i64 ps] w fun e w' => e = .returned (.pointer none) ∧ Adds w w' := by
  have hmay : Hid (Lay.may P T = true) := Lib.hid hm
  have hP : Hid (1 ≤ P ∧ P ≤ 4096) := Lib.hid (by have := Lay.may_iff.1 hm; omega)
  have hth : Hid (thereB P pg ps = false) := Lib.hid hh
  clear hm hh
  go_enter Tryz.func44, Tryz.ntmps44
  go_wp2_with (first
    | (go_at_call 53; refine (layMay_any P T _).mono ?_; rintro e w1 ⟨rfl, ho1⟩; rw [hmay.out]; obtain ⟨x0, x1, ho2⟩ := box2_cells ho1; have HO2 := Lib.hid ho2; clear ho1 ho2)
    | (go_at_call 69; refine (there_any P T pg ps _ hP.out.1 hP.out.2).mono ?_; rintro e w2 ⟨rfl, ho3⟩; rw [hth.out]; have x0' := (ho3.cellF (p := ⟨w.heap.size, 0, none⟩) (cell_lt x0) id).trans x0; have x1' := (ho3.cellF (p := ⟨w.heap.size, 1, none⟩) (cell_lt x0) id).trans x1; have HO3 := Lib.hid (HO2.out.thenF ho3); clear ho3))
  go_ret
  exact ⟨rfl, HO3.out⟩
set_option maxRecDepth 100000 in
set_option maxHeartbeats 4000000 in
theorem newGone_ok (hm : Lay.may P T = true) (hh : thereB P pg ps = true) : Calls Tryz.prog 44 #[.agg #[.int .i64 P, .int .i64 T], .int .i64 pg, .int .i64 ps] w fun e w' => ∃ mb, e = .returned (.pointer (some ⟨mb, 0, none⟩)) ∧ GoneI w' mb P T pg ps 0 ∧ Adds w w' ∧ w.heap.size ≤ mb := by
  have hmay : Hid (Lay.may P T = true) := Lib.hid hm
  have hP : Hid (1 ≤ P ∧ P ≤ 4096) := Lib.hid (by have := Lay.may_iff.1 hm; omega)
  have hth : Hid (thereB P pg ps = true) := Lib.hid hh
  have hpb : Hid (0 ≤ pg ∧ 1 ≤ ps ∧ pg + ps ≤ 4096) := Lib.hid (by unfold thereB at hh; rw [decide_eq_true_eq] at hh; have := Lay.may_iff.1 hm; omega)
  clear hm hh
  go_enter Tryz.func44, Tryz.ntmps44
  go_wp2_with (first
    | (go_at_call 53; refine (layMay_any P T _).mono ?_; rintro e w1 ⟨rfl, ho1⟩; rw [hmay.out]; obtain ⟨x0, x1, ho2⟩ := box2_cells ho1; have HO2 := Lib.hid ho2; clear ho1 ho2)
    | (go_at_call 69; refine (there_any P T pg ps _ hP.out.1 hP.out.2).mono ?_; rintro e w2 ⟨rfl, ho3⟩; rw [hth.out]; have x0' := (ho3.cellF (p := ⟨w.heap.size, 0, none⟩) (cell_lt x0) id).trans x0; have x1' := (ho3.cellF (p := ⟨w.heap.size, 1, none⟩) (cell_lt x0) id).trans x1; have HO3 := Lib.hid (HO2.out.thenF ho3); clear ho3)
    | (go_at_call 79; have HBN := Lib.hid (Blk.new w2 (goC P T pg ps .nilFunc) 128); refine (goneIndex_lt HBN.out hpb.out.1 hpb.out.2.1 hpb.out.2.2 (by omega) hpb.out.2.1).mono ?_; rintro e w6 ⟨rfl, hs, ho6⟩; have HS6 := Lib.hid hs; have HO6 := Lib.hid ho6; clear hs ho6))
  go_ret
  have hz := HO3.out.size
  exact ⟨_, rfl, HS6.out, (HO3.out.alloc _).andThen HO6.out (fun i hi e => by omega), hz⟩
end
def LayP (w : World) (p : Option Addr) (P T : Int) : Prop := p = none ∨ ∃ mb pg cl ps al st i, p = some ⟨mb, 0, none⟩ ∧ LayI w mb P T pg cl ps al st i
def GoneP (w : World) (p : Option Addr) (P T : Int) : Prop := p = none ∨ ∃ mb pg ps i, p = some ⟨mb, 0, none⟩ ∧ GoneI w mb P T pg ps i
section
variable {w w' : World} {p : Option Addr} {P T : Int}
theorem LayP.adds (h : LayP w p P T) (ho : Adds w w') : LayP w' p P T := h.imp id (fun ⟨mb, pg, cl, ps, al, st, i, e, h⟩ => ⟨mb, pg, cl, ps, al, st, i, e, h.adds ho⟩)
theorem GoneP.adds (h : GoneP w p P T) (ho : Adds w w') : GoneP w' p P T := h.imp id (fun ⟨mb, pg, ps, i, e, h⟩ => ⟨mb, pg, ps, i, e, h.adds ho⟩)
theorem newLayP (P T pg cl ps gn al : Int) (w : World) (hT : Tab w) : Calls Tryz.prog 36 #[.agg #[.int .i64 P, .int .i64 T], .int .i64 pg, .int .i64 cl, .int .i64 ps, .int .i64 gn, .int .u64 al] w fun e w' => ∃ p, e = .returned (.pointer p) ∧ p.isSome = okLay P T pg cl ps gn al ∧ LayP w' p P T ∧ Adds w w' := by
  have no : ∀ {e : Ending} {w' : World}, (e = .returned (.pointer none) ∧ Adds w w') → okLay P T pg cl ps gn al = false → ∃ p, e = .returned (.pointer p) ∧ p.isSome = okLay P T pg cl ps gn al ∧ LayP w' p P T ∧ Adds w w' := fun h hf => ⟨none, h.1, by rw [hf]; rfl, .inl rfl, h.2⟩
  have yes : ∀ {e : Ending} {w' : World}, (∃ mb, e = .returned (.pointer (some ⟨mb, 0, none⟩)) ∧ LayI w' mb P T pg cl ps al (Ph.mk gn 2) 0 ∧ Adds w w' ∧ w.heap.size ≤ mb) → okLay P T pg cl ps gn al = true → ∃ p, e = .returned (.pointer p) ∧ p.isSome = okLay P T pg cl ps gn al ∧ LayP w' p P T ∧ Adds w w' := fun ⟨mb, he, hl, ho, _⟩ hf => ⟨_, he, by rw [hf]; rfl, .inr ⟨mb, pg, cl, ps, al, _, 0, rfl, hl⟩, ho⟩
  cases hg : Ph.cyc gn
  · exact (newLay_noGen P T pg cl ps gn al w hT hg).mono (fun _ _ h => no h (by simp [okLay, hg]))
  cases hm : Lay.may P T
  · exact (newLay_noMay P T pg cl ps gn al w hT hg hm).mono (fun _ _ h => no h (by simp [okLay, hm]))
  cases hh : thereB P pg ps
  · exact (newLay_noThere P T pg cl ps gn al w hT hg hm hh).mono (fun _ _ h => no h (by simp [okLay, hh]))
  rcases Int.lt_or_le cl 0 with c0 | c0
  · exact (newLay_noClass1 P T pg cl ps gn al w hT hg hm hh c0).mono (fun _ _ h => no h (by simp [okLay]; omega))
  rcases Int.lt_or_le 14 cl with c1 | c1
  · exact (newLay_noClass2 P T pg cl ps gn al w hT hg hm hh c1).mono (fun _ _ h => no h (by simp [okLay]; omega))
  have hcl : decide (0 ≤ cl ∧ cl ≤ 14) = true := decide_eq_true ⟨c0, c1⟩
  rcases Int.lt_or_le (onesV (clS cl)) al with hb | hb
  · by_cases c2 : cl = 14
    · exact (newLay_noBits14 P T pg cl ps gn al w hT hg hm hh c2 hb).mono (fun _ _ h => no h (by unfold okLay; rw [decide_eq_false (show ¬ al ≤ onesV (clS cl) by omega), Bool.and_false]))
    · by_cases he : ps = clP cl
      · exact (newLay_noBits P T pg cl ps gn al w hT hg hm hh c0 (by omega) he hb).mono (fun _ _ h => no h (by unfold okLay; rw [decide_eq_false (show ¬ al ≤ onesV (clS cl) by omega), Bool.and_false]))
      · exact (newLay_noPages P T pg cl ps gn al w hT hg hm hh c0 (by omega) he).mono (fun _ _ h => no h (by unfold okLay; rw [decide_eq_false c2, decide_eq_false he]; simp))
  · by_cases c2 : cl = 14
    · exact (newLay_ok14 P T pg cl ps gn al w hT hg hm hh c2 hb).mono (fun _ _ h => yes h (by unfold okLay; rw [hm, hh, hcl, hg, decide_eq_true c2, decide_eq_true hb]; rfl))
    · by_cases he : ps = clP cl
      · exact (newLay_ok P T pg cl ps gn al w hT hg hm hh c0 (by omega) he hb).mono (fun _ _ h => yes h (by unfold okLay; rw [hm, hh, hcl, hg, decide_eq_true he, decide_eq_true hb]; simp))
      · exact (newLay_noPages P T pg cl ps gn al w hT hg hm hh c0 (by omega) he).mono (fun _ _ h => no h (by unfold okLay; rw [decide_eq_false c2, decide_eq_false he]; simp))
theorem newGoneP (P T pg ps : Int) (w : World) : Calls Tryz.prog 44 #[.agg #[.int .i64 P, .int .i64 T], .int .i64 pg, .int .i64 ps] w fun e w' => ∃ p, e = .returned (.pointer p) ∧ p.isSome = okGone P T pg ps ∧ GoneP w' p P T ∧ Adds w w' := by
  cases hm : Lay.may P T
  · exact (newGone_noMay P T pg ps w hm).mono (fun _ _ h => ⟨none, h.1, by simp [okGone, hm], .inl rfl, h.2⟩)
  cases hh : thereB P pg ps
  · exact (newGone_noThere P T pg ps w hm hh).mono (fun _ _ h => ⟨none, h.1, by simp [okGone, hh], .inl rfl, h.2⟩)
  exact (newGone_ok P T pg ps w hm hh).mono (fun _ _ ⟨mb, he, hl, ho, _⟩ => ⟨_, he, by simp [okGone, hm, hh], .inr ⟨mb, pg, ps, 0, rfl, hl⟩, ho⟩)
theorem layP_nilA (h : LayP w p P T) : Calls Tryz.prog 39 #[.pointer p, .pointer none] w fun e w' => e = .returned (.agg #[.int .i64 0, .int .i64 0, .int .u64 0, .int .u64 0]) ∧ Adds w w' := by
  obtain rfl | ⟨mb, pg, cl, ps, al, st, i, rfl, jm, ji, _, _, h⟩ := h
  · exact recordLayStep_nil _ _
  · exact (recordLayStep_some (Q := fun _ => True) (S := fun _ => False) (fun _ _ _ _ => trivial) (fun _ e => e.elim) (fun w1 ho => (Desk.adds h ho).inNone (laCells ..) (by simp))).mono (fun _ _ h => ⟨h.1, h.2.2⟩)
theorem layP_other {ab sb rb : Nat} {P' T' : Int} (h : LayP w p P T) (hA : IsArena w ab sb rb P' T') (hne : (P' == P && T' == T) = false) : Calls Tryz.prog 39 #[.pointer p, .pointer (some ⟨ab, 0, none⟩)] w fun e w' => e = .returned (.agg #[.int .i64 0, .int .i64 0, .int .u64 0, .int .u64 0]) ∧ Adds w w' := by
  obtain rfl | ⟨mb, pg, cl, ps, al, st, i, rfl, jm, ji, _, _, h⟩ := h
  · exact recordLayStep_nil _ _
  · exact (recordLayStep_some (Q := fun _ => True) (S := fun _ => False) (fun _ _ _ _ => trivial) (fun _ e => e.elim) (fun w1 ho => (Desk.adds h ho).inOther (laCells ..) (by simp) (hA.only ho id) hne)).mono (fun _ _ h => ⟨h.1, h.2.2⟩)
theorem layP_done (h : LayP w p P T) : Calls Tryz.prog 38 #[.pointer p] w fun e w' => e = .returned (.bool false) ∧ w = w' := by
  obtain rfl | ⟨mb, pg, cl, ps, al, st, i, rfl, h⟩ := h
  · exact recordLayDone_nil _
  · obtain ⟨_, _, _, hb⟩ := h.live
    exact recordLayDone_no (hb.cell 2)
theorem lay_nonnil (p : Option Addr) (W : World) : Sem.run Tryz.prog (binOp .neq 65 (.pointer p) (.pointer none)) W = .ok (.bool p.isSome) W := by cases p <;> kernel_rfl
theorem goneP_nilA (h : GoneP w p P T) : Calls Tryz.prog 46 #[.pointer p, .pointer none] w fun e w' => e = .returned (.agg #[.int .i64 0, .int .i64 0, .int .u64 0, .int .u64 0]) ∧ Adds w w' := by
  obtain rfl | ⟨mb, pg, ps, i, rfl, jm, ji, _, _, h⟩ := h
  · exact recordGoneStep_nil _ _
  · exact (recordGoneStep_some (Q := fun _ => True) (S := fun _ => False) (fun _ _ _ _ => trivial) (fun _ e => e.elim) (fun w1 ho => (Desk.adds h ho).inNone (goCells ..) (by simp))).mono (fun _ _ h => ⟨h.1, h.2.2⟩)
theorem goneP_other {ab sb rb : Nat} {P' T' : Int} (h : GoneP w p P T) (hA : IsArena w ab sb rb P' T') (hne : (P' == P && T' == T) = false) : Calls Tryz.prog 46 #[.pointer p, .pointer (some ⟨ab, 0, none⟩)] w fun e w' => e = .returned (.agg #[.int .i64 0, .int .i64 0, .int .u64 0, .int .u64 0]) ∧ Adds w w' := by
  obtain rfl | ⟨mb, pg, ps, i, rfl, jm, ji, _, _, h⟩ := h
  · exact recordGoneStep_nil _ _
  · exact (recordGoneStep_some (Q := fun _ => True) (S := fun _ => False) (fun _ _ _ _ => trivial) (fun _ e => e.elim) (fun w1 ho => (Desk.adds h ho).inOther (goCells ..) (by simp) (hA.only ho id) hne)).mono (fun _ _ h => ⟨h.1, h.2.2⟩)
theorem goneP_done (h : GoneP w p P T) : Calls Tryz.prog 47 #[.pointer p] w fun e w' => e = .returned (.bool false) ∧ w = w' := by
  obtain rfl | ⟨mb, pg, ps, i, rfl, h⟩ := h
  · exact recordGoneDone_nil _
  · obtain ⟨_, _, _, hb⟩ := h.live
    exact recordGoneDone_no (hb.cell 2)
theorem gone_nonnil (p : Option Addr) (W : World) : Sem.run Tryz.prog (binOp .neq 66 (.pointer p) (.pointer none)) W = .ok (.bool p.isSome) W := by cases p <;> kernel_rfl
end
end Go.Proofs.YtbepbcjklgfmjaaGreatDoor

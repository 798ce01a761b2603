/- RecordBack: the index read. By an AI agent. -/
import Derived.Test.YtcikhlihgebnbaaDoorRecBack
import Derived.Test.YtcikhlihgebnbaaDoorRight
import Derived.Test.YtcikhlihgebnbaaDoorRecLay
import Derived.Deep.DeepCutAuto
import Derived.Deep.CutBlock
namespace Go.Proofs.YtcikhlihgebnbaaDoor
open Go.RowKit
section
variable {w : World} {ab sb sm rb : Nat} {P T pg ps v : Int} {g : Int → Int}
theorem YW.playRead (hY : YW w ab sb sm rb P T g) {i : Int} (h0 : 0 ≤ i) (h1 : i < Lay.words P T) : Calls Tryd.prog 44 #[.pointer (some ⟨ab, 0, none⟩), .int .i64 i] w fun e w' => e = .returned (.int .u64 (g i)) ∧ Adds w w' := by
  obtain ⟨s, hy, hl, hg⟩ := hY
  rw [← hg i h0 h1]
  exact playRead_any hy ⟨h0, by rw [hl]; omega⟩
theorem playWord14 {p : Int} (hm : Lay.may P T = true) (h0 : 0 ≤ p) (h1 : p < P) (W : World) : Calls Tryd.prog 45 #[.agg #[.int .i64 P, .int .i64 T], .int .i64 14, .int .i64 p] W fun e w' => e = .returned (.int .i64 (recAt P T 14 p)) ∧ Adds W w' := by
  have hok : Lay.pageOk P T 14 p = true := by unfold Lay.pageOk; rw [hm, Bool.true_and, decide_eq_true_eq]; omega
  have e : recAt P T 14 p = Lay.pageAt P T 14 p := by unfold recAt atV; rw [hok]; rfl
  rw [e]
  exact playWord_any P T 14 p W hok
set_option maxRecDepth 100000 in
set_option maxHeartbeats 8000000 in
theorem index_any {k cl gn al : Int} (hY : YW w ab sb sm rb P T g) (hm : Lay.may P T = true) (h0 : 0 ≤ pg) (h1 : 1 ≤ ps) (h2 : pg + ps ≤ P) (hi : ∀ p, 0 ≤ p → p < P → g (recAt P T 14 p) = if pg ≤ p ∧ p < pg + ps then v else 0) :
    Calls Tryd.prog 14 #[ptr ab, .agg #[.int .i64 P, .int .i64 T], mAgg k P T 0 pg cl ps gn 0 0 0 al, .int .u64 v] w fun e w' => e = .returned (.bool true) ∧ Adds w w' := by
  have HY := Lib.hid hY; have HM := Lib.hid hm; have HI := Lib.hid hi
  obtain ⟨p1, p2, -, -⟩ := Lay.may_iff.1 hm
  have hps : IntKind.i64.wrap (pg + ps) = pg + ps := by rw [IntKind.wrap_i64]; omega
  clear hY hm hi
  go_enter Tryd.func14, Tryd.ntmps14
  go_upto_region 1 with fail
  obtain ⟨wa, hwa⟩ : ∃ wa, wa = w.alloc (.cells #[.int .i64 P, .int .i64 T] 24) := ⟨_, rfl⟩
  have hL0 := Blk.new w #[.int .i64 P, .int .i64 T] 24
  rw [← hwa] at hL0 ⊢
  have hsz : wa.heap.size = w.heap.size + 1 := by rw [hwa]; simp
  have hA0 : Adds w wa := by rw [hwa]; exact (Only.refl _ _).alloc _
  obtain ⟨cs, hcs⟩ : ∃ cs : Array Value, cs = #[.int .i64 k, .int .i64 P, .int .i64 T, .int .i64 0, .int .i64 pg, .int .i64 cl, .int .i64 ps, .int .i64 gn, .int .i64 0, .int .i64 0, .int .i64 0, .int .u64 al, .bool false, .slice none 0 0, .slice none 0 0, .bool false, .int .i64 0, .bool false, .pointer none, .int .i64 0, .int .i64 0, .int .u64 0, .int .u64 0, .int .i64 0, .int .i64 0, .int .i64 0, .int .i64 0, .int .u64 0, .slice none 0 0, .slice none 0 0, .int .i64 0, .int .i64 0] := ⟨_, rfl⟩
  rw [← hcs]
  have hX0 := Blk.new wa cs 38
  have hx4 : cs[4]? = some (.int .i64 pg) := by rw [hcs]; rfl
  have hx6 : cs[6]? = some (.int .i64 ps) := by rw [hcs]; rfl
  rw [hsz] at hX0
  have HX := Lib.hid hX0
  have HL := Lib.hid (hL0.alloc (.cells cs 38))
  have HA := Lib.hid (hA0.alloc (.cells cs 38))
  have H4 := Lib.hid hx4; have H6 := Lib.hid hx6
  obtain ⟨wb, hwb⟩ : ∃ wb, wb = wa.alloc (.cells cs 38) := ⟨_, rfl⟩
  rw [← hwb] at HX HL HA ⊢
  clear hwb hwa hL0 hA0 hX0 hx4 hx6 hcs hsz
  go_wp2_with fail
  go_loopw [9] (fun o wr => ∃ p : Int, 0 ≤ p ∧ p ≤ P ∧ o = .int .i64 p ∧ Hid (Adds wb wr)) (fun o _ => (P - intOf o).toNat)
  case atStart => exact ⟨0, by omega, by omega, rfl, Lib.hid (Only.refl _ _)⟩
  case round =>
    obtain ⟨p, hp0, hp1, rfl, HW⟩ := hrel
    have hL := HL.out.only HW.out id; have hX := HX.out.only HW.out id
    have l0 : wr.cell? ⟨w.heap.size, 0, none⟩ = some (.int .i64 P) := hL.cell 0
    have l1 : wr.cell? ⟨w.heap.size, 1, none⟩ = some (.int .i64 T) := hL.cell 1
    have x4 : wr.cell? ⟨w.heap.size + 1, 4, none⟩ = some (.int .i64 pg) := (hX.cell 4).trans H4.out
    have x6 : wr.cell? ⟨w.heap.size + 1, 6, none⟩ = some (.int .i64 ps) := (hX.cell 6).trans H6.out
    clear hL hX
    by_cases hp2 : p < P
    · have hread : Hid (∀ W, Adds wr W → Calls Tryd.prog 44 #[.pointer (some ⟨ab, 0, none⟩), .int .i64 (recAt P T 14 p)] W fun e w' => e = .returned (.int .u64 (if pg ≤ p ∧ p < pg + ps then v else 0)) ∧ Adds W w') := Lib.hid (fun W ho => by
        rw [← HI.out p hp0 hp2]
        have hb := recAt_bd (k := 14) HM.out hp0 hp2 (by omega) (by omega)
        exact (HY.out.adds ((HA.out.thenF HW.out).thenF ho)).playRead hb.1 hb.2)
      obtain ⟨ix, hix⟩ : ∃ ix, ix = recAt P T 14 p := ⟨_, rfl⟩
      have HIX := Lib.hid hix
      rw [← hix] at hread
      clear hix
      by_cases ha : pg ≤ p
      · by_cases hb : p < pg + ps
        · rw [if_pos ⟨ha, hb⟩] at hread
          go_wp2_with (first
            | (go_at_call 45; refine (playWord14 HM.out hp0 hp2 _).mono ?_; rintro e w1 ⟨rfl, ho1⟩; rw [← HIX.out]; have HO1 := Lib.hid ho1; clear ho1)
            | (go_at_call 44; refine (hread.out _ HO1.out).mono ?_; rintro e w2 ⟨rfl, ho2⟩; have HO2 := Lib.hid (HW.out.thenF (HO1.out.thenF ho2)); clear ho2))
          go_roundw
          case rel => exact ⟨p + 1, by omega, by omega, by go_num, HO2⟩
          case measure => simp [intOf]; omega
        · rw [if_neg (fun h => hb h.2)] at hread
          go_wp2_with (first
            | (go_at_call 45; refine (playWord14 HM.out hp0 hp2 _).mono ?_; rintro e w1 ⟨rfl, ho1⟩; rw [← HIX.out]; have HO1 := Lib.hid ho1; clear ho1)
            | (go_at_call 44; refine (hread.out _ HO1.out).mono ?_; rintro e w2 ⟨rfl, ho2⟩; have HO2 := Lib.hid (HW.out.thenF (HO1.out.thenF ho2)); clear ho2))
          go_roundw
          case rel => exact ⟨p + 1, by omega, by omega, by go_num, HO2⟩
          case measure => simp [intOf]; omega
      · rw [if_neg (fun h => ha h.1)] at hread
        go_wp2_with (first
          | (go_at_call 45; refine (playWord14 HM.out hp0 hp2 _).mono ?_; rintro e w1 ⟨rfl, ho1⟩; rw [← HIX.out]; have HO1 := Lib.hid ho1; clear ho1)
          | (go_at_call 44; refine (hread.out _ HO1.out).mono ?_; rintro e w2 ⟨rfl, ho2⟩; have HO2 := Lib.hid (HW.out.thenF (HO1.out.thenF ho2)); clear ho2))
        go_roundw
        case rel => exact ⟨p + 1, by omega, by omega, by go_num, HO2⟩
        case measure => simp [intOf]; omega
    · go_wp2_with fail
      go_ret
      exact ⟨rfl, HA.out.thenF HW.out⟩
end
end Go.Proofs.YtcikhlihgebnbaaDoor

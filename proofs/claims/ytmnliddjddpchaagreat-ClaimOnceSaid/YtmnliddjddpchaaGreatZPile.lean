/- Package dustpanplay: Pile: pages in a stack, on both sides. By an AI agent. -/
import Derived.Test.YtmnliddjddpchaaGreatZLanes
import Derived.Test.YtmnliddjddpchaaGreatZC
import Derived.Test.YtmnliddjddpchaaGreatZ8
import Derived.Deep.RegionHeld3
namespace Go.Proofs.YtmnliddjddpchaaGreat
open Go.RowKit
set_option linter.unusedSimpArgs false
set_option linter.unusedVariables false
/-- The words of the pages, from the last one on; the page on top. -/
def pileF (P T : Int) (pages : List Int) (s : StoreS) : Int × StoreS := pages.foldr (fun p q => (p, q.2.acc 2 (nxAt P T p) (q.1 + 1))) (-1, s)
def pileS (P T hd : Int) (pages : List Int) (s : StoreS) : StoreS := (pileF P T pages s).2.acc 2 hd (Tag.mk pages.length (pileF P T pages s).1)
theorem pileF_cons (P T p : Int) (l : List Int) (s : StoreS) : pileF P T (p :: l) s = (p, (pileF P T l s).2.acc 2 (nxAt P T p) ((pileF P T l s).1 + 1)) := rfl
theorem pileF_len (P T : Int) : ∀ (l : List Int) (s : StoreS), (pileF P T l s).2.ws.length = s.ws.length
  | [], s => rfl
  | p :: l, s => by rw [pileF_cons]; simp [StoreS.acc, pileF_len P T l s]
theorem pileF_bd (P T : Int) (hP : P ≤ 4096) : ∀ (l : List Int) (s : StoreS), (∀ p ∈ l, 0 ≤ p ∧ p < P) → -1 ≤ (pileF P T l s).1 ∧ (pileF P T l s).1 < 4096
  | [], s, _ => by simp [pileF]
  | p :: l, s, h => by rw [pileF_cons]; have := h p (List.mem_cons_self ..); dsimp only; omega
theorem pileF_top (P T : Int) (l : List Int) (s s' : StoreS) : (pileF P T l s).1 = (pileF P T l s').1 := by cases l <;> rfl
theorem drop_succ_get {l : List Int} {k : Nat} {p : Int} (h : l[k]? = some p) : l.drop k = p :: l.drop (k + 1) := by
  obtain ⟨h1, h2⟩ := List.getElem?_eq_some_iff.1 h
  rw [List.drop_eq_getElem_cons h1, h2]
section
variable {w : World} {ab sb sm rb rg bb tb tm ub fb b cap : Nat} {P T hd : Int} {s s' : StoreS} {pages : List Int}
set_option maxRecDepth 100000 in
set_option maxHeartbeats 4000000 in
theorem pile_any (h : Both w ab sb sm rb rg bb tb tm ub fb P T s s') (hm : Lay.may P T = true) (hlen : s.ws.length = (Lay.words P T).toNat) (hlen' : s'.ws.length = (Lay.words P T).toNat) (hh : 8 ≤ hd ∧ hd < 68) (hp : ∀ p ∈ pages, 0 ≤ p ∧ p < P) (hn : pages.length ≤ 4096)
    (HC : ∀ W, Only (fun j => SB sb sm j ∨ SB tb tm j) w W → ∀ k p, pages[k]? = some p → W.cell? ⟨b, k, none⟩ = some (.int .i64 p)) :
    Calls Tryz.prog 23 #[.pointer (some ⟨ab, 0, none⟩), .pointer (some ⟨bb, 0, none⟩), .int .i64 hd, .slice (some ⟨b, 0, none⟩) pages.length cap] w fun e w' => e = .returned (.bool true) ∧ Both w' ab sb sm rb rg bb tb tm ub fb P T (pileS P T hd pages s) (pileS P T hd pages s') ∧ Only (fun j => SB sb sm j ∨ SB tb tm j) w w' := by
  have hT1 := (Lay.may_iff.1 hm)
  have hwd := (nxAt_eq (p := 0) hm (Int.le_refl 0) (by omega)).2
  have HIN : Hid (∀ q : StoreS, q.ws.length = (Lay.words P T).toNat → q.inR hd ∧ ∀ p, 0 ≤ p → p < P → q.inR (nxAt P T p)) := Lib.hid (fun q hq => ⟨⟨by omega, by rw [hq]; omega⟩, fun p p0 p1 => by
    have := nxAt_eq hm p0 p1
    exact ⟨by omega, by rw [hq]; omega⟩⟩)
  have HB := Lib.hid h; have HL := Lib.hid (And.intro hlen hlen'); have HP := Lib.hid hp; have HCC := Lib.hid HC; have HM := Lib.hid hm
  have HBD := Lib.hid (fun (l : List Int) (q : StoreS) h => pileF_bd P T hT1.2.1 l q h)
  obtain ⟨n, hnn⟩ : ∃ n, pages.length = n := ⟨_, rfl⟩
  have HN := Lib.hid hnn
  rw [hnn] at hn ⊢
  have e0 : IntKind.i64.wrap ((n : Int) - 1) = (n : Int) - 1 := by rw [IntKind.wrap_i64]; omega
  clear h hlen hlen' hp HC hm hT1 hwd hnn
  go_enter Tryz.func23, Tryz.ntmps23
  go_wp2_with fail
  clear e0
  go_loopw [9, 10, 11] (fun top ok i wr => ∃ k : Nat, k ≤ n ∧ i = .int .i64 ((k : Int) - 1) ∧ top = .int .i64 (pileF P T (pages.drop k) s).1 ∧ ok = .bool true ∧ Hid (Both wr ab sb sm rb rg bb tb tm ub fb P T (pileF P T (pages.drop k) s).2 (pileF P T (pages.drop k) s').2 ∧ Only (fun j => SB sb sm j ∨ SB tb tm j) w wr)) (fun _ _ i _ => ((intOf i) + 1).toNat)
  case atStart =>
    refine ⟨n, Nat.le_refl _, rfl, ?_, rfl, Lib.hid ?_⟩
    · rw [← HN.out, List.drop_length]; rfl
    · rw [← HN.out, List.drop_length]; exact ⟨HB.out, Only.refl _ _⟩
  case round =>
    obtain ⟨k, hk, rfl, rfl, rfl, HR⟩ := hrel
    clear HB
    rcases Nat.eq_zero_or_pos k with rfl | hk0
    · obtain ⟨top, htop⟩ : ∃ top, (pileF P T (pages.drop 0) s).1 = top := ⟨_, rfl⟩
      have hb := HBD.out pages s HP.out
      rw [List.drop_zero] at htop
      rw [htop] at hb
      have HTOP := Lib.hid htop
      have HR0 : Hid (Both wr ab sb sm rb rg bb tb tm ub fb P T (pileF P T pages s).2 (pileF P T pages s').2 ∧ Only (fun j => SB sb sm j ∨ SB tb tm j) w wr) := HR
      rw [List.drop_zero, htop]
      have e1 : IntKind.u32.wrap (n : Int) = (n : Int) := by rw [IntKind.wrap_u32]; omega
      have HE := Lib.hid (show Tag.okB top = true by simp [Tag.okB]; omega)
      obtain ⟨hv, hhv⟩ : ∃ hv, Tag.mk (n : Int) top = hv := ⟨_, rfl⟩
      have hvb := Tag.mk_bd (t := (n : Int)) (p := top) (by omega) (by omega)
      rw [hhv] at hvb
      have HHV := Lib.hid hhv; have HVB := Lib.hid hvb
      have HI := Lib.hid (And.intro (HIN.out (pileF P T pages s).2 (by rw [pileF_len]; exact HL.out.1)).1 (HIN.out (pileF P T pages s').2 (by rw [pileF_len]; exact HL.out.2)).1)
      clear htop hhv hvb HR
      go_wp2_with (first
        | (go_at_call 45; refine (r6Make_any (n : Int) top _ (by omega) (by omega) (by omega) (by omega)).mono ?_; rintro e w2 ⟨rfl, rfl⟩; rw [HE.out, HHV.out])
        | (go_at_call 22; refine (playPut_any HR0.out.1 HI.out.1 HI.out.2 HVB.out).mono ?_; rintro e v2 ⟨rfl, hB2, ho2⟩; have HB2 := Lib.hid hB2; have HO2 := Lib.hid ho2; clear hB2 ho2))
      go_ret
      have e9 : (pileF P T pages s').1 = top := (pileF_top P T pages s' s).trans HTOP.out
      refine ⟨rfl, ?_, HR0.out.2.trans HO2.out⟩
      have := HB2.out
      unfold pileS
      rw [HN.out, HTOP.out, e9, HHV.out]
      exact this
    · obtain ⟨j, rfl⟩ : ∃ j, k = j + 1 := ⟨k - 1, by omega⟩
      have ei : ((j + 1 : Nat) : Int) - 1 = (j : Int) := by omega
      rw [ei]
      obtain ⟨p, hpj⟩ : ∃ p, pages[j]? = some p := ⟨_, List.getElem?_eq_getElem (by rw [HN.out]; omega)⟩
      have hpb := HP.out p (List.mem_of_getElem? hpj)
      obtain ⟨top, htop⟩ : ∃ top, (pileF P T (pages.drop (j + 1)) s).1 = top := ⟨_, rfl⟩
      have hb := HBD.out (pages.drop (j + 1)) s (fun q hq => HP.out q (List.mem_of_mem_drop hq))
      rw [htop] at hb
      have HTOP := Lib.hid htop
      rw [htop]
      have HI := Lib.hid (And.intro ((HIN.out (pileF P T (pages.drop (j + 1)) s).2 (by rw [pileF_len]; exact HL.out.1)).2 p hpb.1 hpb.2) ((HIN.out (pileF P T (pages.drop (j + 1)) s').2 (by rw [pileF_len]; exact HL.out.2)).2 p hpb.1 hpb.2))
      have HOK := Lib.hid (pageOk_11 HM.out hpb.1 hpb.2)
      have HAT : Hid (Lay.pageAt P T 11 p = nxAt P T p) := Lib.hid rfl
      obtain ⟨na, hna⟩ : ∃ na, nxAt P T p = na := ⟨_, rfl⟩
      rw [hna] at HI HAT
      have HNA := Lib.hid hna
      have HPJ := Lib.hid hpj; have HPB := Lib.hid hpb
      have c0 : wr.cell? ⟨bb, 2, none⟩ = some (.int .i64 P) := HR.out.1.mem.head.cell 2
      have c1 : wr.cell? ⟨bb, 3, none⟩ = some (.int .i64 T) := HR.out.1.mem.head.cell 3
      have c2 := HCC.out wr HR.out.2 j p hpj
      have e1 : IntKind.i64.wrap (top + 1) = top + 1 := by rw [IntKind.wrap_i64]; omega
      have e2 : IntKind.u64.wrap (top + 1) = top + 1 := by rw [IntKind.wrap_u64]; omega
      have e3 : IntKind.i64.wrap ((j : Int) - 1) = (j : Int) - 1 := by rw [IntKind.wrap_i64]; omega
      have HVB := Lib.hid (show 0 ≤ top + 1 ∧ top + 1 < 18446744073709551616 by omega)
      have g1 : (0 : Int) ≤ (j : Int) := by omega
      have g2 : (j : Int) < (n : Int) := by omega
      clear htop hna hpj hpb ei hb
      go_wp2_with fail
      go_region_held3 (fun W => W.cell? ⟨bb, 2, none⟩ = some (.int .i64 P) ∧ W.cell? ⟨bb, 3, none⟩ = some (.int .i64 T) ∧ W.cell? ⟨b, j, none⟩ = some (.int .i64 p))
        (first | assumption | (exact ⟨c0, c1, c2⟩) | (exact ⟨HB2.out.mem.head.cell 2, HB2.out.mem.head.cell 3, HCC.out _ HO2.out j p HPJ.out⟩) | (exact ⟨HB3.out.mem.head.cell 2, HB3.out.mem.head.cell 3, HCC.out _ HO3.out j p HPJ.out⟩))
        (first
        | (go_at_call 12; refine (playWord_any P T 11 p _ HOK.out).mono ?_; rintro e v2 ⟨rfl, ho2⟩; rw [HAT.out]; have hoA := ((Only.refl (fun _ => False) wr).drew).thenF ho2; have HB2 := Lib.hid (HR.out.1.adds hoA); have HO2 := Lib.hid (HR.out.2.trans (hoA.mono (fun _ _ e => e.elim))); clear ho2 hoA)
        | (go_at_call 22; refine (playPut_any HB2.out HI.out.1 HI.out.2 HVB.out).mono ?_; rintro e v3 ⟨rfl, hB3, ho3⟩; have HB3 := Lib.hid hB3; have HO3 := Lib.hid (HO2.out.trans ho3); clear hB3 ho3))
      have d2 := HCC.out _ HO3.out j p HPJ.out
      go_wp2_with fail
      go_roundw
      case rel =>
        have e9 : (pileF P T (pages.drop (j + 1)) s').1 = top := (pileF_top P T _ s' s).trans HTOP.out
        refine ⟨j, by omega, rfl, ?_, rfl, Lib.hid ?_⟩
        · rw [drop_succ_get HPJ.out]; rfl
        · rw [drop_succ_get HPJ.out]
          refine ⟨?_, HO3.out⟩
          have := HB3.out
          rw [pileF_cons, pileF_cons]
          dsimp only
          rw [HTOP.out, e9, HNA.out]
          exact this
      case measure => first | (simp [intOf]; done) | (simp [intOf]; omega)
end
end Go.Proofs.YtmnliddjddpchaaGreat

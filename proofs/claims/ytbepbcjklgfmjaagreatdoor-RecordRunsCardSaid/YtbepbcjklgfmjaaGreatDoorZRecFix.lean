/- RecordBack, RecordRuns: what a lay by numbers is made of; a machine of it. By an AI agent. -/
import Derived.Test.YtbepbcjklgfmjaaGreatDoorZRecNew
import Derived.Test.YtbepbcjklgfmjaaGreatDoorZRecLay
import Derived.Deep.RegionHeld3
import Derived.Deep.WholeRow
namespace Go.Proofs.YtbepbcjklgfmjaaGreatDoor
open Go.RowKit
set_option linter.unusedSimpArgs false
set_option linter.unusedVariables false
theorem Ph.mk2_all {g : Int} (h : Ph.cyc g = true) : Ph.gen (Ph.mk g 2) = g ∧ Ph.ph (Ph.mk g 2) = 2 ∧ 9 ≤ Ph.mk g 2 ∧ Ph.mk g 2 < 18446744073709551616 := by
  have h2 : Ph.okB g 2 = true := (Ph.ok2' g).trans h
  obtain ⟨hs, e1, e2, e3, e4⟩ := Ph.st_mk h2
  exact ⟨by simp [Ph.gen, hs, e1], by simp [Ph.ph, hs, e2], e3, e4⟩
/-- What is laid may be. -/
structure Fix (P pg cl ps al gn : Int) : Prop where
  hm : Lay.may P 2 = true
  h0 : 0 ≤ pg
  h1 : 1 ≤ ps
  h2 : pg + ps ≤ P
  hp : P ≤ 4096
  hc : 0 ≤ cl ∧ cl < 256
  ha : 0 ≤ al ∧ al < 18446744073709551616
  hg : Ph.cyc gn = true
theorem and_le_right (a b : Int) (h0 : 0 ≤ b) : bits .and .u64 a b ≤ b := by
  rw [and_eq, BitVec.toNat_and]
  have h1 := Nat.and_le_right (n := (BitVec.ofInt 64 a).toNat) (m := (BitVec.ofInt 64 b).toNat)
  have h2 : ((BitVec.ofInt 64 b).toNat : Int) ≤ b := by
    rw [BitVec.toNat_ofInt]
    omega
  omega
theorem clP_pos {c : Int} (h0 : 0 ≤ c) (h1 : c < 14) : 1 ≤ clP c := by
  unfold clP
  rw [if_pos ⟨h0, h1⟩]
  exact (tab_bd c.toNat (by omega)).1
theorem ly_fix (P pg k mk : Int) (h0 : 0 ≤ pg) (h1 : pg < P) (h2 : P ≤ 60) (k0 : 0 ≤ k) (k1 : k < 100000) :
    Fix P pg (lyC P pg k) (lyN P pg k) (lyA P pg k mk) (1 + k) ∧ lyA P pg k mk ≤ onesV (clS (lyC P pg k)) ∧ ((lyC P pg k = 14) ∨ (0 ≤ lyC P pg k ∧ lyC P pg k < 14 ∧ lyN P pg k = clP (lyC P pg k))) := by
  have hm : Lay.may P 2 = true := Lay.may_iff.2 ⟨by omega, by omega, by omega, by omega⟩
  have hC : (lyC P pg k = 14 ∧ 1 ≤ lyN P pg k ∧ pg + lyN P pg k ≤ P) ∨ (0 ≤ lyC P pg k ∧ lyC P pg k < 14 ∧ lyN P pg k = clP (lyC P pg k) ∧ 1 ≤ lyN P pg k ∧ pg + lyN P pg k ≤ P) := by
    by_cases e : k % 15 = 14 ∨ P - pg < clP (k % 15)
    · have e1 : lyC P pg k = 14 := by unfold lyC; rw [if_pos e]
      have e2 : lyN P pg k = 1 + k % (P - pg) := by unfold lyN; rw [if_pos e]
      have b0 := Int.emod_nonneg k (show P - pg ≠ 0 by omega)
      have b1 := Int.emod_lt_of_pos k (show 0 < P - pg by omega)
      exact .inl ⟨e1, by omega, by omega⟩
    · have e1 : lyC P pg k = k % 15 := by unfold lyC; rw [if_neg e]
      have e2 : lyN P pg k = clP (k % 15) := by unfold lyN; rw [if_neg e]
      have b := clP_pos (c := k % 15) (by omega) (by omega)
      exact .inr ⟨by omega, by omega, by rw [e2, e1], by omega, by omega⟩
  have hs := clS_bd (lyC P pg k)
  have ho : (0 : Int) ≤ 2 ^ (clS (lyC P pg k)).toNat - 1 := by have := (onesV_bd (n := clS (lyC P pg k)) hs.2).1; unfold onesV at this; exact this
  have hA := and_bd mk (2 ^ (clS (lyC P pg k)).toNat - 1)
  refine ⟨⟨hm, h0, by omega, by omega, by omega, by omega, hA, Ph.cyc_iff.2 ⟨by omega, by omega⟩⟩, and_le_right _ _ ho, ?_⟩
  rcases hC with h | h
  · exact .inl h.1
  · exact .inr ⟨h.1, h.2.1, h.2.2.1⟩
theorem newLay_fix {w : World} {P pg cl ps al gn : Int} (hT : Tab w) (F : Fix P pg cl ps al gn) (ha : al ≤ onesV (clS cl)) (hc : cl = 14 ∨ (0 ≤ cl ∧ cl < 14 ∧ ps = clP cl)) :
    Calls Tryz.prog 36 #[.agg #[.int .i64 P, .int .i64 2], .int .i64 pg, .int .i64 cl, .int .i64 ps, .int .i64 gn, .int .u64 al] w fun e w' => ∃ mb, e = .returned (.pointer (some ⟨mb, 0, none⟩)) ∧ LayI w' mb P 2 pg cl ps al (Ph.mk gn 2) 0 ∧ Adds w w' ∧ w.heap.size ≤ mb := by
  have hh : thereB P pg ps = true := by
    have h0 := F.h0; have h1 := F.h1; have h2 := F.h2
    unfold thereB
    exact decide_eq_true ⟨by omega, by omega, by omega, by omega⟩
  rcases hc with h | ⟨h, h', h''⟩
  · exact newLay_ok14 _ _ _ _ _ _ _ _ hT F.hg F.hm hh h ha
  · exact newLay_ok _ _ _ _ _ _ _ _ hT F.hg F.hm hh h h' h'' ha
theorem newGone_fix {w : World} {P pg cl ps al gn : Int} (F : Fix P pg cl ps al gn) :
    Calls Tryz.prog 44 #[.agg #[.int .i64 P, .int .i64 2], .int .i64 pg, .int .i64 ps] w fun e w' => ∃ mb, e = .returned (.pointer (some ⟨mb, 0, none⟩)) ∧ GoneI w' mb P 2 pg ps 0 ∧ Adds w w' ∧ w.heap.size ≤ mb := by
  have hh : thereB P pg ps = true := by
    have h0 := F.h0; have h1 := F.h1; have h2 := F.h2
    unfold thereB
    exact decide_eq_true ⟨by omega, by omega, by omega, by omega⟩
  exact newGone_ok _ _ _ _ _ F.hm hh
/-- A document's machine loaded whole, as an operation. -/
theorem exec_load_row38 {op : Oper} {a : Act} {W : World} {xb : Nat} {x : Operand} {c0 c1 c2 c3 c4 c5 c6 c7 c8 c9 c10 c11 : Int} (ho : op.op = .load 61 x) (hx : a.eval x = .pointer (some ⟨xb, 0, none⟩)) (hb : Blk W xb (mCellsZ c0 c1 c2 c3 c4 c5 c6 c7 c8 c9 c10 c11) 61) :
    (execOp a.eval op).run Tryz.prog W = .ok (.value (.agg (mCellsZ c0 c1 c2 c3 c4 c5 c6 c7 c8 c9 c10 c11))) W := by
  unfold execOp
  simp only [ho, hx, Instr.loadAt, Instr.sureAddr, Sem.run_bind, Sem.run_pure, Result.andThen_ok, run_loadVar_row W xb 61 61 (mCellsZ c0 c1 c2 c3 c4 c5 c6 c7 c8 c9 c10 c11) (0, 0) _ hb Tryz.underlying61 rfl infoM9]
end Go.Proofs.YtbepbcjklgfmjaaGreatDoor

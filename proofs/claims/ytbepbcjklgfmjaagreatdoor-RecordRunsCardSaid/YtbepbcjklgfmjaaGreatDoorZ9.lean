/- And, or, and-not of 64 bits. By an AI agent. -/
import Derived.Test.YtbepbcjklgfmjaaGreatDoorZ1
namespace Go.Proofs.YtbepbcjklgfmjaaGreatDoor
open Go.RowKit
set_option linter.unusedSimpArgs false
set_option linter.unusedVariables false
theorem wrapNat {x : Nat} (h : x < 18446744073709551616) : IntKind.u64.wrap (x : Int) = (x : Int) := by
  simp only [IntKind.wrap_u64]; omega
theorem bv_of {a : Int} (h0 : 0 ≤ a) (h1 : a < 18446744073709551616) : ((BitVec.ofInt 64 a).toNat : Int) = a := by
  rw [BitVec.toNat_ofInt]; omega
theorem and_eq (a b : Int) : bits BinOp.and .u64 a b = ((BitVec.ofInt 64 a &&& BitVec.ofInt 64 b).toNat : Int) := wrapNat (BitVec.isLt _)
theorem or_eq (a b : Int) : bits BinOp.or .u64 a b = ((BitVec.ofInt 64 a ||| BitVec.ofInt 64 b).toNat : Int) := wrapNat (BitVec.isLt _)
theorem clr_eq (a b : Int) : bits BinOp.andNot .u64 a b = ((BitVec.ofInt 64 a &&& ~~~ BitVec.ofInt 64 b).toNat : Int) := wrapNat (BitVec.isLt _)
theorem bv_back (x : BitVec 64) : BitVec.ofInt 64 (x.toNat : Int) = x := by
  apply BitVec.eq_of_toNat_eq
  rw [BitVec.toNat_ofInt]
  have := x.isLt
  omega
theorem and_bd (a b : Int) : 0 ≤ bits BinOp.and .u64 a b ∧ bits BinOp.and .u64 a b < 18446744073709551616 := by
  rw [and_eq]; have := (BitVec.ofInt 64 a &&& BitVec.ofInt 64 b).isLt; omega
theorem clr_bd (a b : Int) : 0 ≤ bits BinOp.andNot .u64 a b ∧ bits BinOp.andNot .u64 a b < 18446744073709551616 := by
  rw [clr_eq]; have := (BitVec.ofInt 64 a &&& ~~~ BitVec.ofInt 64 b).isLt; omega
theorem and_or_clr {a : Int} (b : Int) (h0 : 0 ≤ a) (h1 : a < 18446744073709551616) : bits BinOp.or .u64 (bits BinOp.and .u64 a b) (bits BinOp.andNot .u64 a b) = a := by
  rw [or_eq, and_eq, clr_eq, bv_back, bv_back]
  have e : (BitVec.ofInt 64 a &&& BitVec.ofInt 64 b) ||| (BitVec.ofInt 64 a &&& ~~~ BitVec.ofInt 64 b) = BitVec.ofInt 64 a := by
    apply BitVec.eq_of_getLsbD_eq
    intro i hi
    simp only [BitVec.getLsbD_or, BitVec.getLsbD_and, BitVec.getLsbD_not, hi, decide_true, Bool.true_and]
    cases (BitVec.ofInt 64 a).getLsbD i <;> cases (BitVec.ofInt 64 b).getLsbD i <;> rfl
  rw [e]; exact bv_of h0 h1
theorem and_and_clr (a b : Int) : bits BinOp.and .u64 (bits BinOp.and .u64 a b) (bits BinOp.andNot .u64 a b) = 0 := by
  rw [and_eq, and_eq, clr_eq, bv_back, bv_back]
  have e : (BitVec.ofInt 64 a &&& BitVec.ofInt 64 b) &&& (BitVec.ofInt 64 a &&& ~~~ BitVec.ofInt 64 b) = 0#64 := by
    apply BitVec.eq_of_getLsbD_eq
    intro i hi
    simp only [BitVec.getLsbD_and, BitVec.getLsbD_not, hi, decide_true, Bool.true_and, BitVec.getLsbD_zero]
    cases (BitVec.ofInt 64 a).getLsbD i <;> cases (BitVec.ofInt 64 b).getLsbD i <;> rfl
  rw [e]; rfl
theorem and_zero (a : Int) : bits BinOp.and .u64 a 0 = 0 := by
  rw [and_eq]
  have e : BitVec.ofInt 64 a &&& BitVec.ofInt 64 0 = 0#64 := by
    apply BitVec.eq_of_getLsbD_eq
    intro i hi
    simp
  rw [e]; rfl
theorem clr_zero {a : Int} (h0 : 0 ≤ a) (h1 : a < 18446744073709551616) : bits BinOp.andNot .u64 a 0 = a := by
  rw [clr_eq]
  have e : BitVec.ofInt 64 a &&& ~~~ BitVec.ofInt 64 0 = BitVec.ofInt 64 a := by
    apply BitVec.eq_of_getLsbD_eq
    intro i hi
    rw [show BitVec.ofInt 64 0 = 0#64 from rfl]
    simp only [BitVec.getLsbD_and, BitVec.getLsbD_not, hi, decide_true, Bool.true_and, BitVec.getLsbD_zero, Bool.not_false, Bool.and_true]
  rw [e]; exact bv_of h0 h1
end Go.Proofs.YtbepbcjklgfmjaaGreatDoor

/- The example of chapter 2 holds. By an AI agent. -/
import Derived.Test.YtkfjhdjllnihnaaStoreMisc
import Derived.Test.YtkfjhdjllnihnaaRow
namespace Go.Proofs.Ytkfjhdjllnihnaa
open Go.RowKit
set_option maxHeartbeats 1000000 in
theorem awake2_any (w : World) : Calls Try.prog 13 #[] w fun e w' => e = .returned (.bool true) ∧ Only (fun _ => False) w w' := by
  go_enter Try.func13, Try.ntmps13
  go_wp2_with fail
  refine (storeNew_ok 2 _ (by omega) (by omega)).mono ?_; rintro e w1 ⟨rfl, hs1, ho1, hz1⟩
  have hi : (StoreS.fresh (2 : Int).toNat).inR 1 := by decide
  go_wp2_with fail
  refine (put_in _ _ 1 5 _ _ hs1 hi (by omega) (by omega)).mono ?_; rintro e w2 ⟨rfl, hs2, ho2⟩
  have hi2 := StoreS.acc_inR hi 2 1 5
  have hw2 := StoreS.acc_word hi 2 5
  go_wp2_with fail
  refine (cas_lost _ _ 1 4 6 _ _ hs2 hi2 (by rw [hw2]; rfl)).mono ?_; rintro e w3 ⟨rfl, hs3, ho3⟩
  have hi3 := StoreS.acc_inR hi2 4 1 (((StoreS.fresh (2 : Int).toNat).acc 2 1 5).word 1)
  have hw3 := (StoreS.acc_word hi2 4 (((StoreS.fresh (2 : Int).toNat).acc 2 1 5).word 1)).trans hw2
  go_wp2_with fail
  refine (cas_win _ _ 1 5 6 _ _ hs3 hi3 (by rw [hw3]; rfl) (by omega) (by omega)).mono ?_; rintro e w4 ⟨rfl, hs4, ho4⟩
  go_wp2
  go_ret
  exact ⟨rfl, ((ho1.thenSB ho2 (by omega) (by omega)).thenSB ho3 (by omega) (by omega)).thenSB ho4 (by omega) (by omega)⟩
end Go.Proofs.Ytkfjhdjllnihnaa

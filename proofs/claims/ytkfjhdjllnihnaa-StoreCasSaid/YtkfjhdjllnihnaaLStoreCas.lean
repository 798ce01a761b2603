/- StoreCas: its walk. By an AI agent. -/
import Derived.Test.YtkfjhdjllnihnaaStoreAwake
namespace Go.Proofs.Ytkfjhdjllnihnaa
open Go.RowKit
theorem StoreS.step {s : StoreS} {i : Int} (h : s.inR i) (k v : Int) : ∃ s', s.acc k i v = s' ∧ s'.inR i ∧ s'.word i = v := ⟨_, rfl, acc_inR h _ _ _, acc_word h _ _⟩
set_option maxHeartbeats 4000000 in
theorem storeCas_law (a : Int) (w0 : (Lit.int .u8 a).wf = true) (was : Int) (w1 : (Lit.int .u64 was).wf = true) (old : Int) (w2 : (Lit.int .u64 old).wf = true)
    (next : Int) (w3 : (Lit.int .u64 next).wf = true) (v : Int) (w4 : (Lit.int .u64 v).wf = true) (w : World) :
    Calls Try.prog 3 #[.int .u8 a, .int .u64 was, .int .u64 old, .int .u64 next, .int .u64 v] w fun e w' => e = .returned (.bool true) ∧ Below w.heap.size w w' := by
  obtain ⟨b0, b1⟩ := bd_u8 w0
  obtain ⟨b2, b3⟩ := bd_u64 w1
  obtain ⟨b4, b5⟩ := bd_u64 w2
  obtain ⟨b6, b7⟩ := bd_u64 w3
  obtain ⟨b8, b9⟩ := bd_u64 w4
  clear w0 w1 w2 w3 w4
  have hi : (StoreS.fresh (256 : Int).toNat).inR a := StoreS.fresh_inR b0 b1
  by_cases c1 : was = old
  · have c1' : (was != old) = false := by simpa using c1
    have d1 : (was == old) = true := by simpa using c1
    by_cases c2 : next = old
    · have c2' : (next != old) = false := by simpa using c2
      have d2 : (next == old) = true := by simpa using c2
      clear c1 c2
      go_enter Try.func3, Try.ntmps3
      go_wp2_with fail
      refine (storeNew_ok 256 _ (by omega) (by omega)).mono ?_; rintro e w1 ⟨rfl, hs1, ho1, hz1⟩
      go_wp2_with fail
      refine (put_in _ _ a was _ _ hs1 hi b2 b3).mono ?_; rintro e w2 ⟨rfl, hs2, ho2⟩
      obtain ⟨s2, e2, hi2, hw2⟩ := StoreS.step hi 2 was
      rw [e2] at hs2; clear e2
      have HO2 := Lib.hid (ho1.thenSB ho2 (by omega) (by omega)); clear ho1 ho2 hs1
      go_wp2_with fail
      refine (cas_win _ _ a _ next _ _ hs2 hi2 (by rw [hw2]; exact c1') b6 b7).mono ?_; rintro e w3 ⟨rfl, hs3, ho3⟩
      obtain ⟨s3, e3, hi3, hw3⟩ := StoreS.step hi2 3 next
      rw [e3] at hs3; clear e3
      have HO3 := Lib.hid (HO2.out.thenSB ho3 (by omega) (by omega)); clear ho3 hs2 HO2
      go_wp2_with fail
      refine (cas_win _ _ a _ v _ _ hs3 hi3 (by rw [hw3]; exact c2') b8 b9).mono ?_; rintro e w4 ⟨rfl, hs4, ho4⟩
      obtain ⟨s4, e4, hi4, hw4⟩ := StoreS.step hi3 3 v
      rw [e4] at hs4; clear e4
      have HO4 := Lib.hid (HO3.out.thenSB ho4 (by omega) (by omega)); clear ho4 hs3 HO3
      go_wp2_with fail
      refine (add_in _ _ a old _ _ hs4 hi4).mono ?_; rintro e w5 ⟨rfl, hs5, ho5⟩
      obtain ⟨s5, e5, hi5, hw5⟩ := StoreS.step hi4 5 ((s4.word a + old) % 18446744073709551616)
      rw [e5] at hs5; clear e5
      rw [hw4] at hw5
      have HO5 := Lib.hid (HO4.out.thenSB ho5 (by omega) (by omega)); clear ho5 hs4 HO4
      go_wp2_with fail
      refine (load_in _ _ a _ _ hs5 hi5).mono ?_; rintro e w6 ⟨rfl, hs6, ho6⟩
      have HO6 := Lib.hid (HO5.out.thenSB ho6 (by omega) (by omega)); clear ho6 hs5 HO5 hs6
      go_wp2_with (go_at_call 13; refine (awake2_any _).mono ?_; rintro e w7 ⟨rfl, ho7⟩)
      go_ret
      exact ⟨rfl, (HO6.out.thenF (by assumption)).below (Nat.le_refl _) (fun _ _ h => h)⟩
    · have c2' : (next != old) = true := by simpa using c2
      have d2 : (next == old) = false := by simpa using c2
      clear c1 c2
      go_enter Try.func3, Try.ntmps3
      go_wp2_with fail
      refine (storeNew_ok 256 _ (by omega) (by omega)).mono ?_; rintro e w1 ⟨rfl, hs1, ho1, hz1⟩
      go_wp2_with fail
      refine (put_in _ _ a was _ _ hs1 hi b2 b3).mono ?_; rintro e w2 ⟨rfl, hs2, ho2⟩
      obtain ⟨s2, e2, hi2, hw2⟩ := StoreS.step hi 2 was
      rw [e2] at hs2; clear e2
      have HO2 := Lib.hid (ho1.thenSB ho2 (by omega) (by omega)); clear ho1 ho2 hs1
      go_wp2_with fail
      refine (cas_win _ _ a _ next _ _ hs2 hi2 (by rw [hw2]; exact c1') b6 b7).mono ?_; rintro e w3 ⟨rfl, hs3, ho3⟩
      obtain ⟨s3, e3, hi3, hw3⟩ := StoreS.step hi2 3 next
      rw [e3] at hs3; clear e3
      have HO3 := Lib.hid (HO2.out.thenSB ho3 (by omega) (by omega)); clear ho3 hs2 HO2
      go_wp2_with fail
      refine (cas_lost _ _ a _ v _ _ hs3 hi3 (by rw [hw3]; exact c2')).mono ?_; rintro e w4 ⟨rfl, hs4, ho4⟩
      obtain ⟨s4, e4, hi4, hw4⟩ := StoreS.step hi3 4 (s3.word a)
      rw [hw3] at hw4
      rw [e4] at hs4; clear e4
      have HO4 := Lib.hid (HO3.out.thenSB ho4 (by omega) (by omega)); clear ho4 hs3 HO3
      go_wp2_with fail
      refine (add_in _ _ a old _ _ hs4 hi4).mono ?_; rintro e w5 ⟨rfl, hs5, ho5⟩
      obtain ⟨s5, e5, hi5, hw5⟩ := StoreS.step hi4 5 ((s4.word a + old) % 18446744073709551616)
      rw [e5] at hs5; clear e5
      rw [hw4] at hw5
      have HO5 := Lib.hid (HO4.out.thenSB ho5 (by omega) (by omega)); clear ho5 hs4 HO4
      go_wp2_with fail
      refine (load_in _ _ a _ _ hs5 hi5).mono ?_; rintro e w6 ⟨rfl, hs6, ho6⟩
      have HO6 := Lib.hid (HO5.out.thenSB ho6 (by omega) (by omega)); clear ho6 hs5 HO5 hs6
      go_wp2_with (go_at_call 13; refine (awake2_any _).mono ?_; rintro e w7 ⟨rfl, ho7⟩)
      go_ret
      exact ⟨rfl, (HO6.out.thenF (by assumption)).below (Nat.le_refl _) (fun _ _ h => h)⟩
  · have c1' : (was != old) = true := by simpa using c1
    have d1 : (was == old) = false := by simpa using c1
    have c2' := c1'
    clear c1
    go_enter Try.func3, Try.ntmps3
    go_wp2_with fail
    refine (storeNew_ok 256 _ (by omega) (by omega)).mono ?_; rintro e w1 ⟨rfl, hs1, ho1, hz1⟩
    go_wp2_with fail
    refine (put_in _ _ a was _ _ hs1 hi b2 b3).mono ?_; rintro e w2 ⟨rfl, hs2, ho2⟩
    obtain ⟨s2, e2, hi2, hw2⟩ := StoreS.step hi 2 was
    rw [e2] at hs2; clear e2
    have HO2 := Lib.hid (ho1.thenSB ho2 (by omega) (by omega)); clear ho1 ho2 hs1
    go_wp2_with fail
    refine (cas_lost _ _ a _ next _ _ hs2 hi2 (by rw [hw2]; exact c1')).mono ?_; rintro e w3 ⟨rfl, hs3, ho3⟩
    obtain ⟨s3, e3, hi3, hw3⟩ := StoreS.step hi2 4 (s2.word a)
    rw [hw2] at hw3
    rw [e3] at hs3; clear e3
    have HO3 := Lib.hid (HO2.out.thenSB ho3 (by omega) (by omega)); clear ho3 hs2 HO2
    go_wp2_with fail
    refine (cas_lost _ _ a _ v _ _ hs3 hi3 (by rw [hw3]; exact c2')).mono ?_; rintro e w4 ⟨rfl, hs4, ho4⟩
    obtain ⟨s4, e4, hi4, hw4⟩ := StoreS.step hi3 4 (s3.word a)
    rw [hw3] at hw4
    rw [e4] at hs4; clear e4
    have HO4 := Lib.hid (HO3.out.thenSB ho4 (by omega) (by omega)); clear ho4 hs3 HO3
    go_wp2_with fail
    refine (add_in _ _ a old _ _ hs4 hi4).mono ?_; rintro e w5 ⟨rfl, hs5, ho5⟩
    obtain ⟨s5, e5, hi5, hw5⟩ := StoreS.step hi4 5 ((s4.word a + old) % 18446744073709551616)
    rw [e5] at hs5; clear e5
    rw [hw4] at hw5
    have HO5 := Lib.hid (HO4.out.thenSB ho5 (by omega) (by omega)); clear ho5 hs4 HO4
    go_wp2_with fail
    refine (load_in _ _ a _ _ hs5 hi5).mono ?_; rintro e w6 ⟨rfl, hs6, ho6⟩
    have HO6 := Lib.hid (HO5.out.thenSB ho6 (by omega) (by omega)); clear ho6 hs5 HO5 hs6
    go_wp2_with (go_at_call 13; refine (awake2_any _).mono ?_; rintro e w7 ⟨rfl, ho7⟩)
    go_ret
    exact ⟨rfl, (HO6.out.thenF (by assumption)).below (Nat.le_refl _) (fun _ _ h => h)⟩
end Go.Proofs.Ytkfjhdjllnihnaa

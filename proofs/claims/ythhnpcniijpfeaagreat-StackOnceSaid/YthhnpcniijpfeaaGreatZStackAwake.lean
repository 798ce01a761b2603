/- The example of chapter 12 holds. By an AI agent. -/
import Derived.Test.YthhnpcniijpfeaaGreatZStackList
import Derived.Test.YthhnpcniijpfeaaGreatZ6
import Derived.Deep.RegionHeld3
namespace Go.Proofs.YthhnpcniijpfeaaGreat
open Go.RowKit
set_option linter.unusedSimpArgs false
set_option linter.unusedVariables false
set_option maxHeartbeats 2000000 in
theorem sameInts_one (g h c1 c2 : Nat) (a : Int) (w : World) (q0 : w.cell? ⟨g, 0, none⟩ = some (.int .i64 a)) (r0 : w.cell? ⟨h, 0, none⟩ = some (.int .i64 a)) :
    Calls Tryz.prog 21 #[.slice (some ⟨g, 0, none⟩) 1 c1, .slice (some ⟨h, 0, none⟩) 1 c2] w fun e w' => e = .returned (.bool true) ∧ ∃ k, w' = w.drewN k := by
  go_enter Tryz.func21, Tryz.ntmps21
  go_wp2
  go_loopw [5] (fun i wr => ∃ k m : Nat, k ≤ 1 ∧ i = .int .i64 k ∧ wr = w.drewN m) (fun i _ => 1 - (intOf i).toNat)
  case atStart => exact ⟨0, 0, Nat.zero_le _, rfl, rfl⟩
  case round =>
    obtain ⟨k, m, hk, rfl, rfl⟩ := hrel
    have hk2 : k = 0 ∨ k = 1 := by omega
    rcases hk2 with rfl | rfl
    · have s1 : (a != a) = false := by simp
      go_wp2
      go_quiet ((fail))
      go_wp2
      go_roundw
      case rel => exact ⟨1, _, by omega, by go_num, rfl⟩
      case measure => simp [intOf]
    · go_wp2
      go_ret
      exact ⟨rfl, m, rfl⟩
theorem row_first {w : World} {base : Nat} {e : TypeId} {v : Value} {a : Value} (h : w.ownsRow base e 1 v 1 [a]) : ∃ g cp, v = .slice (some ⟨g, 0, none⟩) 1 cp ∧ w.cell? ⟨g, 0, none⟩ = some a := by
  obtain ⟨_, ⟨_, h1⟩ | ⟨g, cap, cur, h1, h2, h3, _, _, _, h5⟩⟩ := h
  · cases h1
  · have e1 : (cur.toList.take (1 * 1))[0]? = some a := by rw [h5]; rfl
    rw [List.getElem?_take_of_lt (by omega)] at e1
    exact ⟨g, cap, h1, by simpa [World.cell?, h3] using e1⟩
set_option maxRecDepth 100000 in
set_option maxHeartbeats 4000000 in
theorem awake12_any (w : World) : Calls Tryz.prog 19 #[] w fun e w' => e = .returned (.bool true) ∧ Adds w w' := by
  have hkd := fun W a b c d => did_kind W a b c d
  have hhd : Lay.isHead 4 1 8 = true := by decide
  have hna : Lay.nextAt 4 1 3 = 99 := by decide
  obtain ⟨s0, hs0⟩ : ∃ s0, s0 = StoreS.begun 108 0 1 := ⟨_, rfl⟩
  have HL : Hid (s0.ws.length = 108 ∧ s0.word 8 = 0 ∧ s0.word 99 = 0) := by rw [hs0]; exact Lib.hid ⟨begun_len _ _ _, begun_other _ _ _ (by omega), begun_other _ _ _ (by omega)⟩
  have HS0 := Lib.hid hs0
  have HHD := Lib.hid hhd; have HNA := Lib.hid hna
  have hB := Blk.new w #[.int .i64 4, .int .i64 1] 26
  have x0 : (w.alloc (.cells #[.int .i64 4, .int .i64 1] 26)).cell? ⟨w.heap.size, 0, none⟩ = some (.int .i64 4) := hB.cell 0
  have x1 : (w.alloc (.cells #[.int .i64 4, .int .i64 1] 26)).cell? ⟨w.heap.size, 1, none⟩ = some (.int .i64 1) := hB.cell 1
  clear hB hs0 hhd hna
  go_enter Tryz.func19, Tryz.ntmps19
  go_wp2_with fail
  go_region_held3 (fun w' => w'.cell? ⟨w.heap.size, 0, none⟩ = some (.int .i64 4) ∧ w'.cell? ⟨w.heap.size, 1, none⟩ = some (.int .i64 1) ∧ Adds w w')
    (first | (exact ⟨x0, x1, ((Only.refl _ _).alloc _).drew⟩) | (exact heldM2 (by assumption) (by assumption)))
    (first
    | (go_at_call 38; refine (arenaNew_yard 4 1 _ (by decide)).mono ?_; rintro e w1 ⟨ab, sb, sm, rb, rfl, hy, ho1, hlow⟩; rw [show (Lay.words 4 1).toNat = 108 from by decide, ← HS0.out] at hy)
    | (go_at_call 39; refine (newPush_ok 4 1 8 3 _ HHD.out (by omega) (by omega)).mono ?_; rintro e w2 ⟨mb, rfl, hm, ho2, hlow2⟩))
  rename_i hH
  have HO2 := Lib.hid hH.2.2
  have HY2 := Lib.hid (hy.adds ho2); have HM2 := Lib.hid hm
  have HLOW : Hid (w.heap.size ≤ sb ∧ w.heap.size ≤ sm ∧ w.heap.size ≤ mb) := by
    have e2 := ho1.size
    have e3 := hlow
    simp only [World.size_alloc, World.size_drew] at e2 e3
    exact Lib.hid ⟨by omega, by omega, by omega⟩
  clear hH hy hm ho1 ho2 hlow hlow2 x0 x1
  go_wp2_with (first
    | (go_at_call 9; refine (pushStep_win HM4.out HY4.out (by rw [HL4.out.1]; omega) ⟨by omega, by rw [HL4.out.1]; omega⟩ HL4.out.2.1 (by decide)).mono ?_; rintro e w5 ⟨rfl, ⟨hm, hy⟩, ho⟩; rw [HL4.out.2.1, show Tag.nx 0 3 = 4294967300 from by decide]; rw [show Tag.nx 0 3 = 4294967300 from by decide] at hy; obtain ⟨s5, hs5⟩ : ∃ s5, s5 = s4.acc 3 8 4294967300 := ⟨_, rfl⟩; rw [← hs5] at hy; have HM5 := Lib.hid hm; have HY5 := Lib.hid hy; have HL5 : Hid (s5.ws.length = 108 ∧ s5.word 8 = 4294967300 ∧ s5.word 99 = 0) := (by rw [hs5]; exact Lib.hid ⟨by have := HL4.out.1; simpa [StoreS.acc] using this, StoreS.acc_word ⟨by omega, by rw [HL4.out.1]; omega⟩ _ _, by rw [StoreS.acc_word_other (by omega) (by omega) (by omega)]; exact HL4.out.2.2⟩); have HO5 := Lib.hid (HO4.out.andThen ho (fun i hi e => by have := HLOW.out; rcases e with (rfl | rfl) | rfl <;> omega)); clear hm hy ho hs5)
    | (go_at_call 9; refine (pushStep_two HM3.out HY3.out (by rw [HL3.out.1]; omega) (by rw [HNA.out]; exact ⟨by omega, by rw [HL3.out.1]; omega⟩) (by omega) (by omega) (by omega) (by omega)).mono ?_; rintro e w4 ⟨rfl, ⟨hm, hy⟩, ho⟩; rw [HNA.out, show Tag.pg 0 + 1 = 0 from by decide] at hy; rw [HNA.out]; obtain ⟨s4, hs4⟩ : ∃ s4, s4 = s3.acc 2 99 0 := ⟨_, rfl⟩; rw [← hs4] at hy; have HM4 := Lib.hid hm; have HY4 := Lib.hid hy; have HL4 : Hid (s4.ws.length = 108 ∧ s4.word 8 = 0 ∧ s4.word 99 = 0) := (by rw [hs4]; exact Lib.hid ⟨by have := HL3.out.1; simpa [StoreS.acc] using this, by rw [StoreS.acc_word_other (by omega) (by omega) (by omega)]; exact HL3.out.2.1, StoreS.acc_word ⟨by omega, by rw [HL3.out.1]; omega⟩ _ _⟩); have HO4 := Lib.hid (HO3.out.andThen ho (fun i hi e => by have := HLOW.out; rcases e with (rfl | rfl) | rfl <;> omega)); clear hm hy ho hs4)
    | (go_at_call 9; refine (pushStep_one HM2.out HY2.out (by rw [HL.out.1]; omega) ⟨by omega, by rw [HL.out.1]; omega⟩).mono ?_; rintro e w3 ⟨rfl, ⟨hm, hy⟩, ho⟩; rw [HL.out.2.1] at hm; obtain ⟨s3, hs3⟩ : ∃ s3, s3 = s0.acc 1 8 (s0.word 8) := ⟨_, rfl⟩; rw [← hs3] at hy; have HM3 := Lib.hid hm; have HY3 := Lib.hid hy; have HL3 : Hid (s3.ws.length = 108 ∧ s3.word 8 = 0 ∧ s3.word 99 = 0) := (by rw [hs3]; exact Lib.hid ⟨by have := HL.out.1; simpa [StoreS.acc] using this, by rw [StoreS.acc_word ⟨by omega, by rw [HL.out.1]; omega⟩]; exact HL.out.2.1, by rw [StoreS.acc_word_other (by omega) (by omega) (by omega)]; exact HL.out.2.2⟩); have HO3 := Lib.hid (HO2.out.andThen ho (fun i hi e => by have := HLOW.out; rcases e with (rfl | rfl) | rfl <;> omega)); clear hm hy ho hs3)
    | (go_at_call 10; refine (stackPushDone_yes ((Blk.alloc HM5.out _).cell 2)).mono ?_; rintro e w6 ⟨rfl, rfl⟩)
    | (go_at_call 15; refine (stackList_any (HY5.out.adds ((Only.refl _ _).alloc _)) HHD.out (by rw [HL5.out.1]; decide) [3] (by rw [HL5.out.2.1]; exact ⟨by decide, ⟨by decide, by decide⟩, by rw [show Lay.nextAt 4 1 (Tag.pg 4294967300) = 99 from by decide, HL5.out.2.2]; exact (show ¬ (0 ≤ underV 0 ∧ underV 0 < 4) by decide)⟩) (by decide)).mono ?_; rintro e w7 ⟨v, rfl, hr, ho⟩; obtain ⟨g, cp, rfl, q0⟩ := row_first hr; have hlg := cell_lt q0; have HO7 := Lib.hid ((HO5.out.alloc _).thenF ho); clear hr ho)
    | (go_at_call 21; refine (sameInts_one g w7.heap.size cp 1 3 _ ((((Only.refl (fun _ => False) w7).alloc _).cellF (p := ⟨g, 0, none⟩) hlg id).trans q0) (World.cell?_alloc_new ..)).mono ?_; rintro e w8 ⟨rfl, k8, rfl⟩))
  go_ret
  exact ⟨rfl, (HO7.out.alloc _).drewN _⟩
end Go.Proofs.YthhnpcniijpfeaaGreat

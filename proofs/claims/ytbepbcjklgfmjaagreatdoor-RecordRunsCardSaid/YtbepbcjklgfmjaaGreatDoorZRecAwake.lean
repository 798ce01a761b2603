/- The example of chapter 14 holds. By an AI agent. -/
import Derived.Test.YtbepbcjklgfmjaaGreatDoorZRecNew
import Derived.Test.YtbepbcjklgfmjaaGreatDoorZRecRead
import Derived.Test.YtbepbcjklgfmjaaGreatDoorZ6
import Derived.Deep.RegionHeld3
namespace Go.Proofs.YtbepbcjklgfmjaaGreatDoor
open Go.RowKit
set_option linter.unusedSimpArgs false
set_option linter.unusedVariables false
def g0 (P T : Int) : Int → Int := fun i => (StoreS.begun (Lay.words P T).toNat 0 1).word i
theorem g0_other {P T i : Int} (h : 1 ≤ i) : g0 P T i = 0 := begun_other _ _ _ h
theorem YW.new {w : World} {ab sb sm rb : Nat} {P T : Int} (h : Yard w ab sb sm rb P T (StoreS.begun (Lay.words P T).toNat 0 1)) : YW w ab sb sm rb P T (g0 P T) :=
  ⟨_, h, begun_len _ _ _, fun _ _ _ => rfl⟩
theorem hiA {n sb sm mb : Nat} (h1 : n ≤ sb) (h2 : n ≤ sm) (h3 : n ≤ mb) (i : Nat) (hi : i < n) : ¬ (SB sb sm i ∨ i = mb) := by unfold SB; omega
set_option maxRecDepth 100000 in
set_option maxHeartbeats 8000000 in
theorem awake14_any (w : World) (hT : Tab w) : Calls Tryz.prog 13 #[] w fun e w' => e = .returned (.bool true) ∧ Adds w w' := by
  have HT := Lib.hid hT
  have hm : Lay.may 5 1 = true := by decide
  have HM := Lib.hid hm
  have r9 : recAt 5 1 9 1 = 87 := by decide
  have r10 : recAt 5 1 10 1 = 88 := by decide
  have r12 : recAt 5 1 12 1 = 90 := by decide
  have r13 : recAt 5 1 13 1 = 91 := by decide
  have ra : recAt 5 1 14 (1 + 0) = 108 := by decide
  have rb' : recAt 5 1 14 (1 + (0 + 1)) = 109 := by decide
  have rc : recAt 5 1 14 (1 + (0 + 1 + 1)) = 110 := by decide
  have hK : Ph.mk 1 2 = 10 := by decide
  have HR := Lib.hid (And.intro r9 (And.intro r10 (And.intro r12 (And.intro r13 (And.intro ra (And.intro rb' (And.intro rc hK)))))))
  have hB := Blk.new w #[.int .i64 5, .int .i64 1] 35
  have x0 : (w.alloc (.cells #[.int .i64 5, .int .i64 1] 35)).cell? ⟨w.heap.size, 0, none⟩ = some (.int .i64 5) := hB.cell 0
  have x1 : (w.alloc (.cells #[.int .i64 5, .int .i64 1] 35)).cell? ⟨w.heap.size, 1, none⟩ = some (.int .i64 1) := hB.cell 1
  have heq : ∀ W, Sem.run Tryz.prog (binOp .eql 39 (spanV 1 3 7 1 2 0 0) (spanV 1 3 7 1 2 0 0)) W = .ok (.bool true) W := fun _ => by kernel_rfl
  clear hT hm r9 r10 r12 r13 ra rb' rc hK hB
  go_enter Tryz.func13, Tryz.ntmps13
  go_wp2_with fail
  go_region_held3 (fun w' => w'.cell? ⟨w.heap.size, 0, none⟩ = some (.int .i64 5) ∧ w'.cell? ⟨w.heap.size, 1, none⟩ = some (.int .i64 1) ∧ Adds w w')
    (first | (exact ⟨x0, x1, ((Only.refl _ _).alloc _).drew⟩) | (exact heldM2 (by assumption) (by assumption)))
    (first
    | (go_at_call 20; refine (arenaNew_yard 5 1 _ HM.out).mono ?_; rintro e w1 ⟨ab, sb, sm, rb, rfl, hy, ho1, hlow⟩)
    | (go_at_call 36; refine (newLay_ok 5 1 1 7 3 1 0 _ (HT.out.adds (And.right (And.right (by assumption)))) (by decide) HM.out (by decide) (by omega) (by omega) (by decide) (by decide)).mono ?_; rintro e w2 ⟨mb, rfl, hl, ho2, hlow2⟩))
  rename_i hH
  have HO2 := Lib.hid hH.2.2
  have HY2 := Lib.hid ((YW.new hy).adds ho2); have HL2 := Lib.hid hl
  have HLO : Hid (w.heap.size ≤ sb ∧ w.heap.size ≤ sm ∧ w.heap.size ≤ mb) := Lib.hid (by
    have h1 := ho1.size
    simp only [World.size_drew, World.size_alloc] at hlow h1
    omega)
  clear hH hy hl ho1 ho2 hlow hlow2 x0 x1
  go_wp2_with (go_at_call 37; refine (recBase_any 7 3 _ (by omega) (by omega) (by omega) (by omega)).mono ?_; rintro e u0 ⟨rfl, rfl⟩)
  refine wp_loop_rounds 8 ?_
  rw [rounds_succ]
  have lv2 := Lib.hid (LayI.live HL2.out)
  go_wp2_with (first
    | (go_at_call 38; obtain ⟨_, _, _, hb⟩ := lv2.out; refine (recordLayDone_no (hb.cell 2)).mono ?_; rintro e d2 ⟨rfl, rfl⟩)
    | (go_at_call 39; obtain ⟨old2, hst⟩ := layStep_lt HL2.out HY2.out HM.out (by omega) (by omega) (by omega) (by omega) (by omega) (by omega); refine hst.mono ?_; rintro e w3 ⟨rfl, ⟨hl, hy⟩, ho⟩; have HL3 := Lib.hid hl; have HY3 := Lib.hid hy; have HO3 := Lib.hid (HO2.out.andThen ho (fun i hi e => absurd e (hiA (n := w.heap.size) (by have h := HLO.out; omega) (by have h := HLO.out; omega) (by have h := HLO.out; omega) i hi))); clear hst hl hy ho))
  rw [rounds_succ]
  have lv3 := Lib.hid (LayI.live HL3.out)
  go_wp2_with (first
    | (go_at_call 38; obtain ⟨_, _, _, hb⟩ := lv3.out; refine (recordLayDone_no (hb.cell 2)).mono ?_; rintro e d3 ⟨rfl, rfl⟩)
    | (go_at_call 39; obtain ⟨old3, hst⟩ := layStep_lt HL3.out HY3.out HM.out (by omega) (by omega) (by omega) (by omega) (by omega) (by omega); refine hst.mono ?_; rintro e w4 ⟨rfl, ⟨hl, hy⟩, ho⟩; have HL4 := Lib.hid hl; have HY4 := Lib.hid hy; have HO4 := Lib.hid (HO3.out.andThen ho (fun i hi e => absurd e (hiA (n := w.heap.size) (by have h := HLO.out; omega) (by have h := HLO.out; omega) (by have h := HLO.out; omega) i hi))); clear hst hl hy ho))
  rw [rounds_succ]
  have lv4 := Lib.hid (LayI.live HL4.out)
  go_wp2_with (first
    | (go_at_call 38; obtain ⟨_, _, _, hb⟩ := lv4.out; refine (recordLayDone_no (hb.cell 2)).mono ?_; rintro e d4 ⟨rfl, rfl⟩)
    | (go_at_call 39; obtain ⟨old4, hst⟩ := layStep_ge HL4.out HY4.out HM.out (by omega) (by omega) (by omega) (by omega) (by omega) (by omega) (by omega); refine hst.mono ?_; rintro e w5 ⟨rfl, ⟨hl, hy⟩, ho⟩; have HL5 := Lib.hid hl; have HY5 := Lib.hid hy; have HO5 := Lib.hid (HO4.out.andThen ho (fun i hi e => absurd e (hiA (n := w.heap.size) (by have h := HLO.out; omega) (by have h := HLO.out; omega) (by have h := HLO.out; omega) i hi))); clear hst hl hy ho))
  rw [rounds_succ]
  have lv5 := Lib.hid (LayB.live HL5.out)
  go_wp2_with (first
    | (go_at_call 38; obtain ⟨_, _, _, hb⟩ := lv5.out; refine (recordLayDone_no (hb.cell 2)).mono ?_; rintro e d5 ⟨rfl, rfl⟩)
    | (go_at_call 39; obtain ⟨old5, hst⟩ := layStep_base HL5.out HY5.out HM.out (by omega) (by omega) (by omega) (by omega); refine hst.mono ?_; rintro e w6 ⟨rfl, ⟨hl, hy⟩, ho⟩; have HL6 := Lib.hid hl; have HY6 := Lib.hid hy; have HO6 := Lib.hid (HO5.out.andThen ho (fun i hi e => absurd e (hiA (n := w.heap.size) (by have h := HLO.out; omega) (by have h := HLO.out; omega) (by have h := HLO.out; omega) i hi))); clear hst hl hy ho))
  rw [rounds_succ]
  have lv6 := Lib.hid (LayA.live HL6.out)
  go_wp2_with (first
    | (go_at_call 38; obtain ⟨_, _, _, hb⟩ := lv6.out; refine (recordLayDone_no (hb.cell 2)).mono ?_; rintro e d6 ⟨rfl, rfl⟩)
    | (go_at_call 39; obtain ⟨old6, hst⟩ := layStep_alloc HL6.out HY6.out HM.out (by omega) (by omega) (by omega) (by omega); refine hst.mono ?_; rintro e w7 ⟨rfl, ⟨hl, hy⟩, ho⟩; have HL7 := Lib.hid hl; have HY7 := Lib.hid hy; have HO7 := Lib.hid (HO6.out.andThen ho (fun i hi e => absurd e (hiA (n := w.heap.size) (by have h := HLO.out; omega) (by have h := HLO.out; omega) (by have h := HLO.out; omega) i hi))); clear hst hl hy ho))
  rw [rounds_succ]
  have lv7 := Lib.hid (LayM.live HL7.out)
  go_wp2_with (first
    | (go_at_call 38; obtain ⟨_, _, _, hb⟩ := lv7.out; refine (recordLayDone_no (hb.cell 2)).mono ?_; rintro e d7 ⟨rfl, rfl⟩)
    | (go_at_call 39; obtain ⟨old7, hst⟩ := layStep_mark HL7.out HY7.out HM.out (by omega) (by omega) (by omega); refine hst.mono ?_; rintro e w8 ⟨rfl, ⟨hl, hy⟩, ho⟩; have HL8 := Lib.hid hl; have HY8 := Lib.hid hy; have HO8 := Lib.hid (HO7.out.andThen ho (fun i hi e => absurd e (hiA (n := w.heap.size) (by have h := HLO.out; omega) (by have h := HLO.out; omega) (by have h := HLO.out; omega) i hi))); clear hst hl hy ho))
  rw [rounds_succ]
  have lv8 := Lib.hid (LayS.live HL8.out)
  go_wp2_with (first
    | (go_at_call 38; obtain ⟨_, _, _, hb⟩ := lv8.out; refine (recordLayDone_no (hb.cell 2)).mono ?_; rintro e d8 ⟨rfl, rfl⟩)
    | (go_at_call 39; obtain ⟨old8, hst⟩ := layStep_state HL8.out HY8.out HM.out (by omega) (by omega) (by omega) (by rw [HR.out.2.2.2.2.2.2.2]; omega); refine hst.mono ?_; rintro e w9 ⟨rfl, ⟨hl, hy⟩, ho⟩; have HL9 := Lib.hid hl; have HY9 := Lib.hid hy; have HO9 := Lib.hid (HO8.out.andThen ho (fun i hi e => absurd e (hiA (n := w.heap.size) (by have h := HLO.out; omega) (by have h := HLO.out; omega) (by have h := HLO.out; omega) i hi))); clear hst hl hy ho))
  rw [rounds_succ]
  have hr := HR.out
  obtain ⟨r9, r10, r12, r13, ra, rb', rc, hK⟩ := hr
  obtain ⟨g9, hg9⟩ : ∃ g9 : Int → Int, YW w9 ab sb sm rb 5 1 g9 ∧ g9 87 = 10 ∧ g9 88 = 775 ∧ g9 90 = 0 ∧ g9 91 = 0 := ⟨_, HY9.out, by simp [upd, r9, r10, r12, r13, ra, rb', rc, hK], by simp [upd, r9, r10, r12, r13, ra, rb', rc, hK], by simp [upd, r9, r10, r12, r13, ra, rb', rc, hK], by simp [upd, r9, r10, r12, r13, ra, rb', rc, hK]⟩
  have HG9 := Lib.hid hg9
  clear r9 r10 r12 r13 ra rb' rc hK hg9
  go_wp2_with (first
    | (go_at_call 38; refine (recordLayDone_yes (Blk.cell HL9.out 2)).mono ?_; rintro e d9 ⟨rfl, rfl⟩)
    | (go_at_call 8; refine (read_some (st := 10) (bs := 775) (al := 0) (mk := 0) HG9.out.1 HM.out (by omega) (by omega) (by rw [HR.out.1]; exact HG9.out.2.1) (by omega) (by rw [HR.out.2.1]; exact HG9.out.2.2.1) (by rw [HR.out.2.2.1]; exact HG9.out.2.2.2.1) (by rw [HR.out.2.2.2.1]; exact HG9.out.2.2.2.2) (by omega) (by omega)).mono ?_; rintro e v1 ⟨rfl, ho⟩; rw [show (775 : Int) / 256 = 3 from rfl, show (775 : Int) % 256 = 7 from rfl, show Ph.gen 10 = 1 from by decide, show Ph.ph 10 = 2 from by decide]; have HOF := Lib.hid (HO9.out.thenF ho); clear ho))
  go_ret
  exact ⟨rfl, HOF.out.alloc _⟩
set_option maxRecDepth 100000 in
set_option maxHeartbeats 2000000 in
theorem recList_nil (w : World) : Calls Tryz.prog 11 #[.pointer none] w fun e w' => e = .returned (.slice none 0 0) ∧ Adds w w' := by
  have hfl : ∀ (a b : Int) W, Sem.run Tryz.prog (Instr.field 35 (.agg #[.int .i64 a, .int .i64 b]) 0) W = .ok (.int .i64 a) W := fun _ _ _ => by kernel_rfl
  go_enter Tryz.func11, Tryz.ntmps11
  go_wp2_with (go_at_call 27; refine (arenaLayout_nil _).mono ?_; rintro e w1 ⟨rfl, ho1⟩; have HO1 := Lib.hid ho1; clear ho1)
  refine wp_loop_rounds 1 ?_
  rw [rounds_succ]
  go_wp2
  go_ret
  exact ⟨rfl, HO1.out⟩
/-- A fresh arena has no span. -/
theorem read_fresh {w : World} {ab sb sm rb : Nat} {P T : Int} (pg : Int) (hY : YW w ab sb sm rb P T (g0 P T)) (hm : Lay.may P T = true) : Calls Tryz.prog 8 #[ptr ab, .int .i64 pg] w fun e w' => e = .returned (.tuple #[.agg spanZ, .bool false]) ∧ Adds w w' := by
  by_cases h : pg < 0 ∨ P ≤ pg
  · exact read_out hY h
  · exact read_zero hY hm (by omega) (by omega) (g0_other (by rw [recAt_eq hm (by omega) (by omega) (by omega) (by omega), if_neg (by decide)]; have := Lay.may_iff.1 hm; omega))
end Go.Proofs.YtbepbcjklgfmjaaGreatDoor

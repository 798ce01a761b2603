/- The example of chapter 11 holds; a list of one run. By an AI agent. -/
import Derived.Test.YthjimilocnpceaaArena
namespace Go.Proofs.Ythjimilocnpceaa
open Go.RowKit
set_option maxRecDepth 100000 in
set_option maxHeartbeats 1000000 in
theorem cloneRun_one (g cp : Nat) (a n : Int) (w : World) (h0 : w.cell? ⟨g, 0, none⟩ = some (.int .i64 a)) (h1 : w.cell? ⟨g, 1, none⟩ = some (.int .i64 n)) :
    Calls Try.prog 37 #[.slice (some ⟨g, 0, none⟩) 1 cp] w fun e w' => ∃ v, e = .returned v ∧ w'.ownsRow w.heap.size 73 2 v 1 [.int .i64 a, .int .i64 n] ∧ Adds w w' := by
  have he := fun W => Lib.run_eql_slice_nil (P := Try.prog) W 52 73 (some ⟨g, 0, none⟩) 1 cp 0 0 Try.underlying52
  obtain ⟨i0, hi, hz0, hz1, hz2⟩ := info_parts infoRun
  have hown := World.ownsRow_made (base := w.heap.size) (e := 73) (size := 2) w #[] 0 (Nat.le_refl _) (by unfold maxLen; omega) rfl
  have hc' : ∀ j u, [Value.int .i64 a, Value.int .i64 n][j]? = some u → (w.alloc (Obj.cells #[] 73)).cell? ((⟨g, 0, none⟩ : Addr).add j) = some u := fun j u hj => by
    rw [World.cell?_alloc_lt _ _ _ (by unfold Addr.add; split <;> exact cell_lt h0)]
    match j, hj with
    | 0, hj => simp at hj; subst hj; simpa [Addr.add] using h0
    | 1, hj => simp at hj; subst hj; simpa [Addr.add] using h1
  have HC := Lib.hid hc'
  clear hc' h0 h1
  go_enter Try.func37, Try.ntmps37
  go_wp2_with (at_builtin; refine wpList_append_own _ rfl _ _ 52 rfl w.heap.size 73 i0 (.agg #[.int .i64 0, .int .i64 0]) 2 16 Try.underlying52 hi hz0 hz1 hz2 rfl (by decide) _ _ _ rfl hown ⟨g, 0, none⟩ 1 cp [.int .i64 a, .int .i64 n] rfl rfl HC.out (by simp [Value.oneCell']) (by unfold maxLen; omega) (by omega) (by simp) ?_; intro v' w1 hown' hgrow _)
  simp only [Nat.zero_add, List.nil_append] at hown'
  go_ret
  have hb := ((Below.refl w.heap.size w).alloc (Nat.le_refl _) (Obj.cells #[] 73)).grown hgrow (by simp) (fun k hk => by cases hk; exact Nat.le_refl _)
  exact ⟨_, rfl, hown', ⟨hb.os, hb.tape, hb.output, hb.size, fun k hk _ => hb.block k hk⟩⟩
theorem ownOne {w : World} {base : Nat} {v : Value} {a n : Int} (h : w.ownsRow base 73 2 v 1 [.int .i64 a, .int .i64 n]) : ∃ g cp, v = .slice (some ⟨g, 0, none⟩) 1 cp ∧ w.cell? ⟨g, 0, none⟩ = some (.int .i64 a) ∧ w.cell? ⟨g, 1, none⟩ = some (.int .i64 n) := by
  obtain ⟨_, ⟨_, h1⟩ | ⟨g, cap, cur, h1, h2, h3, _, _, _, h5⟩⟩ := h
  · cases h1
  · have e1 : (cur.toList.take (1 * 2))[0]? = some (.int .i64 a) := by rw [h5]; rfl
    have e2 : (cur.toList.take (1 * 2))[1]? = some (.int .i64 n) := by rw [h5]; rfl
    rw [List.getElem?_take_of_lt (by omega)] at e1 e2
    exact ⟨g, cap, h1, by simpa [World.cell?, h3] using e1, by simpa [World.cell?, h3] using e2⟩
set_option maxHeartbeats 1000000 in
theorem runsList_one {w0 w : World} {rb : Nat} {P a n : Int} (h : RunsOne w0 w rb P a n) :
    Calls Try.prog 17 #[.pointer (some ⟨rb, 0, none⟩)] w fun e w' => ∃ g cp, e = .returned (.slice (some ⟨g, 0, none⟩) 1 cp) ∧ w'.cell? ⟨g, 0, none⟩ = some (.int .i64 a) ∧ w'.cell? ⟨g, 1, none⟩ = some (.int .i64 n) ∧ Adds w w' := by
  obtain ⟨⟨tb, nb, v, h1, h2, h3, h4⟩, h5⟩ := h
  obtain ⟨g, cp, rfl, q0, q1⟩ := ownOne h3
  have c4 := h1.cell 4
  clear h1 h2 h3 h4
  go_enter Try.func17, Try.ntmps17
  go_wp2_with fail
  refine (cloneRun_one g cp a n _ q0 q1).mono ?_; rintro e w1 ⟨v, rfl, hv, ho⟩
  obtain ⟨g2, cp2, rfl, r0, r1⟩ := ownOne hv
  go_wp2
  go_ret
  exact ⟨_, _, rfl, r0, r1, ho⟩
set_option maxHeartbeats 2000000 in
theorem sameRuns_one (g h c1 c2 : Nat) (a n : Int) (w : World) (q0 : w.cell? ⟨g, 0, none⟩ = some (.int .i64 a)) (q1 : w.cell? ⟨g, 1, none⟩ = some (.int .i64 n)) (r0 : w.cell? ⟨h, 0, none⟩ = some (.int .i64 a)) (r1 : w.cell? ⟨h, 1, none⟩ = some (.int .i64 n)) :
    Calls Try.prog 16 #[.slice (some ⟨g, 0, none⟩) 1 c1, .slice (some ⟨h, 0, none⟩) 1 c2] w fun e w' => e = .returned (.bool true) ∧ ∃ k, w' = w.drewN k := by
  go_enter Try.func16, Try.ntmps16
  go_wp2
  go_loopw [5] (fun i wr => ∃ k m : Nat, k ≤ 1 ∧ i = .int .i64 k ∧ wr = w.drewN m) (fun i _ => 1 - (intOf i).toNat)
  case atStart => exact ⟨0, 0, Nat.zero_le _, rfl, rfl⟩
  case round =>
    obtain ⟨k, m, hk, rfl, rfl⟩ := hrel
    have hk2 : k = 0 ∨ k = 1 := by omega
    rcases hk2 with rfl | rfl
    · have s1 : (a != a) = false := by simp
      have s2 : (n != n) = false := by simp
      go_wp2
      go_quiet ((fail))
      go_wp2
      go_roundw
      case rel => exact ⟨1, _, by omega, by go_num, rfl⟩
      case measure => simp [intOf]
    · go_wp2
      go_ret
      exact ⟨rfl, m, rfl⟩
set_option maxRecDepth 100000 in
set_option maxHeartbeats 4000000 in
theorem awake11_any (w : World) : Calls Try.prog 11 #[] w fun e w' => e = .returned (.bool true) ∧ Adds w w' := by
  have hw : Lay.words 1 1 = 90 := by decide
  have hl : (StoreS.begun 90 0 1).ws.length = 90 := by simp [StoreS.begun, StoreS.fresh]
  have hi : (StoreS.begun 90 0 1).inR 0 := ⟨by omega, by rw [hl]; omega⟩
  have hwd : (StoreS.begun 90 0 1).word 0 = 1 := by decide
  have HL := Lib.hid hl; have HI := Lib.hid hi; have HW := Lib.hid hwd; have HWW := Lib.hid hw
  clear hw hl hi hwd
  go_enter Try.func11, Try.ntmps11
  go_wp2_with (first
    | (go_at_call 10; refine (arenaNew_ok 1 1 _ (by decide)).mono ?_; rintro e w1 ⟨ab, sb, sm, rb, rfl, ha, hs, hr, ho⟩; rw [HWW.out, show (90 : Int).toNat = 90 from rfl] at hs; have HAr := Lib.hid ha; have HS := Lib.hid hs; have HR := Lib.hid hr; have HO := Lib.hid ho; clear ha hs hr ho)
    | (go_at_call 9; refine (arenaGen_any HAr.out HS.out HI.out (by rw [HW.out]; omega)).mono ?_; rintro e w2 ⟨rfl, rfl⟩; rw [HW.out])
    | (go_at_call 7; refine (arenaStore_any HAr.out).mono ?_; rintro e w2 ⟨rfl, rfl⟩)
    | (go_at_call 22; refine (storeLen_any _ _ _ _ HS.out).mono ?_; rintro e w2 ⟨rfl, rfl⟩; rw [HL.out])
    | (go_at_call 8; refine (arenaRuns_any HAr.out).mono ?_; rintro e w2 ⟨rfl, rfl⟩)
    | (go_at_call 17; refine (runsList_one HR.out).mono ?_; rintro e w3 ⟨g, cp, rfl, q0, q1, ho3⟩; have HO3 := Lib.hid (HO.out.thenF ho3); have l0 := cell_lt q0; clear ho3)
    | (go_at_call 16; refine (sameRuns_one g w3.heap.size cp 1 0 1 _ ((((Only.refl (fun _ => False) w3).alloc _).cellF (p := ⟨g, 0, none⟩) l0 id).trans q0) ((((Only.refl (fun _ => False) w3).alloc _).cellF (p := ⟨g, 1, none⟩) l0 id).trans q1) (World.cell?_alloc_new ..) (World.cell?_alloc_new ..)).mono ?_; rintro e w4 ⟨rfl, n4, rfl⟩))
  go_ret
  exact ⟨rfl, (HO3.out.alloc _).drewN _⟩
end Go.Proofs.Ythjimilocnpceaa

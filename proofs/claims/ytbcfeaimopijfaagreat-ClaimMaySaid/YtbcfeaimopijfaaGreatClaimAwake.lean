/- The example of chapter 16 holds. By an AI agent. -/
import Derived.Test.YtbcfeaimopijfaaGreatClaim3
namespace Go.Proofs.YtbcfeaimopijfaaGreat
open Go.RowKit
theorem YS.new' {w : World} {ab sb sm rb : Nat} {P T hd : Int} (h : Yard w ab sb sm rb P T (StoreS.begun (Lay.words P T).toNat 0 1)) (hh : HD P T hd) : YS w ab sb sm rb P T hd 0 (fun _ => 0) := by
  have hl := hh.lo
  have hw := hh.words
  exact ⟨_, h, begun_len _ _ _, begun_other _ _ _ (by omega), fun q h0 h1 => begun_other _ _ _ (by have := Lay.nextAt_eq hh.may h0 h1; omega)⟩
section
variable {w : World} {mb : Nat} {P T hd gen st tk pgv held hand : Int} {nx : Value}
set_option maxHeartbeats 400000 in
theorem claimPage_any (h : Blk w mb (clC P T hd gen st tk pgv held hand nx) 74) : Calls Tryz.prog 12 #[.pointer (some ⟨mb, 0, none⟩)] w fun e w' => e = .returned (.int .i64 pgv) ∧ w = w' := by
  have c7 : w.cell? ⟨mb, 7, none⟩ = some (.int .i64 pgv) := h.cell 7
  clear h
  go_enter Tryz.func12, Tryz.ntmps12
  go_wp2
  go_ret
  exact ⟨rfl, rfl⟩
end
set_option maxRecDepth 100000 in
set_option maxHeartbeats 4000000 in
theorem awake16_any (w : World) : Calls Tryz.prog 15 #[] w fun e w' => e = .returned (.bool true) ∧ Adds w w' := by
  have hkd := fun W a b c d => did_kind W a b c d
  have HD12 : Hid (HD 2 1 12) := Lib.hid ⟨by decide, by decide, by decide⟩
  have hB := Blk.new w #[.int .i64 2, .int .i64 1] 23
  have x0 : (w.alloc (.cells #[.int .i64 2, .int .i64 1] 23)).cell? ⟨w.heap.size, 0, none⟩ = some (.int .i64 2) := hB.cell 0
  have x1 : (w.alloc (.cells #[.int .i64 2, .int .i64 1] 23)).cell? ⟨w.heap.size, 1, none⟩ = some (.int .i64 1) := hB.cell 1
  clear hB
  go_enter Tryz.func15, Tryz.ntmps15
  go_wp2_with fail
  go_region_held3 (fun w' => w'.cell? ⟨w.heap.size, 0, none⟩ = some (.int .i64 2) ∧ w'.cell? ⟨w.heap.size, 1, none⟩ = some (.int .i64 1) ∧ Adds w w')
    (first | (exact ⟨x0, x1, ((Only.refl _ _).alloc _).drew⟩) | (exact heldM2 (by assumption) (by assumption)))
    (first
    | (go_at_call 8; refine (arenaNew_yard 2 1 _ (by decide)).mono ?_; rintro e w1 ⟨ab, sb, sm, rb, rfl, hy, ho1, hlow⟩)
    | (go_at_call 6; refine (newClaim_ok 2 1 12 3 _ HD12.out.to (by decide)).mono ?_; rintro e w2 ⟨mb, pb, n, bp, bm, rfl, hc, hp, ho2, hlow2, hlow3⟩))
  rename_i hH
  have HO2 := Lib.hid hH.2.2
  have HY2 := Lib.hid ((YS.new' hy HD12.out).adds ho2); have HC2 := Lib.hid hc; have HP2 := Lib.hid hp
  have HLO : Hid (w.heap.size ≤ sb ∧ w.heap.size ≤ sm ∧ w.heap.size ≤ pb ∧ w.heap.size ≤ mb) := Lib.hid (by
    have h1 := ho1.size
    simp only [World.size_drew, World.size_alloc] at hlow h1
    omega)
  clear hH hy hc hp ho1 ho2 hlow hlow2 hlow3 x0 x1
  go_wp2_with (first
    | (go_at_call 10; refine (claimStep_empty HC2.out HP2.out HY2.out HD12.out (by decide)).mono ?_; rintro e w3 ⟨rfl, ⟨hb, hy⟩, ho⟩; have HB3 := Lib.hid hb; have HO3 := Lib.hid (HO2.out.andThen ho (fun i hi e => by have h := HLO.out; unfold SB at e; omega)); clear hb hy ho)
    | (go_at_call 11; refine (claimClaimDone_yes (HB3.out.cell 2)).mono ?_; rintro e w4 ⟨rfl, rfl⟩)
    | (go_at_call 12; refine (claimPage_any HB3.out).mono ?_; rintro e w5 ⟨rfl, rfl⟩))
  go_ret
  exact ⟨rfl, HO3.out⟩
end Go.Proofs.YtbcfeaimopijfaaGreat

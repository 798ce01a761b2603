/- Package arena: New, with draws. By an AI agent. -/
import Derived.Deep.RegionHeld3
import Derived.Test.YtbijbpnhakbeeaaRunsAwake
import Derived.Test.YtbijbpnhakbeeaaArenaIs
namespace Go.Proofs.Ytbijbpnhakbeeaa
open Go.RowKit
theorem words_bd {P T : Int} (h : Lay.may P T = true) : 90 ≤ Lay.words P T ∧ Lay.words P T ≤ 65536 := by
  obtain ⟨h1, h2, h3, h4⟩ := Lay.may_iff.1 h
  have hb := Lay.many_bd h1 h2
  have e : Lay.words P T = 68 + 14 * T + 6 * P + 2 * Lay.many P := by simp [Lay.words, h]
  rw [e]; omega
theorem held5 {w W w' : World} {a b c d i j k l : Nat} {x y z u : Value} (h : W.cell? ⟨a, i, none⟩ = some x ∧ W.cell? ⟨b, j, none⟩ = some y ∧ W.cell? ⟨c, k, none⟩ = some z ∧ W.cell? ⟨d, l, none⟩ = some u ∧ Adds w W) (ho : Adds W w') :
    w'.cell? ⟨a, i, none⟩ = some x ∧ w'.cell? ⟨b, j, none⟩ = some y ∧ w'.cell? ⟨c, k, none⟩ = some z ∧ w'.cell? ⟨d, l, none⟩ = some u ∧ Adds w w' :=
  ⟨(ho.cellF (p := ⟨a, i, none⟩) (cell_lt h.1) id).trans h.1, (ho.cellF (p := ⟨b, j, none⟩) (cell_lt h.2.1) id).trans h.2.1, (ho.cellF (p := ⟨c, k, none⟩) (cell_lt h.2.2.1) id).trans h.2.2.1, (ho.cellF (p := ⟨d, l, none⟩) (cell_lt h.2.2.2.1) id).trans h.2.2.2.1, h.2.2.2.2.thenF ho⟩
set_option maxHeartbeats 1000000 in
theorem arenaNewD_no (P T : Int) (va : Option Addr) (vl vc : Nat) (w : World) (h : Lay.may P T = false) :
    Calls Try.prog 12 #[.agg #[.int .i64 P, .int .i64 T, .slice va vl vc]] w fun e w' => e = .returned (.pointer none) ∧ Adds w w' := by
  go_enter Try.func12, Try.ntmps12
  go_wp2_with fail
  refine (layMay_any P T _).mono ?_; rintro e w1 ⟨rfl, ho⟩
  rw [h]
  go_wp2
  go_ret
  exact ⟨rfl, (((Only.refl _ _).alloc _).alloc _).thenF ho⟩
set_option maxRecDepth 100000 in
set_option maxHeartbeats 4000000 in
theorem arenaNewD_ok (P T : Int) (va : Option Addr) (vl vc : Nat) (ds : List Int) (w : World) (hd : Draws w (.slice va vl vc) ds) (hn : ds.length < 1000000) (h : Lay.may P T = true) :
    Calls Try.prog 12 #[.agg #[.int .i64 P, .int .i64 T, .slice va vl vc]] w fun e w' => ∃ ab sb sm s, e = .returned (.pointer (some ⟨ab, 0, none⟩)) ∧ IsArena w' ab sb s.rb P T ∧ IsStore w' sb sm (StoreS.begun (Lay.words P T).toNat 0 1) ∧ IsRuns w' s ∧ NewRuns P ds s ∧ Adds w w' ∧ (w.heap.size ≤ ab ∧ w.heap.size ≤ sb ∧ w.heap.size ≤ sm ∧ ∀ y, s.all y → w.heap.size ≤ y) ∧ (¬ s.all ab ∧ ¬ s.all sb ∧ ¬ s.all sm ∧ ab ≠ sb ∧ ab ≠ sm) := by
  obtain ⟨p1, p2, _, _⟩ := Lay.may_iff.1 h
  obtain ⟨d1, d2⟩ := words_bd h
  go_enter Try.func12, Try.ntmps12
  go_wp2_with fail
  refine (layMay_any P T _).mono ?_; rintro e w1 ⟨rfl, ho⟩
  rw [h]
  have B0 := ((Blk.new w #[.int .i64 P, .int .i64 T, .slice va vl vc] 24).alloc (.cells #[.int .i64 P, .int .i64 T] 31)).only ho id
  have B1 := (Blk.new (w.alloc (.cells #[.int .i64 P, .int .i64 T, .slice va vl vc] 24)) #[.int .i64 P, .int .i64 T] 31).only ho id
  rw [World.size_alloc] at B1
  have HA := Lib.hid ((((Only.refl (fun _ => False) w).alloc (.cells #[.int .i64 P, .int .i64 T, .slice va vl vc] 24)).alloc (.cells #[.int .i64 P, .int .i64 T] 31)).thenF ho)
  have HDR := Lib.hid (hd.adds HA.out)
  have x0 := B0.cell 0; have x2 := B0.cell 2; have y0 := B1.cell 0; have y1 := B1.cell 1
  clear h ho B0 B1 hd
  go_wp2_with fail
  go_region_held3 (fun w' => w'.cell? ⟨w.heap.size, 0, none⟩ = some (.int .i64 P) ∧ w'.cell? ⟨w.heap.size, 2, none⟩ = some (.slice va vl vc) ∧ w'.cell? ⟨w.heap.size + 1, 0, none⟩ = some (.int .i64 P) ∧ w'.cell? ⟨w.heap.size + 1, 1, none⟩ = some (.int .i64 T) ∧ Adds w1 w')
    (first | (exact ⟨x0, x2, y0, y1, (Only.refl _ _).drew⟩) | (exact held5 (by assumption) (by assumption)) | (exact held5 (by assumption) ((Only.refl _ _).alloc _)))
    (first
    | (go_at_call 49; refine (layWords_any P T _).mono ?_; rintro e w2 ⟨rfl, ho2⟩)
    | (go_at_call 48; refine (begun_ok _ 0 1 _ (by omega) d2 (by omega) (by omega) (by omega)).mono ?_; rintro e w3 ⟨rfl, hs, ho3, hz3⟩)
    | (go_at_call 34; refine (new_any P p1 p2 (HDR.out.adds ((((Only.refl (fun _ => False) w1).drew).thenF ho2).thenF ho3)) hn).mono ?_; rintro e w4 ⟨s, rfl, hr, hnr, ho4, hfr⟩))
  rename_i hH
  have hAd := hH.2.2.2.2
  have hAr := (((Only.refl (fun _ => False) w1).drew).thenF ho2).thenF ho3
  have hst := (hs.only ho4 id id).alloc (.cells #[.int .i64 P, .int .i64 T, .pointer (some ⟨w2.heap.size + 1, 0, none⟩), .pointer (some ⟨s.rb, 0, none⟩)] 89)
  have hru := hr.adds ((Only.refl (fun _ => False) w4).alloc (.cells #[.int .i64 P, .int .i64 T, .pointer (some ⟨w2.heap.size + 1, 0, none⟩), .pointer (some ⟨s.rb, 0, none⟩)] 89))
  have hab := Blk.new w4 #[.int .i64 P, .int .i64 T, .pointer (some ⟨w2.heap.size + 1, 0, none⟩), .pointer (some ⟨s.rb, 0, none⟩)] 89
  have hsz : Hid ((w.heap.size ≤ w4.heap.size ∧ w.heap.size ≤ w2.heap.size + 1 ∧ w.heap.size ≤ w2.heap.size ∧ ∀ y, s.all y → w.heap.size ≤ y) ∧ (¬ s.all w4.heap.size ∧ ¬ s.all (w2.heap.size + 1) ∧ ¬ s.all w2.heap.size ∧ w4.heap.size ≠ w2.heap.size + 1 ∧ w4.heap.size ≠ w2.heap.size)) := by
    have a1 := HA.out.size; have a2 : w1.heap.size ≤ w2.heap.size := ho2.size; have a4 := hAr.size; have a5 := ho4.size
    have a6 : w2.heap.size + 1 < w3.heap.size := hs.head.lt
    refine Lib.hid ⟨⟨by omega, by omega, by omega, fun y hy => ?_⟩, fun hh => ?_, fun hh => ?_, fun hh => ?_, by omega, by omega⟩
    · have := hfr y hy; omega
    · exact Nat.lt_irrefl _ (hr.lt _ hh)
    · have := hfr _ hh; omega
    · have := hfr _ hh; omega
  have HST := Lib.hid hst; have HRU := Lib.hid hru; have HAB := Lib.hid hab; have HAD := Lib.hid (HA.out.thenF hAd); have HNR := Lib.hid hnr
  clear hH hAd hAr hst hru hab hs hr ho2 ho3 ho4 hnr hfr
  go_wp2
  go_ret
  exact ⟨_, _, _, s, rfl, ⟨HAB.out⟩, HST.out, HRU.out, HNR.out, HAD.out, hsz.out.1, hsz.out.2⟩
end Go.Proofs.Ytbijbpnhakbeeaa

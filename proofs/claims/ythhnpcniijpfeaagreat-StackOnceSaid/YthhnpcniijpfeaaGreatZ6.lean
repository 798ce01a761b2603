/- Package runs: New, out of no draws. Package arena: New (no draws). What arena.New makes. By an AI agent. -/
import Derived.Test.YthhnpcniijpfeaaGreatZRuns
import Derived.Test.YthhnpcniijpfeaaGreatZ2
namespace Go.Proofs.YthhnpcniijpfeaaGreat
open Go.RowKit
set_option linter.unusedSimpArgs false
set_option linter.unusedVariables false
set_option maxRecDepth 100000 in
set_option maxHeartbeats 2000000 in
theorem runsNew_nil (P : Int) (w : World) (h1 : 1 ≤ P) (h2 : P ≤ 4096) :
    Calls Tryz.prog 61 #[.int .i64 P, .slice none 0 0] w fun e w' => ∃ rb, e = .returned (.pointer (some ⟨rb, 0, none⟩)) ∧ RunsOne w w' rb P 0 P ∧ Adds w w' := by
  go_enter Tryz.func61, Tryz.ntmps61
  go_wp2_with fail
  refine (clone32_nil _).mono ?_; rintro e w1 ⟨rfl, ho1⟩
  go_wp2_with fail
  refine (newR_any _).mono ?_; rintro e w2 ⟨rfl, ht2, ho2⟩
  have hz1 := ho1.size; have hz2 := ho2.size; have hl2 := ht2.head.lt
  have hT : HereR w w2 w1.heap.size .nil := ⟨ht2, Tr.ok_nil, fun x hx => hx.elim (fun h => by omega) False.elim, ho1.thenF ho2⟩
  have hT2 := Lib.hid (hT.alloc (.cells #[.int .i64 P, .slice none 0 0, .int .i64 0, .pointer (some ⟨w1.heap.size, 0, none⟩), .slice none 0 0, .int .i64 0] 132))
  have hB := Lib.hid (Blk.new w2 #[.int .i64 P, .slice none 0 0, .int .i64 0, .pointer (some ⟨w1.heap.size, 0, none⟩), .slice none 0 0, .int .i64 0] 132)
  clear ht2 ho1 ho2 hT
  go_wp2_with fail
  refine (put_empty w _ w2.heap.size w1.heap.size P 0 P hB.out hT2.out (by omega) (by omega) ⟨by omega, by omega⟩ ⟨by omega, by omega⟩).mono ?_; rintro e w3 ⟨⟨v, rfl⟩, hr, ha⟩
  go_wp2
  go_ret
  exact ⟨_, rfl, hr, ha⟩
theorem words_bd {P T : Int} (h : Lay.may P T = true) : 90 ≤ Lay.words P T ∧ Lay.words P T ≤ 65536 := by
  obtain ⟨h1, h2, h3, h4⟩ := Lay.may_iff.1 h
  have hb := Lay.many_bd h1 h2
  have e : Lay.words P T = 68 + 14 * T + 6 * P + 2 * Lay.many P := by simp [Lay.words, h]
  rw [e]; omega
theorem RunsOne.keep {w0 w w' : World} {rb : Nat} {P a n : Int} (h : RunsOne w0 w rb P a n) (ho : Adds w w') : RunsOne w0 w' rb P a n := by
  obtain ⟨⟨tb, nb, v, h1, h2, h3, h4⟩, h5⟩ := h
  refine ⟨⟨tb, nb, v, h1.only ho id, h2.keep ho, ?_, h4⟩, h5⟩
  obtain ⟨e, ⟨e1, e2⟩ | ⟨g, cap, cur, e1, e2, e3, e4⟩⟩ := h3
  · exact ⟨e, .inl ⟨e1, e2⟩⟩
  · exact ⟨e, .inr ⟨g, cap, cur, e1, e2, (ho.block g (Array.getElem?_eq_some_iff.1 e3).1 id).trans e3, e4⟩⟩
theorem RunsOne.from {w0 w1 w : World} {rb : Nat} {P a n : Int} (h : RunsOne w1 w rb P a n) (ho : Adds w0 w1) (hA : Adds w0 w) : RunsOne w0 w rb P a n := by
  obtain ⟨⟨tb, nb, v, h1, h2, h3, h4⟩, h5⟩ := h
  exact ⟨⟨tb, nb, v, h1, ⟨h2.treap, h2.ok, fun x hx => Nat.le_trans ho.size (h2.fresh x hx), hA⟩, h3.mono ho.size, h4⟩, Nat.le_trans ho.size h5⟩
theorem held5 {w W w' : World} {a b c d i j k l : Nat} {x y z u : Value} (h : W.cell? ⟨a, i, none⟩ = some x ∧ W.cell? ⟨b, j, none⟩ = some y ∧ W.cell? ⟨c, k, none⟩ = some z ∧ W.cell? ⟨d, l, none⟩ = some u ∧ Adds w W) (ho : Adds W w') :
    w'.cell? ⟨a, i, none⟩ = some x ∧ w'.cell? ⟨b, j, none⟩ = some y ∧ w'.cell? ⟨c, k, none⟩ = some z ∧ w'.cell? ⟨d, l, none⟩ = some u ∧ Adds w w' :=
  ⟨(ho.cellF (p := ⟨a, i, none⟩) (cell_lt h.1) id).trans h.1, (ho.cellF (p := ⟨b, j, none⟩) (cell_lt h.2.1) id).trans h.2.1, (ho.cellF (p := ⟨c, k, none⟩) (cell_lt h.2.2.1) id).trans h.2.2.1, (ho.cellF (p := ⟨d, l, none⟩) (cell_lt h.2.2.2.1) id).trans h.2.2.2.1, h.2.2.2.2.thenF ho⟩
set_option maxHeartbeats 1000000 in
theorem arenaNew_no (P T : Int) (w : World) (h : Lay.may P T = false) :
    Calls Tryz.prog 38 #[.agg #[.int .i64 P, .int .i64 T, .slice none 0 0]] w fun e w' => e = .returned (.pointer none) ∧ Adds w w' := by
  go_enter Tryz.func38, Tryz.ntmps38
  go_wp2_with fail
  refine (layMay_any P T _).mono ?_; rintro e w1 ⟨rfl, ho⟩
  rw [h]
  go_wp2
  go_ret
  exact ⟨rfl, (((Only.refl _ _).alloc _).alloc _).thenF ho⟩
set_option maxRecDepth 100000 in
set_option maxHeartbeats 4000000 in
theorem arenaNew_ok (P T : Int) (w : World) (h : Lay.may P T = true) :
    Calls Tryz.prog 38 #[.agg #[.int .i64 P, .int .i64 T, .slice none 0 0]] w fun e w' => ∃ ab sb sm rb, e = .returned (.pointer (some ⟨ab, 0, none⟩)) ∧ IsArena w' ab sb rb P T ∧ IsStore w' sb sm (StoreS.begun (Lay.words P T).toNat 0 1) ∧ RunsOne w w' rb P 0 P ∧ Adds w w' ∧ (w.heap.size ≤ ab ∧ w.heap.size ≤ sb ∧ w.heap.size ≤ sm) := by
  obtain ⟨p1, p2, _, _⟩ := Lay.may_iff.1 h
  obtain ⟨d1, d2⟩ := words_bd h
  go_enter Tryz.func38, Tryz.ntmps38
  go_wp2_with fail
  refine (layMay_any P T _).mono ?_; rintro e w1 ⟨rfl, ho⟩
  rw [h]
  have B0 := ((Blk.new w #[.int .i64 P, .int .i64 T, .slice none 0 0] 67).alloc (.cells #[.int .i64 P, .int .i64 T] 26)).only ho id
  have B1 := (Blk.new (w.alloc (.cells #[.int .i64 P, .int .i64 T, .slice none 0 0] 67)) #[.int .i64 P, .int .i64 T] 26).only ho id
  rw [World.size_alloc] at B1
  have HA := Lib.hid ((((Only.refl (fun _ => False) w).alloc (.cells #[.int .i64 P, .int .i64 T, .slice none 0 0] 67)).alloc (.cells #[.int .i64 P, .int .i64 T] 26)).thenF ho)
  have x0 := B0.cell 0; have x2 := B0.cell 2; have y0 := B1.cell 0; have y1 := B1.cell 1
  clear h ho B0 B1
  go_wp2_with fail
  go_region_held3 (fun w' => w'.cell? ⟨w.heap.size, 0, none⟩ = some (.int .i64 P) ∧ w'.cell? ⟨w.heap.size, 2, none⟩ = some (.slice none 0 0) ∧ w'.cell? ⟨w.heap.size + 1, 0, none⟩ = some (.int .i64 P) ∧ w'.cell? ⟨w.heap.size + 1, 1, none⟩ = some (.int .i64 T) ∧ Adds w1 w')
    (first | (exact ⟨x0, x2, y0, y1, (Only.refl _ _).drew⟩) | (exact held5 (by assumption) (by assumption)) | (exact held5 (by assumption) ((Only.refl _ _).alloc _)))
    (first
    | (go_at_call 60; refine (layWords_any P T _).mono ?_; rintro e w2 ⟨rfl, ho2⟩)
    | (go_at_call 59; refine (begun_ok _ 0 1 _ (by omega) d2 (by omega) (by omega) (by omega)).mono ?_; rintro e w3 ⟨rfl, hs, ho3, hz3⟩)
    | (go_at_call 61; refine (runsNew_nil P _ p1 p2).mono ?_; rintro e w4 ⟨rb, rfl, hr, ho4⟩))
  rename_i hH
  have hAd := hH.2.2.2.2
  have hAr := (((Only.refl (fun _ => False) w1).drew).thenF ho2).thenF ho3
  have hst := (hs.only ho4 id id).alloc (.cells #[.int .i64 P, .int .i64 T, .pointer (some ⟨w2.heap.size + 1, 0, none⟩), .pointer (some ⟨rb, 0, none⟩)] 115)
  have hru := (hr.from (HA.out.thenF hAr) ((HA.out.thenF hAr).thenF ho4)).keep ((Only.refl _ w4).alloc (.cells #[.int .i64 P, .int .i64 T, .pointer (some ⟨w2.heap.size + 1, 0, none⟩), .pointer (some ⟨rb, 0, none⟩)] 115))
  have hab := Blk.new w4 #[.int .i64 P, .int .i64 T, .pointer (some ⟨w2.heap.size + 1, 0, none⟩), .pointer (some ⟨rb, 0, none⟩)] 115
  have hsz : Hid (w.heap.size ≤ w4.heap.size ∧ w.heap.size ≤ w2.heap.size + 1 ∧ w.heap.size ≤ w2.heap.size) := by
    have a1 := HA.out.size; have a2 : w1.heap.size ≤ w2.heap.size := ho2.size; have a4 := hAr.size; have a5 := ho4.size
    exact Lib.hid ⟨by omega, by omega, by omega⟩
  have HST := Lib.hid hst; have HRU := Lib.hid hru; have HAB := Lib.hid hab; have HAD := Lib.hid (HA.out.thenF hAd)
  clear hH hAd hAr hst hru hab hs hr ho2 ho3 ho4
  go_wp2
  go_ret
  exact ⟨_, _, _, _, rfl, ⟨HAB.out⟩, HST.out, HRU.out, HAD.out, hsz.out⟩
/-- What arena.New makes, as a yard. -/
theorem arenaNew_yard (P T : Int) (w : World) (h : Lay.may P T = true) :
    Calls Tryz.prog 38 #[.agg #[.int .i64 P, .int .i64 T, .slice none 0 0]] w fun e w' => ∃ ab sb sm rb, e = .returned (.pointer (some ⟨ab, 0, none⟩)) ∧ Yard w' ab sb sm rb P T (StoreS.begun (Lay.words P T).toNat 0 1) ∧ Adds w w' ∧ (w.heap.size ≤ ab ∧ w.heap.size ≤ sb ∧ w.heap.size ≤ sm) :=
  (arenaNew_ok P T w h).mono (fun _ _ ⟨ab, sb, sm, rb, he, ha, hs, _, ho⟩ => ⟨ab, sb, sm, rb, he, ⟨ha, hs⟩, ho⟩)
theorem begun_len (n : Nat) (k : Nat) (v : Int) : (StoreS.begun n k v).ws.length = n := by simp [StoreS.begun, StoreS.fresh]
theorem begun_other (n : Nat) (v : Int) (i : Int) (h : 1 ≤ i) : (StoreS.begun n 0 v).word i = 0 := by
  have e : (0 : Nat) ≠ i.toNat := by omega
  simp only [StoreS.word, StoreS.begun, StoreS.fresh, List.getD_eq_getElem?_getD, List.getElem?_set_ne e, List.getElem?_replicate]
  split <;> simp
theorem begun_inR {n k : Nat} {v : Int} {i : Int} (h0 : 0 ≤ i) (h1 : i < n) : (StoreS.begun n k v).inR i := ⟨h0, by rw [begun_len]; exact h1⟩
end Go.Proofs.YthhnpcniijpfeaaGreat

/- Package record: Read. By an AI agent. -/
import Derived.Test.YtbepbcjklgfmjaaGreatDoorZRecord2
import Derived.Test.YtbepbcjklgfmjaaGreatDoorZA
import Derived.Test.YtbepbcjklgfmjaaGreatDoorZ1
import Derived.Test.YtbepbcjklgfmjaaGreatDoorZ6
import Derived.Deep.RegionWith
namespace Go.Proofs.YtbepbcjklgfmjaaGreatDoor
open Go.RowKit
set_option linter.unusedSimpArgs false
set_option linter.unusedVariables false
theorem held4 {w W w' : World} {b1 o1 b2 o2 b3 o3 b4 o4 : Nat} {x1 x2 x3 x4 : Value} (h : W.cell? ⟨b1, o1, none⟩ = some x1 ∧ W.cell? ⟨b2, o2, none⟩ = some x2 ∧ W.cell? ⟨b3, o3, none⟩ = some x3 ∧ W.cell? ⟨b4, o4, none⟩ = some x4 ∧ Adds w W) (ho : Adds W w') :
    w'.cell? ⟨b1, o1, none⟩ = some x1 ∧ w'.cell? ⟨b2, o2, none⟩ = some x2 ∧ w'.cell? ⟨b3, o3, none⟩ = some x3 ∧ w'.cell? ⟨b4, o4, none⟩ = some x4 ∧ Adds w w' :=
  ⟨(ho.cellF (p := ⟨b1, o1, none⟩) (cell_lt h.1) id).trans h.1, (ho.cellF (p := ⟨b2, o2, none⟩) (cell_lt h.2.1) id).trans h.2.1, (ho.cellF (p := ⟨b3, o3, none⟩) (cell_lt h.2.2.1) id).trans h.2.2.1, (ho.cellF (p := ⟨b4, o4, none⟩) (cell_lt h.2.2.2.1) id).trans h.2.2.2.1, h.2.2.2.2.thenF ho⟩
section
variable {w : World} {ab sb sm rb ja jl jp : Nat} {P T pg k : Int} {g : Int → Int}
theorem YW.peek (hY : YW w ab sb sm rb P T g) {i : Int} (h0 : 0 ≤ i) (h1 : i < Lay.words P T) : Calls Tryz.prog 29 #[.pointer (some ⟨sb, 0, none⟩), .int .i64 i] w fun e w' => e = .returned (.int .u64 (g i)) ∧ w = w' := by
  obtain ⟨s, hy, hl, hg⟩ := hY
  rw [← hg i h0 h1]
  exact peek_in sb sm i s w hy.st ⟨h0, by rw [hl]; omega⟩
set_option maxRecDepth 100000 in
set_option maxHeartbeats 4000000 in
theorem say_any (hY : YW w ab sb sm rb P T g) (hm : Lay.may P T = true) (ha : Blk w ja #[ptr ab] 26) (hl : Blk w jl #[.int .i64 P, .int .i64 T] 35) (hp : Blk w jp #[.int .i64 pg] 3) (h0 : 0 ≤ pg) (h1 : pg < P) (k0 : 9 ≤ k) (k1 : k < 15) :
    Calls Tryz.prog 28 #[.int .i64 k, ptr ja, ptr jl, ptr jp] w fun e w' => e = .returned (.int .u64 (g (recAt P T k pg))) ∧ Adds w w' := by
  have hb := recAt_bd hm h0 h1 k0 k1
  obtain ⟨x, hx⟩ : ∃ x, x = recAt P T k pg := ⟨_, rfl⟩
  rw [← hx] at hb ⊢
  have HX := Lib.hid hx; have HB := Lib.hid hb; have HY := Lib.hid hY
  have c0 := ha.one; have c1 : w.cell? ⟨jl, 0, none⟩ = some (.int .i64 P) := hl.cell 0
  have c2 : w.cell? ⟨jl, 1, none⟩ = some (.int .i64 T) := hl.cell 1
  have c3 := hp.one
  have hAr : Hid (IsArena w ab sb rb P T) := Lib.hid (by obtain ⟨s, hy, _⟩ := hY; exact hy.ar)
  clear hY ha hl hp hx hb h0 h1
  go_enter Tryz.func28, Tryz.ntmps28
  go_wp2_with fail
  have HG : Hid (∀ W, (W.cell? ⟨ja, 0, none⟩ = some (ptr ab) ∧ W.cell? ⟨jl, 0, none⟩ = some (.int .i64 P) ∧ W.cell? ⟨jl, 1, none⟩ = some (.int .i64 T) ∧ W.cell? ⟨jp, 0, none⟩ = some (.int .i64 pg) ∧ Adds w W) → Adds w W) := Lib.hid (fun _ h => h.2.2.2.2)
  go_region_held3 (fun W => W.cell? ⟨ja, 0, none⟩ = some (ptr ab) ∧ W.cell? ⟨jl, 0, none⟩ = some (.int .i64 P) ∧ W.cell? ⟨jl, 1, none⟩ = some (.int .i64 T) ∧ W.cell? ⟨jp, 0, none⟩ = some (.int .i64 pg) ∧ Adds w W)
    (first | assumption | (exact ⟨c0, c1, c2, c3, (Only.refl _ _).drew⟩) | (exact held4 (by assumption) (by first | assumption | exact Only.refl _ _)))
    (first
    | (go_at_call 22; refine (arenaStore_any (hAr.out.only (HG.out _ (by assumption)) id)).mono ?_; rintro e u1 ⟨rfl, rfl⟩)
    | (go_at_call 30; refine (recAt_any P T k pg _).mono ?_; rintro e u2 ⟨rfl, ho2⟩; rw [← HX.out])
    | (go_at_call 29; refine ((HY.out.adds (HG.out _ (by assumption))).peek HB.out.1 HB.out.2).mono ?_; rintro e u3 ⟨rfl, rfl⟩))
  rename_i hH
  go_wp2
  go_ret
  exact ⟨rfl, hH.2.2.2.2⟩
end
abbrev spanZ : Array Value := #[.int .i64 0, .int .i64 0, .int .i64 0, .int .i64 0, .int .i64 0, .int .u64 0, .int .u64 0]
theorem Blk.seven {w : World} {b : Nat} {x0 x1 x2 x3 x4 x5 x6 : Value} {t : TypeId} (h : Blk w b #[x0, x1, x2, x3, x4, x5, x6] t) : w.cell? ⟨b, 0, none⟩ = some x0 ∧ w.cell? ⟨b, 1, none⟩ = some x1 ∧ w.cell? ⟨b, 2, none⟩ = some x2 ∧ w.cell? ⟨b, 3, none⟩ = some x3 ∧ w.cell? ⟨b, 4, none⟩ = some x4 ∧ w.cell? ⟨b, 5, none⟩ = some x5 ∧ w.cell? ⟨b, 6, none⟩ = some x6 ∧ w.frozen? ⟨b, 0, none⟩ = false ∧ w.frozen? ⟨b, 1, none⟩ = false ∧ w.frozen? ⟨b, 2, none⟩ = false ∧ w.frozen? ⟨b, 3, none⟩ = false ∧ w.frozen? ⟨b, 4, none⟩ = false ∧ w.frozen? ⟨b, 5, none⟩ = false ∧ w.frozen? ⟨b, 6, none⟩ = false :=
  ⟨h.cell 0, h.cell 1, h.cell 2, h.cell 3, h.cell 4, h.cell 5, h.cell 6, h.frozen 0, h.frozen 1, h.frozen 2, h.frozen 3, h.frozen 4, h.frozen 5, h.frozen 6⟩
theorem only_box7 {S : Nat → Prop} {w W : World} {r : Nat} (h : Only S w W) (hr : S r ∨ w.heap.size ≤ r) (v0 v1 v2 v3 v4 v5 v6 : Value) :
    Only S w (((((((W.setCell ⟨r, 0, none⟩ v0).setCell ⟨r, 1, none⟩ v1).setCell ⟨r, 2, none⟩ v2).setCell ⟨r, 3, none⟩ v3).setCell ⟨r, 4, none⟩ v4).setCell ⟨r, 5, none⟩ v5).setCell ⟨r, 6, none⟩ v6) :=
  ((((((h.setCell hr _).setCell hr _).setCell hr _).setCell hr _).setCell hr _).setCell hr _).setCell hr _
set_option maxRecDepth 100000 in
set_option maxHeartbeats 4000000 in
theorem read_nil (pg : Int) (w : World) : Calls Tryz.prog 8 #[.pointer none, .int .i64 pg] w fun e w' => e = .returned (.tuple #[.agg spanZ, .bool false]) ∧ Adds w w' := by
  obtain ⟨wE, hE⟩ : ∃ wE, wE = ((w.alloc (.cells #[.pointer none] 26)).alloc (.cells #[.int .i64 pg] 3)).alloc (.cells spanZ 39) := ⟨_, rfl⟩
  have HA0 : Hid (Blk wE w.heap.size #[.pointer none] 26) := by rw [hE]; exact Lib.hid (((Blk.new w _ _).alloc _).alloc _)
  have HP0 : Hid (Blk wE (w.heap.size + 1) #[.int .i64 pg] 3) := by rw [hE]; exact Lib.hid ((by simpa using Blk.new (w.alloc (.cells #[.pointer none] 26)) #[.int .i64 pg] 3 : Blk _ (w.heap.size + 1) _ _).alloc _)
  have HR0 : Hid (Blk wE (w.heap.size + 1 + 1) spanZ 39) := by rw [hE]; exact Lib.hid (by simpa using Blk.new ((w.alloc (.cells #[.pointer none] 26)).alloc (.cells #[.int .i64 pg] 3)) spanZ 39)
  have HAd : Hid (Adds w wE) := by rw [hE]; exact Lib.hid ((((Only.refl _ _).alloc _).alloc _).alloc _)
  have HE := Lib.hid hE
  clear hE
  rcases Int.lt_or_le pg 0 with h | h
  all_goals
    go_enter Tryz.func8, Tryz.ntmps8
    go_wp2_with (go_at_call 27; refine (arenaLayout_nil _).mono ?_; rintro e w1 ⟨rfl, ho1⟩; rw [← HE.out] at ho1; have HO1 := Lib.hid ho1; have hp1 := (HP0.out.only ho1 id).one; have hr1 := HR0.out.only ho1 id; have lp1 := (HP0.out.only ho1 id).lt; have la1 := (HA0.out.only ho1 id).lt; have lr1 := hr1.lt; obtain ⟨q0, q1, q2, q3, q4, q5, q6, f0, f1, f2, f3, f4, f5, f6⟩ := hr1.seven; have HR1 := Lib.hid hr1; clear ho1 hr1)
    have hbf : Blk _ (w.heap.size + 1 + 1) spanZ 39 := (((((((HR1.out.setCell 0 (.int .i64 0)).setCell 1 (.int .i64 0)).setCell 2 (.int .i64 0)).setCell 3 (.int .i64 0)).setCell 4 (.int .i64 0)).setCell 5 (.int .u64 0)).setCell 6 (.int .u64 0)).alloc (.cells #[.int .i64 0, .int .i64 0] 35)
    obtain ⟨y0, y1, y2, y3, y4, y5, y6, -⟩ := hbf.seven
    exact bodyPost_ret (v := .tuple #[.agg spanZ, .bool false]) (by simp [y0, y1, y2, y3, y4, y5, y6, results, Tryz.results8, go_sem]) rfl ⟨rfl, (only_box7 (HAd.out.thenF HO1.out) (.inr (by omega)) _ _ _ _ _ _ _).alloc _⟩
section
variable {w : World} {ab sb sm rb : Nat} {P T pg : Int} {g : Int → Int}
set_option maxRecDepth 100000 in
set_option maxHeartbeats 4000000 in
theorem read_out (hY : YW w ab sb sm rb P T g) (h : pg < 0 ∨ P ≤ pg) : Calls Tryz.prog 8 #[ptr ab, .int .i64 pg] w fun e w' => e = .returned (.tuple #[.agg spanZ, .bool false]) ∧ Adds w w' := by
  have hAr : Hid (IsArena w ab sb rb P T) := Lib.hid (by obtain ⟨s, hy, _⟩ := hY; exact hy.ar)
  have h2 : pg < 0 ∨ (0 ≤ pg ∧ P ≤ pg) := by omega
  clear h hY
  obtain ⟨wE, hE⟩ : ∃ wE, wE = ((w.alloc (.cells #[ptr ab] 26)).alloc (.cells #[.int .i64 pg] 3)).alloc (.cells spanZ 39) := ⟨_, rfl⟩
  have HA0 : Hid (Blk wE w.heap.size #[ptr ab] 26) := by rw [hE]; exact Lib.hid (((Blk.new w _ _).alloc _).alloc _)
  have HP0 : Hid (Blk wE (w.heap.size + 1) #[.int .i64 pg] 3) := by rw [hE]; exact Lib.hid ((by simpa using Blk.new (w.alloc (.cells #[ptr ab] 26)) #[.int .i64 pg] 3 : Blk _ (w.heap.size + 1) _ _).alloc _)
  have HR0 : Hid (Blk wE (w.heap.size + 1 + 1) spanZ 39) := by rw [hE]; exact Lib.hid (by simpa using Blk.new ((w.alloc (.cells #[ptr ab] 26)).alloc (.cells #[.int .i64 pg] 3)) spanZ 39)
  have HAd : Hid (Adds w wE) := by rw [hE]; exact Lib.hid ((((Only.refl _ _).alloc _).alloc _).alloc _)
  have HE := Lib.hid hE
  clear hE
  rcases h2 with h | ⟨h, h3⟩
  all_goals
    go_enter Tryz.func8, Tryz.ntmps8
    go_wp2_with (go_at_call 27; refine (arenaLayout_any (hAr.out.only (by rw [← HE.out]; exact HAd.out) id)).mono ?_; rintro e w1 ⟨rfl, ho1⟩; rw [← HE.out] at ho1; have HO1 := Lib.hid ho1; have hp1 := (HP0.out.only ho1 id).one; have hr1 := HR0.out.only ho1 id; have lp1 := (HP0.out.only ho1 id).lt; have la1 := (HA0.out.only ho1 id).lt; have lr1 := hr1.lt; obtain ⟨q0, q1, q2, q3, q4, q5, q6, f0, f1, f2, f3, f4, f5, f6⟩ := hr1.seven; have HR1 := Lib.hid hr1; clear ho1 hr1)
    have hbf : Blk _ (w.heap.size + 1 + 1) spanZ 39 := (((((((HR1.out.setCell 0 (.int .i64 0)).setCell 1 (.int .i64 0)).setCell 2 (.int .i64 0)).setCell 3 (.int .i64 0)).setCell 4 (.int .i64 0)).setCell 5 (.int .u64 0)).setCell 6 (.int .u64 0)).alloc (.cells #[.int .i64 P, .int .i64 T] 35)
    obtain ⟨y0, y1, y2, y3, y4, y5, y6, -⟩ := hbf.seven
    exact bodyPost_ret (v := .tuple #[.agg spanZ, .bool false]) (by simp [y0, y1, y2, y3, y4, y5, y6, results, Tryz.results8, go_sem]) rfl ⟨rfl, (only_box7 (HAd.out.thenF HO1.out) (.inr (by omega)) _ _ _ _ _ _ _).alloc _⟩
set_option maxRecDepth 100000 in
set_option maxHeartbeats 4000000 in
theorem read_zero (hY : YW w ab sb sm rb P T g) (hm : Lay.may P T = true) (h0 : 0 ≤ pg) (h1 : pg < P) (hz : g (recAt P T 9 pg) = 0) : Calls Tryz.prog 8 #[ptr ab, .int .i64 pg] w fun e w' => e = .returned (.tuple #[.agg spanZ, .bool false]) ∧ Adds w w' := by
  have hAr : Hid (IsArena w ab sb rb P T) := Lib.hid (by obtain ⟨s, hy, _⟩ := hY; exact hy.ar)
  have HY := Lib.hid hY; have HZ := Lib.hid hz; have HM := Lib.hid hm
  clear hY hz hm
  obtain ⟨wE, hE⟩ : ∃ wE, wE = ((w.alloc (.cells #[ptr ab] 26)).alloc (.cells #[.int .i64 pg] 3)).alloc (.cells spanZ 39) := ⟨_, rfl⟩
  have HA0 : Hid (Blk wE w.heap.size #[ptr ab] 26) := by rw [hE]; exact Lib.hid (((Blk.new w _ _).alloc _).alloc _)
  have HP0 : Hid (Blk wE (w.heap.size + 1) #[.int .i64 pg] 3) := by rw [hE]; exact Lib.hid ((by simpa using Blk.new (w.alloc (.cells #[ptr ab] 26)) #[.int .i64 pg] 3 : Blk _ (w.heap.size + 1) _ _).alloc _)
  have HR0 : Hid (Blk wE (w.heap.size + 1 + 1) spanZ 39) := by rw [hE]; exact Lib.hid (by simpa using Blk.new ((w.alloc (.cells #[ptr ab] 26)).alloc (.cells #[.int .i64 pg] 3)) spanZ 39)
  have HAd : Hid (Adds w wE) := by rw [hE]; exact Lib.hid ((((Only.refl _ _).alloc _).alloc _).alloc _)
  have HE := Lib.hid hE
  clear hE
  go_enter Tryz.func8, Tryz.ntmps8
  go_wp2_with (first
    | (go_at_call 27; refine (arenaLayout_any (hAr.out.only (by rw [← HE.out]; exact HAd.out) id)).mono ?_; rintro e w1 ⟨rfl, ho1⟩; rw [← HE.out] at ho1; have HO1 := Lib.hid ho1; have hp1 := (HP0.out.only ho1 id).one; have hr1 := HR0.out.only ho1 id; have lp1 := (HP0.out.only ho1 id).lt; have la1 := (HA0.out.only ho1 id).lt; have lr1 := hr1.lt; obtain ⟨q0, q1, q2, q3, q4, q5, q6, f0, f1, f2, f3, f4, f5, f6⟩ := hr1.seven; have HR1 := Lib.hid hr1; clear ho1 hr1)
    | (go_at_call 28; refine (say_any (HY.out.adds ((HAd.out.thenF HO1.out).alloc _)) HM.out ((HA0.out.only HO1.out id).alloc _) (Blk.new w1 _ _) ((HP0.out.only HO1.out id).alloc _) h0 h1 (by omega) (by omega)).mono ?_; rintro e w2 ⟨rfl, ho2⟩; rw [HZ.out]; have HO2 := Lib.hid (((HAd.out.thenF HO1.out).alloc _).thenF ho2); have hr2 := (HR1.out.alloc (.cells #[.int .i64 P, .int .i64 T] 35)).only ho2 id; obtain ⟨s0, s1, s2, s3, s4, s5, s6, t0, t1, t2, t3, t4, t5, t6⟩ := hr2.seven; clear ho2 hr2))
  exact bodyPost_ret (v := .tuple #[.agg spanZ, .bool false]) (by simp [s0, s1, s2, s3, s4, s5, s6, results, Tryz.results8, go_sem]) rfl ⟨rfl, only_box7 HO2.out (.inr (by omega)) _ _ _ _ _ _ _⟩
set_option maxRecDepth 100000 in
set_option maxHeartbeats 4000000 in
theorem parted_any (x : Int) (w : World) (h0 : 0 ≤ x) (h1 : x < 18446744073709551616) : Calls Tryz.prog 31 #[.int .u64 x] w fun e w' => e = .returned (.tuple #[.int .i64 (x % 256), .int .i64 (x / 256)]) ∧ w = w' := by
  have e1 : IntKind.i64.wrap (x % 256) = x % 256 := by rw [IntKind.wrap_i64]; omega
  have e2 : IntKind.i64.wrap (x / 256) = x / 256 := by rw [IntKind.wrap_i64]; omega
  have e3 : Int.tmod x 256 = x % 256 := Int.tmod_eq_emod_of_nonneg h0
  have e4 : Int.tdiv x 256 = x / 256 := Int.tdiv_eq_ediv_of_nonneg h0
  go_enter Tryz.func31, Tryz.ntmps31
  go_wp2
  go_ret2
  exact ⟨by simp [*], rfl⟩
abbrev spanV (pg ps cl gn ph al mk : Int) : Value := .agg #[.int .i64 pg, .int .i64 ps, .int .i64 cl, .int .i64 gn, .int .i64 ph, .int .u64 al, .int .u64 mk]
set_option maxRecDepth 100000 in
set_option maxHeartbeats 4000000 in
theorem read_some (hY : YW w ab sb sm rb P T g) (hm : Lay.may P T = true) (h0 : 0 ≤ pg) (h1 : pg < P) {st bs al mk : Int} (hst : g (recAt P T 9 pg) = st) (hz : st ≠ 0) (hbs : g (recAt P T 10 pg) = bs) (hal : g (recAt P T 12 pg) = al) (hmk : g (recAt P T 13 pg) = mk) (b0 : 0 ≤ st ∧ st < 18446744073709551616) (b1 : 0 ≤ bs ∧ bs < 18446744073709551616) :
    Calls Tryz.prog 8 #[ptr ab, .int .i64 pg] w fun e w' => e = .returned (.tuple #[spanV pg (bs / 256) (bs % 256) (Ph.gen st) (Ph.ph st) al mk, .bool true]) ∧ Adds w w' := by
  have hAr : Hid (IsArena w ab sb rb P T) := Lib.hid (by obtain ⟨s, hy, _⟩ := hY; exact hy.ar)
  have HY := Lib.hid hY; have HM := Lib.hid hm; have H9 := Lib.hid hst; have H10 := Lib.hid hbs; have H12 := Lib.hid hal; have H13 := Lib.hid hmk; have HB0 := Lib.hid b0; have HB1 := Lib.hid b1
  obtain ⟨GN, hgn⟩ : ∃ GN, GN = Ph.gen st := ⟨_, rfl⟩
  obtain ⟨PH, hph⟩ : ∃ PH, PH = Ph.ph st := ⟨_, rfl⟩
  obtain ⟨BQ, hbq⟩ : ∃ BQ, BQ = bs / 256 := ⟨_, rfl⟩
  obtain ⟨BR, hbr⟩ : ∃ BR, BR = bs % 256 := ⟨_, rfl⟩
  rw [← hgn, ← hph, ← hbq, ← hbr]
  have HGN := Lib.hid hgn; have HPH := Lib.hid hph; have HBQ := Lib.hid hbq; have HBR := Lib.hid hbr
  have z1 : (st == 0) = false := by simpa using hz
  clear hY hm hst hbs hal hmk b0 b1 hgn hph hbq hbr
  obtain ⟨wE, hE⟩ : ∃ wE, wE = ((w.alloc (.cells #[ptr ab] 26)).alloc (.cells #[.int .i64 pg] 3)).alloc (.cells spanZ 39) := ⟨_, rfl⟩
  have HA0 : Hid (Blk wE w.heap.size #[ptr ab] 26) := by rw [hE]; exact Lib.hid (((Blk.new w _ _).alloc _).alloc _)
  have HP0 : Hid (Blk wE (w.heap.size + 1) #[.int .i64 pg] 3) := by rw [hE]; exact Lib.hid ((by simpa using Blk.new (w.alloc (.cells #[ptr ab] 26)) #[.int .i64 pg] 3 : Blk _ (w.heap.size + 1) _ _).alloc _)
  have HR0 : Hid (Blk wE (w.heap.size + 1 + 1) spanZ 39) := by rw [hE]; exact Lib.hid (by simpa using Blk.new ((w.alloc (.cells #[ptr ab] 26)).alloc (.cells #[.int .i64 pg] 3)) spanZ 39)
  have HAd : Hid (Adds w wE) := by rw [hE]; exact Lib.hid ((((Only.refl _ _).alloc _).alloc _).alloc _)
  have HE := Lib.hid hE
  clear hE
  go_enter Tryz.func8, Tryz.ntmps8
  go_wp2_with (first
    | (go_at_call 27; refine (arenaLayout_any (hAr.out.only (by rw [← HE.out]; exact HAd.out) id)).mono ?_; rintro e w1 ⟨rfl, ho1⟩; rw [← HE.out] at ho1; have HO1 := Lib.hid ho1; have hp1 := (HP0.out.only ho1 id).one; have hr1 := HR0.out.only ho1 id; have lp1 := (HP0.out.only ho1 id).lt; have la1 := (HA0.out.only ho1 id).lt; have lr1 := hr1.lt; obtain ⟨q0, q1, q2, q3, q4, q5, q6, f0, f1, f2, f3, f4, f5, f6⟩ := hr1.seven; have HR1 := Lib.hid hr1; clear ho1 hr1)
    | (go_at_call 28; with_reducible refine (say_any (k := 9) (HY.out.adds ((HAd.out.thenF HO1.out).alloc _)) HM.out ((HA0.out.only HO1.out id).alloc _) (Blk.new w1 _ _) ((HP0.out.only HO1.out id).alloc _) h0 h1 (by omega) (by omega)).mono ?_; rintro e w2 ⟨rfl, ho2⟩; rw [H9.out]; have HO2 := Lib.hid ho2; have HX2 := Lib.hid (((HAd.out.thenF HO1.out).alloc (.cells #[.int .i64 P, .int .i64 T] 35)).thenF ho2); have HA2 := Lib.hid (((HA0.out.only HO1.out id).alloc (.cells #[.int .i64 P, .int .i64 T] 35)).only ho2 id); have HL2 := Lib.hid ((Blk.new w1 #[.int .i64 P, .int .i64 T] 35).only ho2 id); have HP2 := Lib.hid (((HP0.out.only HO1.out id).alloc (.cells #[.int .i64 P, .int .i64 T] 35)).only ho2 id); have HR2 := Lib.hid ((HR1.out.alloc (.cells #[.int .i64 P, .int .i64 T] 35)).only ho2 id); clear ho2)
    | (go_at_call 28; with_reducible refine (say_any (k := 10) (HY.out.adds HX2.out) HM.out HA2.out HL2.out HP2.out h0 h1 (by omega) (by omega)).mono ?_; rintro e w3 ⟨rfl, ho3⟩; rw [H10.out]; have HX3 := Lib.hid (HX2.out.thenF ho3); have HA3 := Lib.hid (HA2.out.only ho3 id); have HL3 := Lib.hid (HL2.out.only ho3 id); have HP3 := Lib.hid (HP2.out.only ho3 id); have HR3 := Lib.hid (HR2.out.only ho3 id); have p3 := HP3.out.one; clear ho3)
    | (go_at_call 31; refine (parted_any bs _ HB1.out.1 HB1.out.2).mono ?_; rintro e w4 ⟨rfl, rfl⟩; rw [← HBQ.out, ← HBR.out]))
  clear hp1 lp1 la1 lr1 q0 q1 q2 q3 q4 q5 q6 f0 f1 f2 f3 f4 f5 f6
  have lp3 := HP3.out.lt
  go_region_with ((first
    | (go_at_call 32; refine (phGen_any st _ HB0.out.1 HB0.out.2).mono ?_; rintro e u1 ⟨rfl, k1, rfl⟩; rw [← HGN.out])
    | (go_at_call 33; refine (phPhase_any st _ HB0.out.1 HB0.out.2).mono ?_; rintro e u2 ⟨rfl, k2, rfl⟩; rw [← HPH.out])
    | (go_at_call 28; with_reducible refine (say_any (k := 12) (HY.out.adds (HX3.out.thenF ((Only.refl (fun _ => False) w3).drewN (1 + k1 + k2)))) HM.out (HA3.out.only ((Only.refl (fun _ => False) w3).drewN (1 + k1 + k2)) id) (HL3.out.only ((Only.refl (fun _ => False) w3).drewN (1 + k1 + k2)) id) (HP3.out.only ((Only.refl (fun _ => False) w3).drewN (1 + k1 + k2)) id) h0 h1 (by omega) (by omega)).mono ?_; rintro e u3 ⟨rfl, ho3⟩; rw [H12.out]; have hx4 := HX3.out.thenF (((Only.refl (fun _ => False) w3).drewN (1 + k1 + k2)).thenF ho3); have HX4 := Lib.hid hx4; have HA4 := Lib.hid (HA3.out.only (((Only.refl (fun _ => False) w3).drewN (1 + k1 + k2)).thenF ho3) id); have HL4 := Lib.hid (HL3.out.only (((Only.refl (fun _ => False) w3).drewN (1 + k1 + k2)).thenF ho3) id); have HP4 := Lib.hid (HP3.out.only (((Only.refl (fun _ => False) w3).drewN (1 + k1 + k2)).thenF ho3) id); have HR4 := Lib.hid (HR3.out.only (((Only.refl (fun _ => False) w3).drewN (1 + k1 + k2)).thenF ho3) id); have p4 := HP4.out.one; have lp4 := HP4.out.lt; clear ho3 hx4)
    | (go_at_call 28; with_reducible refine (say_any (k := 13) (HY.out.adds HX4.out) HM.out HA4.out HL4.out HP4.out h0 h1 (by omega) (by omega)).mono ?_; rintro e u4 ⟨rfl, ho4⟩; rw [H13.out]; have HX5 := Lib.hid (HX4.out.thenF ho4); have hr5 := HR4.out.only ho4 id; have HR5 := Lib.hid hr5; have p5 := (HP4.out.only ho4 id).one; have lp5 := (HP4.out.only ho4 id).lt; have lr5 := hr5.lt; obtain ⟨s0, s1, s2, s3, s4, s5, s6, t0, t1, t2, t3, t4, t5, t6⟩ := hr5.seven; clear ho4 hr5)))
  all_goals (
    go_wp2_with fail
    have hbf : Blk _ (w.heap.size + 1 + 1) #[.int .i64 pg, .int .i64 BQ, .int .i64 BR, .int .i64 GN, .int .i64 PH, .int .u64 al, .int .u64 mk] 39 := ((((((HR5.out.setCell 0 (.int .i64 pg)).setCell 1 (.int .i64 BQ)).setCell 2 (.int .i64 BR)).setCell 3 (.int .i64 GN)).setCell 4 (.int .i64 PH)).setCell 5 (.int .u64 al)).setCell 6 (.int .u64 mk)
    obtain ⟨y0, y1, y2, y3, y4, y5, y6, -⟩ := hbf.seven
    exact bodyPost_ret (v := .tuple #[spanV pg BQ BR GN PH al mk, .bool true]) (by simp [y0, y1, y2, y3, y4, y5, y6, results, Tryz.results8, go_sem]) rfl ⟨rfl, only_box7 HX5.out (.inr (by omega)) _ _ _ _ _ _ _⟩)
end
end Go.Proofs.YtbepbcjklgfmjaaGreatDoor

/- Package record: At, Base; what a lay, and a gone, does behind each step. By an AI agent. -/
import Derived.Test.YtbepbcjklgfmjaaGreatDoorZ3
import Derived.Test.YtbepbcjklgfmjaaGreatDoorZ7
import Derived.Test.YtbepbcjklgfmjaaGreatDoorZ4
import Derived.Deep.RegionHeld3
namespace Go.Proofs.YtbepbcjklgfmjaaGreatDoor
open Go.RowKit
set_option linter.unusedSimpArgs false
set_option linter.unusedVariables false
def recAt (P T k p : Int) : Int := atV (Lay.pageOk P T k p) (Lay.pageAt P T k p)
set_option maxHeartbeats 400000 in
theorem recAt_any (P T k p : Int) (w : World) :
    Calls Tryz.prog 30 #[.agg #[.int .i64 P, .int .i64 T], .int .i64 k, .int .i64 p] w fun e w' => e = .returned (.int .i64 (recAt P T k p)) ∧ Adds w w' := by
  obtain ⟨ok, hok⟩ : ∃ ok, ok = Lay.pageOk P T k p := ⟨_, rfl⟩
  obtain ⟨x, hx⟩ : ∃ x, x = Lay.pageAt P T k p := ⟨_, rfl⟩
  have he : Hid (∀ P', P' = atOf (Lay.pageOk P T k p) (Lay.pageAt P T k p) → P' = .returned (.tuple #[.int .i64 (recAt P T k p), .bool ok])) := Lib.hid (fun P' h => by rw [h]; unfold atOf recAt; rw [hok])
  obtain ⟨y, hy⟩ : ∃ y, y = recAt P T k p := ⟨_, rfl⟩
  rw [← hy] at he ⊢
  clear hok hx hy
  go_enter Tryz.func30, Tryz.ntmps30
  go_wp2_with (go_at_call 65; refine (layPage_any P T k p _).mono ?_; rintro e w1 ⟨he1, ho1⟩; have he2 := he.out _ he1; subst he2)
  go_ret
  exact ⟨rfl, Adds.box ho1⟩
theorem Blk.multiR {w : World} {m b : Nat} {c : Array Value} {x : Value} {t u : TypeId} (h : Blk w m c t) (hc : c.size ≠ 1) (hb : Blk w b #[x] u) : ¬ b = m := h.multi' hc hb
set_option maxHeartbeats 400000 in
theorem recBase_any (c n : Int) (w : World) (h0 : 0 ≤ c) (h1 : c < 256) (h2 : 0 ≤ n) (h3 : n < 65536) :
    Calls Tryz.prog 37 #[.int .i64 c, .int .i64 n] w fun e w' => e = .returned (.int .u64 (256 * n + c)) ∧ w = w' := by
  have e2 : IntKind.u64.wrap (256 * n + c) = 256 * n + c := by rw [IntKind.wrap_u64]; omega
  have e1 : IntKind.i64.wrap (256 * n + c) = 256 * n + c := by rw [IntKind.wrap_i64]; omega
  have e0 : IntKind.i64.wrap (256 * n) = 256 * n := by rw [IntKind.wrap_i64]; omega
  go_enter Tryz.func37, Tryz.ntmps37
  go_wp2
  go_ret
  exact ⟨by simp [*], rfl⟩

theorem rec_keep5 {W w' : World} {b1 o1 b2 o2 b3 o3 b4 o4 b5 o5 : Nat} {x1 x2 x3 x4 x5 : Value} (h : W.cell? ⟨b1, o1, none⟩ = some x1 ∧ W.cell? ⟨b2, o2, none⟩ = some x2 ∧ W.cell? ⟨b3, o3, none⟩ = some x3 ∧ W.cell? ⟨b4, o4, none⟩ = some x4 ∧ W.cell? ⟨b5, o5, none⟩ = some x5 ∧ True) (ho : Adds W w') : w'.cell? ⟨b1, o1, none⟩ = some x1 ∧ w'.cell? ⟨b2, o2, none⟩ = some x2 ∧ w'.cell? ⟨b3, o3, none⟩ = some x3 ∧ w'.cell? ⟨b4, o4, none⟩ = some x4 ∧ w'.cell? ⟨b5, o5, none⟩ = some x5 ∧ True :=
  ⟨(ho.cellF (p := ⟨b1, o1, none⟩) (cell_lt h.1) id).trans h.1, (ho.cellF (p := ⟨b2, o2, none⟩) (cell_lt h.2.1) id).trans h.2.1, (ho.cellF (p := ⟨b3, o3, none⟩) (cell_lt h.2.2.1) id).trans h.2.2.1, (ho.cellF (p := ⟨b4, o4, none⟩) (cell_lt h.2.2.2.1) id).trans h.2.2.2.1, (ho.cellF (p := ⟨b5, o5, none⟩) (cell_lt h.2.2.2.2.1) id).trans h.2.2.2.2.1, trivial⟩

theorem rec_keep6 {W w' : World} {b1 o1 b2 o2 b3 o3 b4 o4 b5 o5 b6 o6 : Nat} {x1 x2 x3 x4 x5 x6 : Value} (h : W.cell? ⟨b1, o1, none⟩ = some x1 ∧ W.cell? ⟨b2, o2, none⟩ = some x2 ∧ W.cell? ⟨b3, o3, none⟩ = some x3 ∧ W.cell? ⟨b4, o4, none⟩ = some x4 ∧ W.cell? ⟨b5, o5, none⟩ = some x5 ∧ W.cell? ⟨b6, o6, none⟩ = some x6 ∧ True) (ho : Adds W w') : w'.cell? ⟨b1, o1, none⟩ = some x1 ∧ w'.cell? ⟨b2, o2, none⟩ = some x2 ∧ w'.cell? ⟨b3, o3, none⟩ = some x3 ∧ w'.cell? ⟨b4, o4, none⟩ = some x4 ∧ w'.cell? ⟨b5, o5, none⟩ = some x5 ∧ w'.cell? ⟨b6, o6, none⟩ = some x6 ∧ True :=
  ⟨(ho.cellF (p := ⟨b1, o1, none⟩) (cell_lt h.1) id).trans h.1, (ho.cellF (p := ⟨b2, o2, none⟩) (cell_lt h.2.1) id).trans h.2.1, (ho.cellF (p := ⟨b3, o3, none⟩) (cell_lt h.2.2.1) id).trans h.2.2.1, (ho.cellF (p := ⟨b4, o4, none⟩) (cell_lt h.2.2.2.1) id).trans h.2.2.2.1, (ho.cellF (p := ⟨b5, o5, none⟩) (cell_lt h.2.2.2.2.1) id).trans h.2.2.2.2.1, (ho.cellF (p := ⟨b6, o6, none⟩) (cell_lt h.2.2.2.2.2.1) id).trans h.2.2.2.2.2.1, trivial⟩

theorem rec_keep8 {W w' : World} {b1 o1 b2 o2 b3 o3 b4 o4 b5 o5 b6 o6 b7 o7 b8 o8 : Nat} {x1 x2 x3 x4 x5 x6 x7 x8 : Value} (h : W.cell? ⟨b1, o1, none⟩ = some x1 ∧ W.cell? ⟨b2, o2, none⟩ = some x2 ∧ W.cell? ⟨b3, o3, none⟩ = some x3 ∧ W.cell? ⟨b4, o4, none⟩ = some x4 ∧ W.cell? ⟨b5, o5, none⟩ = some x5 ∧ W.cell? ⟨b6, o6, none⟩ = some x6 ∧ W.cell? ⟨b7, o7, none⟩ = some x7 ∧ W.cell? ⟨b8, o8, none⟩ = some x8 ∧ True) (ho : Adds W w') : w'.cell? ⟨b1, o1, none⟩ = some x1 ∧ w'.cell? ⟨b2, o2, none⟩ = some x2 ∧ w'.cell? ⟨b3, o3, none⟩ = some x3 ∧ w'.cell? ⟨b4, o4, none⟩ = some x4 ∧ w'.cell? ⟨b5, o5, none⟩ = some x5 ∧ w'.cell? ⟨b6, o6, none⟩ = some x6 ∧ w'.cell? ⟨b7, o7, none⟩ = some x7 ∧ w'.cell? ⟨b8, o8, none⟩ = some x8 ∧ True :=
  ⟨(ho.cellF (p := ⟨b1, o1, none⟩) (cell_lt h.1) id).trans h.1, (ho.cellF (p := ⟨b2, o2, none⟩) (cell_lt h.2.1) id).trans h.2.1, (ho.cellF (p := ⟨b3, o3, none⟩) (cell_lt h.2.2.1) id).trans h.2.2.1, (ho.cellF (p := ⟨b4, o4, none⟩) (cell_lt h.2.2.2.1) id).trans h.2.2.2.1, (ho.cellF (p := ⟨b5, o5, none⟩) (cell_lt h.2.2.2.2.1) id).trans h.2.2.2.2.1, (ho.cellF (p := ⟨b6, o6, none⟩) (cell_lt h.2.2.2.2.2.1) id).trans h.2.2.2.2.2.1, (ho.cellF (p := ⟨b7, o7, none⟩) (cell_lt h.2.2.2.2.2.2.1) id).trans h.2.2.2.2.2.2.1, (ho.cellF (p := ⟨b8, o8, none⟩) (cell_lt h.2.2.2.2.2.2.2.1) id).trans h.2.2.2.2.2.2.2.1, trivial⟩

theorem rec_keep9 {W w' : World} {b1 o1 b2 o2 b3 o3 b4 o4 b5 o5 b6 o6 b7 o7 b8 o8 b9 o9 : Nat} {x1 x2 x3 x4 x5 x6 x7 x8 x9 : Value} (h : W.cell? ⟨b1, o1, none⟩ = some x1 ∧ W.cell? ⟨b2, o2, none⟩ = some x2 ∧ W.cell? ⟨b3, o3, none⟩ = some x3 ∧ W.cell? ⟨b4, o4, none⟩ = some x4 ∧ W.cell? ⟨b5, o5, none⟩ = some x5 ∧ W.cell? ⟨b6, o6, none⟩ = some x6 ∧ W.cell? ⟨b7, o7, none⟩ = some x7 ∧ W.cell? ⟨b8, o8, none⟩ = some x8 ∧ W.cell? ⟨b9, o9, none⟩ = some x9 ∧ True) (ho : Adds W w') : w'.cell? ⟨b1, o1, none⟩ = some x1 ∧ w'.cell? ⟨b2, o2, none⟩ = some x2 ∧ w'.cell? ⟨b3, o3, none⟩ = some x3 ∧ w'.cell? ⟨b4, o4, none⟩ = some x4 ∧ w'.cell? ⟨b5, o5, none⟩ = some x5 ∧ w'.cell? ⟨b6, o6, none⟩ = some x6 ∧ w'.cell? ⟨b7, o7, none⟩ = some x7 ∧ w'.cell? ⟨b8, o8, none⟩ = some x8 ∧ w'.cell? ⟨b9, o9, none⟩ = some x9 ∧ True :=
  ⟨(ho.cellF (p := ⟨b1, o1, none⟩) (cell_lt h.1) id).trans h.1, (ho.cellF (p := ⟨b2, o2, none⟩) (cell_lt h.2.1) id).trans h.2.1, (ho.cellF (p := ⟨b3, o3, none⟩) (cell_lt h.2.2.1) id).trans h.2.2.1, (ho.cellF (p := ⟨b4, o4, none⟩) (cell_lt h.2.2.2.1) id).trans h.2.2.2.1, (ho.cellF (p := ⟨b5, o5, none⟩) (cell_lt h.2.2.2.2.1) id).trans h.2.2.2.2.1, (ho.cellF (p := ⟨b6, o6, none⟩) (cell_lt h.2.2.2.2.2.1) id).trans h.2.2.2.2.2.1, (ho.cellF (p := ⟨b7, o7, none⟩) (cell_lt h.2.2.2.2.2.2.1) id).trans h.2.2.2.2.2.2.1, (ho.cellF (p := ⟨b8, o8, none⟩) (cell_lt h.2.2.2.2.2.2.2.1) id).trans h.2.2.2.2.2.2.2.1, (ho.cellF (p := ⟨b9, o9, none⟩) (cell_lt h.2.2.2.2.2.2.2.2.1) id).trans h.2.2.2.2.2.2.2.2.1, trivial⟩

abbrev laC (P T pg cl ps al st : Int) : Value → Array Value := fun nx => #[.int .i64 P, .int .i64 T, nx, .int .i64 pg, .int .i64 cl, .int .i64 ps, .int .u64 al, .int .u64 st]
theorem laCells (P T pg cl ps al st : Int) : Cells (laC P T pg cl ps al st) P T := ⟨fun _ => rfl, fun _ => rfl, fun _ => rfl, fun _ _ => rfl⟩
abbrev goC (P T pg ps : Int) : Value → Array Value := fun nx => #[.int .i64 P, .int .i64 T, nx, .int .i64 pg, .int .i64 ps]
theorem goCells (P T pg ps : Int) : Cells (goC P T pg ps) P T := ⟨fun _ => rfl, fun _ => rfl, fun _ => rfl, fun _ _ => rfl⟩
abbrev ptr (b : Nat) : Value := .pointer (some ⟨b, 0, none⟩)
/-- A lay ahead of each of its puts. -/
def LayI (w : World) (mb : Nat) (P T pg cl ps al st i : Int) : Prop := ∃ jm ji, Blk w jm #[ptr mb] 65 ∧ Blk w ji #[.int .i64 i] 3 ∧ Desk w mb (laC P T pg cl ps al st) 122 (.put (recAt P T 14 (pg + i)) (pg + 1) (.func (.func 98) #[] #[ptr jm, ptr ji]))
def LayB (w : World) (mb : Nat) (P T pg cl ps al st : Int) : Prop := ∃ jm, Blk w jm #[ptr mb] 65 ∧ Desk w mb (laC P T pg cl ps al st) 122 (.put (recAt P T 10 pg) (256 * ps + cl) (.func (.func 99) #[] #[ptr jm]))
def LayA (w : World) (mb : Nat) (P T pg cl ps al st : Int) : Prop := ∃ jm, Blk w jm #[ptr mb] 65 ∧ Desk w mb (laC P T pg cl ps al st) 122 (.put (recAt P T 12 pg) al (.func (.func 100) #[] #[ptr jm]))
def LayM (w : World) (mb : Nat) (P T pg cl ps al st : Int) : Prop := ∃ jm, Blk w jm #[ptr mb] 65 ∧ Desk w mb (laC P T pg cl ps al st) 122 (.put (recAt P T 13 pg) 0 (.func (.func 101) #[] #[ptr jm]))
def LayS (w : World) (mb : Nat) (P T pg cl ps al st : Int) : Prop := Desk w mb (laC P T pg cl ps al st) 122 (.put (recAt P T 9 pg) st (.func (.func 102) #[ptr mb] #[]))
/-- A gone ahead of each of its puts. -/
def GoneI (w : World) (mb : Nat) (P T pg ps i : Int) : Prop := ∃ jm ji, Blk w jm #[ptr mb] 66 ∧ Blk w ji #[.int .i64 i] 3 ∧ Desk w mb (goC P T pg ps) 128 (.put (recAt P T 14 (pg + i)) 0 (.func (.func 103) #[] #[ptr jm, ptr ji]))
def GoneS (w : World) (mb : Nat) (P T pg ps : Int) : Prop := Desk w mb (goC P T pg ps) 128 (.put (recAt P T 9 pg) 0 (.func (.func 102) #[ptr mb] #[]))
section
variable {w : World} {mb jm ji : Nat} {P T pg cl ps al st i : Int} {nx : Value}

set_option maxRecDepth 100000 in
set_option maxHeartbeats 4000000 in
theorem layIndex_lt (h : Blk w mb (laC P T pg cl ps al st nx) 122) (h0 : 0 ≤ pg) (h1 : 1 ≤ ps) (h2 : pg + ps ≤ 4096) (hi : 0 ≤ i) (hlt : i < ps) :
    Calls Tryz.prog 73 #[ptr mb, .int .i64 i] w fun e w' => e = .returned (.tuple #[]) ∧ LayI w' mb P T pg cl ps al st i ∧ Only (· = mb) w w' := by
  have hl := h.lt
  obtain ⟨wB, hW⟩ : ∃ wB, wB = (w.alloc (.cells #[ptr mb] 65)).alloc (.cells #[.int .i64 i] 3) := ⟨_, rfl⟩
  have HM : Hid (Blk wB w.heap.size #[ptr mb] 65) := by rw [hW]; exact Lib.hid ((Blk.new w _ _).alloc _)
  have HI : Hid (Blk wB (w.heap.size + 1) #[.int .i64 i] 3) := by rw [hW]; exact Lib.hid (by simpa using Blk.new (w.alloc (.cells #[ptr mb] 65)) #[.int .i64 i] 3)
  have HB : Hid (Blk wB mb (laC P T pg cl ps al st nx) 122) := by rw [hW]; exact Lib.hid ((h.alloc _).alloc _)
  have HA : Hid (Adds w wB) := by rw [hW]; exact Lib.hid (((Only.refl _ _).alloc _).alloc _)
  have HW := Lib.hid hW
  have e1 : IntKind.i64.wrap (pg + 1) = pg + 1 := by rw [IntKind.wrap_i64]; omega
  have e2 : IntKind.u64.wrap (pg + 1) = pg + 1 := by rw [IntKind.wrap_u64]; omega
  have e3 : IntKind.i64.wrap (pg + i) = pg + i := by rw [IntKind.wrap_i64]; omega
  have k0 : wB.cell? ⟨w.heap.size, 0, none⟩ = some (ptr mb) := HM.out.one
  have k1 : wB.cell? ⟨(w.heap.size + 1), 0, none⟩ = some (.int .i64 i) := HI.out.one
  have k2 : wB.cell? ⟨mb, 0, none⟩ = some (.int .i64 P) := HB.out.cell 0
  have k3 : wB.cell? ⟨mb, 1, none⟩ = some (.int .i64 T) := HB.out.cell 1
  have k4 : wB.cell? ⟨mb, 3, none⟩ = some (.int .i64 pg) := HB.out.cell 3
  have k5 : wB.cell? ⟨mb, 4, none⟩ = some (.int .i64 cl) := HB.out.cell 4
  have k6 : wB.cell? ⟨mb, 5, none⟩ = some (.int .i64 ps) := HB.out.cell 5
  have k7 : wB.cell? ⟨mb, 6, none⟩ = some (.int .u64 al) := HB.out.cell 6
  have k8 : wB.cell? ⟨mb, 7, none⟩ = some (.int .u64 st) := HB.out.cell 7
  have nM := Lib.hid (HB.out.multi' (by simp) HM.out); have nI := Lib.hid (HB.out.multi' (by simp) HI.out)
  clear h hW
  go_enter Tryz.func73, Tryz.ntmps73
  go_wp2_with fail
  rw [← HW.out]
  go_region_held3 (fun W => W.cell? ⟨w.heap.size, 0, none⟩ = some (ptr mb) ∧ W.cell? ⟨(w.heap.size + 1), 0, none⟩ = some (.int .i64 i) ∧ W.cell? ⟨mb, 0, none⟩ = some (.int .i64 P) ∧ W.cell? ⟨mb, 1, none⟩ = some (.int .i64 T) ∧ W.cell? ⟨mb, 3, none⟩ = some (.int .i64 pg) ∧ W.cell? ⟨mb, 4, none⟩ = some (.int .i64 cl) ∧ W.cell? ⟨mb, 5, none⟩ = some (.int .i64 ps) ∧ W.cell? ⟨mb, 6, none⟩ = some (.int .u64 al) ∧ W.cell? ⟨mb, 7, none⟩ = some (.int .u64 st) ∧ True)
    (first | assumption | (exact ⟨k0, k1, k2, k3, k4, k5, k6, k7, k8, trivial⟩) | (exact (rec_keep9 (by assumption) (by first | assumption | exact (Only.refl _ _).drewN _))) | (exact ⟨(HM2.out.only ho3 nM.out).one, (HI2.out.only ho3 nI.out).one, hb3.cell 0, hb3.cell 1, hb3.cell 3, hb3.cell 4, hb3.cell 5, hb3.cell 6, hb3.cell 7, trivial⟩))
    (first | (exact trivial))
  go_wp2_with fail
  go_region_held3 (fun W => W.cell? ⟨w.heap.size, 0, none⟩ = some (ptr mb) ∧ W.cell? ⟨(w.heap.size + 1), 0, none⟩ = some (.int .i64 i) ∧ W.cell? ⟨mb, 0, none⟩ = some (.int .i64 P) ∧ W.cell? ⟨mb, 1, none⟩ = some (.int .i64 T) ∧ W.cell? ⟨mb, 3, none⟩ = some (.int .i64 pg) ∧ W.cell? ⟨mb, 4, none⟩ = some (.int .i64 cl) ∧ W.cell? ⟨mb, 5, none⟩ = some (.int .i64 ps) ∧ W.cell? ⟨mb, 6, none⟩ = some (.int .u64 al) ∧ W.cell? ⟨mb, 7, none⟩ = some (.int .u64 st) ∧ True)
    (first | assumption | (exact ⟨k0, k1, k2, k3, k4, k5, k6, k7, k8, trivial⟩) | (exact (rec_keep9 (by assumption) (by first | assumption | exact (Only.refl _ _).drewN _))) | (exact ⟨(HM2.out.only ho3 nM.out).one, (HI2.out.only ho3 nI.out).one, hb3.cell 0, hb3.cell 1, hb3.cell 3, hb3.cell 4, hb3.cell 5, hb3.cell 6, hb3.cell 7, trivial⟩))
    (first
    | (go_at_call 30; refine (recAt_any P T 14 (pg + i) _).mono ?_; rintro e w2 ⟨rfl, ho2⟩; have hO2 : Adds wB w2 := (((Only.refl (fun _ => False) wB).drewN 2)).thenF ho2; have HM2 := Lib.hid (HM.out.only hO2 id); have HI2 := Lib.hid (HI.out.only hO2 id); have HB2 := Lib.hid (HB.out.only hO2 id); have HO2 := Lib.hid hO2)
    | (go_at_call 97; with_reducible refine (deskPut_any HB2.out (by simp) (recAt P T 14 (pg + i)) (pg + 1) _ _ _).mono ?_; rintro e w4 ⟨rfl, hb3, hc3, ho3⟩; have HC := Lib.hid (And.intro hb3 (And.intro hc3 ho3))))
  all_goals (
    try go_wp2_with fail
    refine bodyPost_ret (results_none rfl _ _ _) rfl ?_
    obtain ⟨b3, c3, o3⟩ := HC.out
    have o4 := (HO2.out.mono (T := (· = mb)) (fun _ _ e => e.elim)).trans o3
    exact ⟨rfl, ⟨_, _, (HM2.out.only o3 nM.out), HI2.out.only o3 nI.out, _, by simpa using b3, c3⟩, (HA.out.mono (fun _ _ e => e.elim)).trans o4⟩)
set_option maxRecDepth 100000 in
set_option maxHeartbeats 4000000 in
theorem layIndex_ge (h : Blk w mb (laC P T pg cl ps al st nx) 122) (h0 : 0 ≤ pg) (h1 : 1 ≤ ps) (h2 : pg + ps ≤ 4096) (hc : 0 ≤ cl ∧ cl < 256) (hi : 0 ≤ i) (hge : ps ≤ i) :
    Calls Tryz.prog 73 #[ptr mb, .int .i64 i] w fun e w' => e = .returned (.tuple #[]) ∧ LayB w' mb P T pg cl ps al st ∧ Only (· = mb) w w' := by
  have hl := h.lt
  obtain ⟨wB, hW⟩ : ∃ wB, wB = (w.alloc (.cells #[ptr mb] 65)).alloc (.cells #[.int .i64 i] 3) := ⟨_, rfl⟩
  have HM : Hid (Blk wB w.heap.size #[ptr mb] 65) := by rw [hW]; exact Lib.hid ((Blk.new w _ _).alloc _)
  have HI : Hid (Blk wB (w.heap.size + 1) #[.int .i64 i] 3) := by rw [hW]; exact Lib.hid (by simpa using Blk.new (w.alloc (.cells #[ptr mb] 65)) #[.int .i64 i] 3)
  have HB : Hid (Blk wB mb (laC P T pg cl ps al st nx) 122) := by rw [hW]; exact Lib.hid ((h.alloc _).alloc _)
  have HA : Hid (Adds w wB) := by rw [hW]; exact Lib.hid (((Only.refl _ _).alloc _).alloc _)
  have HW := Lib.hid hW
  have k0 : wB.cell? ⟨w.heap.size, 0, none⟩ = some (ptr mb) := HM.out.one
  have k1 : wB.cell? ⟨(w.heap.size + 1), 0, none⟩ = some (.int .i64 i) := HI.out.one
  have k2 : wB.cell? ⟨mb, 0, none⟩ = some (.int .i64 P) := HB.out.cell 0
  have k3 : wB.cell? ⟨mb, 1, none⟩ = some (.int .i64 T) := HB.out.cell 1
  have k4 : wB.cell? ⟨mb, 3, none⟩ = some (.int .i64 pg) := HB.out.cell 3
  have k5 : wB.cell? ⟨mb, 4, none⟩ = some (.int .i64 cl) := HB.out.cell 4
  have k6 : wB.cell? ⟨mb, 5, none⟩ = some (.int .i64 ps) := HB.out.cell 5
  have k7 : wB.cell? ⟨mb, 6, none⟩ = some (.int .u64 al) := HB.out.cell 6
  have k8 : wB.cell? ⟨mb, 7, none⟩ = some (.int .u64 st) := HB.out.cell 7
  have nM := Lib.hid (HB.out.multi' (by simp) HM.out); have nI := Lib.hid (HB.out.multi' (by simp) HI.out)
  clear h hW
  go_enter Tryz.func73, Tryz.ntmps73
  go_wp2_with fail
  rw [← HW.out]
  go_region_held3 (fun W => W.cell? ⟨w.heap.size, 0, none⟩ = some (ptr mb) ∧ W.cell? ⟨(w.heap.size + 1), 0, none⟩ = some (.int .i64 i) ∧ W.cell? ⟨mb, 0, none⟩ = some (.int .i64 P) ∧ W.cell? ⟨mb, 1, none⟩ = some (.int .i64 T) ∧ W.cell? ⟨mb, 3, none⟩ = some (.int .i64 pg) ∧ W.cell? ⟨mb, 4, none⟩ = some (.int .i64 cl) ∧ W.cell? ⟨mb, 5, none⟩ = some (.int .i64 ps) ∧ W.cell? ⟨mb, 6, none⟩ = some (.int .u64 al) ∧ W.cell? ⟨mb, 7, none⟩ = some (.int .u64 st) ∧ True)
    (first | assumption | (exact ⟨k0, k1, k2, k3, k4, k5, k6, k7, k8, trivial⟩) | (exact (rec_keep9 (by assumption) (by first | assumption | exact (Only.refl _ _).drewN _))) | (exact ⟨(HM2.out.only ho3 nM.out).one, (HI2.out.only ho3 nI.out).one, hb3.cell 0, hb3.cell 1, hb3.cell 3, hb3.cell 4, hb3.cell 5, hb3.cell 6, hb3.cell 7, trivial⟩))
    (first | (exact trivial))
  go_wp2_with fail
  go_region_held3 (fun W => W.cell? ⟨w.heap.size, 0, none⟩ = some (ptr mb) ∧ W.cell? ⟨(w.heap.size + 1), 0, none⟩ = some (.int .i64 i) ∧ W.cell? ⟨mb, 0, none⟩ = some (.int .i64 P) ∧ W.cell? ⟨mb, 1, none⟩ = some (.int .i64 T) ∧ W.cell? ⟨mb, 3, none⟩ = some (.int .i64 pg) ∧ W.cell? ⟨mb, 4, none⟩ = some (.int .i64 cl) ∧ W.cell? ⟨mb, 5, none⟩ = some (.int .i64 ps) ∧ W.cell? ⟨mb, 6, none⟩ = some (.int .u64 al) ∧ W.cell? ⟨mb, 7, none⟩ = some (.int .u64 st) ∧ True)
    (first | assumption | (exact ⟨k0, k1, k2, k3, k4, k5, k6, k7, k8, trivial⟩) | (exact (rec_keep9 (by assumption) (by first | assumption | exact (Only.refl _ _).drewN _))) | (exact ⟨(HM2.out.only ho3 nM.out).one, (HI2.out.only ho3 nI.out).one, hb3.cell 0, hb3.cell 1, hb3.cell 3, hb3.cell 4, hb3.cell 5, hb3.cell 6, hb3.cell 7, trivial⟩))
    (first
    | (go_at_call 30; refine (recAt_any P T 10 pg _).mono ?_; rintro e w2 ⟨rfl, ho2⟩; have hO2 : Adds wB w2 := (((Only.refl (fun _ => False) wB).drewN 2)).thenF ho2; have HM2 := Lib.hid (HM.out.only hO2 id); have HI2 := Lib.hid (HI.out.only hO2 id); have HB2 := Lib.hid (HB.out.only hO2 id); have HO2 := Lib.hid hO2)
    | (go_at_call 37; refine (recBase_any cl ps _ (by omega) (by omega) (by omega) (by omega)).mono ?_; rintro e w3 ⟨rfl, rfl⟩)
    | (go_at_call 97; with_reducible refine (deskPut_any HB2.out (by simp) (recAt P T 10 pg) (256 * ps + cl) _ _ _).mono ?_; rintro e w4 ⟨rfl, hb3, hc3, ho3⟩; have HC := Lib.hid (And.intro hb3 (And.intro hc3 ho3))))
  all_goals (
    try go_wp2_with fail
    go_end0
    obtain ⟨b3, c3, o3⟩ := HC.out
    have o4 := (HO2.out.mono (T := (· = mb)) (fun _ _ e => e.elim)).trans o3
    exact ⟨rfl, ⟨_, (HM2.out.only o3 nM.out), _, by simpa using b3, c3⟩, (HA.out.mono (fun _ _ e => e.elim)).trans o4⟩)
set_option maxRecDepth 100000 in
set_option maxHeartbeats 4000000 in
theorem goneIndex_lt (h : Blk w mb (goC P T pg ps nx) 128) (h0 : 0 ≤ pg) (h1 : 1 ≤ ps) (h2 : pg + ps ≤ 4096) (hi : 0 ≤ i) (hlt : i < ps) :
    Calls Tryz.prog 79 #[ptr mb, .int .i64 i] w fun e w' => e = .returned (.tuple #[]) ∧ GoneI w' mb P T pg ps i ∧ Only (· = mb) w w' := by
  have hl := h.lt
  obtain ⟨wB, hW⟩ : ∃ wB, wB = (w.alloc (.cells #[ptr mb] 66)).alloc (.cells #[.int .i64 i] 3) := ⟨_, rfl⟩
  have HM : Hid (Blk wB w.heap.size #[ptr mb] 66) := by rw [hW]; exact Lib.hid ((Blk.new w _ _).alloc _)
  have HI : Hid (Blk wB (w.heap.size + 1) #[.int .i64 i] 3) := by rw [hW]; exact Lib.hid (by simpa using Blk.new (w.alloc (.cells #[ptr mb] 66)) #[.int .i64 i] 3)
  have HB : Hid (Blk wB mb (goC P T pg ps nx) 128) := by rw [hW]; exact Lib.hid ((h.alloc _).alloc _)
  have HA : Hid (Adds w wB) := by rw [hW]; exact Lib.hid (((Only.refl _ _).alloc _).alloc _)
  have HW := Lib.hid hW
  have e3 : IntKind.i64.wrap (pg + i) = pg + i := by rw [IntKind.wrap_i64]; omega
  have k0 : wB.cell? ⟨w.heap.size, 0, none⟩ = some (ptr mb) := HM.out.one
  have k1 : wB.cell? ⟨(w.heap.size + 1), 0, none⟩ = some (.int .i64 i) := HI.out.one
  have k2 : wB.cell? ⟨mb, 0, none⟩ = some (.int .i64 P) := HB.out.cell 0
  have k3 : wB.cell? ⟨mb, 1, none⟩ = some (.int .i64 T) := HB.out.cell 1
  have k4 : wB.cell? ⟨mb, 3, none⟩ = some (.int .i64 pg) := HB.out.cell 3
  have k5 : wB.cell? ⟨mb, 4, none⟩ = some (.int .i64 ps) := HB.out.cell 4
  have nM := Lib.hid (HB.out.multi' (by simp) HM.out); have nI := Lib.hid (HB.out.multi' (by simp) HI.out)
  clear h hW
  go_enter Tryz.func79, Tryz.ntmps79
  go_wp2_with fail
  rw [← HW.out]
  go_region_held3 (fun W => W.cell? ⟨w.heap.size, 0, none⟩ = some (ptr mb) ∧ W.cell? ⟨(w.heap.size + 1), 0, none⟩ = some (.int .i64 i) ∧ W.cell? ⟨mb, 0, none⟩ = some (.int .i64 P) ∧ W.cell? ⟨mb, 1, none⟩ = some (.int .i64 T) ∧ W.cell? ⟨mb, 3, none⟩ = some (.int .i64 pg) ∧ W.cell? ⟨mb, 4, none⟩ = some (.int .i64 ps) ∧ True)
    (first | assumption | (exact ⟨k0, k1, k2, k3, k4, k5, trivial⟩) | (exact (rec_keep6 (by assumption) (by first | assumption | exact (Only.refl _ _).drewN _))) | (exact ⟨(HM2.out.only ho3 nM.out).one, (HI2.out.only ho3 nI.out).one, hb3.cell 0, hb3.cell 1, hb3.cell 3, hb3.cell 4, trivial⟩))
    (first | (exact trivial))
  go_wp2_with fail
  go_region_held3 (fun W => W.cell? ⟨w.heap.size, 0, none⟩ = some (ptr mb) ∧ W.cell? ⟨(w.heap.size + 1), 0, none⟩ = some (.int .i64 i) ∧ W.cell? ⟨mb, 0, none⟩ = some (.int .i64 P) ∧ W.cell? ⟨mb, 1, none⟩ = some (.int .i64 T) ∧ W.cell? ⟨mb, 3, none⟩ = some (.int .i64 pg) ∧ W.cell? ⟨mb, 4, none⟩ = some (.int .i64 ps) ∧ True)
    (first | assumption | (exact ⟨k0, k1, k2, k3, k4, k5, trivial⟩) | (exact (rec_keep6 (by assumption) (by first | assumption | exact (Only.refl _ _).drewN _))) | (exact ⟨(HM2.out.only ho3 nM.out).one, (HI2.out.only ho3 nI.out).one, hb3.cell 0, hb3.cell 1, hb3.cell 3, hb3.cell 4, trivial⟩))
    (first
    | (go_at_call 30; refine (recAt_any P T 14 (pg + i) _).mono ?_; rintro e w2 ⟨rfl, ho2⟩; have hO2 : Adds wB w2 := (((Only.refl (fun _ => False) wB).drewN 2)).thenF ho2; have HM2 := Lib.hid (HM.out.only hO2 id); have HI2 := Lib.hid (HI.out.only hO2 id); have HB2 := Lib.hid (HB.out.only hO2 id); have HO2 := Lib.hid hO2)
    | (go_at_call 97; with_reducible refine (deskPut_any HB2.out (by simp) (recAt P T 14 (pg + i)) (0) _ _ _).mono ?_; rintro e w4 ⟨rfl, hb3, hc3, ho3⟩; have HC := Lib.hid (And.intro hb3 (And.intro hc3 ho3))))
  all_goals (
    try go_wp2_with fail
    refine bodyPost_ret (results_none rfl _ _ _) rfl ?_
    obtain ⟨b3, c3, o3⟩ := HC.out
    have o4 := (HO2.out.mono (T := (· = mb)) (fun _ _ e => e.elim)).trans o3
    exact ⟨rfl, ⟨_, _, (HM2.out.only o3 nM.out), HI2.out.only o3 nI.out, _, by simpa using b3, c3⟩, (HA.out.mono (fun _ _ e => e.elim)).trans o4⟩)
set_option maxRecDepth 100000 in
set_option maxHeartbeats 4000000 in
theorem goneIndex_ge (h : Blk w mb (goC P T pg ps nx) 128) (h0 : 0 ≤ pg) (h1 : 1 ≤ ps) (h2 : pg + ps ≤ 4096) (hi : 0 ≤ i) (hge : ps ≤ i) :
    Calls Tryz.prog 79 #[ptr mb, .int .i64 i] w fun e w' => e = .returned (.tuple #[]) ∧ GoneS w' mb P T pg ps ∧ Only (· = mb) w w' := by
  have hl := h.lt
  obtain ⟨wB, hW⟩ : ∃ wB, wB = (w.alloc (.cells #[ptr mb] 66)).alloc (.cells #[.int .i64 i] 3) := ⟨_, rfl⟩
  have HM : Hid (Blk wB w.heap.size #[ptr mb] 66) := by rw [hW]; exact Lib.hid ((Blk.new w _ _).alloc _)
  have HI : Hid (Blk wB (w.heap.size + 1) #[.int .i64 i] 3) := by rw [hW]; exact Lib.hid (by simpa using Blk.new (w.alloc (.cells #[ptr mb] 66)) #[.int .i64 i] 3)
  have HB : Hid (Blk wB mb (goC P T pg ps nx) 128) := by rw [hW]; exact Lib.hid ((h.alloc _).alloc _)
  have HA : Hid (Adds w wB) := by rw [hW]; exact Lib.hid (((Only.refl _ _).alloc _).alloc _)
  have HW := Lib.hid hW
  have k0 : wB.cell? ⟨w.heap.size, 0, none⟩ = some (ptr mb) := HM.out.one
  have k1 : wB.cell? ⟨(w.heap.size + 1), 0, none⟩ = some (.int .i64 i) := HI.out.one
  have k2 : wB.cell? ⟨mb, 0, none⟩ = some (.int .i64 P) := HB.out.cell 0
  have k3 : wB.cell? ⟨mb, 1, none⟩ = some (.int .i64 T) := HB.out.cell 1
  have k4 : wB.cell? ⟨mb, 3, none⟩ = some (.int .i64 pg) := HB.out.cell 3
  have k5 : wB.cell? ⟨mb, 4, none⟩ = some (.int .i64 ps) := HB.out.cell 4
  have nM := Lib.hid (HB.out.multi' (by simp) HM.out); have nI := Lib.hid (HB.out.multi' (by simp) HI.out)
  clear h hW
  go_enter Tryz.func79, Tryz.ntmps79
  go_wp2_with fail
  rw [← HW.out]
  go_region_held3 (fun W => W.cell? ⟨w.heap.size, 0, none⟩ = some (ptr mb) ∧ W.cell? ⟨(w.heap.size + 1), 0, none⟩ = some (.int .i64 i) ∧ W.cell? ⟨mb, 0, none⟩ = some (.int .i64 P) ∧ W.cell? ⟨mb, 1, none⟩ = some (.int .i64 T) ∧ W.cell? ⟨mb, 3, none⟩ = some (.int .i64 pg) ∧ W.cell? ⟨mb, 4, none⟩ = some (.int .i64 ps) ∧ True)
    (first | assumption | (exact ⟨k0, k1, k2, k3, k4, k5, trivial⟩) | (exact (rec_keep6 (by assumption) (by first | assumption | exact (Only.refl _ _).drewN _))) | (exact ⟨(HM2.out.only ho3 nM.out).one, (HI2.out.only ho3 nI.out).one, hb3.cell 0, hb3.cell 1, hb3.cell 3, hb3.cell 4, trivial⟩))
    (first | (exact trivial))
  go_wp2_with fail
  go_region_held3 (fun W => W.cell? ⟨w.heap.size, 0, none⟩ = some (ptr mb) ∧ W.cell? ⟨(w.heap.size + 1), 0, none⟩ = some (.int .i64 i) ∧ W.cell? ⟨mb, 0, none⟩ = some (.int .i64 P) ∧ W.cell? ⟨mb, 1, none⟩ = some (.int .i64 T) ∧ W.cell? ⟨mb, 3, none⟩ = some (.int .i64 pg) ∧ W.cell? ⟨mb, 4, none⟩ = some (.int .i64 ps) ∧ True)
    (first | assumption | (exact ⟨k0, k1, k2, k3, k4, k5, trivial⟩) | (exact (rec_keep6 (by assumption) (by first | assumption | exact (Only.refl _ _).drewN _))) | (exact ⟨(HM2.out.only ho3 nM.out).one, (HI2.out.only ho3 nI.out).one, hb3.cell 0, hb3.cell 1, hb3.cell 3, hb3.cell 4, trivial⟩))
    (first
    | (go_at_call 30; refine (recAt_any P T 9 pg _).mono ?_; rintro e w2 ⟨rfl, ho2⟩; have hO2 : Adds wB w2 := (((Only.refl (fun _ => False) wB).drewN 2)).thenF ho2; have HM2 := Lib.hid (HM.out.only hO2 id); have HI2 := Lib.hid (HI.out.only hO2 id); have HB2 := Lib.hid (HB.out.only hO2 id); have HO2 := Lib.hid hO2)
    | (go_at_call 97; with_reducible refine (deskPut_any HB2.out (by simp) (recAt P T 9 pg) (0) _ _ _).mono ?_; rintro e w4 ⟨rfl, hb3, hc3, ho3⟩; have HC := Lib.hid (And.intro hb3 (And.intro hc3 ho3))))
  all_goals (
    try go_wp2_with fail
    go_end0
    obtain ⟨b3, c3, o3⟩ := HC.out
    have o4 := (HO2.out.mono (T := (· = mb)) (fun _ _ e => e.elim)).trans o3
    exact ⟨rfl, ⟨_, by simpa using b3, c3⟩, (HA.out.mono (fun _ _ e => e.elim)).trans o4⟩)
set_option maxRecDepth 100000 in
set_option maxHeartbeats 4000000 in
theorem layBase_then (hjm : Blk w jm #[ptr mb] 65) (h : Blk w mb (laC P T pg cl ps al st nx) 122) :
    Calls Tryz.prog 99 #[ptr jm] w fun e w' => e = .returned (.tuple #[]) ∧ LayA w' mb P T pg cl ps al st ∧ Only (· = mb) w w' := by
  have hl := h.lt
  obtain ⟨wB, hW⟩ : ∃ wB, wB = w := ⟨_, rfl⟩
  rw [← hW] at h hjm ⊢
  have HM := Lib.hid hjm
  have HB := Lib.hid h
  have HA : Hid (Adds wB wB) := Lib.hid (Only.refl _ _)
  have HW := Lib.hid hW
  have k0 : wB.cell? ⟨jm, 0, none⟩ = some (ptr mb) := HM.out.one
  have k1 : wB.cell? ⟨mb, 0, none⟩ = some (.int .i64 P) := HB.out.cell 0
  have k2 : wB.cell? ⟨mb, 1, none⟩ = some (.int .i64 T) := HB.out.cell 1
  have k3 : wB.cell? ⟨mb, 3, none⟩ = some (.int .i64 pg) := HB.out.cell 3
  have k4 : wB.cell? ⟨mb, 4, none⟩ = some (.int .i64 cl) := HB.out.cell 4
  have k5 : wB.cell? ⟨mb, 5, none⟩ = some (.int .i64 ps) := HB.out.cell 5
  have k6 : wB.cell? ⟨mb, 6, none⟩ = some (.int .u64 al) := HB.out.cell 6
  have k7 : wB.cell? ⟨mb, 7, none⟩ = some (.int .u64 st) := HB.out.cell 7
  have nM := Lib.hid (HB.out.multi' (by simp) HM.out)
  clear h hW hjm
  go_enter Tryz.func99, Tryz.ntmps99
  go_wp2_with fail
  go_region_held3 (fun W => W.cell? ⟨jm, 0, none⟩ = some (ptr mb) ∧ W.cell? ⟨mb, 0, none⟩ = some (.int .i64 P) ∧ W.cell? ⟨mb, 1, none⟩ = some (.int .i64 T) ∧ W.cell? ⟨mb, 3, none⟩ = some (.int .i64 pg) ∧ W.cell? ⟨mb, 4, none⟩ = some (.int .i64 cl) ∧ W.cell? ⟨mb, 5, none⟩ = some (.int .i64 ps) ∧ W.cell? ⟨mb, 6, none⟩ = some (.int .u64 al) ∧ W.cell? ⟨mb, 7, none⟩ = some (.int .u64 st) ∧ True)
    (first | assumption | (exact ⟨k0, k1, k2, k3, k4, k5, k6, k7, trivial⟩) | (exact (rec_keep8 (by assumption) (by first | assumption | exact (Only.refl _ _).drewN _))) | (exact ⟨(HM2.out.only ho3 nM.out).one, hb3.cell 0, hb3.cell 1, hb3.cell 3, hb3.cell 4, hb3.cell 5, hb3.cell 6, hb3.cell 7, trivial⟩))
    (first
    | (go_at_call 30; refine (recAt_any P T 12 pg _).mono ?_; rintro e w2 ⟨rfl, ho2⟩; have hO2 : Adds wB w2 := (((Only.refl (fun _ => False) wB).drew)).thenF ho2; have HM2 := Lib.hid (HM.out.only hO2 id); have HB2 := Lib.hid (HB.out.only hO2 id); have HO2 := Lib.hid hO2)
    | (go_at_call 97; with_reducible refine (deskPut_any HB2.out (by simp) (recAt P T 12 pg) (al) _ _ _).mono ?_; rintro e w4 ⟨rfl, hb3, hc3, ho3⟩; have HC := Lib.hid (And.intro hb3 (And.intro hc3 ho3))))
  all_goals (
    try go_wp2_with fail
    go_end0
    obtain ⟨b3, c3, o3⟩ := HC.out
    have o4 := (HO2.out.mono (T := (· = mb)) (fun _ _ e => e.elim)).trans o3
    exact ⟨rfl, ⟨_, (HM2.out.only o3 nM.out), _, by simpa using b3, c3⟩, (HA.out.mono (fun _ _ e => e.elim)).trans o4⟩)
set_option maxRecDepth 100000 in
set_option maxHeartbeats 4000000 in
theorem layAlloc_then (hjm : Blk w jm #[ptr mb] 65) (h : Blk w mb (laC P T pg cl ps al st nx) 122) :
    Calls Tryz.prog 100 #[ptr jm] w fun e w' => e = .returned (.tuple #[]) ∧ LayM w' mb P T pg cl ps al st ∧ Only (· = mb) w w' := by
  have hl := h.lt
  obtain ⟨wB, hW⟩ : ∃ wB, wB = w := ⟨_, rfl⟩
  rw [← hW] at h hjm ⊢
  have HM := Lib.hid hjm
  have HB := Lib.hid h
  have HA : Hid (Adds wB wB) := Lib.hid (Only.refl _ _)
  have HW := Lib.hid hW
  have k0 : wB.cell? ⟨jm, 0, none⟩ = some (ptr mb) := HM.out.one
  have k1 : wB.cell? ⟨mb, 0, none⟩ = some (.int .i64 P) := HB.out.cell 0
  have k2 : wB.cell? ⟨mb, 1, none⟩ = some (.int .i64 T) := HB.out.cell 1
  have k3 : wB.cell? ⟨mb, 3, none⟩ = some (.int .i64 pg) := HB.out.cell 3
  have k4 : wB.cell? ⟨mb, 4, none⟩ = some (.int .i64 cl) := HB.out.cell 4
  have k5 : wB.cell? ⟨mb, 5, none⟩ = some (.int .i64 ps) := HB.out.cell 5
  have k6 : wB.cell? ⟨mb, 6, none⟩ = some (.int .u64 al) := HB.out.cell 6
  have k7 : wB.cell? ⟨mb, 7, none⟩ = some (.int .u64 st) := HB.out.cell 7
  have nM := Lib.hid (HB.out.multi' (by simp) HM.out)
  clear h hW hjm
  go_enter Tryz.func100, Tryz.ntmps100
  go_wp2_with fail
  go_region_held3 (fun W => W.cell? ⟨jm, 0, none⟩ = some (ptr mb) ∧ W.cell? ⟨mb, 0, none⟩ = some (.int .i64 P) ∧ W.cell? ⟨mb, 1, none⟩ = some (.int .i64 T) ∧ W.cell? ⟨mb, 3, none⟩ = some (.int .i64 pg) ∧ W.cell? ⟨mb, 4, none⟩ = some (.int .i64 cl) ∧ W.cell? ⟨mb, 5, none⟩ = some (.int .i64 ps) ∧ W.cell? ⟨mb, 6, none⟩ = some (.int .u64 al) ∧ W.cell? ⟨mb, 7, none⟩ = some (.int .u64 st) ∧ True)
    (first | assumption | (exact ⟨k0, k1, k2, k3, k4, k5, k6, k7, trivial⟩) | (exact (rec_keep8 (by assumption) (by first | assumption | exact (Only.refl _ _).drewN _))) | (exact ⟨(HM2.out.only ho3 nM.out).one, hb3.cell 0, hb3.cell 1, hb3.cell 3, hb3.cell 4, hb3.cell 5, hb3.cell 6, hb3.cell 7, trivial⟩))
    (first
    | (go_at_call 30; refine (recAt_any P T 13 pg _).mono ?_; rintro e w2 ⟨rfl, ho2⟩; have hO2 : Adds wB w2 := (((Only.refl (fun _ => False) wB).drew)).thenF ho2; have HM2 := Lib.hid (HM.out.only hO2 id); have HB2 := Lib.hid (HB.out.only hO2 id); have HO2 := Lib.hid hO2)
    | (go_at_call 97; with_reducible refine (deskPut_any HB2.out (by simp) (recAt P T 13 pg) (0) _ _ _).mono ?_; rintro e w4 ⟨rfl, hb3, hc3, ho3⟩; have HC := Lib.hid (And.intro hb3 (And.intro hc3 ho3))))
  all_goals (
    try go_wp2_with fail
    go_end0
    obtain ⟨b3, c3, o3⟩ := HC.out
    have o4 := (HO2.out.mono (T := (· = mb)) (fun _ _ e => e.elim)).trans o3
    exact ⟨rfl, ⟨_, (HM2.out.only o3 nM.out), _, by simpa using b3, c3⟩, (HA.out.mono (fun _ _ e => e.elim)).trans o4⟩)
set_option maxRecDepth 100000 in
set_option maxHeartbeats 4000000 in
theorem layMark_then (hjm : Blk w jm #[ptr mb] 65) (h : Blk w mb (laC P T pg cl ps al st nx) 122) :
    Calls Tryz.prog 101 #[ptr jm] w fun e w' => e = .returned (.tuple #[]) ∧ LayS w' mb P T pg cl ps al st ∧ Only (· = mb) w w' := by
  have hl := h.lt
  obtain ⟨wB, hW⟩ : ∃ wB, wB = w := ⟨_, rfl⟩
  rw [← hW] at h hjm ⊢
  have HM := Lib.hid hjm
  have HB := Lib.hid h
  have HA : Hid (Adds wB wB) := Lib.hid (Only.refl _ _)
  have HW := Lib.hid hW
  have k0 : wB.cell? ⟨jm, 0, none⟩ = some (ptr mb) := HM.out.one
  have k1 : wB.cell? ⟨mb, 0, none⟩ = some (.int .i64 P) := HB.out.cell 0
  have k2 : wB.cell? ⟨mb, 1, none⟩ = some (.int .i64 T) := HB.out.cell 1
  have k3 : wB.cell? ⟨mb, 3, none⟩ = some (.int .i64 pg) := HB.out.cell 3
  have k4 : wB.cell? ⟨mb, 4, none⟩ = some (.int .i64 cl) := HB.out.cell 4
  have k5 : wB.cell? ⟨mb, 5, none⟩ = some (.int .i64 ps) := HB.out.cell 5
  have k6 : wB.cell? ⟨mb, 6, none⟩ = some (.int .u64 al) := HB.out.cell 6
  have k7 : wB.cell? ⟨mb, 7, none⟩ = some (.int .u64 st) := HB.out.cell 7
  have nM := Lib.hid (HB.out.multi' (by simp) HM.out)
  clear h hW hjm
  go_enter Tryz.func101, Tryz.ntmps101
  go_wp2_with fail
  go_region_held3 (fun W => W.cell? ⟨jm, 0, none⟩ = some (ptr mb) ∧ W.cell? ⟨mb, 0, none⟩ = some (.int .i64 P) ∧ W.cell? ⟨mb, 1, none⟩ = some (.int .i64 T) ∧ W.cell? ⟨mb, 3, none⟩ = some (.int .i64 pg) ∧ W.cell? ⟨mb, 4, none⟩ = some (.int .i64 cl) ∧ W.cell? ⟨mb, 5, none⟩ = some (.int .i64 ps) ∧ W.cell? ⟨mb, 6, none⟩ = some (.int .u64 al) ∧ W.cell? ⟨mb, 7, none⟩ = some (.int .u64 st) ∧ True)
    (first | assumption | (exact ⟨k0, k1, k2, k3, k4, k5, k6, k7, trivial⟩) | (exact (rec_keep8 (by assumption) (by first | assumption | exact (Only.refl _ _).drewN _))) | (exact ⟨(HM2.out.only ho3 nM.out).one, hb3.cell 0, hb3.cell 1, hb3.cell 3, hb3.cell 4, hb3.cell 5, hb3.cell 6, hb3.cell 7, trivial⟩))
    (first
    | (go_at_call 30; refine (recAt_any P T 9 pg _).mono ?_; rintro e w2 ⟨rfl, ho2⟩; have hO2 : Adds wB w2 := (((Only.refl (fun _ => False) wB).drew)).thenF ho2; have HM2 := Lib.hid (HM.out.only hO2 id); have HB2 := Lib.hid (HB.out.only hO2 id); have HO2 := Lib.hid hO2)
    | (go_at_call 97; with_reducible refine (deskPut_any HB2.out (by simp) (recAt P T 9 pg) (st) _ _ _).mono ?_; rintro e w4 ⟨rfl, hb3, hc3, ho3⟩; have HC := Lib.hid (And.intro hb3 (And.intro hc3 ho3))))
  all_goals (
    try go_wp2_with fail
    go_end0
    obtain ⟨b3, c3, o3⟩ := HC.out
    have o4 := (HO2.out.mono (T := (· = mb)) (fun _ _ e => e.elim)).trans o3
    exact ⟨rfl, ⟨_, by simpa using b3, c3⟩, (HA.out.mono (fun _ _ e => e.elim)).trans o4⟩)
end
end Go.Proofs.YtbepbcjklgfmjaaGreatDoor

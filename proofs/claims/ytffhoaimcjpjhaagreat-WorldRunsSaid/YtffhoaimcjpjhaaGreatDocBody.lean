/- The document's machine: its body, by what its kind's function does. By an AI agent. -/
import Derived.Test.YtffhoaimcjpjhaaGreatDoc
namespace Go.Proofs.YtffhoaimcjpjhaaGreat
open Go.RowKit
/-- What comes of a body. -/
def MS.fin (d : Bool) (x : MS) : MS := match d with
  | true => x
  | false => x.idle
section
variable {w : World} {mb bb sb sm rb fb : Nat} {P T : Int} {s s' : StoreS} {x x' : MS} {lg mkv : Value} {d : Bool}
theorem Steps.m {w0 w1 : World} (h : Steps w0 w1 mb bb sb sm rb fb P T s x lg) : ∃ lg1 mk1, MM w1 mb bb sb sm rb fb P T s x lg1 mk1 := by
  obtain ⟨lg1, mk1, h1, _⟩ := h
  exact ⟨_, _, h1⟩
theorem Steps.turn {w0 w1 w2 : World} {y : MS} (h : Steps w0 w1 mb bb sb sm rb fb P T s x lg) (ho : Only (· = mb) w1 w2) (hy : ∀ lg1 mk1, MM w1 mb bb sb sm rb fb P T s x lg1 mk1 → IsM w2 mb y lg1 mk1 (.pointer (some ⟨bb, 0, none⟩))) : Steps w0 w2 mb bb sb sm rb fb P T s y lg := by
  obtain ⟨lg1, mk1, h1, h2, h3⟩ := h
  exact ⟨lg1, mk1, h1.turn ho (hy lg1 mk1 h1), MT.trans h2 h3 (mt_mb ho), h3⟩
theorem Steps.cells {w0 w1 : World} (h : Steps w0 w1 mb bb sb sm rb fb P T s x lg) : w1.cell? ⟨mb, 23, none⟩ = some (.int .i64 x.got) ∧ w1.cell? ⟨mb, 26, none⟩ = some (.int .i64 x.gens) ∧ w1.cell? ⟨mb, 27, none⟩ = some (.int .u64 x.freed) ∧ w1.frozen? ⟨mb, 23, none⟩ = false ∧ w1.frozen? ⟨mb, 26, none⟩ = false ∧ w1.frozen? ⟨mb, 27, none⟩ = false := by
  obtain ⟨lg1, mk1, h1, _⟩ := h
  exact ⟨h1.m.blk.cell 23, h1.m.blk.cell 26, h1.m.blk.cell 27, h1.m.blk.frozen 23, h1.m.blk.frozen 26, h1.m.blk.frozen 27⟩
theorem Steps.idle {w0 w1 w2 : World} (h : Steps w0 w1 mb bb sb sm rb fb P T s x lg) (ho : Only (· = mb) w1 w2) (hy : ∀ lg1 mk1 mem1, IsM w1 mb x lg1 mk1 mem1 → IsM w2 mb x.idle lg1 mk1 mem1) : Steps w0 w2 mb bb sb sm rb fb P T s x.idle lg := h.turn ho (fun lg1 mk1 h1 => hy lg1 mk1 _ h1.m)
theorem Steps.drew {w0 w1 : World} (h : Steps w0.drew w1 mb bb sb sm rb fb P T s x lg) : Steps w0 w1 mb bb sb sm rb fb P T s x lg := by
  obtain ⟨lg1, mk1, h1, h2, h3⟩ := h
  exact ⟨lg1, mk1, h1, ⟨h2.os, h2.tape, h2.output, h2.size, h2.block⟩, h3⟩
/-- What a machine is made of stays. -/
theorem Steps.args {w0 w1 : World} (h : Steps w0 w1 mb bb sb sm rb fb P T s x' lg) (hst : x.stat x') : ∀ k, 0 < k → k < 12 → w1.cell? ⟨mb, k, none⟩ = (x.arr lg lg lg)[k]? := by
  obtain ⟨lg1, mk1, h1, _⟩ := h
  intro k k0 k1
  rw [h1.m.blk.cell k, hst]
  have : k = 1 ∨ k = 2 ∨ k = 3 ∨ k = 4 ∨ k = 5 ∨ k = 6 ∨ k = 7 ∨ k = 8 ∨ k = 9 ∨ k = 10 ∨ k = 11 := by omega
  rcases this with rfl | rfl | rfl | rfl | rfl | rfl | rfl | rfl | rfl | rfl | rfl <;> rfl
theorem stat_got {x x' : MS} (h : x.stat x') (v : Int) : MS.stat { x with got := v } { x' with got := v } := by
  unfold MS.stat at h ⊢
  rw [h]
/-- 'idle' behind a step. -/
theorem Steps.idleCall {w0 w1 : World} (h : Steps w0 w1 mb bb sb sm rb fb P T s x lg) : Calls Tryz.prog 134 #[.pointer (some ⟨mb, 0, none⟩)] w1 fun e w' => e = .returned (.tuple #[]) ∧ Steps w0 w' mb bb sb sm rb fb P T s x.idle lg := by
  obtain ⟨lg1, mk1, h1, h2, h3⟩ := h
  exact (mIdle_any h1.m).mono (fun e w' q => ⟨q.1, lg1, mk1, h1.turn q.2.2 q.2.1, MT.trans h2 h3 (mt_mb q.2.2), h3⟩)
theorem Steps.got {w0 w1 : World} (h : Steps w0 w1 mb bb sb sm rb fb P T s x lg) (v : Int) : Steps w0 (w1.setCell ⟨mb, 23, none⟩ (.int .i64 v)) mb bb sb sm rb fb P T s { x with got := v } lg :=
  h.turn ((Only.refl (fun j => j = mb) w1).setCell (.inl rfl) _) (fun _ _ h1 => h1.m.turn ((Only.refl (fun j => j = mb) w1).setCell (.inl rfl) _) (set_got h1.m.blk v) rfl ⟨h1.m.ok.le, h1.m.ok.end_⟩ h1.m.mkn)
theorem Steps.gens {w0 w1 : World} (h : Steps w0 w1 mb bb sb sm rb fb P T s x lg) (v : Int) : Steps w0 (w1.setCell ⟨mb, 26, none⟩ (.int .i64 v)) mb bb sb sm rb fb P T s { x with gens := v } lg :=
  h.turn ((Only.refl (fun j => j = mb) w1).setCell (.inl rfl) _) (fun _ _ h1 => h1.m.turn ((Only.refl (fun j => j = mb) w1).setCell (.inl rfl) _) (set_gens h1.m.blk v) rfl ⟨h1.m.ok.le, h1.m.ok.end_⟩ h1.m.mkn)
theorem Steps.freed {w0 w1 : World} (h : Steps w0 w1 mb bb sb sm rb fb P T s x lg) (v : Int) : Steps w0 (w1.setCell ⟨mb, 27, none⟩ (.int .u64 v)) mb bb sb sm rb fb P T s { x with freed := v } lg :=
  h.turn ((Only.refl (fun j => j = mb) w1).setCell (.inl rfl) _) (fun _ _ h1 => h1.m.turn ((Only.refl (fun j => j = mb) w1).setCell (.inl rfl) _) (set_freed h1.m.blk v) rfl ⟨h1.m.ok.le, h1.m.ok.end_⟩ h1.m.mkn)
set_option maxRecDepth 100000 in
set_option maxHeartbeats 2000000 in
theorem mBodySweep {v : Int} (h : MM w mb bb sb sm rb fb P T s x lg mkv) (hw : x.what = 7) (hC : Calls Tryz.prog 120 #[.pointer (some ⟨mb, 0, none⟩), .int .i64 x.page] w fun e w' => e = .returned (.tuple #[.int .u64 v, .bool d]) ∧ Steps w w' mb bb sb sm rb fb P T s' x' lg) :
    Calls Tryz.prog 66 #[.pointer (some ⟨mb, 0, none⟩)] w fun e w' => e = .returned (.bool d) ∧ Steps w w' mb bb sb sm rb fb P T s' (MS.fin d { x' with freed := v }) lg := by
  have c0 : w.cell? ⟨mb, 0, none⟩ = some (.int .i64 x.what) := h.m.blk.cell 0
  rw [hw] at c0
  have c4 : w.cell? ⟨mb, 4, none⟩ = some (.int .i64 x.page) := h.m.blk.cell 4
  obtain ⟨z4, hz4⟩ : ∃ z, z = x.page := ⟨_, rfl⟩
  rw [← hz4] at c4 hC
  have HC := Lib.hid hC
  clear h hw hC hz4
  cases d
  case true =>
    go_enter Tryz.func66, Tryz.ntmps66
    go_wp2_with (first
      | (go_at_call 120; with_reducible refine HC.out.mono ?_; rintro e w1 ⟨rfl, hS⟩; obtain ⟨n23, n26, n27, g23, g26, g27⟩ := hS.cells; have HS := Lib.hid (hS.freed v); clear hS))
    go_ret
    exact ⟨rfl, HS.out⟩
  case false =>
    go_enter Tryz.func66, Tryz.ntmps66
    go_wp2_with (first
      | (go_at_call 120; with_reducible refine HC.out.mono ?_; rintro e w1 ⟨rfl, hS⟩; obtain ⟨n23, n26, n27, g23, g26, g27⟩ := hS.cells; have HS := Lib.hid (hS.freed v); clear hS)
      | (go_at_call 134; refine HS.out.idleCall.mono ?_; rintro e w2 ⟨rfl, hI⟩))
    go_ret
    exact ⟨rfl, hI⟩
set_option maxRecDepth 100000 in
set_option maxHeartbeats 2000000 in
theorem mBodyTake (h : MM w mb bb sb sm rb fb P T s x lg mkv) (hw : x.what = 3) (hC : Calls Tryz.prog 116 #[.pointer (some ⟨mb, 0, none⟩), .int .i64 x.thread] w fun e w' => e = .returned (.bool d) ∧ Steps w w' mb bb sb sm rb fb P T s' x' lg) :
    Calls Tryz.prog 66 #[.pointer (some ⟨mb, 0, none⟩)] w fun e w' => e = .returned (.bool d) ∧ Steps w w' mb bb sb sm rb fb P T s' (MS.fin d x') lg := by
  have c0 : w.cell? ⟨mb, 0, none⟩ = some (.int .i64 x.what) := h.m.blk.cell 0
  rw [hw] at c0
  have c3 : w.cell? ⟨mb, 3, none⟩ = some (.int .i64 x.thread) := h.m.blk.cell 3
  obtain ⟨z3, hz3⟩ : ∃ z, z = x.thread := ⟨_, rfl⟩
  rw [← hz3] at c3 hC
  have HC := Lib.hid hC
  clear h hw hC hz3
  cases d
  case true =>
    go_enter Tryz.func66, Tryz.ntmps66
    go_wp2_with (first
      | (go_at_call 116; with_reducible refine HC.out.mono ?_; rintro e w1 ⟨rfl, hS⟩; have HS := Lib.hid hS; clear hS))
    go_ret
    exact ⟨rfl, HS.out⟩
  case false =>
    go_enter Tryz.func66, Tryz.ntmps66
    go_wp2_with (first
      | (go_at_call 116; with_reducible refine HC.out.mono ?_; rintro e w1 ⟨rfl, hS⟩; have HS := Lib.hid hS; clear hS)
      | (go_at_call 134; refine HS.out.idleCall.mono ?_; rintro e w2 ⟨rfl, hI⟩))
    go_ret
    exact ⟨rfl, hI⟩
set_option maxRecDepth 100000 in
set_option maxHeartbeats 2000000 in
theorem mBodyLeave {v : Int} (h : MM w mb bb sb sm rb fb P T s x lg mkv) (hw : x.what = 4) (hC : Calls Tryz.prog 117 #[.pointer (some ⟨mb, 0, none⟩), .int .i64 2, .int .u64 0] w fun e w' => e = .returned (.tuple #[.int .u64 v, .bool d]) ∧ Steps w w' mb bb sb sm rb fb P T s' x' lg) :
    Calls Tryz.prog 66 #[.pointer (some ⟨mb, 0, none⟩)] w fun e w' => e = .returned (.bool d) ∧ Steps w w' mb bb sb sm rb fb P T s' (MS.fin d x') lg := by
  have c0 : w.cell? ⟨mb, 0, none⟩ = some (.int .i64 x.what) := h.m.blk.cell 0
  rw [hw] at c0
  have HC := Lib.hid hC
  clear h hw hC
  cases d
  case true =>
    go_enter Tryz.func66, Tryz.ntmps66
    go_wp2_with (first
      | (go_at_call 117; with_reducible refine HC.out.mono ?_; rintro e w1 ⟨rfl, hS⟩; have HS := Lib.hid hS; clear hS))
    go_ret
    exact ⟨rfl, HS.out⟩
  case false =>
    go_enter Tryz.func66, Tryz.ntmps66
    go_wp2_with (first
      | (go_at_call 117; with_reducible refine HC.out.mono ?_; rintro e w1 ⟨rfl, hS⟩; have HS := Lib.hid hS; clear hS)
      | (go_at_call 134; refine HS.out.idleCall.mono ?_; rintro e w2 ⟨rfl, hI⟩))
    go_ret
    exact ⟨rfl, hI⟩
set_option maxRecDepth 100000 in
set_option maxHeartbeats 2000000 in
theorem mBodyEnter {v : Int} (h : MM w mb bb sb sm rb fb P T s x lg mkv) (hw : x.what = 13) (hC : Calls Tryz.prog 126 #[.pointer (some ⟨mb, 0, none⟩)] w fun e w' => e = .returned (.tuple #[.int .i64 v, .bool d]) ∧ Steps w w' mb bb sb sm rb fb P T s' x' lg) :
    Calls Tryz.prog 66 #[.pointer (some ⟨mb, 0, none⟩)] w fun e w' => e = .returned (.bool d) ∧ Steps w w' mb bb sb sm rb fb P T s' (MS.fin d { x' with gens := v }) lg := by
  have c0 : w.cell? ⟨mb, 0, none⟩ = some (.int .i64 x.what) := h.m.blk.cell 0
  rw [hw] at c0
  have HC := Lib.hid hC
  clear h hw hC
  cases d
  case true =>
    go_enter Tryz.func66, Tryz.ntmps66
    go_wp2_with (first
      | (go_at_call 126; with_reducible refine HC.out.mono ?_; rintro e w1 ⟨rfl, hS⟩; obtain ⟨n23, n26, n27, g23, g26, g27⟩ := hS.cells; have HS := Lib.hid (hS.gens v); clear hS))
    go_ret
    exact ⟨rfl, HS.out⟩
  case false =>
    go_enter Tryz.func66, Tryz.ntmps66
    go_wp2_with (first
      | (go_at_call 126; with_reducible refine HC.out.mono ?_; rintro e w1 ⟨rfl, hS⟩; obtain ⟨n23, n26, n27, g23, g26, g27⟩ := hS.cells; have HS := Lib.hid (hS.gens v); clear hS)
      | (go_at_call 134; refine HS.out.idleCall.mono ?_; rintro e w2 ⟨rfl, hI⟩))
    go_ret
    exact ⟨rfl, hI⟩
set_option maxRecDepth 100000 in
set_option maxHeartbeats 2000000 in
theorem mBodyExit (h : MM w mb bb sb sm rb fb P T s x lg mkv) (hw : x.what = 14) (hC : Calls Tryz.prog 127 #[.pointer (some ⟨mb, 0, none⟩)] w fun e w' => e = .returned (.bool d) ∧ Steps w w' mb bb sb sm rb fb P T s' x' lg) :
    Calls Tryz.prog 66 #[.pointer (some ⟨mb, 0, none⟩)] w fun e w' => e = .returned (.bool d) ∧ Steps w w' mb bb sb sm rb fb P T s' (MS.fin d x') lg := by
  have c0 : w.cell? ⟨mb, 0, none⟩ = some (.int .i64 x.what) := h.m.blk.cell 0
  rw [hw] at c0
  have HC := Lib.hid hC
  clear h hw hC
  cases d
  case true =>
    go_enter Tryz.func66, Tryz.ntmps66
    go_wp2_with (first
      | (go_at_call 127; with_reducible refine HC.out.mono ?_; rintro e w1 ⟨rfl, hS⟩; have HS := Lib.hid hS; clear hS))
    go_ret
    exact ⟨rfl, HS.out⟩
  case false =>
    go_enter Tryz.func66, Tryz.ntmps66
    go_wp2_with (first
      | (go_at_call 127; with_reducible refine HC.out.mono ?_; rintro e w1 ⟨rfl, hS⟩; have HS := Lib.hid hS; clear hS)
      | (go_at_call 134; refine HS.out.idleCall.mono ?_; rintro e w2 ⟨rfl, hI⟩))
    go_ret
    exact ⟨rfl, hI⟩
set_option maxRecDepth 100000 in
set_option maxHeartbeats 2000000 in
theorem mBodyStop {v : Int} (h : MM w mb bb sb sm rb fb P T s x lg mkv) (hw : x.what = 15) (hC : Calls Tryz.prog 128 #[.pointer (some ⟨mb, 0, none⟩), .int .i64 x.thread] w fun e w' => e = .returned (.tuple #[.int .i64 v, .bool d]) ∧ Steps w w' mb bb sb sm rb fb P T s' x' lg) :
    Calls Tryz.prog 66 #[.pointer (some ⟨mb, 0, none⟩)] w fun e w' => e = .returned (.bool d) ∧ Steps w w' mb bb sb sm rb fb P T s' (MS.fin d { x' with gens := v }) lg := by
  have c0 : w.cell? ⟨mb, 0, none⟩ = some (.int .i64 x.what) := h.m.blk.cell 0
  rw [hw] at c0
  have c3 : w.cell? ⟨mb, 3, none⟩ = some (.int .i64 x.thread) := h.m.blk.cell 3
  obtain ⟨z3, hz3⟩ : ∃ z, z = x.thread := ⟨_, rfl⟩
  rw [← hz3] at c3 hC
  have HC := Lib.hid hC
  clear h hw hC hz3
  cases d
  case true =>
    go_enter Tryz.func66, Tryz.ntmps66
    go_wp2_with (first
      | (go_at_call 128; with_reducible refine HC.out.mono ?_; rintro e w1 ⟨rfl, hS⟩; obtain ⟨n23, n26, n27, g23, g26, g27⟩ := hS.cells; have HS := Lib.hid (hS.gens v); clear hS))
    go_ret
    exact ⟨rfl, HS.out⟩
  case false =>
    go_enter Tryz.func66, Tryz.ntmps66
    go_wp2_with (first
      | (go_at_call 128; with_reducible refine HC.out.mono ?_; rintro e w1 ⟨rfl, hS⟩; obtain ⟨n23, n26, n27, g23, g26, g27⟩ := hS.cells; have HS := Lib.hid (hS.gens v); clear hS)
      | (go_at_call 134; refine HS.out.idleCall.mono ?_; rintro e w2 ⟨rfl, hI⟩))
    go_ret
    exact ⟨rfl, hI⟩
set_option maxRecDepth 100000 in
set_option maxHeartbeats 2000000 in
theorem mBodyGo {v : Int} (h : MM w mb bb sb sm rb fb P T s x lg mkv) (hw : x.what = 16) (hC : Calls Tryz.prog 117 #[.pointer (some ⟨mb, 0, none⟩), .int .i64 1, .int .u64 0] w fun e w' => e = .returned (.tuple #[.int .u64 v, .bool d]) ∧ Steps w w' mb bb sb sm rb fb P T s' x' lg) :
    Calls Tryz.prog 66 #[.pointer (some ⟨mb, 0, none⟩)] w fun e w' => e = .returned (.bool d) ∧ Steps w w' mb bb sb sm rb fb P T s' (MS.fin d x') lg := by
  have c0 : w.cell? ⟨mb, 0, none⟩ = some (.int .i64 x.what) := h.m.blk.cell 0
  rw [hw] at c0
  have HC := Lib.hid hC
  clear h hw hC
  cases d
  case true =>
    go_enter Tryz.func66, Tryz.ntmps66
    go_wp2_with (first
      | (go_at_call 117; with_reducible refine HC.out.mono ?_; rintro e w1 ⟨rfl, hS⟩; have HS := Lib.hid hS; clear hS))
    go_ret
    exact ⟨rfl, HS.out⟩
  case false =>
    go_enter Tryz.func66, Tryz.ntmps66
    go_wp2_with (first
      | (go_at_call 117; with_reducible refine HC.out.mono ?_; rintro e w1 ⟨rfl, hS⟩; have HS := Lib.hid hS; clear hS)
      | (go_at_call 134; refine HS.out.idleCall.mono ?_; rintro e w2 ⟨rfl, hI⟩))
    go_ret
    exact ⟨rfl, hI⟩
set_option maxRecDepth 100000 in
set_option maxHeartbeats 2000000 in
theorem mBodyPop {v : Int} (h : MM w mb bb sb sm rb fb P T s x lg mkv) (hw : x.what = 1) (hC : Calls Tryz.prog 114 #[.pointer (some ⟨mb, 0, none⟩), .int .i64 x.head, .int .i64 0] w fun e w' => e = .returned (.tuple #[.int .i64 v, .bool d]) ∧ Steps w w' mb bb sb sm rb fb P T s' x' lg) :
    Calls Tryz.prog 66 #[.pointer (some ⟨mb, 0, none⟩)] w fun e w' => e = .returned (.bool d) ∧ Steps w w' mb bb sb sm rb fb P T s' (MS.fin d { x' with got := v }) lg := by
  have c0 : w.cell? ⟨mb, 0, none⟩ = some (.int .i64 x.what) := h.m.blk.cell 0
  rw [hw] at c0
  have c8 : w.cell? ⟨mb, 8, none⟩ = some (.int .i64 x.head) := h.m.blk.cell 8
  obtain ⟨z8, hz8⟩ : ∃ z, z = x.head := ⟨_, rfl⟩
  rw [← hz8] at c8 hC
  have HC := Lib.hid hC
  clear h hw hC hz8
  cases d
  case true =>
    go_enter Tryz.func66, Tryz.ntmps66
    go_wp2_with (first
      | (go_at_call 114; with_reducible refine HC.out.mono ?_; rintro e w1 ⟨rfl, hS⟩; obtain ⟨n23, n26, n27, g23, g26, g27⟩ := hS.cells; have HS := Lib.hid (hS.got v); clear hS))
    go_ret
    exact ⟨rfl, HS.out⟩
  case false =>
    go_enter Tryz.func66, Tryz.ntmps66
    go_wp2_with (first
      | (go_at_call 114; with_reducible refine HC.out.mono ?_; rintro e w1 ⟨rfl, hS⟩; obtain ⟨n23, n26, n27, g23, g26, g27⟩ := hS.cells; have HS := Lib.hid (hS.got v); clear hS)
      | (go_at_call 134; refine HS.out.idleCall.mono ?_; rintro e w2 ⟨rfl, hI⟩))
    go_ret
    exact ⟨rfl, hI⟩
set_option maxRecDepth 100000 in
set_option maxHeartbeats 2000000 in
theorem mBodyPush (h : MM w mb bb sb sm rb fb P T s x lg mkv) (hw : x.what = 2) (hst : x.stat x') (hC : Calls Tryz.prog 115 #[.pointer (some ⟨mb, 0, none⟩), .int .i64 x.head, .int .i64 x.page] w.drew fun e w' => e = .returned (.bool d) ∧ Steps w.drew w' mb bb sb sm rb fb P T s' x' lg) :
    Calls Tryz.prog 66 #[.pointer (some ⟨mb, 0, none⟩)] w fun e w' => e = .returned (.bool d) ∧ Steps w w' mb bb sb sm rb fb P T s' (MS.fin d x') lg := by
  have c0 : w.cell? ⟨mb, 0, none⟩ = some (.int .i64 x.what) := h.m.blk.cell 0
  rw [hw] at c0
  have c8 : w.cell? ⟨mb, 8, none⟩ = some (.int .i64 x.head) := h.m.blk.cell 8
  have c4 : w.cell? ⟨mb, 4, none⟩ = some (.int .i64 x.page) := h.m.blk.cell 4
  have HC := Lib.hid hC; have HST := Lib.hid hst
  clear h hw hC hst
  cases d
  case true =>
    go_enter Tryz.func66, Tryz.ntmps66
    go_wp2_with fail
    go_region_held3 (fun W => W.cell? ⟨mb, 8, none⟩ = some (.int .i64 x.head) ∧ W.cell? ⟨mb, 4, none⟩ = some (.int .i64 x.page))
      (first | (exact ⟨c8, c4⟩) | (exact ⟨HQ.out 8 (by decide) (by decide), HQ.out 4 (by decide) (by decide)⟩))
      (first | (go_at_call 115; with_reducible refine HC.out.mono ?_; rintro e w1 ⟨rfl, hS⟩; have HQ := Lib.hid (hS.args HST.out); have HS := Lib.hid hS.drew; clear hS))
    go_wp2_with fail
    go_ret
    exact ⟨rfl, HS.out⟩
  case false =>
    go_enter Tryz.func66, Tryz.ntmps66
    go_wp2_with fail
    go_region_held3 (fun W => W.cell? ⟨mb, 8, none⟩ = some (.int .i64 x.head) ∧ W.cell? ⟨mb, 4, none⟩ = some (.int .i64 x.page))
      (first | (exact ⟨c8, c4⟩) | (exact ⟨HQ.out 8 (by decide) (by decide), HQ.out 4 (by decide) (by decide)⟩))
      (first | (go_at_call 115; with_reducible refine HC.out.mono ?_; rintro e w1 ⟨rfl, hS⟩; have HQ := Lib.hid (hS.args HST.out); have HS := Lib.hid hS.drew; clear hS))
    go_wp2_with (first | (go_at_call 134; refine HS.out.idleCall.mono ?_; rintro e w2 ⟨rfl, hI⟩))
    go_ret
    exact ⟨rfl, hI⟩
set_option maxRecDepth 100000 in
set_option maxHeartbeats 2000000 in
theorem mBodyLay (h : MM w mb bb sb sm rb fb P T s x lg mkv) (hw : x.what = 5) (hst : x.stat x') (hC : Calls Tryz.prog 118 #[.pointer (some ⟨mb, 0, none⟩), .int .i64 x.page, .int .i64 x.cls, .int .i64 x.pages, .int .i64 x.gen, .int .u64 x.mask] w.drew fun e w' => e = .returned (.bool d) ∧ Steps w.drew w' mb bb sb sm rb fb P T s' x' lg) :
    Calls Tryz.prog 66 #[.pointer (some ⟨mb, 0, none⟩)] w fun e w' => e = .returned (.bool d) ∧ Steps w w' mb bb sb sm rb fb P T s' (MS.fin d x') lg := by
  have c0 : w.cell? ⟨mb, 0, none⟩ = some (.int .i64 x.what) := h.m.blk.cell 0
  rw [hw] at c0
  have c4 : w.cell? ⟨mb, 4, none⟩ = some (.int .i64 x.page) := h.m.blk.cell 4
  have c5 : w.cell? ⟨mb, 5, none⟩ = some (.int .i64 x.cls) := h.m.blk.cell 5
  have c6 : w.cell? ⟨mb, 6, none⟩ = some (.int .i64 x.pages) := h.m.blk.cell 6
  have c7 : w.cell? ⟨mb, 7, none⟩ = some (.int .i64 x.gen) := h.m.blk.cell 7
  have c11 : w.cell? ⟨mb, 11, none⟩ = some (.int .u64 x.mask) := h.m.blk.cell 11
  have HC := Lib.hid hC; have HST := Lib.hid hst
  clear h hw hC hst
  cases d
  case true =>
    go_enter Tryz.func66, Tryz.ntmps66
    go_wp2_with fail
    go_region_held3 (fun W => W.cell? ⟨mb, 4, none⟩ = some (.int .i64 x.page) ∧ W.cell? ⟨mb, 5, none⟩ = some (.int .i64 x.cls) ∧ W.cell? ⟨mb, 6, none⟩ = some (.int .i64 x.pages) ∧ W.cell? ⟨mb, 7, none⟩ = some (.int .i64 x.gen) ∧ W.cell? ⟨mb, 11, none⟩ = some (.int .u64 x.mask))
      (first | (exact ⟨c4, c5, c6, c7, c11⟩) | (exact ⟨HQ.out 4 (by decide) (by decide), HQ.out 5 (by decide) (by decide), HQ.out 6 (by decide) (by decide), HQ.out 7 (by decide) (by decide), HQ.out 11 (by decide) (by decide)⟩))
      (first | (go_at_call 118; with_reducible refine HC.out.mono ?_; rintro e w1 ⟨rfl, hS⟩; have HQ := Lib.hid (hS.args HST.out); have HS := Lib.hid hS.drew; clear hS))
    go_wp2_with fail
    go_ret
    exact ⟨rfl, HS.out⟩
  case false =>
    go_enter Tryz.func66, Tryz.ntmps66
    go_wp2_with fail
    go_region_held3 (fun W => W.cell? ⟨mb, 4, none⟩ = some (.int .i64 x.page) ∧ W.cell? ⟨mb, 5, none⟩ = some (.int .i64 x.cls) ∧ W.cell? ⟨mb, 6, none⟩ = some (.int .i64 x.pages) ∧ W.cell? ⟨mb, 7, none⟩ = some (.int .i64 x.gen) ∧ W.cell? ⟨mb, 11, none⟩ = some (.int .u64 x.mask))
      (first | (exact ⟨c4, c5, c6, c7, c11⟩) | (exact ⟨HQ.out 4 (by decide) (by decide), HQ.out 5 (by decide) (by decide), HQ.out 6 (by decide) (by decide), HQ.out 7 (by decide) (by decide), HQ.out 11 (by decide) (by decide)⟩))
      (first | (go_at_call 118; with_reducible refine HC.out.mono ?_; rintro e w1 ⟨rfl, hS⟩; have HQ := Lib.hid (hS.args HST.out); have HS := Lib.hid hS.drew; clear hS))
    go_wp2_with (first | (go_at_call 134; refine HS.out.idleCall.mono ?_; rintro e w2 ⟨rfl, hI⟩))
    go_ret
    exact ⟨rfl, hI⟩
set_option maxRecDepth 100000 in
set_option maxHeartbeats 2000000 in
theorem mBodyGone (h : MM w mb bb sb sm rb fb P T s x lg mkv) (hw : x.what = 6) (hst : x.stat x') (hC : Calls Tryz.prog 119 #[.pointer (some ⟨mb, 0, none⟩), .int .i64 x.page, .int .i64 x.pages] w.drew fun e w' => e = .returned (.bool d) ∧ Steps w.drew w' mb bb sb sm rb fb P T s' x' lg) :
    Calls Tryz.prog 66 #[.pointer (some ⟨mb, 0, none⟩)] w fun e w' => e = .returned (.bool d) ∧ Steps w w' mb bb sb sm rb fb P T s' (MS.fin d x') lg := by
  have c0 : w.cell? ⟨mb, 0, none⟩ = some (.int .i64 x.what) := h.m.blk.cell 0
  rw [hw] at c0
  have c4 : w.cell? ⟨mb, 4, none⟩ = some (.int .i64 x.page) := h.m.blk.cell 4
  have c6 : w.cell? ⟨mb, 6, none⟩ = some (.int .i64 x.pages) := h.m.blk.cell 6
  have HC := Lib.hid hC; have HST := Lib.hid hst
  clear h hw hC hst
  cases d
  case true =>
    go_enter Tryz.func66, Tryz.ntmps66
    go_wp2_with fail
    go_region_held3 (fun W => W.cell? ⟨mb, 4, none⟩ = some (.int .i64 x.page) ∧ W.cell? ⟨mb, 6, none⟩ = some (.int .i64 x.pages))
      (first | (exact ⟨c4, c6⟩) | (exact ⟨HQ.out 4 (by decide) (by decide), HQ.out 6 (by decide) (by decide)⟩))
      (first | (go_at_call 119; with_reducible refine HC.out.mono ?_; rintro e w1 ⟨rfl, hS⟩; have HQ := Lib.hid (hS.args HST.out); have HS := Lib.hid hS.drew; clear hS))
    go_wp2_with fail
    go_ret
    exact ⟨rfl, HS.out⟩
  case false =>
    go_enter Tryz.func66, Tryz.ntmps66
    go_wp2_with fail
    go_region_held3 (fun W => W.cell? ⟨mb, 4, none⟩ = some (.int .i64 x.page) ∧ W.cell? ⟨mb, 6, none⟩ = some (.int .i64 x.pages))
      (first | (exact ⟨c4, c6⟩) | (exact ⟨HQ.out 4 (by decide) (by decide), HQ.out 6 (by decide) (by decide)⟩))
      (first | (go_at_call 119; with_reducible refine HC.out.mono ?_; rintro e w1 ⟨rfl, hS⟩; have HQ := Lib.hid (hS.args HST.out); have HS := Lib.hid hS.drew; clear hS))
    go_wp2_with (first | (go_at_call 134; refine HS.out.idleCall.mono ?_; rintro e w2 ⟨rfl, hI⟩))
    go_ret
    exact ⟨rfl, hI⟩
set_option maxRecDepth 100000 in
set_option maxHeartbeats 2000000 in
theorem mBodyClaim {v : Int} (h : MM w mb bb sb sm rb fb P T s x lg mkv) (hw : x.what = 8) (hst : x.stat x') (hC : Calls Tryz.prog 121 #[.pointer (some ⟨mb, 0, none⟩), .int .i64 x.head, .int .i64 x.gen] w.drew fun e w' => e = .returned (.tuple #[.int .i64 v, .bool d]) ∧ Steps w.drew w' mb bb sb sm rb fb P T s' x' lg) :
    Calls Tryz.prog 66 #[.pointer (some ⟨mb, 0, none⟩)] w fun e w' => e = .returned (.bool d) ∧ Steps w w' mb bb sb sm rb fb P T s' (MS.fin d { x' with got := v }) lg := by
  have c0 : w.cell? ⟨mb, 0, none⟩ = some (.int .i64 x.what) := h.m.blk.cell 0
  rw [hw] at c0
  have c8 : w.cell? ⟨mb, 8, none⟩ = some (.int .i64 x.head) := h.m.blk.cell 8
  have c7 : w.cell? ⟨mb, 7, none⟩ = some (.int .i64 x.gen) := h.m.blk.cell 7
  have HC := Lib.hid hC; have HST := Lib.hid hst
  clear h hw hC hst
  cases d
  case true =>
    go_enter Tryz.func66, Tryz.ntmps66
    go_wp2_with fail
    go_region_held3 (fun W => W.cell? ⟨mb, 8, none⟩ = some (.int .i64 x.head) ∧ W.cell? ⟨mb, 7, none⟩ = some (.int .i64 x.gen))
      (first | (exact ⟨c8, c7⟩) | (exact ⟨HQ.out 8 (by decide) (by decide), HQ.out 7 (by decide) (by decide)⟩) | (exact ⟨HQ2.out 8 (by decide) (by decide), HQ2.out 7 (by decide) (by decide)⟩))
      (first | (go_at_call 121; with_reducible refine HC.out.mono ?_; rintro e w1 ⟨rfl, hS⟩; have HQ := Lib.hid (hS.args HST.out); have HQ2 := Lib.hid ((hS.drew.got v).args (stat_got HST.out v)); obtain ⟨n23, n26, n27, g23, g26, g27⟩ := hS.drew.cells; have HS := Lib.hid (hS.drew.got v); clear hS))
    go_wp2_with fail
    go_ret
    exact ⟨rfl, HS.out⟩
  case false =>
    go_enter Tryz.func66, Tryz.ntmps66
    go_wp2_with fail
    go_region_held3 (fun W => W.cell? ⟨mb, 8, none⟩ = some (.int .i64 x.head) ∧ W.cell? ⟨mb, 7, none⟩ = some (.int .i64 x.gen))
      (first | (exact ⟨c8, c7⟩) | (exact ⟨HQ.out 8 (by decide) (by decide), HQ.out 7 (by decide) (by decide)⟩) | (exact ⟨HQ2.out 8 (by decide) (by decide), HQ2.out 7 (by decide) (by decide)⟩))
      (first | (go_at_call 121; with_reducible refine HC.out.mono ?_; rintro e w1 ⟨rfl, hS⟩; have HQ := Lib.hid (hS.args HST.out); have HQ2 := Lib.hid ((hS.drew.got v).args (stat_got HST.out v)); obtain ⟨n23, n26, n27, g23, g26, g27⟩ := hS.drew.cells; have HS := Lib.hid (hS.drew.got v); clear hS))
    go_wp2_with (first | (go_at_call 134; refine HS.out.idleCall.mono ?_; rintro e w2 ⟨rfl, hI⟩))
    go_ret
    exact ⟨rfl, hI⟩
end
end Go.Proofs.YtffhoaimcjpjhaaGreat

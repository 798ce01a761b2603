/- The document's machine: its body, by what its kind's function does. The document's machine as a pure run over its accesses: till a word is 0. Enter, exit, stop: what the document's machine does behind a log. Plain law over the pure runs. The document's machines as automata: an access comes next, and what then, by the word that was told. The document's pop and push as automata. By an AI agent. -/
import Derived.Test.YthhnpcniijpfeaaGreatZDoc
import Derived.Deep.LoopGhost
import Derived.Test.YthhnpcniijpfeaaGreatZ4
namespace Go.Proofs.YthhnpcniijpfeaaGreat
open Go.RowKit
set_option linter.unusedSimpArgs false
set_option linter.unusedVariables false
/-- What comes of a body. -/
def MS.fin (d : Bool) (x : MS) : MS := match d with
  | true => x
  | false => x.idle
section
variable {w : World} {mb bb sb sm rb fb : Nat} {P T : Int} {s s' : StoreS} {x x' : MS} {lg mkv : Value} {d : Bool}
theorem Steps.m {w0 w1 : World} (h : Steps w0 w1 mb bb sb sm rb fb P T s x lg) : ∃ lg1 mk1, MM w1 mb bb sb sm rb fb P T s x lg1 mk1 := by
  obtain ⟨lg1, mk1, h1, _⟩ := h
  exact ⟨_, _, h1⟩
theorem Steps.turn {w0 w1 w2 : World} {y : MS} (h : Steps w0 w1 mb bb sb sm rb fb P T s x lg) (ho : Only (· = mb) w1 w2) (hy : ∀ lg1 mk1, MM w1 mb bb sb sm rb fb P T s x lg1 mk1 → IsM w2 mb y lg1 mk1 (.pointer (some ⟨bb, 0, none⟩))) : Steps w0 w2 mb bb sb sm rb fb P T s y lg := by
  obtain ⟨lg1, mk1, h1, h2, h3⟩ := h
  exact ⟨lg1, mk1, h1.turn ho (hy lg1 mk1 h1), MT.trans h2 h3 (mt_mb ho), h3⟩
theorem Steps.cells {w0 w1 : World} (h : Steps w0 w1 mb bb sb sm rb fb P T s x lg) : w1.cell? ⟨mb, 23, none⟩ = some (.int .i64 x.got) ∧ w1.cell? ⟨mb, 26, none⟩ = some (.int .i64 x.gens) ∧ w1.cell? ⟨mb, 27, none⟩ = some (.int .u64 x.freed) ∧ w1.frozen? ⟨mb, 23, none⟩ = false ∧ w1.frozen? ⟨mb, 26, none⟩ = false ∧ w1.frozen? ⟨mb, 27, none⟩ = false := by
  obtain ⟨lg1, mk1, h1, _⟩ := h
  exact ⟨h1.m.blk.cell 23, h1.m.blk.cell 26, h1.m.blk.cell 27, h1.m.blk.frozen 23, h1.m.blk.frozen 26, h1.m.blk.frozen 27⟩
theorem Steps.idle {w0 w1 w2 : World} (h : Steps w0 w1 mb bb sb sm rb fb P T s x lg) (ho : Only (· = mb) w1 w2) (hy : ∀ lg1 mk1 mem1, IsM w1 mb x lg1 mk1 mem1 → IsM w2 mb x.idle lg1 mk1 mem1) : Steps w0 w2 mb bb sb sm rb fb P T s x.idle lg := h.turn ho (fun lg1 mk1 h1 => hy lg1 mk1 _ h1.m)
theorem Steps.drew {w0 w1 : World} (h : Steps w0.drew w1 mb bb sb sm rb fb P T s x lg) : Steps w0 w1 mb bb sb sm rb fb P T s x lg := by
  obtain ⟨lg1, mk1, h1, h2, h3⟩ := h
  exact ⟨lg1, mk1, h1, ⟨h2.os, h2.tape, h2.output, h2.size, h2.block⟩, h3⟩
/-- What a machine is made of stays. -/
theorem Steps.args {w0 w1 : World} (h : Steps w0 w1 mb bb sb sm rb fb P T s x' lg) (hst : x.stat x') : ∀ k, 0 < k → k < 12 → w1.cell? ⟨mb, k, none⟩ = (x.arr lg lg lg)[k]? := by
  obtain ⟨lg1, mk1, h1, _⟩ := h
  intro k k0 k1
  rw [h1.m.blk.cell k, hst]
  have : k = 1 ∨ k = 2 ∨ k = 3 ∨ k = 4 ∨ k = 5 ∨ k = 6 ∨ k = 7 ∨ k = 8 ∨ k = 9 ∨ k = 10 ∨ k = 11 := by omega
  rcases this with rfl | rfl | rfl | rfl | rfl | rfl | rfl | rfl | rfl | rfl | rfl <;> rfl
theorem stat_got {x x' : MS} (h : x.stat x') (v : Int) : MS.stat { x with got := v } { x' with got := v } := by
  unfold MS.stat at h ⊢
  rw [h]
/-- 'idle' behind a step. -/
theorem Steps.idleCall {w0 w1 : World} (h : Steps w0 w1 mb bb sb sm rb fb P T s x lg) : Calls Tryz.prog 126 #[.pointer (some ⟨mb, 0, none⟩)] w1 fun e w' => e = .returned (.tuple #[]) ∧ Steps w0 w' mb bb sb sm rb fb P T s x.idle lg := by
  obtain ⟨lg1, mk1, h1, h2, h3⟩ := h
  exact (mIdle_any h1.m).mono (fun e w' q => ⟨q.1, lg1, mk1, h1.turn q.2.2 q.2.1, MT.trans h2 h3 (mt_mb q.2.2), h3⟩)
theorem Steps.got {w0 w1 : World} (h : Steps w0 w1 mb bb sb sm rb fb P T s x lg) (v : Int) : Steps w0 (w1.setCell ⟨mb, 23, none⟩ (.int .i64 v)) mb bb sb sm rb fb P T s { x with got := v } lg :=
  h.turn ((Only.refl (fun j => j = mb) w1).setCell (.inl rfl) _) (fun _ _ h1 => h1.m.turn ((Only.refl (fun j => j = mb) w1).setCell (.inl rfl) _) (set_got h1.m.blk v) rfl ⟨h1.m.ok.le, h1.m.ok.end_⟩ h1.m.mkn)
theorem Steps.gens {w0 w1 : World} (h : Steps w0 w1 mb bb sb sm rb fb P T s x lg) (v : Int) : Steps w0 (w1.setCell ⟨mb, 26, none⟩ (.int .i64 v)) mb bb sb sm rb fb P T s { x with gens := v } lg :=
  h.turn ((Only.refl (fun j => j = mb) w1).setCell (.inl rfl) _) (fun _ _ h1 => h1.m.turn ((Only.refl (fun j => j = mb) w1).setCell (.inl rfl) _) (set_gens h1.m.blk v) rfl ⟨h1.m.ok.le, h1.m.ok.end_⟩ h1.m.mkn)
theorem Steps.freed {w0 w1 : World} (h : Steps w0 w1 mb bb sb sm rb fb P T s x lg) (v : Int) : Steps w0 (w1.setCell ⟨mb, 27, none⟩ (.int .u64 v)) mb bb sb sm rb fb P T s { x with freed := v } lg :=
  h.turn ((Only.refl (fun j => j = mb) w1).setCell (.inl rfl) _) (fun _ _ h1 => h1.m.turn ((Only.refl (fun j => j = mb) w1).setCell (.inl rfl) _) (set_freed h1.m.blk v) rfl ⟨h1.m.ok.le, h1.m.ok.end_⟩ h1.m.mkn)
set_option maxRecDepth 100000 in
set_option maxHeartbeats 2000000 in
theorem mBodySweep {v : Int} (h : MM w mb bb sb sm rb fb P T s x lg mkv) (hw : x.what = 7) (hC : Calls Tryz.prog 112 #[.pointer (some ⟨mb, 0, none⟩), .int .i64 x.page] w fun e w' => e = .returned (.tuple #[.int .u64 v, .bool d]) ∧ Steps w w' mb bb sb sm rb fb P T s' x' lg) :
    Calls Tryz.prog 93 #[.pointer (some ⟨mb, 0, none⟩)] w fun e w' => e = .returned (.bool d) ∧ Steps w w' mb bb sb sm rb fb P T s' (MS.fin d { x' with freed := v }) lg := by
  have c0 : w.cell? ⟨mb, 0, none⟩ = some (.int .i64 x.what) := h.m.blk.cell 0
  rw [hw] at c0
  have c4 : w.cell? ⟨mb, 4, none⟩ = some (.int .i64 x.page) := h.m.blk.cell 4
  obtain ⟨z4, hz4⟩ : ∃ z, z = x.page := ⟨_, rfl⟩
  rw [← hz4] at c4 hC
  have HC := Lib.hid hC
  clear h hw hC hz4
  cases d
  case true =>
    go_enter Tryz.func93, Tryz.ntmps93
    go_wp2_with (first
      | (go_at_call 112; with_reducible refine HC.out.mono ?_; rintro e w1 ⟨rfl, hS⟩; obtain ⟨n23, n26, n27, g23, g26, g27⟩ := hS.cells; have HS := Lib.hid (hS.freed v); clear hS))
    go_ret
    exact ⟨rfl, HS.out⟩
  case false =>
    go_enter Tryz.func93, Tryz.ntmps93
    go_wp2_with (first
      | (go_at_call 112; with_reducible refine HC.out.mono ?_; rintro e w1 ⟨rfl, hS⟩; obtain ⟨n23, n26, n27, g23, g26, g27⟩ := hS.cells; have HS := Lib.hid (hS.freed v); clear hS)
      | (go_at_call 126; refine HS.out.idleCall.mono ?_; rintro e w2 ⟨rfl, hI⟩))
    go_ret
    exact ⟨rfl, hI⟩
set_option maxRecDepth 100000 in
set_option maxHeartbeats 2000000 in
theorem mBodyTake (h : MM w mb bb sb sm rb fb P T s x lg mkv) (hw : x.what = 3) (hC : Calls Tryz.prog 108 #[.pointer (some ⟨mb, 0, none⟩), .int .i64 x.thread] w fun e w' => e = .returned (.bool d) ∧ Steps w w' mb bb sb sm rb fb P T s' x' lg) :
    Calls Tryz.prog 93 #[.pointer (some ⟨mb, 0, none⟩)] w fun e w' => e = .returned (.bool d) ∧ Steps w w' mb bb sb sm rb fb P T s' (MS.fin d x') lg := by
  have c0 : w.cell? ⟨mb, 0, none⟩ = some (.int .i64 x.what) := h.m.blk.cell 0
  rw [hw] at c0
  have c3 : w.cell? ⟨mb, 3, none⟩ = some (.int .i64 x.thread) := h.m.blk.cell 3
  obtain ⟨z3, hz3⟩ : ∃ z, z = x.thread := ⟨_, rfl⟩
  rw [← hz3] at c3 hC
  have HC := Lib.hid hC
  clear h hw hC hz3
  cases d
  case true =>
    go_enter Tryz.func93, Tryz.ntmps93
    go_wp2_with (first
      | (go_at_call 108; with_reducible refine HC.out.mono ?_; rintro e w1 ⟨rfl, hS⟩; have HS := Lib.hid hS; clear hS))
    go_ret
    exact ⟨rfl, HS.out⟩
  case false =>
    go_enter Tryz.func93, Tryz.ntmps93
    go_wp2_with (first
      | (go_at_call 108; with_reducible refine HC.out.mono ?_; rintro e w1 ⟨rfl, hS⟩; have HS := Lib.hid hS; clear hS)
      | (go_at_call 126; refine HS.out.idleCall.mono ?_; rintro e w2 ⟨rfl, hI⟩))
    go_ret
    exact ⟨rfl, hI⟩
set_option maxRecDepth 100000 in
set_option maxHeartbeats 2000000 in
theorem mBodyLeave {v : Int} (h : MM w mb bb sb sm rb fb P T s x lg mkv) (hw : x.what = 4) (hC : Calls Tryz.prog 109 #[.pointer (some ⟨mb, 0, none⟩), .int .i64 2, .int .u64 0] w fun e w' => e = .returned (.tuple #[.int .u64 v, .bool d]) ∧ Steps w w' mb bb sb sm rb fb P T s' x' lg) :
    Calls Tryz.prog 93 #[.pointer (some ⟨mb, 0, none⟩)] w fun e w' => e = .returned (.bool d) ∧ Steps w w' mb bb sb sm rb fb P T s' (MS.fin d x') lg := by
  have c0 : w.cell? ⟨mb, 0, none⟩ = some (.int .i64 x.what) := h.m.blk.cell 0
  rw [hw] at c0
  have HC := Lib.hid hC
  clear h hw hC
  cases d
  case true =>
    go_enter Tryz.func93, Tryz.ntmps93
    go_wp2_with (first
      | (go_at_call 109; with_reducible refine HC.out.mono ?_; rintro e w1 ⟨rfl, hS⟩; have HS := Lib.hid hS; clear hS))
    go_ret
    exact ⟨rfl, HS.out⟩
  case false =>
    go_enter Tryz.func93, Tryz.ntmps93
    go_wp2_with (first
      | (go_at_call 109; with_reducible refine HC.out.mono ?_; rintro e w1 ⟨rfl, hS⟩; have HS := Lib.hid hS; clear hS)
      | (go_at_call 126; refine HS.out.idleCall.mono ?_; rintro e w2 ⟨rfl, hI⟩))
    go_ret
    exact ⟨rfl, hI⟩
set_option maxRecDepth 100000 in
set_option maxHeartbeats 2000000 in
theorem mBodyEnter {v : Int} (h : MM w mb bb sb sm rb fb P T s x lg mkv) (hw : x.what = 13) (hC : Calls Tryz.prog 118 #[.pointer (some ⟨mb, 0, none⟩)] w fun e w' => e = .returned (.tuple #[.int .i64 v, .bool d]) ∧ Steps w w' mb bb sb sm rb fb P T s' x' lg) :
    Calls Tryz.prog 93 #[.pointer (some ⟨mb, 0, none⟩)] w fun e w' => e = .returned (.bool d) ∧ Steps w w' mb bb sb sm rb fb P T s' (MS.fin d { x' with gens := v }) lg := by
  have c0 : w.cell? ⟨mb, 0, none⟩ = some (.int .i64 x.what) := h.m.blk.cell 0
  rw [hw] at c0
  have HC := Lib.hid hC
  clear h hw hC
  cases d
  case true =>
    go_enter Tryz.func93, Tryz.ntmps93
    go_wp2_with (first
      | (go_at_call 118; with_reducible refine HC.out.mono ?_; rintro e w1 ⟨rfl, hS⟩; obtain ⟨n23, n26, n27, g23, g26, g27⟩ := hS.cells; have HS := Lib.hid (hS.gens v); clear hS))
    go_ret
    exact ⟨rfl, HS.out⟩
  case false =>
    go_enter Tryz.func93, Tryz.ntmps93
    go_wp2_with (first
      | (go_at_call 118; with_reducible refine HC.out.mono ?_; rintro e w1 ⟨rfl, hS⟩; obtain ⟨n23, n26, n27, g23, g26, g27⟩ := hS.cells; have HS := Lib.hid (hS.gens v); clear hS)
      | (go_at_call 126; refine HS.out.idleCall.mono ?_; rintro e w2 ⟨rfl, hI⟩))
    go_ret
    exact ⟨rfl, hI⟩
set_option maxRecDepth 100000 in
set_option maxHeartbeats 2000000 in
theorem mBodyExit (h : MM w mb bb sb sm rb fb P T s x lg mkv) (hw : x.what = 14) (hC : Calls Tryz.prog 119 #[.pointer (some ⟨mb, 0, none⟩)] w fun e w' => e = .returned (.bool d) ∧ Steps w w' mb bb sb sm rb fb P T s' x' lg) :
    Calls Tryz.prog 93 #[.pointer (some ⟨mb, 0, none⟩)] w fun e w' => e = .returned (.bool d) ∧ Steps w w' mb bb sb sm rb fb P T s' (MS.fin d x') lg := by
  have c0 : w.cell? ⟨mb, 0, none⟩ = some (.int .i64 x.what) := h.m.blk.cell 0
  rw [hw] at c0
  have HC := Lib.hid hC
  clear h hw hC
  cases d
  case true =>
    go_enter Tryz.func93, Tryz.ntmps93
    go_wp2_with (first
      | (go_at_call 119; with_reducible refine HC.out.mono ?_; rintro e w1 ⟨rfl, hS⟩; have HS := Lib.hid hS; clear hS))
    go_ret
    exact ⟨rfl, HS.out⟩
  case false =>
    go_enter Tryz.func93, Tryz.ntmps93
    go_wp2_with (first
      | (go_at_call 119; with_reducible refine HC.out.mono ?_; rintro e w1 ⟨rfl, hS⟩; have HS := Lib.hid hS; clear hS)
      | (go_at_call 126; refine HS.out.idleCall.mono ?_; rintro e w2 ⟨rfl, hI⟩))
    go_ret
    exact ⟨rfl, hI⟩
set_option maxRecDepth 100000 in
set_option maxHeartbeats 2000000 in
theorem mBodyStop {v : Int} (h : MM w mb bb sb sm rb fb P T s x lg mkv) (hw : x.what = 15) (hC : Calls Tryz.prog 120 #[.pointer (some ⟨mb, 0, none⟩), .int .i64 x.thread] w fun e w' => e = .returned (.tuple #[.int .i64 v, .bool d]) ∧ Steps w w' mb bb sb sm rb fb P T s' x' lg) :
    Calls Tryz.prog 93 #[.pointer (some ⟨mb, 0, none⟩)] w fun e w' => e = .returned (.bool d) ∧ Steps w w' mb bb sb sm rb fb P T s' (MS.fin d { x' with gens := v }) lg := by
  have c0 : w.cell? ⟨mb, 0, none⟩ = some (.int .i64 x.what) := h.m.blk.cell 0
  rw [hw] at c0
  have c3 : w.cell? ⟨mb, 3, none⟩ = some (.int .i64 x.thread) := h.m.blk.cell 3
  obtain ⟨z3, hz3⟩ : ∃ z, z = x.thread := ⟨_, rfl⟩
  rw [← hz3] at c3 hC
  have HC := Lib.hid hC
  clear h hw hC hz3
  cases d
  case true =>
    go_enter Tryz.func93, Tryz.ntmps93
    go_wp2_with (first
      | (go_at_call 120; with_reducible refine HC.out.mono ?_; rintro e w1 ⟨rfl, hS⟩; obtain ⟨n23, n26, n27, g23, g26, g27⟩ := hS.cells; have HS := Lib.hid (hS.gens v); clear hS))
    go_ret
    exact ⟨rfl, HS.out⟩
  case false =>
    go_enter Tryz.func93, Tryz.ntmps93
    go_wp2_with (first
      | (go_at_call 120; with_reducible refine HC.out.mono ?_; rintro e w1 ⟨rfl, hS⟩; obtain ⟨n23, n26, n27, g23, g26, g27⟩ := hS.cells; have HS := Lib.hid (hS.gens v); clear hS)
      | (go_at_call 126; refine HS.out.idleCall.mono ?_; rintro e w2 ⟨rfl, hI⟩))
    go_ret
    exact ⟨rfl, hI⟩
set_option maxRecDepth 100000 in
set_option maxHeartbeats 2000000 in
theorem mBodyGo {v : Int} (h : MM w mb bb sb sm rb fb P T s x lg mkv) (hw : x.what = 16) (hC : Calls Tryz.prog 109 #[.pointer (some ⟨mb, 0, none⟩), .int .i64 1, .int .u64 0] w fun e w' => e = .returned (.tuple #[.int .u64 v, .bool d]) ∧ Steps w w' mb bb sb sm rb fb P T s' x' lg) :
    Calls Tryz.prog 93 #[.pointer (some ⟨mb, 0, none⟩)] w fun e w' => e = .returned (.bool d) ∧ Steps w w' mb bb sb sm rb fb P T s' (MS.fin d x') lg := by
  have c0 : w.cell? ⟨mb, 0, none⟩ = some (.int .i64 x.what) := h.m.blk.cell 0
  rw [hw] at c0
  have HC := Lib.hid hC
  clear h hw hC
  cases d
  case true =>
    go_enter Tryz.func93, Tryz.ntmps93
    go_wp2_with (first
      | (go_at_call 109; with_reducible refine HC.out.mono ?_; rintro e w1 ⟨rfl, hS⟩; have HS := Lib.hid hS; clear hS))
    go_ret
    exact ⟨rfl, HS.out⟩
  case false =>
    go_enter Tryz.func93, Tryz.ntmps93
    go_wp2_with (first
      | (go_at_call 109; with_reducible refine HC.out.mono ?_; rintro e w1 ⟨rfl, hS⟩; have HS := Lib.hid hS; clear hS)
      | (go_at_call 126; refine HS.out.idleCall.mono ?_; rintro e w2 ⟨rfl, hI⟩))
    go_ret
    exact ⟨rfl, hI⟩
set_option maxRecDepth 100000 in
set_option maxHeartbeats 2000000 in
theorem mBodyPop {v : Int} (h : MM w mb bb sb sm rb fb P T s x lg mkv) (hw : x.what = 1) (hC : Calls Tryz.prog 106 #[.pointer (some ⟨mb, 0, none⟩), .int .i64 x.head, .int .i64 0] w fun e w' => e = .returned (.tuple #[.int .i64 v, .bool d]) ∧ Steps w w' mb bb sb sm rb fb P T s' x' lg) :
    Calls Tryz.prog 93 #[.pointer (some ⟨mb, 0, none⟩)] w fun e w' => e = .returned (.bool d) ∧ Steps w w' mb bb sb sm rb fb P T s' (MS.fin d { x' with got := v }) lg := by
  have c0 : w.cell? ⟨mb, 0, none⟩ = some (.int .i64 x.what) := h.m.blk.cell 0
  rw [hw] at c0
  have c8 : w.cell? ⟨mb, 8, none⟩ = some (.int .i64 x.head) := h.m.blk.cell 8
  obtain ⟨z8, hz8⟩ : ∃ z, z = x.head := ⟨_, rfl⟩
  rw [← hz8] at c8 hC
  have HC := Lib.hid hC
  clear h hw hC hz8
  cases d
  case true =>
    go_enter Tryz.func93, Tryz.ntmps93
    go_wp2_with (first
      | (go_at_call 106; with_reducible refine HC.out.mono ?_; rintro e w1 ⟨rfl, hS⟩; obtain ⟨n23, n26, n27, g23, g26, g27⟩ := hS.cells; have HS := Lib.hid (hS.got v); clear hS))
    go_ret
    exact ⟨rfl, HS.out⟩
  case false =>
    go_enter Tryz.func93, Tryz.ntmps93
    go_wp2_with (first
      | (go_at_call 106; with_reducible refine HC.out.mono ?_; rintro e w1 ⟨rfl, hS⟩; obtain ⟨n23, n26, n27, g23, g26, g27⟩ := hS.cells; have HS := Lib.hid (hS.got v); clear hS)
      | (go_at_call 126; refine HS.out.idleCall.mono ?_; rintro e w2 ⟨rfl, hI⟩))
    go_ret
    exact ⟨rfl, hI⟩
set_option maxRecDepth 100000 in
set_option maxHeartbeats 2000000 in
theorem mBodyPush (h : MM w mb bb sb sm rb fb P T s x lg mkv) (hw : x.what = 2) (hst : x.stat x') (hC : Calls Tryz.prog 107 #[.pointer (some ⟨mb, 0, none⟩), .int .i64 x.head, .int .i64 x.page] w.drew fun e w' => e = .returned (.bool d) ∧ Steps w.drew w' mb bb sb sm rb fb P T s' x' lg) :
    Calls Tryz.prog 93 #[.pointer (some ⟨mb, 0, none⟩)] w fun e w' => e = .returned (.bool d) ∧ Steps w w' mb bb sb sm rb fb P T s' (MS.fin d x') lg := by
  have c0 : w.cell? ⟨mb, 0, none⟩ = some (.int .i64 x.what) := h.m.blk.cell 0
  rw [hw] at c0
  have c8 : w.cell? ⟨mb, 8, none⟩ = some (.int .i64 x.head) := h.m.blk.cell 8
  have c4 : w.cell? ⟨mb, 4, none⟩ = some (.int .i64 x.page) := h.m.blk.cell 4
  have HC := Lib.hid hC; have HST := Lib.hid hst
  clear h hw hC hst
  cases d
  case true =>
    go_enter Tryz.func93, Tryz.ntmps93
    go_wp2_with fail
    go_region_held3 (fun W => W.cell? ⟨mb, 8, none⟩ = some (.int .i64 x.head) ∧ W.cell? ⟨mb, 4, none⟩ = some (.int .i64 x.page))
      (first | (exact ⟨c8, c4⟩) | (exact ⟨HQ.out 8 (by decide) (by decide), HQ.out 4 (by decide) (by decide)⟩))
      (first | (go_at_call 107; with_reducible refine HC.out.mono ?_; rintro e w1 ⟨rfl, hS⟩; have HQ := Lib.hid (hS.args HST.out); have HS := Lib.hid hS.drew; clear hS))
    go_wp2_with fail
    go_ret
    exact ⟨rfl, HS.out⟩
  case false =>
    go_enter Tryz.func93, Tryz.ntmps93
    go_wp2_with fail
    go_region_held3 (fun W => W.cell? ⟨mb, 8, none⟩ = some (.int .i64 x.head) ∧ W.cell? ⟨mb, 4, none⟩ = some (.int .i64 x.page))
      (first | (exact ⟨c8, c4⟩) | (exact ⟨HQ.out 8 (by decide) (by decide), HQ.out 4 (by decide) (by decide)⟩))
      (first | (go_at_call 107; with_reducible refine HC.out.mono ?_; rintro e w1 ⟨rfl, hS⟩; have HQ := Lib.hid (hS.args HST.out); have HS := Lib.hid hS.drew; clear hS))
    go_wp2_with (first | (go_at_call 126; refine HS.out.idleCall.mono ?_; rintro e w2 ⟨rfl, hI⟩))
    go_ret
    exact ⟨rfl, hI⟩
set_option maxRecDepth 100000 in
set_option maxHeartbeats 2000000 in
theorem mBodyLay (h : MM w mb bb sb sm rb fb P T s x lg mkv) (hw : x.what = 5) (hst : x.stat x') (hC : Calls Tryz.prog 110 #[.pointer (some ⟨mb, 0, none⟩), .int .i64 x.page, .int .i64 x.cls, .int .i64 x.pages, .int .i64 x.gen, .int .u64 x.mask] w.drew fun e w' => e = .returned (.bool d) ∧ Steps w.drew w' mb bb sb sm rb fb P T s' x' lg) :
    Calls Tryz.prog 93 #[.pointer (some ⟨mb, 0, none⟩)] w fun e w' => e = .returned (.bool d) ∧ Steps w w' mb bb sb sm rb fb P T s' (MS.fin d x') lg := by
  have c0 : w.cell? ⟨mb, 0, none⟩ = some (.int .i64 x.what) := h.m.blk.cell 0
  rw [hw] at c0
  have c4 : w.cell? ⟨mb, 4, none⟩ = some (.int .i64 x.page) := h.m.blk.cell 4
  have c5 : w.cell? ⟨mb, 5, none⟩ = some (.int .i64 x.cls) := h.m.blk.cell 5
  have c6 : w.cell? ⟨mb, 6, none⟩ = some (.int .i64 x.pages) := h.m.blk.cell 6
  have c7 : w.cell? ⟨mb, 7, none⟩ = some (.int .i64 x.gen) := h.m.blk.cell 7
  have c11 : w.cell? ⟨mb, 11, none⟩ = some (.int .u64 x.mask) := h.m.blk.cell 11
  have HC := Lib.hid hC; have HST := Lib.hid hst
  clear h hw hC hst
  cases d
  case true =>
    go_enter Tryz.func93, Tryz.ntmps93
    go_wp2_with fail
    go_region_held3 (fun W => W.cell? ⟨mb, 4, none⟩ = some (.int .i64 x.page) ∧ W.cell? ⟨mb, 5, none⟩ = some (.int .i64 x.cls) ∧ W.cell? ⟨mb, 6, none⟩ = some (.int .i64 x.pages) ∧ W.cell? ⟨mb, 7, none⟩ = some (.int .i64 x.gen) ∧ W.cell? ⟨mb, 11, none⟩ = some (.int .u64 x.mask))
      (first | (exact ⟨c4, c5, c6, c7, c11⟩) | (exact ⟨HQ.out 4 (by decide) (by decide), HQ.out 5 (by decide) (by decide), HQ.out 6 (by decide) (by decide), HQ.out 7 (by decide) (by decide), HQ.out 11 (by decide) (by decide)⟩))
      (first | (go_at_call 110; with_reducible refine HC.out.mono ?_; rintro e w1 ⟨rfl, hS⟩; have HQ := Lib.hid (hS.args HST.out); have HS := Lib.hid hS.drew; clear hS))
    go_wp2_with fail
    go_ret
    exact ⟨rfl, HS.out⟩
  case false =>
    go_enter Tryz.func93, Tryz.ntmps93
    go_wp2_with fail
    go_region_held3 (fun W => W.cell? ⟨mb, 4, none⟩ = some (.int .i64 x.page) ∧ W.cell? ⟨mb, 5, none⟩ = some (.int .i64 x.cls) ∧ W.cell? ⟨mb, 6, none⟩ = some (.int .i64 x.pages) ∧ W.cell? ⟨mb, 7, none⟩ = some (.int .i64 x.gen) ∧ W.cell? ⟨mb, 11, none⟩ = some (.int .u64 x.mask))
      (first | (exact ⟨c4, c5, c6, c7, c11⟩) | (exact ⟨HQ.out 4 (by decide) (by decide), HQ.out 5 (by decide) (by decide), HQ.out 6 (by decide) (by decide), HQ.out 7 (by decide) (by decide), HQ.out 11 (by decide) (by decide)⟩))
      (first | (go_at_call 110; with_reducible refine HC.out.mono ?_; rintro e w1 ⟨rfl, hS⟩; have HQ := Lib.hid (hS.args HST.out); have HS := Lib.hid hS.drew; clear hS))
    go_wp2_with (first | (go_at_call 126; refine HS.out.idleCall.mono ?_; rintro e w2 ⟨rfl, hI⟩))
    go_ret
    exact ⟨rfl, hI⟩
set_option maxRecDepth 100000 in
set_option maxHeartbeats 2000000 in
theorem mBodyGone (h : MM w mb bb sb sm rb fb P T s x lg mkv) (hw : x.what = 6) (hst : x.stat x') (hC : Calls Tryz.prog 111 #[.pointer (some ⟨mb, 0, none⟩), .int .i64 x.page, .int .i64 x.pages] w.drew fun e w' => e = .returned (.bool d) ∧ Steps w.drew w' mb bb sb sm rb fb P T s' x' lg) :
    Calls Tryz.prog 93 #[.pointer (some ⟨mb, 0, none⟩)] w fun e w' => e = .returned (.bool d) ∧ Steps w w' mb bb sb sm rb fb P T s' (MS.fin d x') lg := by
  have c0 : w.cell? ⟨mb, 0, none⟩ = some (.int .i64 x.what) := h.m.blk.cell 0
  rw [hw] at c0
  have c4 : w.cell? ⟨mb, 4, none⟩ = some (.int .i64 x.page) := h.m.blk.cell 4
  have c6 : w.cell? ⟨mb, 6, none⟩ = some (.int .i64 x.pages) := h.m.blk.cell 6
  have HC := Lib.hid hC; have HST := Lib.hid hst
  clear h hw hC hst
  cases d
  case true =>
    go_enter Tryz.func93, Tryz.ntmps93
    go_wp2_with fail
    go_region_held3 (fun W => W.cell? ⟨mb, 4, none⟩ = some (.int .i64 x.page) ∧ W.cell? ⟨mb, 6, none⟩ = some (.int .i64 x.pages))
      (first | (exact ⟨c4, c6⟩) | (exact ⟨HQ.out 4 (by decide) (by decide), HQ.out 6 (by decide) (by decide)⟩))
      (first | (go_at_call 111; with_reducible refine HC.out.mono ?_; rintro e w1 ⟨rfl, hS⟩; have HQ := Lib.hid (hS.args HST.out); have HS := Lib.hid hS.drew; clear hS))
    go_wp2_with fail
    go_ret
    exact ⟨rfl, HS.out⟩
  case false =>
    go_enter Tryz.func93, Tryz.ntmps93
    go_wp2_with fail
    go_region_held3 (fun W => W.cell? ⟨mb, 4, none⟩ = some (.int .i64 x.page) ∧ W.cell? ⟨mb, 6, none⟩ = some (.int .i64 x.pages))
      (first | (exact ⟨c4, c6⟩) | (exact ⟨HQ.out 4 (by decide) (by decide), HQ.out 6 (by decide) (by decide)⟩))
      (first | (go_at_call 111; with_reducible refine HC.out.mono ?_; rintro e w1 ⟨rfl, hS⟩; have HQ := Lib.hid (hS.args HST.out); have HS := Lib.hid hS.drew; clear hS))
    go_wp2_with (first | (go_at_call 126; refine HS.out.idleCall.mono ?_; rintro e w2 ⟨rfl, hI⟩))
    go_ret
    exact ⟨rfl, hI⟩
set_option maxRecDepth 100000 in
set_option maxHeartbeats 2000000 in
theorem mBodyClaim {v : Int} (h : MM w mb bb sb sm rb fb P T s x lg mkv) (hw : x.what = 8) (hst : x.stat x') (hC : Calls Tryz.prog 113 #[.pointer (some ⟨mb, 0, none⟩), .int .i64 x.head, .int .i64 x.gen] w.drew fun e w' => e = .returned (.tuple #[.int .i64 v, .bool d]) ∧ Steps w.drew w' mb bb sb sm rb fb P T s' x' lg) :
    Calls Tryz.prog 93 #[.pointer (some ⟨mb, 0, none⟩)] w fun e w' => e = .returned (.bool d) ∧ Steps w w' mb bb sb sm rb fb P T s' (MS.fin d { x' with got := v }) lg := by
  have c0 : w.cell? ⟨mb, 0, none⟩ = some (.int .i64 x.what) := h.m.blk.cell 0
  rw [hw] at c0
  have c8 : w.cell? ⟨mb, 8, none⟩ = some (.int .i64 x.head) := h.m.blk.cell 8
  have c7 : w.cell? ⟨mb, 7, none⟩ = some (.int .i64 x.gen) := h.m.blk.cell 7
  have HC := Lib.hid hC; have HST := Lib.hid hst
  clear h hw hC hst
  cases d
  case true =>
    go_enter Tryz.func93, Tryz.ntmps93
    go_wp2_with fail
    go_region_held3 (fun W => W.cell? ⟨mb, 8, none⟩ = some (.int .i64 x.head) ∧ W.cell? ⟨mb, 7, none⟩ = some (.int .i64 x.gen))
      (first | (exact ⟨c8, c7⟩) | (exact ⟨HQ.out 8 (by decide) (by decide), HQ.out 7 (by decide) (by decide)⟩) | (exact ⟨HQ2.out 8 (by decide) (by decide), HQ2.out 7 (by decide) (by decide)⟩))
      (first | (go_at_call 113; with_reducible refine HC.out.mono ?_; rintro e w1 ⟨rfl, hS⟩; have HQ := Lib.hid (hS.args HST.out); have HQ2 := Lib.hid ((hS.drew.got v).args (stat_got HST.out v)); obtain ⟨n23, n26, n27, g23, g26, g27⟩ := hS.drew.cells; have HS := Lib.hid (hS.drew.got v); clear hS))
    go_wp2_with fail
    go_ret
    exact ⟨rfl, HS.out⟩
  case false =>
    go_enter Tryz.func93, Tryz.ntmps93
    go_wp2_with fail
    go_region_held3 (fun W => W.cell? ⟨mb, 8, none⟩ = some (.int .i64 x.head) ∧ W.cell? ⟨mb, 7, none⟩ = some (.int .i64 x.gen))
      (first | (exact ⟨c8, c7⟩) | (exact ⟨HQ.out 8 (by decide) (by decide), HQ.out 7 (by decide) (by decide)⟩) | (exact ⟨HQ2.out 8 (by decide) (by decide), HQ2.out 7 (by decide) (by decide)⟩))
      (first | (go_at_call 113; with_reducible refine HC.out.mono ?_; rintro e w1 ⟨rfl, hS⟩; have HQ := Lib.hid (hS.args HST.out); have HQ2 := Lib.hid ((hS.drew.got v).args (stat_got HST.out v)); obtain ⟨n23, n26, n27, g23, g26, g27⟩ := hS.drew.cells; have HS := Lib.hid (hS.drew.got v); clear hS))
    go_wp2_with (first | (go_at_call 126; refine HS.out.idleCall.mono ?_; rintro e w2 ⟨rfl, hI⟩))
    go_ret
    exact ⟨rfl, hI⟩
end
/-- How many accesses a machine is still told or may do in this step. -/
def MS.mu (x : MS) : Nat := (x.log.length - x.at_) + (if x.used then 0 else 1)
/-- How long its log may become in this step. -/
def MS.room (x : MS) : Nat := x.log.length + (if x.used then 0 else 1)
section
variable {x x1 : MS} {s s1 : StoreS} {c : Ac} {o : Option Int} {v : Int}
theorem acc_mu (hr : x.acc c s = (some v, x1, s1)) : x1.mu < x.mu := by
  rcases hv : x.log[x.at_]? with _ | u
  · have hl := List.getElem?_eq_none_iff.1 hv
    cases hu : x.used
    · rw [acc_now hv hu] at hr
      injection hr with _ h2
      injection h2 with h2 _
      subst h2
      simp [MS.mu, hu, MS.told]
    · rw [acc_off hv hu] at hr; injection hr with h1 _; cases h1
  · have hl := (List.getElem?_eq_some_iff.1 hv).1
    rw [acc_told hv] at hr
    injection hr with _ h2
    injection h2 with h2 _
    subst h2
    simp [MS.mu]
    omega
theorem acc_room (hr : x.acc c s = (o, x1, s1)) : x1.room = x.room := by
  rcases hv : x.log[x.at_]? with _ | u
  · cases hu : x.used
    · rw [acc_now hv hu] at hr
      injection hr with _ h2
      injection h2 with h2 _
      subst h2
      simp [MS.room, hu, MS.told]
    · rw [acc_off hv hu] at hr; injection hr with _ h2; injection h2 with h2 _; subst h2; rfl
  · rw [acc_told hv] at hr
    injection hr with _ h2
    injection h2 with h2 _
    subst h2
    rfl
theorem MS.log_room (x : MS) : x.log.length ≤ x.room := by unfold MS.room; split <;> omega
end
/-- Loads of a word until it is 0. -/
def tillP : Nat → Int → MS → StoreS → Bool × MS × StoreS
  | 0, _, x, s => (false, x, s)
  | f + 1, a, x, s => match x.acc (.load a) s with
    | (none, x1, s1) => (false, x1, s1)
    | (some v, x1, s1) => if v = 0 then (true, x1, s1) else tillP f a x1 s1
theorem acc_mu_le {x x1 : MS} {s s1 : StoreS} {c : Ac} {o : Option Int} (hr : x.acc c s = (o, x1, s1)) : x1.mu ≤ x.mu := by
  rcases o with _ | v
  · rcases hv : x.log[x.at_]? with _ | u
    · cases hu : x.used
      · rw [acc_now hv hu] at hr; injection hr with h1 _; cases h1
      · rw [acc_off hv hu] at hr; injection hr with _ h2; injection h2 with h2 _; subst h2; exact Nat.le_refl _
    · rw [acc_told hv] at hr; injection hr with h1 _; cases h1
  · exact Nat.le_of_lt (acc_mu hr)
theorem tillP_mu (a : Int) : ∀ (f : Nat) (x : MS) (s : StoreS), (tillP f a x s).2.1.mu ≤ x.mu
  | 0, _, _ => Nat.le_refl _
  | f + 1, x, s => by
    obtain ⟨o, x1, s1, hr⟩ : ∃ o x1 s1, x.acc (.load a) s = (o, x1, s1) := ⟨_, _, _, rfl⟩
    have hm := acc_mu_le hr
    simp only [tillP, hr]
    rcases o with _ | v
    · exact hm
    · simp only
      split
      · exact hm
      · exact Nat.le_trans (tillP_mu a f x1 s1) hm
/-- The document's enter: the cycle, whether it is in. -/
def enterP : Nat → MS → StoreS → Int × Bool × MS × StoreS
  | 0, x, s => (0, false, x, s)
  | f + 1, x, s => match x.acc (.add 4 1) s with
    | (none, x1, s1) => (0, false, x1, s1)
    | (some _, x1, s1) => match x1.acc (.load 1) s1 with
      | (none, x2, s2) => (0, false, x2, s2)
      | (some v, x2, s2) => if v = 0 then (match x2.acc (.load 0) s2 with
          | (o, x3, s3) => (wrap64 (o.getD 0), o.isSome, x3, s3))
        else match x2.acc (.add 4 18446744073709551615) s2 with
          | (none, x3, s3) => (0, false, x3, s3)
          | (some _, x3, s3) => match tillP f 1 x3 s3 with
            | (false, x4, s4) => (0, false, x4, s4)
            | (true, x4, s4) => enterP f x4 s4
/-- The document's stop. -/
def stopP (t : Int) : Nat → MS → StoreS → Int × Bool × MS × StoreS
  | 0, x, s => (0, false, x, s)
  | f + 1, x, s => match x.acc (.cas 1 0 (t + 1)) s with
    | (none, x1, s1) => (0, false, x1, s1)
    | (some v, x1, s1) => if v = 0 then (match tillP f 4 x1 s1 with
        | (false, x2, s2) => (0, false, x2, s2)
        | (true, x2, s2) => match x2.acc (.load 0) s2 with
          | (o, x3, s3) => (wrap64 (o.getD 0), o.isSome, x3, s3))
      else stopP t f x1 s1
/-- A walk within a step: the machine, what was turned since the step's start. -/
def Rn (w wr : World) (mb bb sb sm rb fb : Nat) (P T : Int) (lg mkv : Value) (x0 : MS) (s0 : StoreS) (y : MS) (ss : StoreS) : Prop :=
  ∃ lgr, MM wr mb bb sb sm rb fb P T ss y lgr mkv ∧ Only (MT w mb lg sb sm) w wr ∧ Lg w lg lgr ∧ y.room = x0.room ∧ ss.ws.length = s0.ws.length
section
variable {w wr : World} {mb bb sb sm rb fb f : Nat} {P T a u v : Int} {s s0 s1 ss : StoreS} {x x0 y y1 : MS} {lg mkv : Value} {o : Option Int}
theorem Rn.refl (h : MM w mb bb sb sm rb fb P T s x lg mkv) : Rn w w mb bb sb sm rb fb P T lg mkv x s x s := ⟨lg, h, Only.refl _ _, Lg.refl _ _, rfl, rfl⟩
theorem Rn.steps (h : Rn w wr mb bb sb sm rb fb P T lg mkv x0 s0 y ss) : Steps w wr mb bb sb sm rb fb P T ss y lg := by
  obtain ⟨lgr, h1, h2, h3, _⟩ := h
  exact ⟨_, _, h1, h2, h3⟩
theorem rLoad (h : Rn w wr mb bb sb sm rb fb P T lg mkv x0 s0 y ss) (hi : s0.inR a) (hf : x0.room < 100000) (hr : y.acc (.load a) ss = (o, y1, s1)) :
    Calls Tryz.prog 137 #[.pointer (some ⟨mb, 0, none⟩), .int .i64 a] wr fun e w' => e = .returned (.tuple #[.int .u64 (o.getD 0), .bool o.isSome]) ∧ Rn w w' mb bb sb sm rb fb P T lg mkv x0 s0 y1 s1 := by
  obtain ⟨lgr, h1, h2, h3, h4, h5⟩ := h
  refine (mLoad_any h1 (inR_of hi h5) (by have := y.log_room; omega) hr).mono (fun e w' q => ?_)
  obtain ⟨q1, lg1, q2, q3, q4⟩ := q
  exact ⟨q1, lg1, q2, MT.trans h2 h3 q3, Lg.trans h3 q4 h2.size, (acc_room hr).trans h4, (acc_facts hr).2.2.trans h5⟩
theorem rAdd (h : Rn w wr mb bb sb sm rb fb P T lg mkv x0 s0 y ss) (hi : s0.inR a) (hf : x0.room < 100000) (hr : y.acc (.add a v) ss = (o, y1, s1)) :
    Calls Tryz.prog 152 #[.pointer (some ⟨mb, 0, none⟩), .int .i64 a, .int .u64 v] wr fun e w' => e = .returned (.tuple #[.int .u64 (o.getD 0), .bool o.isSome]) ∧ Rn w w' mb bb sb sm rb fb P T lg mkv x0 s0 y1 s1 := by
  obtain ⟨lgr, h1, h2, h3, h4, h5⟩ := h
  refine (mAdd_any h1 (inR_of hi h5) (by have := y.log_room; omega) hr).mono (fun e w' q => ?_)
  obtain ⟨q1, lg1, q2, q3, q4⟩ := q
  exact ⟨q1, lg1, q2, MT.trans h2 h3 q3, Lg.trans h3 q4 h2.size, (acc_room hr).trans h4, (acc_facts hr).2.2.trans h5⟩
theorem rCas {ol : Int} (h : Rn w wr mb bb sb sm rb fb P T lg mkv x0 s0 y ss) (hi : s0.inR a) (hf : x0.room < 100000) (hv : 0 ≤ v ∧ v < 18446744073709551616) (hr : y.acc (.cas a ol v) ss = (o, y1, s1)) :
    Calls Tryz.prog 140 #[.pointer (some ⟨mb, 0, none⟩), .int .i64 a, .int .u64 ol, .int .u64 v] wr fun e w' => e = .returned (.tuple #[.bool (casR o ol), .bool o.isSome]) ∧ Rn w w' mb bb sb sm rb fb P T lg mkv x0 s0 y1 s1 := by
  obtain ⟨lgr, h1, h2, h3, h4, h5⟩ := h
  refine (mCas_any h1 (inR_of hi h5) (by have := y.log_room; omega) hv hr).mono (fun e w' q => ?_)
  obtain ⟨q1, lg1, q2, q3, q4⟩ := q
  exact ⟨q1, lg1, q2, MT.trans h2 h3 q3, Lg.trans h3 q4 h2.size, (acc_room hr).trans h4, (acc_facts hr).2.2.trans h5⟩
set_option maxRecDepth 100000 in
set_option maxHeartbeats 2000000 in
theorem rTill {R : Bool × MS × StoreS} (h : Rn w wr mb bb sb sm rb fb P T lg mkv x0 s0 y ss) (hi : s0.inR a) (hf : x0.room < 100000) (hm : y.mu < f) (hR : tillP f a y ss = R) :
    Calls Tryz.prog 162 #[.pointer (some ⟨mb, 0, none⟩), .int .i64 a] wr fun e w' => e = .returned (.bool R.1) ∧ Rn w w' mb bb sb sm rb fb P T lg mkv x0 s0 R.2.1 R.2.2 := by
  have H := Lib.hid h
  have HI := Lib.hid hi
  have HRS := Lib.hid hR
  clear h hi hR
  go_enter Tryz.func162, Tryz.ntmps162
  go_wp2_with fail
  go_loopg [5, 6] f (fun gg _ _ wq => ∃ (z : MS) (sz : StoreS), Hid (Rn w wq mb bb sb sm rb fb P T lg mkv x0 s0 z sz) ∧ z.mu < gg ∧ Hid (tillP gg a z sz = R))
  case atStart => exact ⟨y, ss, H, hm, HRS⟩
  case round =>
    obtain ⟨z, sz, HR, hg, HT⟩ := hrel
    obtain ⟨g1, rfl⟩ : ∃ g1, gk = g1 + 1 := ⟨gk - 1, by omega⟩
    obtain ⟨o, z1, s1, hr⟩ : ∃ o z1 s1, z.acc (.load a) sz = (o, z1, s1) := ⟨_, _, _, rfl⟩
    have HRR := Lib.hid hr
    have hT := HT.out
    simp only [tillP, hr] at hT
    have HT1 := Lib.hid hT
    clear hT hr
    rcases o with _ | v
    · go_wp2_with (go_at_call 137; with_reducible refine (rLoad HR.out HI.out hf HRR.out).mono ?_; rintro e v1 ⟨rfl, hm1⟩; have HM1 := Lib.hid hm1; clear hm1)
      go_ret
      rw [← HT1.out]
      exact ⟨rfl, HM1.out⟩
    · by_cases h0 : v = 0
      · subst h0
        go_wp2_with (go_at_call 137; with_reducible refine (rLoad HR.out HI.out hf HRR.out).mono ?_; rintro e v1 ⟨rfl, hm1⟩; have HM1 := Lib.hid hm1; clear hm1)
        go_ret
        rw [← HT1.out]
        exact ⟨rfl, HM1.out⟩
      · go_wp2_with (go_at_call 137; with_reducible refine (rLoad HR.out HI.out hf HRR.out).mono ?_; rintro e v1 ⟨rfl, hm1⟩; have HM1 := Lib.hid hm1; clear hm1)
        have hmu := acc_mu HRR.out
        go_roundg g1
        case measure => omega
        case rel => exact ⟨z1, s1, HM1, by omega, Lib.hid (by have := HT1.out; rwa [if_neg h0] at this)⟩
set_option maxHeartbeats 400000 in
theorem rExit (h : Rn w wr mb bb sb sm rb fb P T lg mkv x0 s0 y ss) (hi : s0.inR 4) (hf : x0.room < 100000) (hr : y.acc (.add 4 18446744073709551615) ss = (o, y1, s1)) :
    Calls Tryz.prog 119 #[.pointer (some ⟨mb, 0, none⟩)] wr fun e w' => e = .returned (.bool o.isSome) ∧ Rn w w' mb bb sb sm rb fb P T lg mkv x0 s0 y1 s1 := by
  have H := Lib.hid h; have HI := Lib.hid hi; have HRR := Lib.hid hr
  clear h hi hr
  go_enter Tryz.func119, Tryz.ntmps119
  go_wp2_with (go_at_call 152; with_reducible refine (rAdd H.out HI.out hf HRR.out).mono ?_; rintro e v1 ⟨rfl, hm1⟩; have HM1 := Lib.hid hm1; clear hm1)
  go_ret
  exact ⟨rfl, HM1.out⟩
set_option maxRecDepth 100000 in
set_option maxHeartbeats 4000000 in
theorem rEnter {R : Int × Bool × MS × StoreS} (h : Rn w wr mb bb sb sm rb fb P T lg mkv x0 s0 y ss) (hi : s0.inR 4) (hf : x0.room < 100000) (hm : y.mu < f) (hR : enterP f y ss = R) :
    Calls Tryz.prog 118 #[.pointer (some ⟨mb, 0, none⟩)] wr fun e w' => e = .returned (.tuple #[.int .i64 R.1, .bool R.2.1]) ∧ Rn w w' mb bb sb sm rb fb P T lg mkv x0 s0 R.2.2.1 R.2.2.2 := by
  have H := Lib.hid h
  have HI := Lib.hid (show s0.inR 4 ∧ s0.inR 1 ∧ s0.inR 0 from ⟨hi, ⟨by omega, by have := hi.2; omega⟩, ⟨by omega, by have := hi.2; omega⟩⟩)
  have HRS := Lib.hid hR
  clear h hi hR
  go_enter Tryz.func118, Tryz.ntmps118
  go_wp2_with fail
  go_loopg [4, 5] f (fun gg _ _ wq => ∃ (z : MS) (sz : StoreS), Hid (Rn w wq mb bb sb sm rb fb P T lg mkv x0 s0 z sz) ∧ z.mu < gg ∧ Hid (enterP gg z sz = R))
  case atStart => exact ⟨y, ss, H, hm, HRS⟩
  case round =>
    obtain ⟨z, sz, HR, hg, HT⟩ := hrel
    obtain ⟨g1, rfl⟩ : ∃ g1, gk = g1 + 1 := ⟨gk - 1, by omega⟩
    obtain ⟨o1, z1, s1, hr1⟩ : ∃ o z1 s1, z.acc (.add 4 1) sz = (o, z1, s1) := ⟨_, _, _, rfl⟩
    obtain ⟨o2, z2, s2, hr2⟩ : ∃ o z2 s2, z1.acc (.load 1) s1 = (o, z2, s2) := ⟨_, _, _, rfl⟩
    have hT := HT.out
    simp only [enterP, hr1] at hT
    have HR1 := Lib.hid hr1; have HR2 := Lib.hid hr2
    have m1 := acc_mu_le hr1; have m2 := acc_mu_le hr2
    rcases o1 with _ | v1
    · have HT1 := Lib.hid hT
      clear hT hr1 hr2 m1 m2
      go_wp2_with (go_at_call 152; with_reducible refine (rAdd HR.out HI.out.1 hf HR1.out).mono ?_; rintro e v1 ⟨rfl, hm1⟩; have HM1 := Lib.hid hm1; clear hm1)
      go_ret2
      rw [← HT1.out]
      exact ⟨rfl, HM1.out⟩
    · simp only [hr2] at hT
      rcases o2 with _ | v2
      · have HT1 := Lib.hid hT
        clear hT hr1 hr2 m1 m2
        go_wp2_with (first
          | (go_at_call 152; with_reducible refine (rAdd HR.out HI.out.1 hf HR1.out).mono ?_; rintro e v1 ⟨rfl, hm1⟩; have HM1 := Lib.hid hm1; clear hm1)
          | (go_at_call 137; with_reducible refine (rLoad HM1.out HI.out.2.1 hf HR2.out).mono ?_; rintro e v2 ⟨rfl, hm2⟩; have HM2 := Lib.hid hm2; clear hm2))
        go_ret2
        rw [← HT1.out]
        exact ⟨rfl, HM2.out⟩
      · by_cases h0 : v2 = 0
        · subst h0
          obtain ⟨o3, z3, s3, hr3⟩ : ∃ o z3 s3, z2.acc (.load 0) s2 = (o, z3, s3) := ⟨_, _, _, rfl⟩
          simp only [hr3, if_true] at hT
          have HT1 := Lib.hid hT; have HR3 := Lib.hid hr3
          clear hT hr1 hr2 hr3 m1 m2
          go_wp2_with (first
            | (go_at_call 152; with_reducible refine (rAdd HR.out HI.out.1 hf HR1.out).mono ?_; rintro e v1 ⟨rfl, hm1⟩; have HM1 := Lib.hid hm1; clear hm1)
            | (go_at_call 137; with_reducible refine (rLoad HM1.out HI.out.2.1 hf HR2.out).mono ?_; rintro e v2 ⟨rfl, hm2⟩; have HM2 := Lib.hid hm2; clear hm2)
            | (go_at_call 137; with_reducible refine (rLoad HM2.out HI.out.2.2 hf HR3.out).mono ?_; rintro e v3 ⟨rfl, hm3⟩; have HM3 := Lib.hid hm3; clear hm3))
          go_ret2
          rw [← HT1.out]
          exact ⟨rfl, HM3.out⟩
        · obtain ⟨o3, z3, s3, hr3⟩ : ∃ o z3 s3, z2.acc (.add 4 18446744073709551615) s2 = (o, z3, s3) := ⟨_, _, _, rfl⟩
          simp only [hr3, if_neg h0] at hT
          have HR3 := Lib.hid hr3
          have m3 := acc_mu_le hr3
          have m0 := acc_mu hr1
          rcases o3 with _ | v3
          · have HT1 := Lib.hid hT
            clear hT hr1 hr2 hr3 m1 m2 m3 m0
            go_wp2_with (first
              | (go_at_call 152; with_reducible refine (rAdd HR.out HI.out.1 hf HR1.out).mono ?_; rintro e v1 ⟨rfl, hm1⟩; have HM1 := Lib.hid hm1; clear hm1)
              | (go_at_call 137; with_reducible refine (rLoad HM1.out HI.out.2.1 hf HR2.out).mono ?_; rintro e v2 ⟨rfl, hm2⟩; have HM2 := Lib.hid hm2; clear hm2)
              | (go_at_call 119; with_reducible refine (rExit HM2.out HI.out.1 hf HR3.out).mono ?_; rintro e v3 ⟨rfl, hm3⟩; have HM3 := Lib.hid hm3; clear hm3))
            go_ret2
            rw [← HT1.out]
            exact ⟨rfl, HM3.out⟩
          · obtain ⟨d, z4, s4, hr4⟩ : ∃ d z4 s4, tillP g1 1 z3 s3 = (d, z4, s4) := ⟨_, _, _, rfl⟩
            simp only [hr4] at hT
            have m4 := tillP_mu 1 g1 z3 s3
            rw [hr4] at m4
            replace m4 : z4.mu ≤ z3.mu := m4
            have HR4 := Lib.hid hr4
            have hg3 : z3.mu < g1 := by omega
            cases d
            · have HT1 := Lib.hid hT
              clear hT hr1 hr2 hr3 hr4 m1 m2 m3 m4 m0
              go_wp2_with (first
                | (go_at_call 152; with_reducible refine (rAdd HR.out HI.out.1 hf HR1.out).mono ?_; rintro e v1 ⟨rfl, hm1⟩; have HM1 := Lib.hid hm1; clear hm1)
                | (go_at_call 137; with_reducible refine (rLoad HM1.out HI.out.2.1 hf HR2.out).mono ?_; rintro e v2 ⟨rfl, hm2⟩; have HM2 := Lib.hid hm2; clear hm2)
                | (go_at_call 119; with_reducible refine (rExit HM2.out HI.out.1 hf HR3.out).mono ?_; rintro e v3 ⟨rfl, hm3⟩; have HM3 := Lib.hid hm3; clear hm3)
                | (go_at_call 162; with_reducible refine (rTill HM3.out HI.out.2.1 hf hg3 HR4.out).mono ?_; rintro e v4 ⟨rfl, hm4⟩; have HM4 := Lib.hid hm4; clear hm4))
              go_ret2
              rw [← HT1.out]
              exact ⟨rfl, HM4.out⟩
            · have HT1 := Lib.hid hT
              clear hT hr1 hr2 hr3 hr4
              go_wp2_with (first
                | (go_at_call 152; with_reducible refine (rAdd HR.out HI.out.1 hf HR1.out).mono ?_; rintro e v1 ⟨rfl, hm1⟩; have HM1 := Lib.hid hm1; clear hm1)
                | (go_at_call 137; with_reducible refine (rLoad HM1.out HI.out.2.1 hf HR2.out).mono ?_; rintro e v2 ⟨rfl, hm2⟩; have HM2 := Lib.hid hm2; clear hm2)
                | (go_at_call 119; with_reducible refine (rExit HM2.out HI.out.1 hf HR3.out).mono ?_; rintro e v3 ⟨rfl, hm3⟩; have HM3 := Lib.hid hm3; clear hm3)
                | (go_at_call 162; with_reducible refine (rTill HM3.out HI.out.2.1 hf hg3 HR4.out).mono ?_; rintro e v4 ⟨rfl, hm4⟩; have HM4 := Lib.hid hm4; clear hm4))
              go_roundg g1
              case measure => omega
              case rel => exact ⟨z4, s4, HM4, by omega, HT1⟩
set_option maxRecDepth 100000 in
set_option maxHeartbeats 4000000 in
theorem rStop {t : Int} {R : Int × Bool × MS × StoreS} (h : Rn w wr mb bb sb sm rb fb P T lg mkv x0 s0 y ss) (hi : s0.inR 4) (hf : x0.room < 100000) (ht : 0 ≤ t ∧ t < 4096) (hm : y.mu < f) (hR : stopP t f y ss = R) :
    Calls Tryz.prog 120 #[.pointer (some ⟨mb, 0, none⟩), .int .i64 t] wr fun e w' => e = .returned (.tuple #[.int .i64 R.1, .bool R.2.1]) ∧ Rn w w' mb bb sb sm rb fb P T lg mkv x0 s0 R.2.2.1 R.2.2.2 := by
  have e1 : IntKind.i64.wrap (t + 1) = t + 1 := by rw [IntKind.wrap_i64]; omega
  have e2 : IntKind.u64.wrap (t + 1) = t + 1 := by rw [IntKind.wrap_u64]; omega
  have e3 : (t + 1) % 18446744073709551616 = t + 1 := by omega
  have hv : 0 ≤ t + 1 ∧ t + 1 < 18446744073709551616 := by omega
  have HV := Lib.hid hv
  have H := Lib.hid h
  have HI := Lib.hid (show s0.inR 4 ∧ s0.inR 1 ∧ s0.inR 0 from ⟨hi, ⟨by omega, by have := hi.2; omega⟩, ⟨by omega, by have := hi.2; omega⟩⟩)
  have HRS := Lib.hid hR
  clear h hi hR hv
  go_enter Tryz.func120, Tryz.ntmps120
  go_wp2_with fail
  go_loopg [6, 7] f (fun gg _ _ wq => ∃ (z : MS) (sz : StoreS), Hid (Rn w wq mb bb sb sm rb fb P T lg mkv x0 s0 z sz) ∧ z.mu < gg ∧ Hid (stopP t gg z sz = R))
  case atStart => exact ⟨y, ss, H, hm, HRS⟩
  case round =>
    obtain ⟨z, sz, HR, hg, HT⟩ := hrel
    obtain ⟨g1, rfl⟩ : ∃ g1, gk = g1 + 1 := ⟨gk - 1, by omega⟩
    obtain ⟨o1, z1, s1, hr1⟩ : ∃ o z1 s1, z.acc (.cas 1 0 (t + 1)) sz = (o, z1, s1) := ⟨_, _, _, rfl⟩
    have hT := HT.out
    simp only [stopP, hr1] at hT
    have HR1 := Lib.hid hr1
    rcases o1 with _ | v1
    · have HT1 := Lib.hid hT
      have hcr : casR none 0 = false := rfl
      clear hT hr1
      go_wp2_with (go_at_call 140; with_reducible refine (rCas HR.out HI.out.2.1 hf HV.out HR1.out).mono ?_; rintro e v1 ⟨rfl, hm1⟩; have HM1 := Lib.hid hm1; clear hm1)
      go_ret2
      rw [← HT1.out]
      exact ⟨rfl, HM1.out⟩
    · have m0 := acc_mu hr1
      have hg3 : z1.mu < g1 := by omega
      by_cases h0 : v1 = 0
      · have hcr : casR (some v1) 0 = true := by simp [casR, h0]
        simp only [if_pos h0] at hT
        obtain ⟨d, z2, s2, hr2⟩ : ∃ d z2 s2, tillP g1 4 z1 s1 = (d, z2, s2) := ⟨_, _, _, rfl⟩
        simp only [hr2] at hT
        have HR2 := Lib.hid hr2
        cases d
        · have HT1 := Lib.hid hT
          clear hT hr1 hr2 h0
          go_wp2_with (first
            | (go_at_call 140; with_reducible refine (rCas HR.out HI.out.2.1 hf HV.out HR1.out).mono ?_; rintro e v1 ⟨rfl, hm1⟩; have HM1 := Lib.hid hm1; clear hm1)
            | (go_at_call 162; with_reducible refine (rTill HM1.out HI.out.1 hf hg3 HR2.out).mono ?_; rintro e v2 ⟨rfl, hm2⟩; have HM2 := Lib.hid hm2; clear hm2))
          go_ret2
          rw [← HT1.out]
          exact ⟨rfl, HM2.out⟩
        · obtain ⟨o3, z3, s3, hr3⟩ : ∃ o z3 s3, z2.acc (.load 0) s2 = (o, z3, s3) := ⟨_, _, _, rfl⟩
          simp only [hr3] at hT
          have HT1 := Lib.hid hT; have HR3 := Lib.hid hr3
          clear hT hr1 hr2 hr3 h0
          go_wp2_with (first
            | (go_at_call 140; with_reducible refine (rCas HR.out HI.out.2.1 hf HV.out HR1.out).mono ?_; rintro e v1 ⟨rfl, hm1⟩; have HM1 := Lib.hid hm1; clear hm1)
            | (go_at_call 162; with_reducible refine (rTill HM1.out HI.out.1 hf hg3 HR2.out).mono ?_; rintro e v2 ⟨rfl, hm2⟩; have HM2 := Lib.hid hm2; clear hm2)
            | (go_at_call 137; with_reducible refine (rLoad HM2.out HI.out.2.2 hf HR3.out).mono ?_; rintro e v3 ⟨rfl, hm3⟩; have HM3 := Lib.hid hm3; clear hm3))
          go_ret2
          rw [← HT1.out]
          exact ⟨rfl, HM3.out⟩
      · have hcr : casR (some v1) 0 = false := by simp [casR, h0]
        have HT1 := Lib.hid hT
        have H0 := Lib.hid h0
        clear hT hr1 h0
        go_wp2_with (go_at_call 140; with_reducible refine (rCas HR.out HI.out.2.1 hf HV.out HR1.out).mono ?_; rintro e v1 ⟨rfl, hm1⟩; have HM1 := Lib.hid hm1; clear hm1)
        go_roundg g1
        case measure => omega
        case rel => exact ⟨z1, s1, HM1, hg3, Lib.hid (by have := HT1.out; simpa only [if_neg H0.out] using this)⟩
end
section
variable {x y : MS} {s : StoreS} {c : Ac} {v : Int} {r : List Int}
/-- The machine behind what it was told so far: y is x, k words on. -/
def MS.on (x : MS) (k : Nat) : MS := { x with at_ := x.at_ + k }
theorem on_told (hu : x.used = false) (h : x.log.drop x.at_ = v :: r) : x.acc c s = (some v, x.on 1, s) ∧ (x.on 1).log.drop (x.on 1).at_ = r ∧ (x.on 1).used = false := by
  have hv : x.log[x.at_]? = some v := by
    have := congrArg (·[0]?) h
    simpa using this
  refine ⟨acc_told hv, ?_, hu⟩
  show x.log.drop (x.at_ + 1) = r
  rw [← List.drop_drop, h]
  rfl
/-- The live access. -/
def MS.live (x : MS) (c : Ac) (s : StoreS) : MS := { x.told (c.act s) with used := true, log := x.log ++ [s.word c.pos], at_ := x.at_ + 1 }
theorem on_live (hu : x.used = false) (h : x.log.drop x.at_ = []) : x.acc c s = (some (s.word c.pos), x.live c s, c.act s) :=
  acc_now (List.getElem?_eq_none (List.drop_eq_nil_iff.1 h)) hu
theorem live_off (c2 : Ac) (s2 : StoreS) (h : x.log.drop x.at_ = []) : (x.live c s).acc c2 s2 = (none, x.live c s, s2) :=
  acc_off (List.getElem?_eq_none (by have := List.drop_eq_nil_iff.1 h; simp [MS.live]; omega)) rfl
/-- Waiting till a word is 0: it was told so, and how far; or not yet. -/
theorem till_law (a : Int) : ∀ (r : List Int) (x : MS) (f : Nat), x.used = false → x.log.drop x.at_ = r → x.mu < f →
    (∃ k, k < r.length ∧ r[k]? = some 0 ∧ (∀ j, j < k → r[j]? ≠ some 0) ∧ tillP f a x s = (true, x.on (k + 1), s)) ∨
    ((∀ v ∈ r, v ≠ 0) ∧ tillP f a x s = (s.word a == 0, (x.on r.length).live (.load a) s, (Ac.load a).act s))
  | [], x, f, hu, h, hm => by
    obtain ⟨g, rfl⟩ : ∃ g, f = g + 1 := ⟨f - 1, by omega⟩
    have h1 := on_live (c := .load a) (s := s) hu h
    have hmu : (x.live (.load a) s).mu = 0 := by
      have := List.drop_eq_nil_iff.1 h
      simp [MS.mu, MS.live]; omega
    refine .inr ⟨by simp, ?_⟩
    simp only [tillP, h1]
    show _ = (_, x.live (.load a) s, _)
    by_cases h0 : s.word a = 0
    · have h0' : s.word (Ac.load a).pos = 0 := h0
      simp only [if_pos h0', h0]
      rfl
    · have h0' : ¬ s.word (Ac.load a).pos = 0 := h0
      have hf : (s.word a == 0) = false := by simpa using h0
      have hg : 0 < g := by
        have : x.mu ≥ 1 := by simp [MS.mu, hu]
        omega
      obtain ⟨g2, rfl⟩ : ∃ g2, g = g2 + 1 := ⟨g - 1, by omega⟩
      simp only [if_neg h0', tillP, live_off _ _ h, hf]
  | v :: r, x, f, hu, h, hm => by
    obtain ⟨g, rfl⟩ : ∃ g, f = g + 1 := ⟨f - 1, by omega⟩
    obtain ⟨h1, h2, h3⟩ := on_told (c := .load a) (s := s) hu h
    by_cases h0 : v = 0
    · subst h0
      refine .inl ⟨0, by simp, by simp, fun j hj => by omega, ?_⟩
      simp only [tillP, h1, if_true]
    · have hmu : (x.on 1).mu < g := by have := acc_mu h1; omega
      rcases till_law a r (x.on 1) g h3 h2 hmu with ⟨k, k1, k2, k3, k4⟩ | ⟨k1, k2⟩
      · refine .inl ⟨k + 1, by simpa using k1, by simpa using k2, fun j hj => ?_, ?_⟩
        · rcases j with _ | j
          · simpa using h0
          · simpa using k3 j (by omega)
        · simp only [tillP, h1, if_neg h0, k4]
          have e : (x.on 1).on (k + 1) = x.on (k + 1 + 1) := by simp only [MS.on]; congr 1; omega
          rw [e]
      · refine .inr ⟨fun u hu2 => ?_, ?_⟩
        · rcases List.mem_cons.1 hu2 with rfl | hu2
          · exact h0
          · exact k1 u hu2
        · simp only [tillP, h1, if_neg h0, k2]
          have e : (x.on 1).on r.length = x.on (r.length + 1) := by simp only [MS.on]; congr 1; omega
          rw [e]
          rfl
end
/-- States, their accesses, and what comes behind what was told: another state, or an end. -/
structure Aut (σ ρ : Type) where
  ac : σ → Ac
  nx : σ → Int → σ ⊕ ρ
namespace Aut
variable {σ τ ρ q : Type}
def run (A : Aut σ ρ) : Nat → σ → MS → StoreS → Option ρ × MS × StoreS
  | 0, _, x, s => (none, x, s)
  | f + 1, k, x, s => match x.acc (A.ac k) s with
    | (none, x1, s1) => (none, x1, s1)
    | (some v, x1, s1) => match A.nx k v with
      | .inl k1 => A.run f k1 x1 s1
      | .inr r => (some r, x1, s1)
theorem run_fuel (A : Aut σ ρ) : ∀ (f g : Nat) (k : σ) (x : MS) (s : StoreS), x.mu < f → x.mu < g → A.run f k x s = A.run g k x s
  | 0, _, _, _, _, h, _ => by omega
  | _, 0, _, _, _, _, h => by omega
  | f + 1, g + 1, k, x, s, hf, hg => by
    obtain ⟨o, x1, s1, hr⟩ : ∃ o x1 s1, x.acc (A.ac k) s = (o, x1, s1) := ⟨_, _, _, rfl⟩
    simp only [run, hr]
    rcases o with _ | v
    · rfl
    · have hm := acc_mu hr
      dsimp only
      cases A.nx k v with
      | inl k1 => exact run_fuel A f g k1 x1 s1 (by omega) (by omega)
      | inr r => rfl
/-- Gone through, from a state on. -/
def go (A : Aut σ ρ) (k : σ) (x : MS) (s : StoreS) : Option ρ × MS × StoreS := A.run (x.mu + 1) k x s
section
variable {A : Aut σ ρ} {k k1 : σ} {x x1 : MS} {s s1 : StoreS} {v : Int} {r : ρ}
theorem go_off (hr : x.acc (A.ac k) s = (none, x1, s1)) : A.go k x s = (none, x1, s1) := by
  simp only [go, run, hr]
theorem go_on (hr : x.acc (A.ac k) s = (some v, x1, s1)) (hn : A.nx k v = .inl k1) : A.go k x s = A.go k1 x1 s1 := by
  have hm := acc_mu hr
  have h1 : A.run (x.mu + 1) k x s = A.run x.mu k1 x1 s1 := by simp only [run, hr, hn]
  show A.run (x.mu + 1) k x s = A.run (x1.mu + 1) k1 x1 s1
  rw [h1]
  exact run_fuel A _ _ k1 x1 s1 (by omega) (by omega)
theorem go_end (hr : x.acc (A.ac k) s = (some v, x1, s1)) (hn : A.nx k v = .inr r) : A.go k x s = (some r, x1, s1) := by
  simp only [go, run, hr, hn]
end
theorem go_mu (A : Aut σ ρ) : ∀ (n : Nat) (k : σ) (x : MS) (s : StoreS), x.mu ≤ n → (A.go k x s).2.1.mu ≤ x.mu
  | n, k, x, s, hn => by
    obtain ⟨o, x1, s1, hr⟩ : ∃ o x1 s1, x.acc (A.ac k) s = (o, x1, s1) := ⟨_, _, _, rfl⟩
    have hm := acc_mu_le hr
    rcases o with _ | v
    · rw [go_off hr]; exact hm
    · have hl := acc_mu hr
      rcases hx : A.nx k v with k1 | r
      · rw [go_on hr hx]
        match n, hn with
        | n + 1, hn => exact Nat.le_trans (go_mu A n k1 x1 s1 (by omega)) hm
        | 0, hn => omega
      · rw [go_end hr hx]; exact hm
theorem go_mu_lt {A : Aut σ ρ} {k : σ} {x x1 : MS} {s s1 : StoreS} {r : ρ} (h : A.go k x s = (some r, x1, s1)) : x1.mu < x.mu := by
  obtain ⟨o, y, t, hr⟩ : ∃ o x1 s1, x.acc (A.ac k) s = (o, x1, s1) := ⟨_, _, _, rfl⟩
  rcases o with _ | v
  · rw [go_off hr] at h; cases h
  · have hl := acc_mu hr
    rcases hx : A.nx k v with k1 | r2
    · rw [go_on hr hx] at h
      have := go_mu A _ k1 y t (Nat.le_refl _)
      rw [h] at this
      exact Nat.lt_of_le_of_lt this hl
    · rw [go_end hr hx] at h
      injection h with _ h; injection h with h _; subst h; exact hl
/-- A machine within another one. -/
theorem into (A : Aut σ ρ) (C : Aut τ q) (e : σ → τ) (c : ρ → τ ⊕ q) (hac : ∀ k, C.ac (e k) = A.ac k) (hnx : ∀ k v, C.nx (e k) v = match A.nx k v with | .inl k1 => .inl (e k1) | .inr r => c r) :
    ∀ (n : Nat) (k : σ) (x : MS) (s : StoreS), x.mu ≤ n → C.go (e k) x s = match A.go k x s with
      | (none, x1, s1) => (none, x1, s1)
      | (some r, x1, s1) => match c r with
        | .inl t => C.go t x1 s1
        | .inr z => (some z, x1, s1)
  | n, k, x, s, hn => by
    obtain ⟨o, x1, s1, hr⟩ : ∃ o x1 s1, x.acc (A.ac k) s = (o, x1, s1) := ⟨_, _, _, rfl⟩
    have hr2 : x.acc (C.ac (e k)) s = (o, x1, s1) := by rw [hac]; exact hr
    rcases o with _ | v
    · rw [go_off hr, go_off hr2]
    · have hm := acc_mu hr
      have hv := hnx k v
      rcases hx : A.nx k v with k1 | r
      · rw [hx] at hv
        rw [go_on hr hx, go_on hr2 hv]
        match n, hn with
        | n + 1, hn => exact into A C e c hac hnx n k1 x1 s1 (by omega)
        | 0, hn => omega
      · rw [hx] at hv
        rw [go_end hr hx]
        dsimp only at hv ⊢
        rcases hc : c r with t | z
        · rw [hc] at hv; rw [go_on hr2 hv]
        · rw [hc] at hv; rw [go_end hr2 hv]
/-- The state behind what was told; none: it has ended. -/
def feed (A : Aut σ ρ) : σ → List Int → Option σ
  | k, [] => some k
  | k, v :: r => match A.nx k v with
    | .inl k1 => A.feed k1 r
    | .inr _ => none
theorem feed_snoc (A : Aut σ ρ) : ∀ (l : List Int) (k k1 : σ) (v : Int), A.feed k l = some k1 → A.feed k (l ++ [v]) = match A.nx k1 v with | .inl k2 => some k2 | .inr _ => none
  | [], k, k1, v, h => by
    injection h with h
    subst h
    simp only [List.nil_append, feed]
  | u :: l, k, k1, v, h => by
    simp only [List.cons_append, feed] at h ⊢
    rcases hx : A.nx k u with k2 | r
    · rw [hx] at h; exact feed_snoc A l k2 k1 v h
    · rw [hx] at h; cases h
/-- Behind what was told it does its state's access, and nothing else. -/
theorem law (A : Aut σ ρ) {s : StoreS} : ∀ (r : List Int) (k kr : σ) (x : MS), x.used = false → x.log.drop x.at_ = r → A.feed k r = some kr →
    A.go k x s = ((match A.nx kr (s.word (A.ac kr).pos) with | .inl _ => none | .inr z => some z), (x.on r.length).live (A.ac kr) s, (A.ac kr).act s)
  | [], k, kr, x, hu, h, hk => by
    injection hk with hk
    subst hk
    have h1 := on_live (c := A.ac k) (s := s) hu h
    rcases hx : A.nx k (s.word (A.ac k).pos) with k1 | z
    · rw [go_on h1 hx, go_off (live_off _ _ h)]; rfl
    · rw [go_end h1 hx]; rfl
  | v :: r, k, kr, x, hu, h, hk => by
    obtain ⟨h1, h2, h3⟩ := on_told (c := A.ac k) (s := s) hu h
    simp only [feed] at hk
    rcases hx : A.nx k v with k1 | z
    · rw [hx] at hk
      rw [go_on h1 hx, law A r k1 kr (x.on 1) h3 h2 hk]
      have e : (x.on 1).on r.length = x.on (v :: r).length := by simp only [MS.on, List.length_cons]; congr 1; omega
      rw [e]
    · rw [hx] at hk; cases hk
end Aut
/-- A walk within a step: the machine, what was turned since the step's start; its marks. -/
def Ra (w wr : World) (mb bb sb sm rb fb : Nat) (P T : Int) (lg mkv : Value) (x0 : MS) (s0 : StoreS) (y : MS) (ss : StoreS) : Prop :=
  ∃ lgr, MM wr mb bb sb sm rb fb P T ss y lgr mkv ∧ Only (MT w mb lg sb sm) w wr ∧ Lg w lg lgr ∧ y.room = x0.room ∧ ss.ws.length = s0.ws.length ∧ x0.stat y
section
variable {w wr wv : World} {mb bb sb sm rb fb f : Nat} {P T a u v : Int} {s s0 s1 ss : StoreS} {x x0 y y1 : MS} {lg mkv : Value} {o : Option Int} {c : Ac}
theorem Ra.refl (h : MM w mb bb sb sm rb fb P T s x lg mkv) : Ra w w mb bb sb sm rb fb P T lg mkv x s x s := ⟨lg, h, Only.refl _ _, Lg.refl _ _, rfl, rfl, MS.stat.refl _⟩
theorem Ra.steps (h : Ra w wr mb bb sb sm rb fb P T lg mkv x0 s0 y ss) : Steps w wr mb bb sb sm rb fb P T ss y lg := by
  obtain ⟨lgr, h1, h2, h3, _⟩ := h
  exact ⟨_, _, h1, h2, h3⟩
theorem Ra.stat (h : Ra w wr mb bb sb sm rb fb P T lg mkv x0 s0 y ss) : x0.stat y := by
  obtain ⟨lgr, _, _, _, _, _, h⟩ := h
  exact h
theorem Ra.adds (h : Ra w wr mb bb sb sm rb fb P T lg mkv x0 s0 y ss) (ho : Adds wr wv) : Ra w wv mb bb sb sm rb fb P T lg mkv x0 s0 y ss := by
  obtain ⟨lgr, h1, h2, h3, h4⟩ := h
  exact ⟨lgr, h1.adds ho, h2.thenF ho, h3, h4⟩
/-- Ahead of an access that was answered nothing was marked. -/
theorem Ra.nil (h : Ra w wr mb bb sb sm rb fb P T lg mkv x0 s0 y ss) (hr : y.acc c ss = (some v, y1, s1)) : mkv = .slice none 0 0 := by
  obtain ⟨lgr, h1, _⟩ := h
  exact acc_nil h1 hr
/-- What was told fits a word. -/
theorem Ra.bd (h : Ra w wr mb bb sb sm rb fb P T lg mkv x0 s0 y ss) (hr : y.acc c ss = (some v, y1, s1)) : 0 ≤ v ∧ v < 18446744073709551616 := by
  obtain ⟨lgr, h1, _⟩ := h
  exact acc_bd h1 hr
/-- What was told, and the store's words, fit words. -/
def FitX (y : MS) (s : StoreS) : Prop := (∀ v ∈ y.log, 0 ≤ v ∧ v < 18446744073709551616) ∧ s.fit
theorem FitX.acc (h : FitX y ss) (hc : c.fit) (hr : y.acc c ss = (o, y1, s1)) : FitX y1 s1 ∧ ∀ v, o = some v → 0 ≤ v ∧ v < 18446744073709551616 := by
  rcases hv : y.log[y.at_]? with _ | u
  · cases hu : y.used
    · rw [acc_now hv hu] at hr
      injection hr with h1 h2
      injection h2 with h2 h3
      subst h1 h2 h3
      have hb := StoreS.word_bd h.2 c.pos
      refine ⟨⟨fun v hm => ?_, Ac.act_fit h.2 hc⟩, fun v e => by injection e with e; subst e; exact hb⟩
      rcases List.mem_append.1 hm with h1 | h1
      · exact h.1 v h1
      · obtain rfl := List.mem_singleton.1 h1; exact hb
    · rw [acc_off hv hu] at hr
      injection hr with h1 h2
      injection h2 with h2 h3
      subst h1 h2 h3
      exact ⟨h, fun v e => by cases e⟩
  · rw [acc_told hv] at hr
    injection hr with h1 h2
    injection h2 with h2 h3
    subst h1 h2 h3
    exact ⟨⟨h.1, h.2⟩, fun v e => by injection e with e; subst e; exact h.1 _ (List.mem_of_getElem? hv)⟩
theorem Ra.fitX (h : Ra w wr mb bb sb sm rb fb P T lg mkv x0 s0 y ss) : FitX y ss := by
  obtain ⟨lgr, h1, _⟩ := h
  exact ⟨h1.m.fit, h1.mem.st.fit⟩
theorem qLoad (h : Ra w wr mb bb sb sm rb fb P T lg mkv x0 s0 y ss) (hi : s0.inR a) (hf : x0.room < 100000) (hr : y.acc (.load a) ss = (o, y1, s1)) :
    Calls Tryz.prog 137 #[.pointer (some ⟨mb, 0, none⟩), .int .i64 a] wr fun e w' => e = .returned (.tuple #[.int .u64 (o.getD 0), .bool o.isSome]) ∧ Ra w w' mb bb sb sm rb fb P T lg mkv x0 s0 y1 s1 := by
  obtain ⟨lgr, h1, h2, h3, h4, h5, h6⟩ := h
  refine (mLoad_any h1 (inR_of hi h5) (by have := y.log_room; omega) hr).mono (fun e w' q => ?_)
  obtain ⟨q1, lg1, q2, q3, q4⟩ := q
  exact ⟨q1, lg1, q2, MT.trans h2 h3 q3, Lg.trans h3 q4 h2.size, (acc_room hr).trans h4, (acc_facts hr).2.2.trans h5, h6.trans (acc_facts hr).1⟩
theorem qPut (h : Ra w wr mb bb sb sm rb fb P T lg mkv x0 s0 y ss) (hi : s0.inR a) (hf : x0.room < 100000) (hv : 0 ≤ v ∧ v < 18446744073709551616) (hr : y.acc (.put a v) ss = (o, y1, s1)) :
    Calls Tryz.prog 109 #[.pointer (some ⟨mb, 0, none⟩), .int .i64 a, .int .u64 v] wr fun e w' => e = .returned (.tuple #[.int .u64 (o.getD 0), .bool o.isSome]) ∧ Ra w w' mb bb sb sm rb fb P T lg mkv x0 s0 y1 s1 := by
  obtain ⟨lgr, h1, h2, h3, h4, h5, h6⟩ := h
  refine (mPut_any h1 (inR_of hi h5) (by have := y.log_room; omega) hv hr).mono (fun e w' q => ?_)
  obtain ⟨q1, lg1, q2, q3, q4⟩ := q
  exact ⟨q1, lg1, q2, MT.trans h2 h3 q3, Lg.trans h3 q4 h2.size, (acc_room hr).trans h4, (acc_facts hr).2.2.trans h5, h6.trans (acc_facts hr).1⟩
theorem qCas {ol : Int} (h : Ra w wr mb bb sb sm rb fb P T lg mkv x0 s0 y ss) (hi : s0.inR a) (hf : x0.room < 100000) (hv : 0 ≤ v ∧ v < 18446744073709551616) (hr : y.acc (.cas a ol v) ss = (o, y1, s1)) :
    Calls Tryz.prog 140 #[.pointer (some ⟨mb, 0, none⟩), .int .i64 a, .int .u64 ol, .int .u64 v] wr fun e w' => e = .returned (.tuple #[.bool (casR o ol), .bool o.isSome]) ∧ Ra w w' mb bb sb sm rb fb P T lg mkv x0 s0 y1 s1 := by
  obtain ⟨lgr, h1, h2, h3, h4, h5, h6⟩ := h
  refine (mCas_any h1 (inR_of hi h5) (by have := y.log_room; omega) hv hr).mono (fun e w' q => ?_)
  obtain ⟨q1, lg1, q2, q3, q4⟩ := q
  exact ⟨q1, lg1, q2, MT.trans h2 h3 q3, Lg.trans h3 q4 h2.size, (acc_room hr).trans h4, (acc_facts hr).2.2.trans h5, h6.trans (acc_facts hr).1⟩
theorem qWord {k p z : Int} (h : Ra w wr mb bb sb sm rb fb P T lg mkv x0 s0 y ss) (hP : x0.P = P) (hT : x0.T = T) (hk : Lay.pageOk P T k p = true) (hz : Lay.pageAt P T k p = z) :
    Calls Tryz.prog 138 #[.pointer (some ⟨mb, 0, none⟩), .int .i64 k, .int .i64 p] wr fun e w' => e = .returned (.int .i64 z) ∧ Ra w w' mb bb sb sm rb fb P T lg mkv x0 s0 y ss := by
  obtain ⟨lgr, h1, h2, h3, h4, h5, h6⟩ := h
  refine (mWord_any h1 (h6.P.trans hP) (h6.T.trans hT) hk).mono (fun e w' q => ?_)
  exact ⟨by rw [q.1, hz], lgr, h1.adds q.2, h2.thenF q.2, h3, h4, h5, h6⟩
theorem qMark {k p n m : Int} (h : Ra w wr mb bb sb sm rb fb P T lg (.slice none 0 0) x0 s0 y ss) :
    Calls Tryz.prog 141 #[.pointer (some ⟨mb, 0, none⟩), .int .i64 k, .int .i64 p, .int .i64 n, .int .u64 m] wr fun e w' => e = .returned (.tuple #[]) ∧ ∃ mk, Ra w w' mb bb sb sm rb fb P T lg mk x0 s0 y ss := by
  obtain ⟨lgr, h1, h2, h3, h4, h5, h6⟩ := h
  refine (mMark_any h1).mono (fun e w' q => ?_)
  obtain ⟨q1, mk, q2, q3⟩ := q
  exact ⟨q1, mk, lgr, q2, MT.trans h2 h3 q3, h3, h4, h5, h6⟩
end
/-- Where a page's word of the page below is. -/
def nxAt (P T p : Int) : Int := Lay.pageAt P T 11 p
/-- A pop: ahead of its load, of the load below, of its swap. -/
inductive PopSt where
  | load
  | next (v : Int)
  | cas (v x : Int)
/-- -1: there was none; -2: what was told is none that a stack has. -/
def popA (P T hd : Int) : Aut PopSt Int where
  ac
    | .load => .load hd
    | .next v => .load (nxAt P T (Tag.pg v))
    | .cas v x => .cas hd v (Tag.nx v (x - 1))
  nx
    | .load, v => if Tag.pg v < 0 then .inr (-1) else if P ≤ Tag.pg v then .inr (-2) else .inl (.next v)
    | .next v, x => if P < x then .inr (-2) else .inl (.cas v x)
    | .cas v _, u => if u = v then .inr (Tag.pg v) else .inl .load
/-- A push: ahead of its load, its put, its swap. -/
inductive PushSt where
  | load
  | put (v : Int)
  | cas (v : Int)
def pushA (P T hd pg : Int) : Aut PushSt Int where
  ac
    | .load => .load hd
    | .put v => .put (nxAt P T pg) (Tag.pg v + 1)
    | .cas v => .cas hd v (Tag.nx v pg)
  nx
    | .load, v => .inl (.put v)
    | .put v, _ => .inl (.cas v)
    | .cas v, u => if u = v then .inr 0 else .inl .load
theorem Tag.nx_bd {v : Int} (_h0 : 0 ≤ v) (_h1 : v < 18446744073709551616) (p : Int) : 0 ≤ Tag.nx v p ∧ Tag.nx v p < 18446744073709551616 := Tag.mk_bd (by omega) (by omega)
theorem tagPg_bd (x : Int) : -1 ≤ Tag.pg x ∧ Tag.pg x < 4096 := by unfold Tag.pg; split <;> omega
theorem pageOk_11 {P T p : Int} (hm : Lay.may P T = true) (h0 : 0 ≤ p) (h1 : p < P) : Lay.pageOk P T 11 p = true := by
  unfold Lay.pageOk; rw [hm, Bool.true_and, decide_eq_true_eq]; omega
theorem nxAt_eq {P T p : Int} (hm : Lay.may P T = true) (h0 : 0 ≤ p) (h1 : p < P) : nxAt P T p = 70 + 14 * T + 5 * p ∧ 70 + 14 * T + 5 * p + 2 < Lay.words P T := by
  have hb := Lay.may_iff.1 hm
  have hmb := Lay.many_bd hb.1 hb.2.1
  have hw : Lay.words P T = 68 + 14 * T + 6 * P + 2 * Lay.many P := by simp [Lay.words, hm]
  unfold nxAt Lay.pageAt
  rw [if_neg (by decide), hw]
  omega
section
variable {w wr : World} {mb bb sb sm rb fb : Nat} {P T hd pgn : Int} {s s0 s1 ss : StoreS} {x0 y : MS} {lg mkv : Value}
set_option maxRecDepth 100000 in
set_option maxHeartbeats 4000000 in
theorem qPop {mark : Int} {R : Option Int × MS × StoreS} (h : Ra w wr mb bb sb sm rb fb P T lg mkv x0 s0 y ss) (hP : x0.P = P) (hT : x0.T = T) (hm : Lay.may P T = true) (hh : 8 ≤ hd ∧ hd < 68) (hlen : s0.ws.length = (Lay.words P T).toNat) (hf : x0.room < 100000) (hR : (popA P T hd).go .load y ss = R) (hbad : R.1 ≠ some (-2)) :
    Calls Tryz.prog 106 #[.pointer (some ⟨mb, 0, none⟩), .int .i64 hd, .int .i64 mark] wr fun e w' => e = .returned (.tuple #[.int .i64 (R.1.getD (-1)), .bool R.1.isSome]) ∧ ∃ mk, Ra w w' mb bb sb sm rb fb P T lg mk x0 s0 R.2.1 R.2.2 := by
  have hwd := (nxAt_eq (p := 0) hm (Int.le_refl 0) (by have := Lay.may_iff.1 hm; omega)).2
  have hT1 := (Lay.may_iff.1 hm)
  have hin : s0.inR hd := ⟨by omega, by rw [hlen]; omega⟩
  have HIN := Lib.hid hin
  clear hwd hT1 hin
  have H0 := Lib.hid h; have HPT := Lib.hid (And.intro hP hT); have HF := Lib.hid hf; have HM := Lib.hid hm; have HH := Lib.hid hh; have HLEN := Lib.hid hlen; have HRS := Lib.hid hR; have HBAD := Lib.hid hbad
  clear h hP hT hf hm hh hlen hR hbad
  go_enter Tryz.func106, Tryz.ntmps106
  go_wp2_with fail
  go_loopg [8, 9] (y.mu + 1) (fun gg _ _ wq => ∃ (z : MS) (sz : StoreS) (mk : Value), Hid (Ra w wq mb bb sb sm rb fb P T lg mk x0 s0 z sz) ∧ z.mu < gg ∧ Hid ((popA P T hd).go .load z sz = R))
  case atStart => exact ⟨y, ss, mkv, H0, Nat.lt_succ_self _, HRS⟩
  case round =>
    clear H0 HRS
    obtain ⟨z, sz, mk0, H0, hg, HT⟩ := hrel
    obtain ⟨g1, rfl⟩ : ∃ g1, gk = g1 + 1 := ⟨gk - 1, by omega⟩
    obtain ⟨o1, z1, s1, hr1⟩ : ∃ o z1 s1, z.acc (.load hd) sz = (o, z1, s1) := ⟨_, _, _, rfl⟩
    have HR1 := Lib.hid hr1
    rcases o1 with _ | v
    · have HT1 := Lib.hid (HT.out.symm.trans (Aut.go_off (A := popA P T hd) (k := .load) hr1)).symm
      clear hr1
      go_wp2_with (first
        | (go_at_call 137; with_reducible refine (qLoad H0.out HIN.out HF.out  HR1.out).mono ?_; rintro e v1 ⟨rfl, hm1⟩; have H1 := Lib.hid hm1; clear hm1))
      go_ret2
      rw [← HT1.out]
      exact ⟨rfl, _, H1.out⟩
    · obtain rfl := H0.out.nil hr1
      have hvb := H0.out.bd hr1
      have hm1 := acc_mu hr1
      obtain ⟨p, hp⟩ : ∃ p, Tag.pg v = p := ⟨_, rfl⟩
      have hpb := tagPg_bd v
      rw [hp] at hpb
      have HPG := Lib.hid hp
      have HVB := Lib.hid hvb
      by_cases c1 : p < 0
      · have HT1 := Lib.hid (HT.out.symm.trans (Aut.go_end (A := popA P T hd) (k := .load) (r := -1) hr1 (by show (if Tag.pg v < 0 then _ else _) = _; rw [hp, if_pos c1]))).symm
        clear hr1 hp hvb
        go_wp2_with (first
          | (go_at_call 137; with_reducible refine (qLoad H0.out HIN.out HF.out  HR1.out).mono ?_; rintro e v1 ⟨rfl, hm1⟩; have H1 := Lib.hid hm1; clear hm1)
          | (go_at_call 42; with_reducible refine (r6Page_any v _ HVB.out.1 HVB.out.2).mono ?_; rintro e vp ⟨rfl, rfl⟩; rw [HPG.out]))
        go_ret2
        rw [← HT1.out]
        exact ⟨rfl, _, H1.out⟩
      · by_cases c2 : P ≤ p
        · exact absurd (congrArg Prod.fst (HT.out.symm.trans (Aut.go_end (A := popA P T hd) (k := .load) (r := -2) hr1 (by show (if Tag.pg v < 0 then _ else if P ≤ Tag.pg v then _ else _) = _; rw [hp, if_neg c1, if_pos c2])))) HBAD.out
        · have hT2 := HT.out.symm.trans (Aut.go_on (A := popA P T hd) (k := .load) (k1 := .next v) hr1 (by show (if Tag.pg v < 0 then _ else if P ≤ Tag.pg v then _ else _) = _; rw [hp, if_neg c1, if_neg c2]))
          have hp0 : 0 ≤ p := by omega
          have hp1 : p < P := by omega
          have hnx := nxAt_eq HM.out hp0 hp1
          have hT1 := (Lay.may_iff.1 HM.out)
          have HNX := Lib.hid (show s0.inR (nxAt P T p) from ⟨by omega, by rw [HLEN.out]; omega⟩)
          have HOK := Lib.hid (pageOk_11 HM.out hp0 hp1)
          obtain ⟨o2, z2, s2, hr2⟩ : ∃ o z2 s2, z1.acc (.load (nxAt P T p)) s1 = (o, z2, s2) := ⟨_, _, _, rfl⟩
          have hr2' : z1.acc ((popA P T hd).ac (.next v)) s1 = (o2, z2, s2) := by show z1.acc (.load (nxAt P T (Tag.pg v))) s1 = _; rw [hp]; exact hr2
          have HR2 := Lib.hid hr2
          have HAT : Hid (Lay.pageAt P T 11 p = nxAt P T p) := Lib.hid rfl
          clear hnx hT1 hr1 hp hvb
          rcases o2 with _ | x
          · have HT1 := Lib.hid (hT2.trans (Aut.go_off hr2')).symm
            clear hr2 hr2' hT2
            go_wp2_with (first
              | (go_at_call 137; with_reducible refine (qLoad H0.out HIN.out HF.out  HR1.out).mono ?_; rintro e v1 ⟨rfl, hm1⟩; have H1 := Lib.hid hm1; clear hm1)
              | (go_at_call 42; with_reducible refine (r6Page_any v _ HVB.out.1 HVB.out.2).mono ?_; rintro e vp ⟨rfl, rfl⟩; rw [HPG.out])
              | (go_at_call 138; with_reducible refine (qWord (k := 11) (p := p) H1.out HPT.out.1 HPT.out.2 HOK.out HAT.out).mono ?_; rintro e v2 ⟨rfl, hm2⟩; have H2 := Lib.hid hm2; clear hm2)
              | (go_at_call 137; with_reducible refine (qLoad H2.out HNX.out HF.out  HR2.out).mono ?_; rintro e v3 ⟨rfl, hm3⟩; have H3 := Lib.hid hm3; clear hm3))
            go_ret2
            rw [← HT1.out]
            exact ⟨rfl, _, H3.out⟩
          · have hm2 := acc_mu hr2
            by_cases c3 : P < x
            · exact absurd (congrArg Prod.fst (hT2.trans (Aut.go_end (r := -2) hr2' (by show (if P < x then _ else _) = _; rw [if_pos c3])))) HBAD.out
            · have hT3 := hT2.trans (Aut.go_on (k1 := .cas v x) hr2' (by show (if P < x then _ else _) = _; rw [if_neg c3]))
              obtain ⟨o3, z3, s3, hr3⟩ : ∃ o z3 s3, z2.acc (.cas hd v (Tag.nx v (x - 1))) s2 = (o, z3, s3) := ⟨_, _, _, rfl⟩
              have HR3 := Lib.hid hr3
              have hx0 : 0 ≤ x := (((H0.out.fitX.acc (c := .load hd) trivial HR1.out).1.acc (c := .load (nxAt P T p)) trivial HR2.out).2 x rfl).1
              have hP4 := (Lay.may_iff.1 HM.out).2.1
              have e1 : x % 4294967296 = x := by omega
              have e2 : IntKind.i64.wrap x = x := by rw [IntKind.wrap_i64]; omega
              have e3 : IntKind.i64.wrap (x - 1) = x - 1 := by rw [IntKind.wrap_i64]; omega
              obtain ⟨nv, hnv⟩ : ∃ nv, Tag.nx v (x - 1) = nv := ⟨_, rfl⟩
              have hnb := Tag.nx_bd HVB.out.1 HVB.out.2 (x - 1)
              rw [hnv] at hnb hr3
              replace HR3 := Lib.hid hr3
              have HNB := Lib.hid hnb; have HNV := Lib.hid hnv
              have hr3' : z2.acc ((popA P T hd).ac (.cas v x)) s2 = (o3, z3, s3) := by show z2.acc (.cas hd v (Tag.nx v (x - 1))) s2 = _; rw [hnv]; exact hr3
              have HXB := Lib.hid (show 0 ≤ x ∧ x ≤ 4096 by omega)
              clear hr2 hr2' hT2 hnb hnv hP4
              rcases o3 with _ | u
              · have HT1 := Lib.hid (hT3.trans (Aut.go_off hr3')).symm
                have hcr : casR none v = false := rfl
                clear hr3 hr3' hT3
                go_wp2_with (first
                  | (go_at_call 137; with_reducible refine (qLoad H0.out HIN.out HF.out  HR1.out).mono ?_; rintro e v1 ⟨rfl, hm1⟩; have H1 := Lib.hid hm1; clear hm1)
                  | (go_at_call 42; with_reducible refine (r6Page_any v _ HVB.out.1 HVB.out.2).mono ?_; rintro e vp ⟨rfl, rfl⟩; rw [HPG.out])
                  | (go_at_call 138; with_reducible refine (qWord (k := 11) (p := p) H1.out HPT.out.1 HPT.out.2 HOK.out HAT.out).mono ?_; rintro e v2 ⟨rfl, hm2⟩; have H2 := Lib.hid hm2; clear hm2)
                  | (go_at_call 137; with_reducible refine (qLoad H2.out HNX.out HF.out  HR2.out).mono ?_; rintro e v3 ⟨rfl, hm3⟩; have H3 := Lib.hid hm3; clear hm3)
                  | (go_at_call 139; with_reducible refine (r6Next_any v (x - 1) _ HVB.out.1 HVB.out.2 (by have := HXB.out; omega) (by have := HXB.out; omega)).mono ?_; rintro e vp ⟨rfl, rfl⟩; rw [HNV.out])
                  | (go_at_call 140; with_reducible refine (qCas H3.out HIN.out HF.out HNB.out HR3.out).mono ?_; rintro e v4 ⟨rfl, hm4⟩; have H4 := Lib.hid hm4; clear hm4))
                go_ret2
                rw [← HT1.out]
                exact ⟨rfl, _, H4.out⟩
              · have hm3 := acc_mu hr3
                by_cases c4 : u = v
                · have HT1 := Lib.hid (hT3.trans (Aut.go_end (r := p) hr3' (by show (if u = v then _ else _) = _; rw [if_pos c4, HPG.out]))).symm
                  have hcr : casR (some u) v = true := by simp [casR, c4]
                  clear hr3 hr3' hT3 c4
                  by_cases c5 : mark = 0
                  · have c6 : (mark == 0) = true := by simp [c5]
                    go_wp2_with (first
                      | (go_at_call 137; with_reducible refine (qLoad H0.out HIN.out HF.out  HR1.out).mono ?_; rintro e v1 ⟨rfl, hm1⟩; have H1 := Lib.hid hm1; clear hm1)
                      | (go_at_call 42; with_reducible refine (r6Page_any v _ HVB.out.1 HVB.out.2).mono ?_; rintro e vp ⟨rfl, rfl⟩; rw [HPG.out])
                      | (go_at_call 138; with_reducible refine (qWord (k := 11) (p := p) H1.out HPT.out.1 HPT.out.2 HOK.out HAT.out).mono ?_; rintro e v2 ⟨rfl, hm2⟩; have H2 := Lib.hid hm2; clear hm2)
                      | (go_at_call 137; with_reducible refine (qLoad H2.out HNX.out HF.out  HR2.out).mono ?_; rintro e v3 ⟨rfl, hm3⟩; have H3 := Lib.hid hm3; clear hm3)
                      | (go_at_call 139; with_reducible refine (r6Next_any v (x - 1) _ HVB.out.1 HVB.out.2 (by have := HXB.out; omega) (by have := HXB.out; omega)).mono ?_; rintro e vp ⟨rfl, rfl⟩; rw [HNV.out])
                      | (go_at_call 140; with_reducible refine (qCas H3.out HIN.out HF.out HNB.out HR3.out).mono ?_; rintro e v4 ⟨rfl, hm4⟩; have H4 := Lib.hid hm4; clear hm4))
                    go_ret2
                    rw [← HT1.out]
                    exact ⟨rfl, _, H4.out⟩
                  · have c6 : (mark == 0) = false := by simp [c5]
                    go_wp2_with (first
                      | (go_at_call 137; with_reducible refine (qLoad H0.out HIN.out HF.out  HR1.out).mono ?_; rintro e v1 ⟨rfl, hm1⟩; have H1 := Lib.hid hm1; clear hm1)
                      | (go_at_call 42; with_reducible refine (r6Page_any v _ HVB.out.1 HVB.out.2).mono ?_; rintro e vp ⟨rfl, rfl⟩; rw [HPG.out])
                      | (go_at_call 138; with_reducible refine (qWord (k := 11) (p := p) H1.out HPT.out.1 HPT.out.2 HOK.out HAT.out).mono ?_; rintro e v2 ⟨rfl, hm2⟩; have H2 := Lib.hid hm2; clear hm2)
                      | (go_at_call 137; with_reducible refine (qLoad H2.out HNX.out HF.out  HR2.out).mono ?_; rintro e v3 ⟨rfl, hm3⟩; have H3 := Lib.hid hm3; clear hm3)
                      | (go_at_call 139; with_reducible refine (r6Next_any v (x - 1) _ HVB.out.1 HVB.out.2 (by have := HXB.out; omega) (by have := HXB.out; omega)).mono ?_; rintro e vp ⟨rfl, rfl⟩; rw [HNV.out])
                      | (go_at_call 140; with_reducible refine (qCas H3.out HIN.out HF.out HNB.out HR3.out).mono ?_; rintro e v4 ⟨rfl, hm4⟩; have H4 := Lib.hid hm4; clear hm4)
                      | (go_at_call 141; with_reducible refine (qMark H4.out).mono ?_; rintro e v5 ⟨rfl, mk5, hm5⟩; have H5 := Lib.hid hm5; clear hm5))
                    go_ret2
                    rw [← HT1.out]
                    exact ⟨rfl, _, H5.out⟩
                · have HT1 := Lib.hid (hT3.trans (Aut.go_on (k1 := .load) hr3' (by show (if u = v then _ else _) = _; rw [if_neg c4])))
                  have hcr : casR (some u) v = false := by simp [casR, c4]
                  clear hr3 hr3' hT3 c4
                  go_wp2_with (first
                    | (go_at_call 137; with_reducible refine (qLoad H0.out HIN.out HF.out  HR1.out).mono ?_; rintro e v1 ⟨rfl, hm1⟩; have H1 := Lib.hid hm1; clear hm1)
                    | (go_at_call 42; with_reducible refine (r6Page_any v _ HVB.out.1 HVB.out.2).mono ?_; rintro e vp ⟨rfl, rfl⟩; rw [HPG.out])
                    | (go_at_call 138; with_reducible refine (qWord (k := 11) (p := p) H1.out HPT.out.1 HPT.out.2 HOK.out HAT.out).mono ?_; rintro e v2 ⟨rfl, hm2⟩; have H2 := Lib.hid hm2; clear hm2)
                    | (go_at_call 137; with_reducible refine (qLoad H2.out HNX.out HF.out  HR2.out).mono ?_; rintro e v3 ⟨rfl, hm3⟩; have H3 := Lib.hid hm3; clear hm3)
                    | (go_at_call 139; with_reducible refine (r6Next_any v (x - 1) _ HVB.out.1 HVB.out.2 (by have := HXB.out; omega) (by have := HXB.out; omega)).mono ?_; rintro e vp ⟨rfl, rfl⟩; rw [HNV.out])
                    | (go_at_call 140; with_reducible refine (qCas H3.out HIN.out HF.out HNB.out HR3.out).mono ?_; rintro e v4 ⟨rfl, hm4⟩; have H4 := Lib.hid hm4; clear hm4))
                  go_roundg g1
                  case measure => omega
                  case rel => exact ⟨z3, s3, _, H4, by omega, Lib.hid HT1.out.symm⟩
set_option maxRecDepth 100000 in
set_option maxHeartbeats 4000000 in
theorem qPush {R : Option Int × MS × StoreS} (h : Ra w wr mb bb sb sm rb fb P T lg mkv x0 s0 y ss) (hP : x0.P = P) (hT : x0.T = T) (hm : Lay.may P T = true) (hh : 8 ≤ hd ∧ hd < 68) (hp0 : 0 ≤ pgn) (hp1 : pgn < P) (hlen : s0.ws.length = (Lay.words P T).toNat) (hf : x0.room < 100000) (hR : (pushA P T hd pgn).go .load y ss = R) :
    Calls Tryz.prog 107 #[.pointer (some ⟨mb, 0, none⟩), .int .i64 hd, .int .i64 pgn] wr fun e w' => e = .returned (.bool R.1.isSome) ∧ ∃ mk, Ra w w' mb bb sb sm rb fb P T lg mk x0 s0 R.2.1 R.2.2 := by
  have hwd := nxAt_eq hm hp0 hp1
  have hT1 := (Lay.may_iff.1 hm)
  have HIN := Lib.hid (show s0.inR hd from ⟨by omega, by rw [hlen]; omega⟩)
  have HNX := Lib.hid (show s0.inR (nxAt P T pgn) from ⟨by omega, by rw [hlen]; omega⟩)
  have HOK := Lib.hid (pageOk_11 hm hp0 hp1)
  have HAT : Hid (Lay.pageAt P T 11 pgn = nxAt P T pgn) := Lib.hid rfl
  have HPB := Lib.hid (And.intro hp0 (show pgn < 4096 by omega))
  clear hwd hT1 hp0 hp1
  have H0 := Lib.hid h; have HPT := Lib.hid (And.intro hP hT); have HF := Lib.hid hf; have HM := Lib.hid hm; have HH := Lib.hid hh; have HLEN := Lib.hid hlen; have HRS := Lib.hid hR
  clear h hP hT hf hm hh hlen hR
  go_enter Tryz.func107, Tryz.ntmps107
  go_wp2_with fail
  go_loopg [7, 8] (y.mu + 1) (fun gg _ _ wq => ∃ (z : MS) (sz : StoreS) (mk : Value), Hid (Ra w wq mb bb sb sm rb fb P T lg mk x0 s0 z sz) ∧ z.mu < gg ∧ Hid ((pushA P T hd pgn).go .load z sz = R))
  case atStart => exact ⟨y, ss, mkv, H0, Nat.lt_succ_self _, HRS⟩
  case round =>
    clear H0 HRS
    obtain ⟨z, sz, mk0, H0, hg, HT⟩ := hrel
    obtain ⟨g1, rfl⟩ : ∃ g1, gk = g1 + 1 := ⟨gk - 1, by omega⟩
    obtain ⟨o1, z1, s1, hr1⟩ : ∃ o z1 s1, z.acc (.load hd) sz = (o, z1, s1) := ⟨_, _, _, rfl⟩
    have HR1 := Lib.hid hr1
    rcases o1 with _ | v
    · have HT1 := Lib.hid (HT.out.symm.trans (Aut.go_off (A := pushA P T hd pgn) (k := .load) hr1)).symm
      clear hr1
      go_wp2_with (first
        | (go_at_call 137; with_reducible refine (qLoad H0.out HIN.out HF.out  HR1.out).mono ?_; rintro e v1 ⟨rfl, hm1⟩; have H1 := Lib.hid hm1; clear hm1))
      go_ret
      rw [← HT1.out]
      exact ⟨rfl, _, H1.out⟩
    · obtain rfl := H0.out.nil hr1
      have hvb := H0.out.bd hr1
      have hm1 := acc_mu hr1
      obtain ⟨p, hp⟩ : ∃ p, Tag.pg v = p := ⟨_, rfl⟩
      have hpb := tagPg_bd v
      rw [hp] at hpb
      have HPG := Lib.hid hp
      have HVB := Lib.hid hvb
      have hT2 := HT.out.symm.trans (Aut.go_on (A := pushA P T hd pgn) (k := .load) (k1 := .put v) hr1 rfl)
      obtain ⟨o2, z2, s2, hr2⟩ : ∃ o z2 s2, z1.acc (.put (nxAt P T pgn) (p + 1)) s1 = (o, z2, s2) := ⟨_, _, _, rfl⟩
      have hr2' : z1.acc ((pushA P T hd pgn).ac (.put v)) s1 = (o2, z2, s2) := by show z1.acc (.put (nxAt P T pgn) (Tag.pg v + 1)) s1 = _; rw [hp]; exact hr2
      have HR2 := Lib.hid hr2
      have e1 : IntKind.i64.wrap (p + 1) = p + 1 := by rw [IntKind.wrap_i64]; omega
      have e2 : IntKind.u64.wrap (p + 1) = p + 1 := by rw [IntKind.wrap_u64]; omega
      have HB1 := Lib.hid (show 0 ≤ p + 1 ∧ p + 1 < 18446744073709551616 by omega)
      clear hr1 hp hvb
      rcases o2 with _ | x
      · have HT1 := Lib.hid (hT2.trans (Aut.go_off hr2')).symm
        clear hr2 hr2' hT2
        go_wp2_with (first
          | (go_at_call 137; with_reducible refine (qLoad H0.out HIN.out HF.out  HR1.out).mono ?_; rintro e v1 ⟨rfl, hm1⟩; have H1 := Lib.hid hm1; clear hm1)
          | (go_at_call 138; with_reducible refine (qWord (k := 11) (p := pgn) H1.out HPT.out.1 HPT.out.2 HOK.out HAT.out).mono ?_; rintro e v2 ⟨rfl, hm2⟩; have H2 := Lib.hid hm2; clear hm2)
          | (go_at_call 42; with_reducible refine (r6Page_any v _ HVB.out.1 HVB.out.2).mono ?_; rintro e vp ⟨rfl, rfl⟩; rw [HPG.out])
          | (go_at_call 109; with_reducible refine (qPut H2.out HNX.out HF.out HB1.out HR2.out).mono ?_; rintro e v3 ⟨rfl, hm3⟩; have H3 := Lib.hid hm3; clear hm3))
        go_ret
        rw [← HT1.out]
        exact ⟨rfl, _, H3.out⟩
      · have hm2 := acc_mu hr2
        have hT3 := hT2.trans (Aut.go_on (k1 := .cas v) hr2' rfl)
        obtain ⟨nv, hnv⟩ : ∃ nv, Tag.nx v pgn = nv := ⟨_, rfl⟩
        obtain ⟨o3, z3, s3, hr3⟩ : ∃ o z3 s3, z2.acc (.cas hd v nv) s2 = (o, z3, s3) := ⟨_, _, _, rfl⟩
        have HR3 := Lib.hid hr3
        have hnb := Tag.nx_bd HVB.out.1 HVB.out.2 pgn
        have hr3' : z2.acc ((pushA P T hd pgn).ac (.cas v)) s2 = (o3, z3, s3) := by show z2.acc (.cas hd v (Tag.nx v pgn)) s2 = _; rw [hnv]; exact hr3
        rw [hnv] at hnb
        have HNB := Lib.hid hnb; have HNV := Lib.hid hnv
        clear hr2 hr2' hT2 hnb hnv
        rcases o3 with _ | u
        · have HT1 := Lib.hid (hT3.trans (Aut.go_off hr3')).symm
          have hcr : casR none v = false := rfl
          clear hr3 hr3' hT3
          go_wp2_with (first
            | (go_at_call 137; with_reducible refine (qLoad H0.out HIN.out HF.out  HR1.out).mono ?_; rintro e v1 ⟨rfl, hm1⟩; have H1 := Lib.hid hm1; clear hm1)
            | (go_at_call 138; with_reducible refine (qWord (k := 11) (p := pgn) H1.out HPT.out.1 HPT.out.2 HOK.out HAT.out).mono ?_; rintro e v2 ⟨rfl, hm2⟩; have H2 := Lib.hid hm2; clear hm2)
            | (go_at_call 42; with_reducible refine (r6Page_any v _ HVB.out.1 HVB.out.2).mono ?_; rintro e vp ⟨rfl, rfl⟩; rw [HPG.out])
            | (go_at_call 109; with_reducible refine (qPut H2.out HNX.out HF.out HB1.out HR2.out).mono ?_; rintro e v3 ⟨rfl, hm3⟩; have H3 := Lib.hid hm3; clear hm3)
            | (go_at_call 139; with_reducible refine (r6Next_any v pgn _ HVB.out.1 HVB.out.2 (by have := HPB.out; omega) (by have := HPB.out; omega)).mono ?_; rintro e vp ⟨rfl, rfl⟩; rw [HNV.out])
            | (go_at_call 140; with_reducible refine (qCas H3.out HIN.out HF.out HNB.out HR3.out).mono ?_; rintro e v4 ⟨rfl, hm4⟩; have H4 := Lib.hid hm4; clear hm4))
          go_ret
          rw [← HT1.out]
          exact ⟨rfl, _, H4.out⟩
        · have hm3 := acc_mu hr3
          by_cases c4 : u = v
          · have HT1 := Lib.hid (hT3.trans (Aut.go_end (r := 0) hr3' (by show (if u = v then _ else _) = _; rw [if_pos c4]))).symm
            have hcr : casR (some u) v = true := by simp [casR, c4]
            clear hr3 hr3' hT3 c4
            go_wp2_with (first
              | (go_at_call 137; with_reducible refine (qLoad H0.out HIN.out HF.out  HR1.out).mono ?_; rintro e v1 ⟨rfl, hm1⟩; have H1 := Lib.hid hm1; clear hm1)
              | (go_at_call 138; with_reducible refine (qWord (k := 11) (p := pgn) H1.out HPT.out.1 HPT.out.2 HOK.out HAT.out).mono ?_; rintro e v2 ⟨rfl, hm2⟩; have H2 := Lib.hid hm2; clear hm2)
              | (go_at_call 42; with_reducible refine (r6Page_any v _ HVB.out.1 HVB.out.2).mono ?_; rintro e vp ⟨rfl, rfl⟩; rw [HPG.out])
              | (go_at_call 109; with_reducible refine (qPut H2.out HNX.out HF.out HB1.out HR2.out).mono ?_; rintro e v3 ⟨rfl, hm3⟩; have H3 := Lib.hid hm3; clear hm3)
              | (go_at_call 139; with_reducible refine (r6Next_any v pgn _ HVB.out.1 HVB.out.2 (by have := HPB.out; omega) (by have := HPB.out; omega)).mono ?_; rintro e vp ⟨rfl, rfl⟩; rw [HNV.out])
              | (go_at_call 140; with_reducible refine (qCas H3.out HIN.out HF.out HNB.out HR3.out).mono ?_; rintro e v4 ⟨rfl, hm4⟩; have H4 := Lib.hid hm4; clear hm4)
              | (go_at_call 141; with_reducible refine (qMark H4.out).mono ?_; rintro e v5 ⟨rfl, mk5, hm5⟩; have H5 := Lib.hid hm5; clear hm5))
            go_ret
            rw [← HT1.out]
            exact ⟨rfl, _, H5.out⟩
          · have HT1 := Lib.hid (hT3.trans (Aut.go_on (k1 := .load) hr3' (by show (if u = v then _ else _) = _; rw [if_neg c4])))
            have hcr : casR (some u) v = false := by simp [casR, c4]
            clear hr3 hr3' hT3 c4
            go_wp2_with (first
              | (go_at_call 137; with_reducible refine (qLoad H0.out HIN.out HF.out  HR1.out).mono ?_; rintro e v1 ⟨rfl, hm1⟩; have H1 := Lib.hid hm1; clear hm1)
              | (go_at_call 138; with_reducible refine (qWord (k := 11) (p := pgn) H1.out HPT.out.1 HPT.out.2 HOK.out HAT.out).mono ?_; rintro e v2 ⟨rfl, hm2⟩; have H2 := Lib.hid hm2; clear hm2)
              | (go_at_call 42; with_reducible refine (r6Page_any v _ HVB.out.1 HVB.out.2).mono ?_; rintro e vp ⟨rfl, rfl⟩; rw [HPG.out])
              | (go_at_call 109; with_reducible refine (qPut H2.out HNX.out HF.out HB1.out HR2.out).mono ?_; rintro e v3 ⟨rfl, hm3⟩; have H3 := Lib.hid hm3; clear hm3)
              | (go_at_call 139; with_reducible refine (r6Next_any v pgn _ HVB.out.1 HVB.out.2 (by have := HPB.out; omega) (by have := HPB.out; omega)).mono ?_; rintro e vp ⟨rfl, rfl⟩; rw [HNV.out])
              | (go_at_call 140; with_reducible refine (qCas H3.out HIN.out HF.out HNB.out HR3.out).mono ?_; rintro e v4 ⟨rfl, hm4⟩; have H4 := Lib.hid hm4; clear hm4))
            go_roundg g1
            case measure => omega
            case rel => exact ⟨z3, s3, _, H4, by omega, Lib.hid HT1.out.symm⟩
end
end Go.Proofs.YthhnpcniijpfeaaGreat

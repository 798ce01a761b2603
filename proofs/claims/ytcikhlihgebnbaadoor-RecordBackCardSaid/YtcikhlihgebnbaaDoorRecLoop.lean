/- RecordBack: what its two loops keep from round to round. By an AI agent. -/
import Derived.Test.YtcikhlihgebnbaaDoorRecBack2
import Derived.Test.YtcikhlihgebnbaaDoorRecSeq
namespace Go.Proofs.YtcikhlihgebnbaaDoor
open Go.RowKit
theorem Ph.mk2_all {g : Int} (h : Ph.cyc g = true) : Ph.gen (Ph.mk g 2) = g ∧ Ph.ph (Ph.mk g 2) = 2 ∧ 9 ≤ Ph.mk g 2 ∧ Ph.mk g 2 < 18446744073709551616 := by
  have h2 : Ph.okB g 2 = true := (Ph.ok2' g).trans h
  obtain ⟨hs, e1, e2, e3, e4⟩ := Ph.st_mk h2
  exact ⟨by simp [Ph.gen, hs, e1], by simp [Ph.ph, hs, e2], e3, e4⟩
/-- What is laid may be. -/
structure Fix (P pg cl ps al gn : Int) : Prop where
  hm : Lay.may P 2 = true
  h0 : 0 ≤ pg
  h1 : 1 ≤ ps
  h2 : pg + ps ≤ P
  hp : P ≤ 4096
  hc : 0 ≤ cl ∧ cl < 256
  ha : 0 ≤ al ∧ al < 18446744073709551616
  hg : Ph.cyc gn = true
theorem sp_new (W : World) (x0 x1 x2 x3 x4 x5 x6 : Int) (t : TypeId) : Sp (W.alloc (.cells #[.int .i64 x0, .int .i64 x1, .int .i64 x2, .int .i64 x3, .int .i64 x4, .int .u64 x5, .int .u64 x6] t)) W.heap.size x0 x1 x2 x3 x4 x5 x6 := by
  obtain ⟨h0, h1, h2, h3, h4, h5, h6, -⟩ := (Blk.new W #[.int .i64 x0, .int .i64 x1, .int .i64 x2, .int .i64 x3, .int .i64 x4, .int .u64 x5, .int .u64 x6] t).seven
  exact ⟨h0, h1, h2, h3, h4, h5, h6⟩
structure LoopA (w wr : World) (lb xb mb gb ab sb sm rb : Nat) (P pg cl ps al gn k : Int) : Prop where
  la : LayAt wr mb P 2 pg cl ps al (Ph.mk gn 2) k
  ga : GoneI wr gb P 2 pg ps 0
  y : ∃ g, YW wr ab sb sm rb P 2 g ∧ Laid P 2 pg cl ps al (Ph.mk gn 2) k g
  lb : Blk wr lb #[.int .i64 P, .int .i64 2] 24
  xb : Blk wr xb (mCellsZ 5 P 2 0 pg cl ps gn 0 0 0 al) 38
  ad : Adds w wr
  lo : w.heap.size ≤ sb ∧ w.heap.size ≤ sm ∧ w.heap.size ≤ mb ∧ w.heap.size ≤ gb
structure LoopB (w wr : World) (lb xb gb ab sb sm rb : Nat) (P pg cl ps al gn k : Int) : Prop where
  ga : GoneAt wr gb P 2 pg ps k
  y : ∃ g, YW wr ab sb sm rb P 2 g ∧ Gond P 2 pg cl ps al (Ph.mk gn 2) k g
  lb : Blk wr lb #[.int .i64 P, .int .i64 2] 24
  xb : Blk wr xb (mCellsZ 5 P 2 0 pg cl ps gn 0 0 0 al) 38
  ad : Adds w wr
  lo : w.heap.size ≤ sb ∧ w.heap.size ≤ sm ∧ w.heap.size ≤ gb
section
variable {w wr w' : World} {lb xb mb gb ab sb sm rb : Nat} {P pg cl ps al gn k : Int} {g : Int → Int}
theorem keepY {b : Nat} {c c' : Array Value} {t t' : TypeId} {T : Int} (hY : YW wr ab sb sm rb P T g) (hl : Blk wr mb c' t') (hb : Blk wr b c t) (e : t ≠ t') (h1 : t ≠ 88) (h2 : t ≠ 22) (h3 : t ≠ 67) : ¬ (SB sb sm b ∨ b = mb) := by
  obtain ⟨s, hy, _⟩ := hY
  have hk := hy.mach hb h1 h2 h3
  unfold SB
  rintro ((e1 | e1) | e1)
  · exact hk.2.1 e1
  · exact hk.2.2 e1
  · subst e1; exact e (hb.uniq hl).2
theorem LoopA.adds (h : LoopA w wr lb xb mb gb ab sb sm rb P pg cl ps al gn k) (ho : Adds wr w') : LoopA w w' lb xb mb gb ab sb sm rb P pg cl ps al gn k := by
  obtain ⟨g, hy, hL⟩ := h.y
  obtain ⟨jm, ji, h1, h2, h3⟩ := h.ga
  exact ⟨h.la.adds ho, ⟨jm, ji, h1.only ho id, h2.only ho id, Desk.adds h3 ho⟩, ⟨g, hy.adds ho, hL⟩, h.lb.only ho id, h.xb.only ho id, h.ad.thenF ho, h.lo⟩
theorem LoopB.adds (h : LoopB w wr lb xb gb ab sb sm rb P pg cl ps al gn k) (ho : Adds wr w') : LoopB w w' lb xb gb ab sb sm rb P pg cl ps al gn k := by
  obtain ⟨g, hy, hL⟩ := h.y
  exact ⟨h.ga.adds ho, ⟨g, hy.adds ho, hL⟩, h.lb.only ho id, h.xb.only ho id, h.ad.thenF ho, h.lo⟩
theorem LoopA.read (F : Fix P pg cl ps al gn) (h : LoopA w wr lb xb mb gb ab sb sm rb P pg cl ps al gn k) (hlt : k < ps + 4) :
    Calls Tryd.prog 9 #[ptr ab, .int .i64 pg] wr fun e w' => e = .returned (.tuple #[.agg spanZ, .bool false]) ∧ Adds wr w' := by
  have h1 := F.h1; have h2 := F.h2; have h0 := F.h0
  obtain ⟨g, hY, hL⟩ := h.y
  exact read_zero hY F.hm F.h0 (by omega) (by rw [hL.sts pg F.h0 (by omega), if_neg (by omega)])
theorem LoopA.notDone (h : LoopA w wr lb xb mb gb ab sb sm rb P pg cl ps al gn k) (hlt : k < ps + 4) : Calls Tryd.prog 10 #[ptr mb] wr fun e w' => e = .returned (.bool false) ∧ wr = w' := layAt_notDone h.la hlt
theorem LoopA.isDone (h : LoopA w wr lb xb mb gb ab sb sm rb P pg cl ps al gn (ps + 4)) : Calls Tryd.prog 10 #[ptr mb] wr fun e w' => e = .returned (.bool true) ∧ wr = w' := layAt_isDone h.la
theorem LoopA.step (F : Fix P pg cl ps al gn) (h : LoopA w wr lb xb mb gb ab sb sm rb P pg cl ps al gn k) (h0 : 0 ≤ k) (hlt : k < ps + 4) :
    ∃ x old v, Calls Tryd.prog 11 #[ptr mb, ptr ab] wr fun e w' => e = .returned (.agg #[.int .i64 2, .int .i64 x, .int .u64 old, .int .u64 v]) ∧ LoopA w w' lb xb mb gb ab sb sm rb P pg cl ps al gn (k + 1) := by
  obtain ⟨g, hY, hL⟩ := h.y
  obtain ⟨-, -, b1, b2⟩ := Ph.mk2_all F.hg
  obtain ⟨nx, hb⟩ := h.la.blk
  obtain ⟨x, old, v, g', hL', hs⟩ := layAt_step h.la hY hL F.hm F.h0 F.h1 F.h2 F.hc F.ha ⟨by omega, b2⟩ h0 hlt
  refine ⟨x, old, v, hs.mono ?_⟩
  rintro e w' ⟨rfl, ⟨hla, hy⟩, ho⟩
  have hlo := h.lo
  exact ⟨rfl, hla, h.ga.kept hY F.hm hb (by simp) ho, ⟨g', hy, hL'⟩, h.lb.only ho (keepY hY hb h.lb (by decide) (by decide) (by decide) (by decide)), h.xb.only ho (keepY hY hb h.xb (by decide) (by decide) (by decide) (by decide)),
    h.ad.andThen ho (fun i hi e => absurd e (hiA (n := w.heap.size) hlo.1 hlo.2.1 hlo.2.2.1 i hi)), hlo⟩
theorem LoopA.stepE (F : Fix P pg cl ps al gn) (h : LoopA w wr lb xb mb gb ab sb sm rb P pg cl ps al gn k) (h0 : 0 ≤ k) (hlt : k < ps + 4) :
    Calls Tryd.prog 11 #[ptr mb, ptr ab] wr fun e w' => ∃ x old v, e = .returned (.agg #[.int .i64 2, .int .i64 x, .int .u64 old, .int .u64 v]) ∧ LoopA w w' lb xb mb gb ab sb sm rb P pg cl ps al gn (k + 1) := by
  obtain ⟨x, old, v, hs⟩ := h.step F h0 hlt
  exact hs.mono (fun _ _ q => ⟨x, old, v, q⟩)
theorem LoopA.list (F : Fix P pg cl ps al gn) (h : LoopA w wr lb xb mb gb ab sb sm rb P pg cl ps al gn (ps + 4)) :
    Calls Tryd.prog 13 #[ptr ab] wr fun e w' => ∃ b c, e = .returned (.slice (some ⟨b, 0, none⟩) 1 c) ∧ Sp w' b pg ps cl gn 2 al 0 ∧ Adds wr w' := by
  have h1 := F.h1; have h2 := F.h2; have h0 := F.h0; have hc := F.hc; have hp := F.hp
  obtain ⟨g, hY, hL⟩ := h.y
  obtain ⟨e1, e2, b1, b2⟩ := Ph.mk2_all F.hg
  have e3 : (256 * ps + cl) / 256 = ps := by omega
  have e4 : (256 * ps + cl) % 256 = cl := by omega
  have := recList_one (gn := gn) (ph := 2) hY F.hm F.h0 (by omega) (fun p p0 p1 hne => by rw [hL.sts p p0 p1, if_neg (fun h => hne h.1)])
    (by rw [hL.sts pg F.h0 (by omega), if_pos ⟨rfl, by omega⟩]) (by omega) (hL.bas (by omega)) (hL.alc (by omega)) (hL.mrk (by omega)) ⟨by omega, b2⟩ ⟨by omega, by omega⟩ e1 e2
  rwa [e3, e4] at this
theorem LoopA.index (F : Fix P pg cl ps al gn) (h : LoopA w wr lb xb mb gb ab sb sm rb P pg cl ps al gn (ps + 4)) :
    Calls Tryd.prog 14 #[ptr ab, .agg #[.int .i64 P, .int .i64 2], .agg (mCellsZ 5 P 2 0 pg cl ps gn 0 0 0 al), .int .u64 (pg + 1)] wr fun e w' => e = .returned (.bool true) ∧ Adds wr w' := by
  have h1 := F.h1; have h2 := F.h2; have h0 := F.h0
  obtain ⟨g, hY, hL⟩ := h.y
  refine index_any (k := 5) (cl := cl) (gn := gn) (al := al) hY F.hm F.h0 F.h1 F.h2 (fun p p0 p1 => ?_)
  rw [hL.idx p p0 p1]
  by_cases e : pg ≤ p ∧ p < pg + ps
  · rw [if_pos e, if_pos (by omega)]
  · rw [if_neg e, if_neg (by omega)]
theorem LoopA.toB (F : Fix P pg cl ps al gn) (h : LoopA w wr lb xb mb gb ab sb sm rb P pg cl ps al gn (ps + 4)) : LoopB w wr lb xb gb ab sb sm rb P pg cl ps al gn 0 := by
  have h1 := F.h1
  obtain ⟨g, hY, hL⟩ := h.y
  exact ⟨.inl ⟨by omega, h.ga⟩, ⟨g, hY, hL.gond F.h1⟩, h.lb, h.xb, h.ad, h.lo.1, h.lo.2.1, h.lo.2.2.2⟩
theorem LoopB.read (F : Fix P pg cl ps al gn) (h : LoopB w wr lb xb gb ab sb sm rb P pg cl ps al gn k) (hlt : k < ps + 1) :
    Calls Tryd.prog 9 #[ptr ab, .int .i64 pg] wr fun e w' => e = .returned (.tuple #[spanV pg ps cl gn 2 al 0, .bool true]) ∧ Adds wr w' := by
  have h1 := F.h1; have h2 := F.h2; have h0 := F.h0; have hc := F.hc; have hp := F.hp
  obtain ⟨g, hY, hL⟩ := h.y
  obtain ⟨e1, e2, b1, b2⟩ := Ph.mk2_all F.hg
  have e3 : (256 * ps + cl) / 256 = ps := by omega
  have e4 : (256 * ps + cl) % 256 = cl := by omega
  have := read_some hY F.hm F.h0 (by omega) (by rw [hL.sts pg F.h0 (by omega), if_pos ⟨rfl, hlt⟩]) (by omega) hL.bas hL.alc hL.mrk ⟨by omega, b2⟩ ⟨by omega, by omega⟩
  rwa [e1, e2, e3, e4] at this
theorem LoopB.notDone (h : LoopB w wr lb xb gb ab sb sm rb P pg cl ps al gn k) (hlt : k < ps + 1) : Calls Tryd.prog 15 #[ptr gb] wr fun e w' => e = .returned (.bool false) ∧ wr = w' := goneAt_notDone h.ga hlt
theorem LoopB.isDone (h : LoopB w wr lb xb gb ab sb sm rb P pg cl ps al gn (ps + 1)) : Calls Tryd.prog 15 #[ptr gb] wr fun e w' => e = .returned (.bool true) ∧ wr = w' := goneAt_isDone h.ga
theorem LoopB.step (F : Fix P pg cl ps al gn) (h : LoopB w wr lb xb gb ab sb sm rb P pg cl ps al gn k) (h0 : 0 ≤ k) (hlt : k < ps + 1) :
    ∃ x old v, Calls Tryd.prog 16 #[ptr gb, ptr ab] wr fun e w' => e = .returned (.agg #[.int .i64 2, .int .i64 x, .int .u64 old, .int .u64 v]) ∧ LoopB w w' lb xb gb ab sb sm rb P pg cl ps al gn (k + 1) := by
  obtain ⟨g, hY, hL⟩ := h.y
  obtain ⟨nx, hb⟩ := h.ga.blk
  obtain ⟨x, old, v, g', hL', hs⟩ := goneAt_step h.ga hY hL F.hm F.h0 F.h1 F.h2 h0 hlt
  refine ⟨x, old, v, hs.mono ?_⟩
  rintro e w' ⟨rfl, ⟨hla, hy⟩, ho⟩
  have hlo := h.lo
  exact ⟨rfl, hla, ⟨g', hy, hL'⟩, h.lb.only ho (keepY hY hb h.lb (by decide) (by decide) (by decide) (by decide)), h.xb.only ho (keepY hY hb h.xb (by decide) (by decide) (by decide) (by decide)),
    h.ad.andThen ho (fun i hi e => absurd e (hiA (n := w.heap.size) hlo.1 hlo.2.1 hlo.2.2 i hi)), hlo⟩
theorem LoopB.stepE (F : Fix P pg cl ps al gn) (h : LoopB w wr lb xb gb ab sb sm rb P pg cl ps al gn k) (h0 : 0 ≤ k) (hlt : k < ps + 1) :
    Calls Tryd.prog 16 #[ptr gb, ptr ab] wr fun e w' => ∃ x old v, e = .returned (.agg #[.int .i64 2, .int .i64 x, .int .u64 old, .int .u64 v]) ∧ LoopB w w' lb xb gb ab sb sm rb P pg cl ps al gn (k + 1) := by
  obtain ⟨x, old, v, hs⟩ := h.step F h0 hlt
  exact hs.mono (fun _ _ q => ⟨x, old, v, q⟩)
theorem LoopB.list (F : Fix P pg cl ps al gn) (h : LoopB w wr lb xb gb ab sb sm rb P pg cl ps al gn (ps + 1)) :
    Calls Tryd.prog 13 #[ptr ab] wr fun e w' => e = .returned (.slice none 0 0) ∧ Adds wr w' := by
  obtain ⟨g, hY, hL⟩ := h.y
  exact recList_none hY F.hm (fun p p0 p1 => by rw [hL.sts p p0 p1, if_neg (fun h => by omega)])
theorem LoopB.index (F : Fix P pg cl ps al gn) (h : LoopB w wr lb xb gb ab sb sm rb P pg cl ps al gn (ps + 1)) :
    Calls Tryd.prog 14 #[ptr ab, .agg #[.int .i64 P, .int .i64 2], .agg (mCellsZ 5 P 2 0 pg cl ps gn 0 0 0 al), .int .u64 0] wr fun e w' => e = .returned (.bool true) ∧ Adds wr w' := by
  obtain ⟨g, hY, hL⟩ := h.y
  refine index_any (k := 5) (cl := cl) (gn := gn) (al := al) hY F.hm F.h0 F.h1 F.h2 (fun p p0 p1 => ?_)
  rw [hL.idx p p0 p1, if_neg (by omega)]
  split <;> rfl
/-- The beginning. -/
theorem LoopA.start (F : Fix P pg cl ps al gn) (hl : LayI wr mb P 2 pg cl ps al (Ph.mk gn 2) 0) (hg : GoneI wr gb P 2 pg ps 0) (hY : YW wr ab sb sm rb P 2 (g0 P 2)) (hlb : Blk wr lb #[.int .i64 P, .int .i64 2] 24)
    (hxb : Blk wr xb (mCellsZ 5 P 2 0 pg cl ps gn 0 0 0 al) 38) (ha : Adds w wr) (hlo : w.heap.size ≤ sb ∧ w.heap.size ≤ sm ∧ w.heap.size ≤ mb ∧ w.heap.size ≤ gb) : LoopA w wr lb xb mb gb ab sb sm rb P pg cl ps al gn 0 := by
  have h1 := F.h1; have h2 := F.h2; have h0 := F.h0
  have hz : ∀ q p, 0 ≤ p → p < P → 9 ≤ q → q < 15 → g0 P 2 (recAt P 2 q p) = 0 := fun q p p0 p1 q0 q1 => g0_other (by
    rw [recAt_eq F.hm p0 p1 q0 q1]
    split <;> omega)
  exact ⟨.inl ⟨by omega, hl⟩, hg, ⟨_, hY, ⟨fun p p0 p1 => by rw [hz 14 p p0 p1 (by omega) (by omega), if_neg (by omega)], fun p p0 p1 => by rw [hz 9 p p0 p1 (by omega) (by omega), if_neg (by omega)], fun h => by omega, fun h => by omega, fun h => by omega⟩⟩, hlb, hxb, ha, hlo⟩
end
end Go.Proofs.YtcikhlihgebnbaaDoor

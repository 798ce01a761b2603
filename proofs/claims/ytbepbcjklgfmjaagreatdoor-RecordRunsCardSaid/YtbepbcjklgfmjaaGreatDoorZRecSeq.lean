/- RecordBack: how a lay, and a gone, go on step by step, and what the words are meanwhile. By an AI agent. -/
import Derived.Test.YtbepbcjklgfmjaaGreatDoorZRecord2
import Derived.Test.YtbepbcjklgfmjaaGreatDoorZ2
namespace Go.Proofs.YtbepbcjklgfmjaaGreatDoor
open Go.RowKit
set_option linter.unusedSimpArgs false
set_option linter.unusedVariables false
section
variable {w w' : World} {mb ab sb sm rb gb : Nat} {P T pg cl ps al st i : Int} {g : Int → Int}
theorem recAt_inj {k k' p p' : Int} (hm : Lay.may P T = true) (h0 : 0 ≤ p) (h1 : p < P) (k0 : 9 ≤ k) (k1 : k < 15) (h0' : 0 ≤ p') (h1' : p' < P) (k0' : 9 ≤ k') (k1' : k' < 15) (e : recAt P T k' p' = recAt P T k p) : k' = k ∧ p' = p := by
  rw [recAt_eq hm h0 h1 k0 k1, recAt_eq hm h0' h1' k0' k1'] at e
  by_cases e1 : k = 14 <;> by_cases e2 : k' = 14 <;> simp only [e1, e2, if_true, if_false] at e <;> omega
theorem upd_at {k k' p p' v : Int} (hm : Lay.may P T = true) (h0 : 0 ≤ p) (h1 : p < P) (k0 : 9 ≤ k) (k1 : k < 15) (h0' : 0 ≤ p') (h1' : p' < P) (k0' : 9 ≤ k') (k1' : k' < 15) : upd g (recAt P T k p) v (recAt P T k' p') = if k' = k ∧ p' = p then v else g (recAt P T k' p') := by
  unfold upd
  by_cases e : k' = k ∧ p' = p
  · rw [if_pos e, e.1, e.2, if_pos rfl]
  · rw [if_neg e, if_neg (fun h => e (recAt_inj hm h0 h1 k0 k1 h0' h1' k0' k1' h))]
/-- A lay ahead of its put number i; behind the last one it is done. -/
def LayAt (w : World) (mb : Nat) (P T pg cl ps al st i : Int) : Prop := (i < ps ∧ LayI w mb P T pg cl ps al st i) ∨ (i = ps ∧ LayB w mb P T pg cl ps al st) ∨ (i = ps + 1 ∧ LayA w mb P T pg cl ps al st) ∨ (i = ps + 2 ∧ LayM w mb P T pg cl ps al st) ∨ (i = ps + 3 ∧ LayS w mb P T pg cl ps al st) ∨ (i = ps + 4 ∧ Desk w mb (laC P T pg cl ps al st) 122 .done)
def GoneAt (w : World) (mb : Nat) (P T pg ps i : Int) : Prop := (i < ps ∧ GoneI w mb P T pg ps i) ∨ (i = ps ∧ GoneS w mb P T pg ps) ∨ (i = ps + 1 ∧ Desk w mb (goC P T pg ps) 128 .done)
/-- The words while a lay, or a gone, goes on. -/
structure Laid (P T pg cl ps al st i : Int) (g : Int → Int) : Prop where
  idx : ∀ p, 0 ≤ p → p < P → g (recAt P T 14 p) = if pg ≤ p ∧ p < pg + i ∧ p < pg + ps then pg + 1 else 0
  sts : ∀ p, 0 ≤ p → p < P → g (recAt P T 9 p) = if p = pg ∧ ps + 4 ≤ i then st else 0
  bas : ps + 1 ≤ i → g (recAt P T 10 pg) = 256 * ps + cl
  alc : ps + 2 ≤ i → g (recAt P T 12 pg) = al
  mrk : ps + 3 ≤ i → g (recAt P T 13 pg) = 0
structure Gond (P T pg cl ps al st i : Int) (g : Int → Int) : Prop where
  idx : ∀ p, 0 ≤ p → p < P → g (recAt P T 14 p) = if pg + i ≤ p ∧ p < pg + ps then pg + 1 else 0
  sts : ∀ p, 0 ≤ p → p < P → g (recAt P T 9 p) = if p = pg ∧ i < ps + 1 then st else 0
  bas : g (recAt P T 10 pg) = 256 * ps + cl
  alc : g (recAt P T 12 pg) = al
  mrk : g (recAt P T 13 pg) = 0
theorem Laid.gond (h : Laid P T pg cl ps al st (ps + 4) g) (h1 : 1 ≤ ps) : Gond P T pg cl ps al st 0 g := by
  refine ⟨fun p p0 p1 => (h.idx p p0 p1).trans ?_, fun p p0 p1 => (h.sts p p0 p1).trans ?_, h.bas (by omega), h.alc (by omega), h.mrk (by omega)⟩
  · by_cases e : pg ≤ p ∧ p < pg + (ps + 4) ∧ p < pg + ps
    · rw [if_pos e, if_pos (by omega)]
    · rw [if_neg e, if_neg (by omega)]
  · by_cases e : p = pg
    · rw [if_pos ⟨e, by omega⟩, if_pos ⟨e, by omega⟩]
    · rw [if_neg (fun h => e h.1), if_neg (fun h => e h.1)]
theorem LayAt.adds (h : LayAt w mb P T pg cl ps al st i) (ho : Adds w w') : LayAt w' mb P T pg cl ps al st i := by
  obtain ⟨h1, h⟩ | ⟨h1, h⟩ | ⟨h1, h⟩ | ⟨h1, h⟩ | ⟨h1, h⟩ | ⟨h1, h⟩ := h
  · exact .inl ⟨h1, h.adds ho⟩
  · exact .inr (.inl ⟨h1, h.adds ho⟩)
  · exact .inr (.inr (.inl ⟨h1, h.adds ho⟩))
  · exact .inr (.inr (.inr (.inl ⟨h1, h.adds ho⟩)))
  · exact .inr (.inr (.inr (.inr (.inl ⟨h1, h.adds ho⟩))))
  · exact .inr (.inr (.inr (.inr (.inr ⟨h1, Desk.adds h ho⟩))))
theorem LayAt.blk (h : LayAt w mb P T pg cl ps al st i) : ∃ nx, Blk w mb (laC P T pg cl ps al st nx) 122 := by
  obtain ⟨h1, h⟩ | ⟨h1, h⟩ | ⟨h1, h⟩ | ⟨h1, h⟩ | ⟨h1, h⟩ | ⟨h1, h⟩ := h
  · obtain ⟨_, _, _, hb⟩ := h.live; exact ⟨_, hb⟩
  · obtain ⟨_, _, _, hb⟩ := h.live; exact ⟨_, hb⟩
  · obtain ⟨_, _, _, hb⟩ := h.live; exact ⟨_, hb⟩
  · obtain ⟨_, _, _, hb⟩ := h.live; exact ⟨_, hb⟩
  · obtain ⟨_, _, _, hb⟩ := h.live; exact ⟨_, hb⟩
  · obtain ⟨nx, hb, _⟩ := Desk.blk h; exact ⟨_, hb⟩
theorem GoneAt.adds (h : GoneAt w mb P T pg ps i) (ho : Adds w w') : GoneAt w' mb P T pg ps i := by
  obtain ⟨h1, h⟩ | ⟨h1, h⟩ | ⟨h1, h⟩ := h
  · exact .inl ⟨h1, h.adds ho⟩
  · exact .inr (.inl ⟨h1, h.adds ho⟩)
  · exact .inr (.inr ⟨h1, Desk.adds h ho⟩)
theorem GoneAt.blk (h : GoneAt w mb P T pg ps i) : ∃ nx, Blk w mb (goC P T pg ps nx) 128 := by
  obtain ⟨h1, h⟩ | ⟨h1, h⟩ | ⟨h1, h⟩ := h
  · obtain ⟨_, _, _, hb⟩ := h.live; exact ⟨_, hb⟩
  · obtain ⟨_, _, _, hb⟩ := h.live; exact ⟨_, hb⟩
  · obtain ⟨nx, hb, _⟩ := Desk.blk h; exact ⟨_, hb⟩
/-- A gone that waits is kept while a lay goes on. -/
theorem GoneI.kept (h : GoneI w gb P T pg ps i) (hY : YW w ab sb sm rb P T g) (hm : Lay.may P T = true) {c : Array Value} (hb : Blk w mb c 122) (hc : c.size ≠ 1) (ho : Only (fun j => SB sb sm j ∨ j = mb) w w') : GoneI w' gb P T pg ps i := by
  obtain ⟨s, hy, hl, -⟩ := hY
  have hw := words_big hm
  have hbig : 1 < s.ws.length := by rw [hl]; omega
  obtain ⟨_, _, _, hg⟩ := h.live
  obtain ⟨jm, ji, h1, h2, h3⟩ := h
  have hn : ∀ b x t, Blk w b #[x] t → ¬ (SB sb sm b ∨ b = mb) := fun b x t hx hh => hh.elim (Yard.multi hy hbig hx) (hb.multi' hc hx)
  have hk := Yard.mach hy hg (by decide) (by decide) (by decide)
  have hgm : gb ≠ mb := fun e => by
    subst e
    have h5 := hb.symm.trans hg
    simp at h5
  refine ⟨jm, ji, h1.only ho (hn _ _ _ h1), h2.only ho (hn _ _ _ h2), h3.only ho ?_ hn⟩
  unfold SB
  rintro ((e | e) | e)
  · exact hk.2.1 e
  · exact hk.2.2 e
  · exact hgm e
theorem layAt_notDone (h : LayAt w mb P T pg cl ps al st i) (hi : i < ps + 4) : Calls Tryz.prog 38 #[ptr mb] w fun e w' => e = .returned (.bool false) ∧ w = w' := by
  have hk : ∃ fn f q, Blk w mb (laC P T pg cl ps al st (.func fn f q)) 122 := by
    obtain ⟨h1, h⟩ | ⟨h1, h⟩ | ⟨h1, h⟩ | ⟨h1, h⟩ | ⟨h1, h⟩ | ⟨h1, h⟩ := h
    · exact h.live
    · exact h.live
    · exact h.live
    · exact h.live
    · exact h.live
    · omega
  obtain ⟨fn, f, q, hb⟩ := hk
  exact recordLayDone_no (hb.cell 2)
theorem layAt_isDone (h : LayAt w mb P T pg cl ps al st (ps + 4)) : Calls Tryz.prog 38 #[ptr mb] w fun e w' => e = .returned (.bool true) ∧ w = w' := by
  have hk : Desk w mb (laC P T pg cl ps al st) 122 .done := by
    obtain ⟨h1, h⟩ | ⟨h1, h⟩ | ⟨h1, h⟩ | ⟨h1, h⟩ | ⟨h1, h⟩ | ⟨h1, h⟩ := h
    · omega
    · omega
    · omega
    · omega
    · omega
    · exact h
  exact recordLayDone_yes (Blk.cell hk 2)
theorem goneAt_notDone (h : GoneAt w mb P T pg ps i) (hi : i < ps + 1) : Calls Tryz.prog 47 #[ptr mb] w fun e w' => e = .returned (.bool false) ∧ w = w' := by
  have hk : ∃ fn f q, Blk w mb (goC P T pg ps (.func fn f q)) 128 := by
    obtain ⟨h1, h⟩ | ⟨h1, h⟩ | ⟨h1, h⟩ := h
    · exact h.live
    · exact h.live
    · omega
  obtain ⟨fn, f, q, hb⟩ := hk
  exact recordGoneDone_no (hb.cell 2)
theorem goneAt_isDone (h : GoneAt w mb P T pg ps (ps + 1)) : Calls Tryz.prog 47 #[ptr mb] w fun e w' => e = .returned (.bool true) ∧ w = w' := by
  have hk : Desk w mb (goC P T pg ps) 128 .done := by
    obtain ⟨h1, h⟩ | ⟨h1, h⟩ | ⟨h1, h⟩ := h
    · omega
    · omega
    · exact h
  exact recordGoneDone_yes (Blk.cell hk 2)

theorem Laid.idx_at (hL : Laid P T pg cl ps al st i g) (hm : Lay.may P T = true) (h0 : 0 ≤ pg) (h1 : 1 ≤ ps) (h2 : pg + ps ≤ P) (hi : 0 ≤ i) (hlt : i < ps) : Laid P T pg cl ps al st (i + 1) (upd g (recAt P T 14 (pg + i)) (pg + 1)) := by
  refine ⟨fun p p0 p1 => ?_, fun p p0 p1 => ?_, fun h => by omega, fun h => by omega, fun h => by omega⟩
  · rw [upd_at hm (by omega) (by omega) (by omega) (by omega) p0 p1 (by omega) (by omega)]
    by_cases e : p = pg + i
    · rw [if_pos ⟨rfl, e⟩, if_pos (by omega)]
    · rw [if_neg (fun h => e h.2), hL.idx p p0 p1]
      by_cases e2 : pg ≤ p ∧ p < pg + i ∧ p < pg + ps
      · rw [if_pos e2, if_pos (by omega)]
      · rw [if_neg e2, if_neg (by omega)]
  · rw [upd_at hm (by omega) (by omega) (by omega) (by omega) p0 p1 (by omega) (by omega), if_neg (by omega), hL.sts p p0 p1, if_neg (by omega), if_neg (by omega)]
theorem Laid.bas_at (hL : Laid P T pg cl ps al st i g) (hm : Lay.may P T = true) (h0 : 0 ≤ pg) (h1 : 1 ≤ ps) (h2 : pg + ps ≤ P) (hi : i = ps + 0) : Laid P T pg cl ps al st (i + 1) (upd g (recAt P T 10 pg) (256 * ps + cl)) := by
  refine ⟨fun p p0 p1 => ?_, fun p p0 p1 => ?_, fun h => ?_, fun h => ?_, fun h => ?_⟩
  · rw [upd_at hm (by omega) (by omega) (by omega) (by omega) p0 p1 (by omega) (by omega), if_neg (by omega), hL.idx p p0 p1]
    by_cases e2 : pg ≤ p ∧ p < pg + i ∧ p < pg + ps
    · rw [if_pos e2, if_pos (by omega)]
    · rw [if_neg e2, if_neg (by omega)]
  · rw [upd_at hm (by omega) (by omega) (by omega) (by omega) p0 p1 (by omega) (by omega), if_neg (by omega), hL.sts p p0 p1, if_neg (by omega), if_neg (by omega)]
  · rw [upd_at hm (by omega) (by omega) (by omega) (by omega) (by omega) (by omega) (by omega) (by omega), if_pos ⟨rfl, rfl⟩]
  · omega
  · omega

theorem Laid.alc_at (hL : Laid P T pg cl ps al st i g) (hm : Lay.may P T = true) (h0 : 0 ≤ pg) (h1 : 1 ≤ ps) (h2 : pg + ps ≤ P) (hi : i = ps + 1) : Laid P T pg cl ps al st (i + 1) (upd g (recAt P T 12 pg) (al)) := by
  refine ⟨fun p p0 p1 => ?_, fun p p0 p1 => ?_, fun h => ?_, fun h => ?_, fun h => ?_⟩
  · rw [upd_at hm (by omega) (by omega) (by omega) (by omega) p0 p1 (by omega) (by omega), if_neg (by omega), hL.idx p p0 p1]
    by_cases e2 : pg ≤ p ∧ p < pg + i ∧ p < pg + ps
    · rw [if_pos e2, if_pos (by omega)]
    · rw [if_neg e2, if_neg (by omega)]
  · rw [upd_at hm (by omega) (by omega) (by omega) (by omega) p0 p1 (by omega) (by omega), if_neg (by omega), hL.sts p p0 p1, if_neg (by omega), if_neg (by omega)]
  · rw [upd_at hm (by omega) (by omega) (by omega) (by omega) (by omega) (by omega) (by omega) (by omega), if_neg (by omega)]; exact hL.bas (by omega)
  · rw [upd_at hm (by omega) (by omega) (by omega) (by omega) (by omega) (by omega) (by omega) (by omega), if_pos ⟨rfl, rfl⟩]
  · omega

theorem Laid.mrk_at (hL : Laid P T pg cl ps al st i g) (hm : Lay.may P T = true) (h0 : 0 ≤ pg) (h1 : 1 ≤ ps) (h2 : pg + ps ≤ P) (hi : i = ps + 2) : Laid P T pg cl ps al st (i + 1) (upd g (recAt P T 13 pg) (0)) := by
  refine ⟨fun p p0 p1 => ?_, fun p p0 p1 => ?_, fun h => ?_, fun h => ?_, fun h => ?_⟩
  · rw [upd_at hm (by omega) (by omega) (by omega) (by omega) p0 p1 (by omega) (by omega), if_neg (by omega), hL.idx p p0 p1]
    by_cases e2 : pg ≤ p ∧ p < pg + i ∧ p < pg + ps
    · rw [if_pos e2, if_pos (by omega)]
    · rw [if_neg e2, if_neg (by omega)]
  · rw [upd_at hm (by omega) (by omega) (by omega) (by omega) p0 p1 (by omega) (by omega), if_neg (by omega), hL.sts p p0 p1, if_neg (by omega), if_neg (by omega)]
  · rw [upd_at hm (by omega) (by omega) (by omega) (by omega) (by omega) (by omega) (by omega) (by omega), if_neg (by omega)]; exact hL.bas (by omega)
  · rw [upd_at hm (by omega) (by omega) (by omega) (by omega) (by omega) (by omega) (by omega) (by omega), if_neg (by omega)]; exact hL.alc (by omega)
  · rw [upd_at hm (by omega) (by omega) (by omega) (by omega) (by omega) (by omega) (by omega) (by omega), if_pos ⟨rfl, rfl⟩]

theorem Laid.sts_at (hL : Laid P T pg cl ps al st i g) (hm : Lay.may P T = true) (h0 : 0 ≤ pg) (h1 : 1 ≤ ps) (h2 : pg + ps ≤ P) (hi : i = ps + 3) : Laid P T pg cl ps al st (i + 1) (upd g (recAt P T 9 pg) (st)) := by
  refine ⟨fun p p0 p1 => ?_, fun p p0 p1 => ?_, fun h => ?_, fun h => ?_, fun h => ?_⟩
  · rw [upd_at hm (by omega) (by omega) (by omega) (by omega) p0 p1 (by omega) (by omega), if_neg (by omega), hL.idx p p0 p1]
    by_cases e2 : pg ≤ p ∧ p < pg + i ∧ p < pg + ps
    · rw [if_pos e2, if_pos (by omega)]
    · rw [if_neg e2, if_neg (by omega)]
  · rw [upd_at hm (by omega) (by omega) (by omega) (by omega) p0 p1 (by omega) (by omega)]
    by_cases e : p = pg
    · rw [if_pos ⟨rfl, e⟩, if_pos (by omega)]
    · rw [if_neg (fun h => e h.2), hL.sts p p0 p1, if_neg (by omega), if_neg (by omega)]
  · rw [upd_at hm (by omega) (by omega) (by omega) (by omega) (by omega) (by omega) (by omega) (by omega), if_neg (by omega)]; exact hL.bas (by omega)
  · rw [upd_at hm (by omega) (by omega) (by omega) (by omega) (by omega) (by omega) (by omega) (by omega), if_neg (by omega)]; exact hL.alc (by omega)
  · rw [upd_at hm (by omega) (by omega) (by omega) (by omega) (by omega) (by omega) (by omega) (by omega), if_neg (by omega)]; exact hL.mrk (by omega)

theorem layAt_step (h : LayAt w mb P T pg cl ps al st i) (hY : YW w ab sb sm rb P T g) (hL : Laid P T pg cl ps al st i g) (hm : Lay.may P T = true) (h0 : 0 ≤ pg) (h1 : 1 ≤ ps) (h2 : pg + ps ≤ P) (hc : 0 ≤ cl ∧ cl < 256) (ha : 0 ≤ al ∧ al < 18446744073709551616) (hs : 0 ≤ st ∧ st < 18446744073709551616) (hi : 0 ≤ i) (hlt : i < ps + 4) :
    ∃ x old v g', Laid P T pg cl ps al st (i + 1) g' ∧ Calls Tryz.prog 39 #[ptr mb, ptr ab] w fun e w' => e = .returned (.agg #[.int .i64 2, .int .i64 x, .int .u64 old, .int .u64 v]) ∧ (LayAt w' mb P T pg cl ps al st (i + 1) ∧ YW w' ab sb sm rb P T g') ∧ Only (fun j => SB sb sm j ∨ j = mb) w w' := by
  obtain ⟨e, h⟩ | ⟨e, h⟩ | ⟨e, h⟩ | ⟨e, h⟩ | ⟨e, h⟩ | ⟨e, h⟩ := h
  · by_cases hn : i + 1 < ps
    · obtain ⟨old, ho⟩ := layStep_lt h hY hm h0 h1 h2 hc hi hn
      exact ⟨_, old, _, _, hL.idx_at hm h0 h1 h2 hi e, ho.mono (fun _ _ q => ⟨q.1, ⟨.inl ⟨hn, q.2.1.1⟩, q.2.1.2⟩, q.2.2⟩)⟩
    · obtain ⟨old, ho⟩ := layStep_ge h hY hm h0 h1 h2 hc hi e (by omega)
      exact ⟨_, old, _, _, hL.idx_at hm h0 h1 h2 hi e, ho.mono (fun _ _ q => ⟨q.1, ⟨.inr (.inl ⟨by omega, q.2.1.1⟩), q.2.1.2⟩, q.2.2⟩)⟩
  · obtain ⟨old, ho⟩ := layStep_base h hY hm h0 h1 h2 hc
    exact ⟨_, old, _, _, hL.bas_at hm h0 h1 h2 (by omega), ho.mono (fun _ _ q => ⟨q.1, ⟨.inr (.inr (.inl ⟨by omega, q.2.1.1⟩)), q.2.1.2⟩, q.2.2⟩)⟩
  · obtain ⟨old, ho⟩ := layStep_alloc h hY hm h0 h1 h2 ha
    exact ⟨_, old, _, _, hL.alc_at hm h0 h1 h2 (by omega), ho.mono (fun _ _ q => ⟨q.1, ⟨.inr (.inr (.inr (.inl ⟨by omega, q.2.1.1⟩))), q.2.1.2⟩, q.2.2⟩)⟩
  · obtain ⟨old, ho⟩ := layStep_mark h hY hm h0 h1 h2
    exact ⟨_, old, _, _, hL.mrk_at hm h0 h1 h2 (by omega), ho.mono (fun _ _ q => ⟨q.1, ⟨.inr (.inr (.inr (.inr (.inl ⟨by omega, q.2.1.1⟩)))), q.2.1.2⟩, q.2.2⟩)⟩
  · obtain ⟨old, ho⟩ := layStep_state h hY hm h0 h1 h2 hs
    exact ⟨_, old, _, _, hL.sts_at hm h0 h1 h2 (by omega), ho.mono (fun _ _ q => ⟨q.1, ⟨.inr (.inr (.inr (.inr (.inr ⟨by omega, q.2.1.1⟩)))), q.2.1.2⟩, q.2.2⟩)⟩
  · omega
theorem Gond.idx_at (hL : Gond P T pg cl ps al st i g) (hm : Lay.may P T = true) (h0 : 0 ≤ pg) (h1 : 1 ≤ ps) (h2 : pg + ps ≤ P) (hi : 0 ≤ i) (hlt : i < ps) : Gond P T pg cl ps al st (i + 1) (upd g (recAt P T 14 (pg + i)) 0) := by
  refine ⟨fun p p0 p1 => ?_, fun p p0 p1 => ?_, ?_, ?_, ?_⟩
  · rw [upd_at hm (by omega) (by omega) (by omega) (by omega) p0 p1 (by omega) (by omega)]
    by_cases e : p = pg + i
    · rw [if_pos ⟨rfl, e⟩, if_neg (by omega)]
    · rw [if_neg (fun h => e h.2), hL.idx p p0 p1]
      by_cases e2 : pg + i ≤ p ∧ p < pg + ps
      · rw [if_pos e2, if_pos (by omega)]
      · rw [if_neg e2, if_neg (by omega)]
  · rw [upd_at hm (by omega) (by omega) (by omega) (by omega) p0 p1 (by omega) (by omega), if_neg (by omega), hL.sts p p0 p1]
    by_cases e2 : p = pg
    · rw [if_pos (by omega), if_pos (by omega)]
    · rw [if_neg (by omega), if_neg (by omega)]
  · rw [upd_at hm (by omega) (by omega) (by omega) (by omega) (by omega) (by omega) (by omega) (by omega), if_neg (by omega)]; exact hL.bas
  · rw [upd_at hm (by omega) (by omega) (by omega) (by omega) (by omega) (by omega) (by omega) (by omega), if_neg (by omega)]; exact hL.alc
  · rw [upd_at hm (by omega) (by omega) (by omega) (by omega) (by omega) (by omega) (by omega) (by omega), if_neg (by omega)]; exact hL.mrk
theorem Gond.sts_at (hL : Gond P T pg cl ps al st i g) (hm : Lay.may P T = true) (h0 : 0 ≤ pg) (h1 : 1 ≤ ps) (h2 : pg + ps ≤ P) (hi : i = ps) : Gond P T pg cl ps al st (i + 1) (upd g (recAt P T 9 pg) 0) := by
  refine ⟨fun p p0 p1 => ?_, fun p p0 p1 => ?_, ?_, ?_, ?_⟩
  · rw [upd_at hm (by omega) (by omega) (by omega) (by omega) p0 p1 (by omega) (by omega), if_neg (by omega), hL.idx p p0 p1, if_neg (by omega), if_neg (by omega)]
  · rw [upd_at hm (by omega) (by omega) (by omega) (by omega) p0 p1 (by omega) (by omega)]
    by_cases e : p = pg
    · rw [if_pos ⟨rfl, e⟩, if_neg (by omega)]
    · rw [if_neg (fun h => e h.2), hL.sts p p0 p1, if_neg (by omega), if_neg (by omega)]
  · rw [upd_at hm (by omega) (by omega) (by omega) (by omega) (by omega) (by omega) (by omega) (by omega), if_neg (by omega)]; exact hL.bas
  · rw [upd_at hm (by omega) (by omega) (by omega) (by omega) (by omega) (by omega) (by omega) (by omega), if_neg (by omega)]; exact hL.alc
  · rw [upd_at hm (by omega) (by omega) (by omega) (by omega) (by omega) (by omega) (by omega) (by omega), if_neg (by omega)]; exact hL.mrk
theorem goneAt_step (h : GoneAt w mb P T pg ps i) (hY : YW w ab sb sm rb P T g) (hL : Gond P T pg cl ps al st i g) (hm : Lay.may P T = true) (h0 : 0 ≤ pg) (h1 : 1 ≤ ps) (h2 : pg + ps ≤ P) (hi : 0 ≤ i) (hlt : i < ps + 1) :
    ∃ x old v g', Gond P T pg cl ps al st (i + 1) g' ∧ Calls Tryz.prog 46 #[ptr mb, ptr ab] w fun e w' => e = .returned (.agg #[.int .i64 2, .int .i64 x, .int .u64 old, .int .u64 v]) ∧ (GoneAt w' mb P T pg ps (i + 1) ∧ YW w' ab sb sm rb P T g') ∧ Only (fun j => SB sb sm j ∨ j = mb) w w' := by
  obtain ⟨e, h⟩ | ⟨e, h⟩ | ⟨e, h⟩ := h
  · by_cases hn : i + 1 < ps
    · obtain ⟨old, ho⟩ := goneStep_lt h hY hm h0 h1 h2 hi hn
      exact ⟨_, old, _, _, hL.idx_at hm h0 h1 h2 hi e, ho.mono (fun _ _ q => ⟨q.1, ⟨.inl ⟨hn, q.2.1.1⟩, q.2.1.2⟩, q.2.2⟩)⟩
    · obtain ⟨old, ho⟩ := goneStep_ge h hY hm h0 h1 h2 hi e (by omega)
      exact ⟨_, old, _, _, hL.idx_at hm h0 h1 h2 hi e, ho.mono (fun _ _ q => ⟨q.1, ⟨.inr (.inl ⟨by omega, q.2.1.1⟩), q.2.1.2⟩, q.2.2⟩)⟩
  · obtain ⟨old, ho⟩ := goneStep_state h hY hm h0 h1 h2
    exact ⟨_, old, _, _, hL.sts_at hm h0 h1 h2 (by omega), ho.mono (fun _ _ q => ⟨q.1, ⟨.inr (.inr ⟨by omega, q.2.1.1⟩), q.2.1.2⟩, q.2.2⟩)⟩
  · omega
end
end Go.Proofs.YtbepbcjklgfmjaaGreatDoor

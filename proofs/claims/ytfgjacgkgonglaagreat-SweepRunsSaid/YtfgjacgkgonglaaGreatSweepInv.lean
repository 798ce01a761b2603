/- SweepRuns: what holds at each round. By an AI agent. -/
import Derived.Test.YtfgjacgkgonglaaGreatSweepLane
import Derived.Test.YtfgjacgkgonglaaGreatEqs
namespace Go.Proofs.YtfgjacgkgonglaaGreat
open Go.RowKit
def ptrV (o : Option Nat) : Value := .pointer (o.map (fun b => (⟨b, 0, none⟩ : Addr)))
theorem refP_none (W : World) (o : Option Addr) : Sem.run Tryz.prog (binOp .eql 33 (.pointer o) (.pointer none)) W = .ok (.bool o.isNone) W := by cases o <;> kernel_rfl
abbrev SwL := Lane (Int × Int × List Int)
abbrev swLA (w : World) (m : Nat) (k : Int × Int × List Int) : Prop := SwAt 4 1 k.1 k.2.1 w m k.2.2
abbrev swTy (t : TypeId) : Prop := t = 126
theorem swO : LOps swLA swTy := swOps 4 1
/-- The arenas, the machines, the two arrays. -/
structure SH (w : World) (ab sb sm rb rg bb tb tm ub fb ob qb : Nat) (wr : World) (s s' : StoreS) (L : List (Option SwL)) (on : List (Option Nat)) : Prop where
  sc : SC swLA w ab sb sm rb rg bb tb tm ub fb 4 1 wr s s' L
  l2 : L.length = 2
  o2 : on.length = 2
  orow : Blk wr ob (on.map ptrV).toArray 32
  qrow : Blk wr qb (L.map (fun o => ptrV (o.map Lane.b))).toArray 34
  low : w.heap.size ≤ ob ∧ w.heap.size ≤ qb
/-- A lane: both sides are in step. -/
structure SR (on : List (Option Nat)) (t : Nat) (z : SwL) (p : Int) (l : List Int) : Prop where
  on : on[t]? = some (some z.a)
  p0 : 0 ≤ p
  p4 : p < 4
  k : z.k = (Lay.pageAt 4 1 12 p, Lay.pageAt 4 1 13 p, l)
  x : SwM z.x 4 1 p l
structure SI (w : World) (ab sb sm rb rg bb tb tm ub fb ob qb : Nat) (wr : World) (s s' : StoreS) (L : List (Option SwL)) (on : List (Option Nat)) : Prop where
  sh : SH w ab sb sm rb rg bb tb tm ub fb ob qb wr s s' L on
  ws : s.ws = s'.ws
  rel : ∀ (t : Nat) (z : SwL), L[t]? = some (some z) → ∃ p l, SR on t z p l ∧ l.length < 4
section
variable {w wr w' : World} {ab sb sm rb rg bb tb tm ub fb ob qb t : Nat} {s s' s2 : StoreS} {L : List (Option SwL)} {on : List (Option Nat)} {z : SwL}
theorem sw_inR (h : s.ws.length = (Lay.words 4 1).toNat) {p : Int} (p0 : 0 ≤ p) (p4 : p < 4) : s.inR (Lay.pageAt 4 1 12 p) ∧ s.inR (Lay.pageAt 4 1 13 p) := by
  unfold StoreS.inR
  rw [h]
  rcases (by omega : p = 0 ∨ p = 1 ∨ p = 2 ∨ p = 3) with rfl | rfl | rfl | rfl <;> decide
theorem may41 : Lay.may 4 1 = true := by decide
theorem SH.add (h : SH w ab sb sm rb rg bb tb tm ub fb ob qb wr s s' L on) (ho : Adds wr w') : SH w ab sb sm rb rg bb tb tm ub fb ob qb w' s s' L on :=
  ⟨h.sc.add swO ho, h.l2, h.o2, h.orow.only ho id, h.qrow.only ho id, h.low⟩
theorem SH.put (h : SH w ab sb sm rb rg bb tb tm ub fb ob qb wr s s' L on) {i v : Int} (hB : Both w' ab sb sm rb rg bb tb tm ub fb 4 1 (s.acc 2 i v) (s'.acc 2 i v)) (ho : Only (fun j => SB sb sm j ∨ SB tb tm j) wr w') : SH w ab sb sm rb rg bb tb tm ub fb ob qb w' (s.acc 2 i v) (s'.acc 2 i v) L on := by
  obtain ⟨h1, h2⟩ := h.sc.put swO may41 hB ho
  exact ⟨h1, h.l2, h.o2, h2 _ _ _ h.orow (by unfold RowOk; decide), h2 _ _ _ h.qrow (by unfold RowOk; decide), h.low⟩
theorem map_b {L : List (Option SwL)} {t : Nat} {z z' : SwL} (hz : L[t]? = some (some z)) (e : z'.b = z.b) : (L.set t (some z')).map (fun o => ptrV (o.map Lane.b)) = L.map (fun o => ptrV (o.map Lane.b)) := by
  apply List.ext_getElem?
  intro j
  rw [List.getElem?_map, List.getElem?_map, List.getElem?_set]
  by_cases h : t = j
  · subst h
    rw [if_pos rfl, hz]
    split
    · simp [e]
    · rename_i h2
      rw [List.getElem?_eq_none (by omega)] at hz; cases hz
  · rw [if_neg h]
theorem SH.stepA (h : SH w ab sb sm rb rg bb tb tm ub fb ob qb wr s s' L on) (hz : L[t]? = some (some z)) {k' : Int × Int × List Int} (ho : Only (fun j => SB sb sm j ∨ j = z.a) wr w') (ha : swLA w' z.a k') (hy : Yard w' ab sb sm rb 4 1 s2) (hl : s2.ws.length = s.ws.length) : SH w ab sb sm rb rg bb tb tm ub fb ob qb w' s2 s' (L.set t (some { z with k := k' })) on := by
  obtain ⟨h1, h2⟩ := h.sc.stepA swO may41 hz ho ha hy hl
  refine ⟨h1, by simpa using h.l2, h.o2, h2 _ _ _ h.orow (by unfold RowOk; decide), ?_, h.low⟩
  have := h2 _ _ _ h.qrow (by unfold RowOk; decide)
  rw [map_b hz (by rfl)]
  exact this
theorem SH.stepB (h : SH w ab sb sm rb rg bb tb tm ub fb ob qb wr s s' L on) (hz : L[t]? = some (some z)) {x1 : MS} {s1 : StoreS} (hst : Steps wr w' z.b bb tb tm ub fb 4 1 s1 x1 z.lg) (hl : s1.ws.length = s'.ws.length) : ∃ lg1 mk1, SH w ab sb sm rb rg bb tb tm ub fb ob qb w' s s1 (L.set t (some { z with x := x1, lg := lg1, mr := mk1, mem := .pointer (some ⟨bb, 0, none⟩) })) on := by
  obtain ⟨lg1, mk1, h1, h2⟩ := h.sc.stepB swO may41 hz hst hl
  refine ⟨lg1, mk1, h1, by simpa using h.l2, h.o2, h2 _ _ _ h.orow (by unfold RowOk; decide), ?_, h.low⟩
  have := h2 _ _ _ h.qrow (by unfold RowOk; decide)
  rw [map_b hz (by rfl)]
  exact this
/-- A lane is given up. -/
theorem SH.drop (h : SH w ab sb sm rb rg bb tb tm ub fb ob qb wr s s' L on) : SH w ab sb sm rb rg bb tb tm ub fb ob qb (wr.setCell ⟨qb, t, none⟩ (.pointer none)) s s' (L.set t none) on := by
  have hO := (Only.refl (fun j => j = qb) wr).setCell (p := ⟨qb, t, none⟩) (.inl rfl) (.pointer none)
  refine ⟨(h.sc.row swO h.qrow (by unfold RowOk; decide) (by decide) (by simp [h.l2]) h.low.2 hO).drop t, by simpa using h.l2, h.o2, h.orow.setCell_other (fun e => by have h2 := h.orow; rw [e] at h2; have := (h2.uniq h.qrow).2; revert this; decide) t _, ?_, h.low⟩
  have := h.qrow.setCell t (.pointer none)
  simpa [List.map_set, ptrV] using this
/-- A lane begins. -/
theorem SH.begin (h : SH w ab sb sm rb rg bb tb tm ub fb ob qb wr s s' L on) (ho : Adds wr w') (ha : swLA w' z.a z.k) (hb : IsM w' z.b z.x z.lg z.mr z.mem) (hl : z.lg = .slice none 0 0) (na : wr.heap.size ≤ z.a) (nb : wr.heap.size ≤ z.b) :
    SH w ab sb sm rb rg bb tb tm ub fb ob qb ((w'.setCell ⟨ob, t, none⟩ (.pointer (some ⟨z.a, 0, none⟩))).setCell ⟨qb, t, none⟩ (.pointer (some ⟨z.b, 0, none⟩))) s s' (L.set t (some z)) (on.set t (some z.a)) := by
  have h1 := h.sc.begin swO (t := t) ho ha hb hl na nb
  have ro := h.orow.only ho id
  have rq := h.qrow.only ho id
  have hne : ob ≠ qb := fun e => by rw [e] at ro; have := (ro.uniq rq).2; revert this; decide
  have h2 := h1.row swO ro (by unfold RowOk; decide) (by decide) (by simp [h.o2]) h.low.1 ((Only.refl (fun j => j = ob) w').setCell (p := ⟨ob, t, none⟩) (.inl rfl) (.pointer (some ⟨z.a, 0, none⟩)))
  have rq2 := rq.setCell_other hne.symm t (.pointer (some ⟨z.a, 0, none⟩))
  have h3 := h2.row swO rq2 (by unfold RowOk; decide) (by decide) (by simp [h.l2]) h.low.2 ((Only.refl (fun j => j = qb) _).setCell (p := ⟨qb, t, none⟩) (.inl rfl) (.pointer (some ⟨z.b, 0, none⟩)))
  refine ⟨h3, by simpa using h.l2, by simpa using h.o2, ?_, ?_, h.low⟩
  · have := (ro.setCell t (.pointer (some ⟨z.a, 0, none⟩))).setCell_other hne t (.pointer (some ⟨z.b, 0, none⟩))
    simpa [List.map_set, ptrV] using this
  · have := rq2.setCell t (.pointer (some ⟨z.b, 0, none⟩))
    simpa [List.map_set, ptrV] using this
theorem SH.cells (h : SH w ab sb sm rb rg bb tb tm ub fb ob qb wr s s' L on) {o : Option Nat} (ho : on[t]? = some o) {q : Option SwL} (hq : L[t]? = some q) : wr.cell? ⟨ob, t, none⟩ = some (ptrV o) ∧ wr.cell? ⟨qb, t, none⟩ = some (ptrV (q.map Lane.b)) ∧ wr.frozen? ⟨ob, t, none⟩ = false ∧ wr.frozen? ⟨qb, t, none⟩ = false := by
  refine ⟨?_, ?_, h.orow.frozen t, h.qrow.frozen t⟩
  · rw [h.orow.cell]; simp [ho]
  · rw [h.qrow.cell]; simp [hq]
theorem SH.mcells (h : SH w ab sb sm rb rg bb tb tm ub fb ob qb wr s s' L on) (hz : L[t]? = some (some z)) : wr.cell? ⟨z.b, 15, none⟩ = some (.bool z.x.done) ∧ wr.cell? ⟨z.b, 27, none⟩ = some (.int .u64 z.x.freed) := ⟨(h.sc.lanes.B t z hz).blk.cell 15, (h.sc.lanes.B t z hz).blk.cell 27⟩
theorem act_same (c : Ac) (h : s.ws = s'.ws) : (c.act s).ws = (c.act s').ws ∧ didV (c.act s) = didV (c.act s') := by
  have e : ∀ i, s.word i = s'.word i := fun i => by unfold StoreS.word; rw [h]
  cases c with
  | load a => simp [Ac.act, StoreS.acc, didV, e, h]
  | put a v => simp [Ac.act, StoreS.acc, didV, e, h]
  | cas a o v =>
    simp only [Ac.act, e a]
    split <;> simp [StoreS.acc, didV, e, h]
  | add a v => simp [Ac.act, StoreS.acc, didV, e, h]
theorem SH.at (h : SH w ab sb sm rb rg bb tb tm ub fb ob qb wr s s' (L.set t (some z)) on) (ht : t < 2) : (L.set t (some z))[t]? = some (some z) := by
  have := h.l2
  rw [List.length_set] at this
  exact List.getElem?_set_self (by omega)
theorem SI.began (h : SI w ab sb sm rb rg bb tb tm ub fb ob qb wr s s' L on) {wn : World} {p : Int} {l : List Int} (hs : SH w ab sb sm rb rg bb tb tm ub fb ob qb wn s s' (L.set t (some z)) (on.set t (some z.a))) (hr : SR (on.set t (some z.a)) t z p l) (hl : l.length < 4) : SI w ab sb sm rb rg bb tb tm ub fb ob qb wn s s' (L.set t (some z)) (on.set t (some z.a)) :=
  ⟨hs, h.ws, fun j y e => by
    rcases set_cases e with ⟨rfl, e2⟩ | ⟨hj, e2⟩
    · injection e2 with e2; subst e2; exact ⟨p, l, hr, hl⟩
    · obtain ⟨p2, l2, hr2, hl2⟩ := h.rel j y e2
      exact ⟨p2, l2, ⟨by rw [List.getElem?_set_ne (Ne.symm hj)]; exact hr2.on, hr2.p0, hr2.p4, hr2.k, hr2.x⟩, hl2⟩⟩
/-- Behind a step of both sides. -/
theorem SI.stepped (h : SI w ab sb sm rb rg bb tb tm ub fb ob qb wr s s' L on) {wn : World} {s1 s1' : StoreS} {p : Int} {l : List Int} (hs : SH w ab sb sm rb rg bb tb tm ub fb ob qb wn s1 s1' (L.set t (some z)) on) (hw : s1.ws = s1'.ws) (hr : SR on t z p l) (hl : l.length < 4) : SI w ab sb sm rb rg bb tb tm ub fb ob qb wn s1 s1' (L.set t (some z)) on :=
  ⟨hs, hw, fun j y e => by
    rcases set_cases e with ⟨rfl, e2⟩ | ⟨hj, e2⟩
    · injection e2 with e2; subst e2; exact ⟨p, l, hr, hl⟩
    · exact h.rel j y e2⟩
theorem SI.over (h : SI w ab sb sm rb rg bb tb tm ub fb ob qb wr s s' L on) {wn : World} {s1 s1' : StoreS} {z2 : SwL} (hs : SH w ab sb sm rb rg bb tb tm ub fb ob qb wn s1 s1' (L.set t (some z2)) on) (hw : s1.ws = s1'.ws) : SI w ab sb sm rb rg bb tb tm ub fb ob qb (wn.setCell ⟨qb, t, none⟩ (.pointer none)) s1 s1' (L.set t none) on := by
  have h2 := hs.drop (t := t)
  rw [List.set_set] at h2
  exact ⟨h2, hw, fun j y e => by
    rcases set_cases e with ⟨_, e2⟩ | ⟨hj, e2⟩
    · cases e2
    · exact h.rel j y e2⟩
/-- Is the program's sweep done; what it freed. -/
theorem swAt_done {P T al mk : Int} {mb : Nat} {l : List Int} (h : SwAt P T al mk w mb l) : Calls Tryz.prog 16 #[.pointer (some ⟨mb, 0, none⟩)] w fun e w' => e = .returned (.bool (decide (l.length = 4))) ∧ w = w' := by
  obtain ⟨nx, hb, hc⟩ := h.cells
  by_cases hl : l.length = 4
  · rw [if_pos hl] at hc
    subst hc
    rw [decide_eq_true hl]
    exact sweepSweepDone_yes (hb.cell 2)
  · rw [if_neg hl] at hc
    obtain ⟨fn, f, c, rfl⟩ := hc
    rw [decide_eq_false hl]
    exact sweepSweepDone_no (hb.cell 2)
theorem swAt_freed {P T al mk : Int} {mb : Nat} {l : List Int} (h : SwAt P T al mk w mb l) : Calls Tryz.prog 17 #[.pointer (some ⟨mb, 0, none⟩)] w fun e w' => e = .returned (.int .u64 (swFr l)) ∧ w = w' := by
  obtain ⟨nx, hb, hc⟩ := h.cells
  exact freed_any hb
end
end Go.Proofs.YtfgjacgkgonglaaGreat

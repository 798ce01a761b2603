/- WorldRuns: what holds at each round. By an AI agent. -/
import Derived.Test.YtffhoaimcjpjhaaGreatWorldLane
import Derived.Test.YtffhoaimcjpjhaaGreatEqs
namespace Go.Proofs.YtffhoaimcjpjhaaGreat
open Go.RowKit
abbrev WdL := Lane WdS
/-- Which of the four it is. -/
def WdS.sort : WdS → Nat
  | .enter _ => 0
  | .entered _ => 0
  | .exit => 1
  | .exited => 1
  | .stop _ => 2
  | .stopped _ => 2
  | .go => 3
  | .gone => 3
theorem WdS.nx_sort (s : StoreS) (k : WdS) : (k.nx s).sort = k.sort := by
  cases k with
  | enter k => simp only [WdS.nx]; split <;> rfl
  | stop k => simp only [WdS.nx]; split <;> rfl
  | _ => rfl
/-- The cells of a machine of both sides. -/
def machC (i a b : Nat) : Array Value := #[ptrV (if i = 0 then some a else none), ptrV (if i = 1 then some a else none), ptrV (if i = 2 then some a else none), ptrV (if i = 3 then some a else none), ptrV (some b)]
structure WH (w : World) (ab sb sm rb rg bb tb tm ub fb onb stb n : Nat) (P : Int) (wr : World) (s s' : StoreS) (L : List (Option WdL)) (Ms : List (Option Nat)) : Prop where
  sc : SC (WdA P n) w ab sb sm rb rg bb tb tm ub fb P n wr s s' L
  ll : L.length = n
  lm : Ms.length = n
  row : Blk wr onb (Ms.map ptrV).toArray 35
  mach : ∀ (t : Nat) (z : WdL), L[t]? = some (some z) → ∃ m, Ms[t]? = some (some m) ∧ Blk wr m (machC z.k.sort z.a z.b) 54
  empty : ∀ (t : Nat), L[t]? = some none → Ms[t]? = some none
  set : Blk wr stb #[.int .i64 P, .int .i64 n, .slice none 0 0] 25
  low : w.heap.size ≤ onb
section
variable {w wr w' : World} {ab sb sm rb rg bb tb tm ub fb onb stb n t : Nat} {P : Int} {s s' s2 : StoreS} {L : List (Option WdL)} {Ms : List (Option Nat)} {z : WdL} {k : WdS}
theorem WH.add (h : WH w ab sb sm rb rg bb tb tm ub fb onb stb n P wr s s' L Ms) (ho : Adds wr w') : WH w ab sb sm rb rg bb tb tm ub fb onb stb n P w' s s' L Ms :=
  ⟨h.sc.add (wdO P n) ho, h.ll, h.lm, h.row.only ho id, fun t z e => by obtain ⟨m, h1, h2⟩ := h.mach t z e; exact ⟨m, h1, h2.only ho id⟩, h.empty, h.set.only ho id, h.low⟩
/-- Blocks of a type that no step turns are as they were. -/
theorem WH.kept (h : WH w ab sb sm rb rg bb tb tm ub fb onb stb n P wr s s' L Ms) {s1 s1' : StoreS} {L1 : List (Option WdL)} (hs : SC (WdA P n) w ab sb sm rb rg bb tb tm ub fb P n w' s1 s1' L1) (h2 : ∀ r c u, Blk wr r c u → RowOk wdTy u → Blk w' r c u) (hl : L1.length = n)
    (hm : ∀ (t : Nat) (z : WdL), L1[t]? = some (some z) → ∃ y : WdL, L[t]? = some (some y) ∧ y.k.sort = z.k.sort ∧ y.a = z.a ∧ y.b = z.b) (hn : ∀ t : Nat, L1[t]? = some Option.none → L[t]? = some Option.none) : WH w ab sb sm rb rg bb tb tm ub fb onb stb n P w' s1 s1' L1 Ms := by
  refine ⟨hs, hl, h.lm, h2 _ _ _ h.row (by unfold RowOk; decide), fun t z e => ?_, fun t e => h.empty t (hn t e), h2 _ _ _ h.set (by unfold RowOk; decide), h.low⟩
  obtain ⟨y, e1, e2, e3, e4⟩ := hm t z e
  obtain ⟨m, a1, a2⟩ := h.mach t y e1
  rw [e2, e3, e4] at a2
  exact ⟨m, a1, h2 _ _ _ a2 (by unfold RowOk; decide)⟩
theorem set_same {z z' : WdL} (hz : L[t]? = some (some z)) (e1 : z.k.sort = z'.k.sort) (e2 : z.a = z'.a) (e3 : z.b = z'.b) :
    (∀ (j : Nat) (y : WdL), (L.set t (some z'))[j]? = some (some y) → ∃ q : WdL, L[j]? = some (some q) ∧ q.k.sort = y.k.sort ∧ q.a = y.a ∧ q.b = y.b) ∧ (∀ j : Nat, (L.set t (some z'))[j]? = some Option.none → L[j]? = some Option.none) := by
  refine ⟨fun j y e => ?_, fun j e => ?_⟩
  · rcases set_cases e with ⟨rfl, e4⟩ | ⟨hj, e4⟩
    · injection e4 with e4; subst e4; exact ⟨z, hz, e1, e2, e3⟩
    · exact ⟨y, e4, rfl, rfl, rfl⟩
  · rw [List.getElem?_set] at e
    by_cases h : t = j
    · rw [if_pos h] at e; split at e <;> simp at e
    · rw [if_neg h] at e; exact e
theorem WH.put (h : WH w ab sb sm rb rg bb tb tm ub fb onb stb n P wr s s' L Ms) (hm : Lay.may P n = true) {i v : Int} (hB : Both w' ab sb sm rb rg bb tb tm ub fb P n (s.acc 2 i v) (s'.acc 2 i v)) (ho : Only (fun j => SB sb sm j ∨ SB tb tm j) wr w') : WH w ab sb sm rb rg bb tb tm ub fb onb stb n P w' (s.acc 2 i v) (s'.acc 2 i v) L Ms := by
  obtain ⟨h1, h2⟩ := h.sc.put (wdO P n) hm hB ho
  exact h.kept h1 h2 h.ll (fun t z e => ⟨z, e, rfl, rfl, rfl⟩) (fun t e => e)
theorem WH.stepA (h : WH w ab sb sm rb rg bb tb tm ub fb onb stb n P wr s s' L Ms) (hm : Lay.may P n = true) (hz : L[t]? = some (some z)) {k' : WdS} (hk : k'.sort = z.k.sort) (ho : Only (fun j => SB sb sm j ∨ j = z.a) wr w') (ha : WdA P n w' z.a k') (hy : Yard w' ab sb sm rb P n s2) (hl : s2.ws.length = s.ws.length) :
    WH w ab sb sm rb rg bb tb tm ub fb onb stb n P w' s2 s' (L.set t (some { z with k := k' })) Ms := by
  obtain ⟨h1, h2⟩ := h.sc.stepA (wdO P n) hm hz ho ha hy hl
  obtain ⟨a, b⟩ := set_same (z' := { z with k := k' }) hz hk.symm rfl rfl
  exact h.kept h1 h2 (by simpa using h.ll) a b
theorem WH.stepB (h : WH w ab sb sm rb rg bb tb tm ub fb onb stb n P wr s s' L Ms) (hm : Lay.may P n = true) (hz : L[t]? = some (some z)) {x1 : MS} {s1 : StoreS} (hst : Steps wr w' z.b bb tb tm ub fb P n s1 x1 z.lg) (hl : s1.ws.length = s'.ws.length) :
    ∃ lg1 mk1, WH w ab sb sm rb rg bb tb tm ub fb onb stb n P w' s s1 (L.set t (some { z with x := x1, lg := lg1, mr := mk1, mem := .pointer (some ⟨bb, 0, none⟩) })) Ms := by
  obtain ⟨lg1, mk1, h1, h2⟩ := h.sc.stepB (wdO P n) hm hz hst hl
  obtain ⟨a, b⟩ := set_same (z' := { z with x := x1, lg := lg1, mr := mk1, mem := .pointer (some ⟨bb, 0, none⟩) }) hz rfl rfl rfl
  exact ⟨lg1, mk1, h.kept h1 h2 (by simpa using h.ll) a b⟩
theorem WdA.rowT {T : Int} {m r : Nat} {cr : Array Value} (h : WdA P T wr m k) (hr : Blk wr r cr 35) (ho : Only (· = r) wr w') : WdA P T w' m k := by
  cases k with
  | enter k => obtain ⟨j, h1, h2⟩ := h; exact ⟨j, h1.rowT hr (by decide) ho, h2.rowT hr (by decide) (by decide) ho⟩
  | entered g => exact Desk.rowT (show Desk wr m (enC P T g) 159 .done from h) hr (by decide) (by decide) ho
  | exit => obtain ⟨j, h1, h2⟩ := h; exact ⟨j, h1.rowT hr (by decide) ho, h2.rowT hr (by decide) (by decide) ho⟩
  | exited => exact Desk.rowT (show Desk wr m (c3 P T) 161 .done from h) hr (by decide) (by decide) ho
  | stop k => obtain ⟨j, h1, h2⟩ := h; exact ⟨j, h1.rowT hr (by decide) ho, h2.rowT hr (by decide) (by decide) ho⟩
  | stopped g => exact Desk.rowT (show Desk wr m (stC P T g) 164 .done from h) hr (by decide) (by decide) ho
  | go => exact Desk.rowT (show IsGo wr m P T from h) hr (by decide) (by decide) ho
  | gone => exact Desk.rowT (show Desk wr m (c3 P T) 168 .done from h) hr (by decide) (by decide) ho
theorem WH.nset (h : WH w ab sb sm rb rg bb tb tm ub fb onb stb n P wr s s' L Ms) : stb ≠ onb := fun e => by
  have h1 := h.set; rw [e] at h1; have := (h1.uniq h.row).2; revert this; decide
/-- A thread's machine is given up. -/
theorem WH.drop (h : WH w ab sb sm rb rg bb tb tm ub fb onb stb n P wr s s' L Ms) : WH w ab sb sm rb rg bb tb tm ub fb onb stb n P (wr.setCell ⟨onb, t, Option.none⟩ (.pointer Option.none)) s s' (L.set t Option.none) (Ms.set t Option.none) := by
  have h1 := h.sc.rowK (ty := wdTy) h.row (by unfold RowOk; decide) (by decide) (fun j y e => (h.sc.lanes.A j y e).rowT h.row (only_at wr onb t (.pointer Option.none))) h.low (only_at wr onb t _)
  refine ⟨h1.drop t, by simpa using h.ll, by simpa using h.lm, ?_, fun j y e => ?_, fun j e => ?_, h.set.setCell_other h.nset t _, h.low⟩
  · have := h.row.setCell t (.pointer Option.none)
    simpa [List.map_set, ptrV] using this
  · rcases set_cases e with ⟨_, e2⟩ | ⟨hj, e2⟩
    · cases e2
    · obtain ⟨m, a1, a2⟩ := h.mach j y e2
      exact ⟨m, by rw [List.getElem?_set_ne (Ne.symm hj)]; exact a1, a2.rowT h.row (by decide) (only_at wr onb t _)⟩
  · rw [List.getElem?_set] at e ⊢
    by_cases hj : t = j
    · subst hj
      rw [if_pos rfl] at e ⊢
      split at e
      · rename_i h5; rw [if_pos (by rw [h.lm, ← h.ll]; exact h5)]
      · cases e
    · rw [if_neg hj] at e ⊢; exact h.empty j e
/-- A thread's machine begins; L stood in an elder world, too. -/
theorem WH.begin (h : WH w ab sb sm rb rg bb tb tm ub fb onb stb n P wr s s' L Ms) {w0 : World} (h0 : Lanes (WdA P n) w0 sm tm L) (hw : w.heap.size ≤ w0.heap.size) {m : Nat} (hm : Blk wr m (machC z.k.sort z.a z.b) 54) (ha : WdA P n wr z.a z.k) (hb : IsM wr z.b z.x z.lg z.mr z.mem) (hl : z.lg = .slice Option.none 0 0) (na : w0.heap.size ≤ z.a) (nb : w0.heap.size ≤ z.b) (ht : t < n) :
    WH w ab sb sm rb rg bb tb tm ub fb onb stb n P (wr.setCell ⟨onb, t, Option.none⟩ (.pointer (some ⟨m, 0, Option.none⟩))) s s' (L.set t (some z)) (Ms.set t (some m)) := by
  have h1 := h.sc.begin2 (t := t) (wdO P n) h0 hw ha hb hl na nb
  have h2 := h1.rowK (ty := wdTy) h.row (by unfold RowOk; decide) (by decide) (fun j y e => (h1.lanes.A j y e).rowT h.row (only_at wr onb t (.pointer (some ⟨m, 0, Option.none⟩)))) h.low (only_at wr onb t _)
  refine ⟨h2, by simpa using h.ll, by simpa using h.lm, ?_, fun j y e => ?_, fun j e => ?_, h.set.setCell_other h.nset t _, h.low⟩
  · have := h.row.setCell t (.pointer (some ⟨m, 0, Option.none⟩))
    simpa [List.map_set, ptrV] using this
  · rcases set_cases e with ⟨rfl, e2⟩ | ⟨hj, e2⟩
    · injection e2 with e2; subst e2
      exact ⟨m, List.getElem?_set_self (by rw [h.lm]; exact ht), hm.rowT h.row (by decide) (only_at wr onb j _)⟩
    · obtain ⟨q, a1, a2⟩ := h.mach j y e2
      exact ⟨q, by rw [List.getElem?_set_ne (Ne.symm hj)]; exact a1, a2.rowT h.row (by decide) (only_at wr onb t _)⟩
  · rw [List.getElem?_set] at e ⊢
    by_cases hj : t = j
    · subst hj
      rw [if_pos rfl] at e
      split at e <;> simp at e
    · rw [if_neg hj] at e ⊢; exact h.empty j e
end
end Go.Proofs.YtffhoaimcjpjhaaGreat

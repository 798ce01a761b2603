/- RecordRuns: what holds at each round. By an AI agent. -/
import Derived.Test.YtbepbcjklgfmjaaGreatDoorZRecM
import Derived.Test.YtbepbcjklgfmjaaGreatDoorZ2
namespace Go.Proofs.YtbepbcjklgfmjaaGreatDoor
open Go.RowKit
set_option linter.unusedSimpArgs false
set_option linter.unusedVariables false
abbrev RcL := Lane RcS
/-- The cells of a machine of both sides. -/
def rcMach (l : Bool) (a b : Nat) : Array Value := #[ptrV (if l = true then some a else none), ptrV (if l = true then none else some a), ptrV (some b)]
structure RH (w : World) (ab sb sm rb rg bb tb tm ub fb onb stb : Nat) (P : Int) (wr : World) (s s' : StoreS) (L : List (Option RcL)) (Ms : List (Option Nat)) : Prop where
  sc : SC (RcA P 2) w ab sb sm rb rg bb tb tm ub fb P 2 wr s s' L
  ll : L.length = 2
  lm : Ms.length = 2
  row : Blk wr onb (Ms.map ptrV).toArray 52
  mach : ∀ (t : Nat) (z : RcL), L[t]? = some (some z) → ∃ m, Ms[t]? = some (some m) ∧ Blk wr m (rcMach z.k.isLay z.a z.b) 69
  empty : ∀ (t : Nat), L[t]? = some none → Ms[t]? = some none
  set : Blk wr stb #[.int .i64 P, .int .i64 2, .slice none 0 0] 25
  low : w.heap.size ≤ onb
section
variable {w wr w' : World} {ab sb sm rb rg bb tb tm ub fb onb stb t : Nat} {P : Int} {s s' s2 : StoreS} {L : List (Option RcL)} {Ms : List (Option Nat)} {z : RcL} {k : RcS}
theorem RH.add (h : RH w ab sb sm rb rg bb tb tm ub fb onb stb P wr s s' L Ms) (ho : Adds wr w') : RH w ab sb sm rb rg bb tb tm ub fb onb stb P w' s s' L Ms :=
  ⟨h.sc.add (rcO P 2) ho, h.ll, h.lm, h.row.only ho id, fun t z e => by obtain ⟨m, h1, h2⟩ := h.mach t z e; exact ⟨m, h1, h2.only ho id⟩, h.empty, h.set.only ho id, h.low⟩
/-- Blocks of a type that no step turns are as they were. -/
theorem RH.kept (h : RH w ab sb sm rb rg bb tb tm ub fb onb stb P wr s s' L Ms) {s1 s1' : StoreS} {L1 : List (Option RcL)} (hs : SC (RcA P 2) w ab sb sm rb rg bb tb tm ub fb P 2 w' s1 s1' L1) (h2 : ∀ r c u, Blk wr r c u → RowOk rcTy u → Blk w' r c u) (hl : L1.length = 2)
    (hm : ∀ (t : Nat) (z : RcL), L1[t]? = some (some z) → ∃ y : RcL, L[t]? = some (some y) ∧ y.k.isLay = z.k.isLay ∧ y.a = z.a ∧ y.b = z.b) (hn : ∀ t : Nat, L1[t]? = some Option.none → L[t]? = some Option.none) : RH w ab sb sm rb rg bb tb tm ub fb onb stb P w' s1 s1' L1 Ms := by
  refine ⟨hs, hl, h.lm, h2 _ _ _ h.row (by unfold RowOk; decide), fun t z e => ?_, fun t e => h.empty t (hn t e), h2 _ _ _ h.set (by unfold RowOk; decide), h.low⟩
  obtain ⟨y, e1, e2, e3, e4⟩ := hm t z e
  obtain ⟨m, a1, a2⟩ := h.mach t y e1
  rw [e2, e3, e4] at a2
  exact ⟨m, a1, h2 _ _ _ a2 (by unfold RowOk; decide)⟩
theorem set_same {z z' : RcL} (hz : L[t]? = some (some z)) (e1 : z.k.isLay = z'.k.isLay) (e2 : z.a = z'.a) (e3 : z.b = z'.b) :
    (∀ (j : Nat) (y : RcL), (L.set t (some z'))[j]? = some (some y) → ∃ q : RcL, L[j]? = some (some q) ∧ q.k.isLay = y.k.isLay ∧ q.a = y.a ∧ q.b = y.b) ∧ (∀ j : Nat, (L.set t (some z'))[j]? = some Option.none → L[j]? = some Option.none) := by
  refine ⟨fun j y e => ?_, fun j e => ?_⟩
  · rcases set_cases e with ⟨rfl, e4⟩ | ⟨hj, e4⟩
    · injection e4 with e4; subst e4; exact ⟨z, hz, e1, e2, e3⟩
    · exact ⟨y, e4, rfl, rfl, rfl⟩
  · rw [List.getElem?_set] at e
    by_cases h : t = j
    · rw [if_pos h] at e; split at e <;> simp at e
    · rw [if_neg h] at e; exact e
theorem RH.put (h : RH w ab sb sm rb rg bb tb tm ub fb onb stb P wr s s' L Ms) (hm : Lay.may P 2 = true) {i v : Int} (hB : Both w' ab sb sm rb rg bb tb tm ub fb P 2 (s.acc 2 i v) (s'.acc 2 i v)) (ho : Only (fun j => SB sb sm j ∨ SB tb tm j) wr w') : RH w ab sb sm rb rg bb tb tm ub fb onb stb P w' (s.acc 2 i v) (s'.acc 2 i v) L Ms := by
  obtain ⟨h1, h2⟩ := h.sc.put (rcO P 2) hm hB ho
  exact h.kept h1 h2 h.ll (fun t z e => ⟨z, e, rfl, rfl, rfl⟩) (fun t e => e)
theorem RH.stepA (h : RH w ab sb sm rb rg bb tb tm ub fb onb stb P wr s s' L Ms) (hm : Lay.may P 2 = true) (hz : L[t]? = some (some z)) {k' : RcS} (hk : k'.isLay = z.k.isLay) (ho : Only (fun j => SB sb sm j ∨ j = z.a) wr w') (ha : RcA P 2 w' z.a k') (hy : Yard w' ab sb sm rb P 2 s2) (hl : s2.ws.length = s.ws.length) :
    RH w ab sb sm rb rg bb tb tm ub fb onb stb P w' s2 s' (L.set t (some { z with k := k' })) Ms := by
  obtain ⟨h1, h2⟩ := h.sc.stepA (rcO P 2) hm hz ho ha hy hl
  obtain ⟨a, b⟩ := set_same (z' := { z with k := k' }) hz hk.symm rfl rfl
  exact h.kept h1 h2 (by simpa using h.ll) a b
theorem RH.stepB (h : RH w ab sb sm rb rg bb tb tm ub fb onb stb P wr s s' L Ms) (hm : Lay.may P 2 = true) (hz : L[t]? = some (some z)) {x1 : MS} {s1 : StoreS} (hst : Steps wr w' z.b bb tb tm ub fb P 2 s1 x1 z.lg) (hl : s1.ws.length = s'.ws.length) :
    ∃ lg1 mk1, RH w ab sb sm rb rg bb tb tm ub fb onb stb P w' s s1 (L.set t (some { z with x := x1, lg := lg1, mr := mk1, mem := .pointer (some ⟨bb, 0, none⟩) })) Ms := by
  obtain ⟨lg1, mk1, h1, h2⟩ := h.sc.stepB (rcO P 2) hm hz hst hl
  obtain ⟨a, b⟩ := set_same (z' := { z with x := x1, lg := lg1, mr := mk1, mem := .pointer (some ⟨bb, 0, none⟩) }) hz rfl rfl rfl
  exact ⟨lg1, mk1, h.kept h1 h2 (by simpa using h.ll) a b⟩
theorem RH.nset (h : RH w ab sb sm rb rg bb tb tm ub fb onb stb P wr s s' L Ms) : stb ≠ onb := fun e => by
  have h1 := h.set; rw [e] at h1; have := (h1.uniq h.row).2; revert this; decide
/-- A thread's machine is given up. -/
theorem RH.drop (h : RH w ab sb sm rb rg bb tb tm ub fb onb stb P wr s s' L Ms) : RH w ab sb sm rb rg bb tb tm ub fb onb stb P (wr.setCell ⟨onb, t, Option.none⟩ (.pointer Option.none)) s s' (L.set t Option.none) (Ms.set t Option.none) := by
  have h1 := h.sc.rowK (ty := rcTy) h.row (by unfold RowOk; decide) (by decide) (fun j y e => (h.sc.lanes.A j y e).rowT h.row (by decide) (only_at wr onb t (.pointer Option.none))) h.low (only_at wr onb t _)
  refine ⟨h1.drop t, by simpa using h.ll, by simpa using h.lm, ?_, fun j y e => ?_, fun j e => ?_, h.set.setCell_other h.nset t _, h.low⟩
  · have := h.row.setCell t (.pointer Option.none)
    simpa [List.map_set, ptrV] using this
  · rcases set_cases e with ⟨_, e2⟩ | ⟨hj, e2⟩
    · cases e2
    · obtain ⟨m, a1, a2⟩ := h.mach j y e2
      exact ⟨m, by rw [List.getElem?_set_ne (Ne.symm hj)]; exact a1, a2.rowT h.row (by decide) (only_at wr onb t _)⟩
  · rw [List.getElem?_set] at e ⊢
    by_cases hj : t = j
    · subst hj
      rw [if_pos rfl] at e ⊢
      split at e
      · rename_i h5; rw [if_pos (by rw [h.lm, ← h.ll]; exact h5)]
      · cases e
    · rw [if_neg hj] at e ⊢; exact h.empty j e
/-- A thread's machine begins; L stood in an elder world, too. -/
theorem RH.begin (h : RH w ab sb sm rb rg bb tb tm ub fb onb stb P wr s s' L Ms) {w0 : World} (h0 : Lanes (RcA P 2) w0 sm tm L) (hw : w.heap.size ≤ w0.heap.size) {m : Nat} (hm : Blk wr m (rcMach z.k.isLay z.a z.b) 69) (ha : RcA P 2 wr z.a z.k) (hb : IsM wr z.b z.x z.lg z.mr z.mem) (hl : z.lg = .slice Option.none 0 0) (na : w0.heap.size ≤ z.a) (nb : w0.heap.size ≤ z.b) (ht : t < 2) :
    RH w ab sb sm rb rg bb tb tm ub fb onb stb P (wr.setCell ⟨onb, t, Option.none⟩ (.pointer (some ⟨m, 0, Option.none⟩))) s s' (L.set t (some z)) (Ms.set t (some m)) := by
  have h1 := h.sc.begin2 (t := t) (rcO P 2) h0 hw ha hb hl na nb
  have h2 := h1.rowK (ty := rcTy) h.row (by unfold RowOk; decide) (by decide) (fun j y e => (h1.lanes.A j y e).rowT h.row (by decide) (only_at wr onb t (.pointer (some ⟨m, 0, Option.none⟩)))) h.low (only_at wr onb t _)
  refine ⟨h2, by simpa using h.ll, by simpa using h.lm, ?_, fun j y e => ?_, fun j e => ?_, h.set.setCell_other h.nset t _, h.low⟩
  · have := h.row.setCell t (.pointer (some ⟨m, 0, Option.none⟩))
    simpa [List.map_set, ptrV] using this
  · rcases set_cases e with ⟨rfl, e2⟩ | ⟨hj, e2⟩
    · injection e2 with e2; subst e2
      exact ⟨m, List.getElem?_set_self (by rw [h.lm]; exact ht), hm.rowT h.row (by decide) (only_at wr onb j _)⟩
    · obtain ⟨q, a1, a2⟩ := h.mach j y e2
      exact ⟨q, by rw [List.getElem?_set_ne (Ne.symm hj)]; exact a1, a2.rowT h.row (by decide) (only_at wr onb t _)⟩
  · rw [List.getElem?_set] at e ⊢
    by_cases hj : t = j
    · subst hj
      rw [if_pos rfl] at e
      split at e <;> simp at e
    · rw [if_neg hj] at e ⊢; exact h.empty j e
end
theorem RH.cells {w wr : World} {ab sb sm rb rg bb tb tm ub fb onb stb t : Nat} {P : Int} {s s' : StoreS} {L : List (Option RcL)} {Ms : List (Option Nat)} (h : RH w ab sb sm rb rg bb tb tm ub fb onb stb P wr s s' L Ms) {om : Option Nat} (ho : Ms[t]? = some om) : wr.cell? ⟨onb, t, none⟩ = some (ptrV om) ∧ wr.frozen? ⟨onb, t, none⟩ = false := by
  refine ⟨?_, h.row.frozen t⟩
  rw [h.row.cell]; simp [ho]
/-- A block of a result, or another box of more cells than one, is turned, or made. -/
theorem RH.did {w wr w' : World} {ab sb sm rb rg bb tb tm ub fb onb stb db : Nat} {P : Int} {s s' : StoreS} {L : List (Option RcL)} {Ms : List (Option Nat)} (h : RH w ab sb sm rb rg bb tb tm ub fb onb stb P wr s s' L Ms) {c : Array Value} (hb : Blk wr db c 57) (hc : c.size ≠ 1) (hl : w.heap.size ≤ db) (ho : Only (· = db) wr w') : RH w ab sb sm rb rg bb tb tm ub fb onb stb P w' s s' L Ms := by
  have hn : ∀ {r : Nat} {c2 : Array Value} {u : TypeId}, Blk wr r c2 u → u ≠ 57 → ¬ r = db := fun hx hu e => by subst e; exact hu (hx.uniq hb).2
  exact ⟨h.sc.row (rcO P 2) hb (by unfold RowOk; decide) (by decide) hc hl ho, h.ll, h.lm, h.row.only ho (hn h.row (by decide)), fun t z e => by obtain ⟨m, a1, a2⟩ := h.mach t z e; exact ⟨m, a1, a2.only ho (hn a2 (by decide))⟩, h.empty, h.set.only ho (hn h.set (by decide)), h.low⟩
abbrev didA (s : StoreS) : Array Value := #[.int .i64 s.k, .int .i64 s.pos, .int .u64 s.old, .int .u64 s.new]
section
variable {w W : World} {ab sb sm rb rg bb tb tm ub fb onb stb t : Nat} {P : Int} {s s' s1 : StoreS} {L : List (Option RcL)} {Ms : List (Option Nat)} {z : RcL}
/-- A step of the program's machine. -/
theorem ourLay (h : RH w ab sb sm rb rg bb tb tm ub fb onb stb P W s s' L Ms) (hz : L[t]? = some (some z)) (hm : Lay.may P 2 = true) {q : RcP} {i : Nat} (hk : z.k = .lay q i) (hq : q.Ok P) :
    Calls Tryz.prog 39 #[.pointer (some ⟨z.a, 0, none⟩), .pointer (some ⟨ab, 0, none⟩)] W fun e w' => e = .returned (.agg (didA ((z.k.ac P 2).act s))) ∧ RH w ab sb sm rb rg bb tb tm ub fb onb stb P w' ((z.k.ac P 2).act s) s' (L.set t (some { z with k := z.k.nx })) Ms := by
  have hA := h.sc.lanes.A t z hz
  rw [hk] at hA
  refine (rcLay hA hq h.sc.both.yard hm h.sc.len).mono (fun e w' c => ?_)
  obtain ⟨c1, ⟨c2, c3⟩, c4⟩ := c
  rw [← hk] at c1 c2 c3
  exact ⟨c1, h.stepA hm hz (RcS.nx_isLay z.k) c4 c2 c3 (Ac.act_len _ _)⟩
theorem ourGone (h : RH w ab sb sm rb rg bb tb tm ub fb onb stb P W s s' L Ms) (hz : L[t]? = some (some z)) (hm : Lay.may P 2 = true) {q : RcP} {i : Nat} (hk : z.k = .gone q i) (hq : q.Ok P) :
    Calls Tryz.prog 46 #[.pointer (some ⟨z.a, 0, none⟩), .pointer (some ⟨ab, 0, none⟩)] W fun e w' => e = .returned (.agg (didA ((z.k.ac P 2).act s))) ∧ RH w ab sb sm rb rg bb tb tm ub fb onb stb P w' ((z.k.ac P 2).act s) s' (L.set t (some { z with k := z.k.nx })) Ms := by
  have hA := h.sc.lanes.A t z hz
  rw [hk] at hA
  refine (rcGone hA hq h.sc.both.yard hm h.sc.len).mono (fun e w' c => ?_)
  obtain ⟨c1, ⟨c2, c3⟩, c4⟩ := c
  rw [← hk] at c1 c2 c3
  exact ⟨c1, h.stepA hm hz (RcS.nx_isLay z.k) c4 c2 c3 (Ac.act_len _ _)⟩
/-- A step of the document's machine, behind one of ours. -/
theorem docStepR {k0 : RcS} (h : RH w ab sb sm rb rg bb tb tm ub fb onb stb P W s1 s' L Ms) (hz : L[t]? = some (some { z with k := k0.nx })) (hm : Lay.may P 2 = true) (hx : RcM z.x P 2 k0) (hq : k0.q.Ok P) (he : s.ws = s'.ws) :
    Calls Tryz.prog 45 #[.pointer (some ⟨z.b, 0, none⟩), .pointer (some ⟨bb, 0, none⟩)] W fun e w' => e = .returned (.agg (didA ((k0.ac P 2).act s))) ∧ ∃ z2 : RcL, (z2.a = z.a ∧ z2.b = z.b ∧ z2.k = k0.nx) ∧ (k0.nx.got = false → RcM z2.x P 2 k0.nx) ∧ w'.cell? ⟨z.b, 15, none⟩ = some (.bool k0.nx.got) ∧ RH w ab sb sm rb rg bb tb tm ub fb onb stb P w' s1 ((k0.ac P 2).act s') (L.set t (some z2)) Ms := by
  have hB := h.sc.lanes.B t _ hz
  have hN := (h.sc.lanes.nl t _ hz).2
  refine (recM_step hB h.sc.both.mem hN hx hq hm h.sc.len').mono (fun e w' c => ?_)
  obtain ⟨c1, y, y1, y2, c3⟩ := c
  obtain ⟨lg1, mk1, h1⟩ := h.stepB hm hz c3 (Ac.act_len _ _)
  have hm2 := h1.sc.lanes.B t _ (List.getElem?_set_self (by have := (List.getElem?_eq_some_iff.1 hz).1; exact this))
  refine ⟨?_, (⟨z.a, k0.nx, z.b, y, lg1, mk1, .pointer (some ⟨bb, 0, none⟩)⟩ : RcL), ⟨rfl, rfl, rfl⟩, y2, ?_, h1⟩
  · show e = .returned (didV ((k0.ac P 2).act s))
    rw [(act_same _ he).2]; exact c1
  · have := hm2.blk.cell 15
    rw [← y1]; exact this
end
end Go.Proofs.YtbepbcjklgfmjaaGreatDoor

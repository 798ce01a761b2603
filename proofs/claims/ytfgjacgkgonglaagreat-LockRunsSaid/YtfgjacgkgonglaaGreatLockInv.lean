/- LockRuns: what holds at each round. By an AI agent. -/
import Derived.Test.YtfgjacgkgonglaaGreatLockLane
import Derived.Test.YtfgjacgkgonglaaGreatEqs
namespace Go.Proofs.YtfgjacgkgonglaaGreat
open Go.RowKit
def ptrV (o : Option Nat) : Value := .pointer (o.map (fun b => (⟨b, 0, none⟩ : Addr)))
abbrev LkL := Lane LkS
/-- It is done. -/
def LkS.got : LkS → Bool
  | .took => true
  | .left => true
  | _ => false
/-- The arenas, the machines, the three rows. -/
structure LH (w : World) (ab sb sm rb rg bb tb tm ub fb tkb lvb qb stb lo n : Nat) (P : Int) (wr : World) (s s' : StoreS) (L : List (Option LkL)) (Tk Lv : List (Option Nat)) : Prop where
  sc : SC (LkA P n lo) w ab sb sm rb rg bb tb tm ub fb P n wr s s' L
  ll : L.length = n
  lt : Tk.length = n
  lv : Lv.length = n
  trow : Blk wr tkb (Tk.map ptrV).toArray 64
  lrow : Blk wr lvb (Lv.map ptrV).toArray 65
  qrow : Blk wr qb (L.map (fun o => ptrV (o.map Lane.b))).toArray 33
  set : Blk wr stb #[.int .i64 P, .int .i64 n, .slice none 0 0] 26
  low : w.heap.size ≤ tkb ∧ w.heap.size ≤ lvb ∧ w.heap.size ≤ qb ∧ tkb < lo ∧ lvb < lo ∧ qb < lo
theorem SC.rowK {κ : Type} {LA : World → Nat → κ → Prop} {ty : TypeId → Prop} {w wr w' : World} {ab sb sm rb rg bb tb tm ub fb : Nat} {P T : Int} {s s' : StoreS} {L : List (Option (Lane κ))} (h : SC LA w ab sb sm rb rg bb tb tm ub fb P T wr s s' L) {r : Nat} {c : Array Value} {u : TypeId} (hr : Blk wr r c u) (hu : RowOk ty u) (hbt : ¬ BT u ∧ u ≠ 4)
    (hk : ∀ (t : Nat) (z : Lane κ), L[t]? = some (some z) → LA w' z.a z.k) (hlow : w.heap.size ≤ r) (ho : Only (· = r) wr w') : SC LA w ab sb sm rb rg bb tb tm ub fb P T w' s s' L :=
  ⟨h.both.keep ho (fun b c2 u2 hx hb e => by subst e; exact hbt.1 ((hr.uniq hx).2 ▸ hb)) (fun e => by subst e; exact hu.2.1 (hr.uniq h.both.yard.st.head).2) (fun e => by subst e; exact hu.2.2.2.1 (hr.uniq h.both.yard.st.row).2) (fun e => by subst e; exact hu.2.2.1 (hr.uniq h.both.mem.st.head).2) (fun e => by subst e; exact hu.2.2.2.1 (hr.uniq h.both.mem.st.row).2) (fun e => by subst e; exact hbt.2 (hr.uniq h.both.mem.fr).2),
   h.len, h.len', ⟨hk, fun t z e => (h.lanes.B t z e).only ho (fun e2 => by
      have := (h.lanes.B t z e).blk
      rw [e2] at this
      exact hu.2.2.2.2 (hr.uniq this).2) (fun g hg e2 => by
      obtain ⟨c2, hc2⟩ := ownsRow_blk (h.lanes.B t z e).row hg
      rw [e2] at hc2
      exact hu.2.2.2.1 (hr.uniq hc2).2), h.lanes.ne, h.lanes.nl⟩, h.lowL, h.low, h.adds.andThen ho (fun i hi e => by omega)⟩
/-- A lane begins; L stood in an elder world, too. -/
theorem SC.begin2 {κ : Type} {LA : World → Nat → κ → Prop} {ty : TypeId → Prop} {w w0 wr : World} {ab sb sm rb rg bb tb tm ub fb t : Nat} {P T : Int} {s s' : StoreS} {L : List (Option (Lane κ))} {z : Lane κ} (O : LOps LA ty) (h : SC LA w ab sb sm rb rg bb tb tm ub fb P T wr s s' L) (h0 : Lanes LA w0 sm tm L) (hw : w.heap.size ≤ w0.heap.size) (ha : LA wr z.a z.k) (hb : IsM wr z.b z.x z.lg z.mr z.mem) (hl : z.lg = .slice none 0 0) (na : w0.heap.size ≤ z.a) (nb : w0.heap.size ≤ z.b) : SC LA w ab sb sm rb rg bb tb tm ub fb P T wr s s' (L.set t (some z)) :=
  ⟨h.both, h.len, h.len', h.lanes.add O h0 ha hb hl na nb, fun j y e => by
    rcases set_cases e with ⟨_, e2⟩ | ⟨_, e2⟩
    · injection e2 with e2; subst e2; exact ⟨by omega, by omega, fun g hg => by rw [hl] at hg; cases hg⟩
    · exact h.lowL j y e2, h.low, h.adds⟩
section
variable {w wr w' : World} {ab sb sm rb rg bb tb tm ub fb tkb lvb qb stb lo n t : Nat} {P : Int} {s s' s2 : StoreS} {L : List (Option LkL)} {Tk Lv : List (Option Nat)} {z : LkL} {j : Int} {k : LkS}
theorem LH.add (h : LH w ab sb sm rb rg bb tb tm ub fb tkb lvb qb stb lo n P wr s s' L Tk Lv) (ho : Adds wr w') : LH w ab sb sm rb rg bb tb tm ub fb tkb lvb qb stb lo n P w' s s' L Tk Lv :=
  ⟨h.sc.add (lkO P n lo) ho, h.ll, h.lt, h.lv, h.trow.only ho id, h.lrow.only ho id, h.qrow.only ho id, h.set.only ho id, h.low⟩
theorem LH.turn (h : LH w ab sb sm rb rg bb tb tm ub fb tkb lvb qb stb lo n P wr s s' L Tk Lv) {r : Nat} {c : Array Value} {u : TypeId} (hr : Blk wr r c u) (hu : u = 64 ∨ u = 65 ∨ u = 33) (hl : r < lo) (hw : w.heap.size ≤ r) (ho : Only (· = r) wr w') : SC (LkA P n lo) w ab sb sm rb rg bb tb tm ub fb P n w' s s' L :=
  h.sc.rowK (ty := lkTy) hr (by rcases hu with rfl | rfl | rfl <;> unfold RowOk <;> decide) (by rcases hu with rfl | rfl | rfl <;> decide) (fun j y e => (h.sc.lanes.A j y e).row hr hu hl ho) hw ho
theorem LH.nes (h : LH w ab sb sm rb rg bb tb tm ub fb tkb lvb qb stb lo n P wr s s' L Tk Lv) : tkb ≠ lvb ∧ tkb ≠ qb ∧ lvb ≠ qb := by
  refine ⟨fun e => ?_, fun e => ?_, fun e => ?_⟩
  · have h1 := h.trow; rw [e] at h1; have := (h1.uniq h.lrow).2; revert this; decide
  · have h1 := h.trow; rw [e] at h1; have := (h1.uniq h.qrow).2; revert this; decide
  · have h1 := h.lrow; rw [e] at h1; have := (h1.uniq h.qrow).2; revert this; decide
theorem LH.nset (h : LH w ab sb sm rb rg bb tb tm ub fb tkb lvb qb stb lo n P wr s s' L Tk Lv) : stb ≠ tkb ∧ stb ≠ lvb ∧ stb ≠ qb := by
  refine ⟨fun e => ?_, fun e => ?_, fun e => ?_⟩
  · have h1 := h.set; rw [e] at h1; have := (h1.uniq h.trow).2; revert this; decide
  · have h1 := h.set; rw [e] at h1; have := (h1.uniq h.lrow).2; revert this; decide
  · have h1 := h.set; rw [e] at h1; have := (h1.uniq h.qrow).2; revert this; decide
theorem only_at (W : World) (r t : Nat) (v : Value) : Only (· = r) W (W.setCell ⟨r, t, none⟩ v) := (Only.refl (fun j => j = r) W).setCell (.inl rfl) v
theorem LH.setT (h : LH w ab sb sm rb rg bb tb tm ub fb tkb lvb qb stb lo n P wr s s' L Tk Lv) (o : Option Nat) : LH w ab sb sm rb rg bb tb tm ub fb tkb lvb qb stb lo n P (wr.setCell ⟨tkb, t, none⟩ (ptrV o)) s s' L (Tk.set t o) Lv := by
  obtain ⟨n1, n2, n3⟩ := h.nes
  refine ⟨h.turn h.trow (.inl rfl) h.low.2.2.2.1 h.low.1 (only_at _ _ _ _), h.ll, by simpa using h.lt, h.lv, ?_, h.lrow.setCell_other n1.symm t _, h.qrow.setCell_other n2.symm t _, h.set.setCell_other h.nset.1 t _, h.low⟩
  have := h.trow.setCell t (ptrV o)
  simpa [List.map_set] using this
theorem LH.setL (h : LH w ab sb sm rb rg bb tb tm ub fb tkb lvb qb stb lo n P wr s s' L Tk Lv) (o : Option Nat) : LH w ab sb sm rb rg bb tb tm ub fb tkb lvb qb stb lo n P (wr.setCell ⟨lvb, t, none⟩ (ptrV o)) s s' L Tk (Lv.set t o) := by
  obtain ⟨n1, n2, n3⟩ := h.nes
  refine ⟨h.turn h.lrow (.inr (.inl rfl)) h.low.2.2.2.2.1 h.low.2.1 (only_at _ _ _ _), h.ll, h.lt, by simpa using h.lv, h.trow.setCell_other n1 t _, ?_, h.qrow.setCell_other n3.symm t _, h.set.setCell_other h.nset.2.1 t _, h.low⟩
  have := h.lrow.setCell t (ptrV o)
  simpa [List.map_set] using this
/-- A lane is given up. -/
theorem LH.drop (h : LH w ab sb sm rb rg bb tb tm ub fb tkb lvb qb stb lo n P wr s s' L Tk Lv) : LH w ab sb sm rb rg bb tb tm ub fb tkb lvb qb stb lo n P (wr.setCell ⟨qb, t, none⟩ (.pointer none)) s s' (L.set t none) Tk Lv := by
  obtain ⟨n1, n2, n3⟩ := h.nes
  refine ⟨(h.turn h.qrow (.inr (.inr rfl)) h.low.2.2.2.2.2 h.low.2.2.1 (only_at _ _ _ _)).drop t, by simpa using h.ll, h.lt, h.lv, h.trow.setCell_other n2 t _, h.lrow.setCell_other n3 t _, ?_, h.set.setCell_other h.nset.2.2 t _, h.low⟩
  have := h.qrow.setCell t (.pointer none)
  simpa [List.map_set, ptrV] using this
/-- A lane begins. -/
theorem LH.begin (h : LH w ab sb sm rb rg bb tb tm ub fb tkb lvb qb stb lo n P wr s s' L Tk Lv) {w0 : World} (h0 : Lanes (LkA P n lo) w0 sm tm L) (hw : w.heap.size ≤ w0.heap.size) (ha : LkA P n lo wr z.a z.k) (hb : IsM wr z.b z.x z.lg z.mr z.mem) (hl : z.lg = .slice none 0 0) (na : w0.heap.size ≤ z.a) (nb : w0.heap.size ≤ z.b) :
    LH w ab sb sm rb rg bb tb tm ub fb tkb lvb qb stb lo n P (wr.setCell ⟨qb, t, none⟩ (.pointer (some ⟨z.b, 0, none⟩))) s s' (L.set t (some z)) Tk Lv := by
  obtain ⟨n1, n2, n3⟩ := h.nes
  have h1 := h.sc.begin2 (t := t) (lkO P n lo) h0 hw ha hb hl na nb
  have h2 := h1.rowK (ty := lkTy) h.qrow (by unfold RowOk; decide) (by decide) (fun j y e => (h1.lanes.A j y e).row h.qrow (.inr (.inr rfl)) h.low.2.2.2.2.2 (only_at wr qb t (.pointer (some ⟨z.b, 0, none⟩)))) h.low.2.2.1 (only_at wr qb t _)
  refine ⟨h2, by simpa using h.ll, h.lt, h.lv, h.trow.setCell_other n2 t _, h.lrow.setCell_other n3 t _, ?_, h.set.setCell_other h.nset.2.2 t _, h.low⟩
  have := h.qrow.setCell t (.pointer (some ⟨z.b, 0, none⟩))
  simpa [List.map_set, ptrV] using this
theorem mapL_b {L : List (Option LkL)} {t : Nat} {z z' : LkL} (hz : L[t]? = some (some z)) (e : z'.b = z.b) : (L.set t (some z')).map (fun o => ptrV (o.map Lane.b)) = L.map (fun o => ptrV (o.map Lane.b)) := by
  apply List.ext_getElem?
  intro j
  rw [List.getElem?_map, List.getElem?_map, List.getElem?_set]
  by_cases h : t = j
  · subst h
    rw [if_pos rfl, hz]
    split
    · simp [e]
    · rename_i h2
      rw [List.getElem?_eq_none (by omega)] at hz; cases hz
  · rw [if_neg h]
theorem LH.stepA (h : LH w ab sb sm rb rg bb tb tm ub fb tkb lvb qb stb lo n P wr s s' L Tk Lv) (hm : Lay.may P n = true) (hz : L[t]? = some (some z)) {k' : LkS} (ho : Only (fun j => SB sb sm j ∨ j = z.a) wr w') (ha : LkA P n lo w' z.a k') (hy : Yard w' ab sb sm rb P n s2) (hl : s2.ws.length = s.ws.length) : LH w ab sb sm rb rg bb tb tm ub fb tkb lvb qb stb lo n P w' s2 s' (L.set t (some { z with k := k' })) Tk Lv ∧ (∀ r c u, Blk wr r c u → RowOk lkTy u → Blk w' r c u) := by
  obtain ⟨h1, h2⟩ := h.sc.stepA (lkO P n lo) hm hz ho ha hy hl
  refine ⟨⟨h1, by simpa using h.ll, h.lt, h.lv, h2 _ _ _ h.trow (by unfold RowOk; decide), h2 _ _ _ h.lrow (by unfold RowOk; decide), ?_, h2 _ _ _ h.set (by unfold RowOk; decide), h.low⟩, h2⟩
  have := h2 _ _ _ h.qrow (by unfold RowOk; decide)
  rw [mapL_b hz (by rfl)]
  exact this
theorem LH.stepB (h : LH w ab sb sm rb rg bb tb tm ub fb tkb lvb qb stb lo n P wr s s' L Tk Lv) (hm : Lay.may P n = true) (hz : L[t]? = some (some z)) {x1 : MS} {s1 : StoreS} (hst : Steps wr w' z.b bb tb tm ub fb P n s1 x1 z.lg) (hl : s1.ws.length = s'.ws.length) : ∃ lg1 mk1, LH w ab sb sm rb rg bb tb tm ub fb tkb lvb qb stb lo n P w' s s1 (L.set t (some { z with x := x1, lg := lg1, mr := mk1, mem := .pointer (some ⟨bb, 0, none⟩) })) Tk Lv ∧ (∀ r c u, Blk wr r c u → RowOk lkTy u → Blk w' r c u) := by
  obtain ⟨lg1, mk1, h1, h2⟩ := h.sc.stepB (lkO P n lo) hm hz hst hl
  refine ⟨lg1, mk1, ⟨h1, by simpa using h.ll, h.lt, h.lv, h2 _ _ _ h.trow (by unfold RowOk; decide), h2 _ _ _ h.lrow (by unfold RowOk; decide), ?_, h2 _ _ _ h.set (by unfold RowOk; decide), h.low⟩, h2⟩
  have := h2 _ _ _ h.qrow (by unfold RowOk; decide)
  rw [mapL_b hz (by rfl)]
  exact this
theorem LH.cells (h : LH w ab sb sm rb rg bb tb tm ub fb tkb lvb qb stb lo n P wr s s' L Tk Lv) {o p : Option Nat} (ho : Tk[t]? = some o) (hp : Lv[t]? = some p) {q : Option LkL} (hq : L[t]? = some q) : (wr.cell? ⟨tkb, t, none⟩ = some (ptrV o) ∧ wr.frozen? ⟨tkb, t, none⟩ = false) ∧ (wr.cell? ⟨lvb, t, none⟩ = some (ptrV p) ∧ wr.frozen? ⟨lvb, t, none⟩ = false) ∧ (wr.cell? ⟨qb, t, none⟩ = some (ptrV (q.map Lane.b)) ∧ wr.frozen? ⟨qb, t, none⟩ = false) := by
  refine ⟨⟨?_, h.trow.frozen t⟩, ⟨?_, h.lrow.frozen t⟩, ⟨?_, h.qrow.frozen t⟩⟩
  · rw [h.trow.cell]; simp [ho]
  · rw [h.lrow.cell]; simp [hp]
  · rw [h.qrow.cell]; simp [hq]
/-- The told Did's box is turned. -/
theorem LH.did (h : LH w ab sb sm rb rg bb tb tm ub fb tkb lvb qb stb lo n P wr s s' L Tk Lv) {db : Nat} {c : Array Value} (hb : Blk wr db c 48) (hc : c.size ≠ 1) (hl : w.heap.size ≤ db) (ho : Only (· = db) wr w') : LH w ab sb sm rb rg bb tb tm ub fb tkb lvb qb stb lo n P w' s s' L Tk Lv := by
  have hn : ∀ {r : Nat} {c2 : Array Value} {u : TypeId}, Blk wr r c2 u → u ≠ 48 → ¬ r = db := fun hx hu e => by subst e; exact hu (hx.uniq hb).2
  exact ⟨h.sc.row (lkO P n lo) hb (by unfold RowOk; decide) (by decide) hc hl ho, h.ll, h.lt, h.lv, h.trow.only ho (hn h.trow (by decide)), h.lrow.only ho (hn h.lrow (by decide)), h.qrow.only ho (hn h.qrow (by decide)), h.set.only ho (hn h.set (by decide)), h.low⟩
/-- A document's machine that is no lane's yet is turned. -/
theorem LH.newM (h : LH w ab sb sm rb rg bb tb tm ub fb tkb lvb qb stb lo n P wr s s' L Tk Lv) {w0 : World} (h0 : Lanes (LkA P n lo) w0 sm tm L) {r : Nat} {c : Array Value} (hb : Blk wr r c 52) (hc : c.size ≠ 1) (hr : w0.heap.size ≤ r) (hl : w.heap.size ≤ r) (ho : Only (· = r) wr w') : LH w ab sb sm rb rg bb tb tm ub fb tkb lvb qb stb lo n P w' s s' L Tk Lv := by
  have hn : ∀ {b : Nat} {c2 : Array Value} {u : TypeId}, Blk wr b c2 u → u ≠ 52 → ¬ b = r := fun hx hu e => by subst e; exact hu (hx.uniq hb).2
  refine ⟨⟨h.sc.both.keep ho (fun b c2 u2 hx ht e => by subst e; rw [(hx.uniq hb).2] at ht; revert ht; decide) (hn h.sc.both.yard.st.head (by decide)) (hn h.sc.both.yard.st.row (by decide)) (hn h.sc.both.mem.st.head (by decide)) (hn h.sc.both.mem.st.row (by decide)) (hn h.sc.both.mem.fr (by decide)),
    h.sc.len, h.sc.len', h.sc.lanes.keep (lkO P n lo) ho (fun t z e => ⟨fun e2 => ?_, fun e2 => ?_, fun g hg e2 => ?_⟩) (fun b x u hx e => ?_), h.sc.lowL, h.sc.low, h.sc.adds.andThen ho (fun i hi e => by omega)⟩, h.ll, h.lt, h.lv, h.trow.only ho (hn h.trow (by decide)), h.lrow.only ho (hn h.lrow (by decide)), h.qrow.only ho (hn h.qrow (by decide)), h.set.only ho (hn h.set (by decide)), h.low⟩
  · obtain ⟨c2, u, hx, _⟩ := (lkO P n lo).blk (h0.A t z e)
    have := hx.lt; omega
  · have := (h0.B t z e).blk.lt; omega
  · obtain ⟨c2, hx⟩ := ownsRow_blk (h.sc.lanes.B t z e).row hg
    exact hn hx (by decide) e2
  · subst e; exact hc (by rw [(hb.uniq hx).1]; rfl)
theorem LH.at (h : LH w ab sb sm rb rg bb tb tm ub fb tkb lvb qb stb lo n P wr s s' (L.set t (some z)) Tk Lv) (ht : t < n) : (L.set t (some z))[t]? = some (some z) := by
  have := h.ll
  rw [List.length_set] at this
  exact List.getElem?_set_self (by omega)
theorem takeA (h : LkA P n lo w' t (.take j)) (hY : Yard w' ab sb sm rb P n s) (hi : s.inR 2) (hbig : 1 < s.ws.length) (hj : 0 ≤ j ∧ j < 64) :
    Calls Tryz.prog 24 #[.pointer (some ⟨t, 0, none⟩), .pointer (some ⟨ab, 0, none⟩)] w' fun e w2 => e = .returned (didV ((Ac.cas 2 0 (j + 1)).act s)) ∧ LkA P n lo w2 t (if s.word 2 = 0 then .took else .take j) ∧ Yard w2 ab sb sm rb P n ((Ac.cas 2 0 (j + 1)).act s) ∧ Only (fun i => SB sb sm i ∨ i = t) w' w2 := by
  by_cases h0 : s.word 2 = 0
  · refine (takeStep_win h hY hi hbig h0 hj).mono (fun e w2 q => ?_)
    rw [if_pos h0]
    refine ⟨q.1.trans ?_, q.2.1.1, ?_, q.2.2⟩
    · simp [Ac.act, h0, didV, StoreS.acc]
    · simpa [Ac.act, h0] using q.2.1.2
  · refine (takeStep_lost h hY hi hbig h0).mono (fun e w2 q => ?_)
    rw [if_neg h0]
    refine ⟨q.1.trans ?_, q.2.1.1, ?_, q.2.2.mono (fun _ _ e => .inl e)⟩
    · simp [Ac.act, h0, didV, StoreS.acc]
    · simpa [Ac.act, h0] using q.2.1.2
theorem takeA_done (h : LkA P n lo w' t k) (hk : k = .take j ∨ k = .took) : Calls Tryz.prog 25 #[.pointer (some ⟨t, 0, none⟩)] w' fun e w2 => e = .returned (.bool k.got) ∧ w' = w2 := by
  rcases hk with rfl | rfl
  · exact (takeDone_no h).mono (fun e w2 q => ⟨by rw [q.1]; rfl, q.2⟩)
  · exact (lockTakeDone_yes (Blk.cell h 2)).mono (fun e w2 q => ⟨by rw [q.1]; rfl, q.2⟩)
theorem leaveA_done (h : LkA P n lo w' t .left) : Calls Tryz.prog 27 #[.pointer (some ⟨t, 0, none⟩)] w' fun e w2 => e = .returned (.bool true) ∧ w' = w2 := (lockLeaveDone_yes (Blk.cell h 2))
theorem leaveA (h : LkA P n lo w' t .leave) (hY : Yard w' ab sb sm rb P n s) (hi : s.inR 2) (hbig : 1 < s.ws.length) :
    Calls Tryz.prog 26 #[.pointer (some ⟨t, 0, none⟩), .pointer (some ⟨ab, 0, none⟩)] w' fun e w2 => e = .returned (didV ((Ac.put 2 0).act s)) ∧ LkA P n lo w2 t .left ∧ Yard w2 ab sb sm rb P n ((Ac.put 2 0).act s) ∧ Only (fun i => SB sb sm i ∨ i = t) w' w2 :=
  (leaveStep_any h hY hi hbig).mono (fun e w2 q => ⟨q.1, q.2.1.1, q.2.1.2, q.2.2⟩)
theorem act_same (c : Ac) (h : s.ws = s'.ws) : (c.act s).ws = (c.act s').ws ∧ didV (c.act s) = didV (c.act s') := by
  have e : ∀ i, s.word i = s'.word i := fun i => by unfold StoreS.word; rw [h]
  cases c with
  | load a => simp [Ac.act, StoreS.acc, didV, e, h]
  | put a v => simp [Ac.act, StoreS.acc, didV, e, h]
  | cas a o v =>
    simp only [Ac.act, e a]
    split <;> simp [StoreS.acc, didV, e, h]
  | add a v => simp [Ac.act, StoreS.acc, didV, e, h]
end
end Go.Proofs.YtfgjacgkgonglaaGreat

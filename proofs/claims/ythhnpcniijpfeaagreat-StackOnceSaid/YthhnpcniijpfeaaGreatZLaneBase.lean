/- What all laws of lanes use. By an AI agent. -/
import Derived.Test.YthhnpcniijpfeaaGreatZLanes
import Derived.Test.YthhnpcniijpfeaaGreatZ3
import Derived.Deep.WholeRow
namespace Go.Proofs.YthhnpcniijpfeaaGreat
open Go.RowKit
set_option linter.unusedSimpArgs false
set_option linter.unusedVariables false
theorem cell_al {w w' : World} {b j : Nat} {v : Value} (h : w.cell? ⟨b, j, none⟩ = some v) (ho : Adds w w') : w'.cell? ⟨b, j, none⟩ = some v := (ho.cellF (p := ⟨b, j, none⟩) (cell_lt h) id).trans h
/-- What a step tells of a store's last access. -/
def didV (s : StoreS) : Value := .agg #[.int .i64 s.k, .int .i64 s.pos, .int .u64 s.old, .int .u64 s.new]
def ptrV (o : Option Nat) : Value := .pointer (o.map (fun b => (⟨b, 0, none⟩ : Addr)))
theorem only_at (W : World) (r t : Nat) (v : Value) : Only (· = r) W (W.setCell ⟨r, t, none⟩ v) := (Only.refl (fun j => j = r) W).setCell (.inl rfl) v
theorem act_same {s s' : StoreS} (c : Ac) (h : s.ws = s'.ws) : (c.act s).ws = (c.act s').ws ∧ didV (c.act s) = didV (c.act s') := by
  have e : ∀ i, s.word i = s'.word i := fun i => by unfold StoreS.word; rw [h]
  cases c with
  | load a => simp [Ac.act, StoreS.acc, didV, e, h]
  | put a v => simp [Ac.act, StoreS.acc, didV, e, h]
  | cas a o v =>
    simp only [Ac.act, e a]
    split <;> simp [StoreS.acc, didV, e, h]
  | add a v => simp [Ac.act, StoreS.acc, didV, e, h]
theorem madeCells_ptr (n : Nat) : madeCells #[Value.pointer none] n = ((List.replicate n (none : Option Nat)).map ptrV).toArray := by
  apply Array.ext'
  rw [toList_madeCells_one]
  simp [ptrV]
theorem blk_new1 (w : World) (o : Obj) (c : Array Value) (t : TypeId) : Blk ((w.alloc o).alloc (.cells c t)) (w.heap.size + 1) c t := by
  have := Blk.new (w.alloc o) c t
  rwa [World.size_alloc] at this
theorem adds_setRow {w W : World} {g : Nat} (h : Adds w W) (hg : w.heap.size ≤ g) (cs : Array Value) : Adds w (W.setRow g cs) :=
  ⟨h.os, h.tape, h.output, by simpa [World.setRow] using h.size, fun k hk hS => (setRow_other W g k cs (by omega)).trans (h.block k hk hS)⟩
theorem infoM : (Tryz.prog.info? 95).map (·.size) = some 32 := by kernel_rfl
abbrev mZ : Array Value := #[.int .i64 0, .int .i64 0, .int .i64 0, .int .i64 0, .int .i64 0, .int .i64 0, .int .i64 0, .int .i64 0, .int .i64 0, .int .i64 0, .int .i64 0, .int .u64 0, .bool false, .slice none 0 0, .slice none 0 0, .bool false, .int .i64 0, .bool false, .pointer none, .int .i64 0, .int .i64 0, .int .u64 0, .int .u64 0, .int .i64 0, .int .i64 0, .int .i64 0, .int .i64 0, .int .u64 0, .slice none 0 0, .slice none 0 0, .int .i64 0, .int .i64 0]
section
variable {κ : Type}
theorem mapL_b {L : List (Option (Lane κ))} {t : Nat} {z z' : Lane κ} (hz : L[t]? = some (some z)) (e : z'.b = z.b) : (L.set t (some z')).map (fun o => ptrV (o.map Lane.b)) = L.map (fun o => ptrV (o.map Lane.b)) := by
  apply List.ext_getElem?
  intro j
  rw [List.getElem?_map, List.getElem?_map, List.getElem?_set]
  by_cases h : t = j
  · subst h
    rw [if_pos rfl, hz]
    split
    · simp [e]
    · rename_i h2
      rw [List.getElem?_eq_none (by omega)] at hz; cases hz
  · rw [if_neg h]
end
def Bx1 (u : TypeId) : Prop := u ≠ 125
instance (u : TypeId) : Decidable (Bx1 u) := inferInstanceAs (Decidable (_ ≠ _))
def Bx2 (u : TypeId) : Prop := u ≠ 1
instance (u : TypeId) : Decidable (Bx2 u) := inferInstanceAs (Decidable (_ ≠ _))
def Bx3 (u : TypeId) : Prop := u ≠ 152
instance (u : TypeId) : Decidable (Bx3 u) := inferInstanceAs (Decidable (_ ≠ _))
/-- A row of pointers, or another block that is no desk's box. -/
def BoxFree (u : TypeId) : Prop := u ≠ 3 ∧ u ≠ 48 ∧ Bx1 u ∧ Bx2 u ∧ Bx3 u
instance (u : TypeId) : Decidable (BoxFree u) := inferInstanceAs (Decidable (_ ∧ _))
theorem Blk.rowT {w w' : World} {b r : Nat} {c cr : Array Value} {t u : TypeId} (h : Blk w b c t) (hr : Blk w r cr u) (hu : u ≠ t) (ho : Only (· = r) w w') : Blk w' b c t :=
  h.only ho (fun e => by subst e; exact hu (hr.uniq h).2)
theorem Desk.rowT {w w' : World} {mb r : Nat} {c : Value → Array Value} {cr : Array Value} {t u : TypeId} {k : DK} (h : Desk w mb c t k) (hr : Blk w r cr u) (hb : BoxFree u) (hu : u ≠ t) (ho : Only (· = r) w w') : Desk w' mb c t k := by
  obtain ⟨u1, u2, u3, u4, u5⟩ := hb
  cases k with
  | load a f => obtain ⟨n, h1, h2⟩ := h; exact ⟨n, h1.rowT hr hu ho, ⟨h2.b0.rowT hr u1 ho, h2.b1.rowT hr u3 ho⟩⟩
  | put a v f => obtain ⟨n, h1, h2⟩ := h; exact ⟨n, h1.rowT hr hu ho, ⟨h2.b0.rowT hr u1 ho, h2.b1.rowT hr u2 ho, h2.b2.rowT hr u4 ho⟩⟩
  | add a v f => exact False.elim h
  | cas a o v f => obtain ⟨n, h1, h2⟩ := h; exact ⟨n, h1.rowT hr hu ho, ⟨h2.b0.rowT hr u1 ho, h2.b1.rowT hr u2 ho, h2.b2.rowT hr u2 ho, h2.b3.rowT hr u5 ho⟩⟩
  | done => exact Blk.rowT h hr hu ho
theorem SC.rowK {κ : Type} {LA : World → Nat → κ → Prop} {ty : TypeId → Prop} {w wr w' : World} {ab sb sm rb rg bb tb tm ub fb : Nat} {P T : Int} {s s' : StoreS} {L : List (Option (Lane κ))} (h : SC LA w ab sb sm rb rg bb tb tm ub fb P T wr s s' L) {r : Nat} {c : Array Value} {u : TypeId} (hr : Blk wr r c u) (hu : RowOk ty u) (hbt : ¬ BT u ∧ u ≠ 4)
    (hk : ∀ (t : Nat) (z : Lane κ), L[t]? = some (some z) → LA w' z.a z.k) (hlow : w.heap.size ≤ r) (ho : Only (· = r) wr w') : SC LA w ab sb sm rb rg bb tb tm ub fb P T w' s s' L :=
  ⟨h.both.keep ho (fun b c2 u2 hx hb e => by subst e; exact hbt.1 ((hr.uniq hx).2 ▸ hb)) (fun e => by subst e; exact hu.2.1 (hr.uniq h.both.yard.st.head).2) (fun e => by subst e; exact hu.2.2.2.1 (hr.uniq h.both.yard.st.row).2) (fun e => by subst e; exact hu.2.2.1 (hr.uniq h.both.mem.st.head).2) (fun e => by subst e; exact hu.2.2.2.1 (hr.uniq h.both.mem.st.row).2) (fun e => by subst e; exact hbt.2 (hr.uniq h.both.mem.fr).2),
   h.len, h.len', ⟨hk, fun t z e => (h.lanes.B t z e).only ho (fun e2 => by
      have := (h.lanes.B t z e).blk
      rw [e2] at this
      exact hu.2.2.2.2 (hr.uniq this).2) (fun g hg e2 => by
      obtain ⟨c2, hc2⟩ := ownsRow_blk (h.lanes.B t z e).row hg
      rw [e2] at hc2
      exact hu.2.2.2.1 (hr.uniq hc2).2), h.lanes.ne, h.lanes.nl⟩, h.lowL, h.low, h.adds.andThen ho (fun i hi e => by omega)⟩
/-- A lane begins; L stood in an elder world, too. -/
theorem SC.begin2 {κ : Type} {LA : World → Nat → κ → Prop} {ty : TypeId → Prop} {w w0 wr : World} {ab sb sm rb rg bb tb tm ub fb t : Nat} {P T : Int} {s s' : StoreS} {L : List (Option (Lane κ))} {z : Lane κ} (O : LOps LA ty) (h : SC LA w ab sb sm rb rg bb tb tm ub fb P T wr s s' L) (h0 : Lanes LA w0 sm tm L) (hw : w.heap.size ≤ w0.heap.size) (ha : LA wr z.a z.k) (hb : IsM wr z.b z.x z.lg z.mr z.mem) (hl : z.lg = .slice none 0 0) (na : w0.heap.size ≤ z.a) (nb : w0.heap.size ≤ z.b) : SC LA w ab sb sm rb rg bb tb tm ub fb P T wr s s' (L.set t (some z)) :=
  ⟨h.both, h.len, h.len', h.lanes.add O h0 ha hb hl na nb, fun j y e => by
    rcases set_cases e with ⟨_, e2⟩ | ⟨_, e2⟩
    · injection e2 with e2; subst e2; exact ⟨by omega, by omega, fun g hg => by rw [hl] at hg; cases hg⟩
    · exact h.lowL j y e2, h.low, h.adds⟩
end Go.Proofs.YthhnpcniijpfeaaGreat

/- WorldAlone: what holds at each round. By an AI agent. -/
import Derived.Test.YtbepbcjklgfmjaaZWANew
import Derived.Test.YtbepbcjklgfmjaaZWAPlain
namespace Go.Proofs.Ytbepbcjklgfmjaa
open Go.RowKit
set_option linter.unusedSimpArgs false
set_option linter.unusedVariables false
/-- A thread's machine: its block, the program's machine, the document's, where it stands. -/
structure WL where
  m : Nat
  p : Nat
  b : Nat
  k : WdS
/-- The arena, the machines, the rows; nothing that lay in w has turned. -/
structure OW (w : World) (ab sb sm rb lb onb inb stb n : Nat) (wr : World) (s : StoreS) (Q : Nat → Option WL) (Iv Sv : Nat → Bool) : Prop where
  yard : Yard wr ab sb sm rb 2 n s
  len : s.ws.length = (Lay.words 2 n).toNat
  mach : ∀ t z, Q t = some z → Blk wr z.m (machC z.k.sort z.p z.b) 46 ∧ WdA 2 n wr z.p z.k
  ne : ∀ t t' z z', t ≠ t' → Q t = some z → Q t' = some z' → z.p ≠ z'.p
  lowL : ∀ t z, Q t = some z → w.heap.size ≤ z.p
  orow : Blk wr onb (rowOf n (fun t => ptrV ((Q t).map WL.m))) 33
  irow : Blk wr inb (rowOf n (fun t => .bool (Iv t))) 4
  srow : Blk wr stb (rowOf n (fun t => .bool (Sv t))) 4
  lay : Blk wr lb #[.int .i64 2, .int .i64 n] 24
  nis : inb ≠ stb
  low : (w.heap.size ≤ ab ∧ w.heap.size ≤ sb ∧ w.heap.size ≤ sm) ∧ w.heap.size ≤ onb ∧ w.heap.size ≤ inb ∧ w.heap.size ≤ stb
  adds : Adds w wr
section
variable {w wr w' : World} {ab sb sm rb lb onb inb stb n t : Nat} {s s' : StoreS} {Q : Nat → Option WL} {Iv Sv : Nat → Bool} {z : WL}
theorem OW.add (h : OW w ab sb sm rb lb onb inb stb n wr s Q Iv Sv) (ho : Adds wr w') : OW w ab sb sm rb lb onb inb stb n w' s Q Iv Sv :=
  ⟨h.yard.adds ho, h.len, fun t z e => ⟨(h.mach t z e).1.only ho id, (wdO 2 n).keep (h.mach t z e).2 ho id (fun _ _ _ _ => id)⟩, h.ne, h.lowL, h.orow.only ho id, h.irow.only ho id, h.srow.only ho id, h.lay.only ho id, h.nis, h.low, h.adds.thenF ho⟩
theorem OW.cells (h : OW w ab sb sm rb lb onb inb stb n wr s Q Iv Sv) (ht : t < n) : wr.cell? ⟨onb, t, none⟩ = some (ptrV ((Q t).map WL.m)) ∧ wr.frozen? ⟨onb, t, none⟩ = false ∧ wr.cell? ⟨inb, t, none⟩ = some (.bool (Iv t)) ∧ wr.frozen? ⟨inb, t, none⟩ = false ∧ wr.cell? ⟨stb, t, none⟩ = some (.bool (Sv t)) ∧ wr.frozen? ⟨stb, t, none⟩ = false := by
  refine ⟨?_, h.orow.frozen t, ?_, h.irow.frozen t, ?_, h.srow.frozen t⟩
  · rw [h.orow.cell, rowOf_get _ ht]
  · rw [h.irow.cell, rowOf_get _ ht]
  · rw [h.srow.cell, rowOf_get _ ht]
theorem OW.inR (h : OW w ab sb sm rb lb onb inb stb n wr s Q Iv Sv) (hm : Lay.may 2 n = true) : 4 < s.ws.length := by
  have := (words_bd hm).1
  rw [h.len]; omega
/-- What a block of a row is not. -/
theorem OW.nrow (h : OW w ab sb sm rb lb onb inb stb n wr s Q Iv Sv) {r : Nat} {c : Array Value} {u : TypeId} (hr : Blk wr r c u) (hu : u = 33 ∨ u = 4) : ab ≠ r ∧ sb ≠ r ∧ sm ≠ r ∧ lb ≠ r ∧ (∀ t z, Q t = some z → z.m ≠ r) := by
  have nt : ∀ {b : Nat} {c2 : Array Value} {u2 : TypeId}, Blk wr b c2 u2 → u2 ≠ 33 ∧ u2 ≠ 4 → b ≠ r := fun hb h2 e => by
    subst e
    have := (hr.uniq hb).2
    rcases hu with rfl | rfl
    · exact h2.1 this.symm
    · exact h2.2 this.symm
  exact ⟨nt h.yard.ar.head (by decide), nt h.yard.st.head (by decide), nt h.yard.st.row (by decide), nt h.lay (by decide), fun t z e => nt (h.mach t z e).1 (by decide)⟩
/-- A row is turned. -/
theorem OW.row (h : OW w ab sb sm rb lb onb inb stb n wr s Q Iv Sv) {r : Nat} {c : Array Value} {u : TypeId} (hr : Blk wr r c u) (hu : u = 33 ∨ u = 4) (ho : Only (· = r) wr w') :
    Yard w' ab sb sm rb 2 n s ∧ (∀ t z, Q t = some z → Blk w' z.m (machC z.k.sort z.p z.b) 46 ∧ WdA 2 n w' z.p z.k) ∧ Blk w' lb #[.int .i64 2, .int .i64 n] 24 := by
  obtain ⟨h1, h2, h3, h4, h5⟩ := h.nrow hr hu
  refine ⟨h.yard.only ho h1 h2 h3, fun t z e => ⟨(h.mach t z e).1.only ho (h5 t z e), (h.mach t z e).2.rowT hr (by rcases hu with rfl | rfl <;> (unfold wdTy; decide)) ho⟩, h.lay.only ho h4⟩
/-- A thread has a machine. -/
theorem OW.begin {w0 : World} (h : OW w ab sb sm rb lb onb inb stb n wr s Q Iv Sv) (h0 : ∀ t z, Q t = some z → z.p < w0.heap.size) (hl : w.heap.size ≤ w0.heap.size) (hm : Blk wr z.m (machC z.k.sort z.p z.b) 46) (ha : WdA 2 n wr z.p z.k) (hp : w0.heap.size ≤ z.p) :
    OW w ab sb sm rb lb onb inb stb n (wr.setCell ⟨onb, t, none⟩ (.pointer (some ⟨z.m, 0, none⟩))) s (upd Q t (some z)) Iv Sv := by
  have ho := only_at wr onb t (.pointer (some ⟨z.m, 0, none⟩))
  obtain ⟨h1, h2, h3⟩ := h.row h.orow (.inl rfl) ho
  have n0 : z.m ≠ onb := fun e => by have := (h.orow.uniq (e ▸ hm)).2; revert this; decide
  have n2 : inb ≠ onb := fun e => by have := (h.orow.uniq (e ▸ h.irow)).2; revert this; decide
  have n3 : stb ≠ onb := fun e => by have := (h.orow.uniq (e ▸ h.srow)).2; revert this; decide
  refine ⟨h1, h.len, fun j y e => ?_, fun j j' y y' hj e e' => ?_, fun j y e => ?_, ?_, h.irow.setCell_other n2 t _, h.srow.setCell_other n3 t _, h3, h.nis, h.low, h.adds.andThen ho (fun i hi e => by have := h.low.2.1; omega)⟩
  · rcases upd_or e with ⟨rfl, e2⟩ | ⟨hj, e2⟩
    · injection e2 with e2; subst e2
      exact ⟨hm.only ho n0, ha.rowT h.orow (by unfold wdTy; decide) ho⟩
    · exact h2 j y e2
  · rcases upd_or e with ⟨rfl, e2⟩ | ⟨hj1, e2⟩
    · rcases upd_or e' with ⟨rfl, e3⟩ | ⟨hj2, e3⟩
      · exact absurd rfl hj
      · injection e2 with e2; subst e2
        have := h0 j' y' e3; omega
    · rcases upd_or e' with ⟨rfl, e3⟩ | ⟨hj2, e3⟩
      · injection e3 with e3; subst e3
        have := h0 j y e2; omega
      · exact h.ne j j' y y' hj e2 e3
  · rcases upd_or e with ⟨rfl, e2⟩ | ⟨hj, e2⟩
    · injection e2 with e2; subst e2; omega
    · exact h.lowL j y e2
  · have := h.orow.setCell t (.pointer (some ⟨z.m, 0, none⟩))
    rw [rowOf_set] at this
    have e : (fun j => ptrV ((upd Q t (some z) j).map WL.m)) = upd (fun j => ptrV ((Q j).map WL.m)) t (.pointer (some ⟨z.m, 0, none⟩)) := upd_comp (fun o => ptrV (o.map WL.m)) Q t (some z)
    rw [e]; exact this
/-- A thread's machine is given up. -/
theorem OW.drop (h : OW w ab sb sm rb lb onb inb stb n wr s Q Iv Sv) : OW w ab sb sm rb lb onb inb stb n (wr.setCell ⟨onb, t, none⟩ (.pointer none)) s (upd Q t none) Iv Sv := by
  have ho := only_at wr onb t (.pointer none)
  obtain ⟨h1, h2, h3⟩ := h.row h.orow (.inl rfl) ho
  have n2 : inb ≠ onb := fun e => by have := (h.orow.uniq (e ▸ h.irow)).2; revert this; decide
  have n3 : stb ≠ onb := fun e => by have := (h.orow.uniq (e ▸ h.srow)).2; revert this; decide
  have k : ∀ j y, upd Q t none j = some y → Q j = some y := fun j y e => by
    rcases upd_or e with ⟨_, e2⟩ | ⟨_, e2⟩
    · cases e2
    · exact e2
  refine ⟨h1, h.len, fun j y e => h2 j y (k j y e), fun j j' y y' hj e e' => h.ne j j' y y' hj (k j y e) (k j' y' e'), fun j y e => h.lowL j y (k j y e), ?_, h.irow.setCell_other n2 t _, h.srow.setCell_other n3 t _, h3, h.nis, h.low, h.adds.andThen ho (fun i hi e => by have := h.low.2.1; omega)⟩
  have := h.orow.setCell t (.pointer none)
  rw [rowOf_set] at this
  have e : (fun j => ptrV ((upd Q t none j).map WL.m)) = upd (fun j => ptrV ((Q j).map WL.m)) t (.pointer none) := upd_comp (fun o => ptrV (o.map WL.m)) Q t none
  rw [e]; exact this
/-- Who is within, and who has stopped the others, is told. -/
theorem OW.said (h : OW w ab sb sm rb lb onb inb stb n wr s Q Iv Sv) (x y : Bool) : OW w ab sb sm rb lb onb inb stb n ((wr.setCell ⟨inb, t, none⟩ (.bool x)).setCell ⟨stb, t, none⟩ (.bool y)) s Q (upd Iv t x) (upd Sv t y) := by
  have half : ∀ {wr : World} {Iv Sv : Nat → Bool}, OW w ab sb sm rb lb onb inb stb n wr s Q Iv Sv → OW w ab sb sm rb lb onb inb stb n (wr.setCell ⟨inb, t, none⟩ (.bool x)) s Q (upd Iv t x) Sv := fun {wr Iv Sv} h => by
    have ho := only_at wr inb t (.bool x)
    obtain ⟨h1, h2, h3⟩ := h.row h.irow (.inr rfl) ho
    have n2 : onb ≠ inb := fun e => by have := (h.orow.uniq (e ▸ h.irow)).2; revert this; decide
    refine ⟨h1, h.len, h2, h.ne, h.lowL, h.orow.setCell_other n2 t _, ?_, h.srow.setCell_other (Ne.symm h.nis) t _, h3, h.nis, h.low, h.adds.andThen ho (fun i hi e => by have := h.low.2.2.1; omega)⟩
    have := h.irow.setCell t (.bool x)
    rw [rowOf_set] at this
    rw [upd_comp Value.bool Iv t x]; exact this
  have h := half h
  obtain ⟨wb, hwb⟩ : ∃ wb, wr.setCell ⟨inb, t, none⟩ (.bool x) = wb := ⟨_, rfl⟩
  rw [hwb] at h ⊢
  have ho := only_at wb stb t (.bool y)
  obtain ⟨h1, h2, h3⟩ := h.row h.srow (.inr rfl) ho
  have n2 : onb ≠ stb := fun e => by have := (h.orow.uniq (e ▸ h.srow)).2; revert this; decide
  refine ⟨h1, h.len, h2, h.ne, h.lowL, h.orow.setCell_other n2 t _, h.irow.setCell_other h.nis t _, ?_, h3, h.nis, h.low, h.adds.andThen ho (fun i hi e => by have := h.low.2.2.2; omega)⟩
  have := h.srow.setCell t (.bool y)
  rw [rowOf_set] at this
  rw [upd_comp Value.bool Sv t y]; exact this
/-- A step of thread t's machine. -/
theorem OW.step (h : OW w ab sb sm rb lb onb inb stb n wr s Q Iv Sv) (hz : Q t = some z) {k1 : WdS} {s1 : StoreS} (hk : k1.sort = z.k.sort) (ha : WdA 2 n w' z.p k1) (hy : Yard w' ab sb sm rb 2 n s1) (hl : s1.ws.length = s.ws.length) (hm : Lay.may 2 n = true) (ho : Only (fun j => SB sb sm j ∨ j = z.p) wr w') :
    OW w ab sb sm rb lb onb inb stb n w' s1 (upd Q t (some { z with k := k1 })) Iv Sv := by
  have hbig : 1 < s.ws.length := by have := h.inR hm; omega
  obtain ⟨c, u, hb, hc, hty⟩ := (wdO 2 n).blk (h.mach t z hz).2
  have nt : ∀ {b : Nat} {c2 : Array Value} {u2 : TypeId}, Blk wr b c2 u2 → (¬ wdTy u2 ∧ u2 ≠ 77 ∧ u2 ≠ 35) → ¬ (SB sb sm b ∨ b = z.p) := fun hx h2 e => by
    rcases e with (e | e) | e
    · subst e; exact h2.2.1 (hx.uniq h.yard.st.head).2
    · subst e; exact h2.2.2 (hx.uniq h.yard.st.row).2
    · subst e; exact h2.1 ((hx.uniq hb).2 ▸ hty)
  have hs : ∀ (b : Nat) (x : Value) (u : TypeId), Blk wr b #[x] u → ¬ (SB sb sm b ∨ b = z.p) := fun b x u hx e => e.elim (h.yard.multi hbig hx) (fun e => by subst e; exact hc (by rw [(hb.uniq hx).1]; rfl))
  refine ⟨hy, hl.trans h.len, fun j y e => ?_, fun j j' y y' hj e e' => ?_, fun j y e => ?_, ?_, h.irow.only ho (nt h.irow (by unfold wdTy; decide)), h.srow.only ho (nt h.srow (by unfold wdTy; decide)), h.lay.only ho (nt h.lay (by unfold wdTy; decide)), h.nis, h.low, h.adds.andThen ho (fun i hi e => ?_)⟩
  · rcases upd_or e with ⟨rfl, e2⟩ | ⟨hj, e2⟩
    · injection e2 with e2; subst e2
      have := (h.mach j z hz).1
      rw [← hk] at this
      exact ⟨this.only ho (nt this (by unfold wdTy; decide)), ha⟩
    · obtain ⟨a1, a2⟩ := h.mach j y e2
      refine ⟨a1.only ho (nt a1 (by unfold wdTy; decide)), (wdO 2 n).keep a2 ho (fun q => ?_) hs⟩
      obtain ⟨c2, u2, hb2, _, hty2⟩ := (wdO 2 n).blk a2
      rcases q with (q | q) | q
      · rw [q] at hb2; rw [(hb2.uniq h.yard.st.head).2] at hty2; revert hty2; unfold wdTy; decide
      · rw [q] at hb2; rw [(hb2.uniq h.yard.st.row).2] at hty2; revert hty2; unfold wdTy; decide
      · exact h.ne j t y z hj e2 hz q
  · rcases upd_or e with ⟨rfl, e2⟩ | ⟨hj1, e2⟩
    · rcases upd_or e' with ⟨rfl, e3⟩ | ⟨hj2, e3⟩
      · exact absurd rfl hj
      · injection e2 with e2; subst e2
        exact h.ne j j' z y' hj hz e3
    · rcases upd_or e' with ⟨rfl, e3⟩ | ⟨hj2, e3⟩
      · injection e3 with e3; subst e3
        exact h.ne j j' y z hj e2 hz
      · exact h.ne j j' y y' hj e2 e3
  · rcases upd_or e with ⟨rfl, e2⟩ | ⟨hj, e2⟩
    · injection e2 with e2; subst e2; exact h.lowL j z hz
    · exact h.lowL j y e2
  · have e : (fun j => ptrV ((upd Q t (some { z with k := k1 }) j).map WL.m)) = (fun j => ptrV ((Q j).map WL.m)) := by
      funext j
      by_cases q : j = t
      · subst q; rw [upd_at, hz]; rfl
      · rw [upd_ne _ q]
    rw [e]
    exact h.orow.only ho (nt h.orow (by unfold wdTy; decide))
  · have := h.low.1; have := h.lowL t z hz
    rcases e with (e | e) | e <;> omega
end
/-- The machines and rows are the states'. -/
structure Like (n : Nat) (q : Nat → TS) (Q : Nat → Option WL) (Iv Sv : Nat → Bool) : Prop where
  on : ∀ t, t < n → (Q t).map WL.k = (q t).on t
  inn : ∀ t, t < n → Iv t = (q t).isInn
  stop : ∀ t, t < n → Sv t = (q t).isStop
/-- How many of the first are. -/
def many (f : Nat → Bool) (k : Nat) : Nat := sumN (fun j => if f j = true then 1 else 0) k
theorem many_le (f : Nat → Bool) (k : Nat) : many f k ≤ k := by
  have := sumN_max (n := k) (f := fun j => if f j = true then 1 else 0) (c := 1) (fun t _ => by split <;> omega)
  unfold many; omega
theorem many_succ (f : Nat → Bool) (k : Nat) : many f (k + 1) = many f k + (if f k = true then 1 else 0) := rfl
theorem Like.counts {n drawn i : Nat} {s : StoreS} {q : Nat → TS} {Q : Nat → Option WL} {Iv Sv : Nat → Bool} (h : Like n q Q Iv Sv) (hr : WR n drawn i s q) : many Sv n ≤ 1 ∧ (many Sv n = 1 → many Iv n = 0) := by
  obtain ⟨a1, a2⟩ := hr.alone
  refine ⟨sumN_one (fun t _ => by split <;> omega) (fun t j ht hj e1 e2 => ?_), fun e => ?_⟩
  · have b1 : Sv t = true := by
      cases hc : Sv t
      · simp [hc] at e1
      · rfl
    have b2 : Sv j = true := by
      cases hc : Sv j
      · simp [hc] at e2
      · rfl
    exact a2 t j ht hj (by rw [← h.stop t ht]; exact b1) (by rw [← h.stop j hj]; exact b2)
  · obtain ⟨t, t1, t2⟩ := sumN_pos (f := fun j => if Sv j = true then 1 else 0) (n := n) (by unfold many at e; omega)
    have b1 : Sv t = true := by
      cases hc : Sv t
      · simp [hc] at t2
      · rfl
    have := sumN_max (n := n) (f := fun j => if Iv j = true then 1 else 0) (c := 0) (fun j hj => by
      have := a1 t j t1 hj (by rw [← h.stop t t1]; exact b1)
      rw [h.inn j hj, this]; simp)
    unfold many; omega
end Go.Proofs.Ytbepbcjklgfmjaa

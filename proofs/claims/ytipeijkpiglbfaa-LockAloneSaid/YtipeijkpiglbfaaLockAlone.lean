/- LockAlone: what holds at each round, and what each way of a round does to it. By an AI agent. -/
import Derived.Test.YtipeijkpiglbfaaLockAwake
import Derived.Test.YtipeijkpiglbfaaRowAt
namespace Go.Proofs.Ytipeijkpiglbfaa
open Go.RowKit
def ptrV (o : Option Nat) : Value := .pointer (o.map (fun b => (⟨b, 0, none⟩ : Addr)))
/-- What holds: the arena, who has the lock, the takes that wait. -/
structure LInv (w : World) (n tb lb ab sb sm rb : Nat) (wr : World) (who : Int) (s : StoreS) (L : List (Option Nat)) : Prop where
  yard : Yard wr ab sb sm rb 2 n s
  big : 3 < s.ws.length
  word : s.word 2 = who + 1
  who : -1 ≤ who ∧ who < n
  len : L.length = n
  row : Blk wr tb (L.map ptrV).toArray 39
  live : ∀ (j mb : Nat), L[j]? = some (some mb) → IsTake (tb + 1) wr mb 2 n j
  lay : Blk wr lb #[.int .i64 2, .int .i64 n] 24
  low : w.heap.size ≤ ab ∧ w.heap.size ≤ sb ∧ w.heap.size ≤ sm ∧ w.heap.size ≤ tb ∧ w.heap.size ≤ lb
  adds : Adds w wr
section
variable {w : World} {n tb lb ab sb sm rb : Nat} {wr w' : World} {who : Int} {s s' : StoreS} {L : List (Option Nat)}
theorem LInv.inR (h : LInv w n tb lb ab sb sm rb wr who s L) : s.inR 2 := ⟨by omega, by have := h.big; omega⟩
theorem LInv.add (h : LInv w n tb lb ab sb sm rb wr who s L) (ho : Adds wr w') : LInv w n tb lb ab sb sm rb w' who s L :=
  ⟨h.yard.adds ho, h.big, h.word, h.who, h.len, h.row.only ho id, fun j mb e => (h.live j mb e).adds ho, h.lay.only ho id, h.low, h.adds.thenF ho⟩
theorem LInv.layCells (h : LInv w n tb lb ab sb sm rb wr who s L) : wr.cell? ⟨lb, 0, none⟩ = some (.int .i64 2) ∧ wr.cell? ⟨lb, 1, none⟩ = some (.int .i64 n) := ⟨h.lay.cell 0, h.lay.cell 1⟩
theorem LInv.rowCell (h : LInv w n tb lb ab sb sm rb wr who s L) {k : Nat} {o : Option Nat} (hk : L[k]? = some o) : wr.cell? ⟨tb, k, none⟩ = some (ptrV o) ∧ wr.frozen? ⟨tb, k, none⟩ = false := by
  refine ⟨?_, h.row.frozen k⟩
  rw [h.row.cell]; simp [hk]
theorem row_ptr {W : World} {k : Nat} {o : Option Nat} (h : Blk W tb (L.map ptrV).toArray 39) (hk : L[k]? = some o) : W.cell? ⟨tb, k, none⟩ = some (ptrV o) ∧ W.frozen? ⟨tb, k, none⟩ = false := by
  refine ⟨?_, h.frozen k⟩
  rw [h.cell]; simp [hk]
theorem LInv.tbNe (h : LInv w n tb lb ab sb sm rb wr who s L) : tb ≠ ab ∧ tb ≠ sb ∧ tb ≠ sm ∧ tb ≠ lb := by
  have e := h.yard.mach h.row (by decide) (by decide) (by decide)
  refine ⟨e.1, e.2.1, e.2.2, ?_⟩
  rintro rfl
  have := (h.row.uniq h.lay).2; revert this; decide
theorem LInv.put (h : LInv w n tb lb ab sb sm rb wr who s L) {k : Nat} {o : Option Nat} (ho : ∀ mb, o = some mb → IsTake (tb + 1) wr mb 2 n k) :
    LInv w n tb lb ab sb sm rb (wr.setCell ⟨tb, k, none⟩ (ptrV o)) who s (L.set k o) := by
  obtain ⟨t1, t2, t3, t4⟩ := h.tbNe
  have hO := (Only.refl (fun j => j = tb) wr).setCell (p := ⟨tb, k, none⟩) (.inl rfl) (ptrV o)
  have keep : ∀ (j mb : Nat), IsTake (tb + 1) wr mb 2 n j → IsTake (tb + 1) (wr.setCell ⟨tb, k, none⟩ (ptrV o)) mb 2 n j := fun j mb hi =>
    hi.only hO (by have := hi.low; omega) (fun b x t hb _ e => by omega)
  refine ⟨h.yard.only hO t1.symm t2.symm t3.symm, h.big, h.word, h.who, by simpa using h.len, ?_, fun j mb e => ?_, h.lay.only hO t4.symm, h.low, h.adds.setCell (.inr h.low.2.2.2.1) _⟩
  · have := h.row.setCell k (ptrV o)
    simpa [List.map_set] using this
  · rw [List.getElem?_set] at e
    by_cases hk : k = j
    · subst hk
      by_cases hl : k < L.length
      · simp [hl] at e; exact keep _ _ (ho mb e)
      · simp [hl] at e
    · simp [hk] at e; exact keep _ _ (h.live j mb e)
/-- What an access does, with a machine's block m. -/
theorem LInv.keep {m : Nat} {cm : Array Value} {tm : TypeId} (h : LInv w n tb lb ab sb sm rb wr who s L) (ho : Only (fun j => SB sb sm j ∨ j = m) wr w') (hbm : Blk wr m cm tm) (hcm : cm.size = 3) (htm : tm = 94 ∨ tm = 91) (hm : w.heap.size ≤ m) :
    Blk w' tb (L.map ptrV).toArray 39 ∧ Blk w' lb #[.int .i64 2, .int .i64 n] 24 ∧ Adds w w' ∧ (∀ (j mb : Nat), L[j]? = some (some mb) → mb ≠ m → IsTake (tb + 1) w' mb 2 n j) := by
  have big := h.big
  have hs : ∀ (b : Nat) (x : Value) (t : TypeId), Blk wr b #[x] t → ¬ (SB sb sm b ∨ b = m) := by
    rintro b x t hb (e | rfl)
    · exact h.yard.multi (by omega) hb e
    · have e := congrArg Array.size (hb.uniq hbm).1; rw [hcm] at e; simp at e
  have hne : ∀ (b : Nat) (c : Array Value) (t : TypeId), Blk wr b c t → t ≠ 99 → t ≠ 33 → t ≠ 94 → t ≠ 91 → ¬ (SB sb sm b ∨ b = m) := by
    rintro b c t hb h1 h2 h3 h4 ((rfl | rfl) | rfl)
    · exact h1 (hb.uniq h.yard.st.head).2
    · exact h2 (hb.uniq h.yard.st.row).2
    · have e := (hb.uniq hbm).2
      rcases htm with rfl | rfl
      · exact h3 e
      · exact h4 e
  refine ⟨h.row.only ho (hne _ _ _ h.row (by decide) (by decide) (by decide) (by decide)), h.lay.only ho (hne _ _ _ h.lay (by decide) (by decide) (by decide) (by decide)), ?_, fun j mb e hnm => ?_⟩
  · exact h.adds.andThen ho (fun i hi e => by
      have := h.low
      rcases e with (rfl | rfl) | rfl <;> omega)
  · have hi := h.live j mb e
    refine hi.only ho ?_ (fun b x t _ hb => hs b x t hb)
    rintro (e2 | e2)
    · obtain ⟨q, q2, _, _, _, hq, _⟩ := hi
      rcases e2 with rfl | rfl
      · have := (hq.uniq h.yard.st.head).2; revert this; decide
      · have := (hq.uniq h.yard.st.row).2; revert this; decide
    · exact hnm e2
/-- Two that wait are two. -/
theorem IsTake.same {lo lo' : Nat} {m : Nat} {P T t t' : Int} (h : IsTake lo wr m P T t) (k : IsTake lo' wr m P T t') : t = t' := by
  obtain ⟨q, j, _, _, _, h1, h2, _⟩ := h
  obtain ⟨q', j', _, _, _, k1, k2, _⟩ := k
  have e := (h1.uniq k1).1
  simp only [casF] at e
  have e2 : q = q' := by injection e with e; simpa using e
  subst e2
  have e3 := (h2.b2.uniq k2.b2).1
  have : t + 1 = t' + 1 := by simpa using e3
  omega
theorem LInv.acc (h : LInv w n tb lb ab sb sm rb wr who s L) (hr : Blk w' tb (L.map ptrV).toArray 39) (hl : Blk w' lb #[.int .i64 2, .int .i64 n] 24) (ha : Adds w w') (hy : Yard w' ab sb sm rb 2 n s') {who' : Int} (hlen : s'.ws.length = s.ws.length) (hw : s'.word 2 = who' + 1) (hwho : -1 ≤ who' ∧ who' < n) {L' : List (Option Nat)} (hL : L'.length = L.length)
    (hrow : L'.map ptrV = L.map ptrV) (hlive : ∀ (j mb : Nat), L'[j]? = some (some mb) → IsTake (tb + 1) w' mb 2 n j) : LInv w n tb lb ab sb sm rb w' who' s' L' :=
  ⟨hy, by rw [hlen]; exact h.big, hw, hwho, by rw [hL]; exact h.len, by rw [hrow]; exact hr, hlive, hl, h.low, ha⟩
/-- A take that has lost: it waits on. -/
theorem LInv.lost (h : LInv w n tb lb ab sb sm rb wr who s L) (ho : Only (fun j => SB sb sm j) wr w') (hy : Yard w' ab sb sm rb 2 n (s.acc 4 2 (s.word 2))) {k mb : Nat} (hk : L[k]? = some (some mb)) (hi : IsTake (tb + 1) w' mb 2 n k) : LInv w n tb lb ab sb sm rb w' who (s.acc 4 2 (s.word 2)) L := by
  obtain ⟨q, q2, q3, _, _, hq, _⟩ := h.live k mb hk
  have hlow := h.low
  obtain ⟨a1, a2, a3, a4⟩ := h.keep (ho.mono (fun _ _ => .inl)) hq rfl (.inl rfl) (by omega)
  refine h.acc a1 a2 a3 hy (by simp [StoreS.acc]) (by rw [StoreS.acc_word h.inR]; exact h.word) h.who rfl rfl (fun j m e => ?_)
  by_cases em : m = mb
  · subst em
    have := (h.live j m e).same (h.live k m hk)
    rw [this]; exact hi
  · exact a4 j m e em
/-- A take that has won, and is struck from those that wait. -/
theorem LInv.won (h : LInv w n tb lb ab sb sm rb wr who s L) {k mb : Nat} (hkn : k < n) (hk : L[k]? = some (some mb)) (ho : Only (fun j => SB sb sm j ∨ j = mb) wr w') (hy : Yard w' ab sb sm rb 2 n (s.acc 3 2 (k + 1))) {w3 : World} (ha : Adds w' w3) :
    Blk w3 tb (L.map ptrV).toArray 39 ∧ LInv w n tb lb ab sb sm rb (w3.setCell ⟨tb, k, none⟩ (.pointer none)) k (s.acc 3 2 (k + 1)) (L.set k none) := by
  have hlv := h.live k mb hk
  have hlow := h.low
  have hmlow := hlv.low
  obtain ⟨q, q2, q3, _, _, hq, _⟩ := hlv
  obtain ⟨a1, a2, a3, a4⟩ := h.keep ho hq rfl (.inl rfl) (by omega)
  obtain ⟨t1, t2, t3, t4⟩ := h.tbNe
  have b1 := a1.only ha id
  have hO := (Only.refl (fun j => j = tb) w3).setCell (p := ⟨tb, k, none⟩) (.inl rfl) (.pointer none)
  refine ⟨b1, ⟨(hy.adds ha).only hO t1.symm t2.symm t3.symm, by have := h.big; simpa [StoreS.acc] using this, by rw [StoreS.acc_word h.inR], ⟨by omega, by omega⟩, by simpa using h.len, ?_, fun j m e => ?_, (a2.only ha id).only hO t4.symm, h.low, (a3.thenF ha).setCell (.inr hlow.2.2.2.1) _⟩⟩
  · have := b1.setCell k (ptrV none)
    simpa [List.map_set, ptrV] using this
  · rw [List.getElem?_set] at e
    by_cases hkj : k = j
    · subst hkj
      split at e
      · split at e <;> simp at e
      · contradiction
    · simp [hkj] at e
      have hm : m ≠ mb := by
        rintro rfl
        have := (h.live j m e).same (h.live k m hk)
        omega
      have hi := (a4 j m e hm).adds ha
      exact hi.only hO (by have := hi.low; omega) (fun b x t hb _ e => by omega)
/-- A leave. -/
theorem LInv.left (h : LInv w n tb lb ab sb sm rb wr who s L) {m : Nat} {cm : Array Value} (hbm : Blk wr m cm 91) (hcm : cm.size = 3) (hm : w.heap.size ≤ m) (ho : Only (fun j => SB sb sm j ∨ j = m) wr w') (hy : Yard w' ab sb sm rb 2 n (s.acc 2 2 0)) :
    LInv w n tb lb ab sb sm rb w' (-1) (s.acc 2 2 0) L := by
  obtain ⟨a1, a2, a3, a4⟩ := h.keep ho hbm hcm (.inr rfl) hm
  refine h.acc a1 a2 a3 hy (by simp [StoreS.acc]) (by rw [StoreS.acc_word h.inR]; rfl) ⟨by omega, by have := h.who; omega⟩ rfl rfl (fun j mb e => a4 j mb e ?_)
  rintro rfl
  obtain ⟨q, q2, q3, _, _, hq, _⟩ := h.live j mb e
  have := (hq.uniq hbm).2; revert this; decide
end
end Go.Proofs.Ytipeijkpiglbfaa

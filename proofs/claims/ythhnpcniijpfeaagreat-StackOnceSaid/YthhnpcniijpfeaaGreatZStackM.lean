/- Package stack: a pop and a push, as automata: each step. By an AI agent. -/
import Derived.Test.YthhnpcniijpfeaaGreatZ7
import Derived.Test.YthhnpcniijpfeaaGreatZC
namespace Go.Proofs.YthhnpcniijpfeaaGreat
open Go.RowKit
set_option linter.unusedSimpArgs false
set_option linter.unusedVariables false
/-- A program's pop at a state; at its end. -/
def PopA (P T hd : Int) (w : World) (m : Nat) : PopSt → Prop
  | .load => ∃ was, Pop1 w m P T hd was (-1)
  | .next v => (0 ≤ v ∧ v < 18446744073709551616) ∧ (0 ≤ Tag.pg v ∧ Tag.pg v < P) ∧ Pop2 w m P T hd v (-1)
  | .cas v x => (0 ≤ v ∧ v < 18446744073709551616) ∧ (0 ≤ Tag.pg v ∧ Tag.pg v < P) ∧ (0 ≤ x ∧ x ≤ P) ∧ Pop3 w m P T hd v (-1) x
def PopX (P T hd : Int) (w : World) (m : Nat) : PopSt ⊕ Int → Prop
  | .inl k => PopA P T hd w m k
  | .inr p => ∃ was, Desk w m (poC P T hd was p) 78 .done
def PushA (P T hd pg : Int) (w : World) (m : Nat) : PushSt → Prop
  | .load => Push1 w m P T hd pg
  | .put v => (0 ≤ v ∧ v < 18446744073709551616) ∧ Push2 w m P T hd pg v
  | .cas v => (0 ≤ v ∧ v < 18446744073709551616) ∧ Push3 w m P T hd pg v
def PushX (P T hd pg : Int) (w : World) (m : Nat) : PushSt ⊕ Int → Prop
  | .inl k => PushA P T hd pg w m k
  | .inr _ => Desk w m (puC P T hd pg) 76 .done
theorem Stays.cond {Q : World → Prop} {p : Prop} (h : Stays Q) : Stays (fun w => p ∧ Q w) := fun a b ho q => ⟨q.1, h a b ho q.2⟩
theorem pop1_stays (m : Nat) (P T hd was pg : Int) : Stays (fun w => Pop1 w m P T hd was pg) := Desk.stays _ _ _ _ (by decide)
theorem pop3_stays (m : Nat) (P T hd was pg x : Int) : Stays (fun w => Pop3 w m P T hd was pg x) := fun a b ho => by
  rintro ⟨jm, h2, h3⟩
  exact ⟨jm, h2.dids ho (by decide), Desk.stays _ _ _ _ (by decide) a b ho h3⟩
theorem PopA.stays (P T hd : Int) (m : Nat) (k : PopSt) : Stays (fun w => PopA P T hd w m k) := fun a b ho h => by
  cases k with
  | load => obtain ⟨was, h⟩ := h; exact ⟨was, pop1_stays _ _ _ _ _ _ a b ho h⟩
  | next v => exact ⟨h.1, h.2.1, Desk.stays _ _ _ _ (by decide) a b ho h.2.2⟩
  | cas v x => exact ⟨h.1, h.2.1, h.2.2.1, pop3_stays _ _ _ _ _ _ _ a b ho h.2.2.2⟩
theorem PopX.stays (P T hd : Int) (m : Nat) (k : PopSt ⊕ Int) : Stays (fun w => PopX P T hd w m k) := fun a b ho h => by
  cases k with
  | inl k => exact PopA.stays P T hd m k a b ho h
  | inr p => obtain ⟨was, h⟩ := h; exact ⟨was, Desk.stays _ _ _ _ (by decide) a b ho h⟩
theorem PopA.keep {P T hd : Int} {w w' : World} {m : Nat} {k : PopSt} {S : Nat → Prop} (h : PopA P T hd w m k) (ho : Only S w w') (hm : ¬ S m) (hs : ∀ b x t, Blk w b #[x] t → ¬ S b) : PopA P T hd w' m k := by
  cases k with
  | load => obtain ⟨was, h⟩ := h; exact ⟨was, Desk.only h ho hm hs⟩
  | next v => exact ⟨h.1, h.2.1, Desk.only h.2.2 ho hm hs⟩
  | cas v x => obtain ⟨h1, h2, h3, jm, h4, h5⟩ := h; exact ⟨h1, h2, h3, jm, h4.only ho (hs _ _ _ h4), Desk.only h5 ho hm hs⟩
theorem PopX.keep {P T hd : Int} {w w' : World} {m : Nat} {k : PopSt ⊕ Int} {S : Nat → Prop} (h : PopX P T hd w m k) (ho : Only S w w') (hm : ¬ S m) (hs : ∀ b x t, Blk w b #[x] t → ¬ S b) : PopX P T hd w' m k := by
  cases k with
  | inl k => exact PopA.keep h ho hm hs
  | inr p => obtain ⟨was, h⟩ := h; exact ⟨was, Desk.only h ho hm hs⟩
/-- The page that a pop tells; is a machine over? -/
def pgOf {σ : Type} : σ ⊕ Int → Int
  | .inl _ => -1
  | .inr p => p
def overB {σ : Type} : σ ⊕ Int → Bool
  | .inl _ => false
  | .inr _ => true
/-- What a machine has next. -/
def NxOk {σ : Type} (nx : Value) : σ ⊕ Int → Prop
  | .inl _ => ∃ fn f q, nx = .func fn f q
  | .inr _ => nx = .nilFunc
/-- A pop's page is a cell of its own. -/
theorem PopX.blk {P T hd : Int} {w : World} {m : Nat} {k : PopSt ⊕ Int} (h : PopX P T hd w m k) : ∃ nx was, Blk w m (poC P T hd was (pgOf k) nx) 78 ∧ NxOk nx k := by
  cases k with
  | inl k =>
    cases k with
    | load => obtain ⟨was, n, h1, h2⟩ := h; exact ⟨_, was, h1, _, _, _, rfl⟩
    | next v => obtain ⟨_, _, n, h1, h2⟩ := h; exact ⟨_, v, h1, _, _, _, rfl⟩
    | cas v x => obtain ⟨_, _, _, jm, _, n, h1, h2⟩ := h; exact ⟨_, v, h1, _, _, _, rfl⟩
  | inr p => obtain ⟨was, h⟩ := h; exact ⟨_, was, h, rfl⟩
theorem PushX.stays (P T hd pg : Int) (m : Nat) (k : PushSt ⊕ Int) : Stays (fun w => PushX P T hd pg w m k) := fun a b ho h => by
  rcases k with k | p
  · cases k with
    | load => exact Desk.stays _ _ _ _ (by decide) a b ho (show Push1 a m P T hd pg from h)
    | put v => obtain ⟨h0, jw, jm, h1, h2, h3⟩ := h; exact ⟨h0, jw, jm, h1.dids ho (by decide), h2.dids ho (by decide), Desk.stays _ _ _ _ (by decide) a b ho h3⟩
    | cas v => obtain ⟨h0, jm, h2, h3⟩ := h; exact ⟨h0, jm, h2.dids ho (by decide), Desk.stays _ _ _ _ (by decide) a b ho h3⟩
  · exact Desk.stays _ _ _ _ (by decide) a b ho (show Desk a m (puC P T hd pg) 76 .done from h)
theorem PushX.keep {P T hd pg : Int} {w w' : World} {m : Nat} {k : PushSt ⊕ Int} {S : Nat → Prop} (h : PushX P T hd pg w m k) (ho : Only S w w') (hm : ¬ S m) (hs : ∀ b x t, Blk w b #[x] t → ¬ S b) : PushX P T hd pg w' m k := by
  rcases k with k | p
  · cases k with
    | load => exact Desk.only (show Push1 w m P T hd pg from h) ho hm hs
    | put v => obtain ⟨h0, jw, jm, h1, h2, h3⟩ := h; exact ⟨h0, jw, jm, h1.only ho (hs _ _ _ h1), h2.only ho (hs _ _ _ h2), Desk.only h3 ho hm hs⟩
    | cas v => obtain ⟨h0, jm, h2, h3⟩ := h; exact ⟨h0, jm, h2.only ho (hs _ _ _ h2), Desk.only h3 ho hm hs⟩
  · exact Desk.only (show Desk w m (puC P T hd pg) 76 .done from h) ho hm hs
theorem PushX.blk {P T hd pg : Int} {w : World} {m : Nat} {k : PushSt ⊕ Int} (h : PushX P T hd pg w m k) : ∃ nx, Blk w m (puC P T hd pg nx) 76 ∧ NxOk nx k := by
  rcases k with k | p
  · cases k with
    | load => obtain ⟨n, h1, h2⟩ := h; exact ⟨_, h1, _, _, _, rfl⟩
    | put v => obtain ⟨_, jw, jm, _, _, n, h1, h2⟩ := h; exact ⟨_, h1, _, _, _, rfl⟩
    | cas v => obtain ⟨_, jm, _, n, h1, h2⟩ := h; exact ⟨_, h1, _, _, _, rfl⟩
  · exact ⟨_, h, rfl⟩
theorem act_agg (c : Ac) (s : StoreS) : (c.act s) = (match c with | .load a => s.acc 1 a (s.word a) | .put a v => s.acc 2 a v | .cas a o v => if s.word a = o then s.acc 3 a v else s.acc 4 a (s.word a) | .add a v => s.acc 5 a ((s.word a + v) % 18446744073709551616)) := by cases c <;> rfl
section
variable {w : World} {m ab sb sm rb : Nat} {P T hd pg : Int} {s : StoreS}
/-- What a step that was an access leaves. -/
def StQ (X : World → Prop) (m ab sb sm rb : Nat) (P T : Int) (c : Ac) (s : StoreS) (w : World) (e : Ending) (w' : World) : Prop :=
  e = .returned (.agg #[.int .i64 (c.act s).k, .int .i64 (c.act s).pos, .int .u64 (c.act s).old, .int .u64 (c.act s).new]) ∧ (X w' ∧ Yard w' ab sb sm rb P T (c.act s)) ∧ Only (fun j => SB sb sm j ∨ j = m) w w'
theorem nextAt_nx {P T p : Int} (hm : Lay.may P T = true) (h0 : 0 ≤ p) (h1 : p < P) : Lay.nextAt P T p = nxAt P T p := by
  unfold Lay.nextAt atV nxAt; rw [pageOk_11 hm h0 h1, if_pos rfl]
theorem under_eq {x : Int} (h0 : 0 ≤ x) (h1 : x ≤ 4096) : underV x = x - 1 := by unfold underV; split <;> omega
theorem popS_none (h : PopA P T hd w m .load) (hY : Yard w ab sb sm rb P T s) (hbig : 1 < s.ws.length) (hi : s.inR hd) (hn : Tag.pg (s.word hd) < 0) :
    Calls Tryz.prog 11 #[.pointer (some ⟨m, 0, none⟩), .pointer (some ⟨ab, 0, none⟩)] w (StQ (fun w' => PopX P T hd w' m (.inr (-1))) m ab sb sm rb P T (.load hd) s w) := by
  obtain ⟨was, h⟩ := h
  have hml : m < w.heap.size := by obtain ⟨_, hb, _⟩ := Desk.blk h; exact hb.lt
  have hw := StoreS.word_bd hY.st.fit hd
  have hlt := hY.st.head.lt; have hlt2 := hY.st.row.lt
  refine stackPopStep_some (Q := fun w' => (PopX P T hd w' m (.inr (-1))) ∧ Yard w' ab sb sm rb P T _) (S := fun j => SB sb sm j ∨ j = m) (Stays.and (PopX.stays _ _ _ _ _) (fun _ _ ho h => Yard.dids h ho)) (fun j hj => hj.elim (fun e => e.elim (· ▸ hlt) (· ▸ hlt2)) (· ▸ hml)) (fun w1 ho => ?_)
  exact Desk.stepLoad (poCells P T hd was (-1)) (by decide) (Desk.adds h ho) (hY.adds ho) hbig hi (PopX.stays _ _ _ _ _) (enters_of Tryz.func71 (by kernel_rfl) rfl) (fun w2 nx _ hb _ => (pop_top_none hw.1 hw.2 hn hb).mono (fun e w3 q => ⟨q.1, ⟨_, q.2.1⟩, q.2.2⟩))
theorem popS_some (h : PopA P T hd w m .load) (hY : Yard w ab sb sm rb P T s) (hbig : 1 < s.ws.length) (hi : s.inR hd) (hn : 0 ≤ Tag.pg (s.word hd)) (hn2 : Tag.pg (s.word hd) < P) :
    Calls Tryz.prog 11 #[.pointer (some ⟨m, 0, none⟩), .pointer (some ⟨ab, 0, none⟩)] w (StQ (fun w' => PopX P T hd w' m (.inl (.next (s.word hd)))) m ab sb sm rb P T (.load hd) s w) := by
  obtain ⟨was, h⟩ := h
  have hml : m < w.heap.size := by obtain ⟨_, hb, _⟩ := Desk.blk h; exact hb.lt
  have hw := StoreS.word_bd hY.st.fit hd
  have hlt := hY.st.head.lt; have hlt2 := hY.st.row.lt
  refine stackPopStep_some (Q := fun w' => (PopX P T hd w' m (.inl (.next (s.word hd)))) ∧ Yard w' ab sb sm rb P T _) (S := fun j => SB sb sm j ∨ j = m) (Stays.and (PopX.stays _ _ _ _ _) (fun _ _ ho h => Yard.dids h ho)) (fun j hj => hj.elim (fun e => e.elim (· ▸ hlt) (· ▸ hlt2)) (· ▸ hml)) (fun w1 ho => ?_)
  exact Desk.stepLoad (poCells P T hd was (-1)) (by decide) (Desk.adds h ho) (hY.adds ho) hbig hi (PopX.stays _ _ _ _ _) (enters_of Tryz.func71 (by kernel_rfl) rfl) (fun w2 nx _ hb _ => (pop_top_some hw.1 hw.2 hn hb).mono (fun e w3 q => ⟨q.1, ⟨hw, ⟨hn, hn2⟩, q.2.1⟩, q.2.2⟩))
theorem popS_next {v : Int} (hm : Lay.may P T = true) (h : PopA P T hd w m (.next v)) (hY : Yard w ab sb sm rb P T s) (hbig : 1 < s.ws.length) (hi : s.inR (nxAt P T (Tag.pg v))) (hx : s.word (nxAt P T (Tag.pg v)) ≤ P) :
    Calls Tryz.prog 11 #[.pointer (some ⟨m, 0, none⟩), .pointer (some ⟨ab, 0, none⟩)] w (StQ (fun w' => PopX P T hd w' m (.inl (.cas v (s.word (nxAt P T (Tag.pg v)))))) m ab sb sm rb P T (.load (nxAt P T (Tag.pg v))) s w) := by
  obtain ⟨hv, hp, h⟩ := h
  have hml : m < w.heap.size := by obtain ⟨_, hb, _⟩ := Desk.blk h; exact hb.lt
  have hw := StoreS.word_bd hY.st.fit (nxAt P T (Tag.pg v))
  unfold Pop2 at h
  rw [nextAt_nx hm hp.1 hp.2] at h
  have hlt := hY.st.head.lt; have hlt2 := hY.st.row.lt
  refine stackPopStep_some (Q := fun w' => (PopX P T hd w' m (.inl (.cas v (s.word (nxAt P T (Tag.pg v)))))) ∧ Yard w' ab sb sm rb P T _) (S := fun j => SB sb sm j ∨ j = m) (Stays.and (PopX.stays _ _ _ _ _) (fun _ _ ho h => Yard.dids h ho)) (fun j hj => hj.elim (fun e => e.elim (· ▸ hlt) (· ▸ hlt2)) (· ▸ hml)) (fun w1 ho => ?_)
  exact Desk.stepLoad (poCells P T hd v (-1)) (by decide) (Desk.adds h ho) (hY.adds ho) hbig hi (PopX.stays _ _ _ _ _) (enters_of Tryz.func95 (by kernel_rfl) rfl) (fun w2 nx _ hb _ => (pop_next hv hw.1 hw.2 hb).mono (fun e w3 q => ⟨q.1, ⟨hv, hp, ⟨hw.1, hx⟩, q.2.1⟩, q.2.2⟩))
theorem popS_win {v x : Int} (hP4 : P ≤ 4096) (h : PopA P T hd w m (.cas v x)) (hY : Yard w ab sb sm rb P T s) (hbig : 1 < s.ws.length) (hi : s.inR hd) (hx : s.word hd = v) :
    Calls Tryz.prog 11 #[.pointer (some ⟨m, 0, none⟩), .pointer (some ⟨ab, 0, none⟩)] w (StQ (fun w' => PopX P T hd w' m (.inr (Tag.pg v))) m ab sb sm rb P T (.cas hd v (Tag.nx v (x - 1))) s w) := by
  obtain ⟨hv, hp, hxx, jm, hjm, hd'⟩ := h
  have hml : m < w.heap.size := by obtain ⟨_, hb, _⟩ := Desk.blk hd'; exact hb.lt
  rw [under_eq hxx.1 (Int.le_trans hxx.2 hP4)] at hd'
  have e1 : (Ac.cas hd v (Tag.nx v (x - 1))).act s = s.acc 3 hd (Tag.nx v (x - 1)) := by simp only [Ac.act]; rw [if_pos hx]
  unfold StQ
  rw [e1]
  have hlt := hY.st.head.lt; have hlt2 := hY.st.row.lt
  refine stackPopStep_some (Q := fun w' => (PopX P T hd w' m (.inr (Tag.pg v))) ∧ Yard w' ab sb sm rb P T _) (S := fun j => SB sb sm j ∨ j = m) (Stays.and (PopX.stays _ _ _ _ _) (fun _ _ ho h => Yard.dids h ho)) (fun j hj => hj.elim (fun e => e.elim (· ▸ hlt) (· ▸ hlt2)) (· ▸ hml)) (fun w1 ho => ?_)
  exact Desk.stepCasWin (poCells P T hd v (-1)) (by decide) (hd'.adds ho) (hY.adds ho) hbig hi hx (Tag.nx_bd hv.1 hv.2 _) (PopX.stays _ _ _ _ _) (enters_of Tryz.func128 (by kernel_rfl) rfl) (fun w2 nx hk hb => (pop_won hv (hk _ _ _ (hjm.only ho id)) hb).mono (fun e w3 q => ⟨q.1, ⟨_, q.2.1⟩, q.2.2⟩))
theorem popS_lost {v x : Int} (hP4 : P ≤ 4096) (h : PopA P T hd w m (.cas v x)) (hY : Yard w ab sb sm rb P T s) (hbig : 1 < s.ws.length) (hi : s.inR hd) (hx : s.word hd ≠ v) :
    Calls Tryz.prog 11 #[.pointer (some ⟨m, 0, none⟩), .pointer (some ⟨ab, 0, none⟩)] w (StQ (fun w' => PopX P T hd w' m (.inl .load)) m ab sb sm rb P T (.cas hd v (Tag.nx v (x - 1))) s w) := by
  obtain ⟨hv, hp, hxx, jm, hjm, hd'⟩ := h
  have hml : m < w.heap.size := by obtain ⟨_, hb, _⟩ := Desk.blk hd'; exact hb.lt
  rw [under_eq hxx.1 (Int.le_trans hxx.2 hP4)] at hd'
  have e1 : (Ac.cas hd v (Tag.nx v (x - 1))).act s = s.acc 4 hd (s.word hd) := by simp only [Ac.act]; rw [if_neg hx]
  unfold StQ
  rw [e1]
  have hlt := hY.st.head.lt; have hlt2 := hY.st.row.lt
  refine stackPopStep_some (Q := fun w' => (PopX P T hd w' m (.inl .load)) ∧ Yard w' ab sb sm rb P T _) (S := fun j => SB sb sm j ∨ j = m) (Stays.and (PopX.stays _ _ _ _ _) (fun _ _ ho h => Yard.dids h ho)) (fun j hj => hj.elim (fun e => e.elim (· ▸ hlt) (· ▸ hlt2)) (· ▸ hml)) (fun w1 ho => ?_)
  exact Desk.stepCasLost (poCells P T hd v (-1)) (by decide) (hd'.adds ho) (hY.adds ho) hbig hi hx (PopX.stays _ _ _ _ _) (enters_of Tryz.func128 (by kernel_rfl) rfl) (fun w2 nx hk hb _ => (pop_lost (hk _ _ _ (hjm.only ho id)) hb).mono (fun e w3 q => ⟨q.1, ⟨_, q.2.1⟩, q.2.2⟩))
theorem popA_step {k : PopSt} (hh : HD P T hd) (h : PopA P T hd w m k) (hY : Yard w ab sb sm rb P T s) (hlen : s.ws.length = (Lay.words P T).toNat) (hx : (popA P T hd).nx k (s.word ((popA P T hd).ac k).pos) ≠ .inr (-2)) :
    Calls Tryz.prog 11 #[.pointer (some ⟨m, 0, none⟩), .pointer (some ⟨ab, 0, none⟩)] w (StQ (fun w' => PopX P T hd w' m ((popA P T hd).nx k (s.word ((popA P T hd).ac k).pos))) m ab sb sm rb P T ((popA P T hd).ac k) s w) := by
  have hwd := hh.words
  have hl := hh.lo; have hu := hh.hi
  have hbig : 1 < s.ws.length := by rw [hlen]; omega
  have hi : s.inR hd := ⟨by omega, by rw [hlen]; omega⟩
  cases k with
  | load =>
    by_cases c1 : Tag.pg (s.word hd) < 0
    · have e : (popA P T hd).nx .load (s.word hd) = .inr (-1) := by show (if _ then _ else _) = _; rw [if_pos c1]
      have := popS_none h hY hbig hi c1
      rw [← e] at this
      exact this
    · by_cases c2 : P ≤ Tag.pg (s.word hd)
      · exact absurd (show (popA P T hd).nx .load (s.word hd) = .inr (-2) by show (if _ then _ else if _ then _ else _) = _; rw [if_neg c1, if_pos c2]) hx
      · have e : (popA P T hd).nx .load (s.word hd) = .inl (.next (s.word hd)) := by show (if _ then _ else if _ then _ else _) = _; rw [if_neg c1, if_neg c2]
        have := popS_some h hY hbig hi (by omega) (by omega)
        rw [← e] at this
        exact this
  | next v =>
    have hp := h.2.1
    have hnx := nxAt_eq hh.may hp.1 hp.2
    have hin : s.inR (nxAt P T (Tag.pg v)) := ⟨by omega, by rw [hlen]; omega⟩
    by_cases c1 : P < s.word (nxAt P T (Tag.pg v))
    · exact absurd (show (popA P T hd).nx (.next v) (s.word (nxAt P T (Tag.pg v))) = .inr (-2) by show (if _ then _ else _) = _; rw [if_pos c1]) hx
    · have e : (popA P T hd).nx (.next v) (s.word (nxAt P T (Tag.pg v))) = .inl (.cas v (s.word (nxAt P T (Tag.pg v)))) := by show (if _ then _ else _) = _; rw [if_neg c1]
      have := popS_next hh.may h hY hbig hin (by omega)
      rw [← e] at this
      exact this
  | cas v x =>
    by_cases c1 : s.word hd = v
    · have e : (popA P T hd).nx (.cas v x) (s.word hd) = .inr (Tag.pg v) := by show (if _ then _ else _) = _; rw [if_pos c1]
      have := popS_win (Lay.may_iff.1 hh.may).2.1 h hY hbig hi c1
      rw [← e] at this
      exact this
    · have e : (popA P T hd).nx (.cas v x) (s.word hd) = .inl .load := by show (if _ then _ else _) = _; rw [if_neg c1]
      have := popS_lost (Lay.may_iff.1 hh.may).2.1 h hY hbig hi c1
      rw [← e] at this
      exact this
theorem popX_page {k : PopSt ⊕ Int} (h : PopX P T hd w m k) : Calls Tryz.prog 13 #[.pointer (some ⟨m, 0, none⟩)] w fun e w' => e = .returned (.int .i64 (pgOf k)) ∧ w = w' := by
  obtain ⟨nx, was, hb, _⟩ := h.blk
  obtain ⟨p, hp⟩ : ∃ p, p = pgOf k := ⟨_, rfl⟩
  rw [← hp] at hb ⊢
  have c5 : w.cell? ⟨m, 5, none⟩ = some (.int .i64 p) := hb.cell 5
  clear h hb hp
  go_enter Tryz.func13, Tryz.ntmps13
  go_wp2
  go_ret
  exact ⟨rfl, rfl⟩
theorem popX_done {k : PopSt ⊕ Int} (h : PopX P T hd w m k) : Calls Tryz.prog 12 #[.pointer (some ⟨m, 0, none⟩)] w fun e w' => e = .returned (.bool (overB k)) ∧ w = w' := by
  obtain ⟨nx, was, hb, hn⟩ := h.blk
  cases k with
  | inl k => obtain ⟨fn, f, q, rfl⟩ := hn; exact stackPopDone_no (hb.cell 2)
  | inr p => obtain rfl := hn; exact stackPopDone_yes (hb.cell 2)
theorem pushS_load (h : PushA P T hd pg w m .load) (hY : Yard w ab sb sm rb P T s) (hbig : 1 < s.ws.length) (hi : s.inR hd) :
    Calls Tryz.prog 9 #[.pointer (some ⟨m, 0, none⟩), .pointer (some ⟨ab, 0, none⟩)] w (StQ (fun w' => PushX P T hd pg w' m (.inl (.put (s.word hd)))) m ab sb sm rb P T (.load hd) s w) := by
  have hml : m < w.heap.size := by obtain ⟨_, hb, _⟩ := Desk.blk (show Push1 w m P T hd pg from h); exact hb.lt
  have hw := StoreS.word_bd hY.st.fit hd
  have hlt := hY.st.head.lt; have hlt2 := hY.st.row.lt
  refine stackPushStep_some (Q := fun w' => (PushX P T hd pg w' m (.inl (.put (s.word hd)))) ∧ Yard w' ab sb sm rb P T _) (S := fun j => SB sb sm j ∨ j = m) (Stays.and (PushX.stays _ _ _ _ _ _) (fun _ _ ho h => Yard.dids h ho)) (fun j hj => hj.elim (fun e => e.elim (· ▸ hlt) (· ▸ hlt2)) (· ▸ hml)) (fun w1 ho => ?_)
  exact Desk.stepLoad (puCells P T hd pg) (by decide) (Desk.adds (show Push1 w m P T hd pg from h) ho) (hY.adds ho) hbig hi (PushX.stays _ _ _ _ _ _) (enters_of Tryz.func63 (by kernel_rfl) rfl) (fun w2 nx _ hb _ => (push_top hw.1 hw.2 hb).mono (fun e w3 q => ⟨q.1, ⟨hw, q.2.1⟩, q.2.2⟩))
theorem pushS_put {v : Int} (hm : Lay.may P T = true) (hp0 : 0 ≤ pg) (hp1 : pg < P) (hp2 : pg < 4096) (h : PushA P T hd pg w m (.put v)) (hY : Yard w ab sb sm rb P T s) (hbig : 1 < s.ws.length) (hi : s.inR (nxAt P T pg)) :
    Calls Tryz.prog 9 #[.pointer (some ⟨m, 0, none⟩), .pointer (some ⟨ab, 0, none⟩)] w (StQ (fun w' => PushX P T hd pg w' m (.inl (.cas v))) m ab sb sm rb P T (.put (nxAt P T pg) (Tag.pg v + 1)) s w) := by
  obtain ⟨hv, jw, jm, hjw, hjm, hd'⟩ := h
  have hml : m < w.heap.size := by obtain ⟨_, hb, _⟩ := Desk.blk hd'; exact hb.lt
  have hpb := tagPg_bd v
  rw [nextAt_nx hm hp0 hp1] at hd'
  have hlt := hY.st.head.lt; have hlt2 := hY.st.row.lt
  refine stackPushStep_some (Q := fun w' => (PushX P T hd pg w' m (.inl (.cas v))) ∧ Yard w' ab sb sm rb P T _) (S := fun j => SB sb sm j ∨ j = m) (Stays.and (PushX.stays _ _ _ _ _ _) (fun _ _ ho h => Yard.dids h ho)) (fun j hj => hj.elim (fun e => e.elim (· ▸ hlt) (· ▸ hlt2)) (· ▸ hml)) (fun w1 ho => ?_)
  exact Desk.stepPut (puCells P T hd pg) (by decide) (hd'.adds ho) (hY.adds ho) hbig hi (show 0 ≤ Tag.pg v + 1 ∧ Tag.pg v + 1 < 18446744073709551616 by omega) (PushX.stays _ _ _ _ _ _) (enters_of Tryz.func88 (by kernel_rfl) rfl) (fun w2 nx hk hb => (push_mid hv.1 hv.2 hp0 hp2 (hk _ _ _ (hjw.only ho id)) (hk _ _ _ (hjm.only ho id)) hb).mono (fun e w3 q => ⟨q.1, ⟨hv, q.2.1⟩, q.2.2⟩))
theorem pushS_win {v : Int} (h : PushA P T hd pg w m (.cas v)) (hY : Yard w ab sb sm rb P T s) (hbig : 1 < s.ws.length) (hi : s.inR hd) (hx : s.word hd = v) :
    Calls Tryz.prog 9 #[.pointer (some ⟨m, 0, none⟩), .pointer (some ⟨ab, 0, none⟩)] w (StQ (fun w' => PushX P T hd pg w' m (.inr 0)) m ab sb sm rb P T (.cas hd v (Tag.nx v pg)) s w) := by
  obtain ⟨hv, jm, hjm, hd'⟩ := h
  have hml : m < w.heap.size := by obtain ⟨_, hb, _⟩ := Desk.blk hd'; exact hb.lt
  have e1 : (Ac.cas hd v (Tag.nx v pg)).act s = s.acc 3 hd (Tag.nx v pg) := by simp only [Ac.act]; rw [if_pos hx]
  unfold StQ
  rw [e1]
  have hlt := hY.st.head.lt; have hlt2 := hY.st.row.lt
  refine stackPushStep_some (Q := fun w' => (PushX P T hd pg w' m (.inr 0)) ∧ Yard w' ab sb sm rb P T _) (S := fun j => SB sb sm j ∨ j = m) (Stays.and (PushX.stays _ _ _ _ _ _) (fun _ _ ho h => Yard.dids h ho)) (fun j hj => hj.elim (fun e => e.elim (· ▸ hlt) (· ▸ hlt2)) (· ▸ hml)) (fun w1 ho => ?_)
  exact Desk.stepCasWin (puCells P T hd pg) (by decide) (hd'.adds ho) (hY.adds ho) hbig hi hx (Tag.nx_bd hv.1 hv.2 _) (PushX.stays _ _ _ _ _ _) (enters_of Tryz.func91 (by kernel_rfl) rfl) (fun w2 nx hk hb => push_won (hk _ _ _ (hjm.only ho id)) hb)
theorem pushS_lost {v : Int} (h : PushA P T hd pg w m (.cas v)) (hY : Yard w ab sb sm rb P T s) (hbig : 1 < s.ws.length) (hi : s.inR hd) (hx : s.word hd ≠ v) :
    Calls Tryz.prog 9 #[.pointer (some ⟨m, 0, none⟩), .pointer (some ⟨ab, 0, none⟩)] w (StQ (fun w' => PushX P T hd pg w' m (.inl .load)) m ab sb sm rb P T (.cas hd v (Tag.nx v pg)) s w) := by
  obtain ⟨hv, jm, hjm, hd'⟩ := h
  have hml : m < w.heap.size := by obtain ⟨_, hb, _⟩ := Desk.blk hd'; exact hb.lt
  have e1 : (Ac.cas hd v (Tag.nx v pg)).act s = s.acc 4 hd (s.word hd) := by simp only [Ac.act]; rw [if_neg hx]
  unfold StQ
  rw [e1]
  have hlt := hY.st.head.lt; have hlt2 := hY.st.row.lt
  refine stackPushStep_some (Q := fun w' => (PushX P T hd pg w' m (.inl .load)) ∧ Yard w' ab sb sm rb P T _) (S := fun j => SB sb sm j ∨ j = m) (Stays.and (PushX.stays _ _ _ _ _ _) (fun _ _ ho h => Yard.dids h ho)) (fun j hj => hj.elim (fun e => e.elim (· ▸ hlt) (· ▸ hlt2)) (· ▸ hml)) (fun w1 ho => ?_)
  exact Desk.stepCasLost (puCells P T hd pg) (by decide) (hd'.adds ho) (hY.adds ho) hbig hi hx (PushX.stays _ _ _ _ _ _) (enters_of Tryz.func91 (by kernel_rfl) rfl) (fun w2 nx hk hb _ => push_lost (hk _ _ _ (hjm.only ho id)) hb)
theorem pushA_step {k : PushSt} (hh : HD P T hd) (hp0 : 0 ≤ pg) (hp1 : pg < P) (h : PushA P T hd pg w m k) (hY : Yard w ab sb sm rb P T s) (hlen : s.ws.length = (Lay.words P T).toNat) :
    Calls Tryz.prog 9 #[.pointer (some ⟨m, 0, none⟩), .pointer (some ⟨ab, 0, none⟩)] w (StQ (fun w' => PushX P T hd pg w' m ((pushA P T hd pg).nx k (s.word ((pushA P T hd pg).ac k).pos))) m ab sb sm rb P T ((pushA P T hd pg).ac k) s w) := by
  have hwd := hh.words
  have hl := hh.lo; have hu := hh.hi
  have hbig : 1 < s.ws.length := by rw [hlen]; omega
  have hi : s.inR hd := ⟨by omega, by rw [hlen]; omega⟩
  cases k with
  | load => exact pushS_load h hY hbig hi
  | put v =>
    have hnx := nxAt_eq hh.may hp0 hp1
    exact pushS_put hh.may hp0 hp1 (by omega) h hY hbig ⟨by omega, by rw [hlen]; omega⟩
  | cas v =>
    by_cases c1 : s.word hd = v
    · have e : (pushA P T hd pg).nx (.cas v) (s.word hd) = .inr 0 := by show (if _ then _ else _) = _; rw [if_pos c1]
      have := pushS_win h hY hbig hi c1
      rw [← e] at this
      exact this
    · have e : (pushA P T hd pg).nx (.cas v) (s.word hd) = .inl .load := by show (if _ then _ else _) = _; rw [if_neg c1]
      have := pushS_lost h hY hbig hi c1
      rw [← e] at this
      exact this
theorem pushX_done {k : PushSt ⊕ Int} (h : PushX P T hd pg w m k) : Calls Tryz.prog 10 #[.pointer (some ⟨m, 0, none⟩)] w fun e w' => e = .returned (.bool (overB k)) ∧ w = w' := by
  obtain ⟨nx, hb, hn⟩ := h.blk
  cases k with
  | inl k => obtain ⟨fn, f, q, rfl⟩ := hn; exact stackPushDone_no (hb.cell 2)
  | inr p => obtain rfl := hn; exact stackPushDone_yes (hb.cell 2)
end
end Go.Proofs.YthhnpcniijpfeaaGreat

/- WorldAlone: the states of enters, exits, stops, goes; a step of each. By an AI agent. -/
import Derived.Test.YtbepbcjklgfmjaaZ3
import Derived.Test.YtbepbcjklgfmjaaZWorld
import Derived.Test.YtbepbcjklgfmjaaZWorld2
import Derived.Test.YtbepbcjklgfmjaaZWorldFair
import Derived.Test.YtbepbcjklgfmjaaZAc
namespace Go.Proofs.Ytbepbcjklgfmjaa
open Go.RowKit
set_option linter.unusedSimpArgs false
set_option linter.unusedVariables false
theorem cell_al {w w' : World} {b j : Nat} {v : Value} (h : w.cell? ⟨b, j, none⟩ = some v) (ho : Adds w w') : w'.cell? ⟨b, j, none⟩ = some v := (ho.cellF (p := ⟨b, j, none⟩) (cell_lt h) id).trans h
/-- What a step tells of a store's last access. -/
def didV (s : StoreS) : Value := .agg #[.int .i64 s.k, .int .i64 s.pos, .int .u64 s.old, .int .u64 s.new]
def ptrV (o : Option Nat) : Value := .pointer (o.map (fun b => (⟨b, 0, none⟩ : Addr)))
theorem only_at (W : World) (r t : Nat) (v : Value) : Only (· = r) W (W.setCell ⟨r, t, none⟩ v) := (Only.refl (fun j => j = r) W).setCell (.inl rfl) v
theorem madeCells_ptr (n : Nat) : madeCells #[Value.pointer none] n = ((List.replicate n (none : Option Nat)).map ptrV).toArray := by
  apply Array.ext'
  rw [toList_madeCells_one]
  simp [ptrV]
theorem blk_new1 (w : World) (o : Obj) (c : Array Value) (t : TypeId) : Blk ((w.alloc o).alloc (.cells c t)) (w.heap.size + 1) c t := by
  have := Blk.new (w.alloc o) c t
  rwa [World.size_alloc] at this
/-- A row of pointers, or another block that is no desk's box. -/
def BoxFree (u : TypeId) : Prop := u ≠ 3 ∧ u ≠ 35 ∧ u ≠ 95 ∧ u ≠ 1 ∧ u ≠ 100
instance (u : TypeId) : Decidable (BoxFree u) := inferInstanceAs (Decidable (_ ∧ _))
theorem Blk.rowT {w w' : World} {b r : Nat} {c cr : Array Value} {t u : TypeId} (h : Blk w b c t) (hr : Blk w r cr u) (hu : u ≠ t) (ho : Only (· = r) w w') : Blk w' b c t :=
  h.only ho (fun e => by subst e; exact hu (hr.uniq h).2)
theorem Desk.rowT {w w' : World} {mb r : Nat} {c : Value → Array Value} {cr : Array Value} {t u : TypeId} {k : DK} (h : Desk w mb c t k) (hr : Blk w r cr u) (hb : BoxFree u) (hu : u ≠ t) (ho : Only (· = r) w w') : Desk w' mb c t k := by
  obtain ⟨u1, u2, u3, u4, u5⟩ := hb
  cases k with
  | load a f => obtain ⟨n, h1, h2⟩ := h; exact ⟨n, h1.rowT hr hu ho, ⟨h2.b0.rowT hr u1 ho, h2.b1.rowT hr u3 ho⟩⟩
  | put a v f => obtain ⟨n, h1, h2⟩ := h; exact ⟨n, h1.rowT hr hu ho, ⟨h2.b0.rowT hr u1 ho, h2.b1.rowT hr u2 ho, h2.b2.rowT hr u4 ho⟩⟩
  | add a v f => obtain ⟨n, h1, h2⟩ := h; exact ⟨n, h1.rowT hr hu ho, ⟨h2.b0.rowT hr u1 ho, h2.b1.rowT hr u2 ho, h2.b2.rowT hr u3 ho⟩⟩
  | cas a o v f => obtain ⟨n, h1, h2⟩ := h; exact ⟨n, h1.rowT hr hu ho, ⟨h2.b0.rowT hr u1 ho, h2.b1.rowT hr u2 ho, h2.b2.rowT hr u2 ho, h2.b3.rowT hr u5 ho⟩⟩
  | done => exact Blk.rowT h hr hu ho
/-- What a state does, and what comes behind what it was told. -/
def EnSt.ac : EnSt → Ac
  | .begin => .add 4 1
  | .look => .load 1
  | .undo => .add 4 18446744073709551615
  | .wait => .load 1
  | .gen => .load 0
def EnSt.next : EnSt → Int → EnSt
  | .begin, _ => .look
  | .look, v => if v = 0 then .gen else .undo
  | .undo, _ => .wait
  | .wait, v => if v = 0 then .begin else .wait
  | .gen, _ => .gen
def EnSt.isGen : EnSt → Bool
  | .gen => true
  | _ => false
def StSt.ac : StSt → Ac
  | .try_ t => .cas 1 0 (t + 1)
  | .busy => .load 4
  | .gen => .load 0
def StSt.next : StSt → Int → StSt
  | .try_ t, v => if v = 0 then .busy else .try_ t
  | .busy, v => if v = 0 then .gen else .busy
  | .gen, _ => .gen
def StSt.isGen : StSt → Bool
  | .gen => true
  | _ => false
/-- What is asked of the states of the program's machines. -/
structure LOps {κ : Type} (LA : World → Nat → κ → Prop) (ty : TypeId → Prop) : Prop where
  keep : ∀ {S : Nat → Prop} {w w' : World} {m : Nat} {k : κ}, LA w m k → Only S w w' → ¬ S m → (∀ b x t, Blk w b #[x] t → ¬ S b) → LA w' m k
  blk : ∀ {w : World} {m : Nat} {k : κ}, LA w m k → ∃ c t, Blk w m c t ∧ c.size ≠ 1 ∧ ty t
/-- A thread's machine: what it is, where it stands, what it tells. -/
inductive WdS where
  | enter (k : EnSt)
  | entered (g : Int)
  | exit
  | exited
  | stop (k : StSt)
  | stopped (g : Int)
  | go
  | gone
def WdA (P T : Int) (w : World) (m : Nat) : WdS → Prop
  | .enter k => IsEnter w m P T 0 k
  | .entered g => Desk w m (enC P T g) 91 .done
  | .exit => IsExit w m P T
  | .exited => Desk w m (c3 P T) 93 .done
  | .stop k => IsStop w m P T 0 k
  | .stopped g => Desk w m (stC P T g) 97 .done
  | .go => IsGo w m P T
  | .gone => Desk w m (c3 P T) 101 .done
abbrev wdTy (t : TypeId) : Prop := t = 91 ∨ t = 93 ∨ t = 97 ∨ t = 101
theorem desk_size {w : World} {m : Nat} {c : Value → Array Value} {t : TypeId} {k : DK} (h : Desk w m c t k) (hc : ∀ v, (c v).size ≠ 1) : ∃ c2 t2, Blk w m c2 t2 ∧ c2.size ≠ 1 ∧ t2 = t := by
  obtain ⟨nx, h1, _⟩ := h.blk
  exact ⟨_, _, h1, hc nx, rfl⟩
theorem wdO (P T : Int) : LOps (WdA P T) wdTy where
  keep {S w w' m k} h ho hm hs := by
    cases k with
    | enter k => exact IsEnter.only h ho hm hs
    | entered g => exact Desk.only (show Desk w m (enC P T g) 91 .done from h) ho hm hs
    | exit => exact IsExit.only h ho hm hs
    | exited => exact Desk.only (show Desk w m (c3 P T) 93 .done from h) ho hm hs
    | stop k => exact IsStop.only h ho hm hs
    | stopped g => exact Desk.only (show Desk w m (stC P T g) 97 .done from h) ho hm hs
    | go => exact Desk.only (show IsGo w m P T from h) ho hm hs
    | gone => exact Desk.only (show Desk w m (c3 P T) 101 .done from h) ho hm hs
  blk {w m k} h := by
    cases k with
    | enter k => obtain ⟨j, _, h2⟩ := h; obtain ⟨c, t, a, b, e⟩ := desk_size h2 (fun v => by simp); exact ⟨c, t, a, b, .inl e⟩
    | entered g => obtain ⟨c, t, a, b, e⟩ := desk_size (show Desk w m (enC P T g) 91 .done from h) (fun v => by simp); exact ⟨c, t, a, b, .inl e⟩
    | exit => obtain ⟨j, _, h2⟩ := h; obtain ⟨c, t, a, b, e⟩ := desk_size h2 (fun v => by simp); exact ⟨c, t, a, b, .inr (.inl e)⟩
    | exited => obtain ⟨c, t, a, b, e⟩ := desk_size (show Desk w m (c3 P T) 93 .done from h) (fun v => by simp); exact ⟨c, t, a, b, .inr (.inl e)⟩
    | stop k => obtain ⟨j, _, h2⟩ := h; obtain ⟨c, t, a, b, e⟩ := desk_size h2 (fun v => by simp); exact ⟨c, t, a, b, .inr (.inr (.inl e))⟩
    | stopped g => obtain ⟨c, t, a, b, e⟩ := desk_size (show Desk w m (stC P T g) 97 .done from h) (fun v => by simp); exact ⟨c, t, a, b, .inr (.inr (.inl e))⟩
    | go => obtain ⟨c, t, a, b, e⟩ := desk_size (show IsGo w m P T from h) (fun v => by simp); exact ⟨c, t, a, b, .inr (.inr (.inr e))⟩
    | gone => obtain ⟨c, t, a, b, e⟩ := desk_size (show Desk w m (c3 P T) 101 .done from h) (fun v => by simp); exact ⟨c, t, a, b, .inr (.inr (.inr e))⟩
namespace WdS
/-- It is done. -/
def got : WdS → Bool
  | .entered _ => true
  | .exited => true
  | .stopped _ => true
  | .gone => true
  | _ => false
/-- The cycle that it tells. -/
def gen : WdS → Int
  | .entered g => g
  | .stopped g => g
  | _ => 0
/-- Its next access. -/
def ac : WdS → Ac
  | .enter k => k.ac
  | .exit => .add 4 18446744073709551615
  | .stop k => k.ac
  | .go => .put 1 0
  | _ => .load 0
/-- What it is behind it. -/
def nx (s : StoreS) : WdS → WdS
  | .enter k => if k.isGen then .entered (s.word 0) else .enter (k.next (s.word k.ac.pos))
  | .exit => .exited
  | .stop k => if k.isGen then .stopped (s.word 0) else .stop (k.next (s.word k.ac.pos))
  | .go => .gone
  | k => k
/-- A stop's thread is one. -/
def fits : WdS → Prop
  | .stop (.try_ t) => 0 ≤ t ∧ t < 64
  | _ => True
end WdS
section
variable {w : World} {m ab sb sm rb : Nat} {P T : Int} {s : StoreS} {k : WdS}
/-- What a step of ours leaves. -/
def WdQ (P T : Int) (m ab sb sm rb : Nat) (s : StoreS) (k : WdS) (w : World) (e : Ending) (w' : World) : Prop := e = .returned (didV (k.ac.act s)) ∧ WdA P T w' m (k.nx s) ∧ Yard w' ab sb sm rb P T (k.ac.act s) ∧ Only (fun j => SB sb sm j ∨ j = m) w w'
theorem wdEnter {k : EnSt} (h : WdA P T w m (.enter k)) (hY : Yard w ab sb sm rb P T s) (hbig : 4 < s.ws.length) (hz : s.word 0 < 9223372036854775808) : Calls Try.prog 19 #[.pointer (some ⟨m, 0, none⟩), .pointer (some ⟨ab, 0, none⟩)] w (WdQ P T m ab sb sm rb s (.enter k) w) := by
  cases k with
  | begin => exact (enterStep_begin h hY hbig).mono (fun e w' q => ⟨q.1, q.2.1.1, q.2.1.2, q.2.2⟩)
  | look =>
    by_cases h0 : s.word 1 = 0
    · refine (enterStep_look_yes h hY hbig h0).mono (fun e w' q => ⟨q.1, ?_, q.2.1.2, q.2.2⟩)
      have e1 : (WdS.enter .look).nx s = .enter .gen := by simp [WdS.nx, EnSt.isGen, EnSt.next, EnSt.ac, Ac.pos, h0]
      rw [e1]; exact q.2.1.1
    · refine (enterStep_look_no h hY hbig h0).mono (fun e w' q => ⟨q.1, ?_, q.2.1.2, q.2.2⟩)
      have e1 : (WdS.enter .look).nx s = .enter .undo := by simp [WdS.nx, EnSt.isGen, EnSt.next, EnSt.ac, Ac.pos, h0]
      rw [e1]; exact q.2.1.1
  | undo => exact (enterStep_undo h hY hbig).mono (fun e w' q => ⟨q.1, q.2.1.1, q.2.1.2, q.2.2⟩)
  | wait =>
    by_cases h0 : s.word 1 = 0
    · refine (enterStep_wait_yes h hY hbig h0).mono (fun e w' q => ⟨q.1, ?_, q.2.1.2, q.2.2⟩)
      have e1 : (WdS.enter .wait).nx s = .enter .begin := by simp [WdS.nx, EnSt.isGen, EnSt.next, EnSt.ac, Ac.pos, h0]
      rw [e1]; exact q.2.1.1
    · refine (enterStep_wait_no h hY hbig h0).mono (fun e w' q => ⟨q.1, ?_, q.2.1.2, q.2.2⟩)
      have e1 : (WdS.enter .wait).nx s = .enter .wait := by simp [WdS.nx, EnSt.isGen, EnSt.next, EnSt.ac, Ac.pos, h0]
      rw [e1]; exact q.2.1.1
  | gen => exact (enterStep_gen h hY hbig hz).mono (fun e w' q => ⟨q.1, q.2.1.1, q.2.1.2, q.2.2⟩)
theorem wdStop {k : StSt} (h : WdA P T w m (.stop k)) (hY : Yard w ab sb sm rb P T s) (hbig : 4 < s.ws.length) (hz : s.word 0 < 9223372036854775808) (hf : (WdS.stop k).fits) : Calls Try.prog 24 #[.pointer (some ⟨m, 0, none⟩), .pointer (some ⟨ab, 0, none⟩)] w (WdQ P T m ab sb sm rb s (.stop k) w) := by
  cases k with
  | try_ t =>
    by_cases h0 : s.word 1 = 0
    · refine (stopStep_try_win hf h hY hbig h0).mono (fun e w' q => ⟨?_, ?_, ?_, q.2.2⟩)
      · rw [q.1]; simp [WdS.ac, StSt.ac, Ac.act, h0, didV, StoreS.acc]
      · have e1 : (WdS.stop (.try_ t)).nx s = .stop .busy := by simp [WdS.nx, StSt.isGen, StSt.next, StSt.ac, Ac.pos, h0]
        rw [e1]; exact q.2.1.1
      · simpa [WdS.ac, StSt.ac, Ac.act, h0] using q.2.1.2
    · refine (stopStep_try_lost h hY hbig h0).mono (fun e w' q => ⟨?_, ?_, ?_, q.2.2⟩)
      · rw [q.1]; simp [WdS.ac, StSt.ac, Ac.act, h0, didV, StoreS.acc]
      · have e1 : (WdS.stop (.try_ t)).nx s = .stop (.try_ t) := by simp [WdS.nx, StSt.isGen, StSt.next, StSt.ac, Ac.pos, h0]
        rw [e1]; exact q.2.1.1
      · simpa [WdS.ac, StSt.ac, Ac.act, h0] using q.2.1.2
  | busy =>
    by_cases h0 : s.word 4 = 0
    · refine (stopStep_busy_yes h hY hbig h0).mono (fun e w' q => ⟨q.1, ?_, q.2.1.2, q.2.2⟩)
      have e1 : (WdS.stop .busy).nx s = .stop .gen := by simp [WdS.nx, StSt.isGen, StSt.next, StSt.ac, Ac.pos, h0]
      rw [e1]; exact q.2.1.1
    · refine (stopStep_busy_no h hY hbig h0).mono (fun e w' q => ⟨q.1, ?_, q.2.1.2, q.2.2⟩)
      have e1 : (WdS.stop .busy).nx s = .stop .busy := by simp [WdS.nx, StSt.isGen, StSt.next, StSt.ac, Ac.pos, h0]
      rw [e1]; exact q.2.1.1
  | gen => exact (stopStep_gen h hY hbig hz).mono (fun e w' q => ⟨q.1, q.2.1.1, q.2.1.2, q.2.2⟩)
theorem wdExit (h : WdA P T w m .exit) (hY : Yard w ab sb sm rb P T s) (hbig : 4 < s.ws.length) : Calls Try.prog 22 #[.pointer (some ⟨m, 0, none⟩), .pointer (some ⟨ab, 0, none⟩)] w (WdQ P T m ab sb sm rb s .exit w) :=
  (exitStep_any h hY hbig).mono (fun e w' q => ⟨q.1, q.2.1.1, q.2.1.2, q.2.2⟩)
theorem wdGo (h : WdA P T w m .go) (hY : Yard w ab sb sm rb P T s) (hbig : 4 < s.ws.length) : Calls Try.prog 27 #[.pointer (some ⟨m, 0, none⟩), .pointer (some ⟨ab, 0, none⟩)] w (WdQ P T m ab sb sm rb s .go w) :=
  (goStep_any h hY hbig).mono (fun e w' q => ⟨q.1, q.2.1.1, q.2.1.2, q.2.2⟩)
end
/-- Which of the four it is. -/
def WdS.sort : WdS → Nat
  | .enter _ => 0
  | .entered _ => 0
  | .exit => 1
  | .exited => 1
  | .stop _ => 2
  | .stopped _ => 2
  | .go => 3
  | .gone => 3
theorem WdS.nx_sort (s : StoreS) (k : WdS) : (k.nx s).sort = k.sort := by
  cases k with
  | enter k => simp only [WdS.nx]; split <;> rfl
  | stop k => simp only [WdS.nx]; split <;> rfl
  | _ => rfl
/-- The cells of a machine of both sides. -/
def machC (i a b : Nat) : Array Value := #[ptrV (if i = 0 then some a else none), ptrV (if i = 1 then some a else none), ptrV (if i = 2 then some a else none), ptrV (if i = 3 then some a else none), ptrV (some b)]
theorem WdA.rowT {k : WdS} {w' wr : World} {P T : Int} {u : TypeId} {m r : Nat} {cr : Array Value} (h : WdA P T wr m k) (hr : Blk wr r cr u) (hu : BoxFree u ∧ ¬ wdTy u ∧ u ≠ 40 ∧ u ≠ 42 ∧ u ≠ 41) (ho : Only (· = r) wr w') : WdA P T w' m k := by
  obtain ⟨u0, u1, u2, u3, u4⟩ := hu
  have t1 : u ≠ 91 := fun e => u1 (.inl e)
  have t2 : u ≠ 93 := fun e => u1 (.inr (.inl e))
  have t3 : u ≠ 97 := fun e => u1 (.inr (.inr (.inl e)))
  have t4 : u ≠ 101 := fun e => u1 (.inr (.inr (.inr e)))
  cases k with
  | enter k => obtain ⟨j, h1, h2⟩ := h; exact ⟨j, h1.rowT hr u2 ho, h2.rowT hr u0 t1 ho⟩
  | entered g => exact Desk.rowT (show Desk wr m (enC P T g) 91 .done from h) hr u0 t1 ho
  | exit => obtain ⟨j, h1, h2⟩ := h; exact ⟨j, h1.rowT hr u4 ho, h2.rowT hr u0 t2 ho⟩
  | exited => exact Desk.rowT (show Desk wr m (c3 P T) 93 .done from h) hr u0 t2 ho
  | stop k => obtain ⟨j, h1, h2⟩ := h; exact ⟨j, h1.rowT hr u3 ho, h2.rowT hr u0 t3 ho⟩
  | stopped g => exact Desk.rowT (show Desk wr m (stC P T g) 97 .done from h) hr u0 t3 ho
  | go => exact Desk.rowT (show IsGo wr m P T from h) hr u0 t4 ho
  | gone => exact Desk.rowT (show Desk wr m (c3 P T) 101 .done from h) hr u0 t4 ho
end Go.Proofs.Ytbepbcjklgfmjaa

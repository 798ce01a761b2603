/- Enters, exits, stops, goes of each side, in step. By an AI agent. -/
import Derived.Test.YtffhoaimcjpjhaaGreatLaneBase
import Derived.Test.YtffhoaimcjpjhaaGreatDocBody
import Derived.Test.YtffhoaimcjpjhaaGreatWorldLog3
namespace Go.Proofs.YtffhoaimcjpjhaaGreat
open Go.RowKit
/-- A thread's machine: what it is, where it stands, what it tells. -/
inductive WdS where
  | enter (k : EnSt)
  | entered (g : Int)
  | exit
  | exited
  | stop (k : StSt)
  | stopped (g : Int)
  | go
  | gone
def WdA (P T : Int) (w : World) (m : Nat) : WdS → Prop
  | .enter k => IsEnter w m P T 0 k
  | .entered g => Desk w m (enC P T g) 159 .done
  | .exit => IsExit w m P T
  | .exited => Desk w m (c3 P T) 161 .done
  | .stop k => IsStop w m P T 0 k
  | .stopped g => Desk w m (stC P T g) 164 .done
  | .go => IsGo w m P T
  | .gone => Desk w m (c3 P T) 168 .done
abbrev wdTy (t : TypeId) : Prop := t = 159 ∨ t = 161 ∨ t = 164 ∨ t = 168
theorem desk_size {w : World} {m : Nat} {c : Value → Array Value} {t : TypeId} {k : DK} (h : Desk w m c t k) (hc : ∀ v, (c v).size ≠ 1) : ∃ c2 t2, Blk w m c2 t2 ∧ c2.size ≠ 1 ∧ t2 = t := by
  obtain ⟨nx, h1, _⟩ := h.blk
  exact ⟨_, _, h1, hc nx, rfl⟩
theorem wdO (P T : Int) : LOps (WdA P T) wdTy where
  keep {S w w' m k} h ho hm hs := by
    cases k with
    | enter k => exact IsEnter.only h ho hm hs
    | entered g => exact Desk.only (show Desk w m (enC P T g) 159 .done from h) ho hm hs
    | exit => exact IsExit.only h ho hm hs
    | exited => exact Desk.only (show Desk w m (c3 P T) 161 .done from h) ho hm hs
    | stop k => exact IsStop.only h ho hm hs
    | stopped g => exact Desk.only (show Desk w m (stC P T g) 164 .done from h) ho hm hs
    | go => exact Desk.only (show IsGo w m P T from h) ho hm hs
    | gone => exact Desk.only (show Desk w m (c3 P T) 168 .done from h) ho hm hs
  blk {w m k} h := by
    cases k with
    | enter k => obtain ⟨j, _, h2⟩ := h; obtain ⟨c, t, a, b, e⟩ := desk_size h2 (fun v => by simp); exact ⟨c, t, a, b, .inl e⟩
    | entered g => obtain ⟨c, t, a, b, e⟩ := desk_size (show Desk w m (enC P T g) 159 .done from h) (fun v => by simp); exact ⟨c, t, a, b, .inl e⟩
    | exit => obtain ⟨j, _, h2⟩ := h; obtain ⟨c, t, a, b, e⟩ := desk_size h2 (fun v => by simp); exact ⟨c, t, a, b, .inr (.inl e)⟩
    | exited => obtain ⟨c, t, a, b, e⟩ := desk_size (show Desk w m (c3 P T) 161 .done from h) (fun v => by simp); exact ⟨c, t, a, b, .inr (.inl e)⟩
    | stop k => obtain ⟨j, _, h2⟩ := h; obtain ⟨c, t, a, b, e⟩ := desk_size h2 (fun v => by simp); exact ⟨c, t, a, b, .inr (.inr (.inl e))⟩
    | stopped g => obtain ⟨c, t, a, b, e⟩ := desk_size (show Desk w m (stC P T g) 164 .done from h) (fun v => by simp); exact ⟨c, t, a, b, .inr (.inr (.inl e))⟩
    | go => obtain ⟨c, t, a, b, e⟩ := desk_size (show IsGo w m P T from h) (fun v => by simp); exact ⟨c, t, a, b, .inr (.inr (.inr e))⟩
    | gone => obtain ⟨c, t, a, b, e⟩ := desk_size (show Desk w m (c3 P T) 168 .done from h) (fun v => by simp); exact ⟨c, t, a, b, .inr (.inr (.inr e))⟩
  ty t h := by rcases h with rfl | rfl | rfl | rfl <;> decide
namespace WdS
/-- It is done. -/
def got : WdS → Bool
  | .entered _ => true
  | .exited => true
  | .stopped _ => true
  | .gone => true
  | _ => false
/-- The cycle that it tells. -/
def gen : WdS → Int
  | .entered g => g
  | .stopped g => g
  | _ => 0
/-- Its next access. -/
def ac : WdS → Ac
  | .enter k => k.ac
  | .exit => .add 4 18446744073709551615
  | .stop k => k.ac
  | .go => .put 1 0
  | _ => .load 0
/-- What it is behind it. -/
def nx (s : StoreS) : WdS → WdS
  | .enter k => if k.isGen then .entered (s.word 0) else .enter (k.next (s.word k.ac.pos))
  | .exit => .exited
  | .stop k => if k.isGen then .stopped (s.word 0) else .stop (k.next (s.word k.ac.pos))
  | .go => .gone
  | k => k
/-- A stop's thread is one. -/
def fits : WdS → Prop
  | .stop (.try_ t) => 0 ≤ t ∧ t < 64
  | _ => True
end WdS
/-- What the document's machine is beside it: behind its log. -/
def WdM (x : MS) (P T t : Int) (i : Nat) : WdS → Prop
  | .enter k => x.what = 13 ∧ x.P = P ∧ x.T = T ∧ x.done = false ∧ k = EnSt.at x.log ∧ (∀ j, j < x.log.length → (EnSt.at (x.log.take j)).isGen = false) ∧ x.log.length ≤ i
  | .exit => x.what = 14 ∧ x.P = P ∧ x.T = T ∧ x.done = false ∧ x.log = []
  | .stop k => x.what = 15 ∧ x.P = P ∧ x.T = T ∧ x.done = false ∧ x.thread = t ∧ k = StSt.at t x.log ∧ (∀ j, j < x.log.length → (StSt.at t (x.log.take j)).isGen = false) ∧ x.log.length ≤ i
  | .go => x.what = 16 ∧ x.P = P ∧ x.T = T ∧ x.done = false ∧ x.log = []
  | _ => False
theorem WdM.got {x : MS} {P T t : Int} {i : Nat} {k : WdS} (h : WdM x P T t i k) : k.got = false := by cases k <;> first | rfl | exact h.elim
theorem WdM.mono {x : MS} {P T t : Int} {i : Nat} {k : WdS} (h : WdM x P T t i k) : WdM x P T t (i + 1) k := by
  cases k with
  | enter k => obtain ⟨a, b, c, d, e, f, g⟩ := h; exact ⟨a, b, c, d, e, f, by omega⟩
  | exit => exact h
  | stop k => obtain ⟨a, b, c, d, e, f, g, j⟩ := h; exact ⟨a, b, c, d, e, f, g, by omega⟩
  | go => exact h
  | entered g => exact h
  | exited => exact h
  | stopped g => exact h
  | gone => exact h
theorem enAt_snoc (l : List Int) (v : Int) : EnSt.at (l ++ [v]) = (EnSt.at l).next v := by simp [EnSt.at]
theorem stAt_snoc (t : Int) (l : List Int) (v : Int) : StSt.at t (l ++ [v]) = (StSt.at t l).next v := by simp [StSt.at]
theorem take_snoc {l : List Int} {v : Int} {j : Nat} (h : j < (l ++ [v]).length) : (l ++ [v]).take j = l.take j ∧ j ≤ l.length := by
  have h1 : j ≤ l.length := by simp at h; omega
  exact ⟨List.take_append_of_le_length h1, h1⟩
section
variable {w w' : World} {mb bb tb tm ub fb i : Nat} {P T t : Int} {s : StoreS} {x : MS} {k : WdS} {lg mkv mem : Value}
theorem fresh_used (x : MS) : x.fresh.used = false ∧ x.fresh.log.drop x.fresh.at_ = x.log := ⟨rfl, by show x.log.drop 0 = _; rfl⟩
set_option maxHeartbeats 4000000 in
/-- A step of the document's machine. -/
theorem worldM_step (h : IsM w mb x lg mkv mem) (hM : IsMem w bb tb tm ub fb P T s) (hne : lg.ownBlock ≠ some tm) (hx : WdM x P T t i k) (hil : i < 90000) (hi : s.inR 4) (hw0 : 0 ≤ s.word 0 ∧ s.word 0 < 9223372036854775808) (ht : 0 ≤ t ∧ t < 64) :
    Calls Tryz.prog 14 #[.pointer (some ⟨mb, 0, none⟩), .pointer (some ⟨bb, 0, none⟩)] w fun e w' => e = .returned (didV (k.ac.act s)) ∧ ∃ y : MS, y.done = (k.nx s).got ∧ y.gens = (k.nx s).gen ∧ ((k.nx s).got = false → WdM y P T t (i + 1) (k.nx s)) ∧ Steps w w' mb bb tb tm ub fb P T (k.ac.act s) y lg := by
  have hwr : wrap64 (s.word 0) = s.word 0 := by simp [wrap64]; omega
  have hroom : x.log.length ≤ i → x.fresh.room < 100000 := fun h1 => by show x.log.length + 1 < 100000; omega
  cases k with
  | enter k =>
    obtain ⟨h1, h2, h3, h4, h5, h6, h7⟩ := hx
    have law := enter_law (s := s) x.log.length x.log x.fresh (x.fresh.mu + 1) (Nat.le_refl _) (fresh_used x).1 (fresh_used x).2 (by omega) h6
    rw [← h5, hwr] at law
    have key := mStep_any (x1 := MS.fin k.isGen { ((x.fresh.on x.log.length).live k.ac s) with gens := (if k.isGen then s.word 0 else 0) }) (s1 := k.ac.act s) (d := k.isGen) h hM hne h4 h2 h3 (fun w1 hm1 => mBodyEnter hm1 h1 ((rEnter (Rn.refl hm1) hi (hroom h7) (Nat.lt_succ_self _) law).mono (fun e w2 q => ⟨q.1, q.2.steps⟩)))
    refine key.mono (fun e w1 q => ?_)
    obtain ⟨q1, q2⟩ := q
    cases hg : k.isGen with
    | true =>
      simp only [hg] at q1 q2 ⊢
      exact ⟨q1, _, by simp [WdS.nx, WdS.got, hg], by simp [WdS.nx, WdS.gen, hg, MS.fin], by simp [WdS.nx, WdS.got, hg], q2⟩
    | false =>
      simp only [hg] at q1 q2 ⊢
      refine ⟨q1, _, by simp [WdS.nx, WdS.got, hg], by simp [WdS.nx, WdS.gen, hg, MS.fin, MS.idle], fun _ => ?_, q2⟩
      simp only [WdS.nx, hg]
      refine ⟨h1, h2, h3, rfl, ?_, ?_, ?_⟩
      · show k.next _ = EnSt.at (x.log ++ [s.word k.ac.pos])
        rw [enAt_snoc, ← h5]
      · show ∀ j, j < (x.log ++ [s.word k.ac.pos]).length → _
        intro j hj
        obtain ⟨e1, e2⟩ := take_snoc hj
        show (EnSt.at ((x.log ++ [s.word k.ac.pos]).take j)).isGen = false
        rw [e1]
        rcases Nat.lt_or_eq_of_le e2 with h8 | h8
        · exact h6 j h8
        · rw [h8, List.take_length, ← h5]; exact hg
      · show (x.log ++ [s.word k.ac.pos]).length ≤ i + 1
        simp; omega
  | exit =>
    obtain ⟨h1, h2, h3, h4, h5⟩ := hx
    have hacc := on_live (x := x.fresh) (c := .add 4 18446744073709551615) (s := s) rfl (by show x.log.drop 0 = []; rw [h5]; rfl)
    have key := mStep_any (x1 := MS.fin true (x.fresh.live (.add 4 18446744073709551615) s)) (s1 := (Ac.add 4 18446744073709551615).act s) (d := true) h hM hne h4 h2 h3 (fun w1 hm1 => mBodyExit hm1 h1 ((rExit (Rn.refl hm1) hi (hroom (by rw [h5]; simp)) hacc).mono (fun e w2 q => ⟨q.1, q.2.steps⟩)))
    refine key.mono (fun e w1 q => ⟨q.1, _, rfl, rfl, fun h => (by cases h), q.2⟩)
  | stop k =>
    obtain ⟨h1, h2, h3, h4, h5, h6, h7, h8⟩ := hx
    have law := stop_law (s := s) (t := t) x.log x.fresh (x.fresh.mu + 1) (fresh_used x).1 (fresh_used x).2 (by omega) h7
    rw [← h6, hwr] at law
    have key := mStep_any (x1 := MS.fin k.isGen { ((x.fresh.on x.log.length).live k.ac s) with gens := (if k.isGen then s.word 0 else 0) }) (s1 := k.ac.act s) (d := k.isGen) h hM hne h4 h2 h3 (fun w1 hm1 => mBodyStop hm1 h1 (by
      have h9 := (rStop (t := t) (Rn.refl hm1) hi (hroom h8) (by omega) (Nat.lt_succ_self _) law).mono (fun e w2 q => (⟨q.1, q.2.steps⟩ : e = .returned (.tuple #[.int .i64 (if k.isGen then s.word 0 else 0), .bool k.isGen]) ∧ _))
      rw [show x.fresh.thread = t from h5]
      exact h9))
    refine key.mono (fun e w1 q => ?_)
    obtain ⟨q1, q2⟩ := q
    cases hg : k.isGen with
    | true =>
      simp only [hg] at q1 q2 ⊢
      exact ⟨q1, _, by simp [WdS.nx, WdS.got, hg], by simp [WdS.nx, WdS.gen, hg, MS.fin], by simp [WdS.nx, WdS.got, hg], q2⟩
    | false =>
      simp only [hg] at q1 q2 ⊢
      refine ⟨q1, _, by simp [WdS.nx, WdS.got, hg], by simp [WdS.nx, WdS.gen, hg, MS.fin, MS.idle], fun _ => ?_, q2⟩
      simp only [WdS.nx, hg]
      refine ⟨h1, h2, h3, rfl, h5, ?_, ?_, ?_⟩
      · show k.next _ = StSt.at t (x.log ++ [s.word k.ac.pos])
        rw [stAt_snoc, ← h6]
      · show ∀ j, j < (x.log ++ [s.word k.ac.pos]).length → _
        intro j hj
        obtain ⟨e1, e2⟩ := take_snoc hj
        show (StSt.at t ((x.log ++ [s.word k.ac.pos]).take j)).isGen = false
        rw [e1]
        rcases Nat.lt_or_eq_of_le e2 with h9 | h9
        · exact h7 j h9
        · rw [h9, List.take_length, ← h6]; exact hg
      · show (x.log ++ [s.word k.ac.pos]).length ≤ i + 1
        simp; omega
  | go =>
    obtain ⟨h1, h2, h3, h4, h5⟩ := hx
    have hacc := on_live (x := x.fresh) (c := .put 1 0) (s := s) rfl (by show x.log.drop 0 = []; rw [h5]; rfl)
    have key := mStep_any (x1 := MS.fin true (x.fresh.live (.put 1 0) s)) (s1 := (Ac.put 1 0).act s) (d := true) h hM hne h4 h2 h3 (fun w1 hm1 => mBodyGo hm1 h1 (by
      refine (mPut_any hm1 ⟨by omega, by have := hi.2; omega⟩ (by show x.log.length < 100000; rw [h5]; simp) ⟨by omega, by omega⟩ hacc).mono (fun e w2 q => ⟨q.1, ?_⟩)
      obtain ⟨lg2, a1, a2, a3⟩ := q.2
      exact ⟨lg2, _, a1, a2, a3⟩))
    refine key.mono (fun e w1 q => ⟨q.1, _, rfl, rfl, fun h => (by cases h), q.2⟩)
  | entered g => exact hx.elim
  | exited => exact hx.elim
  | stopped g => exact hx.elim
  | gone => exact hx.elim
end
section
variable {w : World} {m ab sb sm rb : Nat} {P T : Int} {s : StoreS} {k : WdS}
/-- What a step of ours leaves. -/
def WdQ (P T : Int) (m ab sb sm rb : Nat) (s : StoreS) (k : WdS) (w : World) (e : Ending) (w' : World) : Prop := e = .returned (didV (k.ac.act s)) ∧ WdA P T w' m (k.nx s) ∧ Yard w' ab sb sm rb P T (k.ac.act s) ∧ Only (fun j => SB sb sm j ∨ j = m) w w'
theorem wdEnter {k : EnSt} (h : WdA P T w m (.enter k)) (hY : Yard w ab sb sm rb P T s) (hbig : 4 < s.ws.length) (hz : s.word 0 < 9223372036854775808) : Calls Tryz.prog 55 #[.pointer (some ⟨m, 0, none⟩), .pointer (some ⟨ab, 0, none⟩)] w (WdQ P T m ab sb sm rb s (.enter k) w) := by
  cases k with
  | begin => exact (enterStep_begin h hY hbig).mono (fun e w' q => ⟨q.1, q.2.1.1, q.2.1.2, q.2.2⟩)
  | look =>
    by_cases h0 : s.word 1 = 0
    · refine (enterStep_look_yes h hY hbig h0).mono (fun e w' q => ⟨q.1, ?_, q.2.1.2, q.2.2⟩)
      have e1 : (WdS.enter .look).nx s = .enter .gen := by simp [WdS.nx, EnSt.isGen, EnSt.next, EnSt.ac, Ac.pos, h0]
      rw [e1]; exact q.2.1.1
    · refine (enterStep_look_no h hY hbig h0).mono (fun e w' q => ⟨q.1, ?_, q.2.1.2, q.2.2⟩)
      have e1 : (WdS.enter .look).nx s = .enter .undo := by simp [WdS.nx, EnSt.isGen, EnSt.next, EnSt.ac, Ac.pos, h0]
      rw [e1]; exact q.2.1.1
  | undo => exact (enterStep_undo h hY hbig).mono (fun e w' q => ⟨q.1, q.2.1.1, q.2.1.2, q.2.2⟩)
  | wait =>
    by_cases h0 : s.word 1 = 0
    · refine (enterStep_wait_yes h hY hbig h0).mono (fun e w' q => ⟨q.1, ?_, q.2.1.2, q.2.2⟩)
      have e1 : (WdS.enter .wait).nx s = .enter .begin := by simp [WdS.nx, EnSt.isGen, EnSt.next, EnSt.ac, Ac.pos, h0]
      rw [e1]; exact q.2.1.1
    · refine (enterStep_wait_no h hY hbig h0).mono (fun e w' q => ⟨q.1, ?_, q.2.1.2, q.2.2⟩)
      have e1 : (WdS.enter .wait).nx s = .enter .wait := by simp [WdS.nx, EnSt.isGen, EnSt.next, EnSt.ac, Ac.pos, h0]
      rw [e1]; exact q.2.1.1
  | gen => exact (enterStep_gen h hY hbig hz).mono (fun e w' q => ⟨q.1, q.2.1.1, q.2.1.2, q.2.2⟩)
theorem wdStop {k : StSt} (h : WdA P T w m (.stop k)) (hY : Yard w ab sb sm rb P T s) (hbig : 4 < s.ws.length) (hz : s.word 0 < 9223372036854775808) (hf : (WdS.stop k).fits) : Calls Tryz.prog 60 #[.pointer (some ⟨m, 0, none⟩), .pointer (some ⟨ab, 0, none⟩)] w (WdQ P T m ab sb sm rb s (.stop k) w) := by
  cases k with
  | try_ t =>
    by_cases h0 : s.word 1 = 0
    · refine (stopStep_try_win hf h hY hbig h0).mono (fun e w' q => ⟨?_, ?_, ?_, q.2.2⟩)
      · rw [q.1]; simp [WdS.ac, StSt.ac, Ac.act, h0, didV, StoreS.acc]
      · have e1 : (WdS.stop (.try_ t)).nx s = .stop .busy := by simp [WdS.nx, StSt.isGen, StSt.next, StSt.ac, Ac.pos, h0]
        rw [e1]; exact q.2.1.1
      · simpa [WdS.ac, StSt.ac, Ac.act, h0] using q.2.1.2
    · refine (stopStep_try_lost h hY hbig h0).mono (fun e w' q => ⟨?_, ?_, ?_, q.2.2⟩)
      · rw [q.1]; simp [WdS.ac, StSt.ac, Ac.act, h0, didV, StoreS.acc]
      · have e1 : (WdS.stop (.try_ t)).nx s = .stop (.try_ t) := by simp [WdS.nx, StSt.isGen, StSt.next, StSt.ac, Ac.pos, h0]
        rw [e1]; exact q.2.1.1
      · simpa [WdS.ac, StSt.ac, Ac.act, h0] using q.2.1.2
  | busy =>
    by_cases h0 : s.word 4 = 0
    · refine (stopStep_busy_yes h hY hbig h0).mono (fun e w' q => ⟨q.1, ?_, q.2.1.2, q.2.2⟩)
      have e1 : (WdS.stop .busy).nx s = .stop .gen := by simp [WdS.nx, StSt.isGen, StSt.next, StSt.ac, Ac.pos, h0]
      rw [e1]; exact q.2.1.1
    · refine (stopStep_busy_no h hY hbig h0).mono (fun e w' q => ⟨q.1, ?_, q.2.1.2, q.2.2⟩)
      have e1 : (WdS.stop .busy).nx s = .stop .busy := by simp [WdS.nx, StSt.isGen, StSt.next, StSt.ac, Ac.pos, h0]
      rw [e1]; exact q.2.1.1
  | gen => exact (stopStep_gen h hY hbig hz).mono (fun e w' q => ⟨q.1, q.2.1.1, q.2.1.2, q.2.2⟩)
theorem wdExit (h : WdA P T w m .exit) (hY : Yard w ab sb sm rb P T s) (hbig : 4 < s.ws.length) : Calls Tryz.prog 58 #[.pointer (some ⟨m, 0, none⟩), .pointer (some ⟨ab, 0, none⟩)] w (WdQ P T m ab sb sm rb s .exit w) :=
  (exitStep_any h hY hbig).mono (fun e w' q => ⟨q.1, q.2.1.1, q.2.1.2, q.2.2⟩)
theorem wdGo (h : WdA P T w m .go) (hY : Yard w ab sb sm rb P T s) (hbig : 4 < s.ws.length) : Calls Tryz.prog 63 #[.pointer (some ⟨m, 0, none⟩), .pointer (some ⟨ab, 0, none⟩)] w (WdQ P T m ab sb sm rb s .go w) :=
  (goStep_any h hY hbig).mono (fun e w' q => ⟨q.1, q.2.1.1, q.2.1.2, q.2.2⟩)
end
end Go.Proofs.YtffhoaimcjpjhaaGreat

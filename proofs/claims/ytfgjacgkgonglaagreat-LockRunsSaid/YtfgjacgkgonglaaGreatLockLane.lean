/- Takes and leaves of each side, in step. By an AI agent. -/
import Derived.Test.YtfgjacgkgonglaaGreatLanes
import Derived.Test.YtfgjacgkgonglaaGreatLock3
import Derived.Test.YtfgjacgkgonglaaGreatDocLock
namespace Go.Proofs.YtfgjacgkgonglaaGreat
open Go.RowKit
/-- What a step tells of a store's last access. -/
def didV (s : StoreS) : Value := .agg #[.int .i64 s.k, .int .i64 s.pos, .int .u64 s.old, .int .u64 s.new]
/-- A thread's machine: a take that waits, one that has it; a leave that has not begun, one that has. -/
inductive LkS where
  | take (t : Int)
  | took
  | leave
  | left
def LkA (P T : Int) (lo : Nat) (w : World) (m : Nat) : LkS → Prop
  | .take t => IsTake lo w m P T t
  | .took => Blk w m #[.int .i64 P, .int .i64 T, .nilFunc] 140
  | .leave => IsLeave w m P T
  | .left => Blk w m #[.int .i64 P, .int .i64 T, .nilFunc] 143
abbrev lkTy (t : TypeId) : Prop := t = 140 ∨ t = 143
section
variable {w w' : World} {mb ab sb sm rb bb tb tm ub fb lo : Nat} {P T t : Int} {s : StoreS} {x : MS} {k : LkS} {lg mkv mem : Value}
theorem lkO (P T : Int) (lo : Nat) : LOps (LkA P T lo) lkTy where
  keep {S w w' m k} h ho hm hs := by
    cases k with
    | take t => exact IsTake.only h ho hm (fun b x t _ hb => hs b x t hb)
    | took => exact Blk.only h ho hm
    | leave =>
      obtain ⟨n, h1, h2⟩ := h
      exact ⟨n, h1.only ho hm, ⟨h2.b0.only ho (hs _ _ _ h2.b0), h2.b1.only ho (hs _ _ _ h2.b1), h2.b2.only ho (hs _ _ _ h2.b2)⟩⟩
    | left => exact Blk.only h ho hm
  blk {w m k} h := by
    cases k with
    | take t => obtain ⟨n, j, _, _, _, h1, _⟩ := h; exact ⟨_, _, h1, by simp, .inl rfl⟩
    | took => exact ⟨_, _, h, by simp, .inl rfl⟩
    | leave => obtain ⟨n, h1, _⟩ := h; exact ⟨_, _, h1, by simp, .inr rfl⟩
    | left => exact ⟨_, _, h, by simp, .inr rfl⟩
  ty t h := by rcases h with rfl | rfl <;> decide
/-- A row of pointers is turned. -/
theorem LkA.row (h : LkA P T lo w mb k) {r : Nat} {c : Array Value} {u : TypeId} (hr : Blk w r c u) (hu : u = 64 ∨ u = 65 ∨ u = 33) (hl : r < lo) (ho : Only (· = r) w w') : LkA P T lo w' mb k := by
  have hm : ∀ {c2 : Array Value} {u2 : TypeId}, Blk w mb c2 u2 → lkTy u2 → ¬ mb = r := fun hb h2 e => by
    subst e
    have := (hb.uniq hr).2
    rw [this] at h2
    rcases hu with rfl | rfl | rfl <;> revert h2 <;> decide
  have hb : ∀ {b : Nat} {c2 : Array Value} {u2 : TypeId}, Blk w b c2 u2 → u2 ≠ 64 ∧ u2 ≠ 65 ∧ u2 ≠ 33 → ¬ b = r := fun hb h2 e => by
    subst e
    have := (hb.uniq hr).2
    rw [this] at h2
    rcases hu with rfl | rfl | rfl
    · exact h2.1 rfl
    · exact h2.2.1 rfl
    · exact h2.2.2 rfl
  cases k with
  | take t => exact IsTake.only h ho (by obtain ⟨n, j, _, _, _, h1, _⟩ := h; exact hm h1 (.inl rfl)) (fun b x t hlo _ e => by omega)
  | took => exact Blk.only h ho (hm h (.inl rfl))
  | leave =>
    obtain ⟨n, h1, h2⟩ := h
    exact ⟨n, h1.only ho (hm h1 (.inr rfl)), ⟨h2.b0.only ho (hb h2.b0 (by decide)), h2.b1.only ho (hb h2.b1 (by decide)), h2.b2.only ho (hb h2.b2 (by decide))⟩⟩
  | left => exact Blk.only h ho (hm h (.inr rfl))
/-- The document's take; its leave. -/
structure TkM (x : MS) (P T t : Int) (l : List Int) (d : Bool) : Prop where
  what : x.what = 3
  P : x.P = P
  T : x.T = T
  thread : x.thread = t
  log : x.log = l
  done : x.done = d
theorem takeM_step {l : List Int} (h : IsM w mb x lg mkv mem) (hM : IsMem w bb tb tm ub fb P T s) (hne : lg.ownBlock ≠ some tm) (hx : TkM x P T t l false) (hl : ∀ v ∈ l, v ≠ 0) (hf : l.length < 90000) (hi : s.inR 2) (ht : 0 ≤ t ∧ t < 4096) :
    Calls Tryz.prog 15 #[.pointer (some ⟨mb, 0, none⟩), .pointer (some ⟨bb, 0, none⟩)] w fun e w' => e = .returned (didV ((Ac.cas 2 0 (t + 1)).act s)) ∧ ∃ y, TkM y P T t (l ++ [s.word 2]) (s.word 2 == 0) ∧ Steps w w' mb bb tb tm ub fb P T ((Ac.cas 2 0 (t + 1)).act s) y lg := by
  have key := mStep_any (x1 := MS.fin (s.word 2 == 0) (x.fresh.after (.cas 2 0 (t + 1)) s)) (s1 := (Ac.cas 2 0 (t + 1)).act s) (d := (s.word 2 == 0)) h hM hne hx.done hx.P hx.T (fun w1 hm1 => mBodyTake hm1 hx.what (by
    have h2 := mTake_wait (t := t) hm1 rfl rfl (by show ∀ v ∈ x.log, v ≠ 0; rw [hx.log]; exact hl) (by show x.log.length < 90000; rw [hx.log]; exact hf) hi ht
    rw [← hx.thread] at h2 ⊢
    exact h2))
  have hlog := hx.log
  cases hd : (s.word 2 == 0)
  · rw [hd] at key
    exact key.mono (fun e w1 q => by refine ⟨q.1, _, ?_, q.2⟩; exact ⟨hx.what, hx.P, hx.T, hx.thread, by simp [MS.fin, MS.idle, MS.after, MS.fresh, hlog, Ac.pos], rfl⟩)
  · rw [hd] at key
    exact key.mono (fun e w1 q => by refine ⟨q.1, _, ?_, q.2⟩; exact ⟨hx.what, hx.P, hx.T, hx.thread, by simp [MS.fin, MS.after, MS.fresh, hlog, Ac.pos], rfl⟩)
/-- The document's leave. -/
theorem leaveM_step (h : IsM w mb x lg mkv mem) (hM : IsMem w bb tb tm ub fb P T s) (hne : lg.ownBlock ≠ some tm) (hw : x.what = 4) (hP : x.P = P) (hT : x.T = T) (hlog : x.log = []) (hd : x.done = false) (hi : s.inR 2) :
    Calls Tryz.prog 15 #[.pointer (some ⟨mb, 0, none⟩), .pointer (some ⟨bb, 0, none⟩)] w fun e w' => e = .returned (didV ((Ac.put 2 0).act s)) ∧ ∃ y, y.done = true ∧ Steps w w' mb bb tb tm ub fb P T ((Ac.put 2 0).act s) y lg := by
  have hr : x.fresh.acc (.put 2 0) s = (some (s.word 2), x.fresh.after (.put 2 0) s, (Ac.put 2 0).act s) := by
    simp [MS.acc, MS.fresh, hlog, MS.after, MS.told, Ac.pos]
  have key := mStep_any (x1 := MS.fin true (x.fresh.after (.put 2 0) s)) (s1 := (Ac.put 2 0).act s) (d := true) h hM hne hd hP hT (fun w1 hm1 => mBodyLeave hm1 hw (by
    refine (mPut_any hm1 hi (by show x.log.length < 100000; rw [hlog]; simp) ⟨by omega, by omega⟩ hr).mono (fun e w2 q => ⟨q.1, ?_⟩)
    obtain ⟨lg2, a1, a2, a3⟩ := q.2
    exact ⟨lg2, _, a1, a2, a3⟩))
  exact key.mono (fun e w1 q => by refine ⟨q.1, _, ?_, q.2⟩; rfl)
end
end Go.Proofs.YtfgjacgkgonglaaGreat

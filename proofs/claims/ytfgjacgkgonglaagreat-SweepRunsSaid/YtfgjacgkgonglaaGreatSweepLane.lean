/- A sweep of each side, in step. By an AI agent. -/
import Derived.Test.YtfgjacgkgonglaaGreatLanes
import Derived.Test.YtfgjacgkgonglaaGreatSweep3
import Derived.Test.YtfgjacgkgonglaaGreatDocSweep
import Derived.Test.YtfgjacgkgonglaaGreatDocBody
namespace Go.Proofs.YtfgjacgkgonglaaGreat
open Go.RowKit
/-- What a step tells of a store's last access. -/
def didV (s : StoreS) : Value := .agg #[.int .i64 s.k, .int .i64 s.pos, .int .u64 s.old, .int .u64 s.new]
/-- The program's sweep, behind what it was told. -/
def SwAt (P T al mk : Int) (w : World) (mb : Nat) : List Int → Prop
  | [] => Sw1 w mb P T al mk
  | [b] => Sw2 w mb P T al mk b
  | [b, a] => Sw3 w mb P T al mk b a
  | [b, a, _] => Sw4 w mb P T mk b a
  | [b, a, _, _] => Blk w mb (swCells P T .nilFunc (clrU a b)) 126
  | _ => False
/-- What comes next. -/
def swAc (al mk : Int) : List Int → Ac
  | [] => .load mk
  | [_] => .load al
  | [b, a] => .put al (andU a b)
  | _ => .put mk 0
/-- What was freed. -/
def swFr : List Int → Int
  | b :: a :: _ :: _ => clrU a b
  | _ => 0
/-- The document's. -/
structure SwM (x : MS) (P T p : Int) (l : List Int) : Prop where
  what : x.what = 7
  P : x.P = P
  T : x.T = T
  page : x.page = p
  log : x.log = l
  done : x.done = decide (l.length = 4)
  freed : x.freed = swFr l
section
variable {w w' : World} {mb ab sb sm rb bb tb tm ub fb : Nat} {P T p al mk : Int} {s : StoreS} {x : MS} {l : List Int} {lg mkv mem : Value}
theorem SwAt.keep {S : Nat → Prop} (h : SwAt P T al mk w mb l) (ho : Only S w w') (hm : ¬ S mb) (hs : ∀ b x t, Blk w b #[x] t → ¬ S b) : SwAt P T al mk w' mb l := by
  match l, h with
  | [], h => exact Sw1.only h ho hm hs
  | [b], h => exact Sw2.only h ho hm hs
  | [b, a], h => exact Sw3.only h ho hm hs
  | [b, a, _], h => exact Sw4.only h ho hm hs
  | [b, a, _, _], h => exact Blk.only h ho hm
theorem SwAt.cells (h : SwAt P T al mk w mb l) : ∃ nx, Blk w mb (swCells P T nx (swFr l)) 126 ∧ (if l.length = 4 then nx = .nilFunc else ∃ fn f c, nx = .func fn f c) := by
  match l, h with
  | [], h => obtain ⟨nx, fn, f, c, rfl, hb⟩ := Sw1.live h; exact ⟨_, hb, by simp⟩
  | [b], h => obtain ⟨nx, fn, f, c, rfl, hb⟩ := Sw2.live h; exact ⟨_, hb, by simp⟩
  | [b, a], h => obtain ⟨nx, fn, f, c, rfl, hb⟩ := Sw3.live h; exact ⟨_, hb, by simp⟩
  | [b, a, _], h => obtain ⟨nx, fn, f, c, rfl, hb⟩ := Sw4.live h; exact ⟨_, hb, by simp⟩
  | [b, a, _, _], h => exact ⟨_, h, by simp⟩
theorem swOps (P T : Int) : LOps (fun w m (k : Int × Int × List Int) => SwAt P T k.1 k.2.1 w m k.2.2) (· = 126) where
  keep h ho hm hs := SwAt.keep h ho hm hs
  blk h := by
    obtain ⟨nx, hb, _⟩ := SwAt.cells h
    exact ⟨_, _, hb, by simp, rfl⟩
  ty t h := by subst h; decide
theorem SwAt.len (h : SwAt P T al mk w mb l) : l.length ≤ 4 := by
  match l, h with
  | [], h => simp
  | [b], h => simp
  | [b, a], h => simp
  | [b, a, _], h => simp
  | [b, a, _, _], h => simp
/-- A step of the program's sweep. -/
theorem swAt_step (h : SwAt P T al mk w mb l) (hl : l.length < 4) (hY : Yard w ab sb sm rb P T s) (ia : s.inR al) (ik : s.inR mk) (hbig : 1 < s.ws.length) :
    Calls Tryz.prog 14 #[.pointer (some ⟨mb, 0, none⟩), .pointer (some ⟨ab, 0, none⟩)] w fun e w' => e = .returned (didV ((swAc al mk l).act s)) ∧ (SwAt P T al mk w' mb (l ++ [s.word (swAc al mk l).pos]) ∧ Yard w' ab sb sm rb P T ((swAc al mk l).act s)) ∧ Only (fun j => SB sb sm j ∨ j = mb) w w' := by
  match l, h with
  | [], h => exact sweepStep_one h hY ik hbig
  | [b], h => exact sweepStep_two h hY ia hbig
  | [b, a], h => exact sweepStep_three h hY ia hbig
  | [b, a, _], h => exact sweepStep_four h hY ik hbig
  | [b, a, _, _], h => simp at hl
/-- A step of the document's. -/
theorem swM_step (h : IsM w mb x lg mkv mem) (hM : IsMem w bb tb tm ub fb P T s) (hne : lg.ownBlock ≠ some tm) (hx : SwM x P T p l) (hl : l.length < 4) (hp : Lay.may P T = true) (h0 : 0 ≤ p) (h1 : p < P) (eal : Lay.pageAt P T 12 p = al) (emk : Lay.pageAt P T 13 p = mk) (ia : s.inR al) (ik : s.inR mk) :
    Calls Tryz.prog 15 #[.pointer (some ⟨mb, 0, none⟩), .pointer (some ⟨bb, 0, none⟩)] w fun e w' => e = .returned (didV ((swAc al mk l).act s)) ∧ ∃ y, SwM y P T p (l ++ [s.word (swAc al mk l).pos]) ∧ Steps w w' mb bb tb tm ub fb P T ((swAc al mk l).act s) y lg := by
  have hal : Lay.pageOk P T 12 p = true := by rw [pageOk12]; simp [hp, h0, h1]
  have hmk : Lay.pageOk P T 13 p = true := by rw [pageOk13]; simp [hp, h0, h1]
  have key : ∀ (v : Int) (d : Bool) (x' : MS) (s1 : StoreS), x.fresh.sweepR s al mk = (v, d, x', s1) → 
      Calls Tryz.prog 15 #[.pointer (some ⟨mb, 0, none⟩), .pointer (some ⟨bb, 0, none⟩)] w fun e w' => e = .returned (.agg #[.int .i64 (MS.fin d { x' with freed := v }).d0, .int .i64 (MS.fin d { x' with freed := v }).d1, .int .u64 (MS.fin d { x' with freed := v }).d2, .int .u64 (MS.fin d { x' with freed := v }).d3]) ∧ Steps w w' mb bb tb tm ub fb P T s1 { MS.fin d { x' with freed := v } with done := d } lg := by
    intro v d x' s1 hR
    refine mStep_any h hM hne (by rw [hx.done]; simp; omega) hx.P hx.T (fun w1 hm1 => ?_)
    refine mBodySweep hm1 hx.what ?_
    have := mSweep_any (p := p) hm1 hx.P hx.T hal hmk eal emk ia ik (by show x.log.length ≤ 90000; rw [hx.log]; omega) hR
    rw [← hx.page] at this
    exact this
  have hlog := hx.log
  match l, hl with
  | [], _ =>
    have hR : x.fresh.sweepR s al mk = (0, false, { x.fresh.told ((Ac.load mk).act s) with used := true, log := [s.word mk], at_ := 1 }, (Ac.load mk).act s) := by
      simp [MS.sweepR, MS.acc, MS.fresh, hlog, Ac.pos, MS.told]
    exact (key _ _ _ _ hR).mono (fun e w1 q => by refine ⟨q.1, _, ?_, q.2⟩; exact ⟨hx.what, hx.P, hx.T, hx.page, rfl, rfl, rfl⟩)
  | [b], _ =>
    have hR : x.fresh.sweepR s al mk = (0, false, { x.fresh.told ((Ac.load al).act s) with used := true, log := [b, s.word al], at_ := 2 }, (Ac.load al).act s) := by
      simp [MS.sweepR, MS.acc, MS.fresh, hlog, Ac.pos, MS.told]
    exact (key _ _ _ _ hR).mono (fun e w1 q => by refine ⟨q.1, _, ?_, q.2⟩; exact ⟨hx.what, hx.P, hx.T, hx.page, rfl, rfl, rfl⟩)
  | [b, a], _ =>
    have hR : x.fresh.sweepR s al mk = (clrU a b, false, { x.fresh.told ((Ac.put al (andU a b)).act s) with used := true, log := [b, a, s.word al], at_ := 3 }, (Ac.put al (andU a b)).act s) := by
      simp [MS.sweepR, MS.acc, MS.fresh, hlog, Ac.pos, MS.told]
    exact (key _ _ _ _ hR).mono (fun e w1 q => by refine ⟨q.1, _, ?_, q.2⟩; exact ⟨hx.what, hx.P, hx.T, hx.page, rfl, rfl, rfl⟩)
  | [b, a, o], _ =>
    have hR : x.fresh.sweepR s al mk = (clrU a b, true, { x.fresh.told ((Ac.put mk 0).act s) with used := true, log := [b, a, o, s.word mk], at_ := 4 }, (Ac.put mk 0).act s) := by
      simp [MS.sweepR, MS.acc, MS.fresh, hlog, Ac.pos, MS.told]
    exact (key _ _ _ _ hR).mono (fun e w1 q => by refine ⟨q.1, _, ?_, q.2⟩; exact ⟨hx.what, hx.P, hx.T, hx.page, rfl, rfl, rfl⟩)
end
end Go.Proofs.YtfgjacgkgonglaaGreat

/- StackRuns: pops and pushes of each side, in step, at the three heads. StackRuns: the game's blocks, lanes and rows. StackRuns: a step of a machine of both sides. StackRuns: a machine of both sides made. StackRuns: the game: its blocks, and what a row's turn leaves. StackRuns: a thread begins. StackRuns: rows appended to rows. By an AI agent. -/
import Derived.Test.YthhnpcniijpfeaaGreatZStackM
import Derived.Test.YthhnpcniijpfeaaGreatZLaneBase
import Derived.Test.YthhnpcniijpfeaaGreatZC
import Derived.Test.YthhnpcniijpfeaaGreatZUpd
import Derived.Test.YthhnpcniijpfeaaGreatZ2
import Derived.Test.YthhnpcniijpfeaaGreatZ8
import Derived.Deep.RegionHeld3
import Derived.Deep.DeepCutAuto
import Derived.Test.YthhnpcniijpfeaaGreatZPlay2
import Derived.Maps.AppendAt
namespace Go.Proofs.YthhnpcniijpfeaaGreat
open Go.RowKit
set_option linter.unusedSimpArgs false
set_option linter.unusedVariables false
def Hd3 (hd : Int) : Prop := hd = 8 ∨ hd = 15 ∨ hd = 22
/-- The stacks' words: no page that the arena has not. -/
structure StkOk (P T : Int) (s : StoreS) : Prop where
  hd : ∀ hd, Hd3 hd → Tag.pg (s.word hd) < P
  nx : ∀ q, 0 ≤ q → q < P → s.word (nxAt P T q) ≤ P
theorem tagPg_mk {t p : Int} (h : -1 ≤ p ∧ p < 4096) : Tag.pg (Tag.mk t p) = p := by
  unfold Tag.mk Tag.okB
  rw [if_pos (by simpa using h)]
  unfold Tag.pg
  have : (t * 4294967296 + (p + 1)) % 4294967296 = p + 1 := by omega
  rw [this, if_neg (by omega)]; omega
theorem tagPg_nx {x p : Int} (h : -1 ≤ p ∧ p < 4096) : Tag.pg (Tag.nx x p) = p := tagPg_mk h
/-- A machine: what it is, where it stands. -/
inductive SkS where
  | pop (hd : Int) (k : PopSt ⊕ Int)
  | push (hd pg : Int) (k : PushSt ⊕ Int)
namespace SkS
def isPush : SkS → Bool
  | pop _ _ => false | push _ _ _ => true
def over : SkS → Bool
  | pop _ k => overB k | push _ _ k => overB k
/-- The page that came of it. -/
def got : SkS → Int
  | pop _ k => pgOf k | push _ _ _ => -1
def ac (P T : Int) : SkS → Ac
  | pop hd (.inl k) => (popA P T hd).ac k
  | push hd pg (.inl k) => (pushA P T hd pg).ac k
  | _ => .load 0
def nx (P T v : Int) : SkS → SkS
  | pop hd (.inl k) => pop hd ((popA P T hd).nx k v)
  | push hd pg (.inl k) => push hd pg ((pushA P T hd pg).nx k v)
  | k => k
theorem nx_isPush (P T v : Int) (k : SkS) : (k.nx P T v).isPush = k.isPush := by
  rcases k with ⟨hd, k | k⟩ | ⟨hd, pg, k | k⟩ <;> rfl
end SkS
/-- What a machine's state has of the arena. -/
def SkOk (P : Int) : SkS → Prop
  | .pop hd (.inl .load) => Hd3 hd
  | .pop hd (.inl (.next v)) => Hd3 hd ∧ 0 ≤ Tag.pg v ∧ Tag.pg v < P
  | .pop hd (.inl (.cas v x)) => Hd3 hd ∧ (0 ≤ Tag.pg v ∧ Tag.pg v < P) ∧ 0 ≤ x ∧ x ≤ P
  | .push hd pg (.inl .load) => Hd3 hd ∧ 0 ≤ pg ∧ pg < P
  | .push hd pg (.inl (.put v)) => Hd3 hd ∧ (0 ≤ pg ∧ pg < P) ∧ Tag.pg v < P
  | .push hd pg (.inl (.cas _)) => Hd3 hd ∧ 0 ≤ pg ∧ pg < P
  | .pop _ (.inr p) => -1 ≤ p ∧ p < P
  | .push _ _ (.inr _) => True
theorem Hd3.bd {hd : Int} (h : Hd3 hd) : 8 ≤ hd ∧ hd < 68 := by rcases h with h | h | h <;> omega
section
variable {P T hd : Int} {s : StoreS} {k : SkS}
/-- The next state is one that a stack has. -/
theorem sk_nx (h : StkOk P T s) (hm : Lay.may P T = true) (hf : ∀ i, 0 ≤ s.word i) (hk : SkOk P k) : SkOk P (k.nx P T (s.word (k.ac P T).pos)) := by
  rcases k with ⟨hd, k | p⟩ | ⟨hd, pg, k | p⟩
  · cases k with
    | load =>
      have h1 := h.hd hd hk
      have h2 := (tagPg_bd (s.word hd)).1
      show SkOk P (.pop hd (if Tag.pg (s.word hd) < 0 then Sum.inr (-1) else if P ≤ Tag.pg (s.word hd) then Sum.inr (-2) else Sum.inl (PopSt.next (s.word hd))))
      have := Lay.may_iff.1 hm
      split
      · exact ⟨by omega, by omega⟩
      · rw [if_neg (by omega)]; exact ⟨hk, by omega, h1⟩
    | next v =>
      have h1 := h.nx _ hk.2.1 hk.2.2
      show SkOk P (.pop hd (if P < s.word (nxAt P T (Tag.pg v)) then Sum.inr (-2) else Sum.inl (PopSt.cas v (s.word (nxAt P T (Tag.pg v))))))
      rw [if_neg (by omega)]
      exact ⟨hk.1, hk.2, hf _, h1⟩
    | cas v x =>
      show SkOk P (.pop hd (if s.word hd = v then Sum.inr (Tag.pg v) else Sum.inl PopSt.load))
      split
      · exact ⟨by have := hk.2.1.1; omega, hk.2.1.2⟩
      · exact hk.1
  · exact hk
  · cases k with
    | load => exact ⟨hk.1, hk.2, h.hd hd hk.1⟩
    | put v => exact ⟨hk.1, hk.2.1⟩
    | cas v =>
      show SkOk P (.push hd pg (if s.word hd = v then Sum.inr 0 else Sum.inl PushSt.load))
      split
      · trivial
      · exact hk
  · trivial
/-- No word that no stack has was told. -/
theorem sk_bad (h : StkOk P T s) (hm : Lay.may P T = true) (hf : ∀ i, 0 ≤ s.word i) {k : PopSt} (hk : SkOk P (.pop hd (.inl k))) : (popA P T hd).nx k (s.word ((popA P T hd).ac k).pos) ≠ .inr (-2) := fun e => by
  have h1 := sk_nx h hm hf hk
  change SkOk P (.pop hd ((popA P T hd).nx k (s.word ((popA P T hd).ac k).pos))) at h1
  rw [e] at h1
  have := h1.1; omega
theorem StkOk.same (h : StkOk P T s) {j : Int} (hj : s.inR j) (hm : Lay.may P T = true) (a : Int) : StkOk P T (s.acc a j (s.word j)) := by
  have e : ∀ i, 0 ≤ i → (s.acc a j (s.word j)).word i = s.word i := fun i hi => by
    by_cases e : i = j
    · subst e; exact StoreS.acc_word hj _ _
    · exact StoreS.acc_word_other hj.1 hi e _ _
  exact ⟨fun hd hh => by rw [e _ (by have := hh.bd; omega)]; exact h.hd hd hh, fun q q0 q1 => by
    have := (nxAt_eq hm q0 q1).1
    have := Lay.may_iff.1 hm
    rw [e _ (by omega)]; exact h.nx q q0 q1⟩
theorem StkOk.head (h : StkOk P T s) {v : Int} (hh : Hd3 hd) (hi : s.inR hd) (hm : Lay.may P T = true) (hv : Tag.pg v < P) (a : Int) : StkOk P T (s.acc a hd v) := by
  have hb := hh.bd
  refine ⟨fun d hd' => ?_, fun q q0 q1 => ?_⟩
  · have := hd'.bd
    by_cases e : d = hd
    · subst e; rw [StoreS.acc_word hi]; exact hv
    · rw [StoreS.acc_word_other hi.1 (by omega) e]; exact h.hd d hd'
  · have := (nxAt_eq hm q0 q1).1
    have := Lay.may_iff.1 hm
    rw [StoreS.acc_word_other hi.1 (by omega) (by omega)]; exact h.nx q q0 q1
theorem StkOk.next (h : StkOk P T s) {p v : Int} (p0 : 0 ≤ p) (p1 : p < P) (hi : s.inR (nxAt P T p)) (hm : Lay.may P T = true) (hv : v ≤ P) (a : Int) : StkOk P T (s.acc a (nxAt P T p) v) := by
  have ep := (nxAt_eq hm p0 p1).1
  have hmm := Lay.may_iff.1 hm
  refine ⟨fun d hd' => ?_, fun q q0 q1 => ?_⟩
  · have := hd'.bd
    rw [StoreS.acc_word_other hi.1 (by omega) (by omega)]; exact h.hd d hd'
  · by_cases e : q = p
    · subst e; rw [StoreS.acc_word hi]; exact hv
    · have := (nxAt_eq hm q0 q1).1
      rw [StoreS.acc_word_other hi.1 (by omega) (by omega)]; exact h.nx q q0 q1
theorem StkOk.act (h : StkOk P T s) (hk : SkOk P k) (hm : Lay.may P T = true) (hlen : s.ws.length = (Lay.words P T).toNat) (ho : k.over = false) : StkOk P T ((k.ac P T).act s) := by
  have hmm := Lay.may_iff.1 hm
  have hw := (nxAt_eq (p := 0) hm (Int.le_refl 0) (by omega)).2
  have hi : ∀ hd, Hd3 hd → s.inR hd := fun hd hh => ⟨by have := hh.bd; omega, by rw [hlen]; have := hh.bd; omega⟩
  have hj : ∀ p, 0 ≤ p → p < P → s.inR (nxAt P T p) := fun p p0 p1 => by
    have e := nxAt_eq hm p0 p1
    exact ⟨by omega, by rw [hlen]; omega⟩
  have cas : ∀ (a o v : Int), (∀ b, StkOk P T (s.acc b a v)) → (∀ b, StkOk P T (s.acc b a (s.word a))) → StkOk P T ((Ac.cas a o v).act s) := fun a o v h1 h2 => by
    simp only [Ac.act]; split
    · exact h1 _
    · exact h2 _
  rcases k with ⟨hd, k | p⟩ | ⟨hd, pg, k | p⟩
  · cases k with
    | load => exact h.same (hi hd hk) hm _
    | next v => exact h.same (hj _ hk.2.1 hk.2.2) hm _
    | cas v x =>
      have h2 := hk.2.2
      exact cas _ _ _ (fun b => h.head hk.1 (hi hd hk.1) hm (by rw [tagPg_nx (by omega)]; omega) b) (fun b => h.same (hi hd hk.1) hm b)
  · cases ho
  · cases k with
    | load => exact h.same (hi hd hk.1) hm _
    | put v =>
      have h2 := hk.2.2
      exact h.next hk.2.1.1 hk.2.1.2 (hj _ hk.2.1.1 hk.2.1.2) hm (by omega) _
    | cas v =>
      have h2 := hk.2
      exact cas _ _ _ (fun b => h.head hk.1 (hi hd hk.1) hm (by rw [tagPg_nx (by omega)]; omega) b) (fun b => h.same (hi hd hk.1) hm b)
  · cases ho
end
/-- The document's machine, behind what it was told. -/
def SkM (x : MS) (P T : Int) (i : Nat) : SkS → Prop
  | .pop hd (.inl k) => (popA P T hd).feed .load x.log = some k ∧ x.log.length ≤ i ∧ x.what = 1 ∧ x.P = P ∧ x.T = T ∧ x.head = hd ∧ x.done = false
  | .push hd pg (.inl k) => (pushA P T hd pg).feed .load x.log = some k ∧ x.log.length ≤ i ∧ x.what = 2 ∧ x.P = P ∧ x.T = T ∧ x.head = hd ∧ x.done = false ∧ x.page = pg ∧ 0 ≤ pg ∧ pg < P
  | _ => False
theorem SkM.mono {x : MS} {P T : Int} {i : Nat} {k : SkS} (h : SkM x P T i k) : SkM x P T (i + 1) k := by
  rcases k with ⟨hd, k | p⟩ | ⟨hd, pg, k | p⟩
  · exact ⟨h.1, by have := h.2.1; omega, h.2.2⟩
  · exact h
  · exact ⟨h.1, by have := h.2.1; omega, h.2.2⟩
  · exact h
theorem SkM.live {x : MS} {P T : Int} {i : Nat} {k : SkS} (h : SkM x P T i k) : k.over = false := by
  rcases k with ⟨hd, k | p⟩ | ⟨hd, pg, k | p⟩ <;> first | rfl | exact h.elim
section
variable {w w' : World} {mb bb tb tm ub fb i : Nat} {P T : Int} {s : StoreS} {x : MS} {k : SkS} {lg mkv mem : Value}
theorem fin_liveG (d : Bool) (y : MS) (c : Ac) (s : StoreS) (v : Int) : (MS.fin d ({ y.live c s with got := v } : MS)).log = y.log ++ [s.word c.pos] ∧ (MS.fin d ({ y.live c s with got := v } : MS)).d0 = (c.act s).k ∧ (MS.fin d ({ y.live c s with got := v } : MS)).d1 = (c.act s).pos ∧ (MS.fin d ({ y.live c s with got := v } : MS)).d2 = (c.act s).old ∧ (MS.fin d ({ y.live c s with got := v } : MS)).d3 = (c.act s).new ∧ ((d = false → v = -1) → (MS.fin d ({ y.live c s with got := v } : MS)).got = v) := by
  cases d
  · exact ⟨rfl, rfl, rfl, rfl, rfl, fun h => (h rfl).symm⟩
  · exact ⟨rfl, rfl, rfl, rfl, rfl, fun _ => rfl⟩
set_option maxHeartbeats 4000000 in
/-- A step of the document's machine. -/
theorem skM_step (h : IsM w mb x lg mkv mem) (hM : IsMem w bb tb tm ub fb P T s) (hne : lg.ownBlock ≠ some tm) (hx : SkM x P T i k) (hq : SkOk P k) (hil : i < 90000) (hm : Lay.may P T = true) (hlen : s.ws.length = (Lay.words P T).toNat) (hs : StkOk P T s) (hf : ∀ i, 0 ≤ s.word i) :
    Calls Tryz.prog 64 #[.pointer (some ⟨mb, 0, none⟩), .pointer (some ⟨bb, 0, none⟩)] w fun e w' => e = .returned (didV ((k.ac P T).act s)) ∧ ∃ y : MS, y.done = (k.nx P T (s.word (k.ac P T).pos)).over ∧ y.got = (k.nx P T (s.word (k.ac P T).pos)).got ∧ ((k.nx P T (s.word (k.ac P T).pos)).over = false → SkM y P T (i + 1) (k.nx P T (s.word (k.ac P T).pos))) ∧ Steps w w' mb bb tb tm ub fb P T ((k.ac P T).act s) y lg := by
  rcases k with ⟨hd, k | p⟩ | ⟨hd, pg, k | p⟩
  · have hh : 8 ≤ hd ∧ hd < 68 := by cases k <;> first | exact Hd3.bd hq | exact Hd3.bd hq.1
    have hbad := sk_bad hs hm hf hq
    obtain ⟨h1, h2, h3, h4, h5, h6, h7⟩ := hx
    have law := Aut.law (popA P T hd) (s := s) x.log .load k x.fresh rfl (by show x.log.drop 0 = x.log; rfl) h1
    have hsn := Aut.feed_snoc (popA P T hd) x.log .load k (s.word ((popA P T hd).ac k).pos) h1
    have hroom : x.fresh.room < 100000 := by show x.log.length + 1 < 100000; omega
    show Calls Tryz.prog 64 #[.pointer (some ⟨mb, 0, none⟩), .pointer (some ⟨bb, 0, none⟩)] w fun e w' => e = .returned (didV (((popA P T hd).ac k).act s)) ∧ ∃ y : MS, y.done = overB ((popA P T hd).nx k (s.word ((popA P T hd).ac k).pos)) ∧ y.got = pgOf ((popA P T hd).nx k (s.word ((popA P T hd).ac k).pos)) ∧ (overB ((popA P T hd).nx k (s.word ((popA P T hd).ac k).pos)) = false → SkM y P T (i + 1) (.pop hd ((popA P T hd).nx k (s.word ((popA P T hd).ac k).pos)))) ∧ Steps w w' mb bb tb tm ub fb P T (((popA P T hd).ac k).act s) y lg
    obtain ⟨c, hc⟩ : ∃ c, (popA P T hd).ac k = c := ⟨_, rfl⟩
    rw [hc] at law hsn hbad ⊢
    obtain ⟨r, hr⟩ : ∃ r, (popA P T hd).nx k (s.word c.pos) = r := ⟨_, rfl⟩
    rw [hr] at law hsn hbad ⊢
    obtain ⟨d, hd2⟩ : ∃ d, overB r = d := ⟨_, rfl⟩
    obtain ⟨v, hv⟩ : ∃ v, pgOf r = v := ⟨_, rfl⟩
    rw [hd2, hv]
    have key := mStep_any (x1 := MS.fin d { ((x.fresh.on x.log.length).live c s) with got := v }) (s1 := c.act s) (d := d) h hM hne h7 h4 h5 (fun w1 hm1 => by
      refine mBodyPop (x' := (x.fresh.on x.log.length).live c s) hm1 h3 ?_
      have g1 : x.fresh.head = hd := h6
      rw [g1]
      refine (qPop (Ra.refl hm1) h4 h5 hm hh hlen hroom law (by cases r <;> simp_all)).mono (fun e w2 z => ?_)
      obtain ⟨z1, mk2, z2⟩ := z
      refine ⟨?_, z2.steps⟩
      rw [z1, ← hd2, ← hv]
      cases r <;> rfl)
    obtain ⟨f1, f2, f3, f4, f5, f6⟩ := fin_liveG d (x.fresh.on x.log.length) c s v
    obtain ⟨Y, hY⟩ : ∃ Y, Y = ({ MS.fin d { ((x.fresh.on x.log.length).live c s) with got := v } with done := d } : MS) := ⟨_, rfl⟩
    rw [← hY] at key
    rw [f2, f3, f4, f5] at key
    refine key.mono (fun e w1 z => ⟨z.1, Y, by rw [hY], by rw [hY]; exact f6 (fun h => by subst h; subst hv; cases r <;> first | rfl | cases hd2), fun hg => ?_, z.2⟩)
    subst hg
    subst hY
    rcases r with k1 | z
    · exact ⟨hsn, by show (x.log ++ [s.word c.pos]).length ≤ i + 1; simp; omega, h3, h4, h5, h6, rfl⟩
    · cases hd2
  · exact hx.elim
  · have hh : 8 ≤ hd ∧ hd < 68 := by cases k <;> exact Hd3.bd hq.1
    obtain ⟨h1, h2, h3, h4, h5, h6, h7, h8, h9, h10⟩ := hx
    have law := Aut.law (pushA P T hd pg) (s := s) x.log .load k x.fresh rfl (by show x.log.drop 0 = x.log; rfl) h1
    have hsn := Aut.feed_snoc (pushA P T hd pg) x.log .load k (s.word ((pushA P T hd pg).ac k).pos) h1
    have hroom : x.fresh.room < 100000 := by show x.log.length + 1 < 100000; omega
    show Calls Tryz.prog 64 #[.pointer (some ⟨mb, 0, none⟩), .pointer (some ⟨bb, 0, none⟩)] w fun e w' => e = .returned (didV (((pushA P T hd pg).ac k).act s)) ∧ ∃ y : MS, y.done = overB ((pushA P T hd pg).nx k (s.word ((pushA P T hd pg).ac k).pos)) ∧ y.got = -1 ∧ (overB ((pushA P T hd pg).nx k (s.word ((pushA P T hd pg).ac k).pos)) = false → SkM y P T (i + 1) (.push hd pg ((pushA P T hd pg).nx k (s.word ((pushA P T hd pg).ac k).pos)))) ∧ Steps w w' mb bb tb tm ub fb P T (((pushA P T hd pg).ac k).act s) y lg
    obtain ⟨c, hc⟩ : ∃ c, (pushA P T hd pg).ac k = c := ⟨_, rfl⟩
    rw [hc] at law hsn ⊢
    obtain ⟨r, hr⟩ : ∃ r, (pushA P T hd pg).nx k (s.word c.pos) = r := ⟨_, rfl⟩
    rw [hr] at law hsn ⊢
    obtain ⟨d, hd2⟩ : ∃ d, overB r = d := ⟨_, rfl⟩
    rw [hd2]
    have key := mStep_any (x1 := MS.fin d ((x.fresh.on x.log.length).live c s)) (s1 := c.act s) (d := d) h hM hne h7 h4 h5 (fun w1 hm1 => by
      refine mBodyPush (x' := (x.fresh.on x.log.length).live c s) hm1 h3 rfl ?_
      have g1 : x.fresh.head = hd := h6
      have g2 : x.fresh.page = pg := h8
      rw [g1, g2]
      refine (qPush (Ra.refl (hm1.adds ((Only.refl _ _).drew))) h4 h5 hm hh h9 h10 hlen hroom law).mono (fun e w2 z => ?_)
      obtain ⟨z1, mk2, z2⟩ := z
      refine ⟨?_, z2.steps⟩
      rw [z1, ← hd2]
      cases r <;> rfl)
    obtain ⟨f1, f2, f3, f4, f5, f6⟩ := fin_liveG d (x.fresh.on x.log.length) c s (-1)
    obtain ⟨Y, hY⟩ : ∃ Y, Y = ({ MS.fin d ((x.fresh.on x.log.length).live c s) with done := d } : MS) := ⟨_, rfl⟩
    rw [← hY] at key
    change (MS.fin d ((x.fresh.on x.log.length).live c s)).d0 = _ at f2
    change (MS.fin d ((x.fresh.on x.log.length).live c s)).d1 = _ at f3
    change (MS.fin d ((x.fresh.on x.log.length).live c s)).d2 = _ at f4
    change (MS.fin d ((x.fresh.on x.log.length).live c s)).d3 = _ at f5
    rw [f2, f3, f4, f5] at key
    refine key.mono (fun e w1 z => ⟨z.1, Y, by rw [hY], by rw [hY]; exact f6 (fun _ => rfl), fun hg => ?_, z.2⟩)
    subst hg
    subst hY
    rcases r with k1 | z
    · exact ⟨hsn, by show (x.log ++ [s.word c.pos]).length ≤ i + 1; simp; omega, h3, h4, h5, h6, rfl, h8, h9, h10⟩
    · cases hd2
  · exact hx.elim
/-- A program's machine at a state. -/
def SkA (P T : Int) (w : World) (m : Nat) : SkS → Prop
  | .pop hd k => HD P T hd ∧ PopX P T hd w m k
  | .push hd pg k => (HD P T hd ∧ 0 ≤ pg ∧ pg < P) ∧ PushX P T hd pg w m k
abbrev skTy (t : TypeId) : Prop := t = 78 ∨ t = 76
end
theorem skO (P T : Int) : LOps (SkA P T) skTy where
  keep {S w w' m k} h ho hm hs := by
    rcases k with ⟨hd, k⟩ | ⟨hd, pg, k⟩
    · exact ⟨h.1, h.2.keep ho hm hs⟩
    · exact ⟨h.1, h.2.keep ho hm hs⟩
  blk {w m k} h := by
    rcases k with ⟨hd, k⟩ | ⟨hd, pg, k⟩
    · obtain ⟨nx, was, hb, _⟩ := h.2.blk; exact ⟨_, _, hb, by simp, .inl rfl⟩
    · obtain ⟨nx, hb, _⟩ := h.2.blk; exact ⟨_, _, hb, by simp, .inr rfl⟩
  ty t h := by rcases h with rfl | rfl <;> decide
abbrev SkFree (u : TypeId) : Prop := BoxFree u ∧ u ≠ 78 ∧ u ≠ 43 ∧ u ≠ 76 ∧ u ≠ 44
theorem SkA.rowT {P T : Int} {w w' : World} {m r : Nat} {k : SkS} {cr : Array Value} {u : TypeId} (h : SkA P T w m k) (hr : Blk w r cr u) (hu : SkFree u) (ho : Only (· = r) w w') : SkA P T w' m k := by
  obtain ⟨hb, u1, u2, u3, u4⟩ := hu
  rcases k with ⟨hd, k | p⟩ | ⟨hd, pg, k | p⟩
  · refine ⟨h.1, ?_⟩
    have h2 : PopA P T hd w m k := h.2
    show PopA P T hd w' m k
    cases k with
    | load => obtain ⟨was, h⟩ := h2; exact ⟨was, Desk.rowT h hr hb u1 ho⟩
    | next v => exact ⟨h2.1, h2.2.1, Desk.rowT h2.2.2 hr hb u1 ho⟩
    | cas v x => obtain ⟨a1, a2, a3, jm, a4, a5⟩ := h2; exact ⟨a1, a2, a3, jm, a4.rowT hr u2 ho, Desk.rowT a5 hr hb u1 ho⟩
  · obtain ⟨was, h2⟩ := h.2
    exact ⟨h.1, was, Desk.rowT h2 hr hb u1 ho⟩
  · refine ⟨h.1, ?_⟩
    have h2 : PushA P T hd pg w m k := h.2
    show PushA P T hd pg w' m k
    cases k with
    | load => exact Desk.rowT (show Push1 w m P T hd pg from h2) hr hb u3 ho
    | put v => obtain ⟨h0, jw, jm, h1, h2, h3⟩ := h2; exact ⟨h0, jw, jm, h1.rowT hr hb.2.1 ho, h2.rowT hr u4 ho, Desk.rowT h3 hr hb u3 ho⟩
    | cas v => obtain ⟨h0, jm, h2, h3⟩ := h2; exact ⟨h0, jm, h2.rowT hr u4 ho, Desk.rowT h3 hr hb u3 ho⟩
  · exact ⟨h.1, Desk.rowT (show Desk w m (puC P T hd pg) 76 .done from h.2) hr hb u3 ho⟩
theorem SC.rowB {κ : Type} {LA : World → Nat → κ → Prop} {ty : TypeId → Prop} {w wr w' : World} {ab sb sm rb rg bb tb tm ub fb : Nat} {P T : Int} {s s' : StoreS} {L : List (Option (Lane κ))} (h : SC LA w ab sb sm rb rg bb tb tm ub fb P T wr s s' L) {r : Nat} {c : Array Value} {u : TypeId} (hr : Blk wr r c u) (hu : RowOk ty u) (hbt : ¬ BT u) (hfb : r ≠ fb)
    (hk : ∀ (t : Nat) (z : Lane κ), L[t]? = some (some z) → LA w' z.a z.k) (hlow : w.heap.size ≤ r) (ho : Only (· = r) wr w') : SC LA w ab sb sm rb rg bb tb tm ub fb P T w' s s' L :=
  ⟨h.both.keep ho (fun b c2 u2 hx hb e => by subst e; exact hbt ((hr.uniq hx).2 ▸ hb)) (fun e => by subst e; exact hu.2.1 (hr.uniq h.both.yard.st.head).2) (fun e => by subst e; exact hu.2.2.2.1 (hr.uniq h.both.yard.st.row).2) (fun e => by subst e; exact hu.2.2.1 (hr.uniq h.both.mem.st.head).2) (fun e => by subst e; exact hu.2.2.2.1 (hr.uniq h.both.mem.st.row).2) (fun e => hfb e.symm),
   h.len, h.len', ⟨hk, fun t z e => (h.lanes.B t z e).only ho (fun e2 => by
      have := (h.lanes.B t z e).blk
      rw [e2] at this
      exact hu.2.2.2.2 (hr.uniq this).2) (fun g hg e2 => by
      obtain ⟨c2, hc2⟩ := ownsRow_blk (h.lanes.B t z e).row hg
      rw [e2] at hc2
      exact hu.2.2.2.1 (hr.uniq hc2).2), h.lanes.ne, h.lanes.nl⟩, h.lowL, h.low, h.adds.andThen ho (fun i hi e => by omega)⟩
abbrev SkL := Lane SkS
/-- A machine of both sides, by its cells. -/
def mcC (p : Bool) (a b : Nat) : Array Value := #[ptrV (if p = true then none else some a), ptrV (if p = true then some a else none), .pointer (some ⟨b, 0, none⟩)]
/-- Within a step: the words and lanes, the rows, the step's own boxes. -/
structure SK (w : World) (ab sb sm rb rg bb tb tm ub fb : Nat) (P T : Int) (wr W : World) (s s' : StoreS) (L : List (Option SkL)) (m0 d0 r0 : Nat) (cm cd cr : Array Value) : Prop where
  sc : SC (SkA P T) w ab sb sm rb rg bb tb tm ub fb P T W s s' L
  rows : ∀ r c u, Blk wr r c u → RowOk skTy u → Blk W r c u
  m : Blk W m0 cm 47
  d : Blk W d0 cd 50
  r : Blk W r0 cr 50
  low : wr.heap.size ≤ m0 ∧ wr.heap.size ≤ d0 ∧ wr.heap.size ≤ r0 ∧ d0 ≠ r0
  wl : w.heap.size ≤ wr.heap.size
section
variable {w wr W W' : World} {ab sb sm rb rg bb tb tm ub fb t m0 d0 r0 : Nat} {P T : Int} {s s' s2 : StoreS} {L : List (Option SkL)} {cm cd cr : Array Value} {z : SkL} {k : SkS}
theorem SK.add (h : SK w ab sb sm rb rg bb tb tm ub fb P T wr W s s' L m0 d0 r0 cm cd cr) (ho : Adds W W') : SK w ab sb sm rb rg bb tb tm ub fb P T wr W' s s' L m0 d0 r0 cm cd cr :=
  ⟨h.sc.add (skO P T) ho, fun r c u hb hu => (h.rows r c u hb hu).only ho id, h.m.only ho id, h.d.only ho id, h.r.only ho id, h.low, h.wl⟩
theorem SK.kept (h : SK w ab sb sm rb rg bb tb tm ub fb P T wr W s s' L m0 d0 r0 cm cd cr) {s1 s1' : StoreS} {L1 : List (Option SkL)} (hs : SC (SkA P T) w ab sb sm rb rg bb tb tm ub fb P T W' s1 s1' L1) (h2 : ∀ r c u, Blk W r c u → RowOk skTy u → Blk W' r c u) : SK w ab sb sm rb rg bb tb tm ub fb P T wr W' s1 s1' L1 m0 d0 r0 cm cd cr :=
  ⟨hs, fun r c u hb hu => h2 r c u (h.rows r c u hb hu) hu, h2 _ _ _ h.m (by unfold RowOk; decide), h2 _ _ _ h.d (by unfold RowOk; decide), h2 _ _ _ h.r (by unfold RowOk; decide), h.low, h.wl⟩
theorem SK.setD (h : SK w ab sb sm rb rg bb tb tm ub fb P T wr W s s' L m0 d0 r0 cm cd cr) (j : Nat) (v : Value) : SK w ab sb sm rb rg bb tb tm ub fb P T wr (W.setCell ⟨d0, j, none⟩ v) s s' L m0 d0 r0 cm (cd.setIfInBounds j v) cr := by
  have ho := only_at W d0 j v
  refine ⟨h.sc.rowB (ty := skTy) h.d (by unfold RowOk; decide) (by unfold BT; decide) (fun e => ?_) (fun t z e => (h.sc.lanes.A t z e).rowT h.d (by decide) ho) (by have := h.low; have := h.wl; omega) ho, fun r c u hb hu => (h.rows r c u hb hu).only ho (fun e => ?_), h.m.rowT h.d (by decide) ho, h.d.setCell j v, h.r.only ho (fun e => h.low.2.2.2 e.symm), h.low, h.wl⟩
  · have h1 := h.d; rw [e] at h1; have := (h1.uniq h.sc.both.mem.fr).2; revert this; decide
  · have := hb.lt; have := h.low; omega
theorem SK.setR (h : SK w ab sb sm rb rg bb tb tm ub fb P T wr W s s' L m0 d0 r0 cm cd cr) (j : Nat) (v : Value) : SK w ab sb sm rb rg bb tb tm ub fb P T wr (W.setCell ⟨r0, j, none⟩ v) s s' L m0 d0 r0 cm cd (cr.setIfInBounds j v) := by
  have ho := only_at W r0 j v
  refine ⟨h.sc.rowB (ty := skTy) h.r (by unfold RowOk; decide) (by unfold BT; decide) (fun e => ?_) (fun t z e => (h.sc.lanes.A t z e).rowT h.r (by decide) ho) (by have := h.low; have := h.wl; omega) ho, fun r c u hb hu => (h.rows r c u hb hu).only ho (fun e => ?_), h.m.rowT h.r (by decide) ho, h.d.only ho (fun e => h.low.2.2.2 e), h.r.setCell j v, h.low, h.wl⟩
  · have h1 := h.r; rw [e] at h1; have := (h1.uniq h.sc.both.mem.fr).2; revert this; decide
  · have := hb.lt; have := h.low; omega
theorem SK.setR4 (h : SK w ab sb sm rb rg bb tb tm ub fb P T wr W s s' L m0 d0 r0 cm cd #[.int .i64 0, .int .i64 0, .int .u64 0, .int .u64 0]) (a b c d : Value) : SK w ab sb sm rb rg bb tb tm ub fb P T wr ((((W.setCell ⟨r0, 0, none⟩ a).setCell ⟨r0, 1, none⟩ b).setCell ⟨r0, 2, none⟩ c).setCell ⟨r0, 3, none⟩ d) s s' L m0 d0 r0 cm cd #[a, b, c, d] ∧ Only (· = r0) W ((((W.setCell ⟨r0, 0, none⟩ a).setCell ⟨r0, 1, none⟩ b).setCell ⟨r0, 2, none⟩ c).setCell ⟨r0, 3, none⟩ d) :=
  ⟨(((h.setR 0 a).setR 1 b).setR 2 c).setR 3 d, (((only_at W r0 0 a).setCell (p := ⟨r0, 1, none⟩) (.inl rfl) b).setCell (p := ⟨r0, 2, none⟩) (.inl rfl) c).setCell (p := ⟨r0, 3, none⟩) (.inl rfl) d⟩
theorem cellO {g j r0 : Nat} {v : Value} (ho : Only (· = r0) W W') (hg : g ≠ r0) (hc : W.cell? ⟨g, j, none⟩ = some v) : W'.cell? ⟨g, j, none⟩ = some v := (ho.cellF (p := ⟨g, j, none⟩) (cell_lt hc) hg).trans hc
theorem SK.new (h : SC (SkA P T) w ab sb sm rb rg bb tb tm ub fb P T wr s s' L) (ho : Adds wr W) (hm : Blk W m0 cm 47) (hd : Blk W d0 cd 50) (hr : Blk W r0 cr 50) (hl : wr.heap.size ≤ m0 ∧ wr.heap.size ≤ d0 ∧ wr.heap.size ≤ r0 ∧ d0 ≠ r0) : SK w ab sb sm rb rg bb tb tm ub fb P T wr W s s' L m0 d0 r0 cm cd cr :=
  ⟨h.add (skO P T) ho, fun r c u hb _ => hb.only ho id, hm, hd, hr, hl, h.adds.size⟩
/-- A step of the program's pop; of its push. -/
theorem sk_our (h : SK w ab sb sm rb rg bb tb tm ub fb P T wr W s s' L m0 d0 r0 cm cd cr) (hz : L[t]? = some (some z)) (hm : Lay.may P T = true) {c : Ac} {k' : SkS} {e : Ending} (hk : StQ (fun w' => SkA P T w' z.a k') z.a ab sb sm rb P T c s W e W') :
    e = .returned (didV (c.act s)) ∧ SK w ab sb sm rb rg bb tb tm ub fb P T wr W' (c.act s) s' (L.set t (some { z with k := k' })) m0 d0 r0 cm cd cr := by
  obtain ⟨h1, ⟨h2, h3⟩, h4⟩ := hk
  obtain ⟨a1, a2⟩ := h.sc.stepA (skO P T) hm hz h4 h2 h3 (Ac.act_len _ _)
  exact ⟨h1, h.kept a1 a2⟩
theorem sk_pop {hd : Int} {k : PopSt} (h : SK w ab sb sm rb rg bb tb tm ub fb P T wr W s s' L m0 d0 r0 cm cd cr) (hz : L[t]? = some (some z)) (hm : Lay.may P T = true) (hk : z.k = .pop hd (.inl k)) (hq : SkOk P z.k) (hs : StkOk P T s) :
    Calls Tryz.prog 11 #[.pointer (some ⟨z.a, 0, none⟩), .pointer (some ⟨ab, 0, none⟩)] W fun e w' => e = .returned (didV ((z.k.ac P T).act s)) ∧ SK w ab sb sm rb rg bb tb tm ub fb P T wr w' ((z.k.ac P T).act s) s' (L.set t (some { z with k := z.k.nx P T (s.word (z.k.ac P T).pos) })) m0 d0 r0 cm cd cr := by
  have hA := h.sc.lanes.A t z hz
  rw [hk] at hA hq ⊢
  have hf : ∀ i, 0 ≤ s.word i := fun i => (StoreS.word_bd h.sc.both.yard.st.fit i).1
  exact (popA_step hA.1 hA.2 h.sc.both.yard h.sc.len (sk_bad hs hm hf hq)).mono (fun e w' c => sk_our (k' := .pop hd ((popA P T hd).nx k (s.word ((popA P T hd).ac k).pos))) h hz hm ⟨c.1, ⟨⟨hA.1, c.2.1.1⟩, c.2.1.2⟩, c.2.2⟩)
theorem sk_push {hd pg : Int} {k : PushSt} (h : SK w ab sb sm rb rg bb tb tm ub fb P T wr W s s' L m0 d0 r0 cm cd cr) (hz : L[t]? = some (some z)) (hm : Lay.may P T = true) (hk : z.k = .push hd pg (.inl k)) :
    Calls Tryz.prog 9 #[.pointer (some ⟨z.a, 0, none⟩), .pointer (some ⟨ab, 0, none⟩)] W fun e w' => e = .returned (didV ((z.k.ac P T).act s)) ∧ SK w ab sb sm rb rg bb tb tm ub fb P T wr w' ((z.k.ac P T).act s) s' (L.set t (some { z with k := z.k.nx P T (s.word (z.k.ac P T).pos) })) m0 d0 r0 cm cd cr := by
  have hA := h.sc.lanes.A t z hz
  rw [hk] at hA ⊢
  exact (pushA_step hA.1.1 hA.1.2.1 hA.1.2.2 hA.2 h.sc.both.yard h.sc.len).mono (fun e w' c => sk_our (k' := .push hd pg ((pushA P T hd pg).nx k (s.word ((pushA P T hd pg).ac k).pos))) h hz hm ⟨c.1, ⟨⟨hA.1, c.2.1.1⟩, c.2.1.2⟩, c.2.2⟩)
/-- A step of the document's, behind ours. -/
theorem sk_doc {k0 : SkS} {i : Nat} (h : SK w ab sb sm rb rg bb tb tm ub fb P T wr W s2 s' L m0 d0 r0 cm cd cr) (hz : L[t]? = some (some { z with k := k })) (hm : Lay.may P T = true) (hx : SkM z.x P T i k0) (hq : SkOk P k0) (hil : i < 90000) (hs : StkOk P T s') (he : s.ws = s'.ws) (hkk : k = k0.nx P T (s'.word (k0.ac P T).pos)) :
    Calls Tryz.prog 64 #[.pointer (some ⟨z.b, 0, none⟩), .pointer (some ⟨bb, 0, none⟩)] W fun e w' => e = .returned (didV ((k0.ac P T).act s)) ∧ ∃ z2 : SkL, (z2.a = z.a ∧ z2.b = z.b ∧ z2.k = k) ∧ (k.over = false → SkM z2.x P T (i + 1) k) ∧ (w'.cell? ⟨z.b, 15, none⟩ = some (.bool k.over) ∧ w'.cell? ⟨z.b, 23, none⟩ = some (.int .i64 k.got)) ∧ SK w ab sb sm rb rg bb tb tm ub fb P T wr w' s2 ((k0.ac P T).act s') (L.set t (some z2)) m0 d0 r0 cm cd cr := by
  have hB := h.sc.lanes.B t _ hz
  have hN := (h.sc.lanes.nl t _ hz).2
  have hf : ∀ i, 0 ≤ s'.word i := fun i => (StoreS.word_bd h.sc.both.mem.st.fit i).1
  subst hkk
  refine (skM_step hB h.sc.both.mem hN hx hq hil hm h.sc.len' hs hf).mono (fun e w' c => ?_)
  obtain ⟨c1, y, y1, y2, y3, c3⟩ := c
  obtain ⟨lg1, mk1, h1, h2⟩ := h.sc.stepB (skO P T) hm hz c3 (Ac.act_len _ _)
  have hm2 := h1.lanes.B t _ (List.getElem?_set_self (by have := (List.getElem?_eq_some_iff.1 hz).1; exact this))
  refine ⟨?_, (⟨z.a, _, z.b, y, lg1, mk1, .pointer (some ⟨bb, 0, none⟩)⟩ : SkL), ⟨rfl, rfl, rfl⟩, y3, ⟨?_, ?_⟩, h.kept h1 h2⟩
  · rw [c1, (act_same _ he).2]
  · have := hm2.blk.cell 15
    rw [← y1]; exact this
  · have := hm2.blk.cell 23
    rw [← y2]; exact this
theorem StkOk.of_ws (h : StkOk P T s) (he : s.ws = s'.ws) : StkOk P T s' := by
  have hw : ∀ i, s'.word i = s.word i := fun i => by unfold StoreS.word; rw [he]
  exact ⟨fun hd hh => by rw [hw]; exact h.hd hd hh, fun q q0 q1 => by rw [hw]; exact h.nx q q0 q1⟩
theorem word_ws (he : s.ws = s'.ws) (i : Int) : s'.word i = s.word i := by unfold StoreS.word; rw [he]
/-- What a step of both sides leaves. -/
def StepQ (w : World) (ab sb sm rb rg bb tb tm ub fb : Nat) (P T : Int) (wr : World) (s s' : StoreS) (L : List (Option SkL)) (t : Nat) (z : SkL) (i : Nat) (e : Ending) (w' : World) : Prop :=
  e = .returned (.tuple #[didV ((z.k.ac P T).act s), .bool true]) ∧ ∃ z2 : SkL, (z2.a = z.a ∧ z2.b = z.b ∧ z2.k = z.k.nx P T (s.word (z.k.ac P T).pos)) ∧ (z2.k.over = false → SkM z2.x P T (i + 1) z2.k) ∧ (w'.cell? ⟨z.b, 15, none⟩ = some (.bool z2.k.over) ∧ w'.cell? ⟨z.b, 23, none⟩ = some (.int .i64 z2.k.got)) ∧ SC (SkA P T) w ab sb sm rb rg bb tb tm ub fb P T w' ((z.k.ac P T).act s) ((z.k.ac P T).act s') (L.set t (some z2)) ∧ ∀ r c u, Blk wr r c u → RowOk skTy u → Blk w' r c u
set_option maxRecDepth 100000 in
set_option maxHeartbeats 8000000 in
theorem skStepPop {hd : Int} {k : PopSt} {i : Nat} (h : SC (SkA P T) w ab sb sm rb rg bb tb tm ub fb P T wr s s' L) (hz : L[t]? = some (some z)) (hm : Lay.may P T = true) (hk : z.k = .pop hd (.inl k)) (hx : SkM z.x P T i z.k) (hq : SkOk P z.k) (hil : i < 90000) (hs : StkOk P T s) (he : s.ws = s'.ws) :
    Calls Tryz.prog 40 #[.agg (mcC false z.a z.b), .pointer (some ⟨ab, 0, none⟩), .pointer (some ⟨bb, 0, none⟩)] wr (StepQ w ab sb sm rb rg bb tb tm ub fb P T wr s s' L t z i) := by
  obtain ⟨kn, hkn⟩ : ∃ q, z.k.nx P T (s.word (z.k.ac P T).pos) = q := ⟨_, rfl⟩
  obtain ⟨ka, hka⟩ : ∃ v, ((z.k.ac P T).act s).k = v := ⟨_, rfl⟩
  obtain ⟨kp, hkp⟩ : ∃ v, ((z.k.ac P T).act s).pos = v := ⟨_, rfl⟩
  obtain ⟨ko, hko⟩ : ∃ v, ((z.k.ac P T).act s).old = v := ⟨_, rfl⟩
  obtain ⟨kw, hkw⟩ : ∃ v, ((z.k.ac P T).act s).new = v := ⟨_, rfl⟩
  have hdA : didV ((z.k.ac P T).act s) = .agg #[.int .i64 ka, .int .i64 kp, .int .u64 ko, .int .u64 kw] := by rw [← hka, ← hkp, ← hko, ← hkw]; rfl
  obtain ⟨dn, hdn⟩ : ∃ d, kn.over = d := ⟨_, rfl⟩
  obtain ⟨gt, hgt⟩ : ∃ d, kn.got = d := ⟨_, rfl⟩
  have hlt : t < L.length := (List.getElem?_eq_some_iff.1 hz).1
  have hl1 : (L.set t (some { z with k := kn }))[t]? = some (some { z with k := kn }) := List.getElem?_set_self hlt
  have HOUR : Hid (∀ W m0 d0 r0 cm cd cr, SK w ab sb sm rb rg bb tb tm ub fb P T wr W s s' L m0 d0 r0 cm cd cr → Calls Tryz.prog 11 #[.pointer (some ⟨z.a, 0, none⟩), .pointer (some ⟨ab, 0, none⟩)] W fun e w' => e = .returned (.agg #[.int .i64 ka, .int .i64 kp, .int .u64 ko, .int .u64 kw]) ∧ Hid (SK w ab sb sm rb rg bb tb tm ub fb P T wr w' ((z.k.ac P T).act s) s' (L.set t (some { z with k := kn })) m0 d0 r0 cm cd cr)) := Lib.hid (fun W m0 d0 r0 cm cd cr hK => by
    have := sk_pop hK hz hm hk hq hs
    rw [hkn, hdA] at this
    exact this.mono (fun e w' c => ⟨c.1, Lib.hid c.2⟩))
  have HDOC : Hid (∀ W m0 d0 r0 cm cd cr, SK w ab sb sm rb rg bb tb tm ub fb P T wr W ((z.k.ac P T).act s) s' (L.set t (some { z with k := kn })) m0 d0 r0 cm cd cr → Calls Tryz.prog 64 #[.pointer (some ⟨z.b, 0, none⟩), .pointer (some ⟨bb, 0, none⟩)] W fun e w' => e = .returned (.agg #[.int .i64 ka, .int .i64 kp, .int .u64 ko, .int .u64 kw]) ∧ ∃ z2 : SkL, Hid ((z2.a = z.a ∧ z2.b = z.b ∧ z2.k = kn) ∧ (dn = false → SkM z2.x P T (i + 1) kn)) ∧ Hid (w'.cell? ⟨z.b, 15, none⟩ = some (.bool dn) ∧ w'.cell? ⟨z.b, 23, none⟩ = some (.int .i64 gt)) ∧ Hid (SK w ab sb sm rb rg bb tb tm ub fb P T wr w' ((z.k.ac P T).act s) ((z.k.ac P T).act s') (L.set t (some z2)) m0 d0 r0 cm cd cr ∧ (L.set t (some z2))[t]? = some (some z2))) := Lib.hid (fun W m0 d0 r0 cm cd cr hK => by
    refine (sk_doc (s := s) hK hl1 hm hx hq hil (hs.of_ws he) he (by rw [word_ws he]; exact hkn.symm)).mono (fun e w' c => ?_)
    obtain ⟨c1, z2, c2, c3, c4, c5⟩ := c
    rw [hdA] at c1
    rw [hdn] at c3 c4
    rw [hgt] at c4
    rw [List.set_set] at c5
    exact ⟨c1, z2, Lib.hid ⟨c2, c3⟩, Lib.hid c4, Lib.hid ⟨c5, List.getElem?_set_self hlt⟩⟩)
  have hpush : kn.isPush = false := by rw [← hkn, SkS.nx_isPush, hk]; rfl
  have HDN : Hid (∀ W (y : SkL), SkA P T W y.a y.k → y.a = z.a → y.k = kn → (Calls Tryz.prog 12 #[.pointer (some ⟨z.a, 0, none⟩)] W fun e w' => e = .returned (.bool dn) ∧ W = w') ∧ (Calls Tryz.prog 13 #[.pointer (some ⟨z.a, 0, none⟩)] W fun e w' => e = .returned (.int .i64 gt) ∧ W = w')) := Lib.hid (fun W y h1 h2 h3 => by
    rw [h2, h3] at h1
    rw [← hdn, ← hgt]
    cases kn with
    | pop hd2 k2 => exact ⟨popX_done h1.2, popX_page h1.2⟩
    | push hd2 pg2 k2 => cases hpush)
  have hde : ∀ W, Sem.run Tryz.prog (binOp .eql 50 (.agg #[.int .i64 ka, .int .i64 kp, .int .u64 ko, .int .u64 kw]) (.agg #[.int .i64 ka, .int .i64 kp, .int .u64 ko, .int .u64 kw])) W = .ok (.bool true) W := fun W => by rw [did_eql]; simp
  have HEND : Hid (∀ e w' (z2 : SkL) m0 d0 r0 cm cd cr, e = Ending.returned (.tuple #[.agg #[.int .i64 ka, .int .i64 kp, .int .u64 ko, .int .u64 kw], .bool true]) → (z2.a = z.a ∧ z2.b = z.b ∧ z2.k = kn) ∧ (dn = false → SkM z2.x P T (i + 1) kn) → w'.cell? ⟨z.b, 15, none⟩ = some (.bool dn) ∧ w'.cell? ⟨z.b, 23, none⟩ = some (.int .i64 gt) → SK w ab sb sm rb rg bb tb tm ub fb P T wr w' ((z.k.ac P T).act s) ((z.k.ac P T).act s') (L.set t (some z2)) m0 d0 r0 cm cd cr → StepQ w ab sb sm rb rg bb tb tm ub fb P T wr s s' L t z i e w') := Lib.hid (fun e w' z2 m0 d0 r0 cm cd cr h1 h2 h3 h4 => by
    obtain ⟨⟨a1, a2, a3⟩, a4⟩ := h2
    refine ⟨by rw [h1, hdA], z2, ⟨a1, a2, by rw [hkn]; exact a3⟩, by rw [a3, hdn]; exact a4, by rw [a3, hdn, hgt]; exact h3, h4.sc, h4.rows⟩)
  have HSC := Lib.hid h
  clear h hz hm hk hx hq hil hs he hka hkp hko hkw hdA hdn hgt hlt hl1 hkn
  go_enter Tryz.func40, Tryz.ntmps40
  go_upto_region 2 with fail
  obtain ⟨m0, hm0⟩ : ∃ m, wr.heap.size = m := ⟨_, rfl⟩
  have Z4 : (#[Value.int .i64 0, Value.int .i64 0, Value.int .u64 0, Value.int .u64 0] : Array Value).size = 4 := rfl
  obtain ⟨V1, hV1⟩ : ∃ V, wr.alloc (.cells (mcC false z.a z.b) 47) = V := ⟨_, rfl⟩
  obtain ⟨V2, hV2⟩ : ∃ V, V1.alloc (.cells #[.int .i64 0, .int .i64 0, .int .u64 0, .int .u64 0] 50) = V := ⟨_, rfl⟩
  obtain ⟨V3, hV3⟩ : ∃ V, V2.alloc (.cells #[.int .i64 0, .int .i64 0, .int .u64 0, .int .u64 0] 50) = V := ⟨_, rfl⟩
  rw [hV1, hV2, hV3, hm0]
  have z1 : V1.heap.size = m0 + 1 := by rw [← hV1, World.size_alloc, hm0]
  have z2 : V2.heap.size = m0 + 1 + 1 := by rw [← hV2, World.size_alloc, z1]
  have A1 : Adds wr V1 := by rw [← hV1]; exact (Only.refl (fun _ => False) wr).alloc _
  have A2 : Adds V1 V2 := by rw [← hV2]; exact (Only.refl (fun _ => False) V1).alloc _
  have A3 : Adds V2 V3 := by rw [← hV3]; exact (Only.refl (fun _ => False) V2).alloc _
  have b1 : Blk V3 m0 (mcC false z.a z.b) 47 := by
    have : Blk V1 m0 (mcC false z.a z.b) 47 := by rw [← hV1, ← hm0]; exact Blk.new wr _ _
    exact (this.only A2 id).only A3 id
  have b2 : Blk V3 (m0 + 1) #[.int .i64 0, .int .i64 0, .int .u64 0, .int .u64 0] 50 := by
    have : Blk V2 (m0 + 1) #[.int .i64 0, .int .i64 0, .int .u64 0, .int .u64 0] 50 := by rw [← hV2, ← z1]; exact Blk.new V1 _ _
    exact this.only A3 id
  have b3 : Blk V3 (m0 + 1 + 1) #[.int .i64 0, .int .i64 0, .int .u64 0, .int .u64 0] 50 := by rw [← hV3, ← z2]; exact Blk.new V2 _ _
  have c0 : V3.cell? ⟨m0, 0, none⟩ = some ((.pointer (some ⟨z.a, 0, none⟩))) := b1.cell 0
  have c1 : V3.cell? ⟨m0, 1, none⟩ = some ((.pointer none)) := b1.cell 1
  have HK := Lib.hid (SK.new HSC.out ((A1.thenF A2).thenF A3) b1 b3 b2 (by omega))
  clear Z4 hV1 hV2 hV3 z1 z2 A1 A2 A3 b1 b2 b3 HSC hm0
  go_upto_region 5 with fail
  go_upto_region 6 with (go_at_call 11; refine (HOUR.out V3 _ _ _ _ _ _ HK.out).mono ?_; rintro e v1 ⟨rfl, HK1⟩; have e0 := HK1.out.d.cell 0; have e1 := HK1.out.d.cell 1; have e2 := HK1.out.d.cell 2; have e3 := HK1.out.d.cell 3; have f0 := HK1.out.d.frozen 0; have f1 := HK1.out.d.frozen 1; have f2 := HK1.out.d.frozen 2; have f3 := HK1.out.d.frozen 3)
  obtain ⟨d0, hd0⟩ : ∃ d, m0 + 1 + 1 = d := ⟨_, rfl⟩
  obtain ⟨r0, hr0⟩ : ∃ d, m0 + 1 = d := ⟨_, rfl⟩
  rw [hd0, hr0] at HK1
  rw [hd0, hr0]
  clear hd0 hr0
  obtain ⟨V4, hV4⟩ : ∃ V, (((v1.setCell ⟨d0, 0, none⟩ (.int .i64 ka)).setCell ⟨d0, 1, none⟩ (.int .i64 kp)).setCell ⟨d0, 2, none⟩ (.int .u64 ko)).setCell ⟨d0, 3, none⟩ (.int .u64 kw) = V := ⟨_, rfl⟩
  have HK2 : Hid (SK w ab sb sm rb rg bb tb tm ub fb P T wr V4 ((z.k.ac P T).act s) s' (L.set t (some { z with k := kn })) m0 d0 r0 (mcC false z.a z.b) #[.int .i64 ka, .int .i64 kp, .int .u64 ko, .int .u64 kw] #[.int .i64 0, .int .i64 0, .int .u64 0, .int .u64 0]) := Lib.hid (by
    rw [← hV4]
    exact (((HK1.out.setD 0 (.int .i64 ka)).setD 1 (.int .i64 kp)).setD 2 (.int .u64 ko)).setD 3 (.int .u64 kw))
  rw [hV4]
  clear hV4 HK1 e0 e1 e2 e3 f0 f1 f2 f3 c0 c1 HOUR HK
  have HCELL : Hid (∀ W S S' L1 cr, SK w ab sb sm rb rg bb tb tm ub fb P T wr W S S' L1 m0 d0 r0 (mcC false z.a z.b) #[.int .i64 ka, .int .i64 kp, .int .u64 ko, .int .u64 kw] cr → W.cell? ⟨d0, 0, none⟩ = some (.int .i64 ka) ∧ W.cell? ⟨d0, 1, none⟩ = some (.int .i64 kp) ∧ W.cell? ⟨d0, 2, none⟩ = some (.int .u64 ko) ∧ W.cell? ⟨d0, 3, none⟩ = some (.int .u64 kw) ∧ W.cell? ⟨m0, 0, none⟩ = some (.pointer (some ⟨z.a, 0, none⟩)) ∧ W.cell? ⟨m0, 2, none⟩ = some (.pointer (some ⟨z.b, 0, none⟩))) := Lib.hid (fun W S S' L1 cr h => ⟨h.d.cell 0, h.d.cell 1, h.d.cell 2, h.d.cell 3, h.m.cell 0, h.m.cell 2⟩)
  refine wp_region_held_drew (S := (fun V => V.cell? ⟨d0, 0, none⟩ = some (.int .i64 ka) ∧ V.cell? ⟨d0, 1, none⟩ = some (.int .i64 kp) ∧ V.cell? ⟨d0, 2, none⟩ = some (.int .u64 ko) ∧ V.cell? ⟨d0, 3, none⟩ = some (.int .u64 kw) ∧ V.cell? ⟨m0, 0, none⟩ = some (.pointer (some ⟨z.a, 0, none⟩)) ∧ V.cell? ⟨m0, 2, none⟩ = some (.pointer (some ⟨z.b, 0, none⟩)))) (by kernel_rfl) (HCELL.out _ _ _ _ _ (HK2.out.add ((Only.refl (fun _ => False) V4).drew))) (fun hHeld => ?_)
  refine wpAnyH_take (i := 0) (v := (.agg #[.int .i64 ka, .int .i64 kp, .int .u64 ko, .int .u64 kw])) rfl (by kernel_rfl) (by kernel_rfl) (by kernel_rfl) (fun _ _ _ h => h) (Or.inl ⟨by rfl, fun W hS => by (obtain ⟨q1, q2, q3, q4, q5, q6⟩ := hS; go_simp; done)⟩) hHeld ?_
  try simp only [Act.put, List.getElem_toArray, List.getElem_cons_succ, List.getElem_cons_zero, List.setIfInBounds_toArray, List.set_cons_zero, List.set_cons_succ]
  refine wpAnyH_take (i := 1) (v := (.agg #[.int .i64 ka, .int .i64 kp, .int .u64 ko, .int .u64 kw])) rfl (by kernel_rfl) (by kernel_rfl) (by kernel_rfl) (fun _ _ _ h => h) (Or.inl ⟨by rfl, fun W hS => by (obtain ⟨q1, q2, q3, q4, q5, q6⟩ := hS; go_simp; done)⟩) hHeld ?_
  try simp only [Act.put, List.getElem_toArray, List.getElem_cons_succ, List.getElem_cons_zero, List.setIfInBounds_toArray, List.set_cons_zero, List.set_cons_succ]
  refine wpAnyH_take (i := 2) (v := (.pointer (some ⟨m0, 2, none⟩))) rfl (by kernel_rfl) (by kernel_rfl) (by kernel_rfl) (fun _ _ _ h => h) (Or.inl ⟨by rfl, fun W hS => by first | rfl | (go_simp; done)⟩) hHeld ?_
  try simp only [Act.put, List.getElem_toArray, List.getElem_cons_succ, List.getElem_cons_zero, List.setIfInBounds_toArray, List.set_cons_zero, List.set_cons_succ]
  refine wpAnyH_take (i := 3) (v := (.pointer (some ⟨z.b, 0, none⟩))) rfl (by kernel_rfl) (by kernel_rfl) (by kernel_rfl) (fun _ _ _ h => h) (Or.inl ⟨by rfl, fun W hS => by (obtain ⟨q1, q2, q3, q4, q5, q6⟩ := hS; go_simp; done)⟩) hHeld ?_
  try simp only [Act.put, List.getElem_toArray, List.getElem_cons_succ, List.getElem_cons_zero, List.setIfInBounds_toArray, List.set_cons_zero, List.set_cons_succ]
  refine wpAnyH_take (i := 4) (v := (.pointer (some ⟨bb, 0, none⟩))) rfl (by kernel_rfl) (by kernel_rfl) (by kernel_rfl) (fun _ _ _ h => h) (Or.inl ⟨by rfl, fun W hS => by first | rfl | (go_simp; done)⟩) hHeld ?_
  try simp only [Act.put, List.getElem_toArray, List.getElem_cons_succ, List.getElem_cons_zero, List.setIfInBounds_toArray, List.set_cons_zero, List.set_cons_succ]
  refine wpAnyH_ready (rs := [5]) (by kernel_rfl) (by simp) (AllReadyH.cons rfl (fun K hK => ?_) AllReadyH.nil)
  simp only [List.getElem_toArray, List.getElem_cons_succ, List.getElem_cons_zero]
  go_simp
  refine (HDOC.out _ _ _ _ _ _ _ (HK2.out.add ((Only.refl (fun _ => False) V4).drew))).mono ?_
  rintro e v2 ⟨rfl, z2, HZ2, HC, HV2⟩
  refine hK.out _ _ (HCELL.out _ _ _ _ _ HV2.out.1) (fun hHeld => ?_)
  clear hK K
  try simp only [Act.put, List.getElem_toArray, List.getElem_cons_succ, List.getElem_cons_zero, List.setIfInBounds_toArray, List.set_cons_zero, List.set_cons_succ]
  refine wpAnyH_mono (S2 := (fun V => (V.cell? ⟨d0, 0, none⟩ = some (.int .i64 ka) ∧ V.cell? ⟨d0, 1, none⟩ = some (.int .i64 kp) ∧ V.cell? ⟨d0, 2, none⟩ = some (.int .u64 ko) ∧ V.cell? ⟨d0, 3, none⟩ = some (.int .u64 kw) ∧ V.cell? ⟨m0, 0, none⟩ = some (.pointer (some ⟨z.a, 0, none⟩)) ∧ V.cell? ⟨m0, 2, none⟩ = some (.pointer (some ⟨z.b, 0, none⟩))) ∧ V.cell? ⟨z.b, 15, none⟩ = some (.bool dn) ∧ V.cell? ⟨z.b, 23, none⟩ = some (.int .i64 gt))) (fun W h => h.1) ?_
  replace hHeld := And.intro hHeld HC.out
  refine wpAnyH_take (i := 6) (v := (.bool true)) rfl (by kernel_rfl) (by kernel_rfl) (by kernel_rfl) (fun _ _ _ h => h) (Or.inl ⟨by rfl, fun W hS => by first | rfl | (go_simp; done) | (simp [go_sem, hde]; done)⟩) hHeld ?_
  try simp only [Act.put, List.getElem_toArray, List.getElem_cons_succ, List.getElem_cons_zero, List.setIfInBounds_toArray, List.set_cons_zero, List.set_cons_succ]
  refine wpAnyH_take (i := 7) (v := (.bool true)) rfl (by kernel_rfl) (by kernel_rfl) (by kernel_rfl) (fun _ _ _ h => h) (Or.inl ⟨by rfl, fun W hS => by first | rfl | (go_simp; done)⟩) hHeld ?_
  try simp only [Act.put, List.getElem_toArray, List.getElem_cons_succ, List.getElem_cons_zero, List.setIfInBounds_toArray, List.set_cons_zero, List.set_cons_succ]
  refine wpAnyH_take (i := 8) (v := (.pointer (some ⟨m0, 0, none⟩))) rfl (by kernel_rfl) (by kernel_rfl) (by kernel_rfl) (fun _ _ _ h => h) (Or.inl ⟨by rfl, fun W hS => by first | rfl | (go_simp; done)⟩) hHeld ?_
  try simp only [Act.put, List.getElem_toArray, List.getElem_cons_succ, List.getElem_cons_zero, List.setIfInBounds_toArray, List.set_cons_zero, List.set_cons_succ]
  refine wpAnyH_take (i := 9) (v := (.pointer (some ⟨z.a, 0, none⟩))) rfl (by kernel_rfl) (by kernel_rfl) (by kernel_rfl) (fun _ _ _ h => h) (Or.inl ⟨by rfl, fun W hS => by (obtain ⟨⟨q1, q2, q3, q4, q5, q6⟩, q7, q8⟩ := hS; go_simp; done)⟩) hHeld ?_
  try simp only [Act.put, List.getElem_toArray, List.getElem_cons_succ, List.getElem_cons_zero, List.setIfInBounds_toArray, List.set_cons_zero, List.set_cons_succ]
  refine wpAnyH_take (i := 11) (v := (.pointer (some ⟨m0, 2, none⟩))) rfl (by kernel_rfl) (by kernel_rfl) (by kernel_rfl) (fun _ _ _ h => h) (Or.inl ⟨by rfl, fun W hS => by first | rfl | (go_simp; done)⟩) hHeld ?_
  try simp only [Act.put, List.getElem_toArray, List.getElem_cons_succ, List.getElem_cons_zero, List.setIfInBounds_toArray, List.set_cons_zero, List.set_cons_succ]
  refine wpAnyH_take (i := 12) (v := (.pointer (some ⟨z.b, 0, none⟩))) rfl (by kernel_rfl) (by kernel_rfl) (by kernel_rfl) (fun _ _ _ h => h) (Or.inl ⟨by rfl, fun W hS => by (obtain ⟨⟨q1, q2, q3, q4, q5, q6⟩, q7, q8⟩ := hS; go_simp; done)⟩) hHeld ?_
  try simp only [Act.put, List.getElem_toArray, List.getElem_cons_succ, List.getElem_cons_zero, List.setIfInBounds_toArray, List.set_cons_zero, List.set_cons_succ]
  refine wpAnyH_take (i := 13) (v := (.pointer (some ⟨z.b, 0, none⟩))) rfl (by kernel_rfl) (by kernel_rfl) (by kernel_rfl) (fun _ _ _ h => h) (Or.inl ⟨by rfl, fun W hS => by first | rfl | (go_simp; done)⟩) hHeld ?_
  try simp only [Act.put, List.getElem_toArray, List.getElem_cons_succ, List.getElem_cons_zero, List.setIfInBounds_toArray, List.set_cons_zero, List.set_cons_succ]
  refine wpAnyH_take (i := 14) (v := (.pointer (some ⟨z.b, 15, none⟩))) rfl (by kernel_rfl) (by kernel_rfl) (by kernel_rfl) (fun _ _ _ h => h) (Or.inl ⟨by rfl, fun W hS => by first | rfl | (go_simp; done)⟩) hHeld ?_
  try simp only [Act.put, List.getElem_toArray, List.getElem_cons_succ, List.getElem_cons_zero, List.setIfInBounds_toArray, List.set_cons_zero, List.set_cons_succ]
  refine wpAnyH_take (i := 15) (v := (.bool dn)) rfl (by kernel_rfl) (by kernel_rfl) (by kernel_rfl) (fun _ _ _ h => h) (Or.inl ⟨by rfl, fun W hS => by (obtain ⟨⟨q1, q2, q3, q4, q5, q6⟩, q7, q8⟩ := hS; go_simp; done)⟩) hHeld ?_
  try simp only [Act.put, List.getElem_toArray, List.getElem_cons_succ, List.getElem_cons_zero, List.setIfInBounds_toArray, List.set_cons_zero, List.set_cons_succ]
  refine wpAnyH_ready (rs := [10]) (by kernel_rfl) (by simp) (AllReadyH.cons rfl (fun K hK => ?_) AllReadyH.nil)
  simp only [List.getElem_toArray, List.getElem_cons_succ, List.getElem_cons_zero]
  go_simp
  refine (HDN.out v2 z2 (HV2.out.1.sc.lanes.A t z2 HV2.out.2) HZ2.out.1.1 HZ2.out.1.2.2).1.mono ?_
  rintro e v3 ⟨rfl, rfl⟩
  refine hK.out _ _ hHeld (fun hHeld => ?_)
  clear hK K
  try simp only [Act.put, List.getElem_toArray, List.getElem_cons_succ, List.getElem_cons_zero, List.setIfInBounds_toArray, List.set_cons_zero, List.set_cons_succ]
  refine wpAnyH_take (i := 16) (v := (.bool true)) rfl (by kernel_rfl) (by kernel_rfl) (by kernel_rfl) (fun _ _ _ h => h) (Or.inl ⟨by rfl, fun W hS => by first | rfl | (go_simp; done) | (cases dn <;> (go_simp; done)) | (simp [go_sem]; done)⟩) hHeld ?_
  try simp only [Act.put, List.getElem_toArray, List.getElem_cons_succ, List.getElem_cons_zero, List.setIfInBounds_toArray, List.set_cons_zero, List.set_cons_succ]
  refine wpAnyH_take (i := 17) (v := (.bool true)) rfl (by kernel_rfl) (by kernel_rfl) (by kernel_rfl) (fun _ _ _ h => h) (Or.inl ⟨by rfl, fun W hS => by first | rfl | (go_simp; done)⟩) hHeld ?_
  try simp only [Act.put, List.getElem_toArray, List.getElem_cons_succ, List.getElem_cons_zero, List.setIfInBounds_toArray, List.set_cons_zero, List.set_cons_succ]
  refine wpAnyH_take (i := 18) (v := (.bool true)) rfl (by kernel_rfl) (by kernel_rfl) (by kernel_rfl) (fun _ _ _ h => h) (Or.inl ⟨by rfl, fun W hS => by first | rfl | (go_simp; done)⟩) hHeld ?_
  try simp only [Act.put, List.getElem_toArray, List.getElem_cons_succ, List.getElem_cons_zero, List.setIfInBounds_toArray, List.set_cons_zero, List.set_cons_succ]
  refine wpAnyH_take (i := 19) (v := (.pointer (some ⟨m0, 0, none⟩))) rfl (by kernel_rfl) (by kernel_rfl) (by kernel_rfl) (fun _ _ _ h => h) (Or.inl ⟨by rfl, fun W hS => by first | rfl | (go_simp; done)⟩) hHeld ?_
  try simp only [Act.put, List.getElem_toArray, List.getElem_cons_succ, List.getElem_cons_zero, List.setIfInBounds_toArray, List.set_cons_zero, List.set_cons_succ]
  refine wpAnyH_take (i := 20) (v := (.pointer (some ⟨z.a, 0, none⟩))) rfl (by kernel_rfl) (by kernel_rfl) (by kernel_rfl) (fun _ _ _ h => h) (Or.inl ⟨by rfl, fun W hS => by (obtain ⟨⟨q1, q2, q3, q4, q5, q6⟩, q7, q8⟩ := hS; go_simp; done)⟩) hHeld ?_
  try simp only [Act.put, List.getElem_toArray, List.getElem_cons_succ, List.getElem_cons_zero, List.setIfInBounds_toArray, List.set_cons_zero, List.set_cons_succ]
  refine wpAnyH_take (i := 22) (v := (.pointer (some ⟨m0, 2, none⟩))) rfl (by kernel_rfl) (by kernel_rfl) (by kernel_rfl) (fun _ _ _ h => h) (Or.inl ⟨by rfl, fun W hS => by first | rfl | (go_simp; done)⟩) hHeld ?_
  try simp only [Act.put, List.getElem_toArray, List.getElem_cons_succ, List.getElem_cons_zero, List.setIfInBounds_toArray, List.set_cons_zero, List.set_cons_succ]
  refine wpAnyH_take (i := 23) (v := (.pointer (some ⟨z.b, 0, none⟩))) rfl (by kernel_rfl) (by kernel_rfl) (by kernel_rfl) (fun _ _ _ h => h) (Or.inl ⟨by rfl, fun W hS => by (obtain ⟨⟨q1, q2, q3, q4, q5, q6⟩, q7, q8⟩ := hS; go_simp; done)⟩) hHeld ?_
  try simp only [Act.put, List.getElem_toArray, List.getElem_cons_succ, List.getElem_cons_zero, List.setIfInBounds_toArray, List.set_cons_zero, List.set_cons_succ]
  refine wpAnyH_take (i := 24) (v := (.pointer (some ⟨z.b, 0, none⟩))) rfl (by kernel_rfl) (by kernel_rfl) (by kernel_rfl) (fun _ _ _ h => h) (Or.inl ⟨by rfl, fun W hS => by first | rfl | (go_simp; done)⟩) hHeld ?_
  try simp only [Act.put, List.getElem_toArray, List.getElem_cons_succ, List.getElem_cons_zero, List.setIfInBounds_toArray, List.set_cons_zero, List.set_cons_succ]
  refine wpAnyH_take (i := 25) (v := (.pointer (some ⟨z.b, 23, none⟩))) rfl (by kernel_rfl) (by kernel_rfl) (by kernel_rfl) (fun _ _ _ h => h) (Or.inl ⟨by rfl, fun W hS => by first | rfl | (go_simp; done)⟩) hHeld ?_
  try simp only [Act.put, List.getElem_toArray, List.getElem_cons_succ, List.getElem_cons_zero, List.setIfInBounds_toArray, List.set_cons_zero, List.set_cons_succ]
  refine wpAnyH_take (i := 26) (v := (.int .i64 gt)) rfl (by kernel_rfl) (by kernel_rfl) (by kernel_rfl) (fun _ _ _ h => h) (Or.inl ⟨by rfl, fun W hS => by (obtain ⟨⟨q1, q2, q3, q4, q5, q6⟩, q7, q8⟩ := hS; go_simp; done)⟩) hHeld ?_
  try simp only [Act.put, List.getElem_toArray, List.getElem_cons_succ, List.getElem_cons_zero, List.setIfInBounds_toArray, List.set_cons_zero, List.set_cons_succ]
  refine wpAnyH_ready (rs := [21]) (by kernel_rfl) (by simp) (AllReadyH.cons rfl (fun K hK => ?_) AllReadyH.nil)
  simp only [List.getElem_toArray, List.getElem_cons_succ, List.getElem_cons_zero]
  go_simp
  refine (HDN.out v2 z2 (HV2.out.1.sc.lanes.A t z2 HV2.out.2) HZ2.out.1.1 HZ2.out.1.2.2).2.mono ?_
  rintro e v3 ⟨rfl, rfl⟩
  refine hK.out _ _ hHeld (fun hHeld => ?_)
  clear hK K
  try simp only [Act.put, List.getElem_toArray, List.getElem_cons_succ, List.getElem_cons_zero, List.setIfInBounds_toArray, List.set_cons_zero, List.set_cons_succ]
  refine wpAnyH_take (i := 27) (v := (.bool true)) rfl (by kernel_rfl) (by kernel_rfl) (by kernel_rfl) (fun _ _ _ h => h) (Or.inl ⟨by rfl, fun W hS => by first | rfl | (go_simp; done) | (simp [go_sem]; done)⟩) hHeld ?_
  try simp only [Act.put, List.getElem_toArray, List.getElem_cons_succ, List.getElem_cons_zero, List.setIfInBounds_toArray, List.set_cons_zero, List.set_cons_succ]
  refine wpAnyH_take (i := 28) (v := (.bool true)) rfl (by kernel_rfl) (by kernel_rfl) (by kernel_rfl) (fun _ _ _ h => h) (Or.inl ⟨by rfl, fun W hS => by first | rfl | (go_simp; done)⟩) hHeld ?_
  try simp only [Act.put, List.getElem_toArray, List.getElem_cons_succ, List.getElem_cons_zero, List.setIfInBounds_toArray, List.set_cons_zero, List.set_cons_succ]
  have e0 := HV2.out.1.r.cell 0; have e1 := HV2.out.1.r.cell 1; have e2 := HV2.out.1.r.cell 2; have e3 := HV2.out.1.r.cell 3; have f0 := HV2.out.1.r.frozen 0; have f1 := HV2.out.1.r.frozen 1; have f2 := HV2.out.1.r.frozen 2; have f3 := HV2.out.1.r.frozen 3
  refine wpAnyH_ready (rs := [29]) (by kernel_rfl) (by simp) (AllReadyH.cons rfl (fun K hK => ?_) AllReadyH.nil)
  simp only [List.getElem_toArray, List.getElem_cons_succ, List.getElem_cons_zero]
  rw [if_pos (by rfl)]
  go_simp
  have hzr : z.b ≠ r0 := fun e => by
    have h1 := (HV2.out.1.sc.lanes.B t z2 HV2.out.2).blk
    rw [HZ2.out.1.2.1, e] at h1
    have := (h1.uniq HV2.out.1.r).2; revert this; decide
  obtain ⟨V6, hV6⟩ : ∃ V, (((v2.setCell ⟨r0, 0, none⟩ (.int .i64 ka)).setCell ⟨r0, 1, none⟩ (.int .i64 kp)).setCell ⟨r0, 2, none⟩ (.int .u64 ko)).setCell ⟨r0, 3, none⟩ (.int .u64 kw) = V := ⟨_, rfl⟩
  obtain ⟨hK6, hO6⟩ := HV2.out.1.setR4 (.int .i64 ka) (.int .i64 kp) (.int .u64 ko) (.int .u64 kw)
  rw [hV6] at hK6 hO6
  rw [hV6]
  have c15 := cellO hO6 hzr HC.out.1; have c23 := cellO hO6 hzr HC.out.2
  have HK6 := Lib.hid hK6; have HC6 := Lib.hid (And.intro c15 c23)
  have g0 := hK6.r.cell 0; have g1 := hK6.r.cell 1; have g2 := hK6.r.cell 2; have g3 := hK6.r.cell 3
  clear hV6 hO6 hzr hK6 e0 e1 e2 e3 f0 f1 f2 f3
  refine hK.out _ _ ⟨HCELL.out _ _ _ _ _ HK6.out, HC6.out⟩ (fun hHeld => ?_)
  clear hK
  try simp only [Act.put, List.getElem_toArray, List.getElem_cons_succ, List.getElem_cons_zero, List.setIfInBounds_toArray, List.set_cons_zero, List.set_cons_succ]
  refine wpAnyH_take (i := 30) (v := (.bool true)) rfl (by kernel_rfl) (by kernel_rfl) (by kernel_rfl) (fun _ _ _ h => h) (Or.inl ⟨by rfl, fun W hS => by first | rfl | (go_simp; done)⟩) hHeld ?_
  try simp only [Act.put, List.getElem_toArray, List.getElem_cons_succ, List.getElem_cons_zero, List.setIfInBounds_toArray, List.set_cons_zero, List.set_cons_succ]
  refine wpAnyH_done (by kernel_rfl) ?_ _
  go_wp2_with fail
  exact bodyPost_ret (v := .tuple #[.agg #[.int .i64 ka, .int .i64 kp, .int .u64 ko, .int .u64 kw], .bool true]) (by simp [g0, g1, g2, g3, results, Tryz.results40, go_sem]) rfl (HEND.out _ _ z2 _ _ _ _ _ _ rfl HZ2.out HC6.out HK6.out)
set_option maxRecDepth 100000 in
set_option maxHeartbeats 8000000 in
theorem skStepPush {hd pg : Int} {k : PushSt} {i : Nat} (h : SC (SkA P T) w ab sb sm rb rg bb tb tm ub fb P T wr s s' L) (hz : L[t]? = some (some z)) (hm : Lay.may P T = true) (hk : z.k = .push hd pg (.inl k)) (hx : SkM z.x P T i z.k) (hq : SkOk P z.k) (hil : i < 90000) (hs : StkOk P T s) (he : s.ws = s'.ws) :
    Calls Tryz.prog 40 #[.agg (mcC true z.a z.b), .pointer (some ⟨ab, 0, none⟩), .pointer (some ⟨bb, 0, none⟩)] wr (StepQ w ab sb sm rb rg bb tb tm ub fb P T wr s s' L t z i) := by
  obtain ⟨kn, hkn⟩ : ∃ q, z.k.nx P T (s.word (z.k.ac P T).pos) = q := ⟨_, rfl⟩
  obtain ⟨ka, hka⟩ : ∃ v, ((z.k.ac P T).act s).k = v := ⟨_, rfl⟩
  obtain ⟨kp, hkp⟩ : ∃ v, ((z.k.ac P T).act s).pos = v := ⟨_, rfl⟩
  obtain ⟨ko, hko⟩ : ∃ v, ((z.k.ac P T).act s).old = v := ⟨_, rfl⟩
  obtain ⟨kw, hkw⟩ : ∃ v, ((z.k.ac P T).act s).new = v := ⟨_, rfl⟩
  have hdA : didV ((z.k.ac P T).act s) = .agg #[.int .i64 ka, .int .i64 kp, .int .u64 ko, .int .u64 kw] := by rw [← hka, ← hkp, ← hko, ← hkw]; rfl
  obtain ⟨dn, hdn⟩ : ∃ d, kn.over = d := ⟨_, rfl⟩
  obtain ⟨gt, hgt⟩ : ∃ d, kn.got = d := ⟨_, rfl⟩
  have hlt : t < L.length := (List.getElem?_eq_some_iff.1 hz).1
  have hl1 : (L.set t (some { z with k := kn }))[t]? = some (some { z with k := kn }) := List.getElem?_set_self hlt
  have HOUR : Hid (∀ W m0 d0 r0 cm cd cr, SK w ab sb sm rb rg bb tb tm ub fb P T wr W s s' L m0 d0 r0 cm cd cr → Calls Tryz.prog 9 #[.pointer (some ⟨z.a, 0, none⟩), .pointer (some ⟨ab, 0, none⟩)] W fun e w' => e = .returned (.agg #[.int .i64 ka, .int .i64 kp, .int .u64 ko, .int .u64 kw]) ∧ Hid (SK w ab sb sm rb rg bb tb tm ub fb P T wr w' ((z.k.ac P T).act s) s' (L.set t (some { z with k := kn })) m0 d0 r0 cm cd cr)) := Lib.hid (fun W m0 d0 r0 cm cd cr hK => by
    have := sk_push hK hz hm hk
    rw [hkn, hdA] at this
    exact this.mono (fun e w' c => ⟨c.1, Lib.hid c.2⟩))
  have HDOC : Hid (∀ W m0 d0 r0 cm cd cr, SK w ab sb sm rb rg bb tb tm ub fb P T wr W ((z.k.ac P T).act s) s' (L.set t (some { z with k := kn })) m0 d0 r0 cm cd cr → Calls Tryz.prog 64 #[.pointer (some ⟨z.b, 0, none⟩), .pointer (some ⟨bb, 0, none⟩)] W fun e w' => e = .returned (.agg #[.int .i64 ka, .int .i64 kp, .int .u64 ko, .int .u64 kw]) ∧ ∃ z2 : SkL, Hid ((z2.a = z.a ∧ z2.b = z.b ∧ z2.k = kn) ∧ (dn = false → SkM z2.x P T (i + 1) kn)) ∧ Hid (w'.cell? ⟨z.b, 15, none⟩ = some (.bool dn) ∧ w'.cell? ⟨z.b, 23, none⟩ = some (.int .i64 gt)) ∧ Hid (SK w ab sb sm rb rg bb tb tm ub fb P T wr w' ((z.k.ac P T).act s) ((z.k.ac P T).act s') (L.set t (some z2)) m0 d0 r0 cm cd cr ∧ (L.set t (some z2))[t]? = some (some z2))) := Lib.hid (fun W m0 d0 r0 cm cd cr hK => by
    refine (sk_doc (s := s) hK hl1 hm hx hq hil (hs.of_ws he) he (by rw [word_ws he]; exact hkn.symm)).mono (fun e w' c => ?_)
    obtain ⟨c1, z2, c2, c3, c4, c5⟩ := c
    rw [hdA] at c1
    rw [hdn] at c3 c4
    rw [hgt] at c4
    rw [List.set_set] at c5
    exact ⟨c1, z2, Lib.hid ⟨c2, c3⟩, Lib.hid c4, Lib.hid ⟨c5, List.getElem?_set_self hlt⟩⟩)
  have hpush : kn.isPush = true := by rw [← hkn, SkS.nx_isPush, hk]; rfl
  have HDN : Hid (∀ W (y : SkL), SkA P T W y.a y.k → y.a = z.a → y.k = kn → (Calls Tryz.prog 10 #[.pointer (some ⟨z.a, 0, none⟩)] W fun e w' => e = .returned (.bool dn) ∧ W = w')) := Lib.hid (fun W y h1 h2 h3 => by
    rw [h2, h3] at h1
    rw [← hdn]
    cases kn with
    | pop hd2 k2 => cases hpush
    | push hd2 pg2 k2 => exact pushX_done h1.2)
  have hde : ∀ W, Sem.run Tryz.prog (binOp .eql 50 (.agg #[.int .i64 ka, .int .i64 kp, .int .u64 ko, .int .u64 kw]) (.agg #[.int .i64 ka, .int .i64 kp, .int .u64 ko, .int .u64 kw])) W = .ok (.bool true) W := fun W => by rw [did_eql]; simp
  have HEND : Hid (∀ e w' (z2 : SkL) m0 d0 r0 cm cd cr, e = Ending.returned (.tuple #[.agg #[.int .i64 ka, .int .i64 kp, .int .u64 ko, .int .u64 kw], .bool true]) → (z2.a = z.a ∧ z2.b = z.b ∧ z2.k = kn) ∧ (dn = false → SkM z2.x P T (i + 1) kn) → w'.cell? ⟨z.b, 15, none⟩ = some (.bool dn) ∧ w'.cell? ⟨z.b, 23, none⟩ = some (.int .i64 gt) → SK w ab sb sm rb rg bb tb tm ub fb P T wr w' ((z.k.ac P T).act s) ((z.k.ac P T).act s') (L.set t (some z2)) m0 d0 r0 cm cd cr → StepQ w ab sb sm rb rg bb tb tm ub fb P T wr s s' L t z i e w') := Lib.hid (fun e w' z2 m0 d0 r0 cm cd cr h1 h2 h3 h4 => by
    obtain ⟨⟨a1, a2, a3⟩, a4⟩ := h2
    refine ⟨by rw [h1, hdA], z2, ⟨a1, a2, by rw [hkn]; exact a3⟩, by rw [a3, hdn]; exact a4, by rw [a3, hdn, hgt]; exact h3, h4.sc, h4.rows⟩)
  have HSC := Lib.hid h
  clear h hz hm hk hx hq hil hs he hka hkp hko hkw hdA hdn hgt hlt hl1 hkn
  go_enter Tryz.func40, Tryz.ntmps40
  go_upto_region 2 with fail
  obtain ⟨m0, hm0⟩ : ∃ m, wr.heap.size = m := ⟨_, rfl⟩
  have Z4 : (#[Value.int .i64 0, Value.int .i64 0, Value.int .u64 0, Value.int .u64 0] : Array Value).size = 4 := rfl
  obtain ⟨V1, hV1⟩ : ∃ V, wr.alloc (.cells (mcC true z.a z.b) 47) = V := ⟨_, rfl⟩
  obtain ⟨V2, hV2⟩ : ∃ V, V1.alloc (.cells #[.int .i64 0, .int .i64 0, .int .u64 0, .int .u64 0] 50) = V := ⟨_, rfl⟩
  obtain ⟨V3, hV3⟩ : ∃ V, V2.alloc (.cells #[.int .i64 0, .int .i64 0, .int .u64 0, .int .u64 0] 50) = V := ⟨_, rfl⟩
  rw [hV1, hV2, hV3, hm0]
  have z1 : V1.heap.size = m0 + 1 := by rw [← hV1, World.size_alloc, hm0]
  have z2 : V2.heap.size = m0 + 1 + 1 := by rw [← hV2, World.size_alloc, z1]
  have A1 : Adds wr V1 := by rw [← hV1]; exact (Only.refl (fun _ => False) wr).alloc _
  have A2 : Adds V1 V2 := by rw [← hV2]; exact (Only.refl (fun _ => False) V1).alloc _
  have A3 : Adds V2 V3 := by rw [← hV3]; exact (Only.refl (fun _ => False) V2).alloc _
  have b1 : Blk V3 m0 (mcC true z.a z.b) 47 := by
    have : Blk V1 m0 (mcC true z.a z.b) 47 := by rw [← hV1, ← hm0]; exact Blk.new wr _ _
    exact (this.only A2 id).only A3 id
  have b2 : Blk V3 (m0 + 1) #[.int .i64 0, .int .i64 0, .int .u64 0, .int .u64 0] 50 := by
    have : Blk V2 (m0 + 1) #[.int .i64 0, .int .i64 0, .int .u64 0, .int .u64 0] 50 := by rw [← hV2, ← z1]; exact Blk.new V1 _ _
    exact this.only A3 id
  have b3 : Blk V3 (m0 + 1 + 1) #[.int .i64 0, .int .i64 0, .int .u64 0, .int .u64 0] 50 := by rw [← hV3, ← z2]; exact Blk.new V2 _ _
  have c0 : V3.cell? ⟨m0, 0, none⟩ = some ((.pointer none)) := b1.cell 0
  have c1 : V3.cell? ⟨m0, 1, none⟩ = some ((.pointer (some ⟨z.a, 0, none⟩))) := b1.cell 1
  have HK := Lib.hid (SK.new HSC.out ((A1.thenF A2).thenF A3) b1 b3 b2 (by omega))
  clear Z4 hV1 hV2 hV3 z1 z2 A1 A2 A3 b1 b2 b3 HSC hm0
  go_upto_region 3 with fail
  go_upto_region 4 with (go_at_call 9; refine (HOUR.out V3 _ _ _ _ _ _ HK.out).mono ?_; rintro e v1 ⟨rfl, HK1⟩; have e0 := HK1.out.d.cell 0; have e1 := HK1.out.d.cell 1; have e2 := HK1.out.d.cell 2; have e3 := HK1.out.d.cell 3; have f0 := HK1.out.d.frozen 0; have f1 := HK1.out.d.frozen 1; have f2 := HK1.out.d.frozen 2; have f3 := HK1.out.d.frozen 3)
  obtain ⟨d0, hd0⟩ : ∃ d, m0 + 1 + 1 = d := ⟨_, rfl⟩
  obtain ⟨r0, hr0⟩ : ∃ d, m0 + 1 = d := ⟨_, rfl⟩
  rw [hd0, hr0] at HK1
  rw [hd0, hr0]
  clear hd0 hr0
  obtain ⟨V4, hV4⟩ : ∃ V, (((v1.setCell ⟨d0, 0, none⟩ (.int .i64 ka)).setCell ⟨d0, 1, none⟩ (.int .i64 kp)).setCell ⟨d0, 2, none⟩ (.int .u64 ko)).setCell ⟨d0, 3, none⟩ (.int .u64 kw) = V := ⟨_, rfl⟩
  have HK2 : Hid (SK w ab sb sm rb rg bb tb tm ub fb P T wr V4 ((z.k.ac P T).act s) s' (L.set t (some { z with k := kn })) m0 d0 r0 (mcC true z.a z.b) #[.int .i64 ka, .int .i64 kp, .int .u64 ko, .int .u64 kw] #[.int .i64 0, .int .i64 0, .int .u64 0, .int .u64 0]) := Lib.hid (by
    rw [← hV4]
    exact (((HK1.out.setD 0 (.int .i64 ka)).setD 1 (.int .i64 kp)).setD 2 (.int .u64 ko)).setD 3 (.int .u64 kw))
  rw [hV4]
  clear hV4 HK1 e0 e1 e2 e3 f0 f1 f2 f3 c0 c1 HOUR HK
  have HCELL : Hid (∀ W S S' L1 cr, SK w ab sb sm rb rg bb tb tm ub fb P T wr W S S' L1 m0 d0 r0 (mcC true z.a z.b) #[.int .i64 ka, .int .i64 kp, .int .u64 ko, .int .u64 kw] cr → W.cell? ⟨d0, 0, none⟩ = some (.int .i64 ka) ∧ W.cell? ⟨d0, 1, none⟩ = some (.int .i64 kp) ∧ W.cell? ⟨d0, 2, none⟩ = some (.int .u64 ko) ∧ W.cell? ⟨d0, 3, none⟩ = some (.int .u64 kw) ∧ W.cell? ⟨m0, 1, none⟩ = some (.pointer (some ⟨z.a, 0, none⟩)) ∧ W.cell? ⟨m0, 2, none⟩ = some (.pointer (some ⟨z.b, 0, none⟩))) := Lib.hid (fun W S S' L1 cr h => ⟨h.d.cell 0, h.d.cell 1, h.d.cell 2, h.d.cell 3, h.m.cell 1, h.m.cell 2⟩)
  refine wp_region_held_drew (S := (fun V => V.cell? ⟨d0, 0, none⟩ = some (.int .i64 ka) ∧ V.cell? ⟨d0, 1, none⟩ = some (.int .i64 kp) ∧ V.cell? ⟨d0, 2, none⟩ = some (.int .u64 ko) ∧ V.cell? ⟨d0, 3, none⟩ = some (.int .u64 kw) ∧ V.cell? ⟨m0, 1, none⟩ = some (.pointer (some ⟨z.a, 0, none⟩)) ∧ V.cell? ⟨m0, 2, none⟩ = some (.pointer (some ⟨z.b, 0, none⟩)))) (by kernel_rfl) (HCELL.out _ _ _ _ _ (HK2.out.add ((Only.refl (fun _ => False) V4).drew))) (fun hHeld => ?_)
  refine wpAnyH_take (i := 0) (v := (.agg #[.int .i64 ka, .int .i64 kp, .int .u64 ko, .int .u64 kw])) rfl (by kernel_rfl) (by kernel_rfl) (by kernel_rfl) (fun _ _ _ h => h) (Or.inl ⟨by rfl, fun W hS => by (obtain ⟨q1, q2, q3, q4, q5, q6⟩ := hS; go_simp; done)⟩) hHeld ?_
  try simp only [Act.put, List.getElem_toArray, List.getElem_cons_succ, List.getElem_cons_zero, List.setIfInBounds_toArray, List.set_cons_zero, List.set_cons_succ]
  refine wpAnyH_take (i := 1) (v := (.agg #[.int .i64 ka, .int .i64 kp, .int .u64 ko, .int .u64 kw])) rfl (by kernel_rfl) (by kernel_rfl) (by kernel_rfl) (fun _ _ _ h => h) (Or.inl ⟨by rfl, fun W hS => by (obtain ⟨q1, q2, q3, q4, q5, q6⟩ := hS; go_simp; done)⟩) hHeld ?_
  try simp only [Act.put, List.getElem_toArray, List.getElem_cons_succ, List.getElem_cons_zero, List.setIfInBounds_toArray, List.set_cons_zero, List.set_cons_succ]
  refine wpAnyH_take (i := 2) (v := (.pointer (some ⟨m0, 2, none⟩))) rfl (by kernel_rfl) (by kernel_rfl) (by kernel_rfl) (fun _ _ _ h => h) (Or.inl ⟨by rfl, fun W hS => by first | rfl | (go_simp; done)⟩) hHeld ?_
  try simp only [Act.put, List.getElem_toArray, List.getElem_cons_succ, List.getElem_cons_zero, List.setIfInBounds_toArray, List.set_cons_zero, List.set_cons_succ]
  refine wpAnyH_take (i := 3) (v := (.pointer (some ⟨z.b, 0, none⟩))) rfl (by kernel_rfl) (by kernel_rfl) (by kernel_rfl) (fun _ _ _ h => h) (Or.inl ⟨by rfl, fun W hS => by (obtain ⟨q1, q2, q3, q4, q5, q6⟩ := hS; go_simp; done)⟩) hHeld ?_
  try simp only [Act.put, List.getElem_toArray, List.getElem_cons_succ, List.getElem_cons_zero, List.setIfInBounds_toArray, List.set_cons_zero, List.set_cons_succ]
  refine wpAnyH_take (i := 4) (v := (.pointer (some ⟨bb, 0, none⟩))) rfl (by kernel_rfl) (by kernel_rfl) (by kernel_rfl) (fun _ _ _ h => h) (Or.inl ⟨by rfl, fun W hS => by first | rfl | (go_simp; done)⟩) hHeld ?_
  try simp only [Act.put, List.getElem_toArray, List.getElem_cons_succ, List.getElem_cons_zero, List.setIfInBounds_toArray, List.set_cons_zero, List.set_cons_succ]
  refine wpAnyH_ready (rs := [5]) (by kernel_rfl) (by simp) (AllReadyH.cons rfl (fun K hK => ?_) AllReadyH.nil)
  simp only [List.getElem_toArray, List.getElem_cons_succ, List.getElem_cons_zero]
  go_simp
  refine (HDOC.out _ _ _ _ _ _ _ (HK2.out.add ((Only.refl (fun _ => False) V4).drew))).mono ?_
  rintro e v2 ⟨rfl, z2, HZ2, HC, HV2⟩
  refine hK.out _ _ (HCELL.out _ _ _ _ _ HV2.out.1) (fun hHeld => ?_)
  clear hK K
  try simp only [Act.put, List.getElem_toArray, List.getElem_cons_succ, List.getElem_cons_zero, List.setIfInBounds_toArray, List.set_cons_zero, List.set_cons_succ]
  refine wpAnyH_mono (S2 := (fun V => (V.cell? ⟨d0, 0, none⟩ = some (.int .i64 ka) ∧ V.cell? ⟨d0, 1, none⟩ = some (.int .i64 kp) ∧ V.cell? ⟨d0, 2, none⟩ = some (.int .u64 ko) ∧ V.cell? ⟨d0, 3, none⟩ = some (.int .u64 kw) ∧ V.cell? ⟨m0, 1, none⟩ = some (.pointer (some ⟨z.a, 0, none⟩)) ∧ V.cell? ⟨m0, 2, none⟩ = some (.pointer (some ⟨z.b, 0, none⟩))) ∧ V.cell? ⟨z.b, 15, none⟩ = some (.bool dn) ∧ V.cell? ⟨z.b, 23, none⟩ = some (.int .i64 gt))) (fun W h => h.1) ?_
  replace hHeld := And.intro hHeld HC.out
  refine wpAnyH_take (i := 6) (v := (.bool true)) rfl (by kernel_rfl) (by kernel_rfl) (by kernel_rfl) (fun _ _ _ h => h) (Or.inl ⟨by rfl, fun W hS => by first | rfl | (go_simp; done) | (simp [go_sem, hde]; done)⟩) hHeld ?_
  try simp only [Act.put, List.getElem_toArray, List.getElem_cons_succ, List.getElem_cons_zero, List.setIfInBounds_toArray, List.set_cons_zero, List.set_cons_succ]
  refine wpAnyH_take (i := 7) (v := (.bool true)) rfl (by kernel_rfl) (by kernel_rfl) (by kernel_rfl) (fun _ _ _ h => h) (Or.inl ⟨by rfl, fun W hS => by first | rfl | (go_simp; done)⟩) hHeld ?_
  try simp only [Act.put, List.getElem_toArray, List.getElem_cons_succ, List.getElem_cons_zero, List.setIfInBounds_toArray, List.set_cons_zero, List.set_cons_succ]
  refine wpAnyH_take (i := 8) (v := (.pointer (some ⟨m0, 1, none⟩))) rfl (by kernel_rfl) (by kernel_rfl) (by kernel_rfl) (fun _ _ _ h => h) (Or.inl ⟨by rfl, fun W hS => by first | rfl | (go_simp; done)⟩) hHeld ?_
  try simp only [Act.put, List.getElem_toArray, List.getElem_cons_succ, List.getElem_cons_zero, List.setIfInBounds_toArray, List.set_cons_zero, List.set_cons_succ]
  refine wpAnyH_take (i := 9) (v := (.pointer (some ⟨z.a, 0, none⟩))) rfl (by kernel_rfl) (by kernel_rfl) (by kernel_rfl) (fun _ _ _ h => h) (Or.inl ⟨by rfl, fun W hS => by (obtain ⟨⟨q1, q2, q3, q4, q5, q6⟩, q7, q8⟩ := hS; go_simp; done)⟩) hHeld ?_
  try simp only [Act.put, List.getElem_toArray, List.getElem_cons_succ, List.getElem_cons_zero, List.setIfInBounds_toArray, List.set_cons_zero, List.set_cons_succ]
  refine wpAnyH_take (i := 11) (v := (.pointer (some ⟨m0, 2, none⟩))) rfl (by kernel_rfl) (by kernel_rfl) (by kernel_rfl) (fun _ _ _ h => h) (Or.inl ⟨by rfl, fun W hS => by first | rfl | (go_simp; done)⟩) hHeld ?_
  try simp only [Act.put, List.getElem_toArray, List.getElem_cons_succ, List.getElem_cons_zero, List.setIfInBounds_toArray, List.set_cons_zero, List.set_cons_succ]
  refine wpAnyH_take (i := 12) (v := (.pointer (some ⟨z.b, 0, none⟩))) rfl (by kernel_rfl) (by kernel_rfl) (by kernel_rfl) (fun _ _ _ h => h) (Or.inl ⟨by rfl, fun W hS => by (obtain ⟨⟨q1, q2, q3, q4, q5, q6⟩, q7, q8⟩ := hS; go_simp; done)⟩) hHeld ?_
  try simp only [Act.put, List.getElem_toArray, List.getElem_cons_succ, List.getElem_cons_zero, List.setIfInBounds_toArray, List.set_cons_zero, List.set_cons_succ]
  refine wpAnyH_take (i := 13) (v := (.pointer (some ⟨z.b, 0, none⟩))) rfl (by kernel_rfl) (by kernel_rfl) (by kernel_rfl) (fun _ _ _ h => h) (Or.inl ⟨by rfl, fun W hS => by first | rfl | (go_simp; done)⟩) hHeld ?_
  try simp only [Act.put, List.getElem_toArray, List.getElem_cons_succ, List.getElem_cons_zero, List.setIfInBounds_toArray, List.set_cons_zero, List.set_cons_succ]
  refine wpAnyH_take (i := 14) (v := (.pointer (some ⟨z.b, 15, none⟩))) rfl (by kernel_rfl) (by kernel_rfl) (by kernel_rfl) (fun _ _ _ h => h) (Or.inl ⟨by rfl, fun W hS => by first | rfl | (go_simp; done)⟩) hHeld ?_
  try simp only [Act.put, List.getElem_toArray, List.getElem_cons_succ, List.getElem_cons_zero, List.setIfInBounds_toArray, List.set_cons_zero, List.set_cons_succ]
  refine wpAnyH_take (i := 15) (v := (.bool dn)) rfl (by kernel_rfl) (by kernel_rfl) (by kernel_rfl) (fun _ _ _ h => h) (Or.inl ⟨by rfl, fun W hS => by (obtain ⟨⟨q1, q2, q3, q4, q5, q6⟩, q7, q8⟩ := hS; go_simp; done)⟩) hHeld ?_
  try simp only [Act.put, List.getElem_toArray, List.getElem_cons_succ, List.getElem_cons_zero, List.setIfInBounds_toArray, List.set_cons_zero, List.set_cons_succ]
  refine wpAnyH_ready (rs := [10]) (by kernel_rfl) (by simp) (AllReadyH.cons rfl (fun K hK => ?_) AllReadyH.nil)
  simp only [List.getElem_toArray, List.getElem_cons_succ, List.getElem_cons_zero]
  go_simp
  refine (HDN.out v2 z2 (HV2.out.1.sc.lanes.A t z2 HV2.out.2) HZ2.out.1.1 HZ2.out.1.2.2).mono ?_
  rintro e v3 ⟨rfl, rfl⟩
  refine hK.out _ _ hHeld (fun hHeld => ?_)
  clear hK K
  try simp only [Act.put, List.getElem_toArray, List.getElem_cons_succ, List.getElem_cons_zero, List.setIfInBounds_toArray, List.set_cons_zero, List.set_cons_succ]
  refine wpAnyH_take (i := 16) (v := (.bool true)) rfl (by kernel_rfl) (by kernel_rfl) (by kernel_rfl) (fun _ _ _ h => h) (Or.inl ⟨by rfl, fun W hS => by first | rfl | (go_simp; done) | (cases dn <;> (go_simp; done)) | (simp [go_sem]; done)⟩) hHeld ?_
  try simp only [Act.put, List.getElem_toArray, List.getElem_cons_succ, List.getElem_cons_zero, List.setIfInBounds_toArray, List.set_cons_zero, List.set_cons_succ]
  refine wpAnyH_take (i := 17) (v := (.bool true)) rfl (by kernel_rfl) (by kernel_rfl) (by kernel_rfl) (fun _ _ _ h => h) (Or.inl ⟨by rfl, fun W hS => by first | rfl | (go_simp; done)⟩) hHeld ?_
  try simp only [Act.put, List.getElem_toArray, List.getElem_cons_succ, List.getElem_cons_zero, List.setIfInBounds_toArray, List.set_cons_zero, List.set_cons_succ]
  have e0 := HV2.out.1.r.cell 0; have e1 := HV2.out.1.r.cell 1; have e2 := HV2.out.1.r.cell 2; have e3 := HV2.out.1.r.cell 3; have f0 := HV2.out.1.r.frozen 0; have f1 := HV2.out.1.r.frozen 1; have f2 := HV2.out.1.r.frozen 2; have f3 := HV2.out.1.r.frozen 3
  refine wpAnyH_ready (rs := [18]) (by kernel_rfl) (by simp) (AllReadyH.cons rfl (fun K hK => ?_) AllReadyH.nil)
  simp only [List.getElem_toArray, List.getElem_cons_succ, List.getElem_cons_zero]
  rw [if_pos (by rfl)]
  go_simp
  have hzr : z.b ≠ r0 := fun e => by
    have h1 := (HV2.out.1.sc.lanes.B t z2 HV2.out.2).blk
    rw [HZ2.out.1.2.1, e] at h1
    have := (h1.uniq HV2.out.1.r).2; revert this; decide
  obtain ⟨V6, hV6⟩ : ∃ V, (((v2.setCell ⟨r0, 0, none⟩ (.int .i64 ka)).setCell ⟨r0, 1, none⟩ (.int .i64 kp)).setCell ⟨r0, 2, none⟩ (.int .u64 ko)).setCell ⟨r0, 3, none⟩ (.int .u64 kw) = V := ⟨_, rfl⟩
  obtain ⟨hK6, hO6⟩ := HV2.out.1.setR4 (.int .i64 ka) (.int .i64 kp) (.int .u64 ko) (.int .u64 kw)
  rw [hV6] at hK6 hO6
  rw [hV6]
  have c15 := cellO hO6 hzr HC.out.1; have c23 := cellO hO6 hzr HC.out.2
  have HK6 := Lib.hid hK6; have HC6 := Lib.hid (And.intro c15 c23)
  have g0 := hK6.r.cell 0; have g1 := hK6.r.cell 1; have g2 := hK6.r.cell 2; have g3 := hK6.r.cell 3
  clear hV6 hO6 hzr hK6 e0 e1 e2 e3 f0 f1 f2 f3
  refine hK.out _ _ ⟨HCELL.out _ _ _ _ _ HK6.out, HC6.out⟩ (fun hHeld => ?_)
  clear hK
  try simp only [Act.put, List.getElem_toArray, List.getElem_cons_succ, List.getElem_cons_zero, List.setIfInBounds_toArray, List.set_cons_zero, List.set_cons_succ]
  refine wpAnyH_take (i := 19) (v := (.bool true)) rfl (by kernel_rfl) (by kernel_rfl) (by kernel_rfl) (fun _ _ _ h => h) (Or.inl ⟨by rfl, fun W hS => by first | rfl | (go_simp; done)⟩) hHeld ?_
  try simp only [Act.put, List.getElem_toArray, List.getElem_cons_succ, List.getElem_cons_zero, List.setIfInBounds_toArray, List.set_cons_zero, List.set_cons_succ]
  refine wpAnyH_done (by kernel_rfl) ?_ _
  go_wp2_with fail
  exact bodyPost_ret (v := .tuple #[.agg #[.int .i64 ka, .int .i64 kp, .int .u64 ko, .int .u64 kw], .bool true]) (by simp [g0, g1, g2, g3, results, Tryz.results40, go_sem]) rfl (HEND.out _ _ z2 _ _ _ _ _ _ rfl HZ2.out HC6.out HK6.out)
end
abbrev skMS (what P T pg hd : Int) : MS := ⟨what, P, T, 0, pg, 0, 0, 0, hd, 0, 0, 0, [], false, 0, false, 0, 0, 0, 0, 0, 0, 0, 0, 0⟩
abbrev skArr (what P T pg hd : Int) : Array Value := #[.int .i64 what, .int .i64 P, .int .i64 T, .int .i64 0, .int .i64 pg, .int .i64 0, .int .i64 0, .int .i64 0, .int .i64 hd, .int .i64 0, .int .i64 0, .int .u64 0, .bool false, .slice none 0 0, .slice none 0 0, .bool false, .int .i64 0, .bool false, .pointer none, .int .i64 0, .int .i64 0, .int .u64 0, .int .u64 0, .int .i64 0, .int .i64 0, .int .i64 0, .int .i64 0, .int .u64 0, .slice none 0 0, .slice none 0 0, .int .i64 0, .int .i64 0]
/-- What made leaves. -/
def MadeS (P T : Int) (k : SkS) (w : World) (e : Ending) (w' : World) : Prop := ∃ (p b : Nat) (x : MS), e = .returned (.tuple #[.agg (mcC k.isPush p b), .bool true]) ∧ SkA P T w' p k ∧ IsM w' b x (.slice none 0 0) (.slice none 0 0) (.pointer none) ∧ SkM x P T 0 k ∧ Adds w w' ∧ w.heap.size ≤ p ∧ w.heap.size ≤ b
/-- A whole row stored, as an operation. -/
theorem wp_store_row {P : Program} {op : Oper} {a : Act} {w w' : World} {K : Act → World → Prop} {Q : Exit → Act → World → Prop} (ty : TypeId) (x y : Operand) (ho : op.op = .store ty x y)
    (b : Nat) (c : Array Value) (hx : a.eval x = .pointer (some ⟨b, 0, none⟩)) (hy : a.eval y = .agg c) (hr : (storeVar ty ⟨b, 0, none⟩ (.agg c)).run P w = .ok () w')
    (h : K (a.put op.dst undef) w') : op.wp P a w K Q := by
  unfold Oper.wp execOp
  simp only [ho, hx, hy, Instr.storeAt, Instr.sureAddr, Sem.run_bind, Sem.run_pure, Result.andThen_ok, hr]
  exact h
theorem cellA {w w' : World} {b j : Nat} {v : Value} (h : w.cell? ⟨b, j, none⟩ = some v) (ho : Adds w w') : w'.cell? ⟨b, j, none⟩ = some v := (ho.cellF (p := ⟨b, j, none⟩) (cell_lt h) id).trans h
section
variable {w : World} {P T hd pg : Int}
set_option maxRecDepth 100000 in
set_option maxHeartbeats 4000000 in
theorem madePop_any (hm : Lay.may P T = true) (hh : Hd3 hd) : Calls Tryz.prog 26 #[.agg #[.int .i64 P, .int .i64 T], .bool false, .int .i64 hd, .int .i64 0] w (MadeS P T (.pop hd (.inl .load)) w) := by
  have HHD := Lib.hid (show HD P T hd from ⟨hm, hh.bd.1, hh.bd.2⟩)
  clear hm hh
  go_enter Tryz.func26, Tryz.ntmps26
  go_upto_region 2 with fail
  obtain ⟨B0, hB0⟩ : ∃ B, w.heap.size = B := ⟨_, rfl⟩
  obtain ⟨V1, hV1⟩ : ∃ V, w.alloc (.cells #[.int .i64 P, .int .i64 T] 26) = V := ⟨_, rfl⟩
  obtain ⟨V2, hV2⟩ : ∃ V, V1.alloc (.cells #[.pointer none, .pointer none, .pointer none] 47) = V := ⟨_, rfl⟩
  obtain ⟨V, hV⟩ : ∃ V, V2.alloc (.cells #[.pointer none, .pointer none, .pointer none] 47) = V := ⟨_, rfl⟩
  rw [hV1, hV2, hV, hB0]
  have z1 : V1.heap.size = B0 + 1 := by rw [← hV1, World.size_alloc, hB0]
  have z2 : V2.heap.size = B0 + 1 + 1 := by rw [← hV2, World.size_alloc, z1]
  have z3 : V.heap.size = B0 + 1 + 1 + 1 := by rw [← hV, World.size_alloc, z2]
  have A1 : Adds w V1 := by rw [← hV1]; exact (Only.refl (fun _ => False) w).alloc _
  have A2 : Adds V1 V2 := by rw [← hV2]; exact (Only.refl (fun _ => False) V1).alloc _
  have A3 : Adds V2 V := by rw [← hV]; exact (Only.refl (fun _ => False) V2).alloc _
  have b0 : Blk V B0 #[.int .i64 P, .int .i64 T] 26 := by
    have : Blk V1 B0 #[.int .i64 P, .int .i64 T] 26 := by rw [← hV1, ← hB0]; exact Blk.new w _ _
    exact (this.only A2 id).only A3 id
  have b1 : Blk V (B0 + 1) #[.pointer none, .pointer none, .pointer none] 47 := by
    have : Blk V2 (B0 + 1) #[.pointer none, .pointer none, .pointer none] 47 := by rw [← hV2, ← z1]; exact Blk.new V1 _ _
    exact this.only A3 id
  have b2 : Blk V (B0 + 1 + 1) #[.pointer none, .pointer none, .pointer none] 47 := by rw [← hV, ← z2]; exact Blk.new V2 _ _
  have HA := Lib.hid ((A1.thenF A2).thenF A3); have HB := Lib.hid (And.intro b0 (And.intro b1 b2)); have HZ := Lib.hid (And.intro z3 hB0)
  have l0 : V.cell? ⟨B0, 0, none⟩ = some (.int .i64 P) := b0.cell 0
  have l1 : V.cell? ⟨B0, 1, none⟩ = some (.int .i64 T) := b0.cell 1
  clear hV1 hV2 hV z1 z2 z3 A1 A2 A3 b0 b1 b2 hB0
  iterate 17 go_step
  refine wp_store_row 95 _ _ rfl V.heap.size (skArr 1 P T 0 hd) rfl rfl (run_storeVar_row _ _ 95 95 mZ (skArr 1 P T 0 hd) (Blk.new V mZ 95) infoM rfl (by simp [Value.oneCell'])) ?_
  obtain ⟨xb, hxb⟩ : ∃ b, V.heap.size = b := ⟨_, rfl⟩
  obtain ⟨W0, hW0⟩ : ∃ W, World.setRow (V.alloc (.cells mZ 95)) V.heap.size (skArr 1 P T 0 hd) = W := ⟨_, rfl⟩
  have hF : Blk W0 xb (skArr 1 P T 0 hd) 95 := by rw [← hW0, ← hxb]; exact setRow_heap _ _ mZ _ _ _ (Blk.new V mZ 95)
  have hE : Adds V W0 := by rw [← hW0]; exact adds_setRow ((Only.refl (fun _ => False) V).alloc _) (Nat.le_refl _) _
  rw [hW0]
  have HE := Lib.hid hE; have HF := Lib.hid hF
  have k0 := cellA l0 hE; have k1 := cellA l1 hE
  clear hW0 l0 l1 hF hE
  simp only [Act.put]
  obtain ⟨Wp, hWp⟩ : ∃ W, W0 = W := ⟨_, rfl⟩
  rw [hWp] at HE HF k0 k1
  rw [hWp]
  clear hWp W0
  go_upto_region 7 with (go_at_call 50; refine (newPop_ok P T hd _ HHD.out.to).mono ?_; rintro e v1 ⟨p, rfl, hp, hq, hpl⟩; have HP := Lib.hid hp; have HQ := Lib.hid hq; have HPL := Lib.hid hpl; have mc : v1.cell? ⟨B0 + 1 + 1, 0, none⟩ = some (.pointer none) := ((HB.out.2.2.only HE.out id).only hq id).cell 0; have mf : v1.frozen? ⟨B0 + 1 + 1, 0, none⟩ = false := ((HB.out.2.2.only HE.out id).only hq id).frozen 0; clear hp hq hpl)
  obtain ⟨W1, hW1⟩ : ∃ W, v1.setCell ⟨B0 + 1 + 1, 0, none⟩ (.pointer (some ⟨p, 0, none⟩)) = W := ⟨_, rfl⟩
  have bm1 : Blk v1 (B0 + 1 + 1) #[.pointer none, .pointer none, .pointer none] 47 := (HB.out.2.2.only HE.out id).only HQ.out id
  have ho1 : Only (· = (B0 + 1 + 1)) v1 W1 := by rw [← hW1]; exact only_at v1 (B0 + 1 + 1) 0 _
  have a1 : SkA P T v1 p (.pop hd (.inl .load)) := ⟨HHD.out, 0, HP.out⟩
  have a2 := a1.rowT bm1 (by decide) ho1
  have bm2 : Blk W1 (B0 + 1 + 1) #[(.pointer (some ⟨p, 0, none⟩)), .pointer none, .pointer none] 47 := by rw [← hW1]; exact bm1.setCell 0 _
  have bx2 := (HF.out.only HQ.out id).rowT bm1 (by decide) ho1
  have br2 := ((HB.out.2.1.only HE.out id).only HQ.out id).only ho1 (by omega)
  have hz1 := HZ.out
  have ad2 : Adds w W1 := ((HA.out.thenF HE.out).thenF HQ.out).andThen ho1 (fun i hi e => by omega)
  have pl : w.heap.size ≤ p := by have h1 := HPL.out; have h2 := HE.out.size; omega
  have HS2 := Lib.hid (And.intro a2 (And.intro bm2 (And.intro bx2 (And.intro br2 (And.intro ad2 pl)))))
  rw [hW1]
  clear hW1 bm1 ho1 a1 a2 bm2 bx2 br2 ad2 pl hz1 mc mf k0 k1 HA HB HE HF HQ HPL HP hxb
  go_step
  refine wpList_load_row rfl 95 _ rfl xb rfl 95 (skArr 1 P T 0 hd) (0, 0) _ HS2.out.2.2.1 Tryz.underlying95 rfl infoM ?_
  go_upto_region 8 with (go_at_call 51; refine (mNew_any (x := skMS 1 P T 0 hd) rfl rfl ⟨Nat.le_refl _, fun e => (by cases e)⟩ _).mono ?_; rintro e v2 ⟨b, rfl, hb, ho2, hbl⟩; have HB2 := Lib.hid hb; have HO2 := Lib.hid ho2; have HBL := Lib.hid hbl; have mc : v2.cell? ⟨B0 + 1 + 1, 2, none⟩ = some (.pointer none) := (HS2.out.2.1.only ho2 id).cell 2; have mf : v2.frozen? ⟨B0 + 1 + 1, 2, none⟩ = false := (HS2.out.2.1.only ho2 id).frozen 2; clear hb ho2 hbl)
  obtain ⟨W3, hW3⟩ : ∃ W, v2.setCell ⟨B0 + 1 + 1, 2, none⟩ (.pointer (some ⟨b, 0, none⟩)) = W := ⟨_, rfl⟩
  have bm1 := HS2.out.2.1.only HO2.out id
  have ho3 : Only (· = (B0 + 1 + 1)) v2 W3 := by rw [← hW3]; exact only_at v2 (B0 + 1 + 1) 2 _
  have a3 := ((skO P T).keep HS2.out.1 HO2.out id (fun _ _ _ _ => id)).rowT bm1 (by decide) ho3
  have bm3 : Blk W3 (B0 + 1 + 1) #[(.pointer (some ⟨p, 0, none⟩)), .pointer none, (.pointer (some ⟨b, 0, none⟩))] 47 := by rw [← hW3]; exact bm1.setCell 2 _
  have br3 := (HS2.out.2.2.2.1.only HO2.out id).only ho3 (by omega)
  have hz1 := HZ.out
  have ad3 : Adds w W3 := (HS2.out.2.2.2.2.1.thenF HO2.out).andThen ho3 (fun i hi e => by omega)
  have hb3 := HB2.out.only ho3 (fun e => by have h1 := HB2.out.blk; rw [e] at h1; have := (h1.uniq bm1).2; revert this; decide) (fun g hg => by cases hg)
  have bl : w.heap.size ≤ b := by have h1 := HBL.out; have h2 := HS2.out.2.2.2.2.1.size; omega
  have HS3 := Lib.hid (And.intro a3 (And.intro bm3 (And.intro br3 (And.intro ad3 (And.intro hb3 bl)))))
  have q0 := bm3.cell 0; have q1 := bm3.cell 1; have q2 := bm3.cell 2
  have r0 := br3.cell 0; have r1 := br3.cell 1; have r2 := br3.cell 2; have f0 := br3.frozen 0; have f1 := br3.frozen 1; have f2 := br3.frozen 2
  rw [hW3]
  clear hW3 bm1 ho3 a3 bm3 br3 ad3 hb3 bl hz1 mc mf HB2 HO2 HBL

  refine wp_region_held_drew (S := (fun V => V.cell? ⟨B0 + 1 + 1, 0, none⟩ = some (.pointer (some ⟨p, 0, none⟩)) ∧ V.cell? ⟨B0 + 1 + 1, 1, none⟩ = some (.pointer none) ∧ V.cell? ⟨B0 + 1 + 1, 2, none⟩ = some (.pointer (some ⟨b, 0, none⟩)))) (by kernel_rfl) ⟨q0, q1, q2⟩ (fun hHeld => ?_)
  refine wpAnyH_take (i := 0) (v := (.agg #[(.pointer (some ⟨p, 0, none⟩)), .pointer none, (.pointer (some ⟨b, 0, none⟩))])) rfl (by kernel_rfl) (by kernel_rfl) (by kernel_rfl) (fun _ _ _ h => h) (Or.inl ⟨by rfl, fun W hS => by (obtain ⟨q1, q2, q3⟩ := hS; go_simp; done)⟩) hHeld ?_
  try simp only [Act.put, List.getElem_toArray, List.getElem_cons_succ, List.getElem_cons_zero, List.setIfInBounds_toArray, List.set_cons_zero, List.set_cons_succ]
  refine wpAnyH_take (i := 1) (v := (.pointer (some ⟨B0 + 1 + 1, 0, none⟩))) rfl (by kernel_rfl) (by kernel_rfl) (by kernel_rfl) (fun _ _ _ h => h) (Or.inl ⟨by rfl, fun W hS => by first | rfl | (go_simp; done)⟩) hHeld ?_
  try simp only [Act.put, List.getElem_toArray, List.getElem_cons_succ, List.getElem_cons_zero, List.setIfInBounds_toArray, List.set_cons_zero, List.set_cons_succ]
  refine wpAnyH_take (i := 2) (v := (.pointer (some ⟨p, 0, none⟩))) rfl (by kernel_rfl) (by kernel_rfl) (by kernel_rfl) (fun _ _ _ h => h) (Or.inl ⟨by rfl, fun W hS => by (obtain ⟨q1, q2, q3⟩ := hS; go_simp; done)⟩) hHeld ?_
  try simp only [Act.put, List.getElem_toArray, List.getElem_cons_succ, List.getElem_cons_zero, List.setIfInBounds_toArray, List.set_cons_zero, List.set_cons_succ]
  refine wpAnyH_take (i := 3) (v := (.bool true)) rfl (by kernel_rfl) (by kernel_rfl) (by kernel_rfl) (fun _ _ _ h => h) (Or.inl ⟨by rfl, fun W hS => by first | rfl | (go_simp; done)⟩) hHeld ?_
  try simp only [Act.put, List.getElem_toArray, List.getElem_cons_succ, List.getElem_cons_zero, List.setIfInBounds_toArray, List.set_cons_zero, List.set_cons_succ]
  refine wpAnyH_take (i := 4) (v := (.bool true)) rfl (by kernel_rfl) (by kernel_rfl) (by kernel_rfl) (fun _ _ _ h => h) (Or.inl ⟨by rfl, fun W hS => by first | rfl | (go_simp; done)⟩) hHeld ?_
  try simp only [Act.put, List.getElem_toArray, List.getElem_cons_succ, List.getElem_cons_zero, List.setIfInBounds_toArray, List.set_cons_zero, List.set_cons_succ]
  refine wpAnyH_take (i := 5) (v := undef) rfl (by kernel_rfl) (by kernel_rfl) (by kernel_rfl) (fun _ _ _ h => h) (Or.inr ⟨by rfl, rfl⟩) hHeld ?_
  try simp only [Act.put, List.getElem_toArray, List.getElem_cons_succ, List.getElem_cons_zero, List.setIfInBounds_toArray, List.set_cons_zero, List.set_cons_succ]
  refine wpAnyH_take (i := 6) (v := undef) rfl (by kernel_rfl) (by kernel_rfl) (by kernel_rfl) (fun _ _ _ h => h) (Or.inr ⟨by rfl, rfl⟩) hHeld ?_
  try simp only [Act.put, List.getElem_toArray, List.getElem_cons_succ, List.getElem_cons_zero, List.setIfInBounds_toArray, List.set_cons_zero, List.set_cons_succ]
  refine wpAnyH_take (i := 7) (v := undef) rfl (by kernel_rfl) (by kernel_rfl) (by kernel_rfl) (fun _ _ _ h => h) (Or.inr ⟨by rfl, rfl⟩) hHeld ?_
  try simp only [Act.put, List.getElem_toArray, List.getElem_cons_succ, List.getElem_cons_zero, List.setIfInBounds_toArray, List.set_cons_zero, List.set_cons_succ]
  refine wpAnyH_take (i := 8) (v := (.bool true)) rfl (by kernel_rfl) (by kernel_rfl) (by kernel_rfl) (fun _ _ _ h => h) (Or.inl ⟨by rfl, fun W hS => by first | rfl | (go_simp; done)⟩) hHeld ?_
  try simp only [Act.put, List.getElem_toArray, List.getElem_cons_succ, List.getElem_cons_zero, List.setIfInBounds_toArray, List.set_cons_zero, List.set_cons_succ]
  refine wpAnyH_ready (rs := [9]) (by kernel_rfl) (by simp) (AllReadyH.cons rfl (fun K hK => ?_) AllReadyH.nil)
  simp only [List.getElem_toArray, List.getElem_cons_succ, List.getElem_cons_zero]
  rw [if_pos (by rfl)]
  go_simp
  obtain ⟨W6, hW6⟩ : ∃ W, (((W3.setCell ⟨B0 + 1, 0, none⟩ (.pointer (some ⟨p, 0, none⟩))).setCell ⟨B0 + 1, 1, none⟩ (.pointer none)).setCell ⟨B0 + 1, 2, none⟩ (.pointer (some ⟨b, 0, none⟩))).drew = W := ⟨_, rfl⟩
  have hO6 : Only (· = B0 + 1) W3 W6 := by rw [← hW6]; exact (((only_at W3 (B0 + 1) 0 (.pointer (some ⟨p, 0, none⟩))).setCell (p := ⟨B0 + 1, 1, none⟩) (.inl rfl) (.pointer none)).setCell (p := ⟨B0 + 1, 2, none⟩) (.inl rfl) (.pointer (some ⟨b, 0, none⟩))).drew
  have br6 : Blk W6 (B0 + 1) #[(.pointer (some ⟨p, 0, none⟩)), .pointer none, (.pointer (some ⟨b, 0, none⟩))] 47 := by rw [← hW6]; exact (((HS3.out.2.2.1.setCell 0 (.pointer (some ⟨p, 0, none⟩))).setCell 1 (.pointer none)).setCell 2 (.pointer (some ⟨b, 0, none⟩))).only ((Only.refl (fun _ => False) _).drew) id
  have a6 := HS3.out.1.rowT HS3.out.2.2.1 (by decide) hO6
  have hb6 := HS3.out.2.2.2.2.1.only hO6 (fun e => by have h1 := HS3.out.2.2.2.2.1.blk; rw [e] at h1; have := (h1.uniq HS3.out.2.2.1).2; revert this; decide) (fun g hg => by cases hg)
  have hz1 := HZ.out
  have ad6 : Adds w W6 := HS3.out.2.2.2.1.andThen hO6 (fun i hi e => by omega)
  have g0 := br6.cell 0; have g1 := br6.cell 1; have g2 := br6.cell 2
  rw [hW6]
  refine hK.out _ _ ⟨cellO hO6 (by omega) hHeld.1, cellO hO6 (by omega) hHeld.2.1, cellO hO6 (by omega) hHeld.2.2⟩ (fun hHeld => ?_)
  clear hK hW6
  try simp only [Act.put, List.getElem_toArray, List.getElem_cons_succ, List.getElem_cons_zero, List.setIfInBounds_toArray, List.set_cons_zero, List.set_cons_succ]
  refine wpAnyH_take (i := 10) (v := (.bool true)) rfl (by kernel_rfl) (by kernel_rfl) (by kernel_rfl) (fun _ _ _ h => h) (Or.inl ⟨by rfl, fun W hS => by first | rfl | (go_simp; done)⟩) hHeld ?_
  try simp only [Act.put, List.getElem_toArray, List.getElem_cons_succ, List.getElem_cons_zero, List.setIfInBounds_toArray, List.set_cons_zero, List.set_cons_succ]
  refine wpAnyH_done (by kernel_rfl) ?_ _
  go_wp2_with fail
  exact bodyPost_ret (v := .tuple #[.agg #[(.pointer (some ⟨p, 0, none⟩)), .pointer none, (.pointer (some ⟨b, 0, none⟩))], .bool true]) (by simp [g0, g1, g2, results, Tryz.results26, go_sem]) rfl ⟨p, b, _, rfl, a6, hb6, ⟨rfl, Nat.le_refl _, rfl, rfl, rfl, rfl, rfl⟩, ad6, HS2.out.2.2.2.2.2, HS3.out.2.2.2.2.2⟩
set_option maxRecDepth 100000 in
set_option maxHeartbeats 4000000 in
theorem madePush_any (hm : Lay.may P T = true) (hh : Hd3 hd) (h0 : 0 ≤ pg) (h1 : pg < P) : Calls Tryz.prog 26 #[.agg #[.int .i64 P, .int .i64 T], .bool true, .int .i64 hd, .int .i64 pg] w (MadeS P T (.push hd pg (.inl .load)) w) := by
  have HHD := Lib.hid (show HD P T hd from ⟨hm, hh.bd.1, hh.bd.2⟩)
  have HPG := Lib.hid (And.intro h0 h1)
  clear h0 h1
  clear hm hh
  go_enter Tryz.func26, Tryz.ntmps26
  go_upto_region 2 with fail
  obtain ⟨B0, hB0⟩ : ∃ B, w.heap.size = B := ⟨_, rfl⟩
  obtain ⟨V1, hV1⟩ : ∃ V, w.alloc (.cells #[.int .i64 P, .int .i64 T] 26) = V := ⟨_, rfl⟩
  obtain ⟨V2, hV2⟩ : ∃ V, V1.alloc (.cells #[.pointer none, .pointer none, .pointer none] 47) = V := ⟨_, rfl⟩
  obtain ⟨V, hV⟩ : ∃ V, V2.alloc (.cells #[.pointer none, .pointer none, .pointer none] 47) = V := ⟨_, rfl⟩
  rw [hV1, hV2, hV, hB0]
  have z1 : V1.heap.size = B0 + 1 := by rw [← hV1, World.size_alloc, hB0]
  have z2 : V2.heap.size = B0 + 1 + 1 := by rw [← hV2, World.size_alloc, z1]
  have z3 : V.heap.size = B0 + 1 + 1 + 1 := by rw [← hV, World.size_alloc, z2]
  have A1 : Adds w V1 := by rw [← hV1]; exact (Only.refl (fun _ => False) w).alloc _
  have A2 : Adds V1 V2 := by rw [← hV2]; exact (Only.refl (fun _ => False) V1).alloc _
  have A3 : Adds V2 V := by rw [← hV]; exact (Only.refl (fun _ => False) V2).alloc _
  have b0 : Blk V B0 #[.int .i64 P, .int .i64 T] 26 := by
    have : Blk V1 B0 #[.int .i64 P, .int .i64 T] 26 := by rw [← hV1, ← hB0]; exact Blk.new w _ _
    exact (this.only A2 id).only A3 id
  have b1 : Blk V (B0 + 1) #[.pointer none, .pointer none, .pointer none] 47 := by
    have : Blk V2 (B0 + 1) #[.pointer none, .pointer none, .pointer none] 47 := by rw [← hV2, ← z1]; exact Blk.new V1 _ _
    exact this.only A3 id
  have b2 : Blk V (B0 + 1 + 1) #[.pointer none, .pointer none, .pointer none] 47 := by rw [← hV, ← z2]; exact Blk.new V2 _ _
  have HA := Lib.hid ((A1.thenF A2).thenF A3); have HB := Lib.hid (And.intro b0 (And.intro b1 b2)); have HZ := Lib.hid (And.intro z3 hB0)
  have l0 : V.cell? ⟨B0, 0, none⟩ = some (.int .i64 P) := b0.cell 0
  have l1 : V.cell? ⟨B0, 1, none⟩ = some (.int .i64 T) := b0.cell 1
  clear hV1 hV2 hV z1 z2 z3 A1 A2 A3 b0 b1 b2 hB0
  iterate 17 go_step
  refine wp_store_row 95 _ _ rfl V.heap.size (skArr 1 P T pg hd) rfl rfl (run_storeVar_row _ _ 95 95 mZ (skArr 1 P T pg hd) (Blk.new V mZ 95) infoM rfl (by simp [Value.oneCell'])) ?_
  obtain ⟨xb, hxb⟩ : ∃ b, V.heap.size = b := ⟨_, rfl⟩
  obtain ⟨W0, hW0⟩ : ∃ W, World.setRow (V.alloc (.cells mZ 95)) V.heap.size (skArr 1 P T pg hd) = W := ⟨_, rfl⟩
  have hF : Blk W0 xb (skArr 1 P T pg hd) 95 := by rw [← hW0, ← hxb]; exact setRow_heap _ _ mZ _ _ _ (Blk.new V mZ 95)
  have hE : Adds V W0 := by rw [← hW0]; exact adds_setRow ((Only.refl (fun _ => False) V).alloc _) (Nat.le_refl _) _
  rw [hW0]
  have HE := Lib.hid hE; have HF := Lib.hid hF
  have k0 := cellA l0 hE; have k1 := cellA l1 hE
  clear hW0 l0 l1 hF hE
  simp only [Act.put]
  have x0 : W0.cell? ⟨xb, 0, none⟩ = some (.int .i64 1) := HF.out.cell 0
  have xf : W0.frozen? ⟨xb, 0, none⟩ = false := HF.out.frozen 0
  go_upto_region 5 with fail
  obtain ⟨Wp, hWp⟩ : ∃ W, W0.setCell ⟨xb, 0, none⟩ (.int .i64 2) = W := ⟨_, rfl⟩
  have hO9 : Only (· = xb) W0 Wp := by rw [← hWp]; exact only_at W0 xb 0 _
  have hF9 : Blk Wp xb (skArr 2 P T pg hd) 95 := by rw [← hWp]; exact HF.out.setCell 0 _
  have hE9 : Adds V Wp := by rw [← hWp]; exact HE.out.setCell (p := ⟨xb, 0, none⟩) (.inr (by rw [hxb]; exact Nat.le_refl _)) _
  rw [hWp]
  clear k0 k1
  have k0 := cellA (HB.out.1.cell 0) hE9; have k1 := cellA (HB.out.1.cell 1) hE9
  replace HE := Lib.hid hE9; replace HF := Lib.hid hF9
  clear hWp hO9 hF9 hE9 x0 xf W0
  go_upto_region 7 with (go_at_call 39; refine (newPush_ok P T hd pg _ HHD.out.to HPG.out.1 HPG.out.2).mono ?_; rintro e v1 ⟨p, rfl, hp, hq, hpl⟩; have HP := Lib.hid hp; have HQ := Lib.hid hq; have HPL := Lib.hid hpl; have mc : v1.cell? ⟨B0 + 1 + 1, 1, none⟩ = some (.pointer none) := ((HB.out.2.2.only HE.out id).only hq id).cell 1; have mf : v1.frozen? ⟨B0 + 1 + 1, 1, none⟩ = false := ((HB.out.2.2.only HE.out id).only hq id).frozen 1; clear hp hq hpl)
  obtain ⟨W1, hW1⟩ : ∃ W, v1.setCell ⟨B0 + 1 + 1, 1, none⟩ (.pointer (some ⟨p, 0, none⟩)) = W := ⟨_, rfl⟩
  have bm1 : Blk v1 (B0 + 1 + 1) #[.pointer none, .pointer none, .pointer none] 47 := (HB.out.2.2.only HE.out id).only HQ.out id
  have ho1 : Only (· = (B0 + 1 + 1)) v1 W1 := by rw [← hW1]; exact only_at v1 (B0 + 1 + 1) 1 _
  have a1 : SkA P T v1 p (.push hd pg (.inl .load)) := ⟨⟨HHD.out, HPG.out⟩, HP.out⟩
  have a2 := a1.rowT bm1 (by decide) ho1
  have bm2 : Blk W1 (B0 + 1 + 1) #[.pointer none, (.pointer (some ⟨p, 0, none⟩)), .pointer none] 47 := by rw [← hW1]; exact bm1.setCell 1 _
  have bx2 := (HF.out.only HQ.out id).rowT bm1 (by decide) ho1
  have br2 := ((HB.out.2.1.only HE.out id).only HQ.out id).only ho1 (by omega)
  have hz1 := HZ.out
  have ad2 : Adds w W1 := ((HA.out.thenF HE.out).thenF HQ.out).andThen ho1 (fun i hi e => by omega)
  have pl : w.heap.size ≤ p := by have h1 := HPL.out; have h2 := HE.out.size; omega
  have HS2 := Lib.hid (And.intro a2 (And.intro bm2 (And.intro bx2 (And.intro br2 (And.intro ad2 pl)))))
  rw [hW1]
  clear hW1 bm1 ho1 a1 a2 bm2 bx2 br2 ad2 pl hz1 mc mf k0 k1 HA HB HE HF HQ HPL HP hxb
  go_step
  refine wpList_load_row rfl 95 _ rfl xb rfl 95 (skArr 2 P T pg hd) (0, 0) _ HS2.out.2.2.1 Tryz.underlying95 rfl infoM ?_
  go_upto_region 8 with (go_at_call 51; refine (mNew_any (x := skMS 2 P T pg hd) rfl rfl ⟨Nat.le_refl _, fun e => (by cases e)⟩ _).mono ?_; rintro e v2 ⟨b, rfl, hb, ho2, hbl⟩; have HB2 := Lib.hid hb; have HO2 := Lib.hid ho2; have HBL := Lib.hid hbl; have mc : v2.cell? ⟨B0 + 1 + 1, 2, none⟩ = some (.pointer none) := (HS2.out.2.1.only ho2 id).cell 2; have mf : v2.frozen? ⟨B0 + 1 + 1, 2, none⟩ = false := (HS2.out.2.1.only ho2 id).frozen 2; clear hb ho2 hbl)
  obtain ⟨W3, hW3⟩ : ∃ W, v2.setCell ⟨B0 + 1 + 1, 2, none⟩ (.pointer (some ⟨b, 0, none⟩)) = W := ⟨_, rfl⟩
  have bm1 := HS2.out.2.1.only HO2.out id
  have ho3 : Only (· = (B0 + 1 + 1)) v2 W3 := by rw [← hW3]; exact only_at v2 (B0 + 1 + 1) 2 _
  have a3 := ((skO P T).keep HS2.out.1 HO2.out id (fun _ _ _ _ => id)).rowT bm1 (by decide) ho3
  have bm3 : Blk W3 (B0 + 1 + 1) #[.pointer none, (.pointer (some ⟨p, 0, none⟩)), (.pointer (some ⟨b, 0, none⟩))] 47 := by rw [← hW3]; exact bm1.setCell 2 _
  have br3 := (HS2.out.2.2.2.1.only HO2.out id).only ho3 (by omega)
  have hz1 := HZ.out
  have ad3 : Adds w W3 := (HS2.out.2.2.2.2.1.thenF HO2.out).andThen ho3 (fun i hi e => by omega)
  have hb3 := HB2.out.only ho3 (fun e => by have h1 := HB2.out.blk; rw [e] at h1; have := (h1.uniq bm1).2; revert this; decide) (fun g hg => by cases hg)
  have bl : w.heap.size ≤ b := by have h1 := HBL.out; have h2 := HS2.out.2.2.2.2.1.size; omega
  have HS3 := Lib.hid (And.intro a3 (And.intro bm3 (And.intro br3 (And.intro ad3 (And.intro hb3 bl)))))
  have q0 := bm3.cell 0; have q1 := bm3.cell 1; have q2 := bm3.cell 2
  have r0 := br3.cell 0; have r1 := br3.cell 1; have r2 := br3.cell 2; have f0 := br3.frozen 0; have f1 := br3.frozen 1; have f2 := br3.frozen 2
  rw [hW3]
  clear hW3 bm1 ho3 a3 bm3 br3 ad3 hb3 bl hz1 mc mf HB2 HO2 HBL

  refine wp_region_held_drew (S := (fun V => V.cell? ⟨B0 + 1 + 1, 0, none⟩ = some (.pointer none) ∧ V.cell? ⟨B0 + 1 + 1, 1, none⟩ = some (.pointer (some ⟨p, 0, none⟩)) ∧ V.cell? ⟨B0 + 1 + 1, 2, none⟩ = some (.pointer (some ⟨b, 0, none⟩)))) (by kernel_rfl) ⟨q0, q1, q2⟩ (fun hHeld => ?_)
  refine wpAnyH_take (i := 0) (v := (.agg #[.pointer none, (.pointer (some ⟨p, 0, none⟩)), (.pointer (some ⟨b, 0, none⟩))])) rfl (by kernel_rfl) (by kernel_rfl) (by kernel_rfl) (fun _ _ _ h => h) (Or.inl ⟨by rfl, fun W hS => by (obtain ⟨q1, q2, q3⟩ := hS; go_simp; done)⟩) hHeld ?_
  try simp only [Act.put, List.getElem_toArray, List.getElem_cons_succ, List.getElem_cons_zero, List.setIfInBounds_toArray, List.set_cons_zero, List.set_cons_succ]
  refine wpAnyH_take (i := 1) (v := (.pointer (some ⟨B0 + 1 + 1, 0, none⟩))) rfl (by kernel_rfl) (by kernel_rfl) (by kernel_rfl) (fun _ _ _ h => h) (Or.inl ⟨by rfl, fun W hS => by first | rfl | (go_simp; done)⟩) hHeld ?_
  try simp only [Act.put, List.getElem_toArray, List.getElem_cons_succ, List.getElem_cons_zero, List.setIfInBounds_toArray, List.set_cons_zero, List.set_cons_succ]
  refine wpAnyH_take (i := 2) (v := (.pointer none)) rfl (by kernel_rfl) (by kernel_rfl) (by kernel_rfl) (fun _ _ _ h => h) (Or.inl ⟨by rfl, fun W hS => by (obtain ⟨q1, q2, q3⟩ := hS; go_simp; done)⟩) hHeld ?_
  try simp only [Act.put, List.getElem_toArray, List.getElem_cons_succ, List.getElem_cons_zero, List.setIfInBounds_toArray, List.set_cons_zero, List.set_cons_succ]
  refine wpAnyH_take (i := 3) (v := (.bool false)) rfl (by kernel_rfl) (by kernel_rfl) (by kernel_rfl) (fun _ _ _ h => h) (Or.inl ⟨by rfl, fun W hS => by first | rfl | (go_simp; done)⟩) hHeld ?_
  try simp only [Act.put, List.getElem_toArray, List.getElem_cons_succ, List.getElem_cons_zero, List.setIfInBounds_toArray, List.set_cons_zero, List.set_cons_succ]
  refine wpAnyH_take (i := 4) (v := (.bool false)) rfl (by kernel_rfl) (by kernel_rfl) (by kernel_rfl) (fun _ _ _ h => h) (Or.inl ⟨by rfl, fun W hS => by first | rfl | (go_simp; done)⟩) hHeld ?_
  try simp only [Act.put, List.getElem_toArray, List.getElem_cons_succ, List.getElem_cons_zero, List.setIfInBounds_toArray, List.set_cons_zero, List.set_cons_succ]
  refine wpAnyH_take (i := 5) (v := (.pointer (some ⟨B0 + 1 + 1, 1, none⟩))) rfl (by kernel_rfl) (by kernel_rfl) (by kernel_rfl) (fun _ _ _ h => h) (Or.inl ⟨by rfl, fun W hS => by first | rfl | (go_simp; done)⟩) hHeld ?_
  try simp only [Act.put, List.getElem_toArray, List.getElem_cons_succ, List.getElem_cons_zero, List.setIfInBounds_toArray, List.set_cons_zero, List.set_cons_succ]
  refine wpAnyH_take (i := 6) (v := (.pointer (some ⟨p, 0, none⟩))) rfl (by kernel_rfl) (by kernel_rfl) (by kernel_rfl) (fun _ _ _ h => h) (Or.inl ⟨by rfl, fun W hS => by (obtain ⟨q1, q2, q3⟩ := hS; go_simp; done)⟩) hHeld ?_
  try simp only [Act.put, List.getElem_toArray, List.getElem_cons_succ, List.getElem_cons_zero, List.setIfInBounds_toArray, List.set_cons_zero, List.set_cons_succ]
  refine wpAnyH_take (i := 7) (v := (.bool true)) rfl (by kernel_rfl) (by kernel_rfl) (by kernel_rfl) (fun _ _ _ h => h) (Or.inl ⟨by rfl, fun W hS => by first | rfl | (go_simp; done)⟩) hHeld ?_
  try simp only [Act.put, List.getElem_toArray, List.getElem_cons_succ, List.getElem_cons_zero, List.setIfInBounds_toArray, List.set_cons_zero, List.set_cons_succ]
  refine wpAnyH_take (i := 8) (v := (.bool true)) rfl (by kernel_rfl) (by kernel_rfl) (by kernel_rfl) (fun _ _ _ h => h) (Or.inl ⟨by rfl, fun W hS => by first | rfl | (go_simp; done)⟩) hHeld ?_
  try simp only [Act.put, List.getElem_toArray, List.getElem_cons_succ, List.getElem_cons_zero, List.setIfInBounds_toArray, List.set_cons_zero, List.set_cons_succ]
  refine wpAnyH_ready (rs := [9]) (by kernel_rfl) (by simp) (AllReadyH.cons rfl (fun K hK => ?_) AllReadyH.nil)
  simp only [List.getElem_toArray, List.getElem_cons_succ, List.getElem_cons_zero]
  rw [if_pos (by rfl)]
  go_simp
  obtain ⟨W6, hW6⟩ : ∃ W, (((W3.setCell ⟨B0 + 1, 0, none⟩ (.pointer none)).setCell ⟨B0 + 1, 1, none⟩ (.pointer (some ⟨p, 0, none⟩))).setCell ⟨B0 + 1, 2, none⟩ (.pointer (some ⟨b, 0, none⟩))).drew = W := ⟨_, rfl⟩
  have hO6 : Only (· = B0 + 1) W3 W6 := by rw [← hW6]; exact (((only_at W3 (B0 + 1) 0 (.pointer none)).setCell (p := ⟨B0 + 1, 1, none⟩) (.inl rfl) (.pointer (some ⟨p, 0, none⟩))).setCell (p := ⟨B0 + 1, 2, none⟩) (.inl rfl) (.pointer (some ⟨b, 0, none⟩))).drew
  have br6 : Blk W6 (B0 + 1) #[.pointer none, (.pointer (some ⟨p, 0, none⟩)), (.pointer (some ⟨b, 0, none⟩))] 47 := by rw [← hW6]; exact (((HS3.out.2.2.1.setCell 0 (.pointer none)).setCell 1 (.pointer (some ⟨p, 0, none⟩))).setCell 2 (.pointer (some ⟨b, 0, none⟩))).only ((Only.refl (fun _ => False) _).drew) id
  have a6 := HS3.out.1.rowT HS3.out.2.2.1 (by decide) hO6
  have hb6 := HS3.out.2.2.2.2.1.only hO6 (fun e => by have h1 := HS3.out.2.2.2.2.1.blk; rw [e] at h1; have := (h1.uniq HS3.out.2.2.1).2; revert this; decide) (fun g hg => by cases hg)
  have hz1 := HZ.out
  have ad6 : Adds w W6 := HS3.out.2.2.2.1.andThen hO6 (fun i hi e => by omega)
  have g0 := br6.cell 0; have g1 := br6.cell 1; have g2 := br6.cell 2
  rw [hW6]
  refine hK.out _ _ ⟨cellO hO6 (by omega) hHeld.1, cellO hO6 (by omega) hHeld.2.1, cellO hO6 (by omega) hHeld.2.2⟩ (fun hHeld => ?_)
  clear hK hW6
  try simp only [Act.put, List.getElem_toArray, List.getElem_cons_succ, List.getElem_cons_zero, List.setIfInBounds_toArray, List.set_cons_zero, List.set_cons_succ]
  refine wpAnyH_take (i := 10) (v := (.bool true)) rfl (by kernel_rfl) (by kernel_rfl) (by kernel_rfl) (fun _ _ _ h => h) (Or.inl ⟨by rfl, fun W hS => by first | rfl | (go_simp; done)⟩) hHeld ?_
  try simp only [Act.put, List.getElem_toArray, List.getElem_cons_succ, List.getElem_cons_zero, List.setIfInBounds_toArray, List.set_cons_zero, List.set_cons_succ]
  refine wpAnyH_done (by kernel_rfl) ?_ _
  go_wp2_with fail
  exact bodyPost_ret (v := .tuple #[.agg #[.pointer none, (.pointer (some ⟨p, 0, none⟩)), (.pointer (some ⟨b, 0, none⟩))], .bool true]) (by simp [g0, g1, g2, results, Tryz.results26, go_sem]) rfl ⟨p, b, _, rfl, a6, hb6, ⟨rfl, Nat.le_refl _, rfl, rfl, rfl, rfl, rfl, rfl, HPG.out.1, HPG.out.2⟩, ad6, HS2.out.2.2.2.2.2, HS3.out.2.2.2.2.2⟩
end
abbrev gmC (ab bb hvb mb onb pub n : Nat) : Array Value := #[.pointer (some ⟨ab, 0, none⟩), .pointer (some ⟨bb, 0, none⟩), .slice (some ⟨hvb, 0, none⟩) n n, .slice (some ⟨mb, 0, none⟩) n n, .slice (some ⟨onb, 0, none⟩) n n, .slice (some ⟨pub, 0, none⟩) n n]
/-- A hand: pages that the arena has. -/
def HandOk (w : World) (P : Int) (c : Nat) (v : Value) : Prop := ∃ xs : List Int, w.ownsRow 0 3 1 v xs.length (xs.map (Value.int .i64)) ∧ (∀ x ∈ xs, 0 ≤ x ∧ x < P) ∧ xs.length ≤ c
theorem HandOk.keep {w w' : World} {P : Int} {c r : Nat} {v : Value} {cr : Array Value} {u : TypeId} (h : HandOk w P c v) (hr : Blk w r cr u) (hu : u ≠ 3) (ho : Only (· = r) w w') : HandOk w' P c v := by
  obtain ⟨xs, h1, h2⟩ := h
  refine ⟨xs, ownsRow_only h1 ho (fun g hg e => ?_), h2⟩
  obtain ⟨c2, hb⟩ := ownsRow_blk h1 hg
  subst e
  exact hu (hr.uniq hb).2
theorem HandOk.kept {w w' : World} {P : Int} {c : Nat} {v : Value} (h : HandOk w P c v) (h2 : ∀ r c u, Blk w r c u → RowOk skTy u → Blk w' r c u) : HandOk w' P c v := by
  obtain ⟨xs, ⟨a1, a2⟩, h3⟩ := h
  refine ⟨xs, ⟨a1, ?_⟩, h3⟩
  rcases a2 with a2 | ⟨g, cap, cur, b1, b2, b3, b4⟩
  · exact .inl a2
  · exact .inr ⟨g, cap, cur, b1, b2, h2 g cur _ b3 (by unfold RowOk; decide), b4⟩
theorem HandOk.adds {w w' : World} {P : Int} {c : Nat} {v : Value} (h : HandOk w P c v) (ho : Adds w w') : HandOk w' P c v := h.kept (fun _ _ _ hb _ => hb.only ho id)
theorem HandOk.more {w : World} {P : Int} {c d : Nat} {v : Value} (h : HandOk w P c v) (hd : c ≤ d) : HandOk w P d v := by
  obtain ⟨xs, h1, h2, h3⟩ := h; exact ⟨xs, h1, h2, Nat.le_trans h3 hd⟩
structure GH (w : World) (ab sb sm rb rg bb tb tm ub fb gb hvb mb onb pub n : Nat) (P T : Int) (c : Nat) (wr : World) (s s' : StoreS) (L : List (Option SkL)) (Hv Mc : Nat → Value) (On Pu : Nat → Bool) : Prop where
  sc : SC (SkA P T) w ab sb sm rb rg bb tb tm ub fb P T wr s s' L
  ll : L.length = n
  game : Blk wr gb (gmC ab bb hvb mb onb pub n) 37
  hv : Blk wr hvb (rowOf n Hv) 54
  mm : Blk wr mb (rowOf (n * 3) Mc) 47
  on : Blk wr onb (rowOf n (fun j => .bool (On j))) 4
  pu : Blk wr pub (rowOf n (fun j => .bool (Pu j))) 4
  ne : onb ≠ pub ∧ onb ≠ fb ∧ pub ≠ fb
  low : w.heap.size ≤ gb ∧ w.heap.size ≤ hvb ∧ w.heap.size ≤ mb ∧ w.heap.size ≤ onb ∧ w.heap.size ≤ pub
  hands : ∀ t, t < n → HandOk wr P c (Hv t)
/-- What the rows say of the lanes. -/
structure Lnk (n : Nat) (L : List (Option SkL)) (Mc : Nat → Value) (On Pu : Nat → Bool) : Prop where
  live : ∀ (t : Nat) (z : SkL), L[t]? = some (some z) → On t = true ∧ Pu t = z.k.isPush ∧ Mc (t * 3) = ptrV (if z.k.isPush = true then none else some z.a) ∧ Mc (t * 3 + 1) = ptrV (if z.k.isPush = true then some z.a else none) ∧ Mc (t * 3 + 2) = .pointer (some ⟨z.b, 0, none⟩)
  idle : ∀ t : Nat, L[t]? = some none → On t = false
section
variable {w wr w' : World} {ab sb sm rb rg bb tb tm ub fb gb hvb mb onb pub n c t : Nat} {P T : Int} {s s' s1 s1' : StoreS} {L L1 : List (Option SkL)} {Hv Mc : Nat → Value} {On Pu : Nat → Bool} {z : SkL}
theorem GH.add (h : GH w ab sb sm rb rg bb tb tm ub fb gb hvb mb onb pub n P T c wr s s' L Hv Mc On Pu) (ho : Adds wr w') : GH w ab sb sm rb rg bb tb tm ub fb gb hvb mb onb pub n P T c w' s s' L Hv Mc On Pu :=
  ⟨h.sc.add (skO P T) ho, h.ll, h.game.only ho id, h.hv.only ho id, h.mm.only ho id, h.on.only ho id, h.pu.only ho id, h.ne, h.low, fun t ht => (h.hands t ht).adds ho⟩
theorem GH.kept (h : GH w ab sb sm rb rg bb tb tm ub fb gb hvb mb onb pub n P T c wr s s' L Hv Mc On Pu) (hs : SC (SkA P T) w ab sb sm rb rg bb tb tm ub fb P T w' s1 s1' L1) (h2 : ∀ r c u, Blk wr r c u → RowOk skTy u → Blk w' r c u) (hl : L1.length = n) : GH w ab sb sm rb rg bb tb tm ub fb gb hvb mb onb pub n P T c w' s1 s1' L1 Hv Mc On Pu :=
  ⟨hs, hl, h2 _ _ _ h.game (by unfold RowOk; decide), h2 _ _ _ h.hv (by unfold RowOk; decide), h2 _ _ _ h.mm (by unfold RowOk; decide), h2 _ _ _ h.on (by unfold RowOk; decide), h2 _ _ _ h.pu (by unfold RowOk; decide), h.ne, h.low, fun t ht => (h.hands t ht).kept h2⟩
theorem GH.setOn (h : GH w ab sb sm rb rg bb tb tm ub fb gb hvb mb onb pub n P T c wr s s' L Hv Mc On Pu) (t : Nat) (b : Bool) : GH w ab sb sm rb rg bb tb tm ub fb gb hvb mb onb pub n P T c (wr.setCell ⟨onb, t, none⟩ (.bool b)) s s' L Hv Mc (upd On t b) Pu := by
  have ho := only_at wr onb t (.bool b)
  refine ⟨h.sc.rowB (ty := skTy) h.on (by unfold RowOk; decide) (by unfold BT; decide) h.ne.2.1 (fun t z e => (h.sc.lanes.A t z e).rowT h.on (by decide) ho) h.low.2.2.2.1 ho, h.ll, h.game.rowT h.on (by decide) ho, h.hv.rowT h.on (by decide) ho, h.mm.rowT h.on (by decide) ho, ?_, h.pu.only ho (fun e => h.ne.1 e.symm), h.ne, h.low, fun t ht => (h.hands t ht).keep h.on (by decide) ho⟩
  have := h.on.setCell t (.bool b)
  rw [rowOf_set] at this
  rw [upd_comp Value.bool]
  exact this
theorem GH.setPu (h : GH w ab sb sm rb rg bb tb tm ub fb gb hvb mb onb pub n P T c wr s s' L Hv Mc On Pu) (t : Nat) (b : Bool) : GH w ab sb sm rb rg bb tb tm ub fb gb hvb mb onb pub n P T c (wr.setCell ⟨pub, t, none⟩ (.bool b)) s s' L Hv Mc On (upd Pu t b) := by
  have ho := only_at wr pub t (.bool b)
  refine ⟨h.sc.rowB (ty := skTy) h.pu (by unfold RowOk; decide) (by unfold BT; decide) h.ne.2.2 (fun t z e => (h.sc.lanes.A t z e).rowT h.pu (by decide) ho) h.low.2.2.2.2 ho, h.ll, h.game.rowT h.pu (by decide) ho, h.hv.rowT h.pu (by decide) ho, h.mm.rowT h.pu (by decide) ho, h.on.only ho h.ne.1, ?_, h.ne, h.low, fun t ht => (h.hands t ht).keep h.pu (by decide) ho⟩
  have := h.pu.setCell t (.bool b)
  rw [rowOf_set] at this
  rw [upd_comp Value.bool]
  exact this
theorem GH.setHv (h : GH w ab sb sm rb rg bb tb tm ub fb gb hvb mb onb pub n P T c wr s s' L Hv Mc On Pu) (t : Nat) {v : Value} (hv : HandOk wr P c v) : GH w ab sb sm rb rg bb tb tm ub fb gb hvb mb onb pub n P T c (wr.setCell ⟨hvb, t, none⟩ v) s s' L (upd Hv t v) Mc On Pu := by
  have ho := only_at wr hvb t v
  refine ⟨h.sc.rowK (ty := skTy) h.hv (by unfold RowOk; decide) (by unfold BT; decide) (fun t z e => (h.sc.lanes.A t z e).rowT h.hv (by decide) ho) h.low.2.1 ho, h.ll, h.game.rowT h.hv (by decide) ho, ?_, h.mm.rowT h.hv (by decide) ho, h.on.rowT h.hv (by decide) ho, h.pu.rowT h.hv (by decide) ho, h.ne, h.low, fun j hj => ?_⟩
  · have := h.hv.setCell t v
    rw [rowOf_set] at this
    exact this
  · by_cases e : j = t
    · subst e; rw [upd_at]; exact hv.keep h.hv (by decide) ho
    · rw [upd_ne _ e]; exact (h.hands j hj).keep h.hv (by decide) ho
theorem GH.setM1 (h : GH w ab sb sm rb rg bb tb tm ub fb gb hvb mb onb pub n P T c wr s s' L Hv Mc On Pu) (j : Nat) (v : Value) : GH w ab sb sm rb rg bb tb tm ub fb gb hvb mb onb pub n P T c (wr.setCell ⟨mb, j, none⟩ v) s s' L Hv (upd Mc j v) On Pu := by
  have ho := only_at wr mb j v
  refine ⟨h.sc.rowK (ty := skTy) h.mm (by unfold RowOk; decide) (by unfold BT; decide) (fun t z e => (h.sc.lanes.A t z e).rowT h.mm (by decide) ho) h.low.2.2.1 ho, h.ll, h.game.rowT h.mm (by decide) ho, h.hv.rowT h.mm (by decide) ho, ?_, h.on.rowT h.mm (by decide) ho, h.pu.rowT h.mm (by decide) ho, h.ne, h.low, fun t ht => (h.hands t ht).keep h.mm (by decide) ho⟩
  have := h.mm.setCell j v
  rw [rowOf_set] at this
  exact this
theorem GH.begin (h : GH w ab sb sm rb rg bb tb tm ub fb gb hvb mb onb pub n P T c wr s s' L Hv Mc On Pu) {w0 : World} (h0 : Lanes (SkA P T) w0 sm tm L) (hw : w.heap.size ≤ w0.heap.size) (ha : SkA P T wr z.a z.k) (hb : IsM wr z.b z.x z.lg z.mr z.mem) (hl : z.lg = .slice none 0 0) (na : w0.heap.size ≤ z.a) (nb : w0.heap.size ≤ z.b) : GH w ab sb sm rb rg bb tb tm ub fb gb hvb mb onb pub n P T c wr s s' (L.set t (some z)) Hv Mc On Pu :=
  ⟨h.sc.begin2 (skO P T) h0 hw ha hb hl na nb, by simpa using h.ll, h.game, h.hv, h.mm, h.on, h.pu, h.ne, h.low, h.hands⟩
theorem GH.drop (h : GH w ab sb sm rb rg bb tb tm ub fb gb hvb mb onb pub n P T c wr s s' L Hv Mc On Pu) (t : Nat) : GH w ab sb sm rb rg bb tb tm ub fb gb hvb mb onb pub n P T c wr s s' (L.set t none) Hv Mc On Pu :=
  ⟨h.sc.drop t, by simpa using h.ll, h.game, h.hv, h.mm, h.on, h.pu, h.ne, h.low, h.hands⟩
theorem GH.more (h : GH w ab sb sm rb rg bb tb tm ub fb gb hvb mb onb pub n P T c wr s s' L Hv Mc On Pu) {d : Nat} (hd : c ≤ d) : GH w ab sb sm rb rg bb tb tm ub fb gb hvb mb onb pub n P T d wr s s' L Hv Mc On Pu :=
  ⟨h.sc, h.ll, h.game, h.hv, h.mm, h.on, h.pu, h.ne, h.low, fun t ht => (h.hands t ht).more hd⟩
/-- The cells of a thread. -/
theorem GH.cells (h : GH w ab sb sm rb rg bb tb tm ub fb gb hvb mb onb pub n P T c wr s s' L Hv Mc On Pu) (ht : t < n) :
    (wr.cell? ⟨hvb, t, none⟩ = some (Hv t) ∧ wr.cell? ⟨onb, t, none⟩ = some (.bool (On t)) ∧ wr.cell? ⟨pub, t, none⟩ = some (.bool (Pu t))) ∧ (wr.cell? ⟨mb, t * 3, none⟩ = some (Mc (t * 3)) ∧ wr.cell? ⟨mb, t * 3 + 1, none⟩ = some (Mc (t * 3 + 1)) ∧ wr.cell? ⟨mb, t * 3 + 2, none⟩ = some (Mc (t * 3 + 2))) := by
  refine ⟨⟨?_, ?_, ?_⟩, ?_, ?_, ?_⟩
  · rw [h.hv.cell t, rowOf_get _ ht]
  · rw [h.on.cell t, rowOf_get _ ht]
  · rw [h.pu.cell t, rowOf_get _ ht]
  · rw [h.mm.cell (t * 3), rowOf_get _ (by omega)]
  · rw [h.mm.cell (t * 3 + 1), rowOf_get _ (by omega)]
  · rw [h.mm.cell (t * 3 + 2), rowOf_get _ (by omega)]
theorem GH.gcells (h : GH w ab sb sm rb rg bb tb tm ub fb gb hvb mb onb pub n P T c wr s s' L Hv Mc On Pu) :
    wr.cell? ⟨gb, 0, none⟩ = some (.pointer (some ⟨ab, 0, none⟩)) ∧ wr.cell? ⟨gb, 1, none⟩ = some (.pointer (some ⟨bb, 0, none⟩)) ∧ wr.cell? ⟨gb, 2, none⟩ = some (.slice (some ⟨hvb, 0, none⟩) n n) ∧ wr.cell? ⟨gb, 3, none⟩ = some (.slice (some ⟨mb, 0, none⟩) n n) ∧ wr.cell? ⟨gb, 4, none⟩ = some (.slice (some ⟨onb, 0, none⟩) n n) ∧ wr.cell? ⟨gb, 5, none⟩ = some (.slice (some ⟨pub, 0, none⟩) n n) :=
  ⟨h.game.cell 0, h.game.cell 1, h.game.cell 2, h.game.cell 3, h.game.cell 4, h.game.cell 5⟩
end
/-- What begin does to the hands. -/
def HandTo (wr : World) (Hv0 Hv : Nat → Value) (t : Nat) (k : SkS) : Prop :=
  ((∃ hd, k = .pop hd (.inl .load)) ∧ Hv = Hv0) ∨ ∃ (g j cap : Nat) (hd pg : Int), Hv0 t = .slice (some ⟨g, 0, none⟩) (j + 1) cap ∧ Hv = upd Hv0 t (.slice (some ⟨g, 0, none⟩) j cap) ∧ k = .push hd pg (.inl .load) ∧ wr.cell? ⟨g, j, none⟩ = some (.int .i64 pg)
/-- What begin leaves. -/
def BegQ (w : World) (ab sb sm rb rg bb tb tm ub fb gb hvb mb onb pub n : Nat) (P T : Int) (c : Nat) (wr : World) (s s' : StoreS) (L : List (Option SkL)) (Hv0 : Nat → Value) (t : Nat) (e : Ending) (w' : World) : Prop :=
  (e = .returned (.bool true) ∧ ∀ r cc u, (u = 50 ∨ u = 3 ∨ u = 39) → Blk wr r cc u → Blk w' r cc u) ∧ ∃ (z : SkL) (Hv Mc : Nat → Value) (On Pu : Nat → Bool), GH w ab sb sm rb rg bb tb tm ub fb gb hvb mb onb pub n P T c w' s s' (L.set t (some z)) Hv Mc On Pu ∧ Lnk n (L.set t (some z)) Mc On Pu ∧ SkM z.x P T 0 z.k ∧ SkOk P z.k ∧ HandTo wr Hv0 Hv t z.k
theorem upd3 {f : Nat → Value} {t j : Nat} {a b d : Value} : (j ≠ t → upd (upd (upd f (t * 3) a) (t * 3 + 1) b) (t * 3 + 2) d (j * 3) = f (j * 3) ∧ upd (upd (upd f (t * 3) a) (t * 3 + 1) b) (t * 3 + 2) d (j * 3 + 1) = f (j * 3 + 1) ∧ upd (upd (upd f (t * 3) a) (t * 3 + 1) b) (t * 3 + 2) d (j * 3 + 2) = f (j * 3 + 2)) ∧
    upd (upd (upd f (t * 3) a) (t * 3 + 1) b) (t * 3 + 2) d (t * 3) = a ∧ upd (upd (upd f (t * 3) a) (t * 3 + 1) b) (t * 3 + 2) d (t * 3 + 1) = b ∧ upd (upd (upd f (t * 3) a) (t * 3 + 1) b) (t * 3 + 2) d (t * 3 + 2) = d := by
  refine ⟨fun h => ⟨?_, ?_, ?_⟩, ?_, ?_, upd_at _ _ _⟩
  · rw [upd_ne _ (by omega), upd_ne _ (by omega), upd_ne _ (by omega)]
  · rw [upd_ne _ (by omega), upd_ne _ (by omega), upd_ne _ (by omega)]
  · rw [upd_ne _ (by omega), upd_ne _ (by omega), upd_ne _ (by omega)]
  · rw [upd_ne _ (by omega), upd_ne _ (by omega), upd_at]
  · rw [upd_ne _ (by omega), upd_at]
/-- A lane begun, by the rows. -/
theorem Lnk.begin {n t : Nat} {L : List (Option SkL)} {Mc : Nat → Value} {On Pu : Nat → Bool} {z : SkL} (h : Lnk n L Mc On Pu) : Lnk n (L.set t (some z)) (upd (upd (upd Mc (t * 3) (ptrV (if z.k.isPush = true then none else some z.a))) (t * 3 + 1) (ptrV (if z.k.isPush = true then some z.a else none))) (t * 3 + 2) (.pointer (some ⟨z.b, 0, none⟩))) (upd On t true) (upd Pu t z.k.isPush) := by
  refine ⟨fun j y e => ?_, fun j e => ?_⟩
  · rcases set_cases e with ⟨rfl, e2⟩ | ⟨hj, e2⟩
    · injection e2 with e2; subst e2
      have := (@upd3 Mc j j (ptrV (if z.k.isPush = true then none else some z.a)) (ptrV (if z.k.isPush = true then some z.a else none)) (.pointer (some ⟨z.b, 0, none⟩))).2
      exact ⟨upd_at _ _ _, upd_at _ _ _, this⟩
    · have h1 := h.live j y e2
      obtain ⟨a, b, d⟩ := (@upd3 Mc t j (ptrV (if z.k.isPush = true then none else some z.a)) (ptrV (if z.k.isPush = true then some z.a else none)) (.pointer (some ⟨z.b, 0, none⟩))).1 hj
      rw [a, b, d, upd_ne _ hj, upd_ne _ hj]
      exact h1
  · rw [List.getElem?_set] at e
    by_cases hj : t = j
    · rw [if_pos hj] at e; split at e <;> simp at e
    · rw [if_neg hj] at e
      rw [upd_ne _ (Ne.symm hj)]; exact h.idle j e
/-- A hand without its last. -/
theorem HandOk.pop {w : World} {P : Int} {c m j cap : Nat} {a : Option Addr} (h : HandOk w P c (.slice a m cap)) (hm : m = j + 1) : HandOk w P c (.slice a j cap) := by
  obtain ⟨xs, ⟨a1, a2⟩, h3, h4⟩ := h
  rcases a2 with ⟨e1, e2⟩ | ⟨g, cp, cur, b1, b2, b3, b4, b5, b6, b7⟩
  · injection e1 with _ e1 _; omega
  · injection b1 with b1 e7 e8
    subst e8
    have hl : (xs.take j).length = j := by rw [List.length_take]; omega
    refine ⟨xs.take j, ⟨by simp, .inr ⟨g, cap, cur, by rw [b1, hl], b2, b3, by omega, b5, b6, ?_⟩⟩, fun x hx => h3 x (List.mem_of_mem_take hx), by omega⟩
    rw [hl]
    simp only [Nat.mul_one] at b7 ⊢
    have : cur.toList.take j = (cur.toList.take xs.length).take j := by rw [List.take_take]; congr 1; omega
    rw [this, b7, List.map_take]
section
variable {w wr : World} {ab sb sm rb rg bb tb tm ub fb gb hvb mb onb pub n c t : Nat} {P T k : Int} {s s' : StoreS} {L : List (Option SkL)} {Hv Mc : Nat → Value} {On Pu : Nat → Bool}
set_option maxRecDepth 100000 in
set_option maxHeartbeats 4000000 in
theorem begin_push (h : GH w ab sb sm rb rg bb tb tm ub fb gb hvb mb onb pub n P T c wr s s' L Hv Mc On Pu) (hl : Lnk n L Mc On Pu) (ht : t < n) (hm : Lay.may P T = true) (hk : 0 ≤ k ∧ k < 256) (hn : n ≤ 4096) (hc : c ≤ 100000) (hk2 : k % 2 = 0) (hne : ∃ a m cap, Hv t = .slice a m cap ∧ 0 < m) :
    Calls Tryz.prog 8 #[.pointer (some ⟨gb, 0, none⟩), .int .i64 (t : Int), .int .i64 k] wr (BegQ w ab sb sm rb rg bb tb tm ub fb gb hvb mb onb pub n P T c wr s s' L Hv t) := by
  obtain ⟨k2, hk2'⟩ : ∃ q, k / 2 = q := ⟨_, rfl⟩
  have tk2 : Int.tdiv k 2 = k2 := by rw [Int.tdiv_eq_ediv_of_nonneg hk.1]; exact hk2'
  have wk2 : IntKind.i64.wrap k2 = k2 := by rw [IntKind.wrap_i64]; omega
  obtain ⟨k3, hk3⟩ : ∃ q, k2 % 3 = q := ⟨_, rfl⟩
  have tk3 : Int.tmod k2 3 = k3 := by rw [Int.tmod_eq_emod_of_nonneg (by omega)]; exact hk3
  have wk3 : IntKind.i64.wrap k3 = k3 := by rw [IntKind.wrap_i64]; omega
  obtain ⟨k7, hk7⟩ : ∃ q, k3 * 7 = q := ⟨_, rfl⟩
  have wk7 : IntKind.i64.wrap (k3 * 7) = k7 := by rw [hk7, IntKind.wrap_i64]; omega
  obtain ⟨hd, hhd⟩ : ∃ q, 8 + k7 % 60 = q := ⟨_, rfl⟩
  have HD3 := Lib.hid (show Hd3 hd by
    have h3 : k3 = 0 ∨ k3 = 1 ∨ k3 = 2 := by omega
    have h7 : k7 % 60 = k7 := Int.emod_eq_of_lt (by omega) (by omega)
    unfold Hd3
    rcases h3 with rfl | rfl | rfl <;> omega)
  have HHEAD : Hid (∀ W, Calls Tryz.prog 16 #[.int .i64 k7] W fun e w' => e = .returned (.int .i64 hd) ∧ W = w') := Lib.hid (fun W => by rw [← hhd]; exact playHead_any k7 W (by omega))
  obtain ⟨km, hkm⟩ : ∃ q, k % 2 = q := ⟨_, rfl⟩
  have tkm : Int.tmod k 2 = km := by rw [Int.tmod_eq_emod_of_nonneg hk.1]; exact hkm
  rw [hkm] at hk2
  have wkm : IntKind.i64.wrap km = km := by rw [IntKind.wrap_i64]; omega
  obtain ⟨xs, hown, hxs, hxc⟩ := h.hands t ht
  obtain ⟨a, cap, hHv⟩ := ownsRow_slice hown
  obtain ⟨m, hmm⟩ : ∃ q, xs.length = q := ⟨_, rfl⟩
  rw [hmm] at hHv
  have HH := Lib.hid h; have HLK := Lib.hid hl; have HM := Lib.hid hm; have HT := Lib.hid ht
  have HOWN := Lib.hid (And.intro hown (And.intro hxs (And.intro hxc hmm)))
  have HHV := Lib.hid hHv
  obtain ⟨⟨p0, -, p2⟩, -⟩ := h.cells ht
  obtain ⟨g0, g1, g2, g3, g4, g5⟩ := h.gcells
  have pf : wr.frozen? ⟨pub, t, none⟩ = false := h.pu.frozen t
  rw [hHv] at p0
  have gt0 : (0 : Int) ≤ (t : Int) := by omega
  have gt1 : (t : Int) < (n : Int) := by omega
  subst hk2
  have hm0 : 0 < m := by obtain ⟨a', m', c', e1, e2⟩ := hne; rw [hHv] at e1; injection e1 with _ e1 _; omega
  have gm : (0 : Int) < (m : Int) := by omega
  clear h hl ht hm hk hk2' hk3 hk7 hhd hkm hown hxs hxc hmm hHv hne hn
  go_enter Tryz.func8, Tryz.ntmps8
  go_upto_region 5 with (go_at_call 16; refine (HHEAD.out _).mono ?_; rintro e v1 ⟨rfl, rfl⟩)
  obtain ⟨W1, hW1⟩ : ∃ W, wr.setCell ⟨pub, t, none⟩ (.bool true) = W := ⟨_, rfl⟩
  have H1 := HH.out.setPu t true
  rw [hW1] at H1
  have hdd1 : ∀ r cc u, (u = 50 ∨ u = 3 ∨ u = 39) → Blk wr r cc u → Blk W1 r cc u := fun r cc u hu hb => by rw [← hW1]; rcases hu with rfl | rfl | rfl <;> exact hb.rowT HH.out.pu (by decide) (only_at wr pub t (.bool true))
  have HDD := Lib.hid hdd1
  clear hdd1
  rw [hW1]
  have HH1 := Lib.hid H1
  clear hW1 p0 p2 pf g0 g1 g2 g3 g4 g5
  obtain ⟨⟨p0, -, p2⟩, -⟩ := H1.cells HT.out
  rw [upd_at] at p2
  rw [HHV.out] at p0
  obtain ⟨g0, g1, g2, g3, g4, g5⟩ := H1.gcells
  have m2 : W1.cell? ⟨bb, 2, none⟩ = some (.int .i64 P) := H1.sc.both.mem.head.cell 2
  have m3 : W1.cell? ⟨bb, 3, none⟩ = some (.int .i64 T) := H1.sc.both.mem.head.cell 3
  clear H1
  obtain ⟨ys, hown, hys, hyc⟩ := HH.out.hands t HT.out
  rw [HHV.out] at hown
  obtain ⟨hg, hga, hlen, hcap, hcm⟩ : ∃ hg, a = some ⟨hg, 0, none⟩ ∧ ys.length = m ∧ m ≤ cap ∧ cap ≤ maxLen := by
    rcases hown.2 with ⟨e1, e2⟩ | ⟨g, cp, cur, e1, e2, e3, e4, e5, e6⟩
    · injection e1 with _ e1 _; omega
    · injection e1 with e1 e7 e8; subst e8; exact ⟨g, e1, e7.symm, by omega, e5⟩
  subst hga
  obtain ⟨j, hj⟩ : ∃ j, m = j + 1 := ⟨m - 1, by omega⟩
  obtain ⟨pg, hpg⟩ : ∃ pg, ys[j]? = some pg := ⟨_, List.getElem?_eq_getElem (by omega)⟩
  have hpb := hys pg (List.mem_of_getElem? hpg)
  have hc0 : wr.cell? ⟨hg, j, none⟩ = some (.int .i64 pg) := by
    have := World.ownsRow.cells hown (g := hg) rfl j (.int .i64 pg) (by rw [List.getElem?_map, hpg]; rfl)
    by_cases e : j = 0
    · subst e; simpa [Addr.add] using this
    · simpa [Addr.add, e] using this
  obtain ⟨cc9, hbl9⟩ := ownsRow_blk hown (g := hg) rfl
  have hbl91 := HDD.out hg cc9 _ (.inr (.inl rfl)) hbl9
  have hc9 : W1.cell? ⟨hg, j, none⟩ = some (.int .i64 pg) := by rw [hbl91.cell j, ← hbl9.cell j]; exact hc0
  have HC0 := Lib.hid hc0
  have wj : IntKind.i64.wrap ((m : Int) - 1) = (j : Int) := by rw [IntKind.wrap_i64]; unfold maxLen at hcm; omega
  have gj0 : (0 : Int) ≤ (j : Int) := by omega
  have gj1 : (j : Int) < (m : Int) := by omega
  have gj2 : (j : Int) ≤ (cap : Int) := by omega
  have HPB := Lib.hid hpb
  have HOWN1 := Lib.hid (And.intro hbl91 (And.intro hys (And.intro hyc (And.intro hlen (And.intro hj (And.intro hpg hcap))))))
  clear hown hys hyc hlen hcap hcm hj hpg hpb hc0 hbl9 hbl91
  go_upto_region 6 with fail
  refine wp_region_held_drew (S := (fun V => V.cell? ⟨gb, 1, none⟩ = some (.pointer (some ⟨bb, 0, none⟩)) ∧ V.cell? ⟨gb, 3, none⟩ = some (.slice (some ⟨mb, 0, none⟩) n n) ∧ V.cell? ⟨bb, 2, none⟩ = some (.int .i64 P) ∧ V.cell? ⟨bb, 3, none⟩ = some (.int .i64 T) ∧ V.cell? ⟨hg, j, none⟩ = some (.int .i64 pg))) (by kernel_rfl) ⟨g1, g3, m2, m3, hc9⟩ (fun hHeld => ?_)
  refine wpAnyH_take (i := 0) (v := (.pointer (some ⟨gb, 0, none⟩))) rfl (by kernel_rfl) (by kernel_rfl) (by kernel_rfl) (fun _ _ _ h => h) (Or.inl ⟨by rfl, fun W hS => by first | rfl | (go_simp; done)⟩) hHeld ?_
  try simp only [Act.put, List.getElem_toArray, List.getElem_cons_succ, List.getElem_cons_zero, List.setIfInBounds_toArray, List.set_cons_zero, List.set_cons_succ]
  refine wpAnyH_take (i := 1) (v := (.pointer (some ⟨gb, 0, none⟩))) rfl (by kernel_rfl) (by kernel_rfl) (by kernel_rfl) (fun _ _ _ h => h) (Or.inl ⟨by rfl, fun W hS => by first | rfl | (go_simp; done)⟩) hHeld ?_
  try simp only [Act.put, List.getElem_toArray, List.getElem_cons_succ, List.getElem_cons_zero, List.setIfInBounds_toArray, List.set_cons_zero, List.set_cons_succ]
  refine wpAnyH_take (i := 2) (v := (.pointer (some ⟨gb, 3, none⟩))) rfl (by kernel_rfl) (by kernel_rfl) (by kernel_rfl) (fun _ _ _ h => h) (Or.inl ⟨by rfl, fun W hS => by first | rfl | (go_simp; done)⟩) hHeld ?_
  try simp only [Act.put, List.getElem_toArray, List.getElem_cons_succ, List.getElem_cons_zero, List.setIfInBounds_toArray, List.set_cons_zero, List.set_cons_succ]
  refine wpAnyH_take (i := 3) (v := (.slice (some ⟨mb, 0, none⟩) n n)) rfl (by kernel_rfl) (by kernel_rfl) (by kernel_rfl) (fun _ _ _ h => h) (Or.inl ⟨by rfl, fun W hS => by (obtain ⟨q1, q2, q3, q4, q5⟩ := hS; go_simp; done)⟩) hHeld ?_
  try simp only [Act.put, List.getElem_toArray, List.getElem_cons_succ, List.getElem_cons_zero, List.setIfInBounds_toArray, List.set_cons_zero, List.set_cons_succ]
  refine wpAnyH_take (i := 4) (v := (.int .i64 (t : Int))) rfl (by kernel_rfl) (by kernel_rfl) (by kernel_rfl) (fun _ _ _ h => h) (Or.inl ⟨by rfl, fun W hS => by first | rfl | (go_simp; done)⟩) hHeld ?_
  try simp only [Act.put, List.getElem_toArray, List.getElem_cons_succ, List.getElem_cons_zero, List.setIfInBounds_toArray, List.set_cons_zero, List.set_cons_succ]
  refine wpAnyH_take (i := 5) (v := (.pointer (some ⟨gb, 0, none⟩))) rfl (by kernel_rfl) (by kernel_rfl) (by kernel_rfl) (fun _ _ _ h => h) (Or.inl ⟨by rfl, fun W hS => by first | rfl | (go_simp; done)⟩) hHeld ?_
  try simp only [Act.put, List.getElem_toArray, List.getElem_cons_succ, List.getElem_cons_zero, List.setIfInBounds_toArray, List.set_cons_zero, List.set_cons_succ]
  refine wpAnyH_take (i := 6) (v := (.pointer (some ⟨gb, 0, none⟩))) rfl (by kernel_rfl) (by kernel_rfl) (by kernel_rfl) (fun _ _ _ h => h) (Or.inl ⟨by rfl, fun W hS => by first | rfl | (go_simp; done)⟩) hHeld ?_
  try simp only [Act.put, List.getElem_toArray, List.getElem_cons_succ, List.getElem_cons_zero, List.setIfInBounds_toArray, List.set_cons_zero, List.set_cons_succ]
  refine wpAnyH_take (i := 7) (v := (.pointer (some ⟨gb, 1, none⟩))) rfl (by kernel_rfl) (by kernel_rfl) (by kernel_rfl) (fun _ _ _ h => h) (Or.inl ⟨by rfl, fun W hS => by first | rfl | (go_simp; done)⟩) hHeld ?_
  try simp only [Act.put, List.getElem_toArray, List.getElem_cons_succ, List.getElem_cons_zero, List.setIfInBounds_toArray, List.set_cons_zero, List.set_cons_succ]
  refine wpAnyH_take (i := 8) (v := (.pointer (some ⟨bb, 0, none⟩))) rfl (by kernel_rfl) (by kernel_rfl) (by kernel_rfl) (fun _ _ _ h => h) (Or.inl ⟨by rfl, fun W hS => by (obtain ⟨q1, q2, q3, q4, q5⟩ := hS; go_simp; done)⟩) hHeld ?_
  try simp only [Act.put, List.getElem_toArray, List.getElem_cons_succ, List.getElem_cons_zero, List.setIfInBounds_toArray, List.set_cons_zero, List.set_cons_succ]
  refine wpAnyH_take (i := 9) (v := (.pointer (some ⟨bb, 0, none⟩))) rfl (by kernel_rfl) (by kernel_rfl) (by kernel_rfl) (fun _ _ _ h => h) (Or.inl ⟨by rfl, fun W hS => by first | rfl | (go_simp; done)⟩) hHeld ?_
  try simp only [Act.put, List.getElem_toArray, List.getElem_cons_succ, List.getElem_cons_zero, List.setIfInBounds_toArray, List.set_cons_zero, List.set_cons_succ]
  refine wpAnyH_take (i := 10) (v := (.pointer (some ⟨bb, 2, none⟩))) rfl (by kernel_rfl) (by kernel_rfl) (by kernel_rfl) (fun _ _ _ h => h) (Or.inl ⟨by rfl, fun W hS => by first | rfl | (go_simp; done)⟩) hHeld ?_
  try simp only [Act.put, List.getElem_toArray, List.getElem_cons_succ, List.getElem_cons_zero, List.setIfInBounds_toArray, List.set_cons_zero, List.set_cons_succ]
  refine wpAnyH_take (i := 11) (v := (.agg #[.int .i64 P, .int .i64 T])) rfl (by kernel_rfl) (by kernel_rfl) (by kernel_rfl) (fun _ _ _ h => h) (Or.inl ⟨by rfl, fun W hS => by (obtain ⟨q1, q2, q3, q4, q5⟩ := hS; go_simp; done)⟩) hHeld ?_
  try simp only [Act.put, List.getElem_toArray, List.getElem_cons_succ, List.getElem_cons_zero, List.setIfInBounds_toArray, List.set_cons_zero, List.set_cons_succ]
  refine wpAnyH_take (i := 12) (v := (.int .i64 hd)) rfl (by kernel_rfl) (by kernel_rfl) (by kernel_rfl) (fun _ _ _ h => h) (Or.inl ⟨by rfl, fun W hS => by first | rfl | (go_simp; done)⟩) hHeld ?_
  try simp only [Act.put, List.getElem_toArray, List.getElem_cons_succ, List.getElem_cons_zero, List.setIfInBounds_toArray, List.set_cons_zero, List.set_cons_succ]
  refine wpAnyH_take (i := 13) (v := (.slice (some ⟨hg, 0, none⟩) m cap)) rfl (by kernel_rfl) (by kernel_rfl) (by kernel_rfl) (fun _ _ _ h => h) (Or.inl ⟨by rfl, fun W hS => by first | rfl | (go_simp; done)⟩) hHeld ?_
  try simp only [Act.put, List.getElem_toArray, List.getElem_cons_succ, List.getElem_cons_zero, List.setIfInBounds_toArray, List.set_cons_zero, List.set_cons_succ]
  refine wpAnyH_take (i := 14) (v := (.slice (some ⟨hg, 0, none⟩) m cap)) rfl (by kernel_rfl) (by kernel_rfl) (by kernel_rfl) (fun _ _ _ h => h) (Or.inl ⟨by rfl, fun W hS => by first | rfl | (go_simp; done)⟩) hHeld ?_
  try simp only [Act.put, List.getElem_toArray, List.getElem_cons_succ, List.getElem_cons_zero, List.setIfInBounds_toArray, List.set_cons_zero, List.set_cons_succ]
  refine wpAnyH_take (i := 15) (v := (.int .i64 (m : Int))) rfl (by kernel_rfl) (by kernel_rfl) (by kernel_rfl) (fun _ _ _ h => h) (Or.inl ⟨by rfl, fun W hS => by first | rfl | (go_simp; done)⟩) hHeld ?_
  try simp only [Act.put, List.getElem_toArray, List.getElem_cons_succ, List.getElem_cons_zero, List.setIfInBounds_toArray, List.set_cons_zero, List.set_cons_succ]
  refine wpAnyH_take (i := 16) (v := (.int .i64 (j : Int))) rfl (by kernel_rfl) (by kernel_rfl) (by kernel_rfl) (fun _ _ _ h => h) (Or.inl ⟨by rfl, fun W hS => by first | rfl | (go_simp; done)⟩) hHeld ?_
  try simp only [Act.put, List.getElem_toArray, List.getElem_cons_succ, List.getElem_cons_zero, List.setIfInBounds_toArray, List.set_cons_zero, List.set_cons_succ]
  refine wpAnyH_take (i := 17) (v := (.pointer (some ⟨hg, j, none⟩))) rfl (by kernel_rfl) (by kernel_rfl) (by kernel_rfl) (fun _ _ _ h => h) (Or.inl ⟨by rfl, fun W hS => by first | rfl | (go_simp; done)⟩) hHeld ?_
  try simp only [Act.put, List.getElem_toArray, List.getElem_cons_succ, List.getElem_cons_zero, List.setIfInBounds_toArray, List.set_cons_zero, List.set_cons_succ]
  refine wpAnyH_take (i := 18) (v := (.int .i64 pg)) rfl (by kernel_rfl) (by kernel_rfl) (by kernel_rfl) (fun _ _ _ h => h) (Or.inl ⟨by rfl, fun W hS => by (obtain ⟨q1, q2, q3, q4, q5⟩ := hS; go_simp; done)⟩) hHeld ?_
  try simp only [Act.put, List.getElem_toArray, List.getElem_cons_succ, List.getElem_cons_zero, List.setIfInBounds_toArray, List.set_cons_zero, List.set_cons_succ]
  refine wpAnyH_ready (rs := [19]) (by kernel_rfl) (by simp) (AllReadyH.cons rfl (fun K hK => ?_) AllReadyH.nil)
  simp only [List.getElem_toArray, List.getElem_cons_succ, List.getElem_cons_zero]
  go_simp
  refine (madePush_any HM.out HD3.out HPB.out.1 HPB.out.2).mono ?_
  rintro e v1 ⟨p, bq, y, rfl, a1, a2, a3, a4, a5, a6⟩
  have HMD := Lib.hid (And.intro a1 (And.intro a2 (And.intro a3 (And.intro a4 (And.intro a5 a6)))))
  refine hK.out _ _ ⟨cellA hHeld.1 a4, cellA hHeld.2.1 a4, cellA hHeld.2.2.1 a4, cellA hHeld.2.2.2.1 a4, cellA hHeld.2.2.2.2 a4⟩ (fun hHeld => ?_)
  clear hK K
  try simp only [Act.put, List.getElem_toArray, List.getElem_cons_succ, List.getElem_cons_zero, List.setIfInBounds_toArray, List.set_cons_zero, List.set_cons_succ]
  clear a1 a2 a3 a4 a5 a6
  refine wpAnyH_take (i := 20) (v := (.tuple #[(.agg #[.pointer none, .pointer (some ⟨p, 0, none⟩), .pointer (some ⟨bq, 0, none⟩)]), .bool true])) rfl (by kernel_rfl) (by kernel_rfl) (by kernel_rfl) (fun _ _ _ h => h) (Or.inl ⟨by rfl, fun W hS => by first | rfl | (go_simp; done)⟩) hHeld ?_
  try simp only [Act.put, List.getElem_toArray, List.getElem_cons_succ, List.getElem_cons_zero, List.setIfInBounds_toArray, List.set_cons_zero, List.set_cons_succ]
  refine wpAnyH_take (i := 21) (v := (.agg #[.pointer none, .pointer (some ⟨p, 0, none⟩), .pointer (some ⟨bq, 0, none⟩)])) rfl (by kernel_rfl) (by kernel_rfl) (by kernel_rfl) (fun _ _ _ h => h) (Or.inl ⟨by rfl, fun W hS => by first | rfl | (go_simp; done)⟩) hHeld ?_
  try simp only [Act.put, List.getElem_toArray, List.getElem_cons_succ, List.getElem_cons_zero, List.setIfInBounds_toArray, List.set_cons_zero, List.set_cons_succ]
  refine wpAnyH_take (i := 22) (v := (.bool true)) rfl (by kernel_rfl) (by kernel_rfl) (by kernel_rfl) (fun _ _ _ h => h) (Or.inl ⟨by rfl, fun W hS => by first | rfl | (go_simp; done)⟩) hHeld ?_
  try simp only [Act.put, List.getElem_toArray, List.getElem_cons_succ, List.getElem_cons_zero, List.setIfInBounds_toArray, List.set_cons_zero, List.set_cons_succ]
  refine wpAnyH_take (i := 23) (v := (.pointer (some ⟨mb, t * 3, none⟩))) rfl (by kernel_rfl) (by kernel_rfl) (by kernel_rfl) (fun _ _ _ h => h) (Or.inl ⟨by rfl, fun W hS => by first | rfl | (go_simp; done)⟩) hHeld ?_
  try simp only [Act.put, List.getElem_toArray, List.getElem_cons_succ, List.getElem_cons_zero, List.setIfInBounds_toArray, List.set_cons_zero, List.set_cons_succ]
  have hv1 := (HH1.out.add (((Only.refl (fun _ => False) W1).drew).thenF HMD.out.2.2.2.1)).begin (t := t) (z := ⟨p, .push hd pg (.inl .load), bq, y, .slice none 0 0, .slice none 0 0, .pointer none⟩) (w0 := W1) HH1.out.sc.lanes HH1.out.sc.adds.size HMD.out.1 HMD.out.2.1 rfl HMD.out.2.2.2.2.1 HMD.out.2.2.2.2.2
  obtain ⟨-, e0, e1, e2⟩ := hv1.cells HT.out
  have f0 := hv1.mm.frozen (t * 3); have f1 := hv1.mm.frozen (t * 3 + 1); have f2 := hv1.mm.frozen (t * 3 + 2)
  have HV1 := Lib.hid hv1
  clear hv1
  refine wpAnyH_ready (rs := [24]) (by kernel_rfl) (by simp) (AllReadyH.cons rfl (fun K hK => ?_) AllReadyH.nil)
  simp only [List.getElem_toArray, List.getElem_cons_succ, List.getElem_cons_zero]
  rw [if_pos (by rfl)]
  go_simp
  obtain ⟨W2, hW2⟩ : ∃ W, ((v1.setCell ⟨mb, t * 3, none⟩ (.pointer none)).setCell ⟨mb, t * 3 + 1, none⟩ (.pointer (some ⟨p, 0, none⟩))).setCell ⟨mb, t * 3 + 2, none⟩ (.pointer (some ⟨bq, 0, none⟩)) = W := ⟨_, rfl⟩
  have h2 := ((HV1.out.setM1 (t * 3) (.pointer none)).setM1 (t * 3 + 1) (.pointer (some ⟨p, 0, none⟩))).setM1 (t * 3 + 2) (.pointer (some ⟨bq, 0, none⟩))
  have ho2 : Only (· = mb) v1 W2 := by rw [← hW2]; exact ((only_at v1 mb (t * 3) (.pointer none)).setCell (p := ⟨mb, t * 3 + 1, none⟩) (.inl rfl) (.pointer (some ⟨p, 0, none⟩))).setCell (p := ⟨mb, t * 3 + 2, none⟩) (.inl rfl) (.pointer (some ⟨bq, 0, none⟩))
  rw [hW2] at h2
  rw [hW2]
  have hdd2 : ∀ r cc u, (u = 50 ∨ u = 3 ∨ u = 39) → Blk wr r cc u → Blk W2 r cc u := fun r cc u hu hb => by
    have hb := (HDD.out r cc u hu hb).only (((Only.refl (fun _ => False) W1).drew).thenF HMD.out.2.2.2.1) id
    rcases hu with rfl | rfl | rfl <;> exact hb.rowT HV1.out.mm (by decide) ho2
  replace HDD := Lib.hid hdd2
  clear hdd2
  have HW2 := Lib.hid h2
  clear e0 e1 e2 f0 f1 f2 hW2
  have hgm : hg ≠ mb := fun e => by
    have hb9 := HOWN1.out.1
    have hb8 := HH1.out.mm
    rw [e] at hb9
    have := (hb9.uniq hb8).2; revert this; decide
  refine hK.out _ _ ⟨h2.gcells.2.1, h2.gcells.2.2.2.1, h2.sc.both.mem.head.cell 2, h2.sc.both.mem.head.cell 3, cellO ho2 hgm hHeld.2.2.2.2⟩ (fun hHeld => ?_)
  clear hK ho2 hgm
  try simp only [Act.put, List.getElem_toArray, List.getElem_cons_succ, List.getElem_cons_zero, List.setIfInBounds_toArray, List.set_cons_zero, List.set_cons_succ]
  refine wpAnyH_take (i := 25) (v := (.bool true)) rfl (by kernel_rfl) (by kernel_rfl) (by kernel_rfl) (fun _ _ _ h => h) (Or.inl ⟨by rfl, fun W hS => by first | rfl | (go_simp; done)⟩) hHeld ?_
  try simp only [Act.put, List.getElem_toArray, List.getElem_cons_succ, List.getElem_cons_zero, List.setIfInBounds_toArray, List.set_cons_zero, List.set_cons_succ]
  refine wpAnyH_done (by kernel_rfl) ?_ _
  have y2 := h2.gcells.2.2.1; have y3 := (h2.cells HT.out).1.1; have yf := h2.hv.frozen t
  rw [HHV.out] at y3
  clear h2 g0 g1 g2 g3 g4 g5 p0 p2 m2 m3 hc9
  go_upto_region 7 with fail
  refine wp_region_held_drew (S := (fun V => V.cell? ⟨gb, 2, none⟩ = some (.slice (some ⟨hvb, 0, none⟩) n n))) (by kernel_rfl) y2 (fun hHeld => ?_)
  refine wpAnyH_take (i := 0) (v := (.pointer (some ⟨gb, 0, none⟩))) rfl (by kernel_rfl) (by kernel_rfl) (by kernel_rfl) (fun _ _ _ h => h) (Or.inl ⟨by rfl, fun W hS => by first | rfl | (go_simp; done)⟩) hHeld ?_
  try simp only [Act.put, List.getElem_toArray, List.getElem_cons_succ, List.getElem_cons_zero, List.setIfInBounds_toArray, List.set_cons_zero, List.set_cons_succ]
  refine wpAnyH_take (i := 1) (v := (.pointer (some ⟨gb, 0, none⟩))) rfl (by kernel_rfl) (by kernel_rfl) (by kernel_rfl) (fun _ _ _ h => h) (Or.inl ⟨by rfl, fun W hS => by first | rfl | (go_simp; done)⟩) hHeld ?_
  try simp only [Act.put, List.getElem_toArray, List.getElem_cons_succ, List.getElem_cons_zero, List.setIfInBounds_toArray, List.set_cons_zero, List.set_cons_succ]
  refine wpAnyH_take (i := 2) (v := (.pointer (some ⟨gb, 2, none⟩))) rfl (by kernel_rfl) (by kernel_rfl) (by kernel_rfl) (fun _ _ _ h => h) (Or.inl ⟨by rfl, fun W hS => by first | rfl | (go_simp; done)⟩) hHeld ?_
  try simp only [Act.put, List.getElem_toArray, List.getElem_cons_succ, List.getElem_cons_zero, List.setIfInBounds_toArray, List.set_cons_zero, List.set_cons_succ]
  refine wpAnyH_take (i := 3) (v := (.slice (some ⟨hvb, 0, none⟩) n n)) rfl (by kernel_rfl) (by kernel_rfl) (by kernel_rfl) (fun _ _ _ h => h) (Or.inl ⟨by rfl, fun W hS => by (obtain q1 := hS; go_simp; done)⟩) hHeld ?_
  try simp only [Act.put, List.getElem_toArray, List.getElem_cons_succ, List.getElem_cons_zero, List.setIfInBounds_toArray, List.set_cons_zero, List.set_cons_succ]
  refine wpAnyH_take (i := 4) (v := (.int .i64 (t : Int))) rfl (by kernel_rfl) (by kernel_rfl) (by kernel_rfl) (fun _ _ _ h => h) (Or.inl ⟨by rfl, fun W hS => by first | rfl | (go_simp; done)⟩) hHeld ?_
  try simp only [Act.put, List.getElem_toArray, List.getElem_cons_succ, List.getElem_cons_zero, List.setIfInBounds_toArray, List.set_cons_zero, List.set_cons_succ]
  refine wpAnyH_take (i := 5) (v := (.slice (some ⟨hg, 0, none⟩) m cap)) rfl (by kernel_rfl) (by kernel_rfl) (by kernel_rfl) (fun _ _ _ h => h) (Or.inl ⟨by rfl, fun W hS => by first | rfl | (go_simp; done)⟩) hHeld ?_
  try simp only [Act.put, List.getElem_toArray, List.getElem_cons_succ, List.getElem_cons_zero, List.setIfInBounds_toArray, List.set_cons_zero, List.set_cons_succ]
  refine wpAnyH_take (i := 6) (v := (.slice (some ⟨hg, 0, none⟩) m cap)) rfl (by kernel_rfl) (by kernel_rfl) (by kernel_rfl) (fun _ _ _ h => h) (Or.inl ⟨by rfl, fun W hS => by first | rfl | (go_simp; done)⟩) hHeld ?_
  try simp only [Act.put, List.getElem_toArray, List.getElem_cons_succ, List.getElem_cons_zero, List.setIfInBounds_toArray, List.set_cons_zero, List.set_cons_succ]
  refine wpAnyH_take (i := 7) (v := (.int .i64 (m : Int))) rfl (by kernel_rfl) (by kernel_rfl) (by kernel_rfl) (fun _ _ _ h => h) (Or.inl ⟨by rfl, fun W hS => by first | rfl | (go_simp; done)⟩) hHeld ?_
  try simp only [Act.put, List.getElem_toArray, List.getElem_cons_succ, List.getElem_cons_zero, List.setIfInBounds_toArray, List.set_cons_zero, List.set_cons_succ]
  refine wpAnyH_take (i := 8) (v := (.int .i64 (j : Int))) rfl (by kernel_rfl) (by kernel_rfl) (by kernel_rfl) (fun _ _ _ h => h) (Or.inl ⟨by rfl, fun W hS => by first | rfl | (go_simp; done)⟩) hHeld ?_
  try simp only [Act.put, List.getElem_toArray, List.getElem_cons_succ, List.getElem_cons_zero, List.setIfInBounds_toArray, List.set_cons_zero, List.set_cons_succ]
  refine wpAnyH_take (i := 9) (v := (.slice (some ⟨hg, 0, none⟩) j cap)) rfl (by kernel_rfl) (by kernel_rfl) (by kernel_rfl) (fun _ _ _ h => h) (Or.inl ⟨by rfl, fun W hS => by first | rfl | (go_simp; done)⟩) hHeld ?_
  try simp only [Act.put, List.getElem_toArray, List.getElem_cons_succ, List.getElem_cons_zero, List.setIfInBounds_toArray, List.set_cons_zero, List.set_cons_succ]
  refine wpAnyH_take (i := 10) (v := (.pointer (some ⟨hvb, t, none⟩))) rfl (by kernel_rfl) (by kernel_rfl) (by kernel_rfl) (fun _ _ _ h => h) (Or.inl ⟨by rfl, fun W hS => by first | rfl | (go_simp; done)⟩) hHeld ?_
  try simp only [Act.put, List.getElem_toArray, List.getElem_cons_succ, List.getElem_cons_zero, List.setIfInBounds_toArray, List.set_cons_zero, List.set_cons_succ]
  refine wpAnyH_ready (rs := [11]) (by kernel_rfl) (by simp) (AllReadyH.cons rfl (fun K hK => ?_) AllReadyH.nil)
  simp only [List.getElem_toArray, List.getElem_cons_succ, List.getElem_cons_zero]
  rw [if_pos (by rfl)]
  go_simp
  obtain ⟨W3, hW3⟩ : ∃ W, (W2.setCell ⟨hvb, t, none⟩ (.slice (some ⟨hg, 0, none⟩) j cap)).drew = W := ⟨_, rfl⟩
  have h3 := (HW2.out.setHv t (HandOk.pop (a := some ⟨hg, 0, none⟩) (m := m) (by have := HW2.out.hands t HT.out; rw [HHV.out] at this; exact this) HOWN1.out.2.2.2.2.1)).add ((Only.refl (fun _ => False) _).drew)
  have hdd3 : ∀ r cc u, (u = 50 ∨ u = 3 ∨ u = 39) → Blk wr r cc u → Blk W3 r cc u := fun r cc u hu hb => by
    have hb := HDD.out r cc u hu hb
    rw [← hW3]
    rcases hu with rfl | rfl | rfl <;> exact (hb.rowT HW2.out.hv (by decide) (only_at W2 hvb t _)).only ((Only.refl (fun _ => False) _).drew) id
  replace HDD := Lib.hid hdd3
  clear hdd3
  rw [hW3] at h3
  rw [hW3]
  refine hK.out _ _ h3.gcells.2.2.1 (fun hHeld => ?_)
  clear hK
  try simp only [Act.put, List.getElem_toArray, List.getElem_cons_succ, List.getElem_cons_zero, List.setIfInBounds_toArray, List.set_cons_zero, List.set_cons_succ]
  refine wpAnyH_done (by kernel_rfl) ?_ _
  have HW3 := Lib.hid h3; have y4 := h3.gcells.2.2.2.2.1; have y5 := (h3.cells HT.out).1.2.1; have yg := h3.on.frozen t
  clear h3
  go_wp2_with fail
  go_ret
  exact ⟨⟨rfl, fun r cc u hu hb => by
    have hb := HDD.out r cc u hu hb
    rcases hu with rfl | rfl | rfl <;> exact hb.rowT HW3.out.on (by decide) (only_at _ onb t _)⟩, ⟨p, .push hd pg (.inl .load), bq, y, .slice none 0 0, .slice none 0 0, .pointer none⟩, _, _, _, _, HW3.out.setOn t true, Lnk.begin (z := ⟨p, .push hd pg (.inl .load), bq, y, .slice none 0 0, .slice none 0 0, .pointer none⟩) HLK.out, HMD.out.2.2.1, ⟨HD3.out, HPB.out⟩, .inr ⟨hg, j, cap, hd, pg, by rw [HHV.out, HOWN1.out.2.2.2.2.1], rfl, rfl, HC0.out⟩⟩
set_option maxRecDepth 100000 in
set_option maxHeartbeats 4000000 in
theorem begin_pop (h : GH w ab sb sm rb rg bb tb tm ub fb gb hvb mb onb pub n P T c wr s s' L Hv Mc On Pu) (hl : Lnk n L Mc On Pu) (ht : t < n) (hm : Lay.may P T = true) (hk : 0 ≤ k ∧ k < 256) (hn : n ≤ 4096) (hc : c ≤ 100000) (hk2 : ¬ (k % 2 = 0 ∧ ∃ a m cap, Hv t = .slice a m cap ∧ 0 < m)) :
    Calls Tryz.prog 8 #[.pointer (some ⟨gb, 0, none⟩), .int .i64 (t : Int), .int .i64 k] wr (BegQ w ab sb sm rb rg bb tb tm ub fb gb hvb mb onb pub n P T c wr s s' L Hv t) := by
  obtain ⟨k2, hk2'⟩ : ∃ q, k / 2 = q := ⟨_, rfl⟩
  have tk2 : Int.tdiv k 2 = k2 := by rw [Int.tdiv_eq_ediv_of_nonneg hk.1]; exact hk2'
  have wk2 : IntKind.i64.wrap k2 = k2 := by rw [IntKind.wrap_i64]; omega
  obtain ⟨k3, hk3⟩ : ∃ q, k2 % 3 = q := ⟨_, rfl⟩
  have tk3 : Int.tmod k2 3 = k3 := by rw [Int.tmod_eq_emod_of_nonneg (by omega)]; exact hk3
  have wk3 : IntKind.i64.wrap k3 = k3 := by rw [IntKind.wrap_i64]; omega
  obtain ⟨k7, hk7⟩ : ∃ q, k3 * 7 = q := ⟨_, rfl⟩
  have wk7 : IntKind.i64.wrap (k3 * 7) = k7 := by rw [hk7, IntKind.wrap_i64]; omega
  obtain ⟨hd, hhd⟩ : ∃ q, 8 + k7 % 60 = q := ⟨_, rfl⟩
  have HD3 := Lib.hid (show Hd3 hd by
    have h3 : k3 = 0 ∨ k3 = 1 ∨ k3 = 2 := by omega
    have h7 : k7 % 60 = k7 := Int.emod_eq_of_lt (by omega) (by omega)
    unfold Hd3
    rcases h3 with rfl | rfl | rfl <;> omega)
  have HHEAD : Hid (∀ W, Calls Tryz.prog 16 #[.int .i64 k7] W fun e w' => e = .returned (.int .i64 hd) ∧ W = w') := Lib.hid (fun W => by rw [← hhd]; exact playHead_any k7 W (by omega))
  obtain ⟨km, hkm⟩ : ∃ q, k % 2 = q := ⟨_, rfl⟩
  have tkm : Int.tmod k 2 = km := by rw [Int.tmod_eq_emod_of_nonneg hk.1]; exact hkm
  rw [hkm] at hk2
  have wkm : IntKind.i64.wrap km = km := by rw [IntKind.wrap_i64]; omega
  obtain ⟨xs, hown, hxs, hxc⟩ := h.hands t ht
  obtain ⟨a, cap, hHv⟩ := ownsRow_slice hown
  obtain ⟨m, hmm⟩ : ∃ q, xs.length = q := ⟨_, rfl⟩
  rw [hmm] at hHv
  have HH := Lib.hid h; have HLK := Lib.hid hl; have HM := Lib.hid hm; have HT := Lib.hid ht
  have HOWN := Lib.hid (And.intro hown (And.intro hxs (And.intro hxc hmm)))
  have HHV := Lib.hid hHv
  obtain ⟨⟨p0, -, p2⟩, -⟩ := h.cells ht
  obtain ⟨g0, g1, g2, g3, g4, g5⟩ := h.gcells
  have pf : wr.frozen? ⟨pub, t, none⟩ = false := h.pu.frozen t
  rw [hHv] at p0
  have gt0 : (0 : Int) ≤ (t : Int) := by omega
  have gt1 : (t : Int) < (n : Int) := by omega
  have hb : (¬ km = 0) ∨ (km = 0 ∧ m = 0) := by
    rcases Nat.eq_zero_or_pos m with h0 | h0
    · by_cases e : km = 0
      · exact .inr ⟨e, h0⟩
      · exact .inl e
    · exact .inl (fun e => hk2 ⟨e, a, m, cap, hHv, h0⟩)
  clear h hl ht hm hk hk2' hk3 hk7 hhd hkm hown hxs hxc hmm hHv hk2 hn
  go_enter Tryz.func8, Tryz.ntmps8
  rcases hb with hb | ⟨rfl, rfl⟩
  · go_upto_region 5 with (go_at_call 16; refine (HHEAD.out _).mono ?_; rintro e v1 ⟨rfl, rfl⟩)
    obtain ⟨W1, hW1⟩ : ∃ W, wr.setCell ⟨pub, t, none⟩ (.bool false) = W := ⟨_, rfl⟩
    have H1 := HH.out.setPu t false
    rw [hW1] at H1
    have hdd1 : ∀ r cc u, (u = 50 ∨ u = 3 ∨ u = 39) → Blk wr r cc u → Blk W1 r cc u := fun r cc u hu hb => by rw [← hW1]; rcases hu with rfl | rfl | rfl <;> exact hb.rowT HH.out.pu (by decide) (only_at wr pub t (.bool false))
    have HDD := Lib.hid hdd1
    clear hdd1
    rw [hW1]
    have HH1 := Lib.hid H1
    clear hW1 p0 p2 pf g0 g1 g2 g3 g4 g5
    obtain ⟨⟨p0, -, p2⟩, -⟩ := H1.cells HT.out
    rw [upd_at] at p2
    rw [HHV.out] at p0
    obtain ⟨g0, g1, g2, g3, g4, g5⟩ := H1.gcells
    have m2 : W1.cell? ⟨bb, 2, none⟩ = some (.int .i64 P) := H1.sc.both.mem.head.cell 2
    have m3 : W1.cell? ⟨bb, 3, none⟩ = some (.int .i64 T) := H1.sc.both.mem.head.cell 3
    clear H1
    go_upto_region 8 with fail
    refine wp_region_held_drew (S := (fun V => V.cell? ⟨gb, 1, none⟩ = some (.pointer (some ⟨bb, 0, none⟩)) ∧ V.cell? ⟨gb, 3, none⟩ = some (.slice (some ⟨mb, 0, none⟩) n n) ∧ V.cell? ⟨bb, 2, none⟩ = some (.int .i64 P) ∧ V.cell? ⟨bb, 3, none⟩ = some (.int .i64 T))) (by kernel_rfl) ⟨g1, g3, m2, m3⟩ (fun hHeld => ?_)
    refine wpAnyH_take (i := 0) (v := (.pointer (some ⟨gb, 0, none⟩))) rfl (by kernel_rfl) (by kernel_rfl) (by kernel_rfl) (fun _ _ _ h => h) (Or.inl ⟨by rfl, fun W hS => by first | rfl | (go_simp; done)⟩) hHeld ?_
    try simp only [Act.put, List.getElem_toArray, List.getElem_cons_succ, List.getElem_cons_zero, List.setIfInBounds_toArray, List.set_cons_zero, List.set_cons_succ]
    refine wpAnyH_take (i := 1) (v := (.pointer (some ⟨gb, 0, none⟩))) rfl (by kernel_rfl) (by kernel_rfl) (by kernel_rfl) (fun _ _ _ h => h) (Or.inl ⟨by rfl, fun W hS => by first | rfl | (go_simp; done)⟩) hHeld ?_
    try simp only [Act.put, List.getElem_toArray, List.getElem_cons_succ, List.getElem_cons_zero, List.setIfInBounds_toArray, List.set_cons_zero, List.set_cons_succ]
    refine wpAnyH_take (i := 2) (v := (.pointer (some ⟨gb, 3, none⟩))) rfl (by kernel_rfl) (by kernel_rfl) (by kernel_rfl) (fun _ _ _ h => h) (Or.inl ⟨by rfl, fun W hS => by first | rfl | (go_simp; done)⟩) hHeld ?_
    try simp only [Act.put, List.getElem_toArray, List.getElem_cons_succ, List.getElem_cons_zero, List.setIfInBounds_toArray, List.set_cons_zero, List.set_cons_succ]
    refine wpAnyH_take (i := 3) (v := (.slice (some ⟨mb, 0, none⟩) n n)) rfl (by kernel_rfl) (by kernel_rfl) (by kernel_rfl) (fun _ _ _ h => h) (Or.inl ⟨by rfl, fun W hS => by (obtain ⟨q1, q2, q3, q4⟩ := hS; go_simp; done)⟩) hHeld ?_
    try simp only [Act.put, List.getElem_toArray, List.getElem_cons_succ, List.getElem_cons_zero, List.setIfInBounds_toArray, List.set_cons_zero, List.set_cons_succ]
    refine wpAnyH_take (i := 4) (v := (.int .i64 (t : Int))) rfl (by kernel_rfl) (by kernel_rfl) (by kernel_rfl) (fun _ _ _ h => h) (Or.inl ⟨by rfl, fun W hS => by first | rfl | (go_simp; done)⟩) hHeld ?_
    try simp only [Act.put, List.getElem_toArray, List.getElem_cons_succ, List.getElem_cons_zero, List.setIfInBounds_toArray, List.set_cons_zero, List.set_cons_succ]
    refine wpAnyH_take (i := 5) (v := (.pointer (some ⟨gb, 0, none⟩))) rfl (by kernel_rfl) (by kernel_rfl) (by kernel_rfl) (fun _ _ _ h => h) (Or.inl ⟨by rfl, fun W hS => by first | rfl | (go_simp; done)⟩) hHeld ?_
    try simp only [Act.put, List.getElem_toArray, List.getElem_cons_succ, List.getElem_cons_zero, List.setIfInBounds_toArray, List.set_cons_zero, List.set_cons_succ]
    refine wpAnyH_take (i := 6) (v := (.pointer (some ⟨gb, 0, none⟩))) rfl (by kernel_rfl) (by kernel_rfl) (by kernel_rfl) (fun _ _ _ h => h) (Or.inl ⟨by rfl, fun W hS => by first | rfl | (go_simp; done)⟩) hHeld ?_
    try simp only [Act.put, List.getElem_toArray, List.getElem_cons_succ, List.getElem_cons_zero, List.setIfInBounds_toArray, List.set_cons_zero, List.set_cons_succ]
    refine wpAnyH_take (i := 7) (v := (.pointer (some ⟨gb, 1, none⟩))) rfl (by kernel_rfl) (by kernel_rfl) (by kernel_rfl) (fun _ _ _ h => h) (Or.inl ⟨by rfl, fun W hS => by first | rfl | (go_simp; done)⟩) hHeld ?_
    try simp only [Act.put, List.getElem_toArray, List.getElem_cons_succ, List.getElem_cons_zero, List.setIfInBounds_toArray, List.set_cons_zero, List.set_cons_succ]
    refine wpAnyH_take (i := 8) (v := (.pointer (some ⟨bb, 0, none⟩))) rfl (by kernel_rfl) (by kernel_rfl) (by kernel_rfl) (fun _ _ _ h => h) (Or.inl ⟨by rfl, fun W hS => by (obtain ⟨q1, q2, q3, q4⟩ := hS; go_simp; done)⟩) hHeld ?_
    try simp only [Act.put, List.getElem_toArray, List.getElem_cons_succ, List.getElem_cons_zero, List.setIfInBounds_toArray, List.set_cons_zero, List.set_cons_succ]
    refine wpAnyH_take (i := 9) (v := (.pointer (some ⟨bb, 0, none⟩))) rfl (by kernel_rfl) (by kernel_rfl) (by kernel_rfl) (fun _ _ _ h => h) (Or.inl ⟨by rfl, fun W hS => by first | rfl | (go_simp; done)⟩) hHeld ?_
    try simp only [Act.put, List.getElem_toArray, List.getElem_cons_succ, List.getElem_cons_zero, List.setIfInBounds_toArray, List.set_cons_zero, List.set_cons_succ]
    refine wpAnyH_take (i := 10) (v := (.pointer (some ⟨bb, 2, none⟩))) rfl (by kernel_rfl) (by kernel_rfl) (by kernel_rfl) (fun _ _ _ h => h) (Or.inl ⟨by rfl, fun W hS => by first | rfl | (go_simp; done)⟩) hHeld ?_
    try simp only [Act.put, List.getElem_toArray, List.getElem_cons_succ, List.getElem_cons_zero, List.setIfInBounds_toArray, List.set_cons_zero, List.set_cons_succ]
    refine wpAnyH_take (i := 11) (v := (.agg #[.int .i64 P, .int .i64 T])) rfl (by kernel_rfl) (by kernel_rfl) (by kernel_rfl) (fun _ _ _ h => h) (Or.inl ⟨by rfl, fun W hS => by (obtain ⟨q1, q2, q3, q4⟩ := hS; go_simp; done)⟩) hHeld ?_
    try simp only [Act.put, List.getElem_toArray, List.getElem_cons_succ, List.getElem_cons_zero, List.setIfInBounds_toArray, List.set_cons_zero, List.set_cons_succ]
    refine wpAnyH_take (i := 12) (v := (.int .i64 hd)) rfl (by kernel_rfl) (by kernel_rfl) (by kernel_rfl) (fun _ _ _ h => h) (Or.inl ⟨by rfl, fun W hS => by first | rfl | (go_simp; done)⟩) hHeld ?_
    try simp only [Act.put, List.getElem_toArray, List.getElem_cons_succ, List.getElem_cons_zero, List.setIfInBounds_toArray, List.set_cons_zero, List.set_cons_succ]
    refine wpAnyH_ready (rs := [13]) (by kernel_rfl) (by simp) (AllReadyH.cons rfl (fun K hK => ?_) AllReadyH.nil)
    simp only [List.getElem_toArray, List.getElem_cons_succ, List.getElem_cons_zero]
    go_simp
    refine (madePop_any HM.out HD3.out).mono ?_
    rintro e v1 ⟨p, bq, y, rfl, a1, a2, a3, a4, a5, a6⟩
    have HMD := Lib.hid (And.intro a1 (And.intro a2 (And.intro a3 (And.intro a4 (And.intro a5 a6)))))
    refine hK.out _ _ ⟨cellA hHeld.1 a4, cellA hHeld.2.1 a4, cellA hHeld.2.2.1 a4, cellA hHeld.2.2.2 a4⟩ (fun hHeld => ?_)
    clear hK K
    try simp only [Act.put, List.getElem_toArray, List.getElem_cons_succ, List.getElem_cons_zero, List.setIfInBounds_toArray, List.set_cons_zero, List.set_cons_succ]
    clear a1 a2 a3 a4 a5 a6
    refine wpAnyH_take (i := 14) (v := (.tuple #[(.agg #[.pointer (some ⟨p, 0, none⟩), .pointer none, .pointer (some ⟨bq, 0, none⟩)]), .bool true])) rfl (by kernel_rfl) (by kernel_rfl) (by kernel_rfl) (fun _ _ _ h => h) (Or.inl ⟨by rfl, fun W hS => by first | rfl | (go_simp; done)⟩) hHeld ?_
    try simp only [Act.put, List.getElem_toArray, List.getElem_cons_succ, List.getElem_cons_zero, List.setIfInBounds_toArray, List.set_cons_zero, List.set_cons_succ]
    refine wpAnyH_take (i := 15) (v := (.agg #[.pointer (some ⟨p, 0, none⟩), .pointer none, .pointer (some ⟨bq, 0, none⟩)])) rfl (by kernel_rfl) (by kernel_rfl) (by kernel_rfl) (fun _ _ _ h => h) (Or.inl ⟨by rfl, fun W hS => by first | rfl | (go_simp; done)⟩) hHeld ?_
    try simp only [Act.put, List.getElem_toArray, List.getElem_cons_succ, List.getElem_cons_zero, List.setIfInBounds_toArray, List.set_cons_zero, List.set_cons_succ]
    refine wpAnyH_take (i := 16) (v := (.bool true)) rfl (by kernel_rfl) (by kernel_rfl) (by kernel_rfl) (fun _ _ _ h => h) (Or.inl ⟨by rfl, fun W hS => by first | rfl | (go_simp; done)⟩) hHeld ?_
    try simp only [Act.put, List.getElem_toArray, List.getElem_cons_succ, List.getElem_cons_zero, List.setIfInBounds_toArray, List.set_cons_zero, List.set_cons_succ]
    refine wpAnyH_take (i := 17) (v := (.pointer (some ⟨mb, t * 3, none⟩))) rfl (by kernel_rfl) (by kernel_rfl) (by kernel_rfl) (fun _ _ _ h => h) (Or.inl ⟨by rfl, fun W hS => by first | rfl | (go_simp; done)⟩) hHeld ?_
    try simp only [Act.put, List.getElem_toArray, List.getElem_cons_succ, List.getElem_cons_zero, List.setIfInBounds_toArray, List.set_cons_zero, List.set_cons_succ]
    have hv1 := (HH1.out.add (((Only.refl (fun _ => False) W1).drew).thenF HMD.out.2.2.2.1)).begin (t := t) (z := ⟨p, .pop hd (.inl .load), bq, y, .slice none 0 0, .slice none 0 0, .pointer none⟩) (w0 := W1) HH1.out.sc.lanes HH1.out.sc.adds.size HMD.out.1 HMD.out.2.1 rfl HMD.out.2.2.2.2.1 HMD.out.2.2.2.2.2
    obtain ⟨-, e0, e1, e2⟩ := hv1.cells HT.out
    have f0 := hv1.mm.frozen (t * 3); have f1 := hv1.mm.frozen (t * 3 + 1); have f2 := hv1.mm.frozen (t * 3 + 2)
    have HV1 := Lib.hid hv1
    clear hv1
    refine wpAnyH_ready (rs := [18]) (by kernel_rfl) (by simp) (AllReadyH.cons rfl (fun K hK => ?_) AllReadyH.nil)
    simp only [List.getElem_toArray, List.getElem_cons_succ, List.getElem_cons_zero]
    rw [if_pos (by rfl)]
    go_simp
    obtain ⟨W2, hW2⟩ : ∃ W, ((v1.setCell ⟨mb, t * 3, none⟩ (.pointer (some ⟨p, 0, none⟩))).setCell ⟨mb, t * 3 + 1, none⟩ (.pointer none)).setCell ⟨mb, t * 3 + 2, none⟩ (.pointer (some ⟨bq, 0, none⟩)) = W := ⟨_, rfl⟩
    have h2 := ((HV1.out.setM1 (t * 3) (.pointer (some ⟨p, 0, none⟩))).setM1 (t * 3 + 1) (.pointer none)).setM1 (t * 3 + 2) (.pointer (some ⟨bq, 0, none⟩))
    have ho2 : Only (· = mb) v1 W2 := by rw [← hW2]; exact ((only_at v1 mb (t * 3) (.pointer (some ⟨p, 0, none⟩))).setCell (p := ⟨mb, t * 3 + 1, none⟩) (.inl rfl) (.pointer none)).setCell (p := ⟨mb, t * 3 + 2, none⟩) (.inl rfl) (.pointer (some ⟨bq, 0, none⟩))
    rw [hW2] at h2
    rw [hW2]
    have hdd2 : ∀ r cc u, (u = 50 ∨ u = 3 ∨ u = 39) → Blk wr r cc u → Blk W2 r cc u := fun r cc u hu hb => by
      have hb := (HDD.out r cc u hu hb).only (((Only.refl (fun _ => False) W1).drew).thenF HMD.out.2.2.2.1) id
      rcases hu with rfl | rfl | rfl <;> exact hb.rowT HV1.out.mm (by decide) ho2
    replace HDD := Lib.hid hdd2
    clear hdd2
    have HW2 := Lib.hid h2
    clear e0 e1 e2 f0 f1 f2 hW2
    refine hK.out _ _ ⟨h2.gcells.2.1, h2.gcells.2.2.2.1, h2.sc.both.mem.head.cell 2, h2.sc.both.mem.head.cell 3⟩ (fun hHeld => ?_)
    clear hK ho2
    try simp only [Act.put, List.getElem_toArray, List.getElem_cons_succ, List.getElem_cons_zero, List.setIfInBounds_toArray, List.set_cons_zero, List.set_cons_succ]
    refine wpAnyH_take (i := 19) (v := (.bool true)) rfl (by kernel_rfl) (by kernel_rfl) (by kernel_rfl) (fun _ _ _ h => h) (Or.inl ⟨by rfl, fun W hS => by first | rfl | (go_simp; done)⟩) hHeld ?_
    try simp only [Act.put, List.getElem_toArray, List.getElem_cons_succ, List.getElem_cons_zero, List.setIfInBounds_toArray, List.set_cons_zero, List.set_cons_succ]
    refine wpAnyH_done (by kernel_rfl) ?_ _
    have h3 := h2
    clear h2 g0 g1 g2 g3 g4 g5 p0 p2 m2 m3
    have HW3 := Lib.hid h3; have y4 := h3.gcells.2.2.2.2.1; have y5 := (h3.cells HT.out).1.2.1; have yg := h3.on.frozen t
    clear h3
    go_wp2_with fail
    go_ret
    exact ⟨⟨rfl, fun r cc u hu hb => by
      have hb := HDD.out r cc u hu hb
      rcases hu with rfl | rfl | rfl <;> exact hb.rowT HW3.out.on (by decide) (only_at _ onb t _)⟩, ⟨p, .pop hd (.inl .load), bq, y, .slice none 0 0, .slice none 0 0, .pointer none⟩, _, _, _, _, HW3.out.setOn t true, Lnk.begin (z := ⟨p, .pop hd (.inl .load), bq, y, .slice none 0 0, .slice none 0 0, .pointer none⟩) HLK.out, HMD.out.2.2.1, HD3.out, .inl ⟨⟨hd, rfl⟩, rfl⟩⟩
  · go_upto_region 5 with (go_at_call 16; refine (HHEAD.out _).mono ?_; rintro e v1 ⟨rfl, rfl⟩)
    obtain ⟨W1, hW1⟩ : ∃ W, wr.setCell ⟨pub, t, none⟩ (.bool false) = W := ⟨_, rfl⟩
    have H1 := HH.out.setPu t false
    rw [hW1] at H1
    have hdd1 : ∀ r cc u, (u = 50 ∨ u = 3 ∨ u = 39) → Blk wr r cc u → Blk W1 r cc u := fun r cc u hu hb => by rw [← hW1]; rcases hu with rfl | rfl | rfl <;> exact hb.rowT HH.out.pu (by decide) (only_at wr pub t (.bool false))
    have HDD := Lib.hid hdd1
    clear hdd1
    rw [hW1]
    have HH1 := Lib.hid H1
    clear hW1 p0 p2 pf g0 g1 g2 g3 g4 g5
    obtain ⟨⟨p0, -, p2⟩, -⟩ := H1.cells HT.out
    rw [upd_at] at p2
    rw [HHV.out] at p0
    obtain ⟨g0, g1, g2, g3, g4, g5⟩ := H1.gcells
    have m2 : W1.cell? ⟨bb, 2, none⟩ = some (.int .i64 P) := H1.sc.both.mem.head.cell 2
    have m3 : W1.cell? ⟨bb, 3, none⟩ = some (.int .i64 T) := H1.sc.both.mem.head.cell 3
    clear H1
    go_upto_region 8 with fail
    refine wp_region_held_drew (S := (fun V => V.cell? ⟨gb, 1, none⟩ = some (.pointer (some ⟨bb, 0, none⟩)) ∧ V.cell? ⟨gb, 3, none⟩ = some (.slice (some ⟨mb, 0, none⟩) n n) ∧ V.cell? ⟨bb, 2, none⟩ = some (.int .i64 P) ∧ V.cell? ⟨bb, 3, none⟩ = some (.int .i64 T))) (by kernel_rfl) ⟨g1, g3, m2, m3⟩ (fun hHeld => ?_)
    refine wpAnyH_take (i := 0) (v := (.pointer (some ⟨gb, 0, none⟩))) rfl (by kernel_rfl) (by kernel_rfl) (by kernel_rfl) (fun _ _ _ h => h) (Or.inl ⟨by rfl, fun W hS => by first | rfl | (go_simp; done)⟩) hHeld ?_
    try simp only [Act.put, List.getElem_toArray, List.getElem_cons_succ, List.getElem_cons_zero, List.setIfInBounds_toArray, List.set_cons_zero, List.set_cons_succ]
    refine wpAnyH_take (i := 1) (v := (.pointer (some ⟨gb, 0, none⟩))) rfl (by kernel_rfl) (by kernel_rfl) (by kernel_rfl) (fun _ _ _ h => h) (Or.inl ⟨by rfl, fun W hS => by first | rfl | (go_simp; done)⟩) hHeld ?_
    try simp only [Act.put, List.getElem_toArray, List.getElem_cons_succ, List.getElem_cons_zero, List.setIfInBounds_toArray, List.set_cons_zero, List.set_cons_succ]
    refine wpAnyH_take (i := 2) (v := (.pointer (some ⟨gb, 3, none⟩))) rfl (by kernel_rfl) (by kernel_rfl) (by kernel_rfl) (fun _ _ _ h => h) (Or.inl ⟨by rfl, fun W hS => by first | rfl | (go_simp; done)⟩) hHeld ?_
    try simp only [Act.put, List.getElem_toArray, List.getElem_cons_succ, List.getElem_cons_zero, List.setIfInBounds_toArray, List.set_cons_zero, List.set_cons_succ]
    refine wpAnyH_take (i := 3) (v := (.slice (some ⟨mb, 0, none⟩) n n)) rfl (by kernel_rfl) (by kernel_rfl) (by kernel_rfl) (fun _ _ _ h => h) (Or.inl ⟨by rfl, fun W hS => by (obtain ⟨q1, q2, q3, q4⟩ := hS; go_simp; done)⟩) hHeld ?_
    try simp only [Act.put, List.getElem_toArray, List.getElem_cons_succ, List.getElem_cons_zero, List.setIfInBounds_toArray, List.set_cons_zero, List.set_cons_succ]
    refine wpAnyH_take (i := 4) (v := (.int .i64 (t : Int))) rfl (by kernel_rfl) (by kernel_rfl) (by kernel_rfl) (fun _ _ _ h => h) (Or.inl ⟨by rfl, fun W hS => by first | rfl | (go_simp; done)⟩) hHeld ?_
    try simp only [Act.put, List.getElem_toArray, List.getElem_cons_succ, List.getElem_cons_zero, List.setIfInBounds_toArray, List.set_cons_zero, List.set_cons_succ]
    refine wpAnyH_take (i := 5) (v := (.pointer (some ⟨gb, 0, none⟩))) rfl (by kernel_rfl) (by kernel_rfl) (by kernel_rfl) (fun _ _ _ h => h) (Or.inl ⟨by rfl, fun W hS => by first | rfl | (go_simp; done)⟩) hHeld ?_
    try simp only [Act.put, List.getElem_toArray, List.getElem_cons_succ, List.getElem_cons_zero, List.setIfInBounds_toArray, List.set_cons_zero, List.set_cons_succ]
    refine wpAnyH_take (i := 6) (v := (.pointer (some ⟨gb, 0, none⟩))) rfl (by kernel_rfl) (by kernel_rfl) (by kernel_rfl) (fun _ _ _ h => h) (Or.inl ⟨by rfl, fun W hS => by first | rfl | (go_simp; done)⟩) hHeld ?_
    try simp only [Act.put, List.getElem_toArray, List.getElem_cons_succ, List.getElem_cons_zero, List.setIfInBounds_toArray, List.set_cons_zero, List.set_cons_succ]
    refine wpAnyH_take (i := 7) (v := (.pointer (some ⟨gb, 1, none⟩))) rfl (by kernel_rfl) (by kernel_rfl) (by kernel_rfl) (fun _ _ _ h => h) (Or.inl ⟨by rfl, fun W hS => by first | rfl | (go_simp; done)⟩) hHeld ?_
    try simp only [Act.put, List.getElem_toArray, List.getElem_cons_succ, List.getElem_cons_zero, List.setIfInBounds_toArray, List.set_cons_zero, List.set_cons_succ]
    refine wpAnyH_take (i := 8) (v := (.pointer (some ⟨bb, 0, none⟩))) rfl (by kernel_rfl) (by kernel_rfl) (by kernel_rfl) (fun _ _ _ h => h) (Or.inl ⟨by rfl, fun W hS => by (obtain ⟨q1, q2, q3, q4⟩ := hS; go_simp; done)⟩) hHeld ?_
    try simp only [Act.put, List.getElem_toArray, List.getElem_cons_succ, List.getElem_cons_zero, List.setIfInBounds_toArray, List.set_cons_zero, List.set_cons_succ]
    refine wpAnyH_take (i := 9) (v := (.pointer (some ⟨bb, 0, none⟩))) rfl (by kernel_rfl) (by kernel_rfl) (by kernel_rfl) (fun _ _ _ h => h) (Or.inl ⟨by rfl, fun W hS => by first | rfl | (go_simp; done)⟩) hHeld ?_
    try simp only [Act.put, List.getElem_toArray, List.getElem_cons_succ, List.getElem_cons_zero, List.setIfInBounds_toArray, List.set_cons_zero, List.set_cons_succ]
    refine wpAnyH_take (i := 10) (v := (.pointer (some ⟨bb, 2, none⟩))) rfl (by kernel_rfl) (by kernel_rfl) (by kernel_rfl) (fun _ _ _ h => h) (Or.inl ⟨by rfl, fun W hS => by first | rfl | (go_simp; done)⟩) hHeld ?_
    try simp only [Act.put, List.getElem_toArray, List.getElem_cons_succ, List.getElem_cons_zero, List.setIfInBounds_toArray, List.set_cons_zero, List.set_cons_succ]
    refine wpAnyH_take (i := 11) (v := (.agg #[.int .i64 P, .int .i64 T])) rfl (by kernel_rfl) (by kernel_rfl) (by kernel_rfl) (fun _ _ _ h => h) (Or.inl ⟨by rfl, fun W hS => by (obtain ⟨q1, q2, q3, q4⟩ := hS; go_simp; done)⟩) hHeld ?_
    try simp only [Act.put, List.getElem_toArray, List.getElem_cons_succ, List.getElem_cons_zero, List.setIfInBounds_toArray, List.set_cons_zero, List.set_cons_succ]
    refine wpAnyH_take (i := 12) (v := (.int .i64 hd)) rfl (by kernel_rfl) (by kernel_rfl) (by kernel_rfl) (fun _ _ _ h => h) (Or.inl ⟨by rfl, fun W hS => by first | rfl | (go_simp; done)⟩) hHeld ?_
    try simp only [Act.put, List.getElem_toArray, List.getElem_cons_succ, List.getElem_cons_zero, List.setIfInBounds_toArray, List.set_cons_zero, List.set_cons_succ]
    refine wpAnyH_ready (rs := [13]) (by kernel_rfl) (by simp) (AllReadyH.cons rfl (fun K hK => ?_) AllReadyH.nil)
    simp only [List.getElem_toArray, List.getElem_cons_succ, List.getElem_cons_zero]
    go_simp
    refine (madePop_any HM.out HD3.out).mono ?_
    rintro e v1 ⟨p, bq, y, rfl, a1, a2, a3, a4, a5, a6⟩
    have HMD := Lib.hid (And.intro a1 (And.intro a2 (And.intro a3 (And.intro a4 (And.intro a5 a6)))))
    refine hK.out _ _ ⟨cellA hHeld.1 a4, cellA hHeld.2.1 a4, cellA hHeld.2.2.1 a4, cellA hHeld.2.2.2 a4⟩ (fun hHeld => ?_)
    clear hK K
    try simp only [Act.put, List.getElem_toArray, List.getElem_cons_succ, List.getElem_cons_zero, List.setIfInBounds_toArray, List.set_cons_zero, List.set_cons_succ]
    clear a1 a2 a3 a4 a5 a6
    refine wpAnyH_take (i := 14) (v := (.tuple #[(.agg #[.pointer (some ⟨p, 0, none⟩), .pointer none, .pointer (some ⟨bq, 0, none⟩)]), .bool true])) rfl (by kernel_rfl) (by kernel_rfl) (by kernel_rfl) (fun _ _ _ h => h) (Or.inl ⟨by rfl, fun W hS => by first | rfl | (go_simp; done)⟩) hHeld ?_
    try simp only [Act.put, List.getElem_toArray, List.getElem_cons_succ, List.getElem_cons_zero, List.setIfInBounds_toArray, List.set_cons_zero, List.set_cons_succ]
    refine wpAnyH_take (i := 15) (v := (.agg #[.pointer (some ⟨p, 0, none⟩), .pointer none, .pointer (some ⟨bq, 0, none⟩)])) rfl (by kernel_rfl) (by kernel_rfl) (by kernel_rfl) (fun _ _ _ h => h) (Or.inl ⟨by rfl, fun W hS => by first | rfl | (go_simp; done)⟩) hHeld ?_
    try simp only [Act.put, List.getElem_toArray, List.getElem_cons_succ, List.getElem_cons_zero, List.setIfInBounds_toArray, List.set_cons_zero, List.set_cons_succ]
    refine wpAnyH_take (i := 16) (v := (.bool true)) rfl (by kernel_rfl) (by kernel_rfl) (by kernel_rfl) (fun _ _ _ h => h) (Or.inl ⟨by rfl, fun W hS => by first | rfl | (go_simp; done)⟩) hHeld ?_
    try simp only [Act.put, List.getElem_toArray, List.getElem_cons_succ, List.getElem_cons_zero, List.setIfInBounds_toArray, List.set_cons_zero, List.set_cons_succ]
    refine wpAnyH_take (i := 17) (v := (.pointer (some ⟨mb, t * 3, none⟩))) rfl (by kernel_rfl) (by kernel_rfl) (by kernel_rfl) (fun _ _ _ h => h) (Or.inl ⟨by rfl, fun W hS => by first | rfl | (go_simp; done)⟩) hHeld ?_
    try simp only [Act.put, List.getElem_toArray, List.getElem_cons_succ, List.getElem_cons_zero, List.setIfInBounds_toArray, List.set_cons_zero, List.set_cons_succ]
    have hv1 := (HH1.out.add (((Only.refl (fun _ => False) W1).drew).thenF HMD.out.2.2.2.1)).begin (t := t) (z := ⟨p, .pop hd (.inl .load), bq, y, .slice none 0 0, .slice none 0 0, .pointer none⟩) (w0 := W1) HH1.out.sc.lanes HH1.out.sc.adds.size HMD.out.1 HMD.out.2.1 rfl HMD.out.2.2.2.2.1 HMD.out.2.2.2.2.2
    obtain ⟨-, e0, e1, e2⟩ := hv1.cells HT.out
    have f0 := hv1.mm.frozen (t * 3); have f1 := hv1.mm.frozen (t * 3 + 1); have f2 := hv1.mm.frozen (t * 3 + 2)
    have HV1 := Lib.hid hv1
    clear hv1
    refine wpAnyH_ready (rs := [18]) (by kernel_rfl) (by simp) (AllReadyH.cons rfl (fun K hK => ?_) AllReadyH.nil)
    simp only [List.getElem_toArray, List.getElem_cons_succ, List.getElem_cons_zero]
    rw [if_pos (by rfl)]
    go_simp
    obtain ⟨W2, hW2⟩ : ∃ W, ((v1.setCell ⟨mb, t * 3, none⟩ (.pointer (some ⟨p, 0, none⟩))).setCell ⟨mb, t * 3 + 1, none⟩ (.pointer none)).setCell ⟨mb, t * 3 + 2, none⟩ (.pointer (some ⟨bq, 0, none⟩)) = W := ⟨_, rfl⟩
    have h2 := ((HV1.out.setM1 (t * 3) (.pointer (some ⟨p, 0, none⟩))).setM1 (t * 3 + 1) (.pointer none)).setM1 (t * 3 + 2) (.pointer (some ⟨bq, 0, none⟩))
    have ho2 : Only (· = mb) v1 W2 := by rw [← hW2]; exact ((only_at v1 mb (t * 3) (.pointer (some ⟨p, 0, none⟩))).setCell (p := ⟨mb, t * 3 + 1, none⟩) (.inl rfl) (.pointer none)).setCell (p := ⟨mb, t * 3 + 2, none⟩) (.inl rfl) (.pointer (some ⟨bq, 0, none⟩))
    rw [hW2] at h2
    rw [hW2]
    have hdd2 : ∀ r cc u, (u = 50 ∨ u = 3 ∨ u = 39) → Blk wr r cc u → Blk W2 r cc u := fun r cc u hu hb => by
      have hb := (HDD.out r cc u hu hb).only (((Only.refl (fun _ => False) W1).drew).thenF HMD.out.2.2.2.1) id
      rcases hu with rfl | rfl | rfl <;> exact hb.rowT HV1.out.mm (by decide) ho2
    replace HDD := Lib.hid hdd2
    clear hdd2
    have HW2 := Lib.hid h2
    clear e0 e1 e2 f0 f1 f2 hW2
    refine hK.out _ _ ⟨h2.gcells.2.1, h2.gcells.2.2.2.1, h2.sc.both.mem.head.cell 2, h2.sc.both.mem.head.cell 3⟩ (fun hHeld => ?_)
    clear hK ho2
    try simp only [Act.put, List.getElem_toArray, List.getElem_cons_succ, List.getElem_cons_zero, List.setIfInBounds_toArray, List.set_cons_zero, List.set_cons_succ]
    refine wpAnyH_take (i := 19) (v := (.bool true)) rfl (by kernel_rfl) (by kernel_rfl) (by kernel_rfl) (fun _ _ _ h => h) (Or.inl ⟨by rfl, fun W hS => by first | rfl | (go_simp; done)⟩) hHeld ?_
    try simp only [Act.put, List.getElem_toArray, List.getElem_cons_succ, List.getElem_cons_zero, List.setIfInBounds_toArray, List.set_cons_zero, List.set_cons_succ]
    refine wpAnyH_done (by kernel_rfl) ?_ _
    have h3 := h2
    clear h2 g0 g1 g2 g3 g4 g5 p0 p2 m2 m3
    have HW3 := Lib.hid h3; have y4 := h3.gcells.2.2.2.2.1; have y5 := (h3.cells HT.out).1.2.1; have yg := h3.on.frozen t
    clear h3
    go_wp2_with fail
    go_ret
    exact ⟨⟨rfl, fun r cc u hu hb => by
      have hb := HDD.out r cc u hu hb
      rcases hu with rfl | rfl | rfl <;> exact hb.rowT HW3.out.on (by decide) (only_at _ onb t _)⟩, ⟨p, .pop hd (.inl .load), bq, y, .slice none 0 0, .slice none 0 0, .pointer none⟩, _, _, _, _, HW3.out.setOn t true, Lnk.begin (z := ⟨p, .pop hd (.inl .load), bq, y, .slice none 0 0, .slice none 0 0, .pointer none⟩) HLK.out, HMD.out.2.2.1, HD3.out, .inl ⟨⟨hd, rfl⟩, rfl⟩⟩
end
theorem row_shape {w : World} {base : Nat} {e : TypeId} {size : Nat} {v : Value} {n : Nat} {xs : List Value} (h : w.ownsRow base e size v n xs) : (v = .slice none 0 0 ∧ n = 0) ∨ ∃ g cap, v = .slice (some ⟨g, 0, none⟩) n cap := by
  rcases h.2 with h0 | ⟨g, cap, cur, hv, _⟩
  · exact .inl h0
  · exact .inr ⟨g, cap, hv⟩

/-- What an append reads: nothing, or cells. -/
def Src (w : World) (u : Value) (m : Nat) (news : List Value) : Prop :=
  (u = .slice none 0 0 ∧ m = 0 ∧ news = []) ∨ (∃ g off c, u = .slice (some ⟨g, off, none⟩) m c ∧ ∀ j x, news[j]? = some x → w.cell? ⟨g, off + j, none⟩ = some x) ∨ (m = 0 ∧ news = [] ∧ ∃ ad c, u = .slice (some ad) 0 c)
theorem Src.adds {w w' : World} {u : Value} {m : Nat} {news : List Value} (h : Src w u m news) (ho : Adds w w') : Src w' u m news := by
  rcases h with h | ⟨g, off, c, h1, h2⟩ | h
  · exact .inl h
  · exact .inr (.inl ⟨g, off, c, h1, fun j x hj => cell_al (h2 j x hj) ho⟩)
  · exact .inr (.inr h)
/-- Appended: items to a row of one's own. -/
theorem wp_append_src {P : Program} {op : Oper} {a : Act} {w : World} {K : Act → World → Prop} {Q : Exit → Act → World → Prop} (s x : Operand) (t e : TypeId) (ho : op.op = .call { callee := .builtin .append, args := #[s, x], argTypes := #[t, t] })
    (i : TypeInfo) (z : Value) (size bytes : Nat) (ht : P.underlying t = some (.slice e)) (hi : P.info? e = some i) (hz : i.zero = some z)
    (hsize : i.size = size) (hby : i.bytes = bytes) (hzs : z.cells.size = size) (hsz : 0 < size) (base : Nat) (v : Value) (n : Nat) (xs : List Value) (hs : a.eval s = v) (hown : w.ownsRow base e size v n xs)
    (u : Value) (m : Nat) (news : List Value) (hx : a.eval x = u) (hu : Src w u m news) (hl : news.length = m * size) (h1 : ∀ u ∈ news, u.oneCell' = true) (h63 : n + m ≤ maxLen) (hbytes : (n + m) * bytes ≤ 140737488355328) (hbase : base ≤ w.heap.size)
    (h : ∀ v' w', w'.ownsRow base e size v' (n + m) (xs ++ news) → Only (fun y => some y = v.ownBlock) w w' → K (a.put op.dst v') w') : op.wp P a w K Q := by
  rcases hu with ⟨rfl, rfl, rfl⟩ | ⟨g, off, c, rfl, hc⟩ | ⟨rfl, rfl, ad, c, rfl⟩
  · rcases row_shape hown with ⟨rfl, rfl⟩ | ⟨g, cap, rfl⟩
    · exact wp_append_none s x t e ho i ht hi none 0 0 hs hx (Nat.le_refl _) (h _ w (by simpa using hown) (Only.refl _ w))
    · have hcap : n ≤ cap := by
        rcases hown.2 with ⟨h0, _⟩ | ⟨g', cap', cur, h0, _, _, h4, _⟩
        · cases h0
        · cases h0; exact h4
      exact wp_append_none s x t e ho i ht hi (some ⟨g, 0, none⟩) n cap hs hx hcap (h _ w (by simpa using hown) (Only.refl _ w))
  · refine wp_append_own w s x t ho base e i z size bytes ht hi hz hsize hby hzs hsz v n xs hs hown ⟨g, off, none⟩ m c news hx hl (fun j u hj => by rw [Addr.add_lit]; exact hc j u hj) h1 h63 hbytes hbase ?_
    intro v' w' h2 h3 _
    exact h v' w' h2 ⟨h3.os, h3.tape, h3.output, h3.size, h3.block⟩
  · refine wp_append_own w s x t ho base e i z size bytes ht hi hz hsize hby hzs hsz v n xs hs hown ad 0 c [] hx hl (fun j u hj => by simp at hj) h1 h63 hbytes hbase ?_
    intro v' w' h2 h3 _
    exact h v' w' h2 ⟨h3.os, h3.tape, h3.output, h3.size, h3.block⟩
theorem Src.of_owns {w : World} {base : Nat} {e : TypeId} {size : Nat} {v : Value} {n : Nat} {xs : List Value} (h : w.ownsRow base e size v n xs) : Src w v n xs := by
  rcases h.2 with ⟨rfl, rfl⟩ | ⟨g, cap, cur, rfl, _, hg, _, _, _, hc⟩
  · have := h.1; exact .inl ⟨rfl, rfl, List.eq_nil_of_length_eq_zero (by omega)⟩
  · refine .inr (.inl ⟨g, 0, cap, rfl, fun j x hj => ?_⟩)
    rw [← hc, List.getElem?_take] at hj
    split at hj
    · rw [Nat.zero_add]; simpa [World.cell?, hg] using hj
    · cases hj
theorem row_base9 {w : World} {base : Nat} {e : TypeId} {size : Nat} {v : Value} {n : Nat} {xs : List Value} (h : w.ownsRow base e size v n xs) (g : Nat) (hg : some g = v.ownBlock) : base ≤ g := by
  rcases h.2 with ⟨rfl, _⟩ | ⟨g', cap, cur, rfl, hb, _⟩
  · simp [Value.ownBlock] at hg
  · obtain rfl : g = g' := by simpa [Value.ownBlock] using hg
    exact hb
theorem row_zero {w : World} {base : Nat} {e : TypeId} {size : Nat} {v : Value} {n : Nat} {xs : List Value} (h : w.ownsRow base e size v n xs) : w.ownsRow 0 e size v n xs := by
  refine ⟨h.1, ?_⟩
  rcases h.2 with h | ⟨g, cap, cur, h1, _, h3⟩
  · exact .inl h
  · exact .inr ⟨g, cap, cur, h1, Nat.zero_le _, h3⟩
end Go.Proofs.YthhnpcniijpfeaaGreat

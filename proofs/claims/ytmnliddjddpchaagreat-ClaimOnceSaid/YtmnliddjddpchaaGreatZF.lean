/- Package claim: a claim as an automaton: each step. Package claim: a claim's steps. Package claim: a claim's steps that run a pop, or a sweep; each step. By an AI agent. -/
import Derived.Test.YtmnliddjddpchaaGreatZClaimM
import Derived.Test.YtmnliddjddpchaaGreatZE
namespace Go.Proofs.YtmnliddjddpchaaGreat
open Go.RowKit
set_option linter.unusedSimpArgs false
set_option linter.unusedVariables false
section
variable {w : World} {mb ab sb sm rb : Nat} {P T : Int} {s : StoreS} {c : Value → Array Value} {t : TypeId} {K : Nat} {f1 cap : Array Value} {Q : World → Prop}
theorem Desk.stepLoadZ {at_ : Int} (hc : Cells c P T) (ht : MachT t) (h : Desk w mb c t (.load at_ (.func (.func K) f1 cap))) (hY : Yard w ab sb sm rb P T s) (hbig : 1 < s.ws.length) (hi : s.inR at_) (hst : Stays Q) (eg : Enters Tryz.prog K)
    (hT : ∀ w1 nx, w.heap.size ≤ w1.heap.size → Blk w1 mb (c nx) t → Calls Tryz.prog K (f1 ++ #[.int .u64 (s.word at_)] ++ cap) w1 fun e w2 => e = .returned (.tuple #[]) ∧ Q w2 ∧ Only (· = mb) w1 w2) :
    Calls Tryz.prog 28 #[.pointer (some ⟨mb, 0, none⟩), .pointer (some ⟨ab, 0, none⟩)] w fun e w' =>
      e = .returned (.agg #[.int .i64 1, .int .i64 at_, .int .u64 (s.word at_), .int .u64 (s.word at_)]) ∧ (Q w' ∧ Yard w' ab sb sm rb P T (s.acc 1 at_ (s.word at_))) ∧ Only (fun j => SB sb sm j ∨ j = mb) w w' := by
  obtain ⟨n, h1, h2⟩ := h
  have hmb := hY.mach h1 ht.1 ht.2.1 ht.2.2.1
  exact Go.Proofs.YtmnliddjddpchaaGreat.stepLoad (s' := s.acc 1 at_ (s.word at_)) (n := n) ((h1.cell 2).trans (hc.c2 _)) ((h1.cell 0).trans (hc.c0 _)) ((h1.cell 1).trans (hc.c1 _)) hY h2 hbig
    (fun W hs => load_in sb sm at_ s W hs hi) hst (M := (· = mb)) (fun j e => by subst e; exact ⟨h1.lt, hmb⟩) eg
    (fun w1 ho _ => hT w1 _ ho.size (h1.only ho (fun e => e.elim hmb.2.1 hmb.2.2)))
theorem Desk.stepCasWinZ {at_ o v : Int} (hc : Cells c P T) (ht : MachT t) (h : Desk w mb c t (.cas at_ o v (.func (.func K) f1 cap))) (hY : Yard w ab sb sm rb P T s) (hbig : 1 < s.ws.length) (hi : s.inR at_) (hw : s.word at_ = o) (hv : 0 ≤ v ∧ v < 18446744073709551616) (hst : Stays Q) (eg : Enters Tryz.prog K)
    (hT : ∀ w1 nx, w.heap.size ≤ w1.heap.size → (∀ (b : Nat) (x : Value) (u : TypeId), Blk w b #[x] u → Blk w1 b #[x] u) → Blk w1 mb (c nx) t → Calls Tryz.prog K (f1 ++ #[.bool true] ++ cap) w1 fun e w2 => e = .returned (.tuple #[]) ∧ Q w2 ∧ Only (· = mb) w1 w2) :
    Calls Tryz.prog 28 #[.pointer (some ⟨mb, 0, none⟩), .pointer (some ⟨ab, 0, none⟩)] w fun e w' =>
      e = .returned (.agg #[.int .i64 3, .int .i64 at_, .int .u64 (s.word at_), .int .u64 v]) ∧ (Q w' ∧ Yard w' ab sb sm rb P T (s.acc 3 at_ v)) ∧ Only (fun j => SB sb sm j ∨ j = mb) w w' := by
  obtain ⟨n, h1, h2⟩ := h
  have hmb := hY.mach h1 ht.1 ht.2.1 ht.2.2.1
  exact Go.Proofs.YtmnliddjddpchaaGreat.stepCas (s' := s.acc 3 at_ v) (er := 0) (won := true) (n := n) ((h1.cell 2).trans (hc.c2 _)) ((h1.cell 0).trans (hc.c0 _)) ((h1.cell 1).trans (hc.c1 _)) hY h2 hbig
    (fun W hs => cas_win sb sm at_ o v s W hs hi (by simp [hw]) hv.1 hv.2) rfl hst (M := (· = mb)) (fun j e => by subst e; exact ⟨h1.lt, hmb⟩) eg
    (fun w1 ho _ => hT w1 _ ho.size (fun b x u hb => hb.only ho (hY.multi hbig hb)) (h1.only ho (fun e => e.elim hmb.2.1 hmb.2.2)))
end
/-- A program's sweep at a state; at its end. -/
def SwA (P T p : Int) (w : World) (m : Nat) : SwpSt → Prop
  | .mark => Sw1 w m P T (pgAt P T 12 p) (pgAt P T 13 p)
  | .alloc b => Sw2 w m P T (pgAt P T 12 p) (pgAt P T 13 p) b
  | .put b a => Sw3 w m P T (pgAt P T 12 p) (pgAt P T 13 p) b a
  | .zero b a => Sw4 w m P T (pgAt P T 13 p) b a
def SwX (P T p : Int) (w : World) (m : Nat) : SwpSt ⊕ Int → Prop
  | .inl k => SwA P T p w m k
  | .inr fr => Blk w m (swCells P T .nilFunc fr) 219
section
variable {w w' : World} {m mb pb ab sb sm rb : Nat} {P T p hd g : Int} {s : StoreS}
theorem SwA.keep {k : SwpSt} {S : Nat → Prop} (h : SwA P T p w m k) (ho : Only S w w') (hm : ¬ S m) (hs : ∀ b x t, Blk w b #[x] t → ¬ S b) : SwA P T p w' m k := by
  cases k with
  | mark => exact Sw1.only h ho hm hs
  | alloc b => exact Sw2.only h ho hm hs
  | put b a => exact Sw3.only h ho hm hs
  | zero b a => exact Sw4.only h ho hm hs
theorem SwX.stays (P T p : Int) (m : Nat) (k : SwpSt ⊕ Int) : Stays (fun w => SwX P T p w m k) := fun a b ho h => by
  rcases k with k | fr
  · cases k with
    | mark => exact Sw1.stays _ _ _ _ _ a b ho h
    | alloc x => exact Sw2.stays _ _ _ _ _ _ a b ho h
    | put x y => exact Sw3.stays _ _ _ _ _ _ _ a b ho h
    | zero x y => exact Sw4.stays _ _ _ _ _ _ a b ho h
  · exact Blk.dids (show Blk a m (swCells P T .nilFunc fr) 219 from h) ho (by decide)
theorem SwA.live {k : SwpSt} (h : SwA P T p w m k) : ∃ nx fn f c fr, nx = Value.func fn f c ∧ Blk w m (swCells P T nx fr) 219 := by
  cases k with
  | mark => obtain ⟨nx, fn, f, c, e, hb⟩ := Sw1.live h; exact ⟨nx, fn, f, c, _, e, hb⟩
  | alloc b => obtain ⟨nx, fn, f, c, e, hb⟩ := Sw2.live h; exact ⟨nx, fn, f, c, _, e, hb⟩
  | put b a => obtain ⟨nx, fn, f, c, e, hb⟩ := Sw3.live h; exact ⟨nx, fn, f, c, _, e, hb⟩
  | zero b a => obtain ⟨nx, fn, f, c, e, hb⟩ := Sw4.live h; exact ⟨nx, fn, f, c, _, e, hb⟩
theorem swA_step {k : SwpSt} (hm : Lay.may P T = true) (hp0 : 0 ≤ p) (hp1 : p < P) (h : SwA P T p w m k) (hY : Yard w ab sb sm rb P T s) (hlen : s.ws.length = (Lay.words P T).toNat) :
    Calls Tryz.prog 243 #[.pointer (some ⟨m, 0, none⟩), .pointer (some ⟨ab, 0, none⟩)] w (StQ (fun w' => SwX P T p w' m ((sweepA P T p).nx k (s.word ((sweepA P T p).ac k).pos))) m ab sb sm rb P T ((sweepA P T p).ac k) s w) := by
  have q2 := pgAt_eq (k := 12) hm (by decide) (by decide) hp0 hp1
  have q3 := pgAt_eq (k := 13) hm (by decide) (by decide) hp0 hp1
  have hT1 := (Lay.may_iff.1 hm)
  have ia : s.inR (pgAt P T 12 p) := ⟨by omega, by rw [hlen]; omega⟩
  have ik : s.inR (pgAt P T 13 p) := ⟨by omega, by rw [hlen]; omega⟩
  have hbig : 1 < s.ws.length := by rw [hlen]; omega
  cases k with
  | mark => exact sweepStep_one h hY ik hbig
  | alloc b => exact sweepStep_two h hY ia hbig
  | put b a => exact sweepStep_three h hY ia hbig
  | zero b a => exact sweepStep_four h hY ik hbig
theorem swX_done {k : SwpSt ⊕ Int} (h : SwX P T p w m k) : Calls Tryz.prog 242 #[.pointer (some ⟨m, 0, none⟩)] w fun e w' => e = .returned (.bool (overB k)) ∧ w = w' := by
  rcases k with k | fr
  · obtain ⟨nx, fn, f, c, fr, e, hb⟩ := SwA.live h
    subst e
    exact sweepSweepDone_no (hb.cell 2)
  · exact sweepSweepDone_yes (Blk.cell (show Blk w m (swCells P T .nilFunc fr) 219 from h) 2)
/-- A program's claim at a state: pb is the machine that it runs, if it runs one. -/
def ClA (P T hd g : Int) (w : World) (mb pb : Nat) : ClmSt → Prop
  | .pop k => ∃ n bp bm st tk, ClPop w mb pb (clC P T hd g st tk (-1) (Ph.mk g 2) (Ph.mk g 6)) n bp bm ∧ PopA P T hd w pb k
  | .hv p .look => (0 ≤ p ∧ p < P) ∧ Desk w mb (clC P T hd g (pgAt P T 9 p) p (-1) (Ph.mk g 2) (Ph.mk g 6)) 76 (.load (pgAt P T 9 p) (clFound mb))
  | .hv p (.held v) => (0 ≤ p ∧ p < P) ∧ ∃ jm, Blk w jm #[.pointer (some ⟨mb, 0, none⟩)] 37 ∧ Desk w mb (clC P T hd g (pgAt P T 9 p) p (-1) (Ph.mk g 2) (Ph.mk g 6)) 76 (.cas (pgAt P T 9 p) v (Ph.mk g 2) (clHeld jm))
  | .hv p (.hand v) => (0 ≤ p ∧ p < P) ∧ ∃ jm, Blk w jm #[.pointer (some ⟨mb, 0, none⟩)] 37 ∧ Desk w mb (clC P T hd g (pgAt P T 9 p) p (-1) (Ph.mk g 2) (Ph.mk g 6)) 76 (.cas (pgAt P T 9 p) v (Ph.mk g 6) (clHand jm))
  | .hv p .put => (0 ≤ p ∧ p < P) ∧ Desk w mb (clC P T hd g (pgAt P T 9 p) p (-1) (Ph.mk g 2) (Ph.mk g 6)) 76 (.put (pgAt P T 9 p) (Ph.mk g 2) (clHad mb))
  | .hv p (.sw k) => (0 ≤ p ∧ p < P) ∧ ∃ n, Blk w mb (clC P T hd g (pgAt P T 9 p) p (-1) (Ph.mk g 2) (Ph.mk g 6) (runF n)) 76 ∧ HasRun w n (.iface 190 (.pointer (some ⟨pb, 0, none⟩))) (clHad mb) ∧ SwA P T p w pb k
def ClX (P T hd g : Int) (w : World) (mb pb : Nat) : ClmSt ⊕ Int → Prop
  | .inl k => ClA P T hd g w mb pb k
  | .inr p => ∃ st tk, Blk w mb (clC P T hd g st tk p (Ph.mk g 2) (Ph.mk g 6) .nilFunc) 76
theorem ClX.stays (P T hd g : Int) (mb pb : Nat) (k : ClmSt ⊕ Int) : Stays (fun w => ClX P T hd g w mb pb k) := fun a b ho h => by
  rcases k with k | p
  · cases k with
    | pop k => obtain ⟨n, bp, bm, st, tk, h1, h2⟩ := h; exact ⟨n, bp, bm, st, tk, ⟨h1.m.dids ho (by decide), h1.r.dids ho, h1.p.dids ho (by decide), h1.b.dids ho (by decide)⟩, PopA.stays _ _ _ _ _ a b ho h2⟩
    | hv p k =>
      cases k with
      | look => exact ⟨h.1, Desk.stays _ _ _ _ (by decide) a b ho h.2⟩
      | held v => obtain ⟨h0, jm, h1, h2⟩ := h; exact ⟨h0, jm, h1.dids ho (by decide), Desk.stays _ _ _ _ (by decide) a b ho h2⟩
      | hand v => obtain ⟨h0, jm, h1, h2⟩ := h; exact ⟨h0, jm, h1.dids ho (by decide), Desk.stays _ _ _ _ (by decide) a b ho h2⟩
      | put => exact ⟨h.1, Desk.stays _ _ _ _ (by decide) a b ho h.2⟩
      | sw k => obtain ⟨h0, n, h1, h2, h3⟩ := h; exact ⟨h0, n, h1.dids ho (by decide), h2.dids ho, SwX.stays P T p pb (.inl k) a b ho h3⟩
  · obtain ⟨st, tk, h⟩ := h; exact ⟨st, tk, h.dids ho (by decide)⟩
theorem ClX.keep {k : ClmSt ⊕ Int} {S : Nat → Prop} (h : ClX P T hd g w mb pb k) (ho : Only S w w') (hm : ¬ S mb) (hp : ¬ S pb) (hs : ∀ b x t, Blk w b #[x] t → ¬ S b) : ClX P T hd g w' mb pb k := by
  rcases k with k | p
  · cases k with
    | pop k => obtain ⟨n, bp, bm, st, tk, h1, h2⟩ := h; exact ⟨n, bp, bm, st, tk, ⟨h1.m.only ho hm, ⟨h1.r.b0.only ho (hs _ _ _ h1.r.b0), h1.r.b1.only ho (hs _ _ _ h1.r.b1)⟩, h1.p.only ho (hs _ _ _ h1.p), h1.b.only ho (hs _ _ _ h1.b)⟩, PopA.keep h2 ho hp hs⟩
    | hv p k =>
      cases k with
      | look => exact ⟨h.1, Desk.only h.2 ho hm hs⟩
      | held v => obtain ⟨h0, jm, h1, h2⟩ := h; exact ⟨h0, jm, h1.only ho (hs _ _ _ h1), Desk.only h2 ho hm hs⟩
      | hand v => obtain ⟨h0, jm, h1, h2⟩ := h; exact ⟨h0, jm, h1.only ho (hs _ _ _ h1), Desk.only h2 ho hm hs⟩
      | put => exact ⟨h.1, Desk.only h.2 ho hm hs⟩
      | sw k => obtain ⟨h0, n, h1, h2, h3⟩ := h; exact ⟨h0, n, h1.only ho hm, ⟨h2.b0.only ho (hs _ _ _ h2.b0), h2.b1.only ho (hs _ _ _ h2.b1)⟩, SwA.keep h3 ho hp hs⟩
  · obtain ⟨st, tk, h⟩ := h; exact ⟨st, tk, h.only ho hm⟩
theorem ClX.adds {k : ClmSt ⊕ Int} (h : ClX P T hd g w mb pb k) (ho : Adds w w') : ClX P T hd g w' mb pb k := h.keep ho id id (fun _ _ _ _ => id)
theorem ClX.blk {k : ClmSt ⊕ Int} (h : ClX P T hd g w mb pb k) : ∃ st tk nx, Blk w mb (clC P T hd g st tk (pgOf k) (Ph.mk g 2) (Ph.mk g 6) nx) 76 ∧ NxOk nx k := by
  rcases k with k | p
  · cases k with
    | pop k => obtain ⟨n, bp, bm, st, tk, h1, h2⟩ := h; exact ⟨_, _, _, h1.m, _, _, _, rfl⟩
    | hv p k =>
      cases k with
      | look => obtain ⟨nx, hb, hl⟩ := Desk.blk h.2; exact ⟨_, _, nx, hb, hl (by simp)⟩
      | held v => obtain ⟨h0, jm, h1, h2⟩ := h; obtain ⟨nx, hb, hl⟩ := Desk.blk h2; exact ⟨_, _, nx, hb, hl (by simp)⟩
      | hand v => obtain ⟨h0, jm, h1, h2⟩ := h; obtain ⟨nx, hb, hl⟩ := Desk.blk h2; exact ⟨_, _, nx, hb, hl (by simp)⟩
      | put => obtain ⟨nx, hb, hl⟩ := Desk.blk h.2; exact ⟨_, _, nx, hb, hl (by simp)⟩
      | sw k => obtain ⟨h0, n, h1, h2, h3⟩ := h; exact ⟨_, _, _, h1, _, _, _, rfl⟩
  · obtain ⟨st, tk, h⟩ := h; exact ⟨st, tk, _, h, rfl⟩
theorem clX_page {k : ClmSt ⊕ Int} (h : ClX P T hd g w mb pb k) : Calls Tryz.prog 9 #[.pointer (some ⟨mb, 0, none⟩)] w fun e w' => e = .returned (.int .i64 (pgOf k)) ∧ w = w' := by
  obtain ⟨st, tk, nx, hb, _⟩ := h.blk
  obtain ⟨p, hp⟩ : ∃ p, p = pgOf k := ⟨_, rfl⟩
  rw [← hp] at hb ⊢
  have c7 : w.cell? ⟨mb, 7, none⟩ = some (.int .i64 p) := hb.cell 7
  clear h hb hp
  go_enter Tryz.func9, Tryz.ntmps9
  go_wp2
  go_ret
  exact ⟨rfl, rfl⟩
theorem clX_done {k : ClmSt ⊕ Int} (h : ClX P T hd g w mb pb k) : Calls Tryz.prog 8 #[.pointer (some ⟨mb, 0, none⟩)] w fun e w' => e = .returned (.bool (overB k)) ∧ w = w' := by
  obtain ⟨st, tk, nx, hb, hn⟩ := h.blk
  cases k with
  | inl k => obtain ⟨fn, f, q, rfl⟩ := hn; exact claimClaimDone_no (hb.cell 2)
  | inr p => obtain rfl := hn; exact claimClaimDone_yes (hb.cell 2)
/-- The block of the machine that it runs, or ran. -/
def PbOk (w : World) (pb : Nat) : Prop := ∃ c u, Blk w pb c u ∧ (u = 146 ∨ u = 219) ∧ c.size ≠ 1
theorem PbOk.keep {S : Nat → Prop} (h : PbOk w pb) (ho : Only S w w') (hp : ¬ S pb) : PbOk w' pb := by
  obtain ⟨c, u, h1, h2, h3⟩ := h; exact ⟨c, u, h1.only ho hp, h2, h3⟩
theorem PbOk.ne (h : PbOk w pb) {b : Nat} {c : Array Value} {t : TypeId} (hb : Blk w b c t) (h1 : t ≠ 146) (h2 : t ≠ 219) : pb ≠ b := fun e => by
  obtain ⟨c2, u, h3, h4, _⟩ := h
  subst e
  rcases h4 with h4 | h4
  · exact h1 ((hb.uniq h3).2.trans h4)
  · exact h2 ((hb.uniq h3).2.trans h4)
/-- Does it run another machine? -/
def Runs : ClmSt ⊕ Int → Prop
  | .inl (.pop _) => True
  | .inl (.hv _ (.sw _)) => True
  | _ => False
theorem ClX.run {k : ClmSt ⊕ Int} (h : ClX P T hd g w mb pb k) (hr : Runs k) : PbOk w pb := by
  rcases k with k | p
  · cases k with
    | pop k => obtain ⟨n, bp, bm, st, tk, h1, h2⟩ := h; obtain ⟨nx, was, hb, _⟩ := PopX.blk (k := .inl k) h2; exact ⟨_, _, hb, .inl rfl, by simp⟩
    | hv p k =>
      cases k with
      | sw k => obtain ⟨h0, n, h1, h2, h3⟩ := h; obtain ⟨nx, fn, f, c, fr, _, hb⟩ := h3.live; exact ⟨_, _, hb, .inr rfl, by simp⟩
      | _ => exact hr.elim
  · exact hr.elim
/-- A claim at a state, and the block of what it runs, or ran. -/
def ClP (P T hd g : Int) (w : World) (mb pb : Nat) (k : ClmSt ⊕ Int) : Prop := ClX P T hd g w mb pb k ∧ PbOk w pb
theorem ClP.stays (P T hd g : Int) (mb pb : Nat) (k : ClmSt ⊕ Int) : Stays (fun w => ClP P T hd g w mb pb k) := fun a b ho h => by
  obtain ⟨h0, c, u, h1, h2, h3⟩ := h
  exact ⟨ClX.stays _ _ _ _ _ _ _ a b ho h0, c, u, h1.dids ho (by rcases h2 with rfl | rfl <;> decide), h2, h3⟩
theorem ClP.keep {k : ClmSt ⊕ Int} {S : Nat → Prop} (h : ClP P T hd g w mb pb k) (ho : Only S w w') (hm : ¬ S mb) (hp : ¬ S pb) (hs : ∀ b x t, Blk w b #[x] t → ¬ S b) : ClP P T hd g w' mb pb k := ⟨h.1.keep ho hm hp hs, h.2.keep ho hp⟩
theorem ClP.adds {k : ClmSt ⊕ Int} (h : ClP P T hd g w mb pb k) (ho : Adds w w') : ClP P T hd g w' mb pb k := h.keep ho id id (fun _ _ _ _ => id)
/-- What a claim's step leaves. -/
def CQ (P T hd g : Int) (mb pb ab sb sm rb : Nat) (c : Ac) (s : StoreS) (nxt : ClmSt ⊕ Int) (w : World) (e : Ending) (w' : World) : Prop :=
  e = .returned (.agg #[.int .i64 (c.act s).k, .int .i64 (c.act s).pos, .int .u64 (c.act s).old, .int .u64 (c.act s).new]) ∧ ((∃ pb', (pb' = pb ∨ w.heap.size ≤ pb') ∧ ClP P T hd g w' mb pb' nxt) ∧ Yard w' ab sb sm rb P T (c.act s)) ∧ Only (fun j => (SB sb sm j ∨ j = mb) ∨ j = pb) w w'
theorem CQ.st (P T hd g : Int) (mb pb ab sb sm rb : Nat) (s2 : StoreS) (nxt : ClmSt ⊕ Int) (z : Nat) : Stays (fun w' => (∃ pb', (pb' = pb ∨ z ≤ pb') ∧ ClP P T hd g w' mb pb' nxt) ∧ Yard w' ab sb sm rb P T s2) :=
  fun a b ho q => ⟨by obtain ⟨pb', h1, h2⟩ := q.1; exact ⟨pb', h1, ClP.stays _ _ _ _ _ _ _ a b ho h2⟩, Yard.dids q.2 ho⟩
theorem CQ.st0 (P T hd g : Int) (mb pb ab sb sm rb : Nat) (s2 : StoreS) (nxt : ClmSt ⊕ Int) (z : Nat) : Stays (fun w' => (∃ pb', (pb' = pb ∨ (z ≤ pb' ∧ Runs nxt)) ∧ ClX P T hd g w' mb pb' nxt) ∧ Yard w' ab sb sm rb P T s2) :=
  fun a b ho q => ⟨by obtain ⟨pb', h1, h2⟩ := q.1; exact ⟨pb', h1, ClX.stays _ _ _ _ _ _ _ a b ho h2⟩, Yard.dids q.2 ho⟩
theorem CQ.weak {P T hd g : Int} {mb pb ab sb sm rb : Nat} {c : Ac} {s : StoreS} {nxt : ClmSt ⊕ Int} {w : World} {k i o n : Int} {Args cm : Array Value} (hY : Yard w ab sb sm rb P T s) (hpb : PbOk w pb) (hmb : Blk w mb cm 76)
    (hk : (c.act s).k = k ∧ (c.act s).pos = i ∧ (c.act s).old = o ∧ (c.act s).new = n)
    (h : Calls Tryz.prog 7 Args w fun e w' => e = .returned (.agg #[.int .i64 k, .int .i64 i, .int .u64 o, .int .u64 n]) ∧ ((∃ pb', (pb' = pb ∨ (w.heap.size ≤ pb' ∧ Runs nxt)) ∧ ClX P T hd g w' mb pb' nxt) ∧ Yard w' ab sb sm rb P T (c.act s)) ∧ Only (fun j => SB sb sm j ∨ j = mb) w w') :
    Calls Tryz.prog 7 Args w (CQ P T hd g mb pb ab sb sm rb c s nxt w) := by
  obtain ⟨rfl, rfl, rfl, rfl⟩ := hk
  refine h.mono (fun e w' q => ⟨q.1, ⟨?_, q.2.1.2⟩, q.2.2.mono (fun _ _ e => .inl e)⟩)
  obtain ⟨pb', h1, h2⟩ := q.2.1.1
  rcases h1 with rfl | ⟨h1, h3⟩
  · refine ⟨pb', .inl rfl, h2, hpb.keep q.2.2 (fun e => ?_)⟩
    rcases e with (e | e) | e
    · exact hpb.ne hY.st.head (by decide) (by decide) e
    · exact hpb.ne hY.st.row (by decide) (by decide) e
    · exact hpb.ne hmb (by decide) (by decide) e
  · exact ⟨pb', .inr h1, h2, h2.run h3⟩
theorem bd_mb (hY : Yard w ab sb sm rb P T s) {c : Array Value} {u : TypeId} (h : Blk w mb c u) : ∀ j, (SB sb sm j ∨ j = mb) → j < w.heap.size := fun j hj => hj.elim (fun e => e.elim (· ▸ hY.st.head.lt) (· ▸ hY.st.row.lt)) (· ▸ h.lt)
theorem mk_eq {x g k : Int} (h0 : 0 ≤ x) (hg : Ph.cyc g = true) (k0 : 1 ≤ k) (k1 : k ≤ 6) : x = Ph.mk g k ↔ Ph.gen x = g ∧ Ph.ph x = k := by
  have h1 := Ph.cyc_iff.1 hg
  have ok : Ph.okB g k = true := Ph.okB_iff.2 ⟨h1.1, h1.2, k0, k1⟩
  constructor
  · rintro rfl
    obtain ⟨s1, s2, s3, _⟩ := Ph.st_mk ok
    simp [Ph.gen, Ph.ph, s1, s2, s3]
  · rintro ⟨e1, e2⟩
    unfold Ph.gen at e1
    unfold Ph.ph at e2
    cases hs : Ph.st x
    · rw [hs] at e1; simp at e1; omega
    · rw [hs] at e1 e2; simp at e1 e2
      unfold Ph.mk; rw [ok]; simp; omega
end
section
variable {w w' : World} {mb pb ab sb sm rb : Nat} {P T p hd g : Int} {s : StoreS}
theorem CQ.st_l (P T hd g : Int) (mb pb : Nat) (nxt : ClmSt ⊕ Int) (z : Nat) : Stays (fun w' => ∃ pb', (pb' = pb ∨ (z ≤ pb' ∧ Runs nxt)) ∧ ClX P T hd g w' mb pb' nxt) :=
  fun a b ho q => by obtain ⟨pb', h1, h2⟩ := q; exact ⟨pb', h1, ClX.stays _ _ _ _ _ _ _ a b ho h2⟩
theorem clL_held (h : ClA P T hd g w mb pb (.hv p .look)) (hwt : Ph.waits (s.word (pgAt P T 9 p)) g = true) (hpo : PbOk w pb) (hY : Yard w ab sb sm rb P T s) (hbig : 1 < s.ws.length) (hi : s.inR (pgAt P T 9 p)) :
    Calls Tryz.prog 7 #[.pointer (some ⟨mb, 0, none⟩), .pointer (some ⟨ab, 0, none⟩)] w (CQ P T hd g mb pb ab sb sm rb (.load (pgAt P T 9 p)) s (.inl (.hv p (.held (s.word (pgAt P T 9 p))))) w) := by
  obtain ⟨h0, hd'⟩ := h
  have hbm : Blk w mb _ 76 := (Desk.blk hd').choose_spec.1
  have hw := StoreS.word_bd hY.st.fit (pgAt P T 9 p)
  refine CQ.weak hY hpo hbm (by exact ⟨rfl, rfl, rfl, rfl⟩) (claimClaimStep_some (CQ.st0 P T hd g mb pb ab sb sm rb _ (.inl (.hv p (.held (s.word (pgAt P T 9 p))))) w.heap.size) (bd_mb hY hbm) (fun w1 ho => ?_))
  exact Desk.stepLoadZ (clCells P T hd g (pgAt P T 9 p) p (-1) (Ph.mk g 2) (Ph.mk g 6)) (by decide) (hd'.adds ho) (hY.adds ho) hbig hi (CQ.st_l P T hd g mb pb (.inl (.hv p (.held (s.word (pgAt P T 9 p))))) w.heap.size) (enters_of Tryz.func99 (by kernel_rfl) rfl) (fun w2 nx hz hb => (found_held hw.1 hw.2 hwt hb).mono (fun e w3 q => by obtain ⟨q1, jm, q2, q3, q4⟩ := q; exact ⟨q1, ⟨pb, .inl rfl, h0, jm, q2, q3⟩, q4⟩))
theorem clL_hand (h : ClA P T hd g w mb pb (.hv p .look)) (hwt : Ph.waits (s.word (pgAt P T 9 p)) g = false) (hge : Ph.gen (s.word (pgAt P T 9 p)) = g) (hph : Ph.ph (s.word (pgAt P T 9 p)) = 4) (hpo : PbOk w pb) (hY : Yard w ab sb sm rb P T s) (hbig : 1 < s.ws.length) (hi : s.inR (pgAt P T 9 p)) :
    Calls Tryz.prog 7 #[.pointer (some ⟨mb, 0, none⟩), .pointer (some ⟨ab, 0, none⟩)] w (CQ P T hd g mb pb ab sb sm rb (.load (pgAt P T 9 p)) s (.inl (.hv p (.hand (s.word (pgAt P T 9 p))))) w) := by
  obtain ⟨h0, hd'⟩ := h
  have hbm : Blk w mb _ 76 := (Desk.blk hd').choose_spec.1
  have hw := StoreS.word_bd hY.st.fit (pgAt P T 9 p)
  refine CQ.weak hY hpo hbm (by exact ⟨rfl, rfl, rfl, rfl⟩) (claimClaimStep_some (CQ.st0 P T hd g mb pb ab sb sm rb _ (.inl (.hv p (.hand (s.word (pgAt P T 9 p))))) w.heap.size) (bd_mb hY hbm) (fun w1 ho => ?_))
  exact Desk.stepLoadZ (clCells P T hd g (pgAt P T 9 p) p (-1) (Ph.mk g 2) (Ph.mk g 6)) (by decide) (hd'.adds ho) (hY.adds ho) hbig hi (CQ.st_l P T hd g mb pb (.inl (.hv p (.hand (s.word (pgAt P T 9 p))))) w.heap.size) (enters_of Tryz.func99 (by kernel_rfl) rfl) (fun w2 nx hz hb => (found_hand hw.1 hw.2 hwt hge hph hb).mono (fun e w3 q => by obtain ⟨q1, jm, q2, q3, q4⟩ := q; exact ⟨q1, ⟨pb, .inl rfl, h0, jm, q2, q3⟩, q4⟩))
theorem clL_put (h : ClA P T hd g w mb pb (.hv p .look)) (hwt : Ph.waits (s.word (pgAt P T 9 p)) g = false) (hge : Ph.gen (s.word (pgAt P T 9 p)) = g) (hph : Ph.ph (s.word (pgAt P T 9 p)) = 5) (hpo : PbOk w pb) (hY : Yard w ab sb sm rb P T s) (hbig : 1 < s.ws.length) (hi : s.inR (pgAt P T 9 p)) :
    Calls Tryz.prog 7 #[.pointer (some ⟨mb, 0, none⟩), .pointer (some ⟨ab, 0, none⟩)] w (CQ P T hd g mb pb ab sb sm rb (.load (pgAt P T 9 p)) s (.inl (.hv p .put)) w) := by
  obtain ⟨h0, hd'⟩ := h
  have hbm : Blk w mb _ 76 := (Desk.blk hd').choose_spec.1
  have hw := StoreS.word_bd hY.st.fit (pgAt P T 9 p)
  refine CQ.weak hY hpo hbm (by exact ⟨rfl, rfl, rfl, rfl⟩) (claimClaimStep_some (CQ.st0 P T hd g mb pb ab sb sm rb _ (.inl (.hv p .put)) w.heap.size) (bd_mb hY hbm) (fun w1 ho => ?_))
  exact Desk.stepLoadZ (clCells P T hd g (pgAt P T 9 p) p (-1) (Ph.mk g 2) (Ph.mk g 6)) (by decide) (hd'.adds ho) (hY.adds ho) hbig hi (CQ.st_l P T hd g mb pb (.inl (.hv p .put)) w.heap.size) (enters_of Tryz.func99 (by kernel_rfl) rfl) (fun w2 nx hz hb => (found_put hw.1 hw.2 hwt hge hph hb).mono (fun e w3 q => by exact ⟨q.1, ⟨pb, .inl rfl, h0, q.2.1⟩, q.2.2⟩))
theorem clL_other (h : ClA P T hd g w mb pb (.hv p .look)) (hwt : Ph.waits (s.word (pgAt P T 9 p)) g = false) (hge : Ph.gen (s.word (pgAt P T 9 p)) ≠ g) (hh : Lay.isHead P T hd = true) (hpo : PbOk w pb) (hY : Yard w ab sb sm rb P T s) (hbig : 1 < s.ws.length) (hi : s.inR (pgAt P T 9 p)) :
    Calls Tryz.prog 7 #[.pointer (some ⟨mb, 0, none⟩), .pointer (some ⟨ab, 0, none⟩)] w (CQ P T hd g mb pb ab sb sm rb (.load (pgAt P T 9 p)) s (.inl (.pop .load)) w) := by
  obtain ⟨h0, hd'⟩ := h
  have hbm : Blk w mb _ 76 := (Desk.blk hd').choose_spec.1
  have hw := StoreS.word_bd hY.st.fit (pgAt P T 9 p)
  refine CQ.weak hY hpo hbm (by exact ⟨rfl, rfl, rfl, rfl⟩) (claimClaimStep_some (CQ.st0 P T hd g mb pb ab sb sm rb _ (.inl (.pop .load)) w.heap.size) (bd_mb hY hbm) (fun w1 ho => ?_))
  exact Desk.stepLoadZ (clCells P T hd g (pgAt P T 9 p) p (-1) (Ph.mk g 2) (Ph.mk g 6)) (by decide) (hd'.adds ho) (hY.adds ho) hbig hi (CQ.st_l P T hd g mb pb (.inl (.pop .load)) w.heap.size) (enters_of Tryz.func99 (by kernel_rfl) rfl) (fun w2 nx hz hb => (found_other hw.1 hw.2 hwt hge hh hb).mono (fun e w3 q => by obtain ⟨q1, ⟨pb2, n, bp, bm, q2, q3, q4⟩, q5⟩ := q; have hz1 := ho.size; exact ⟨q1, ⟨pb2, .inr ⟨by omega, trivial⟩, n, bp, bm, _, _, q2, ⟨0, q3⟩⟩, q5⟩))
theorem clL_rest (h : ClA P T hd g w mb pb (.hv p .look)) (hwt : Ph.waits (s.word (pgAt P T 9 p)) g = false) (hge : Ph.gen (s.word (pgAt P T 9 p)) = g) (hph : Ph.ph (s.word (pgAt P T 9 p)) ≠ 4 ∧ Ph.ph (s.word (pgAt P T 9 p)) ≠ 5) (hh : Lay.isHead P T hd = true) (hpo : PbOk w pb) (hY : Yard w ab sb sm rb P T s) (hbig : 1 < s.ws.length) (hi : s.inR (pgAt P T 9 p)) :
    Calls Tryz.prog 7 #[.pointer (some ⟨mb, 0, none⟩), .pointer (some ⟨ab, 0, none⟩)] w (CQ P T hd g mb pb ab sb sm rb (.load (pgAt P T 9 p)) s (.inl (.pop .load)) w) := by
  obtain ⟨h0, hd'⟩ := h
  have hbm : Blk w mb _ 76 := (Desk.blk hd').choose_spec.1
  have hw := StoreS.word_bd hY.st.fit (pgAt P T 9 p)
  refine CQ.weak hY hpo hbm (by exact ⟨rfl, rfl, rfl, rfl⟩) (claimClaimStep_some (CQ.st0 P T hd g mb pb ab sb sm rb _ (.inl (.pop .load)) w.heap.size) (bd_mb hY hbm) (fun w1 ho => ?_))
  exact Desk.stepLoadZ (clCells P T hd g (pgAt P T 9 p) p (-1) (Ph.mk g 2) (Ph.mk g 6)) (by decide) (hd'.adds ho) (hY.adds ho) hbig hi (CQ.st_l P T hd g mb pb (.inl (.pop .load)) w.heap.size) (enters_of Tryz.func99 (by kernel_rfl) rfl) (fun w2 nx hz hb => (found_rest hw.1 hw.2 hwt hge hph hh hb).mono (fun e w3 q => by obtain ⟨q1, ⟨pb2, n, bp, bm, q2, q3, q4⟩, q5⟩ := q; have hz1 := ho.size; exact ⟨q1, ⟨pb2, .inr ⟨by omega, trivial⟩, n, bp, bm, _, _, q2, ⟨0, q3⟩⟩, q5⟩))
theorem clHeld_win {v : Int} (h : ClA P T hd g w mb pb (.hv p (.held v))) (hx : s.word (pgAt P T 9 p) = v) (hok : (Lay.may P T && decide (0 ≤ p ∧ p < P)) = true) (hpo : PbOk w pb) (hY : Yard w ab sb sm rb P T s) (hbig : 1 < s.ws.length) (hi : s.inR (pgAt P T 9 p)) :
    Calls Tryz.prog 7 #[.pointer (some ⟨mb, 0, none⟩), .pointer (some ⟨ab, 0, none⟩)] w (CQ P T hd g mb pb ab sb sm rb (.cas (pgAt P T 9 p) v (Ph.mk g 2)) s (.inl (.hv p (.sw .mark))) w) := by
  obtain ⟨h0, jm, hjm, hd'⟩ := h
  have hbm : Blk w mb _ 76 := (Desk.blk hd').choose_spec.1
  have e1 : (Ac.cas (pgAt P T 9 p) v (Ph.mk g 2)).act s = s.acc 3 (pgAt P T 9 p) (Ph.mk g 2) := by simp only [Ac.act]; rw [if_pos hx]
  refine CQ.weak hY hpo hbm (by rw [e1]; exact ⟨rfl, rfl, rfl, rfl⟩) (claimClaimStep_some (CQ.st0 P T hd g mb pb ab sb sm rb _ (.inl (.hv p (.sw .mark))) w.heap.size) (bd_mb hY hbm) (fun w1 ho => ?_))
  rw [e1]
  exact Desk.stepCasWinZ (clCells P T hd g (pgAt P T 9 p) p (-1) (Ph.mk g 2) (Ph.mk g 6)) (by decide) (hd'.adds ho) (hY.adds ho) hbig hi hx (Ph.mk_bd g 2) (CQ.st_l P T hd g mb pb (.inl (.hv p (.sw .mark))) w.heap.size) (enters_of Tryz.func152 (by kernel_rfl) rfl) (fun w2 nx hz hk hb => (held_won hok (hk _ _ _ (hjm.only ho id)) hb).mono (fun e w3 q => by obtain ⟨q1, ⟨sb2, n, q2, q3, q4, q5⟩, q6⟩ := q; have hz1 := ho.size; exact ⟨q1, ⟨sb2, .inr ⟨by omega, trivial⟩, h0, n, q2, q3, q4⟩, q6⟩))
theorem clHeld_lost {v : Int} (h : ClA P T hd g w mb pb (.hv p (.held v))) (hx : s.word (pgAt P T 9 p) ≠ v)  (hpo : PbOk w pb) (hY : Yard w ab sb sm rb P T s) (hbig : 1 < s.ws.length) (hi : s.inR (pgAt P T 9 p)) :
    Calls Tryz.prog 7 #[.pointer (some ⟨mb, 0, none⟩), .pointer (some ⟨ab, 0, none⟩)] w (CQ P T hd g mb pb ab sb sm rb (.cas (pgAt P T 9 p) v (Ph.mk g 2)) s (.inl (.hv p .look)) w) := by
  obtain ⟨h0, jm, hjm, hd'⟩ := h
  have hbm : Blk w mb _ 76 := (Desk.blk hd').choose_spec.1
  have e1 : (Ac.cas (pgAt P T 9 p) v (Ph.mk g 2)).act s = s.acc 4 (pgAt P T 9 p) (s.word (pgAt P T 9 p)) := by simp only [Ac.act]; rw [if_neg hx]
  refine CQ.weak hY hpo hbm (by rw [e1]; exact ⟨rfl, rfl, rfl, rfl⟩) (claimClaimStep_some (CQ.st0 P T hd g mb pb ab sb sm rb _ (.inl (.hv p .look)) w.heap.size) (bd_mb hY hbm) (fun w1 ho => ?_))
  rw [e1]
  exact Desk.stepCasLost (clCells P T hd g (pgAt P T 9 p) p (-1) (Ph.mk g 2) (Ph.mk g 6)) (by decide) (hd'.adds ho) (hY.adds ho) hbig hi hx (CQ.st_l P T hd g mb pb (.inl (.hv p .look)) w.heap.size) (enters_of Tryz.func152 (by kernel_rfl) rfl) (fun w2 nx hk hb _ => (held_lost (hk _ _ _ (hjm.only ho id)) hb).mono (fun e w3 q => by exact ⟨q.1, ⟨pb, .inl rfl, h0, q.2.1⟩, q.2.2⟩))
theorem clHand_win {v : Int} (h : ClA P T hd g w mb pb (.hv p (.hand v))) (hx : s.word (pgAt P T 9 p) = v) (hh : Lay.isHead P T hd = true) (hpo : PbOk w pb) (hY : Yard w ab sb sm rb P T s) (hbig : 1 < s.ws.length) (hi : s.inR (pgAt P T 9 p)) :
    Calls Tryz.prog 7 #[.pointer (some ⟨mb, 0, none⟩), .pointer (some ⟨ab, 0, none⟩)] w (CQ P T hd g mb pb ab sb sm rb (.cas (pgAt P T 9 p) v (Ph.mk g 6)) s (.inl (.pop .load)) w) := by
  obtain ⟨h0, jm, hjm, hd'⟩ := h
  have hbm : Blk w mb _ 76 := (Desk.blk hd').choose_spec.1
  have e1 : (Ac.cas (pgAt P T 9 p) v (Ph.mk g 6)).act s = s.acc 3 (pgAt P T 9 p) (Ph.mk g 6) := by simp only [Ac.act]; rw [if_pos hx]
  refine CQ.weak hY hpo hbm (by rw [e1]; exact ⟨rfl, rfl, rfl, rfl⟩) (claimClaimStep_some (CQ.st0 P T hd g mb pb ab sb sm rb _ (.inl (.pop .load)) w.heap.size) (bd_mb hY hbm) (fun w1 ho => ?_))
  rw [e1]
  exact Desk.stepCasWinZ (clCells P T hd g (pgAt P T 9 p) p (-1) (Ph.mk g 2) (Ph.mk g 6)) (by decide) (hd'.adds ho) (hY.adds ho) hbig hi hx (Ph.mk_bd g 6) (CQ.st_l P T hd g mb pb (.inl (.pop .load)) w.heap.size) (enters_of Tryz.func157 (by kernel_rfl) rfl) (fun w2 nx hz hk hb => (hand_won hh (hk _ _ _ (hjm.only ho id)) hb).mono (fun e w3 q => by obtain ⟨q1, ⟨pb2, n, bp, bm, q2, q3, q4⟩, q5⟩ := q; have hz1 := ho.size; exact ⟨q1, ⟨pb2, .inr ⟨by omega, trivial⟩, n, bp, bm, _, _, q2, ⟨0, q3⟩⟩, q5⟩))
theorem clHand_lost {v : Int} (h : ClA P T hd g w mb pb (.hv p (.hand v))) (hx : s.word (pgAt P T 9 p) ≠ v)  (hpo : PbOk w pb) (hY : Yard w ab sb sm rb P T s) (hbig : 1 < s.ws.length) (hi : s.inR (pgAt P T 9 p)) :
    Calls Tryz.prog 7 #[.pointer (some ⟨mb, 0, none⟩), .pointer (some ⟨ab, 0, none⟩)] w (CQ P T hd g mb pb ab sb sm rb (.cas (pgAt P T 9 p) v (Ph.mk g 6)) s (.inl (.hv p .look)) w) := by
  obtain ⟨h0, jm, hjm, hd'⟩ := h
  have hbm : Blk w mb _ 76 := (Desk.blk hd').choose_spec.1
  have e1 : (Ac.cas (pgAt P T 9 p) v (Ph.mk g 6)).act s = s.acc 4 (pgAt P T 9 p) (s.word (pgAt P T 9 p)) := by simp only [Ac.act]; rw [if_neg hx]
  refine CQ.weak hY hpo hbm (by rw [e1]; exact ⟨rfl, rfl, rfl, rfl⟩) (claimClaimStep_some (CQ.st0 P T hd g mb pb ab sb sm rb _ (.inl (.hv p .look)) w.heap.size) (bd_mb hY hbm) (fun w1 ho => ?_))
  rw [e1]
  exact Desk.stepCasLost (clCells P T hd g (pgAt P T 9 p) p (-1) (Ph.mk g 2) (Ph.mk g 6)) (by decide) (hd'.adds ho) (hY.adds ho) hbig hi hx (CQ.st_l P T hd g mb pb (.inl (.hv p .look)) w.heap.size) (enters_of Tryz.func157 (by kernel_rfl) rfl) (fun w2 nx hk hb _ => (hand_lost (hk _ _ _ (hjm.only ho id)) hb).mono (fun e w3 q => by exact ⟨q.1, ⟨pb, .inl rfl, h0, q.2.1⟩, q.2.2⟩))
theorem clPut (h : ClA P T hd g w mb pb (.hv p .put)) (hpo : PbOk w pb) (hY : Yard w ab sb sm rb P T s) (hbig : 1 < s.ws.length) (hi : s.inR (pgAt P T 9 p)) :
    Calls Tryz.prog 7 #[.pointer (some ⟨mb, 0, none⟩), .pointer (some ⟨ab, 0, none⟩)] w (CQ P T hd g mb pb ab sb sm rb (.put (pgAt P T 9 p) (Ph.mk g 2)) s (.inr p) w) := by
  obtain ⟨h0, hd'⟩ := h
  have hbm : Blk w mb _ 76 := (Desk.blk hd').choose_spec.1
  refine CQ.weak hY hpo hbm (by exact ⟨rfl, rfl, rfl, rfl⟩) (claimClaimStep_some (CQ.st0 P T hd g mb pb ab sb sm rb _ (.inr p) w.heap.size) (bd_mb hY hbm) (fun w1 ho => ?_))
  exact Desk.stepPut (clCells P T hd g (pgAt P T 9 p) p (-1) (Ph.mk g 2) (Ph.mk g 6)) (by decide) (hd'.adds ho) (hY.adds ho) hbig hi (Ph.mk_bd g 2) (CQ.st_l P T hd g mb pb (.inr p) w.heap.size) (enters_of Tryz.func154 (by kernel_rfl) rfl) (fun w2 nx hk hb => (claimHad_any hb).mono (fun e w3 q => ⟨q.1, ⟨pb, .inl rfl, _, _, q.2.1⟩, q.2.2⟩))
end
section
variable {w w' : World} {mb pb ab sb sm rb : Nat} {P T p hd g : Int} {s : StoreS}
theorem ne_key {mty : TypeId} {c0 : Array Value} (hY : Yard w ab sb sm rb P T s) (hpb : Blk w pb c0 mty) {b : Nat} {c : Array Value} {t : TypeId} (hb : Blk w b c t) (h1 : t ≠ 110) (h2 : t ≠ 39) (h3 : t ≠ 107) (h4 : t ≠ mty) : ¬ (SB sb sm b ∨ b = pb) := fun e => by
  have hm := hY.mach hb h1 h2 h3
  rcases e with (e | e) | e
  · exact hm.2.1 e
  · exact hm.2.2 e
  · subst e; exact h4 (hb.uniq hpb).2
theorem bd_pb {c0 : Array Value} {mty : TypeId} (hY : Yard w ab sb sm rb P T s) (hpb : Blk w pb c0 mty) : ∀ j, (SB sb sm j ∨ j = pb) → j < w.heap.size := fun j hj => hj.elim (fun e => e.elim (· ▸ hY.st.head.lt) (· ▸ hY.st.row.lt)) (· ▸ hpb.lt)
theorem ne_mb (hY : Yard w ab sb sm rb P T s) {c : Array Value} (h : Blk w mb c 76) : ab ≠ mb ∧ sb ≠ mb ∧ sm ≠ mb := by
  have := hY.mach h (by decide) (by decide) (by decide)
  exact ⟨this.1.symm, this.2.1.symm, this.2.2.symm⟩
set_option maxHeartbeats 1000000 in
theorem clPop_on {k k1 : PopSt} (h : ClA P T hd g w mb pb (.pop k)) (hY : Yard w ab sb sm rb P T s) (hlen : s.ws.length = (Lay.words P T).toNat) (hh : HD P T hd) (hN : (popA P T hd).nx k (s.word ((popA P T hd).ac k).pos) = .inl k1) :
    Calls Tryz.prog 7 #[.pointer (some ⟨mb, 0, none⟩), .pointer (some ⟨ab, 0, none⟩)] w (CQ P T hd g mb pb ab sb sm rb ((popA P T hd).ac k) s (.inl (.pop k1)) w) := by
  obtain ⟨n, bp, bm, st, tk, hc, hp⟩ := h
  obtain ⟨nxp, was, hpb, -⟩ := PopX.blk (k := .inl k) hp
  have hm := hc.m
  have kp := fun {b : Nat} {c : Array Value} {t : TypeId} (hb : Blk w b c t) (h1 : t ≠ 110) (h2 : t ≠ 39) (h3 : t ≠ 107) (h4 : t ≠ 146) => ne_key hY hpb hb h1 h2 h3 h4
  have nm := kp hc.m (by decide) (by decide) (by decide) (by decide)
  have n0 := kp hc.r.b0 (by decide) (by decide) (by decide) (by decide)
  have n1 := kp hc.r.b1 (by decide) (by decide) (by decide) (by decide)
  have n2 := kp hc.p (by decide) (by decide) (by decide) (by decide)
  have n3 := kp hc.b (by decide) (by decide) (by decide) (by decide)
  have lS := bd_pb hY hpb
  have lmb : mb < w.heap.size := hm.lt
  have lA : ∀ j, (SB sb sm j ∨ j = mb) ∨ j = pb → j < w.heap.size := fun j hj => hj.elim (fun e => e.elim (fun e => lS j (.inl e)) (fun e => e ▸ lmb)) (fun e => lS j (.inr e))
  refine claimClaimStep_some (CQ.st P T hd g mb pb ab sb sm rb _ (.inl (.pop k1)) w.heap.size) (S := fun j => (SB sb sm j ∨ j = mb) ∨ j = pb) lA (fun w1 ho1 => ?_)
  refine deskStep_live (K := 98) ((hm.only ho1 id).cell 2) ((hm.only ho1 id).cell 0) ((hm.only ho1 id).cell 1) (hY.ar.only ho1 id) (CQ.st P T hd g mb pb ab sb sm rb _ (.inl (.pop k1)) w.heap.size) (fun j e => Nat.lt_of_lt_of_le (lA j e) ho1.size) (enters_of Tryz.func98 (by kernel_rfl) rfl) (fun w2 ho2 => ?_)
  have hA := ho1.thenF ho2
  have hY2 := hY.adds hA
  have lS2 : ∀ j, (SB sb sm j ∨ j = pb) → j < w2.heap.size := fun j e => Nat.lt_of_lt_of_le (lS j e) hA.size
  have lM2 : ∀ j, j = mb → j < w2.heap.size := fun j e => e ▸ Nat.lt_of_lt_of_le lmb hA.size
  refine (run1_pop_on (Q := fun W => PopX P T hd W pb (.inl k1) ∧ Yard W ab sb sm rb P T (((popA P T hd).ac k).act s)) (S := fun j => SB sb sm j ∨ j = pb) (hc.adds hA).r ((PopX.stays _ _ _ _ _).and (fun _ _ ho h => Yard.dids h ho)) lS2 n0 n1
    (fun w3 ho3 => by have := popA_step hh (PopA.keep hp (hA.thenF ho3) id (fun _ _ _ _ => id)) (hY2.adds ho3) hlen (by rw [hN]; simp); rw [hN] at this; exact this) (fun W hq => popX_done hq.1)).mono ?_
  rintro e w4 ⟨he, ⟨q1, q2⟩, ho4⟩
  have h2 := hc.adds hA
  have hX : ClX P T hd g w4 mb pb (.inl (.pop k1)) := ⟨n, bp, bm, st, tk, ⟨h2.m.only ho4 nm, ⟨h2.r.b0.only ho4 n0, h2.r.b1.only ho4 n1⟩, h2.p.only ho4 n2, h2.b.only ho4 n3⟩, q1⟩
  exact ⟨he, ⟨⟨pb, .inl rfl, hX, hX.run trivial⟩, q2⟩, ho4.mono (fun _ _ e => e.elim (fun e => .inl (.inl e)) .inr)⟩
set_option maxHeartbeats 1000000 in
theorem clPop_none {k : PopSt} (h : ClA P T hd g w mb pb (.pop k)) (hY : Yard w ab sb sm rb P T s) (hlen : s.ws.length = (Lay.words P T).toNat) (hh : HD P T hd) (hN : (popA P T hd).nx k (s.word ((popA P T hd).ac k).pos) = .inr (-1)) :
    Calls Tryz.prog 7 #[.pointer (some ⟨mb, 0, none⟩), .pointer (some ⟨ab, 0, none⟩)] w (CQ P T hd g mb pb ab sb sm rb ((popA P T hd).ac k) s (.inr (-1)) w) := by
  obtain ⟨n, bp, bm, st, tk, hc, hp⟩ := h
  obtain ⟨nxp, was, hpb, -⟩ := PopX.blk (k := .inl k) hp
  have hm := hc.m
  have kp := fun {b : Nat} {c : Array Value} {t : TypeId} (hb : Blk w b c t) (h1 : t ≠ 110) (h2 : t ≠ 39) (h3 : t ≠ 107) (h4 : t ≠ 146) => ne_key hY hpb hb h1 h2 h3 h4
  have nm := kp hc.m (by decide) (by decide) (by decide) (by decide)
  have n0 := kp hc.r.b0 (by decide) (by decide) (by decide) (by decide)
  have n1 := kp hc.r.b1 (by decide) (by decide) (by decide) (by decide)
  have n2 := kp hc.p (by decide) (by decide) (by decide) (by decide)
  have n3 := kp hc.b (by decide) (by decide) (by decide) (by decide)
  have lS := bd_pb hY hpb
  have lmb : mb < w.heap.size := hm.lt
  have lA : ∀ j, (SB sb sm j ∨ j = mb) ∨ j = pb → j < w.heap.size := fun j hj => hj.elim (fun e => e.elim (fun e => lS j (.inl e)) (fun e => e ▸ lmb)) (fun e => lS j (.inr e))
  refine claimClaimStep_some (CQ.st P T hd g mb pb ab sb sm rb _ (.inr (-1)) w.heap.size) (S := fun j => (SB sb sm j ∨ j = mb) ∨ j = pb) lA (fun w1 ho1 => ?_)
  refine deskStep_live (K := 98) ((hm.only ho1 id).cell 2) ((hm.only ho1 id).cell 0) ((hm.only ho1 id).cell 1) (hY.ar.only ho1 id) (CQ.st P T hd g mb pb ab sb sm rb _ (.inr (-1)) w.heap.size) (fun j e => Nat.lt_of_lt_of_le (lA j e) ho1.size) (enters_of Tryz.func98 (by kernel_rfl) rfl) (fun w2 ho2 => ?_)
  have hA := ho1.thenF ho2
  have hY2 := hY.adds hA
  have lS2 : ∀ j, (SB sb sm j ∨ j = pb) → j < w2.heap.size := fun j e => Nat.lt_of_lt_of_le (lS j e) hA.size
  have lM2 : ∀ j, j = mb → j < w2.heap.size := fun j e => e ▸ Nat.lt_of_lt_of_le lmb hA.size
  refine (run1_pop (K := 50) (Q := fun W => PopX P T hd W pb (.inr (-1)) ∧ Yard W ab sb sm rb P T (((popA P T hd).ac k).act s)) (R := fun W => (∃ pb', (pb' = pb ∨ w.heap.size ≤ pb') ∧ ClP P T hd g W mb pb' (.inr (-1))) ∧ Yard W ab sb sm rb P T (((popA P T hd).ac k).act s)) (S := fun j => SB sb sm j ∨ j = pb) (M := fun j => j = mb) (hc.adds hA).r ((PopX.stays _ _ _ _ _).and (fun _ _ ho h => Yard.dids h ho)) (CQ.st P T hd g mb pb ab sb sm rb _ (.inr (-1)) w.heap.size) lS2 lM2 n0 n1
    (fun w3 ho3 => by have := popA_step hh (PopA.keep hp (hA.thenF ho3) id (fun _ _ _ _ => id)) (hY2.adds ho3) hlen (by rw [hN]; simp; done); rw [hN] at this; exact this) (fun W hq => popX_done hq.1) (enters_of Tryz.func50 (by kernel_rfl) rfl) (fun W ho hq => ?_)).mono ?_
  · have h2 := hc.adds hA
    have hmW := h2.m.only ho nm
    have hpo : PbOk W pb := by obtain ⟨nx2, was3, hb2, _⟩ := hq.1.blk; exact ⟨_, _, hb2, .inl rfl, by simp⟩
    obtain ⟨was2, hw2⟩ := hq.1
    refine (claimTaken_none hw2 (h2.p.only ho n2) (h2.b.only ho n3) hmW).mono ?_
    rintro e w5 ⟨q1, q2, q3⟩
    have hmm := ne_mb hq.2 hmW
    exact ⟨q1, ⟨⟨pb, .inl rfl, ⟨_, _, q2⟩, hpo.keep q3 (hpo.ne hmW (by decide) (by decide))⟩, hq.2.only q3 hmm.1 hmm.2.1 hmm.2.2⟩, q3⟩
  · rintro e w4 ⟨he, hq, ho4⟩
    exact ⟨he, hq, ho4.mono (fun _ _ e => e.elim (fun e => e.elim (fun e => .inl (.inl e)) .inr) (fun e => .inl (.inr e)))⟩
set_option maxHeartbeats 1000000 in
theorem clPop_some {k : PopSt} (h : ClA P T hd g w mb pb (.pop k)) (hY : Yard w ab sb sm rb P T s) (hlen : s.ws.length = (Lay.words P T).toNat) (hh : HD P T hd) (hp0 : 0 ≤ p) (hp1 : p < P) (hN : (popA P T hd).nx k (s.word ((popA P T hd).ac k).pos) = .inr p) :
    Calls Tryz.prog 7 #[.pointer (some ⟨mb, 0, none⟩), .pointer (some ⟨ab, 0, none⟩)] w (CQ P T hd g mb pb ab sb sm rb ((popA P T hd).ac k) s (.inl (.hv p .look)) w) := by
  obtain ⟨n, bp, bm, st, tk, hc, hp⟩ := h
  obtain ⟨nxp, was, hpb, -⟩ := PopX.blk (k := .inl k) hp
  have hm := hc.m
  have kp := fun {b : Nat} {c : Array Value} {t : TypeId} (hb : Blk w b c t) (h1 : t ≠ 110) (h2 : t ≠ 39) (h3 : t ≠ 107) (h4 : t ≠ 146) => ne_key hY hpb hb h1 h2 h3 h4
  have nm := kp hc.m (by decide) (by decide) (by decide) (by decide)
  have n0 := kp hc.r.b0 (by decide) (by decide) (by decide) (by decide)
  have n1 := kp hc.r.b1 (by decide) (by decide) (by decide) (by decide)
  have n2 := kp hc.p (by decide) (by decide) (by decide) (by decide)
  have n3 := kp hc.b (by decide) (by decide) (by decide) (by decide)
  have lS := bd_pb hY hpb
  have lmb : mb < w.heap.size := hm.lt
  have lA : ∀ j, (SB sb sm j ∨ j = mb) ∨ j = pb → j < w.heap.size := fun j hj => hj.elim (fun e => e.elim (fun e => lS j (.inl e)) (fun e => e ▸ lmb)) (fun e => lS j (.inr e))
  refine claimClaimStep_some (CQ.st P T hd g mb pb ab sb sm rb _ (.inl (.hv p .look)) w.heap.size) (S := fun j => (SB sb sm j ∨ j = mb) ∨ j = pb) lA (fun w1 ho1 => ?_)
  refine deskStep_live (K := 98) ((hm.only ho1 id).cell 2) ((hm.only ho1 id).cell 0) ((hm.only ho1 id).cell 1) (hY.ar.only ho1 id) (CQ.st P T hd g mb pb ab sb sm rb _ (.inl (.hv p .look)) w.heap.size) (fun j e => Nat.lt_of_lt_of_le (lA j e) ho1.size) (enters_of Tryz.func98 (by kernel_rfl) rfl) (fun w2 ho2 => ?_)
  have hA := ho1.thenF ho2
  have hY2 := hY.adds hA
  have lS2 : ∀ j, (SB sb sm j ∨ j = pb) → j < w2.heap.size := fun j e => Nat.lt_of_lt_of_le (lS j e) hA.size
  have lM2 : ∀ j, j = mb → j < w2.heap.size := fun j e => e ▸ Nat.lt_of_lt_of_le lmb hA.size
  refine (run1_pop (K := 50) (Q := fun W => PopX P T hd W pb (.inr p) ∧ Yard W ab sb sm rb P T (((popA P T hd).ac k).act s)) (R := fun W => (∃ pb', (pb' = pb ∨ w.heap.size ≤ pb') ∧ ClP P T hd g W mb pb' (.inl (.hv p .look))) ∧ Yard W ab sb sm rb P T (((popA P T hd).ac k).act s)) (S := fun j => SB sb sm j ∨ j = pb) (M := fun j => j = mb) (hc.adds hA).r ((PopX.stays _ _ _ _ _).and (fun _ _ ho h => Yard.dids h ho)) (CQ.st P T hd g mb pb ab sb sm rb _ (.inl (.hv p .look)) w.heap.size) lS2 lM2 n0 n1
    (fun w3 ho3 => by have := popA_step hh (PopA.keep hp (hA.thenF ho3) id (fun _ _ _ _ => id)) (hY2.adds ho3) hlen (by rw [hN]; simp; omega); rw [hN] at this; exact this) (fun W hq => popX_done hq.1) (enters_of Tryz.func50 (by kernel_rfl) rfl) (fun W ho hq => ?_)).mono ?_
  · have h2 := hc.adds hA
    have hmW := h2.m.only ho nm
    have hpo : PbOk W pb := by obtain ⟨nx2, was3, hb2, _⟩ := hq.1.blk; exact ⟨_, _, hb2, .inl rfl, by simp⟩
    refine (taken_some hq.1 hp0 (pgAt_eq (k := 9) hh.may (by decide) (by decide) hp0 hp1).2.1 (h2.p.only ho n2) (h2.b.only ho n3) hmW).mono ?_
    rintro e w5 ⟨q1, q2, q3⟩
    have hmm := ne_mb hq.2 hmW
    exact ⟨q1, ⟨⟨pb, .inl rfl, ⟨⟨hp0, hp1⟩, q2⟩, hpo.keep q3 (hpo.ne hmW (by decide) (by decide))⟩, hq.2.only q3 hmm.1 hmm.2.1 hmm.2.2⟩, q3⟩
  · rintro e w4 ⟨he, hq, ho4⟩
    exact ⟨he, hq, ho4.mono (fun _ _ e => e.elim (fun e => e.elim (fun e => .inl (.inl e)) .inr) (fun e => .inl (.inr e)))⟩
set_option maxHeartbeats 1000000 in
theorem clSw_on {k k1 : SwpSt} (h : ClA P T hd g w mb pb (.hv p (.sw k))) (hY : Yard w ab sb sm rb P T s) (hlen : s.ws.length = (Lay.words P T).toNat) (hm0 : Lay.may P T = true) (hN : (sweepA P T p).nx k (s.word ((sweepA P T p).ac k).pos) = .inl k1) :
    Calls Tryz.prog 7 #[.pointer (some ⟨mb, 0, none⟩), .pointer (some ⟨ab, 0, none⟩)] w (CQ P T hd g mb pb ab sb sm rb ((sweepA P T p).ac k) s (.inl (.hv p (.sw k1))) w) := by
  obtain ⟨h0, n, hm, hr, hp⟩ := h
  obtain ⟨nxp, fn0, f0, c0, fr0, -, hpb⟩ := SwA.live hp
  have kp := fun {b : Nat} {c : Array Value} {t : TypeId} (hb : Blk w b c t) (h1 : t ≠ 110) (h2 : t ≠ 39) (h3 : t ≠ 107) (h4 : t ≠ 219) => ne_key hY hpb hb h1 h2 h3 h4
  have nm := kp hm (by decide) (by decide) (by decide) (by decide)
  have n0 := kp hr.b0 (by decide) (by decide) (by decide) (by decide)
  have n1 := kp hr.b1 (by decide) (by decide) (by decide) (by decide)
  have lS := bd_pb hY hpb
  have lmb : mb < w.heap.size := hm.lt
  have lA : ∀ j, (SB sb sm j ∨ j = mb) ∨ j = pb → j < w.heap.size := fun j hj => hj.elim (fun e => e.elim (fun e => lS j (.inl e)) (fun e => e ▸ lmb)) (fun e => lS j (.inr e))
  refine claimClaimStep_some (CQ.st P T hd g mb pb ab sb sm rb _ (.inl (.hv p (.sw k1))) w.heap.size) (S := fun j => (SB sb sm j ∨ j = mb) ∨ j = pb) lA (fun w1 ho1 => ?_)
  refine deskStep_live (K := 98) ((hm.only ho1 id).cell 2) ((hm.only ho1 id).cell 0) ((hm.only ho1 id).cell 1) (hY.ar.only ho1 id) (CQ.st P T hd g mb pb ab sb sm rb _ (.inl (.hv p (.sw k1))) w.heap.size) (fun j e => Nat.lt_of_lt_of_le (lA j e) ho1.size) (enters_of Tryz.func98 (by kernel_rfl) rfl) (fun w2 ho2 => ?_)
  have hA := ho1.thenF ho2
  have hY2 := hY.adds hA
  have lS2 : ∀ j, (SB sb sm j ∨ j = pb) → j < w2.heap.size := fun j e => Nat.lt_of_lt_of_le (lS j e) hA.size
  have lM2 : ∀ j, j = mb → j < w2.heap.size := fun j e => e ▸ Nat.lt_of_lt_of_le lmb hA.size
  refine (run1_sweep_on (Q := fun W => SwX P T p W pb (.inl k1) ∧ Yard W ab sb sm rb P T (((sweepA P T p).ac k).act s)) (S := fun j => SB sb sm j ∨ j = pb) (hr.adds hA) ((SwX.stays _ _ _ _ _).and (fun _ _ ho h => Yard.dids h ho)) lS2 n0 n1
    (fun w3 ho3 => by have := swA_step hm0 h0.1 h0.2 (SwA.keep hp (hA.thenF ho3) id (fun _ _ _ _ => id)) (hY2.adds ho3) hlen; rw [hN] at this; exact this) (fun W hq => swX_done hq.1)).mono ?_
  rintro e w4 ⟨he, ⟨q1, q2⟩, ho4⟩
  have h2 := hr.adds hA
  have hX : ClX P T hd g w4 mb pb (.inl (.hv p (.sw k1))) := ⟨h0, n, (hm.only hA id).only ho4 nm, ⟨h2.b0.only ho4 n0, h2.b1.only ho4 n1⟩, q1⟩
  exact ⟨he, ⟨⟨pb, .inl rfl, hX, hX.run trivial⟩, q2⟩, ho4.mono (fun _ _ e => e.elim (fun e => .inl (.inl e)) .inr)⟩
set_option maxHeartbeats 1000000 in
theorem clSw_end {k : SwpSt} (h : ClA P T hd g w mb pb (.hv p (.sw k))) (hY : Yard w ab sb sm rb P T s) (hlen : s.ws.length = (Lay.words P T).toNat) (hm0 : Lay.may P T = true) {fr : Int} (hN : (sweepA P T p).nx k (s.word ((sweepA P T p).ac k).pos) = .inr fr) :
    Calls Tryz.prog 7 #[.pointer (some ⟨mb, 0, none⟩), .pointer (some ⟨ab, 0, none⟩)] w (CQ P T hd g mb pb ab sb sm rb ((sweepA P T p).ac k) s (.inr p) w) := by
  obtain ⟨h0, n, hm, hr, hp⟩ := h
  obtain ⟨nxp, fn0, f0, c0, fr0, -, hpb⟩ := SwA.live hp
  have kp := fun {b : Nat} {c : Array Value} {t : TypeId} (hb : Blk w b c t) (h1 : t ≠ 110) (h2 : t ≠ 39) (h3 : t ≠ 107) (h4 : t ≠ 219) => ne_key hY hpb hb h1 h2 h3 h4
  have nm := kp hm (by decide) (by decide) (by decide) (by decide)
  have n0 := kp hr.b0 (by decide) (by decide) (by decide) (by decide)
  have n1 := kp hr.b1 (by decide) (by decide) (by decide) (by decide)
  have lS := bd_pb hY hpb
  have lmb : mb < w.heap.size := hm.lt
  have lA : ∀ j, (SB sb sm j ∨ j = mb) ∨ j = pb → j < w.heap.size := fun j hj => hj.elim (fun e => e.elim (fun e => lS j (.inl e)) (fun e => e ▸ lmb)) (fun e => lS j (.inr e))
  refine claimClaimStep_some (CQ.st P T hd g mb pb ab sb sm rb _ (.inr p) w.heap.size) (S := fun j => (SB sb sm j ∨ j = mb) ∨ j = pb) lA (fun w1 ho1 => ?_)
  refine deskStep_live (K := 98) ((hm.only ho1 id).cell 2) ((hm.only ho1 id).cell 0) ((hm.only ho1 id).cell 1) (hY.ar.only ho1 id) (CQ.st P T hd g mb pb ab sb sm rb _ (.inr p) w.heap.size) (fun j e => Nat.lt_of_lt_of_le (lA j e) ho1.size) (enters_of Tryz.func98 (by kernel_rfl) rfl) (fun w2 ho2 => ?_)
  have hA := ho1.thenF ho2
  have hY2 := hY.adds hA
  have lS2 : ∀ j, (SB sb sm j ∨ j = pb) → j < w2.heap.size := fun j e => Nat.lt_of_lt_of_le (lS j e) hA.size
  have lM2 : ∀ j, j = mb → j < w2.heap.size := fun j e => e ▸ Nat.lt_of_lt_of_le lmb hA.size
  refine (run1_sweep (K := 154) (Q := fun W => SwX P T p W pb (.inr fr) ∧ Yard W ab sb sm rb P T (((sweepA P T p).ac k).act s)) (R := fun W => (∃ pb', (pb' = pb ∨ w.heap.size ≤ pb') ∧ ClP P T hd g W mb pb' (.inr p)) ∧ Yard W ab sb sm rb P T (((sweepA P T p).ac k).act s)) (S := fun j => SB sb sm j ∨ j = pb) (M := fun j => j = mb) (hr.adds hA) ((SwX.stays _ _ _ _ _).and (fun _ _ ho h => Yard.dids h ho)) (CQ.st P T hd g mb pb ab sb sm rb _ (.inr p) w.heap.size) lS2 lM2 n0 n1
    (fun w3 ho3 => by have := swA_step hm0 h0.1 h0.2 (SwA.keep hp (hA.thenF ho3) id (fun _ _ _ _ => id)) (hY2.adds ho3) hlen; rw [hN] at this; exact this) (fun W hq => swX_done hq.1) (enters_of Tryz.func154 (by kernel_rfl) rfl) (fun W ho hq => ?_)).mono ?_
  · have hmW := (hm.only hA id).only ho nm
    have hpo : PbOk W pb := ⟨_, _, (show Blk W pb (swCells P T .nilFunc fr) 219 from hq.1), .inr rfl, by simp⟩
    refine (claimHad_any hmW).mono ?_
    rintro e w5 ⟨q1, q2, q3⟩
    have hmm := ne_mb hq.2 hmW
    exact ⟨q1, ⟨⟨pb, .inl rfl, ⟨_, _, q2⟩, hpo.keep q3 (hpo.ne hmW (by decide) (by decide))⟩, hq.2.only q3 hmm.1 hmm.2.1 hmm.2.2⟩, q3⟩
  · rintro e w4 ⟨he, hq, ho4⟩
    exact ⟨he, hq, ho4.mono (fun _ _ e => e.elim (fun e => e.elim (fun e => .inl (.inl e)) .inr) (fun e => .inl (.inr e)))⟩
/-- Each step of a claim. -/
theorem claimA_step {k : ClmSt} (hh : HD P T hd) (hg : Ph.cyc g = true) (hp : ClP P T hd g w mb pb (.inl k)) (hY : Yard w ab sb sm rb P T s) (hlen : s.ws.length = (Lay.words P T).toNat) (hx : (claimA P T hd g).nx k (s.word ((claimA P T hd g).ac k).pos) ≠ .inr (-2)) :
    Calls Tryz.prog 7 #[.pointer (some ⟨mb, 0, none⟩), .pointer (some ⟨ab, 0, none⟩)] w (CQ P T hd g mb pb ab sb sm rb ((claimA P T hd g).ac k) s ((claimA P T hd g).nx k (s.word ((claimA P T hd g).ac k).pos)) w) := by
  have h : ClA P T hd g w mb pb k := hp.1
  have hpo := hp.2
  clear hp
  have hwd := hh.words
  have hbig : 1 < s.ws.length := by rw [hlen]; omega
  cases k with
  | pop k =>
    have e0 : (claimA P T hd g).ac (.pop k) = (popA P T hd).ac k := rfl
    rw [e0] at hx ⊢
    rcases hN : (popA P T hd).nx k (s.word ((popA P T hd).ac k).pos) with k1 | q
    · have e1 : (claimA P T hd g).nx (.pop k) (s.word ((popA P T hd).ac k).pos) = .inl (.pop k1) := by simp only [claimA, hN]
      rw [e1]
      exact clPop_on h hY hlen hh hN
    · have e1 : (claimA P T hd g).nx (.pop k) (s.word ((popA P T hd).ac k).pos) = if q = -2 then .inr (-2) else if q < 0 then .inr (-1) else if P ≤ q then .inr (-2) else .inl (.hv q .look) := by simp only [claimA, hN]
      rw [e1] at hx ⊢
      by_cases c1 : q = -2
      · rw [if_pos c1] at hx; exact absurd rfl hx
      · rw [if_neg c1] at hx ⊢
        by_cases c2 : q < 0
        · rw [if_pos c2]
          have hq : q = -1 := by
            cases k with
            | load =>
              replace hN : (if Tag.pg (s.word hd) < 0 then Sum.inr (-1) else if P ≤ Tag.pg (s.word hd) then .inr (-2) else .inl (PopSt.next (s.word hd))) = Sum.inr q := hN
              split at hN
              · injection hN with hN; exact hN.symm
              · split at hN
                · injection hN with hN; exact absurd hN.symm c1
                · cases hN
            | next v =>
              replace hN : (if P < s.word (nxAt P T (Tag.pg v)) then Sum.inr (-2) else .inl (PopSt.cas v (s.word (nxAt P T (Tag.pg v))))) = Sum.inr q := hN
              split at hN
              · injection hN with hN; exact absurd hN.symm c1
              · cases hN
            | cas v x =>
              replace hN : (if s.word hd = v then Sum.inr (Tag.pg v) else .inl PopSt.load) = Sum.inr q := hN
              have := tagPg_bd v
              split at hN
              · injection hN with hN; omega
              · cases hN
          subst hq
          exact clPop_none h hY hlen hh hN
        · rw [if_neg c2] at hx ⊢
          by_cases c3 : P ≤ q
          · rw [if_pos c3] at hx; exact absurd rfl hx
          · rw [if_neg c3]
            exact clPop_some h hY hlen hh (by omega) (by omega) hN
  | hv p k =>
    have h0 : 0 ≤ p ∧ p < P := by cases k <;> exact h.1
    have hi : s.inR (pgAt P T 9 p) := by
      have := pgAt_eq (k := 9) hh.may (by decide) (by decide) h0.1 h0.2
      exact ⟨by omega, by rw [hlen]; omega⟩
    have hok : (Lay.may P T && decide (0 ≤ p ∧ p < P)) = true := by rw [hh.may]; simpa using h0
    have e0 : (claimA P T hd g).ac (.hv p k) = (haveA P T g p).ac k := rfl
    rw [e0]
    cases k with
    | look =>
      have hb := StoreS.word_bd hY.st.fit (pgAt P T 9 p)
      by_cases c1 : Ph.waits (s.word (pgAt P T 9 p)) g = true
      · have e1 : (claimA P T hd g).nx (.hv p .look) (s.word (pgAt P T 9 p)) = .inl (.hv p (.held (s.word (pgAt P T 9 p)))) := by simp only [claimA, haveA, c1, if_true]
        have := clL_held h c1 hpo hY hbig hi
        rw [← e1] at this; exact this
      · have c1' : Ph.waits (s.word (pgAt P T 9 p)) g = false := by simpa using c1
        have k4 := mk_eq (k := 4) hb.1 hg (by decide) (by decide)
        have k5 := mk_eq (k := 5) hb.1 hg (by decide) (by decide)
        by_cases c2 : s.word (pgAt P T 9 p) = Ph.mk g 4
        · have e1 : (claimA P T hd g).nx (.hv p .look) (s.word (pgAt P T 9 p)) = .inl (.hv p (.hand (s.word (pgAt P T 9 p)))) := by simp only [claimA, haveA]; rw [if_neg c1, if_pos c2]
          have := clL_hand h c1' (k4.1 c2).1 (k4.1 c2).2 hpo hY hbig hi
          rw [← e1] at this; exact this
        · by_cases c3 : s.word (pgAt P T 9 p) = Ph.mk g 5
          · have e1 : (claimA P T hd g).nx (.hv p .look) (s.word (pgAt P T 9 p)) = .inl (.hv p .put) := by simp only [claimA, haveA]; rw [if_neg c1, if_neg c2, if_pos c3]
            have := clL_put h c1' (k5.1 c3).1 (k5.1 c3).2 hpo hY hbig hi
            rw [← e1] at this; exact this
          · have e1 : (claimA P T hd g).nx (.hv p .look) (s.word (pgAt P T 9 p)) = .inl (.pop .load) := by simp only [claimA, haveA]; rw [if_neg c1, if_neg c2, if_neg c3]; rfl
            by_cases c4 : Ph.gen (s.word (pgAt P T 9 p)) = g
            · have := clL_rest h c1' c4 ⟨fun e => c2 (k4.2 ⟨c4, e⟩), fun e => c3 (k5.2 ⟨c4, e⟩)⟩ hh.to hpo hY hbig hi
              rw [← e1] at this; exact this
            · have := clL_other h c1' c4 hh.to hpo hY hbig hi
              rw [← e1] at this; exact this
    | held v =>
      by_cases c1 : s.word (pgAt P T 9 p) = v
      · have e1 : (claimA P T hd g).nx (.hv p (.held v)) (s.word (pgAt P T 9 p)) = .inl (.hv p (.sw .mark)) := by simp only [claimA, haveA]; rw [if_pos c1]
        have := clHeld_win h c1 hok hpo hY hbig hi
        rw [← e1] at this; exact this
      · have e1 : (claimA P T hd g).nx (.hv p (.held v)) (s.word (pgAt P T 9 p)) = .inl (.hv p .look) := by simp only [claimA, haveA]; rw [if_neg c1]
        have := clHeld_lost h c1 hpo hY hbig hi
        rw [← e1] at this; exact this
    | hand v =>
      by_cases c1 : s.word (pgAt P T 9 p) = v
      · have e1 : (claimA P T hd g).nx (.hv p (.hand v)) (s.word (pgAt P T 9 p)) = .inl (.pop .load) := by simp only [claimA, haveA]; rw [if_pos c1]; rfl
        have := clHand_win h c1 hh.to hpo hY hbig hi
        rw [← e1] at this; exact this
      · have e1 : (claimA P T hd g).nx (.hv p (.hand v)) (s.word (pgAt P T 9 p)) = .inl (.hv p .look) := by simp only [claimA, haveA]; rw [if_neg c1]
        have := clHand_lost h c1 hpo hY hbig hi
        rw [← e1] at this; exact this
    | put =>
      have e1 : (claimA P T hd g).nx (.hv p .put) (s.word (pgAt P T 9 p)) = .inr p := by simp only [claimA, haveA]; rfl
      have := clPut h hpo hY hbig hi
      rw [← e1] at this; exact this
    | sw k =>
      have e2 : (haveA P T g p).ac (.sw k) = (sweepA P T p).ac k := rfl
      rw [e2]
      rcases hN : (sweepA P T p).nx k (s.word ((sweepA P T p).ac k).pos) with k1 | q
      · have e1 : (claimA P T hd g).nx (.hv p (.sw k)) (s.word ((sweepA P T p).ac k).pos) = .inl (.hv p (.sw k1)) := by simp only [claimA, haveA, hN]
        rw [e1]
        exact clSw_on h hY hlen hh.may hN
      · have e1 : (claimA P T hd g).nx (.hv p (.sw k)) (s.word ((sweepA P T p).ac k).pos) = .inr p := by simp only [claimA, haveA, hN]; rfl
        rw [e1]
        exact clSw_end h hY hlen hh.may hN
end
end Go.Proofs.YtmnliddjddpchaaGreat

/- A machine's desk: what it has next. By an AI agent. -/
import Derived.Test.YtffhoaimcjpjhaaGreatActCas
import Derived.Test.YtffhoaimcjpjhaaGreatActLoad
import Derived.Test.YtffhoaimcjpjhaaGreatActPut
import Derived.Test.YtffhoaimcjpjhaaGreatActAdd
import Derived.Test.YtffhoaimcjpjhaaGreatYards
namespace Go.Proofs.YtffhoaimcjpjhaaGreat
open Go.RowKit
theorem Blk.multi' {w : World} {m b : Nat} {c : Array Value} {x : Value} {t u : TypeId} (h : Blk w m c t) (hc : c.size ≠ 1) (hb : Blk w b #[x] u) : ¬ b = m := by
  rintro rfl
  exact hc (by rw [← (hb.uniq h).1]; rfl)
/-- What comes next: an access, and what then; or nothing. -/
inductive DK where
  | load (at_ : Int) (thn : Value)
  | put (at_ v : Int) (thn : Value)
  | add (at_ v : Int) (thn : Value)
  | cas (at_ o v : Int) (thn : Value)
  | done
/-- Block mb is a machine whose desk has k next; c: its cells, but for the third. -/
def Desk (w : World) (mb : Nat) (c : Value → Array Value) (t : TypeId) : DK → Prop
  | .load at_ thn => ∃ n, Blk w mb (c (loadF n)) t ∧ HasLoad w n at_ thn
  | .put at_ v thn => ∃ n, Blk w mb (c (putF n)) t ∧ HasPut w n at_ v thn
  | .add at_ v thn => ∃ n, Blk w mb (c (addF n)) t ∧ HasAdd w n at_ v thn
  | .cas at_ o v thn => ∃ n, Blk w mb (c (casF n)) t ∧ HasCas w n at_ o v thn
  | .done => Blk w mb (c .nilFunc) t
section
variable {w w' : World} {mb : Nat} {c : Value → Array Value} {t : TypeId} {k : DK}
theorem Desk.only {S : Nat → Prop} (h : Desk w mb c t k) (ho : Only S w w') (hm : ¬ S mb) (hs : ∀ b x t, Blk w b #[x] t → ¬ S b) : Desk w' mb c t k := by
  cases k with
  | load at_ thn => obtain ⟨n, h1, h2⟩ := h; exact ⟨n, h1.only ho hm, h2.b0.only ho (hs _ _ _ h2.b0), h2.b1.only ho (hs _ _ _ h2.b1)⟩
  | put at_ v thn => obtain ⟨n, h1, h2⟩ := h; exact ⟨n, h1.only ho hm, h2.b0.only ho (hs _ _ _ h2.b0), h2.b1.only ho (hs _ _ _ h2.b1), h2.b2.only ho (hs _ _ _ h2.b2)⟩
  | add at_ v thn => obtain ⟨n, h1, h2⟩ := h; exact ⟨n, h1.only ho hm, h2.b0.only ho (hs _ _ _ h2.b0), h2.b1.only ho (hs _ _ _ h2.b1), h2.b2.only ho (hs _ _ _ h2.b2)⟩
  | cas at_ o v thn => obtain ⟨n, h1, h2⟩ := h; exact ⟨n, h1.only ho hm, h2.b0.only ho (hs _ _ _ h2.b0), h2.b1.only ho (hs _ _ _ h2.b1), h2.b2.only ho (hs _ _ _ h2.b2), h2.b3.only ho (hs _ _ _ h2.b3)⟩
  | done => exact Blk.only h ho hm
theorem Desk.adds (h : Desk w mb c t k) (ho : Adds w w') : Desk w' mb c t k := h.only ho id (fun _ _ _ _ => id)
theorem Desk.stays (mb : Nat) (c : Value → Array Value) (t : TypeId) (k : DK) (ht : t ≠ 45) : Stays (fun w => Desk w mb c t k) := fun _ _ ho h => by
  cases k with
  | load at_ thn => obtain ⟨n, h1, h2⟩ := h; exact ⟨n, h1.dids ho ht, h2.dids ho⟩
  | put at_ v thn => obtain ⟨n, h1, h2⟩ := h; exact ⟨n, h1.dids ho ht, h2.dids ho⟩
  | add at_ v thn => obtain ⟨n, h1, h2⟩ := h; exact ⟨n, h1.dids ho ht, h2.dids ho⟩
  | cas at_ o v thn => obtain ⟨n, h1, h2⟩ := h; exact ⟨n, h1.dids ho ht, h2.dids ho⟩
  | done => exact Blk.dids h ho ht
theorem Desk.blk (h : Desk w mb c t k) : ∃ nx, Blk w mb (c nx) t ∧ (k ≠ .done → ∃ fn f q, nx = .func fn f q) := by
  cases k with
  | load at_ thn => obtain ⟨n, h1, h2⟩ := h; exact ⟨_, h1, fun _ => ⟨_, _, _, rfl⟩⟩
  | put at_ v thn => obtain ⟨n, h1, h2⟩ := h; exact ⟨_, h1, fun _ => ⟨_, _, _, rfl⟩⟩
  | add at_ v thn => obtain ⟨n, h1, h2⟩ := h; exact ⟨_, h1, fun _ => ⟨_, _, _, rfl⟩⟩
  | cas at_ o v thn => obtain ⟨n, h1, h2⟩ := h; exact ⟨_, h1, fun _ => ⟨_, _, _, rfl⟩⟩
  | done => exact ⟨_, h, fun e => absurd rfl e⟩
end
/-- The cells of a machine: its layout, what it has next, the others. -/
structure Cells (c : Value → Array Value) (P T : Int) : Prop where
  c0 : ∀ nx, (c nx)[0]? = some (.int .i64 P)
  c1 : ∀ nx, (c nx)[1]? = some (.int .i64 T)
  c2 : ∀ nx, (c nx)[2]? = some nx
  set2 : ∀ nx v, (c nx).setIfInBounds 2 v = c v
theorem Cells.big {c : Value → Array Value} {P T : Int} (h : Cells c P T) (nx : Value) : 2 < (c nx).size := by
  have := h.c2 nx
  rcases Nat.lt_or_ge 2 (c nx).size with h1 | h1
  · exact h1
  · rw [Array.getElem?_eq_none h1] at this; cases this
theorem deskCells3 (P T : Int) : Cells (fun nx => #[.int .i64 P, .int .i64 T, nx]) P T := ⟨fun _ => rfl, fun _ => rfl, fun _ => rfl, fun _ _ => rfl⟩
theorem deskCells4 (P T : Int) (x : Value) : Cells (fun nx => #[.int .i64 P, .int .i64 T, nx, x]) P T := ⟨fun _ => rfl, fun _ => rfl, fun _ => rfl, fun _ _ => rfl⟩
section
variable {w : World} {mb ab sb sm rb : Nat} {P T : Int} {c : Value → Array Value} {t : TypeId} {k : DK}
/-- Not in an arena: nothing. -/
theorem Desk.inNone (hc : Cells c P T) (h : Desk w mb c t k) (hk : k ≠ .done) :
    Calls Tryz.prog 73 #[.pointer (some ⟨mb, 0, none⟩), .pointer none] w fun e w' => e = .returned (.agg #[.int .i64 0, .int .i64 0, .int .u64 0, .int .u64 0]) ∧ True ∧ Only (fun _ => False) w w' := by
  obtain ⟨nx, hb, hl⟩ := h.blk
  obtain ⟨fn, f, q, rfl⟩ := hl hk
  exact (deskStep_nilA ((hb.cell 2).trans (hc.c2 _))).mono (fun _ _ h => ⟨h.1, trivial, h.2⟩)
theorem Desk.inOther {P' T' : Int} (hc : Cells c P T) (h : Desk w mb c t k) (hk : k ≠ .done) (hA : IsArena w ab sb rb P' T') (hne : (P' == P && T' == T) = false) :
    Calls Tryz.prog 73 #[.pointer (some ⟨mb, 0, none⟩), .pointer (some ⟨ab, 0, none⟩)] w fun e w' => e = .returned (.agg #[.int .i64 0, .int .i64 0, .int .u64 0, .int .u64 0]) ∧ True ∧ Only (fun _ => False) w w' := by
  obtain ⟨nx, hb, hl⟩ := h.blk
  obtain ⟨fn, f, q, rfl⟩ := hl hk
  exact (deskStep_other ((hb.cell 2).trans (hc.c2 _)) ((hb.cell 0).trans (hc.c0 _)) ((hb.cell 1).trans (hc.c1 _)) hA hne).mono (fun _ _ h => ⟨h.1, trivial, h.2⟩)
end
/-- The type of a machine is none of the arena's. -/
def MachT (t : TypeId) : Prop := t ≠ 186 ∧ t ≠ 33 ∧ t ≠ 152 ∧ t ≠ 45
instance (t : TypeId) : Decidable (MachT t) := inferInstanceAs (Decidable (_ ∧ _))
section
variable {w : World} {mb ab sb sm rb : Nat} {P T : Int} {s : StoreS} {c : Value → Array Value} {t : TypeId} {K : Nat} {f1 cap : Array Value} {Q : World → Prop}
/-- A step that is a load: what then turns nothing but the machine. -/
theorem Desk.stepLoad {at_ : Int} (hc : Cells c P T) (ht : MachT t) (h : Desk w mb c t (.load at_ (.func (.func K) f1 cap))) (hY : Yard w ab sb sm rb P T s) (hbig : 1 < s.ws.length) (hi : s.inR at_) (hst : Stays Q) (eg : Enters Tryz.prog K)
    (hT : ∀ w1 nx, (∀ (b : Nat) (x : Value) (u : TypeId), Blk w b #[x] u → Blk w1 b #[x] u) → Blk w1 mb (c nx) t → Desk w1 mb c t (.load at_ (.func (.func K) f1 cap)) → Calls Tryz.prog K (f1 ++ #[.int .u64 (s.word at_)] ++ cap) w1 fun e w2 => e = .returned (.tuple #[]) ∧ Q w2 ∧ Only (· = mb) w1 w2) :
    Calls Tryz.prog 73 #[.pointer (some ⟨mb, 0, none⟩), .pointer (some ⟨ab, 0, none⟩)] w fun e w' =>
      e = .returned (.agg #[.int .i64 1, .int .i64 at_, .int .u64 (s.word at_), .int .u64 (s.word at_)]) ∧ (Q w' ∧ Yard w' ab sb sm rb P T (s.acc 1 at_ (s.word at_))) ∧ Only (fun j => SB sb sm j ∨ j = mb) w w' := by
  have H := h
  obtain ⟨n, h1, h2⟩ := h
  have hmb := hY.mach h1 ht.1 ht.2.1 ht.2.2.1
  exact Go.Proofs.YtffhoaimcjpjhaaGreat.stepLoad (s' := s.acc 1 at_ (s.word at_)) (n := n) ((h1.cell 2).trans (hc.c2 _)) ((h1.cell 0).trans (hc.c0 _)) ((h1.cell 1).trans (hc.c1 _)) hY h2 hbig
    (fun W hs => load_in sb sm at_ s W hs hi) hst (M := (· = mb)) (fun j e => by subst e; exact ⟨h1.lt, hmb⟩) eg
    (fun w1 ho _ => hT w1 _ (fun b x u hb => hb.only ho (hY.multi hbig hb)) (h1.only ho (fun e => e.elim hmb.2.1 hmb.2.2)) (H.only ho (fun e => e.elim hmb.2.1 hmb.2.2) (fun b x u hb => hY.multi hbig hb)))
theorem Desk.stepPut {at_ v : Int} (hc : Cells c P T) (ht : MachT t) (h : Desk w mb c t (.put at_ v (.func (.func K) f1 cap))) (hY : Yard w ab sb sm rb P T s) (hbig : 1 < s.ws.length) (hi : s.inR at_) (hv : 0 ≤ v ∧ v < 18446744073709551616) (hst : Stays Q) (eg : Enters Tryz.prog K)
    (hT : ∀ w1 nx, (∀ (b : Nat) (x : Value) (u : TypeId), Blk w b #[x] u → Blk w1 b #[x] u) → Blk w1 mb (c nx) t → Calls Tryz.prog K (f1 ++ #[] ++ cap) w1 fun e w2 => e = .returned (.tuple #[]) ∧ Q w2 ∧ Only (· = mb) w1 w2) :
    Calls Tryz.prog 73 #[.pointer (some ⟨mb, 0, none⟩), .pointer (some ⟨ab, 0, none⟩)] w fun e w' =>
      e = .returned (.agg #[.int .i64 2, .int .i64 at_, .int .u64 (s.word at_), .int .u64 v]) ∧ (Q w' ∧ Yard w' ab sb sm rb P T (s.acc 2 at_ v)) ∧ Only (fun j => SB sb sm j ∨ j = mb) w w' := by
  obtain ⟨n, h1, h2⟩ := h
  have hmb := hY.mach h1 ht.1 ht.2.1 ht.2.2.1
  exact Go.Proofs.YtffhoaimcjpjhaaGreat.stepPut (s' := s.acc 2 at_ v) (n := n) ((h1.cell 2).trans (hc.c2 _)) ((h1.cell 0).trans (hc.c0 _)) ((h1.cell 1).trans (hc.c1 _)) hY h2 hbig
    (fun W hs => put_in sb sm at_ v s W hs hi hv.1 hv.2) hst (M := (· = mb)) (fun j e => by subst e; exact ⟨h1.lt, hmb⟩) eg
    (fun w1 ho _ => hT w1 _ (fun b x u hb => hb.only ho (hY.multi hbig hb)) (h1.only ho (fun e => e.elim hmb.2.1 hmb.2.2)))
theorem Desk.stepAdd {at_ v : Int} (hc : Cells c P T) (ht : MachT t) (h : Desk w mb c t (.add at_ v (.func (.func K) f1 cap))) (hY : Yard w ab sb sm rb P T s) (hbig : 1 < s.ws.length) (hi : s.inR at_) (hst : Stays Q) (eg : Enters Tryz.prog K)
    (hT : ∀ w1 nx, (∀ (b : Nat) (x : Value) (u : TypeId), Blk w b #[x] u → Blk w1 b #[x] u) → Blk w1 mb (c nx) t → Calls Tryz.prog K (f1 ++ #[.int .u64 (s.word at_)] ++ cap) w1 fun e w2 => e = .returned (.tuple #[]) ∧ Q w2 ∧ Only (· = mb) w1 w2) :
    Calls Tryz.prog 73 #[.pointer (some ⟨mb, 0, none⟩), .pointer (some ⟨ab, 0, none⟩)] w fun e w' =>
      e = .returned (.agg #[.int .i64 5, .int .i64 at_, .int .u64 (s.word at_), .int .u64 ((s.word at_ + v) % 18446744073709551616)]) ∧ (Q w' ∧ Yard w' ab sb sm rb P T (s.acc 5 at_ ((s.word at_ + v) % 18446744073709551616))) ∧ Only (fun j => SB sb sm j ∨ j = mb) w w' := by
  obtain ⟨n, h1, h2⟩ := h
  have hmb := hY.mach h1 ht.1 ht.2.1 ht.2.2.1
  exact Go.Proofs.YtffhoaimcjpjhaaGreat.stepAdd (s' := s.acc 5 at_ ((s.word at_ + v) % 18446744073709551616)) (n := n) ((h1.cell 2).trans (hc.c2 _)) ((h1.cell 0).trans (hc.c0 _)) ((h1.cell 1).trans (hc.c1 _)) hY h2 hbig
    (fun W hs => add_in sb sm at_ v s W hs hi) hst (M := (· = mb)) (fun j e => by subst e; exact ⟨h1.lt, hmb⟩) eg
    (fun w1 ho _ => hT w1 _ (fun b x u hb => hb.only ho (hY.multi hbig hb)) (h1.only ho (fun e => e.elim hmb.2.1 hmb.2.2)))
theorem Desk.stepCasWin {at_ o v : Int} (hc : Cells c P T) (ht : MachT t) (h : Desk w mb c t (.cas at_ o v (.func (.func K) f1 cap))) (hY : Yard w ab sb sm rb P T s) (hbig : 1 < s.ws.length) (hi : s.inR at_) (hw : s.word at_ = o) (hv : 0 ≤ v ∧ v < 18446744073709551616) (hst : Stays Q) (eg : Enters Tryz.prog K)
    (hT : ∀ w1 nx, (∀ (b : Nat) (x : Value) (u : TypeId), Blk w b #[x] u → Blk w1 b #[x] u) → Blk w1 mb (c nx) t → Calls Tryz.prog K (f1 ++ #[.bool true] ++ cap) w1 fun e w2 => e = .returned (.tuple #[]) ∧ Q w2 ∧ Only (· = mb) w1 w2) :
    Calls Tryz.prog 73 #[.pointer (some ⟨mb, 0, none⟩), .pointer (some ⟨ab, 0, none⟩)] w fun e w' =>
      e = .returned (.agg #[.int .i64 3, .int .i64 at_, .int .u64 (s.word at_), .int .u64 v]) ∧ (Q w' ∧ Yard w' ab sb sm rb P T (s.acc 3 at_ v)) ∧ Only (fun j => SB sb sm j ∨ j = mb) w w' := by
  obtain ⟨n, h1, h2⟩ := h
  have hmb := hY.mach h1 ht.1 ht.2.1 ht.2.2.1
  exact Go.Proofs.YtffhoaimcjpjhaaGreat.stepCas (s' := s.acc 3 at_ v) (er := 0) (won := true) (n := n) ((h1.cell 2).trans (hc.c2 _)) ((h1.cell 0).trans (hc.c0 _)) ((h1.cell 1).trans (hc.c1 _)) hY h2 hbig
    (fun W hs => cas_win sb sm at_ o v s W hs hi (by simp [hw]) hv.1 hv.2) rfl hst (M := (· = mb)) (fun j e => by subst e; exact ⟨h1.lt, hmb⟩) eg
    (fun w1 ho _ => hT w1 _ (fun b x u hb => hb.only ho (hY.multi hbig hb)) (h1.only ho (fun e => e.elim hmb.2.1 hmb.2.2)))
theorem Desk.stepCasLost {at_ o v : Int} (hc : Cells c P T) (ht : MachT t) (h : Desk w mb c t (.cas at_ o v (.func (.func K) f1 cap))) (hY : Yard w ab sb sm rb P T s) (hbig : 1 < s.ws.length) (hi : s.inR at_) (hw : s.word at_ ≠ o) (hst : Stays Q) (eg : Enters Tryz.prog K)
    (hT : ∀ w1 nx, (∀ (b : Nat) (x : Value) (u : TypeId), Blk w b #[x] u → Blk w1 b #[x] u) → Blk w1 mb (c nx) t → Desk w1 mb c t (.cas at_ o v (.func (.func K) f1 cap)) → Calls Tryz.prog K (f1 ++ #[.bool false] ++ cap) w1 fun e w2 => e = .returned (.tuple #[]) ∧ Q w2 ∧ Only (· = mb) w1 w2) :
    Calls Tryz.prog 73 #[.pointer (some ⟨mb, 0, none⟩), .pointer (some ⟨ab, 0, none⟩)] w fun e w' =>
      e = .returned (.agg #[.int .i64 4, .int .i64 at_, .int .u64 (s.word at_), .int .u64 (s.word at_)]) ∧ (Q w' ∧ Yard w' ab sb sm rb P T (s.acc 4 at_ (s.word at_))) ∧ Only (fun j => SB sb sm j ∨ j = mb) w w' := by
  have H := h
  obtain ⟨n, h1, h2⟩ := h
  have hmb := hY.mach h1 ht.1 ht.2.1 ht.2.2.1
  exact Go.Proofs.YtffhoaimcjpjhaaGreat.stepCas (s' := s.acc 4 at_ (s.word at_)) (er := 5) (won := false) (n := n) ((h1.cell 2).trans (hc.c2 _)) ((h1.cell 0).trans (hc.c0 _)) ((h1.cell 1).trans (hc.c1 _)) hY h2 hbig
    (fun W hs => cas_lost sb sm at_ o v s W hs hi (by simpa using hw)) rfl hst (M := (· = mb)) (fun j e => by subst e; exact ⟨h1.lt, hmb⟩) eg
    (fun w1 ho _ => hT w1 _ (fun b x u hb => hb.only ho (hY.multi hbig hb)) (h1.only ho (fun e => e.elim hmb.2.1 hmb.2.2)) (H.only ho (fun e => e.elim hmb.2.1 hmb.2.2) (fun b x u hb => hY.multi hbig hb)))
end
end Go.Proofs.YtffhoaimcjpjhaaGreat

/- The program's free runs beside the document's, in one heap. By an AI agent. -/
import Derived.Test.YtbijbpnhakbeeaaDocSame
import Derived.Test.YtbijbpnhakbeeaaRunsSome
namespace Go.Proofs.Ytbijbpnhakbeeaa
open Go.RowKit
/-- Runs of ours and of the document's, made by a call, apart, that go together. -/
structure Pair (w w' : World) (P : Int) (s : RS) (d : DS) : Prop where
  fs : SomeRuns w w' P s
  dd : IsDoc w' d
  dnew : ∀ y, d.all y → w.heap.size ≤ y
  apart : ∀ y, s.all y → ¬ d.all y
  sim : Sim s d
section
variable {w w1 w2 w3 : World} {P : Int} {s s' : RS} {d d' : DS}
theorem Pair.keepD (h : Pair w w1 P s d) (m : Moves s s' w1 w2) : IsDoc w2 d := h.dd.only m.only (fun y hd ho => h.apart y (.inl ho) hd)
theorem Pair.keep (h : Pair w w1 P s d) (ho : Adds w1 w2) : Pair w w2 P s d := ⟨h.fs.keep ho, h.dd.adds ho, h.dnew, h.apart, h.sim⟩
theorem Pair.both (h : Pair w w1 P s d) (ia : IsRuns w2 s') (ma : Moves s s' w1 w2) (ib : IsDoc w3 d') (mb : MovD d d' w2 w3) (hs : Sim s' d') : Pair w w3 P s' d' := by
  have hA := h.fs.moves ia ma
  have hd := h.keepD ma
  have hap : ∀ y, s'.all y → ¬ d.all y := fun y hy hb => (ma.all y hy).elim (fun h2 => h.apart y h2 hb) (fun h2 => by have := h.dd.lt y hb; omega)
  refine ⟨⟨ia.only mb.only (fun y hy ho => hap y hy (.inl ho)), hA.P, hA.adds.andThen mb.only (fun i hi ho => by have := h.dnew i (.inl ho); omega), hA.new⟩, ib, fun y hy => (mb.all y hy).elim (h.dnew y) (fun h2 => Nat.le_trans hA.adds.size h2), fun y hy hb => (mb.all y hb).elim (hap y hy) (fun h2 => by have := ia.lt y hy; omega), hs⟩
theorem Pair.start {n : Nat} {ds : List Int} (h1 : 1 ≤ n) (hP : (n : Int) = P) (hA : Adds w w1) (i1 : IsRuns w2 s) (n1 : NewRuns n ds s) (o1 : Adds w1 w2) (f1 : ∀ y, s.all y → w1.heap.size ≤ y) (oo : Adds w2 w3) {w4 : World} (i2 : IsDoc w4 d) (n2 : NewDoc n ds d) (o2 : Adds w3 w4) (f2 : ∀ y, d.all y → w3.heap.size ≤ y) : Pair w w4 P s d := by
  have hz := oo.size; have hz1 := o1.size; have hz2 := hA.size
  exact ⟨⟨i1.adds (oo.thenF o2), n1.eP.trans hP, ((hA.thenF o1).thenF oo).thenF o2, fun y hy => Nat.le_trans hz2 (f1 y hy)⟩, i2, fun y hy => by have := f2 y hy; omega, fun y hy hd => by have := f2 y hd; have := i1.lt y hy; omega, Sim.new h1 n1 n2⟩
theorem Pair.dn (h : Pair w w1 P s d) : d.n = s.dn := h.sim.n
theorem Pair.il (h : Pair w w1 P s d) : d.its.length < 800000 := by have := h.sim.room h.fs.is.ok; omega
end
theorem rowK_adds {k : IntKind} {w w' : World} {a : Option Addr} {len cap : Nat} {zs : List Int} (h : IsRow k w a len cap zs) (ho : Adds w w') : IsRow k w' a len cap zs := by
  rcases h with h | ⟨x, h1, h2, h3, h4, h5, h6⟩
  · exact .inl h
  · refine .inr ⟨x, h1, h2, h3, h4, fun i hi => ?_, h6⟩
    have := h5 i hi
    refine (ho.cellF (p := x.add i) ?_ id).trans this
    rcases Nat.lt_or_ge (x.add i).block w.heap.size with h7 | h7
    · exact h7
    · simp [World.cell?, Array.getElem?_eq_none h7] at this
theorem wrap_three (k : Nat) (h : k < 1000000) : IntKind.i64.wrap ((k : Int) + 3) = (k : Int) + 3 ∧ wrap64 ((k : Int) + 1) = (k : Int) + 1 ∧ wrap64 ((k : Int) + 2) = (k : Int) + 2 := ⟨wrap_ok ((k : Int) + 3) (by omega) (by omega), wrap64_ok ((k : Int) + 1) (by omega) (by omega), wrap64_ok ((k : Int) + 2) (by omega) (by omega)⟩
theorem take_dn {s s' : RS} {n a e : Int} (h : TakeOf s n a e s') : s'.dn ≤ s.dn + 1 := by
  rcases h.cases with ⟨_, _, _, _, _, _, h1, _⟩ | ⟨_, _, rfl, _⟩
  · exact h1
  · omega
theorem free_dn {s s' : RS} {a n c : Int} (h : FreeOf s a n c s') : s'.dn ≤ s.dn + 1 := by
  rcases h.cases with ⟨_, _, _, _, h1⟩ | ⟨_, rfl, _⟩
  · omega
  · omega
end Go.Proofs.Ytbijbpnhakbeeaa

/- WorldAlone: a pick, over the store's words. Plain law. By an AI agent. -/
import Derived.Test.YtbepbcjklgfmjaaZWASt
namespace Go.Proofs.Ytbepbcjklgfmjaa
open Go.RowKit
set_option linter.unusedSimpArgs false
set_option linter.unusedVariables false
namespace TS
/-- The machine at a pick. -/
def mk (t : Nat) : TS → WdS
  | idle => .exit | look => .enter .look | egen => .enter .gen | undo => .enter .undo | wait => .enter .wait | beg => .enter .begin | inn => .exit | try_ => .stop (.try_ t) | busy => .stop .busy | sgen => .stop .gen | stopped => .go
/-- The machine that stands. -/
def on (t : Nat) : TS → Option WdS
  | idle => none | inn => none | stopped => none | x => some (x.mk t)
def isInn : TS → Bool
  | inn => true | _ => false
def isStop : TS → Bool
  | stopped => true | _ => false
def isIdle : TS → Bool
  | idle => true | _ => false
end TS
structure WR (n drawn i : Nat) (s : StoreS) (q : Nat → TS) : Prop where
  w0 : s.word 0 = 1
  len : 4 < s.ws.length
  ex : ∃ W B : Nat, s.word 1 = W ∧ s.word 4 = B ∧ WI n q W B ∧ EndW n drawn i W B q
section
variable {n drawn i t : Nat} {s : StoreS} {q : Nat → TS}
theorem WI.few {W B : Nat} (h : WI n q W B) : B ≤ n := by
  have := sumN_max (n := n) (f := fun t => (q t).cnt) (c := 1) (fun t _ => by cases q t <;> decide)
  rw [h.cnt] at this; omega
theorem acc3 (s : StoreS) (hl : 4 < s.ws.length) (a v : Int) {p : Int} (hp : 0 ≤ p ∧ p ≤ 4) : (s.acc a p v).word p = v ∧ (∀ j, 0 ≤ j → j ≠ p → (s.acc a p v).word j = s.word j) ∧ 4 < (s.acc a p v).ws.length :=
  ⟨StoreS.acc_word ⟨hp.1, by omega⟩ _ _, fun j h0 h1 => StoreS.acc_word_other hp.1 h0 h1 _ _, by simpa [StoreS.acc] using hl⟩
/-- What a pick leaves. -/
def PickQ (n drawn i t : Nat) (s : StoreS) (q : Nat → TS) (k : WdS) : Prop := ∃ y, WR n drawn (i + 1) (k.ac.act s) (upd q t y) ∧
  ((k.nx s).got = false → y.on t = some (k.nx s) ∧ y.isInn = (q t).isInn ∧ y.isStop = (q t).isStop) ∧
  ((k.nx s).got = true → y.on t = none ∧ y.isInn = decide (k.sort = 0) ∧ y.isStop = decide (k.sort = 2) ∧ (k.sort = 0 ∨ k.sort = 2 → (k.nx s).gen = 1))
theorem WR.step (h : WR n drawn i s q) (hn : n ≤ 6) (ht : t < n) (hti : drawn ≤ i → t = i % n) (hx : q t ≠ .idle) : PickQ n drawn i t s q ((q t).mk t) := by
  obtain ⟨w0, hl, W, B, w1, w4, hI, hE⟩ := h
  have hB := hI.few
  obtain ⟨x, hq⟩ : ∃ x, q t = x := ⟨_, rfl⟩
  have fin : ∀ (s' : StoreS) (y : TS) (W' B' : Nat), s'.word 0 = 1 → 4 < s'.ws.length → s'.word 1 = W' → s'.word 4 = B' → x.step t W B = (y, W', B') → WR n drawn (i + 1) s' (upd q t y) := fun s' y W' B' a b c d e => by
    have h1 := hI.step ht
    rw [hq, e] at h1
    refine ⟨a, b, W', B', c, d, h1, ?_⟩
    cases hm : x.moves W B
    · have e2 := TS.stays (t := t) hm
      rw [e] at e2
      injection e2 with e3 e4
      injection e4 with e4 e5
      subst e3 e4 e5
      rw [← hq, upd_same]
      exact hE.skip hI hn hti (by rw [hq]; exact hm)
    · have hp := pot_move hI ht (by rw [hq]; exact hm)
      rw [hq, e] at hp
      exact hE.step h1 hn hp ht (by rw [hq]; exact hm)
  unfold PickQ
  rw [hq] at hx ⊢
  have rd : ∀ a p, (0 ≤ p ∧ p ≤ 4) → ∀ j, 0 ≤ j → (s.acc a p (s.word p)).word j = s.word j := fun a p hp j hj => by
    obtain ⟨a1, a2, _⟩ := acc3 s hl a (s.word p) hp
    by_cases e : j = p
    · subst e; exact a1
    · exact a2 j hj e
  have ld : ∀ (p : Int) (y : TS), (0 ≤ p ∧ p ≤ 4) → x.step t W B = (y, W, B) → WR n drawn (i + 1) (s.acc 1 p (s.word p)) (upd q t y) := fun p y hp e =>
    fin _ y W B (by rw [rd _ _ hp 0 (by omega)]; exact w0) (acc3 s hl 1 _ hp).2.2 (by rw [rd _ _ hp 1 (by omega)]; exact w1) (by rw [rd _ _ hp 4 (by omega)]; exact w4) e
  have ad : ∀ (v : Int) (B' : Nat) (y : TS), (s.word 4 + v) % 18446744073709551616 = B' → x.step t W B = (y, W, B') → WR n drawn (i + 1) ((Ac.add 4 v).act s) (upd q t y) := fun v B' y hv e => by
    obtain ⟨a1, a2, a3⟩ := acc3 s hl 5 ((s.word 4 + v) % 18446744073709551616) (p := 4) (by omega)
    exact fin _ y W B' (by show (s.acc 5 4 _).word 0 = 1; rw [a2 0 (by omega) (by omega)]; exact w0) a3 (by show (s.acc 5 4 _).word 1 = _; rw [a2 1 (by omega) (by omega)]; exact w1) (by show (s.acc 5 4 _).word 4 = _; rw [a1]; exact hv) e
  have w1z : s.word 1 = 0 ↔ W = 0 := by rw [w1]; omega
  have w4z : s.word 4 = 0 ↔ B = 0 := by rw [w4]; omega
  have hBp : x.cnt = 1 → 1 ≤ B := fun e => by
    have := hI.cnt
    rcases Nat.eq_zero_or_pos B with h0 | h0
    · rw [h0] at this
      have := sumN_zero this t ht
      simp only [hq] at this; omega
    · exact h0
  cases x with
  | idle => exact absurd rfl hx
  | look =>
    by_cases c : W = 0
    · refine ⟨.egen, ld 1 _ (by omega) (by simp [TS.step, c]), fun _ => ⟨?_, rfl, rfl⟩, fun e => ?_⟩
      · simp [TS.on, TS.mk, WdS.nx, EnSt.isGen, EnSt.next, EnSt.ac, Ac.pos, w1z.2 c]
      · simp [TS.mk, WdS.nx, EnSt.isGen, WdS.got] at e
    · refine ⟨.undo, ld 1 _ (by omega) (by simp [TS.step, c]), fun _ => ⟨?_, rfl, rfl⟩, fun e => ?_⟩
      · have : s.word 1 ≠ 0 := fun e => c (w1z.1 e)
        simp [TS.on, TS.mk, WdS.nx, EnSt.isGen, EnSt.next, EnSt.ac, Ac.pos, this]
      · simp [TS.mk, WdS.nx, EnSt.isGen, WdS.got] at e
  | egen =>
    refine ⟨.inn, ld 0 _ (by omega) rfl, fun e => ?_, fun _ => ⟨rfl, rfl, rfl, fun _ => ?_⟩⟩
    · simp [TS.mk, WdS.nx, EnSt.isGen, WdS.got] at e
    · simp [TS.mk, WdS.nx, EnSt.isGen, WdS.gen, w0]
  | undo =>
    have := hBp rfl
    refine ⟨.wait, ad _ (B - 1) _ (by rw [w4]; omega) rfl, fun _ => ⟨?_, rfl, rfl⟩, fun e => ?_⟩
    · simp [TS.on, TS.mk, WdS.nx, EnSt.isGen, EnSt.next]
    · simp [TS.mk, WdS.nx, EnSt.isGen, WdS.got] at e
  | wait =>
    by_cases c : W = 0
    · refine ⟨.beg, ld 1 _ (by omega) (by simp [TS.step, c]), fun _ => ⟨?_, rfl, rfl⟩, fun e => ?_⟩
      · simp [TS.on, TS.mk, WdS.nx, EnSt.isGen, EnSt.next, EnSt.ac, Ac.pos, w1z.2 c]
      · simp [TS.mk, WdS.nx, EnSt.isGen, WdS.got] at e
    · refine ⟨.wait, ld 1 _ (by omega) (by simp [TS.step, c]), fun _ => ⟨?_, rfl, rfl⟩, fun e => ?_⟩
      · have : s.word 1 ≠ 0 := fun e => c (w1z.1 e)
        simp [TS.on, TS.mk, WdS.nx, EnSt.isGen, EnSt.next, EnSt.ac, Ac.pos, this]
      · simp [TS.mk, WdS.nx, EnSt.isGen, WdS.got] at e
  | beg =>
    refine ⟨.look, ad _ (B + 1) _ (by rw [w4]; omega) rfl, fun _ => ⟨?_, rfl, rfl⟩, fun e => ?_⟩
    · simp [TS.on, TS.mk, WdS.nx, EnSt.isGen, EnSt.next]
    · simp [TS.mk, WdS.nx, EnSt.isGen, WdS.got] at e
  | inn =>
    have := hBp rfl
    refine ⟨.idle, ad _ (B - 1) _ (by rw [w4]; omega) rfl, fun e => ?_, fun _ => ⟨rfl, rfl, rfl, fun e => ?_⟩⟩
    · simp [TS.mk, WdS.nx, WdS.got] at e
    · simp [TS.mk, WdS.sort] at e
  | try_ =>
    by_cases c : W = 0
    · obtain ⟨a1, a2, a3⟩ := acc3 s hl 3 ((t : Int) + 1) (p := 1) (by omega)
      have e1 : (Ac.cas 1 0 ((t : Int) + 1)).act s = s.acc 3 1 ((t : Int) + 1) := by simp only [Ac.act]; rw [if_pos (w1z.2 c)]
      refine ⟨.busy, ?_, fun _ => ⟨?_, rfl, rfl⟩, fun e => ?_⟩
      · show WR n drawn (i + 1) ((Ac.cas 1 0 ((t : Int) + 1)).act s) _
        rw [e1]
        exact fin _ _ (t + 1) B (by rw [a2 0 (by omega) (by omega)]; exact w0) a3 (by rw [a1]; omega) (by rw [a2 4 (by omega) (by omega)]; exact w4) (by simp [TS.step, c])
      · simp [TS.on, TS.mk, WdS.nx, StSt.isGen, StSt.next, StSt.ac, Ac.pos, w1z.2 c]
      · simp [TS.mk, WdS.nx, StSt.isGen, WdS.got] at e
    · have hw : s.word 1 ≠ 0 := fun e => c (w1z.1 e)
      have e1 : (Ac.cas 1 0 ((t : Int) + 1)).act s = s.acc 4 1 (s.word 1) := by simp only [Ac.act]; rw [if_neg hw]
      refine ⟨.try_, ?_, fun _ => ⟨?_, rfl, rfl⟩, fun e => ?_⟩
      · show WR n drawn (i + 1) ((Ac.cas 1 0 ((t : Int) + 1)).act s) _
        rw [e1]
        exact fin _ _ W B (by rw [rd _ _ (by omega) 0 (by omega)]; exact w0) (acc3 s hl 4 _ (by omega)).2.2 (by rw [rd _ _ (by omega) 1 (by omega)]; exact w1) (by rw [rd _ _ (by omega) 4 (by omega)]; exact w4) (by simp [TS.step, c])
      · simp [TS.on, TS.mk, WdS.nx, StSt.isGen, StSt.next, StSt.ac, Ac.pos, hw]
      · simp [TS.mk, WdS.nx, StSt.isGen, WdS.got] at e
  | busy =>
    by_cases c : B = 0
    · refine ⟨.sgen, ld 4 _ (by omega) (by simp [TS.step, c]), fun _ => ⟨?_, rfl, rfl⟩, fun e => ?_⟩
      · simp [TS.on, TS.mk, WdS.nx, StSt.isGen, StSt.next, StSt.ac, Ac.pos, w4z.2 c]
      · simp [TS.mk, WdS.nx, StSt.isGen, WdS.got] at e
    · refine ⟨.busy, ld 4 _ (by omega) (by simp [TS.step, c]), fun _ => ⟨?_, rfl, rfl⟩, fun e => ?_⟩
      · have : s.word 4 ≠ 0 := fun e => c (w4z.1 e)
        simp [TS.on, TS.mk, WdS.nx, StSt.isGen, StSt.next, StSt.ac, Ac.pos, this]
      · simp [TS.mk, WdS.nx, StSt.isGen, WdS.got] at e
  | sgen =>
    refine ⟨.stopped, ld 0 _ (by omega) rfl, fun e => ?_, fun _ => ⟨rfl, rfl, rfl, fun _ => ?_⟩⟩
    · simp [TS.mk, WdS.nx, StSt.isGen, WdS.got] at e
    · simp [TS.mk, WdS.nx, StSt.isGen, WdS.gen, w0]
  | stopped =>
    obtain ⟨a1, a2, a3⟩ := acc3 s hl 2 0 (p := 1) (by omega)
    refine ⟨.idle, fin _ _ 0 B (by show (s.acc 2 1 0).word 0 = 1; rw [a2 0 (by omega) (by omega)]; exact w0) a3 (by show (s.acc 2 1 0).word 1 = _; rw [a1]; rfl) (by show (s.acc 2 1 0).word 4 = _; rw [a2 4 (by omega) (by omega)]; exact w4) rfl, fun e => ?_, fun _ => ⟨rfl, rfl, rfl, fun e => ?_⟩⟩
    · simp [TS.mk, WdS.nx, WdS.got] at e
    · simp [TS.mk, WdS.sort] at e
theorem WR.skip (h : WR n drawn i s q) (hn : n ≤ 6) (hti : drawn ≤ i → t = i % n) (hx : q t = .idle) : WR n drawn (i + 1) s q := by
  obtain ⟨w0, hl, W, B, w1, w4, hI, hE⟩ := h
  exact ⟨w0, hl, W, B, w1, w4, hI, hE.skip hI hn hti (by rw [hx]; rfl)⟩
theorem WR.begin (h : WR n drawn i s q) (hn : n ≤ 6) (ht : t < n) (hi : i < drawn) (hx : q t = .idle) {x : TS} (hc : x = .beg ∨ x = .try_) : WR n drawn i s (upd q t x) := by
  obtain ⟨w0, hl, W, B, w1, w4, hI, hE⟩ := h
  have h1 := hI.begin ht hx hc
  exact ⟨w0, hl, W, B, w1, w4, h1, EndW.fresh h1 hn (by omega)⟩
theorem WR.first (hn : n ≤ 6) (hl : 4 < s.ws.length) (w0 : s.word 0 = 1) (w1 : s.word 1 = 0) (w4 : s.word 4 = 0) : WR n drawn 0 s (fun _ => .idle) := by
  have hI : WI n (fun _ => .idle) 0 0 := ⟨by
    have := sumN_max (n := n) (f := fun _ => TS.cnt .idle) (c := 0) (fun t _ => Nat.le_refl 0)
    show sumN (fun _ => TS.cnt .idle) n = 0
    omega, .inl rfl, fun t _ e => (by cases e), fun t j _ _ e => (by cases e)⟩
  exact ⟨w0, hl, 0, 0, w1, w4, hI, EndW.fresh hI hn (by omega)⟩
/-- While one has stopped them nobody is within; and one alone has. -/
theorem WR.alone (h : WR n drawn i s q) : (∀ t j, t < n → j < n → (q t).isStop = true → (q j).isInn = false) ∧ ∀ t j, t < n → j < n → (q t).isStop = true → (q j).isStop = true → t = j := by
  obtain ⟨w0, hl, W, B, w1, w4, hI, hE⟩ := h
  refine ⟨fun t j ht hj e => ?_, fun t j ht hj e1 e2 => ?_⟩
  · have := hI.alone t j ht hj (by cases hq : q t <;> rw [hq] at e <;> first | rfl | cases e)
    cases hq : q j <;> rw [hq] at this <;> first | rfl | cases this
  · have a := hI.own t ht (by cases hq : q t <;> rw [hq] at e1 <;> first | rfl | cases e1)
    have b := hI.own j hj (by cases hq : q j <;> rw [hq] at e2 <;> first | rfl | cases e2)
    omega
theorem WR.over (h : WR n drawn i s q) (hn : 1 ≤ n) (hi : drawn + 400 ≤ i) : (∀ t, t < n → q t = .idle) ∧ s.word 1 = 0 ∧ s.word 4 = 0 := by
  obtain ⟨w0, hl, W, B, w1, w4, hI, hE⟩ := h
  have h1 := hE.over hI hn hi
  refine ⟨h1, ?_, ?_⟩
  · rcases hI.w with e | ⟨k, k1, _, k3⟩
    · rw [w1, e]; rfl
    · rw [h1 k k1] at k3; cases k3
  · have := hI.cnt
    have := sumN_max (n := n) (f := fun t => (q t).cnt) (c := 0) (fun t ht => by rw [h1 t ht]; exact Nat.le_refl 0)
    rw [w4]; omega
end
end Go.Proofs.Ytbepbcjklgfmjaa

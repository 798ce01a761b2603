/- WorldAlone: threads that enter, and leave, or stop the others: who is within; that it ends. By an AI agent. -/
import Derived.Test.YtbepbcjklgfmjaaZUpd
namespace Go.Proofs.Ytbepbcjklgfmjaa
open Go.RowKit
set_option linter.unusedSimpArgs false
set_option linter.unusedVariables false
/-- Where a thread is. -/
inductive TS where
  | idle | look | egen | undo | wait | beg | inn | try_ | busy | sgen | stopped
namespace TS
/-- It counts as busy. -/
def cnt : TS → Nat
  | look => 1 | egen => 1 | undo => 1 | inn => 1 | _ => 0
/-- It has stopped the others, or is about to. -/
def holds : TS → Nat
  | busy => 1 | sgen => 1 | stopped => 1 | _ => 0
def quiet : TS → Bool
  | sgen => true | stopped => true | _ => false
def within : TS → Bool
  | egen => true | inn => true | _ => false
def ent : TS → Nat
  | look => 1 | egen => 1 | undo => 1 | wait => 1 | beg => 1 | inn => 1 | _ => 0
def tr : TS → Nat
  | try_ => 1 | _ => 0
/-- How many picks it wants, at most. -/
def wt (held : Bool) : TS → Nat
  | inn => 1 | egen => 2 | look => if held then 7 else 3 | beg => if held then 8 else 4 | wait => 5 | undo => 6 | busy => 3 | sgen => 2 | stopped => 1 | _ => 0
/-- A pick of it: what it is behind it, the word of the world, how many are busy. -/
def step (t W B : Nat) : TS → TS × Nat × Nat
  | idle => (idle, W, B)
  | look => (if W = 0 then egen else undo, W, B)
  | egen => (inn, W, B)
  | undo => (wait, W, B - 1)
  | wait => (if W = 0 then beg else wait, W, B)
  | beg => (look, W, B + 1)
  | inn => (idle, W, B - 1)
  | try_ => if W = 0 then (busy, t + 1, B) else (try_, W, B)
  | busy => (if B = 0 then sgen else busy, W, B)
  | sgen => (stopped, W, B)
  | stopped => (idle, 0, B)
/-- A pick turns it. -/
def moves (W B : Nat) : TS → Bool
  | idle => false
  | wait => decide (W = 0)
  | try_ => decide (W = 0)
  | busy => decide (B = 0)
  | _ => true
theorem holds_le (x : TS) : x.holds ≤ 1 := by cases x <;> decide
theorem wt_held (x : TS) : x.wt true ≤ x.wt false + 4 * x.ent := by cases x <;> decide
theorem wt_free (x : TS) : x.wt false ≤ x.wt true := by cases x <;> decide
theorem wt_max (x : TS) : x.wt true ≤ 8 * x.ent + 3 * x.holds := by cases x <;> decide
theorem wt_max0 (x : TS) : x.wt false ≤ 6 * x.ent + 3 * x.holds := by cases x <;> decide
theorem sort_le (x : TS) : x.ent + x.tr + x.holds ≤ 1 := by cases x <;> decide
theorem stays {t W B : Nat} {x : TS} (h : x.moves W B = false) : x.step t W B = (x, W, B) := by
  cases x <;> simp [moves] at h <;> simp [step, h]
end TS
/-- What holds of all threads, the word of the world, and how many are busy. -/
structure WI (n : Nat) (q : Nat → TS) (W B : Nat) : Prop where
  cnt : sumN (fun t => (q t).cnt) n = B
  w : W = 0 ∨ ∃ h, h < n ∧ W = h + 1 ∧ (q h).holds = 1
  own : ∀ t, t < n → (q t).holds = 1 → W = t + 1
  alone : ∀ t j, t < n → j < n → (q t).quiet = true → (q j).within = false
def tries (n : Nat) (q : Nat → TS) : Nat := sumN (fun t => (q t).tr) n
def ents (n : Nat) (q : Nat → TS) : Nat := sumN (fun t => (q t).ent) n
/-- How many picks are wanted, at most. -/
def wpot (n : Nat) (q : Nat → TS) (W : Nat) : Nat := sumN (fun t => (q t).wt (decide (W ≠ 0))) n + tries n q * (4 * ents n q + 4)
section
variable {n t W B : Nat} {q : Nat → TS}
theorem WI.free (h : WI n q 0 B) (ht : t < n) : (q t).holds = 0 := by
  have := TS.holds_le (q t)
  rcases Nat.lt_or_ge 0 (q t).holds with h1 | h1
  · have := h.own t ht (by omega); omega
  · omega
theorem WI.step (h : WI n q W B) (ht : t < n) : WI n (upd q t ((q t).step t W B).1) ((q t).step t W B).2.1 ((q t).step t W B).2.2 := by
  obtain ⟨x, hx⟩ : ∃ x, q t = x := ⟨_, rfl⟩
  have hc := sumN_upd TS.cnt q (t := t) ((q t).step t W B).1 ht
  rw [h.cnt] at hc
  rw [hx] at hc ⊢
  have hB : x.cnt = 1 → 1 ≤ B := fun e => by
    have := h.cnt
    rcases Nat.eq_zero_or_pos B with h0 | h0
    · rw [h0] at this
      have := sumN_zero this t ht
      simp only [hx] at this; omega
    · exact h0
  -- the holder stays what it is, if another one steps
  have keep : ∀ (y : TS), x.holds = 0 → y.holds = 0 → (W = 0 ∨ ∃ k, k < n ∧ W = k + 1 ∧ (upd q t y k).holds = 1) ∧ (∀ j, j < n → (upd q t y j).holds = 1 → W = j + 1) := fun y h0 hy => by
    refine ⟨?_, fun j hj e => ?_⟩
    · rcases h.w with e | ⟨k, k1, k2, k3⟩
      · exact .inl e
      · have : k ≠ t := fun e => by subst e; rw [hx] at k3; omega
        exact .inr ⟨k, k1, k2, by rw [upd_ne _ this]; exact k3⟩
    · by_cases e2 : j = t
      · subst e2; rw [upd_at] at e; omega
      · rw [upd_ne _ e2] at e; exact h.own j hj e
  have own2 : ∀ (y : TS), x.holds = 1 → y.holds = 1 → (W = 0 ∨ ∃ k, k < n ∧ W = k + 1 ∧ (upd q t y k).holds = 1) ∧ (∀ j, j < n → (upd q t y j).holds = 1 → W = j + 1) := fun y h0 hy => by
    have hW := h.own t ht (by rw [hx]; exact h0)
    refine ⟨.inr ⟨t, ht, hW, by rw [upd_at]; exact hy⟩, fun j hj e => ?_⟩
    by_cases e2 : j = t
    · subst e2; exact hW
    · rw [upd_ne _ e2] at e; exact h.own j hj e
  -- nobody comes within, and nobody is quiet anew
  have al : ∀ (y : TS), (y.quiet = true → x.quiet = true) → (y.within = true → x.within = true) → ∀ i j, i < n → j < n → (upd q t y i).quiet = true → (upd q t y j).within = false := fun y h1 h2 i j hi hj e => by
    have e1 : (q i).quiet = true := by
      by_cases e2 : i = t
      · subst e2; rw [upd_at] at e; rw [hx]; exact h1 e
      · rw [upd_ne _ e2] at e; exact e
    have e3 := h.alone i j hi hj e1
    by_cases e2 : j = t
    · subst e2; rw [upd_at]; rw [hx] at e3
      cases hy : y.within
      · rfl
      · rw [h2 hy] at e3; cases e3
    · rw [upd_ne _ e2]; exact e3
  cases x with
  | idle => exact ⟨by simp only [TS.step, TS.cnt] at hc ⊢; omega, (keep .idle rfl rfl).1, (keep .idle rfl rfl).2, al .idle id id⟩
  | look =>
    by_cases c : W = 0
    · subst c
      simp only [TS.step, if_true] at hc ⊢
      refine ⟨by simp only [TS.cnt] at hc ⊢; omega, (keep .egen rfl rfl).1, (keep .egen rfl rfl).2, fun i j hi hj e => ?_⟩
      have h0 : (upd q t .egen i).holds = 1 := by cases hq : upd q t .egen i <;> rw [hq] at e <;> first | rfl | cases e
      have := (keep .egen rfl rfl).2 i hi h0
      omega
    · simp only [TS.step, if_neg c] at hc ⊢
      exact ⟨by simp only [TS.cnt] at hc ⊢; omega, (keep .undo rfl rfl).1, (keep .undo rfl rfl).2, al .undo (fun e => by cases e) (fun e => by cases e)⟩
  | egen => exact ⟨by simp only [TS.step, TS.cnt] at hc ⊢; omega, (keep .inn rfl rfl).1, (keep .inn rfl rfl).2, al .inn (fun e => by cases e) (fun _ => rfl)⟩
  | undo =>
    have := hB rfl
    exact ⟨by simp only [TS.step, TS.cnt] at hc ⊢; omega, (keep .wait rfl rfl).1, (keep .wait rfl rfl).2, al .wait (fun e => by cases e) (fun e => by cases e)⟩
  | wait =>
    by_cases c : W = 0
    · simp only [TS.step, if_pos c] at hc ⊢
      exact ⟨by simp only [TS.cnt] at hc ⊢; omega, (keep .beg rfl rfl).1, (keep .beg rfl rfl).2, al .beg (fun e => by cases e) (fun e => by cases e)⟩
    · simp only [TS.step, if_neg c] at hc ⊢
      exact ⟨by simp only [TS.cnt] at hc ⊢; omega, (keep .wait rfl rfl).1, (keep .wait rfl rfl).2, al .wait (fun e => by cases e) (fun e => by cases e)⟩
  | beg => exact ⟨by simp only [TS.step, TS.cnt] at hc ⊢; omega, (keep .look rfl rfl).1, (keep .look rfl rfl).2, al .look (fun e => by cases e) (fun e => by cases e)⟩
  | inn =>
    have := hB rfl
    exact ⟨by simp only [TS.step, TS.cnt] at hc ⊢; omega, (keep .idle rfl rfl).1, (keep .idle rfl rfl).2, al .idle (fun e => by cases e) (fun e => by cases e)⟩
  | try_ =>
    by_cases c : W = 0
    · subst c
      simp only [TS.step, if_true] at hc ⊢
      refine ⟨by simp only [TS.cnt] at hc ⊢; omega, .inr ⟨t, ht, rfl, by rw [upd_at]; rfl⟩, fun j hj e => ?_, al .busy (fun e => by cases e) (fun e => by cases e)⟩
      by_cases e2 : j = t
      · subst e2; rfl
      · rw [upd_ne _ e2, h.free hj] at e; cases e
    · simp only [TS.step, if_neg c] at hc ⊢
      exact ⟨by simp only [TS.cnt] at hc ⊢; omega, (keep .try_ rfl rfl).1, (keep .try_ rfl rfl).2, al .try_ id id⟩
  | busy =>
    by_cases c : B = 0
    · simp only [TS.step, if_pos c] at hc ⊢
      refine ⟨by simp only [TS.cnt] at hc ⊢; omega, (own2 .sgen rfl rfl).1, (own2 .sgen rfl rfl).2, fun i j hi hj e => ?_⟩
      by_cases e2 : j = t
      · subst e2; rw [upd_at]; rfl
      · rw [upd_ne _ e2]
        have h1 := h.cnt
        rw [c] at h1
        have := sumN_zero h1 j hj
        cases hq : q j <;> simp only [hq, TS.cnt] at this <;> first | rfl | omega
    · simp only [TS.step, if_neg c] at hc ⊢
      exact ⟨by simp only [TS.cnt] at hc ⊢; omega, (own2 .busy rfl rfl).1, (own2 .busy rfl rfl).2, al .busy id id⟩
  | sgen => exact ⟨by simp only [TS.step, TS.cnt] at hc ⊢; omega, (own2 .stopped rfl rfl).1, (own2 .stopped rfl rfl).2, al .stopped (fun _ => rfl) (fun e => by cases e)⟩
  | stopped =>
    refine ⟨by simp only [TS.step, TS.cnt] at hc ⊢; omega, .inl rfl, fun j hj e => ?_, al .idle (fun e => by cases e) (fun e => by cases e)⟩
    have hW := h.own t ht (by rw [hx]; rfl)
    by_cases e2 : j = t
    · subst e2; simp only [TS.step, upd_at, TS.holds] at e; cases e
    · simp only [TS.step] at e
      rw [upd_ne _ e2] at e
      have := h.own j hj e
      omega
/-- A thread that is idle begins. -/
theorem WI.begin (h : WI n q W B) (ht : t < n) (hq : q t = .idle) {x : TS} (hx : x = .beg ∨ x = .try_) : WI n (upd q t x) W B := by
  have hc := sumN_upd TS.cnt q (t := t) x ht
  rw [h.cnt, hq] at hc
  have h1 : x.cnt = 0 ∧ x.holds = 0 ∧ x.quiet = false ∧ x.within = false := by rcases hx with rfl | rfl <;> exact ⟨rfl, rfl, rfl, rfl⟩
  refine ⟨by have e : TS.cnt .idle = 0 := rfl; omega, ?_, fun j hj e => ?_, fun i j hi hj e => ?_⟩
  · rcases h.w with e | ⟨k, k1, k2, k3⟩
    · exact .inl e
    · have : k ≠ t := fun e => by subst e; rw [hq] at k3; cases k3
      exact .inr ⟨k, k1, k2, by rw [upd_ne _ this]; exact k3⟩
  · by_cases e2 : j = t
    · subst e2; rw [upd_at] at e; omega
    · rw [upd_ne _ e2] at e; exact h.own j hj e
  · by_cases e2 : j = t
    · subst e2; rw [upd_at]; exact h1.2.2.2
    · rw [upd_ne _ e2]
      by_cases e3 : i = t
      · subst e3; rw [upd_at, h1.2.2.1] at e; cases e
      · rw [upd_ne _ e3] at e; exact h.alone i j hi hj e
theorem pot_move (h : WI n q W B) (ht : t < n) (hm : (q t).moves W B = true) : wpot n (upd q t ((q t).step t W B).1) ((q t).step t W B).2.1 + 1 ≤ wpot n q W := by
  obtain ⟨x, hx⟩ : ∃ x, q t = x := ⟨_, rfl⟩
  rw [hx] at hm ⊢
  -- one thread alone, the world's word stays
  have one : ∀ (y : TS), y.wt (decide (W ≠ 0)) + 1 ≤ x.wt (decide (W ≠ 0)) → y.tr = x.tr → y.ent ≤ x.ent → wpot n (upd q t y) W + 1 ≤ wpot n q W := fun y h1 h2 h3 => by
    have a := sumN_upd (TS.wt (decide (W ≠ 0))) q (t := t) y ht
    have b := sumN_upd TS.tr q (t := t) y ht
    have c := sumN_upd TS.ent q (t := t) y ht
    rw [hx] at a b c
    have e1 : tries n (upd q t y) = tries n q := by unfold tries; omega
    have e2 : ents n (upd q t y) ≤ ents n q := by unfold ents; omega
    have e3 : tries n q * (4 * ents n (upd q t y) + 4) ≤ tries n q * (4 * ents n q + 4) := Nat.mul_le_mul_left _ (by omega)
    unfold wpot
    rw [e1]; omega
  cases x with
  | idle => cases hm
  | look =>
    by_cases c : W = 0
    · simp only [TS.step, if_pos c]; exact one .egen (by simp [TS.wt, c]) rfl (Nat.le_refl _)
    · simp only [TS.step, if_neg c]; exact one .undo (by simp [TS.wt, c]) rfl (Nat.le_refl _)
  | egen => exact one .inn (by simp [TS.wt]) rfl (Nat.le_refl _)
  | undo => exact one .wait (by simp [TS.wt]) rfl (Nat.le_refl _)
  | wait =>
    have c : W = 0 := by simpa [TS.moves] using hm
    simp only [TS.step, if_pos c]; exact one .beg (by simp [TS.wt, c]) rfl (Nat.le_refl _)
  | beg => exact one .look (by simp only [TS.wt]; split <;> omega) rfl (Nat.le_refl _)
  | inn => exact one .idle (by simp [TS.wt]) rfl (Nat.zero_le _)
  | busy =>
    have c : B = 0 := by simpa [TS.moves] using hm
    simp only [TS.step, if_pos c]; exact one .sgen (by simp [TS.wt]) rfl (Nat.le_refl _)
  | sgen => exact one .stopped (by simp [TS.wt]) rfl (Nat.le_refl _)
  | try_ =>
    have c : W = 0 := by simpa [TS.moves] using hm
    subst c
    simp only [TS.step, if_true]
    have a := sumN_upd (TS.wt false) q (t := t) .busy ht
    have b := sumN_upd TS.tr q (t := t) .busy ht
    have c := sumN_upd TS.ent q (t := t) .busy ht
    rw [hx] at a b c
    have d := sumN_le (n := n) (f := fun j => (upd q t .busy j).wt true) (g := fun j => (upd q t .busy j).wt false + 4 * (upd q t .busy j).ent) (c := 0) (fun j _ => by have := TS.wt_held (upd q t .busy j); omega)
    rw [sumN_add, sumN_mul] at d
    have e1 : tries n (upd q t .busy) + 1 = tries n q := by
      have e : TS.tr .try_ = 1 := rfl
      have e' : TS.tr .busy = 0 := rfl
      unfold tries; omega
    have e2 : ents n (upd q t .busy) = ents n q := by
      have e : TS.ent .try_ = 0 := rfl
      have e' : TS.ent .busy = 0 := rfl
      unfold ents; omega
    have e3 : tries n q * (4 * ents n q + 4) = tries n (upd q t .busy) * (4 * ents n q + 4) + (4 * ents n q + 4) := by rw [← e1, Nat.succ_mul]
    have f1 : TS.wt false .try_ = 0 := rfl
    have f2 : TS.wt false .busy = 3 := rfl
    unfold wpot
    rw [e2, e3]
    have g1 : decide (t + 1 ≠ 0) = true := by simp
    have g2 : decide ((0 : Nat) ≠ 0) = false := by simp
    rw [g1, g2]
    unfold ents at e2 ⊢
    omega
  | stopped =>
    have hW := h.own t ht (by rw [hx]; rfl)
    have a := sumN_upd (TS.wt true) q (t := t) .idle ht
    have b := sumN_upd TS.tr q (t := t) .idle ht
    have c := sumN_upd TS.ent q (t := t) .idle ht
    rw [hx] at a b c
    have d := sumN_le (n := n) (f := fun j => (upd q t .idle j).wt false) (g := fun j => (upd q t .idle j).wt true) (c := 0) (fun j _ => by have := TS.wt_free (upd q t .idle j); omega)
    have e1 : tries n (upd q t .idle) = tries n q := by
      have e : TS.tr .stopped = 0 := rfl
      have e' : TS.tr .idle = 0 := rfl
      unfold tries; omega
    have e2 : ents n (upd q t .idle) = ents n q := by
      have e : TS.ent .stopped = 0 := rfl
      have e' : TS.ent .idle = 0 := rfl
      unfold ents; omega
    have f1 : TS.wt true .stopped = 1 := rfl
    have f2 : TS.wt true .idle = 0 := rfl
    simp only [TS.step]
    unfold wpot
    rw [e1, e2]
    have g1 : decide (W ≠ 0) = true := by rw [hW]; simp
    have g2 : decide ((0 : Nat) ≠ 0) = false := by simp
    rw [g1, g2]
    omega
/-- If they are not all idle, a pick of one of them turns something. -/
theorem WI.some (h : WI n q W B) : (∀ t, t < n → q t = .idle) ∨ ∃ t, t < n ∧ (q t).moves W B = true := by
  rcases Nat.eq_zero_or_pos (sumN (fun t => if (q t).moves W B = true then 1 else 0) n) with h0 | h0
  · left
    have hz : ∀ t, t < n → (q t).moves W B = false := fun t ht => by
      have := sumN_zero h0 t ht
      cases hc : (q t).moves W B
      · rfl
      · simp [hc] at this
    have hB : B = 0 := by
      rcases Nat.eq_zero_or_pos B with h1 | h1
      · exact h1
      · have hc := h.cnt
        obtain ⟨j, j1, j2⟩ := sumN_pos (f := fun t => (q t).cnt) (n := n) (by omega)
        have := hz j j1
        cases hq : q j <;> simp only [hq, TS.cnt, TS.moves] at this j2 <;> first | omega | cases this
    have hW : W = 0 := by
      rcases h.w with e | ⟨k, k1, k2, k3⟩
      · exact e
      · have := hz k k1
        cases hq : q k <;> simp only [hq, TS.holds, TS.moves] at this k3 <;> first | omega | (cases this; done) | (simp [hB] at this)
    intro t ht
    have := hz t ht
    cases hq : q t <;> simp only [hq, TS.moves] at this <;> first | rfl | (cases this; done) | (simp [hB, hW] at this)
  · right
    obtain ⟨t, h1, h2⟩ := sumN_pos (f := fun t => if (q t).moves W B = true then 1 else 0) (n := n) (by omega)
    refine ⟨t, h1, ?_⟩
    cases hc : (q t).moves W B
    · simp [hc] at h2
    · rfl
theorem WI.max (h : WI n q W B) (hn : n ≤ 6) : wpot n q W ≤ 66 := by
  have hs : ents n q + tries n q + sumN (fun t => (q t).holds) n ≤ n := by
    have := sumN_max (n := n) (f := fun t => (q t).ent + (q t).tr + (q t).holds) (c := 1) (fun t _ => TS.sort_le (q t))
    rw [sumN_add (f := fun t => (q t).ent + (q t).tr) (g := fun t => (q t).holds), sumN_add (f := fun t => (q t).ent) (g := fun t => (q t).tr)] at this
    unfold ents tries; omega
  have hH : sumN (fun t => (q t).holds) n ≤ 1 := sumN_one (fun t _ => TS.holds_le (q t)) (fun i j hi hj e1 e2 => by
    have a := TS.holds_le (q i); have b := TS.holds_le (q j)
    have := h.own i hi (by omega); have := h.own j hj (by omega); omega)
  obtain ⟨E, hE⟩ : ∃ E, ents n q = E := ⟨_, rfl⟩
  obtain ⟨T, hT⟩ : ∃ T, tries n q = T := ⟨_, rfl⟩
  obtain ⟨H, hHd⟩ : ∃ H, sumN (fun t => (q t).holds) n = H := ⟨_, rfl⟩
  have hw : sumN (fun t => (q t).wt (decide (W ≠ 0))) n ≤ (if W = 0 then 6 * E else 8 * E + 3 * H) := by
    by_cases c : W = 0
    · rw [if_pos c]
      subst c
      have d := sumN_le (n := n) (f := fun j => (q j).wt false) (g := fun j => 6 * (q j).ent) (c := 0) (fun j hj => by have := TS.wt_max0 (q j); have := h.free hj; omega)
      rw [sumN_mul] at d
      have g2 : decide ((0 : Nat) ≠ 0) = false := by simp
      rw [g2]
      unfold ents at hE; omega
    · rw [if_neg c]
      have d := sumN_le (n := n) (f := fun j => (q j).wt true) (g := fun j => 8 * (q j).ent + 3 * (q j).holds) (c := 0) (fun j _ => TS.wt_max (q j))
      rw [sumN_add (f := fun j => 8 * (q j).ent) (g := fun j => 3 * (q j).holds), sumN_mul, sumN_mul] at d
      have g2 : decide (W ≠ 0) = true := by simpa using c
      rw [g2]
      unfold ents at hE; omega
  have hW : W ≠ 0 → 1 ≤ H := fun c => by
    rcases h.w with e | ⟨k, k1, k2, k3⟩
    · exact absurd e c
    · rcases Nat.eq_zero_or_pos H with h0 | h0
      · rw [h0] at hHd; have := sumN_zero hHd k k1; omega
      · exact h0
  unfold wpot
  rw [hE, hT]
  rw [hE, hT, hHd] at hs
  rw [hHd] at hH
  have hT6 : T = 0 ∨ T = 1 ∨ T = 2 ∨ T = 3 ∨ T = 4 ∨ T = 5 ∨ T = 6 := by omega
  by_cases c : W = 0
  · rw [if_pos c] at hw
    rcases hT6 with e | e | e | e | e | e | e <;> subst e <;> omega
  · rw [if_neg c] at hw
    have := hW c
    rcases hT6 with e | e | e | e | e | e | e <;> subst e <;> omega
end
/-- Behind the drawn ones all are idle, or one that a pick turns comes soon. -/
def EndW (n drawn i W B : Nat) (q : Nat → TS) : Prop := drawn ≤ i → (∀ t, t < n → q t = .idle) ∨ ∃ d, d < n ∧ (q ((i + d) % n)).moves W B = true ∧ n * wpot n q W + d + (i - drawn) ≤ 399 + n
section
variable {n drawn i t W B W' B' : Nat} {q q' : Nat → TS}
theorem EndW.fresh (h : WI n q W B) (hn : n ≤ 6) (hi : i ≤ drawn) : EndW n drawn i W B q := fun hd => by
  rcases h.some with h1 | ⟨t, h1, h2⟩
  · exact .inl h1
  · obtain ⟨d, d1, d2⟩ := next_at (i := i) h1
    refine .inr ⟨d, d1, by rw [d2]; exact h2, ?_⟩
    have : n * wpot n q W ≤ 6 * 66 := Nat.mul_le_mul hn (h.max hn)
    omega
/-- A pick that turns nothing. -/
theorem EndW.skip (h : EndW n drawn i W B q) (hI : WI n q W B) (hn : n ≤ 6) (ht : drawn ≤ i → t = i % n) (ho : (q t).moves W B = false) : EndW n drawn (i + 1) W B q := by
  by_cases c : drawn ≤ i
  · intro _
    rcases h c with h1 | ⟨d, d1, d2, d3⟩
    · exact .inl h1
    · have hd : d ≠ 0 := fun e => by
        subst e
        rw [Nat.add_zero, ← ht c, ho] at d2; cases d2
      refine .inr ⟨d - 1, by omega, ?_, by omega⟩
      rw [show i + 1 + (d - 1) = i + d by omega]; exact d2
  · exact EndW.fresh hI hn (by omega)
theorem EndW.step (h : EndW n drawn i W B q) (hI : WI n q' W' B') (hn : n ≤ 6) (hp : wpot n q' W' + 1 ≤ wpot n q W) (htn : t < n) (ho : (q t).moves W B = true) : EndW n drawn (i + 1) W' B' q' := by
  by_cases c : drawn ≤ i
  · intro _
    rcases h c with h1 | ⟨d, d1, d2, d3⟩
    · rw [h1 t htn] at ho; cases ho
    · rcases hI.some with h1 | ⟨t', h1, h2⟩
      · exact .inl h1
      · obtain ⟨d', e1, e2⟩ := next_at (i := i + 1) h1
        refine .inr ⟨d', e1, by rw [e2]; exact h2, ?_⟩
        have e : n * (wpot n q' W' + 1) ≤ n * wpot n q W := Nat.mul_le_mul_left n hp
        rw [Nat.mul_add, Nat.mul_one] at e
        omega
  · exact EndW.fresh hI hn (by omega)
theorem EndW.over (h : EndW n drawn i W B q) (hI : WI n q W B) (hn : 1 ≤ n) (hi : drawn + 400 ≤ i) : ∀ t, t < n → q t = .idle := by
  rcases h (by omega) with h1 | ⟨d, d1, d2, d3⟩
  · exact h1
  · have ht := Nat.mod_lt (i + d) (show 0 < n by omega)
    have := pot_move hI ht d2
    have e : n * 1 ≤ n * wpot n q W := Nat.mul_le_mul_left n (by omega)
    omega
end
end Go.Proofs.Ytbepbcjklgfmjaa

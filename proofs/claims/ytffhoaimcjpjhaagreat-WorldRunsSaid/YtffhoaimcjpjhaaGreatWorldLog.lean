/- Enter, exit, stop: what the document's machine does behind a log. Plain law over the pure runs. By an AI agent. -/
import Derived.Test.YtffhoaimcjpjhaaGreatDocTill
namespace Go.Proofs.YtffhoaimcjpjhaaGreat
open Go.RowKit
section
variable {x y : MS} {s : StoreS} {c : Ac} {v : Int} {r : List Int}
/-- The machine behind what it was told so far: y is x, k words on. -/
def MS.on (x : MS) (k : Nat) : MS := { x with at_ := x.at_ + k }
theorem on_told (hu : x.used = false) (h : x.log.drop x.at_ = v :: r) : x.acc c s = (some v, x.on 1, s) ∧ (x.on 1).log.drop (x.on 1).at_ = r ∧ (x.on 1).used = false := by
  have hv : x.log[x.at_]? = some v := by
    have := congrArg (·[0]?) h
    simpa using this
  refine ⟨acc_told hv, ?_, hu⟩
  show x.log.drop (x.at_ + 1) = r
  rw [← List.drop_drop, h]
  rfl
/-- The live access. -/
def MS.live (x : MS) (c : Ac) (s : StoreS) : MS := { x.told (c.act s) with used := true, log := x.log ++ [s.word c.pos], at_ := x.at_ + 1 }
theorem on_live (hu : x.used = false) (h : x.log.drop x.at_ = []) : x.acc c s = (some (s.word c.pos), x.live c s, c.act s) :=
  acc_now (List.getElem?_eq_none (List.drop_eq_nil_iff.1 h)) hu
theorem live_off (c2 : Ac) (s2 : StoreS) (h : x.log.drop x.at_ = []) : (x.live c s).acc c2 s2 = (none, x.live c s, s2) :=
  acc_off (List.getElem?_eq_none (by have := List.drop_eq_nil_iff.1 h; simp [MS.live]; omega)) rfl
/-- Waiting till a word is 0: it was told so, and how far; or not yet. -/
theorem till_law (a : Int) : ∀ (r : List Int) (x : MS) (f : Nat), x.used = false → x.log.drop x.at_ = r → x.mu < f →
    (∃ k, k < r.length ∧ r[k]? = some 0 ∧ (∀ j, j < k → r[j]? ≠ some 0) ∧ tillP f a x s = (true, x.on (k + 1), s)) ∨
    ((∀ v ∈ r, v ≠ 0) ∧ tillP f a x s = (s.word a == 0, (x.on r.length).live (.load a) s, (Ac.load a).act s))
  | [], x, f, hu, h, hm => by
    obtain ⟨g, rfl⟩ : ∃ g, f = g + 1 := ⟨f - 1, by omega⟩
    have h1 := on_live (c := .load a) (s := s) hu h
    have hmu : (x.live (.load a) s).mu = 0 := by
      have := List.drop_eq_nil_iff.1 h
      simp [MS.mu, MS.live]; omega
    refine .inr ⟨by simp, ?_⟩
    simp only [tillP, h1]
    show _ = (_, x.live (.load a) s, _)
    by_cases h0 : s.word a = 0
    · have h0' : s.word (Ac.load a).pos = 0 := h0
      simp only [if_pos h0', h0]
      rfl
    · have h0' : ¬ s.word (Ac.load a).pos = 0 := h0
      have hf : (s.word a == 0) = false := by simpa using h0
      have hg : 0 < g := by
        have : x.mu ≥ 1 := by simp [MS.mu, hu]
        omega
      obtain ⟨g2, rfl⟩ : ∃ g2, g = g2 + 1 := ⟨g - 1, by omega⟩
      simp only [if_neg h0', tillP, live_off _ _ h, hf]
  | v :: r, x, f, hu, h, hm => by
    obtain ⟨g, rfl⟩ : ∃ g, f = g + 1 := ⟨f - 1, by omega⟩
    obtain ⟨h1, h2, h3⟩ := on_told (c := .load a) (s := s) hu h
    by_cases h0 : v = 0
    · subst h0
      refine .inl ⟨0, by simp, by simp, fun j hj => by omega, ?_⟩
      simp only [tillP, h1, if_true]
    · have hmu : (x.on 1).mu < g := by have := acc_mu h1; omega
      rcases till_law a r (x.on 1) g h3 h2 hmu with ⟨k, k1, k2, k3, k4⟩ | ⟨k1, k2⟩
      · refine .inl ⟨k + 1, by simpa using k1, by simpa using k2, fun j hj => ?_, ?_⟩
        · rcases j with _ | j
          · simpa using h0
          · simpa using k3 j (by omega)
        · simp only [tillP, h1, if_neg h0, k4]
          have e : (x.on 1).on (k + 1) = x.on (k + 1 + 1) := by simp only [MS.on]; congr 1; omega
          rw [e]
      · refine .inr ⟨fun u hu2 => ?_, ?_⟩
        · rcases List.mem_cons.1 hu2 with rfl | hu2
          · exact h0
          · exact k1 u hu2
        · simp only [tillP, h1, if_neg h0, k2]
          have e : (x.on 1).on r.length = x.on (r.length + 1) := by simp only [MS.on]; congr 1; omega
          rw [e]
          rfl
end
end Go.Proofs.YtffhoaimcjpjhaaGreat

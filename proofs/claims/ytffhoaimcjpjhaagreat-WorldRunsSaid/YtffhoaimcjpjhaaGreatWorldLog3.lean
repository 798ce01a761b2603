/- Stop of the document behind a log. Plain law. By an AI agent. -/
import Derived.Test.YtffhoaimcjpjhaaGreatWorldLog2
namespace Go.Proofs.YtffhoaimcjpjhaaGreat
open Go.RowKit
def StSt.ac : StSt → Ac
  | .try_ t => .cas 1 0 (t + 1)
  | .busy => .load 4
  | .gen => .load 0
def StSt.next : StSt → Int → StSt
  | .try_ t, v => if v = 0 then .busy else .try_ t
  | .busy, v => if v = 0 then .gen else .busy
  | .gen, _ => .gen
def StSt.isGen : StSt → Bool
  | .gen => true
  | _ => false
def StSt.at (t : Int) (l : List Int) : StSt := l.foldl StSt.next (.try_ t)
section
variable {s : StoreS} {t : Int}
theorem busy_run : ∀ (r : List Int) (k : Nat), r[k]? = some 0 → (∀ j, j < k → r[j]? ≠ some 0) → r.foldl StSt.next .busy = (r.drop (k + 1)).foldl StSt.next .gen
  | [], k, h, _ => by simp at h
  | v :: r, 0, h, _ => by
    have : v = 0 := by simpa using h
    subst this
    rfl
  | v :: r, k + 1, h, hj => by
    have hv : v ≠ 0 := by have := hj 0 (by omega); simpa using this
    show r.foldl StSt.next (if v = 0 then .gen else .busy) = _
    rw [if_neg hv]
    exact busy_run r k (by simpa using h) (fun j hk => by have := hj (j + 1) (by omega); simpa using this)
theorem busy_stays : ∀ (r : List Int), (∀ v ∈ r, v ≠ 0) → r.foldl StSt.next .busy = .busy
  | [], _ => rfl
  | v :: r, h => by
    have hv := h v (List.mem_cons_self ..)
    show r.foldl StSt.next (if v = 0 then .gen else .busy) = _
    rw [if_neg hv]
    exact busy_stays r (fun u hu => h u (List.mem_cons_of_mem _ hu))
theorem drop_on {x : MS} {r : List Int} (h : x.log.drop x.at_ = r) (k : Nat) : (x.on k).log.drop (x.on k).at_ = r.drop k := by
  show List.drop (x.at_ + k) x.log = _
  rw [← List.drop_drop, h]
theorem stop_law : ∀ (r : List Int) (x : MS) (f : Nat), x.used = false → x.log.drop x.at_ = r → x.mu < f → (∀ k, k < r.length → (StSt.at t (r.take k)).isGen = false) →
    stopP t f x s = (if (StSt.at t r).isGen then wrap64 (s.word 0) else 0, (StSt.at t r).isGen, (x.on r.length).live (StSt.at t r).ac s, (StSt.at t r).ac.act s)
  | [], x, f, hu, h, hm, hg => by
    obtain ⟨g, rfl⟩ : ∃ g, f = g + 1 := ⟨f - 1, by omega⟩
    have h1 := on_live (c := .cas 1 0 (t + 1)) (s := s) hu h
    have hx : 1 ≤ x.mu := by simp [MS.mu, hu]
    obtain ⟨g2, rfl⟩ : ∃ g2, g = g2 + 1 := ⟨g - 1, by omega⟩
    simp only [stopP, h1, tillP, live_off _ _ h]
    split <;> rfl
  | v :: r, x, f, hu, h, hm, hg => by
    obtain ⟨g, rfl⟩ : ∃ g, f = g + 1 := ⟨f - 1, by omega⟩
    obtain ⟨h1, h2, h3⟩ := on_told (c := .cas 1 0 (t + 1)) (s := s) hu h
    have m1 := acc_mu h1
    by_cases h0 : v = 0
    · subst h0
      have e0 : ∀ l, StSt.at t (0 :: l) = l.foldl StSt.next .busy := fun l => rfl
      rcases till_law 4 (s := s) r _ g h3 h2 (by omega) with ⟨k, k1, k2, k3, k4⟩ | ⟨k1, k2⟩
      · have hr : r.drop (k + 1) = [] := by
          rw [List.drop_eq_nil_iff]
          have h5 := hg (k + 2)
          have h6 : ¬ k + 2 < (0 :: r).length := fun h7 => by
            have := h5 h7
            rw [show (0 :: r).take (k + 2) = 0 :: r.take (k + 1) from rfl, e0, busy_run (r.take (k + 1)) k (by rw [List.getElem?_take_of_lt (by omega)]; exact k2) (fun i hi => by rw [List.getElem?_take_of_lt (by omega)]; exact k3 i hi)] at this
            rw [List.drop_eq_nil_of_le (by simp; omega)] at this
            cases this
          simp at h6; omega
        have h8 := drop_on h2 (k + 1)
        rw [hr] at h8
        have h9 := on_live (c := .load 0) (s := s) (x := (x.on 1).on (k + 1)) hu h8
        simp only [stopP, h1, if_true, k4, h9]
        rw [e0, busy_run r k k2 k3, hr]
        have hl : r.length = k + 1 := by have := List.drop_eq_nil_iff.1 hr; omega
        have e5 : (x.on 1).on (k + 1) = x.on ((0 :: r).length) := by simp only [MS.on]; congr 1; simp; omega
        rw [e5]
        rfl
      · have h8 := drop_on h2 r.length
        rw [List.drop_length] at h8
        have e5 : x.on ((0 :: r).length) = (x.on 1).on r.length := by simp only [MS.on]; congr 1; simp; omega
        have hz : wrap64 ((none : Option Int).getD 0) = 0 := by first | rfl | (simp [wrap64]; done) | kernel_rfl | (unfold wrap64; simp; done)
        rw [e0, busy_stays _ k1, e5]
        simp only [stopP, h1, if_true, k2]
        cases s.word 4 == 0
        · rfl
        · simp only [live_off _ _ h8, hz]
          rfl
    · have key := stop_law r (x.on 1) g h3 h2 (by omega) (fun k hk => by
        have := hg (k + 1) (by simp; omega)
        simpa [StSt.at, StSt.next, h0] using this)
      have e5 : (x.on 1).on r.length = x.on ((v :: r).length) := by simp only [MS.on]; congr 1; simp; omega
      have e0 : StSt.at t (v :: r) = StSt.at t r := by simp [StSt.at, StSt.next, h0]
      simp only [stopP, h1, if_neg h0]
      rw [key, e0, e5]
end
end Go.Proofs.YtffhoaimcjpjhaaGreat

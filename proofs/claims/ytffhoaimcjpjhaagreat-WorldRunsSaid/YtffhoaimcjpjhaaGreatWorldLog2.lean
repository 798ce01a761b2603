/- Enter and stop of the document behind a log: the program's own states. Plain law. By an AI agent. -/
import Derived.Test.YtffhoaimcjpjhaaGreatWorldLog
import Derived.Test.YtffhoaimcjpjhaaGreatWorld
import Derived.Test.YtffhoaimcjpjhaaGreatWorld2
namespace Go.Proofs.YtffhoaimcjpjhaaGreat
open Go.RowKit
/-- What a state does, and what comes behind what it was told. -/
def EnSt.ac : EnSt → Ac
  | .begin => .add 4 1
  | .look => .load 1
  | .undo => .add 4 18446744073709551615
  | .wait => .load 1
  | .gen => .load 0
def EnSt.next : EnSt → Int → EnSt
  | .begin, _ => .look
  | .look, v => if v = 0 then .gen else .undo
  | .undo, _ => .wait
  | .wait, v => if v = 0 then .begin else .wait
  | .gen, _ => .gen
def EnSt.isGen : EnSt → Bool
  | .gen => true
  | _ => false
def EnSt.at (l : List Int) : EnSt := l.foldl EnSt.next .begin
section
variable {s : StoreS}
theorem wait_run : ∀ (r : List Int) (k : Nat), r[k]? = some 0 → (∀ j, j < k → r[j]? ≠ some 0) → r.foldl EnSt.next .wait = (r.drop (k + 1)).foldl EnSt.next .begin
  | [], k, h, _ => by simp at h
  | v :: r, 0, h, _ => by
    have : v = 0 := by simpa using h
    subst this
    rfl
  | v :: r, k + 1, h, hj => by
    have hv : v ≠ 0 := by have := hj 0 (by omega); simpa using this
    show r.foldl EnSt.next (if v = 0 then .begin else .wait) = _
    rw [if_neg hv]
    exact wait_run r k (by simpa using h) (fun j hk => by have := hj (j + 1) (by omega); simpa using this)
theorem wait_stays : ∀ (r : List Int), (∀ v ∈ r, v ≠ 0) → r.foldl EnSt.next .wait = .wait
  | [], _ => rfl
  | v :: r, h => by
    have hv := h v (List.mem_cons_self ..)
    show r.foldl EnSt.next (if v = 0 then .begin else .wait) = _
    rw [if_neg hv]
    exact wait_stays r (fun u hu => h u (List.mem_cons_of_mem _ hu))
theorem enter_law : ∀ (n : Nat) (r : List Int) (x : MS) (f : Nat), r.length ≤ n → x.used = false → x.log.drop x.at_ = r → x.mu < f → (∀ k, k < r.length → (EnSt.at (r.take k)).isGen = false) →
    enterP f x s = (if (EnSt.at r).isGen then wrap64 (s.word 0) else 0, (EnSt.at r).isGen, (x.on r.length).live (EnSt.at r).ac s, (EnSt.at r).ac.act s)
  | n, [], x, f, hn, hu, h, hm, hg => by
    obtain ⟨g, rfl⟩ : ∃ g, f = g + 1 := ⟨f - 1, by omega⟩
    have h1 := on_live (c := .add 4 1) (s := s) hu h
    simp only [enterP, h1, live_off _ _ h]
    rfl
  | n, [v1], x, f, hn, hu, h, hm, hg => by
    obtain ⟨g, rfl⟩ : ∃ g, f = g + 1 := ⟨f - 1, by omega⟩
    obtain ⟨h1, h2, h3⟩ := on_told (c := .add 4 1) (s := s) hu h
    have h4 := on_live (c := .load 1) (s := s) h3 h2
    have hz : wrap64 ((none : Option Int).getD 0) = 0 := by first | rfl | (simp [wrap64]; done) | kernel_rfl | (unfold wrap64; simp; done)
    simp only [enterP, h1, h4, live_off _ _ h2, hz]
    split <;> rfl
  | n, v1 :: v2 :: r2, x, f, hn, hu, h, hm, hg => by
    obtain ⟨g, rfl⟩ : ∃ g, f = g + 1 := ⟨f - 1, by omega⟩
    obtain ⟨h1, h2, h3⟩ := on_told (c := .add 4 1) (s := s) hu h
    obtain ⟨h4, h5, h6⟩ := on_told (c := .load 1) (s := s) h3 h2
    by_cases h0 : v2 = 0
    · subst h0
      have hr : r2 = [] := by
        rcases r2 with _ | ⟨u, r2⟩
        · rfl
        · have := hg 2 (by simp)
          simp [EnSt.at, EnSt.next, EnSt.isGen] at this
      subst hr
      have h7 := on_live (c := .load 0) (s := s) h6 h5
      simp only [enterP, h1, h4, h7, if_true]
      rfl
    · have m1 := acc_mu h1; have m2 := acc_mu h4
      rcases r2 with _ | ⟨v3, r3⟩
      · have h7 := on_live (c := .add 4 18446744073709551615) (s := s) h6 h5
        obtain ⟨g2, rfl⟩ : ∃ g2, g = g2 + 1 := ⟨g - 1, by omega⟩
        have e : EnSt.at [v1, v2] = .undo := by simp [EnSt.at, EnSt.next, h0]
        rw [e]
        simp only [enterP, h1, h4, if_neg h0, h7, tillP, live_off _ _ h5]
        rfl
      · obtain ⟨h7, h8, h9⟩ := on_told (c := .add 4 18446744073709551615) (s := s) h6 h5
        have m3 := acc_mu h7
        have e0 : ∀ l, EnSt.at (v1 :: v2 :: v3 :: l) = l.foldl EnSt.next .wait := fun l => by simp [EnSt.at, EnSt.next, h0]
        have ea : ∀ a b c d : Nat, (((x.on a).on b).on c).on d = x.on (a + b + c + d) := fun a b c d => by simp only [MS.on]; congr 1; omega
        rcases till_law 1 (s := s) r3 _ g h9 h8 (by omega) with ⟨k, k1, k2, k3, k4⟩ | ⟨k1, k2⟩
        · have h10 : ((((x.on 1).on 1).on 1).on (k + 1)).log.drop ((((x.on 1).on 1).on 1).on (k + 1)).at_ = r3.drop (k + 1) := by
            show List.drop (_ + (k + 1)) _ = _
            rw [← List.drop_drop]
            have : List.drop (((x.on 1).on 1).on 1).at_ (((x.on 1).on 1).on 1).log = r3 := h8
            show List.drop (k + 1) (List.drop (((x.on 1).on 1).on 1).at_ (((x.on 1).on 1).on 1).log) = _
            rw [this]
          have hlen : (r3.drop (k + 1)).length = r3.length - (k + 1) := List.length_drop ..
          have hn3 : r3.length + 3 ≤ n := by simpa using hn
          have key := enter_law (n - 1) (r3.drop (k + 1)) ((((x.on 1).on 1).on 1).on (k + 1)) g (by omega) hu h10 (by
            have := tillP_mu 1 g (((x.on 1).on 1).on 1) s
            rw [k4] at this
            have h11 : ((((x.on 1).on 1).on 1).on (k + 1)).mu ≤ (((x.on 1).on 1).on 1).mu := this
            omega) (fun j hj => by
            have := hg (j + (k + 1) + 3) (by simp; omega)
            have e3 : (v1 :: v2 :: v3 :: r3).take (j + (k + 1) + 3) = v1 :: v2 :: v3 :: r3.take (k + 1 + j) := by
              rw [show j + (k + 1) + 3 = (k + 1 + j) + 1 + 1 + 1 by omega]; rfl
            rw [e3, e0, wait_run (r3.take (k + 1 + j)) k (by rw [List.getElem?_take_of_lt (by omega)]; exact k2) (fun i hi => by rw [List.getElem?_take_of_lt (by omega)]; exact k3 i hi)] at this
            rw [List.drop_take] at this
            rw [show k + 1 + j - (k + 1) = j by omega] at this
            exact this)
          simp only [enterP, h1, h4, if_neg h0, h7, k4]
          rw [key, e0, wait_run r3 k k2 k3]
          have e5 : ((((x.on 1).on 1).on 1).on (k + 1)).on (r3.drop (k + 1)).length = x.on (v1 :: v2 :: v3 :: r3).length := by
            rw [hlen]; simp only [MS.on]; congr 1; simp; omega
          rw [e5]
          rfl
        · have h10 : ((((x.on 1).on 1).on 1).on r3.length).log.drop ((((x.on 1).on 1).on 1).on r3.length).at_ = [] := by
            show List.drop (_ + r3.length) _ = []
            rw [← List.drop_drop]
            have : List.drop (((x.on 1).on 1).on 1).at_ (((x.on 1).on 1).on 1).log = r3 := h8
            show List.drop r3.length (List.drop (((x.on 1).on 1).on 1).at_ (((x.on 1).on 1).on 1).log) = []
            rw [this]
            simp
          rw [e0, wait_stays _ k1]
          obtain ⟨g2, rfl⟩ : ∃ g2, g = g2 + 1 := ⟨g - 1, by omega⟩
          simp only [enterP, h1, h4, if_neg h0, h7, k2]
          rw [show x.on (v1 :: v2 :: v3 :: r3).length = (((x.on 1).on 1).on 1).on r3.length by rw [ea]; congr 1; simp; omega]
          cases s.word 1 == 0
          · rfl
          · simp only [live_off _ _ h10]
            rfl
end
end Go.Proofs.YtffhoaimcjpjhaaGreat

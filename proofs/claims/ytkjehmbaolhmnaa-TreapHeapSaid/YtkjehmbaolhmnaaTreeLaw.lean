/- What a tree's shape tells of its depths, its draws and its keys; plain Lean. By an AI agent. -/
import Derived.Test.YtkjehmbaolhmnaaTree
namespace Go.Proofs.Ytkjehmbaolhmnaa
open Go.RowKit
namespace Tr
/-- Each stands one below the one ahead of it, at the most. -/
def chain (p : Int) : List (Int × Int) → Prop
  | [] => True
  | x :: xs => x.2 ≤ p + 1 ∧ chain x.2 xs
theorem chain_shape (t : Tr) : ∀ (dep : Nat) (p : Int) (R : List (Int × Int)), (dep : Int) ≤ p + 1 → (∀ q, (dep : Int) - 1 ≤ q → chain q R) → chain p (shape dep t ++ R) := by
  induction t with
  | nil => intro dep p R hp hR; exact hR p (by omega)
  | node b k d v l r ihl ihr =>
    intro dep p R hp hR
    simp only [shape, List.cons_append, List.append_assoc, chain]
    refine ⟨hp, ihl (dep + 1) _ _ (by omega) fun q hq => ihr (dep + 1) q R (by omega) fun q' hq' => hR q' (by omega)⟩
theorem chain_at {L : List (Int × Int)} : ∀ {p : Int}, chain p L → ∀ (i : Nat) (x y : Int × Int), L[i]? = some y → L[i + 1]? = some x → x.2 ≤ y.2 + 1 := by
  induction L with
  | nil => intro p _ i x y h; simp at h
  | cons z zs ih =>
    intro p h i x y hy hx
    cases i with
    | zero =>
      simp at hy; subst hy
      cases zs with
      | nil => simp at hx
      | cons u us => simp at hx; subst hx; exact h.2.1
    | succ i => exact ih h.2 i x y (by simpa using hy) (by simpa using hx)
theorem shape_ge {t : Tr} : ∀ {dep : Nat} {x : Int × Int}, x ∈ shape dep t → (dep : Int) ≤ x.2 := by
  induction t with
  | nil => intro dep x h; simp [shape] at h
  | node b k d v l r ihl ihr =>
    intro dep x h
    simp only [shape, List.mem_cons, List.mem_append] at h
    rcases h with rfl | h | h
    · exact Int.le_refl _
    · have := ihl h; omega
    · have := ihr h; omega
theorem shape_lt {t : Tr} : ∀ {dep : Nat} {x : Int × Int}, x ∈ shape dep t → x.2 < (dep : Int) + t.size := by
  induction t with
  | nil => intro dep x h; simp [shape] at h
  | node b k d v l r ihl ihr =>
    intro dep x h
    simp only [shape, List.mem_cons, List.mem_append] at h
    simp only [size]
    rcases h with rfl | h | h
    · simp only; omega
    · have := ihl h; omega
    · have := ihr h; omega
/-- The first one is the root; each other one stands below it, and one below the one ahead of it at the most. -/
theorem shape_first {t : Tr} {dep : Nat} {x : Int × Int} (h : (shape dep t)[0]? = some x) : x.2 = dep := by
  cases t with
  | nil => simp [shape] at h
  | node b k d v l r => simp [shape] at h; rw [← h]
theorem shape_step {t : Tr} {dep i : Nat} {x y : Int × Int} (hy : (shape dep t)[i]? = some y) (hx : (shape dep t)[i + 1]? = some x) : (dep : Int) + 1 ≤ x.2 ∧ x.2 ≤ y.2 + 1 := by
  refine ⟨?_, ?_⟩
  · cases t with
    | nil => simp [shape] at hx
    | node b k d v l r =>
      simp only [shape, List.getElem?_cons_succ] at hx
      have := List.mem_of_getElem? hx
      rcases List.mem_append.1 this with h | h
      · have := shape_ge h; omega
      · have := shape_ge h; omega
  · have := chain_shape t dep ((dep : Int)) [] (by omega) (fun _ _ => trivial)
    rw [List.append_nil] at this
    exact chain_at this i x y hy hx
theorem mem_ins_left {b : Nat} {k d : Int} {v : Value} {l r : Tr} {e : Int × Int × Value} (h : e ∈ l.ins) : e ∈ (node b k d v l r).ins := by simp [ins, h]
theorem mem_ins_right {b : Nat} {k d : Int} {v : Value} {l r : Tr} {e : Int × Int × Value} (h : e ∈ r.ins) : e ∈ (node b k d v l r).ins := by simp [ins, h]
/-- Of one, and another one that stands below it. -/
theorem below_law (t : Tr) : ∀ (dep : Nat), t.bst → t.heap → ∀ (i k : Nat) (xi xk : Int × Int), i < k → (shape dep t)[i]? = some xi → (shape dep t)[k]? = some xk →
    (∀ j xj, i < j → j ≤ k → (shape dep t)[j]? = some xj → xi.2 < xj.2) →
    (∃ di vi dk vk, (xi.1, di, vi) ∈ t.ins ∧ (xk.1, dk, vk) ∈ t.ins ∧ up xi.1 di xk.1 dk = true) ∧ xi.1 ≠ xk.1 ∧ (∀ j xj, i < j → j < k → (shape dep t)[j]? = some xj → xi.1 < xj.1 → xi.1 < xk.1) := by
  induction t with
  | nil => intro dep _ _ i k xi xk _ h; simp [shape] at h
  | node b k0 d v l r ihl ihr =>
    intro dep hb hh i k xi xk hik hi hk hsub
    obtain ⟨b1, b2, b3, b4⟩ := bst_node.1 hb
    obtain ⟨g1, g2, g3, g4⟩ := hh
    obtain ⟨k', rfl⟩ : ∃ k', k = k' + 1 := ⟨k - 1, by omega⟩
    have kA : ∀ j, j < (shape (dep + 1) l).length → (shape dep (node b k0 d v l r))[j + 1]? = (shape (dep + 1) l)[j]? := fun j hj => by
      rw [shape, List.getElem?_cons_succ, List.getElem?_append_left hj]
    have kB : ∀ j, (shape dep (node b k0 d v l r))[(shape (dep + 1) l).length + j + 1]? = (shape (dep + 1) r)[j]? := fun j => by
      rw [shape, List.getElem?_cons_succ, List.getElem?_append_right (by omega)]
      congr 1; omega
    cases i with
    | zero =>
      simp only [shape, List.getElem?_cons_zero, Option.some.injEq] at hi
      subst hi
      rcases Nat.lt_or_ge k' (shape (dep + 1) l).length with hA | hA
      · rw [kA k' hA] at hk
        obtain ⟨dk, vk, hm⟩ := shape_mem (List.mem_of_getElem? hk)
        have h3 := b3 _ hm
        refine ⟨⟨d, v, dk, vk, by simp [ins], mem_ins_left hm, g1 _ hm⟩, by simp only at h3 ⊢; omega, ?_⟩
        intro j xj hj0 hj1 hxj hlt
        obtain ⟨j', rfl⟩ : ∃ j', j = j' + 1 := ⟨j - 1, by omega⟩
        rw [kA j' (by omega)] at hxj
        obtain ⟨dj, vj, hmj⟩ := shape_mem (List.mem_of_getElem? hxj)
        have := b3 _ hmj
        simp only at this hlt
        omega
      · obtain ⟨j', rfl⟩ : ∃ j', k' = (shape (dep + 1) l).length + j' := ⟨k' - (shape (dep + 1) l).length, by omega⟩
        rw [kB j'] at hk
        obtain ⟨dk, vk, hm⟩ := shape_mem (List.mem_of_getElem? hk)
        have h3 := b4 _ hm
        exact ⟨⟨d, v, dk, vk, by simp [ins], mem_ins_right hm, g2 _ hm⟩, by simp only at h3 ⊢; omega, fun _ _ _ _ _ _ => h3⟩
    | succ i =>
      rcases Nat.lt_or_ge i (shape (dep + 1) l).length with hiA | hiA
      · rw [kA i hiA] at hi
        rcases Nat.lt_or_ge k' (shape (dep + 1) l).length with hA | hA
        · rw [kA k' hA] at hk
          obtain ⟨⟨di, vi, dk, vk, m1, m2, m3⟩, h2, h3⟩ := ihl (dep + 1) b1 g3 i k' xi xk (by omega) hi hk (fun j xj h1 h2 h3 => hsub (j + 1) xj (by omega) (by omega) (by rw [kA j (by omega)]; exact h3))
          refine ⟨⟨di, vi, dk, vk, mem_ins_left m1, mem_ins_left m2, m3⟩, h2, ?_⟩
          intro j xj hj0 hj1 hxj hlt
          obtain ⟨j', rfl⟩ : ∃ j', j = j' + 1 := ⟨j - 1, by omega⟩
          rw [kA j' (by omega)] at hxj
          exact h3 j' xj (by omega) (by omega) hxj hlt
        · exfalso
          obtain ⟨j', rfl⟩ : ∃ j', k' = (shape (dep + 1) l).length + j' := ⟨k' - (shape (dep + 1) l).length, by omega⟩
          rw [kB j'] at hk
          obtain ⟨y, hy⟩ : ∃ y, (shape (dep + 1) r)[0]? = some y := by
            have := (List.getElem?_eq_some_iff.1 hk).1
            exact ⟨_, List.getElem?_eq_getElem (by omega)⟩
          have h1 := hsub ((shape (dep + 1) l).length + 0 + 1) y (by omega) (by omega) (by rw [kB 0]; exact hy)
          have h2 := shape_first hy
          have h3 := shape_ge (List.mem_of_getElem? hi)
          omega
      · obtain ⟨i', rfl⟩ : ∃ i', i = (shape (dep + 1) l).length + i' := ⟨i - (shape (dep + 1) l).length, by omega⟩
        obtain ⟨j', rfl⟩ : ∃ j', k' = (shape (dep + 1) l).length + j' := ⟨k' - (shape (dep + 1) l).length, by omega⟩
        rw [kB i'] at hi
        rw [kB j'] at hk
        obtain ⟨⟨di, vi, dk, vk, m1, m2, m3⟩, h2, h3⟩ := ihr (dep + 1) b2 g4 i' j' xi xk (by omega) hi hk (fun j xj h1 h2 h3 => hsub ((shape (dep + 1) l).length + j + 1) xj (by omega) (by omega) (by rw [kB j]; exact h3))
        refine ⟨⟨di, vi, dk, vk, mem_ins_right m1, mem_ins_right m2, m3⟩, h2, ?_⟩
        intro j xj hj0 hj1 hxj hlt
        obtain ⟨j2, rfl⟩ : ∃ j2, j = (shape (dep + 1) l).length + j2 + 1 := ⟨j - (shape (dep + 1) l).length - 1, by omega⟩
        rw [kB j2] at hxj
        exact h3 j2 xj (by omega) (by omega) hxj hlt
/-- A key's draw. -/
def drawOf (key : Int) (t : Tr) : Int := match find key t with
  | nil => 0
  | node _ _ d _ _ _ => d
theorem drawOf_mem {t : Tr} (h : t.bst) {k d : Int} {v : Value} (he : (k, d, v) ∈ t.ins) : drawOf k t = d := by
  obtain ⟨b, l, r, hf⟩ := find_mem h he
  simp only at hf
  rw [drawOf, hf]
theorem below_draws {t : Tr} (h : t.ok) {i k : Nat} {xi xk : Int × Int} (hik : i < k) (hi : (shape 0 t)[i]? = some xi) (hk : (shape 0 t)[k]? = some xk) (hsub : ∀ j xj, i < j → j ≤ k → (shape 0 t)[j]? = some xj → xi.2 < xj.2) :
    (drawOf xk.1 t < drawOf xi.1 t ∨ drawOf xi.1 t = drawOf xk.1 t ∧ xi.1 < xk.1) ∧ xi.1 ≠ xk.1 ∧ (∀ j xj, i < j → j < k → (shape 0 t)[j]? = some xj → xi.1 < xj.1 → xi.1 < xk.1) := by
  obtain ⟨⟨di, vi, dk, vk, m1, m2, m3⟩, h2, h3⟩ := below_law t 0 h.bst h.heap i k xi xk hik hi hk hsub
  rw [drawOf_mem h.bst m1, drawOf_mem h.bst m2]
  exact ⟨up_iff.1 m3, h2, h3⟩
end Tr
end Go.Proofs.Ytkjehmbaolhmnaa

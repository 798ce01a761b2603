/- A region that draws its order, and whose last store turns what it has loaded: a condition on the world that holds till operation k has come up. By an AI agent. -/
import Derived.Test.YtbijbpnhakbeeaaMem
import Derived.Deep.RegionHeld3
namespace Go.Proofs.Ytbijbpnhakbeeaa
open Go.RowKit
section
variable {P : Program} {ops : Array Oper} {Q : Exit → Act → World → Prop} {md : Region.Mode} {S : World → Prop} {k : Nat}
/-- Whatever comes up: S holds behind it, till number k has come up. -/
def AnyU (P : Program) (md : Region.Mode) (ops : Array Oper) (Q : Exit → Act → World → Prop) (S : World → Prop) (k : Nat) : Nat → Array Bool → Act → World → Prop
  | 0, listed, a, w => Region.ready md ops listed = [] ∧ Q .normal a w
  | fuel + 1, listed, a, w => (Region.ready md ops listed = [] → Q .normal a w) ∧
      ∀ i ∈ Region.ready md ops listed, wpOp P ops Q i (fun a' w' => (i ≠ k → listed.getD k true = false → S w') ∧ AnyU P md ops Q S k fuel (listed.setIfInBounds i true) a' w') a w
theorem AnyU.plain : ∀ (fuel : Nat) (listed : Array Bool) (a : Act) (w : World), AnyU P md ops Q S k fuel listed a w → wpAny P md ops Q fuel listed a w
  | 0, _, _, _, h => h
  | fuel + 1, _, _, _, h => ⟨h.1, fun i hi => wpOp_mono (fun a' w' h' => AnyU.plain fuel _ a' w' h'.2) (h.2 i hi)⟩
/-- Number i, for which number k waits, is taken first. -/
theorem AnyU.first {i : Nat} {oi ok : Oper} {v : Value} (hi : ops[i]? = some oi) (hk : ops[k]? = some ok) (hki : ∃ e ∈ ok.after, Region.binds md e = true ∧ e.on = i) (hsel : ∀ (j : Nat) (o : Oper) cs b, ops[j]? = some o → o.op ≠ .select cs b)
    (hQ : ∀ c a w, Q (.panic c) (a.put oi.dst v) w → Q (.panic c) a w) :
    ∀ (fuel : Nat) (listed : Array Bool) (a : Act) (w : World),
      (∀ j oj, ops[j]? = some oj → j ≠ i → listed.getD j true = false → (∀ e ∈ oj.after, Region.binds md e = true → e.on ≠ i) → oi.apart ops oj = true) →
      listed.getD k true = false → i ≠ k → i ∈ Region.ready md ops listed → YieldsIf P ops S oi v a → S w →
      AnyU P md ops Q S k fuel (listed.setIfInBounds i true) (a.put oi.dst v) w → AnyU P md ops Q S k (fuel + 1) listed a w := by
  intro fuel
  induction fuel with
  | zero =>
    intro listed a w _ hlk hik hr hy hS H
    refine ⟨fun h => absurd hr (by rw [h]; simp), fun j hj => ?_⟩
    by_cases hji : j = i
    · subst hji; exact hy.wpOp hi hS ⟨fun _ _ => hS, H⟩
    · have := ready_mono hj hji
      rw [H.1] at this
      cases this
  | succ fuel ih =>
    intro listed a w hfree hlk hik hr hy hS H
    refine ⟨fun h => absurd hr (by rw [h]; simp), fun j hj => ?_⟩
    by_cases hji : j = i
    · subst hji; exact hy.wpOp hi hS ⟨fun _ _ => hS, H⟩
    · have h1 := H.2 j (ready_mono hj hji)
      obtain ⟨hjun, oj, hoj, hall⟩ := mem_ready.1 hj
      have hnot : ∀ e ∈ oj.after, Region.binds md e = true → e.on ≠ i := fun e he hb heq => by
        have g1 := hall e he hb
        have g0 := (mem_ready.1 hr).1
        rw [heq] at g1
        rcases Nat.lt_or_ge i listed.size with g | g
        · simp [g] at g0 g1; rw [g0] at g1; cases g1
        · simp [Array.getElem?_eq_none g] at g1
      have hjk : j ≠ k := fun e => by
        subst e
        obtain ⟨e, he, hb, heq⟩ := hki
        rw [hk] at hoj
        obtain rfl := Option.some.inj hoj
        exact hnot e he hb heq
      have h2 := wpOp_putIf hoj (hfree j oj hoj hji hjun hnot) (fun cs b => hsel i oi cs b hi) (fun cs b => hsel j oj cs b hoj) hQ hy h1
      have hfree' : ∀ l ol, ops[l]? = some ol → l ≠ i → (listed.setIfInBounds j true).getD l true = false →
          (∀ e ∈ ol.after, Region.binds md e = true → e.on ≠ i) → oi.apart ops ol = true := fun l ol hl hli hun hno => by
        refine hfree l ol hl hli ?_ hno
        by_cases hjl : j = l
        · subst hjl; exact hjun
        · rw [getD_set_ne true hjl] at hun; exact hun
      have hlk' : (listed.setIfInBounds j true).getD k true = false := by rw [getD_set_ne true hjk]; exact hlk
      have hlk2 : (listed.setIfInBounds i true).getD k true = false := by rw [getD_set_ne true hik]; exact hlk
      refine wpOp_mono (fun a' w' h3 => ?_) h2
      have hs := h3.2.1 hjk hlk2
      refine ⟨fun _ _ => hs, ih (listed.setIfInBounds j true) a' w' hfree' hlk' hik (ready_mono hr (Ne.symm hji)) h3.1 hs ?_⟩
      rw [Array.setIfInBounds_comm _ _ hji]
      exact h3.2.2
theorem AnyU.take {i : Nat} {oi ok : Oper} {v : Value} {fuel : Nat} {listed : Array Bool} {a : Act} {w : World} (hi : ops[i]? = some oi) (hk : ops[k]? = some ok) (hki : (ok.after.any fun e => Region.binds md e && e.on == i) = true)
    (hs : Region.noSelect ops = true) (hf : Region.free md ops listed i = true) (hr : (Region.ready md ops listed).contains i = true) (hlk : listed.getD k true = false) (hik : i ≠ k)
    (hQ : ∀ c a w, Q (.panic c) (a.put oi.dst v) w → Q (.panic c) a w) (hy : YieldsIf P ops S oi v a) (hS : S w)
    (h : AnyU P md ops Q S k fuel (listed.setIfInBounds i true) (a.put oi.dst v) w) : AnyU P md ops Q S k (fuel + 1) listed a w := by
  refine AnyU.first hi hk ?_ (Region.noSelect_spec hs) hQ fuel listed a w (Region.free_spec hi hf) hlk hik (by simpa using hr) hy hS h
  rw [Array.any_eq_true] at hki
  obtain ⟨j, hj, hb⟩ := hki
  simp only [Bool.and_eq_true, beq_iff_eq] at hb
  exact ⟨_, Array.getElem_mem hj, hb.1, hb.2⟩
/-- One that alone may come up now, ahead of number k. -/
theorem AnyU.one {i : Nat} {o : Oper} {fuel : Nat} {listed : Array Bool} {a : Act} {w : World} (ho : ops[i]? = some o) (hr : Region.ready md ops listed = [i])
    (h : ∀ K : Act → World → Prop, Shut (∀ a w, S w → (S w → AnyU P md ops Q S k fuel (listed.setIfInBounds i true) a w) → K a w) → if Region.wanted o (yielded ops a.tmps) = true then Oper.wp P o a w K Q else K (a.put o.dst undef) w) :
    AnyU P md ops Q S k (fuel + 1) listed a w :=
  ⟨fun e => absurd e (by rw [hr]; simp), fun j hj => by
    rw [hr] at hj
    obtain rfl := List.mem_singleton.1 hj
    exact wpOp_step ho (fun K hK => h K (fun a w hs hW => hK a w ⟨fun _ _ => hs, hW hs⟩))⟩
/-- Either of two. -/
theorem AnyU.two {i j : Nat} {o o' : Oper} {fuel : Nat} {listed : Array Bool} {a : Act} {w : World} (ho : ops[i]? = some o) (ho' : ops[j]? = some o') (hr : Region.ready md ops listed = [i, j])
    (h : ∀ K : Act → World → Prop, Shut (∀ a w, S w → (S w → AnyU P md ops Q S k fuel (listed.setIfInBounds i true) a w) → K a w) → if Region.wanted o (yielded ops a.tmps) = true then Oper.wp P o a w K Q else K (a.put o.dst undef) w)
    (h' : ∀ K : Act → World → Prop, Shut (∀ a w, S w → (S w → AnyU P md ops Q S k fuel (listed.setIfInBounds j true) a w) → K a w) → if Region.wanted o' (yielded ops a.tmps) = true then Oper.wp P o' a w K Q else K (a.put o'.dst undef) w) :
    AnyU P md ops Q S k (fuel + 1) listed a w :=
  ⟨fun e => absurd e (by rw [hr]; simp), fun l hl => by
    rw [hr] at hl
    rcases List.mem_cons.1 hl with rfl | hl
    · exact wpOp_step ho (fun K hK => h K (fun a w hs hW => hK a w ⟨fun _ _ => hs, hW hs⟩))
    · obtain rfl := List.mem_singleton.1 hl
      exact wpOp_step ho' (fun K hK => h' K (fun a w hs hW => hK a w ⟨fun _ _ => hs, hW hs⟩))⟩
/-- Number k itself, the last one. -/
theorem AnyU.last {o : Oper} {fuel : Nat} {listed : Array Bool} {a : Act} {w : World} (ho : ops[k]? = some o) (hr : Region.ready md ops listed = [k])
    (h : ∀ K : Act → World → Prop, Shut (∀ a w, AnyU P md ops Q S k fuel (listed.setIfInBounds k true) a w → K a w) → if Region.wanted o (yielded ops a.tmps) = true then Oper.wp P o a w K Q else K (a.put o.dst undef) w) :
    AnyU P md ops Q S k (fuel + 1) listed a w :=
  ⟨fun e => absurd e (by rw [hr]; simp), fun j hj => by
    rw [hr] at hj
    obtain rfl := List.mem_singleton.1 hj
    exact wpOp_step ho (fun K hK => h K (fun a w hW => hK a w ⟨fun e => absurd rfl e, hW⟩))⟩
theorem AnyU.done {listed : Array Bool} {a : Act} {w : World} (hr : Region.ready md ops listed = []) (h : Q .normal a w) : ∀ fuel, AnyU P md ops Q S k fuel listed a w
  | 0 => ⟨hr, h⟩
  | _ + 1 => ⟨fun _ => h, by rw [hr]; simp⟩
theorem AnyU.region {id : Nat} {a : Act} {w : World} (hm : P.follows .mixedOrders = true) (hS : S w.drew)
    (h : S w.drew → AnyU P .any ops Q S k ops.size (Array.replicate ops.size false) a w.drew) : (Code.region id ops true).wp P Q a w :=
  wp_region_any hm ((h hS).plain _ _ _ _)
end
end Go.Proofs.Ytbijbpnhakbeeaa

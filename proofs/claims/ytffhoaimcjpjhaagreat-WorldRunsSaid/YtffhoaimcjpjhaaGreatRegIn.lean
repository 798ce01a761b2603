/- A region that draws its order, within a round of a loop over an iterator: the one walk of a region whose last operations stand in one forced order. By an AI agent. -/
import Derived.Test.YtffhoaimcjpjhaaGreatMem
import Derived.StillTail
import Derived.StillTactics
import Derived.OrdersIn
import Derived.TacticsIn
namespace Go.Proofs.YtffhoaimcjpjhaaGreat
open Go.RowKit

/-- An operation that calls no function of Go and defers nothing. -/
structure PlainOp (P : Program) (o : Oper) : Prop where
  about : ∀ ρ w, o.about P w ρ = none
  run : ∀ ρ w x w', (execOp ρ o).run P w = .ok x w' → (∃ v, x = .value v) ∨ x = .skip
  nodefer : ∀ c, o.op ≠ .defer c
theorem run_value {P : Program} {s : Sem Value} {w w' : World} {x : Next} (h : (do pure (.value (← s)) : Sem Next).run P w = .ok x w') : (∃ v, x = .value v) ∨ x = .skip := by
  rw [Sem.run_bind] at h
  cases hs : s.run P w with
  | ok v w1 => rw [hs] at h; simp only [Result.andThen, Sem.run_pure] at h; cases h; exact .inl ⟨v, rfl⟩
  | halt y w1 => rw [hs] at h; simp [Result.andThen] at h
theorem run_skip {P : Program} {s : Sem Unit} {w w' : World} {x : Next} (h : (do s; pure .skip : Sem Next).run P w = .ok x w') : (∃ v, x = .value v) ∨ x = .skip := by
  rw [Sem.run_bind] at h
  cases hs : s.run P w with
  | ok v w1 => rw [hs] at h; simp only [Result.andThen, Sem.run_pure] at h; cases h; exact .inr rfl
  | halt y w1 => rw [hs] at h; simp [Result.andThen] at h
section
variable {P : Program} {d : Option Tmp} {ty : TypeId} {pos : String} {af : Array Edge} {g : Option (Nat × Bool)}
theorem plain_move (x : Operand) : PlainOp P ⟨d, .move x, ty, pos, af, g⟩ := ⟨fun _ _ => rfl, fun ρ w x w' h => by simp only [execOp, Sem.run_pure] at h; cases h; exact .inl ⟨_, rfl⟩, fun _ h => by cases h⟩
theorem plain_fieldAddr (s : TypeId) (x : Operand) (f : Nat) : PlainOp P ⟨d, .fieldAddr s x f, ty, pos, af, g⟩ := ⟨fun _ _ => rfl, fun _ _ _ _ h => run_value h, fun _ h => by cases h⟩
theorem plain_load (t : TypeId) (x : Operand) : PlainOp P ⟨d, .load t x, ty, pos, af, g⟩ := ⟨fun _ _ => rfl, fun _ _ _ _ h => run_value h, fun _ h => by cases h⟩
theorem plain_build (t : TypeId) (ps : Array (Nat × Operand)) : PlainOp P ⟨d, .build t ps, ty, pos, af, g⟩ := ⟨fun _ _ => rfl, fun _ _ _ _ h => run_value h, fun _ h => by cases h⟩
theorem plain_buildSlice (t : TypeId) (n : Nat) (ps : Array (Nat × Operand)) : PlainOp P ⟨d, .buildSlice t n ps, ty, pos, af, g⟩ := ⟨fun _ _ => rfl, fun _ _ _ _ h => run_value h, fun _ h => by cases h⟩
theorem plain_store (t : TypeId) (x y : Operand) : PlainOp P ⟨d, .store t x y, ty, pos, af, g⟩ := ⟨fun _ _ => rfl, fun _ _ _ _ h => run_skip h, fun _ h => by cases h⟩
theorem plain_append (args : Array Operand) (ts : Array TypeId) : PlainOp P ⟨d, .call { callee := .builtin .append, args := args, argTypes := ts }, ty, pos, af, g⟩ :=
  ⟨fun ρ w => by simp [Oper.about, resolve, Target.leads], fun ρ w x w' h => by
    simp only [execOp, resolve, Sem.run_bind, Sem.run_pure, Result.andThen, invoke, builtin] at h
    split at h
    · cases h; exact .inl ⟨_, rfl⟩
    · (cases h), fun _ h => by cases h⟩
def Tame (P : Program) (s : Sem Next) : Prop := ∀ w x w', s.run P w = .ok x w' → (∃ v, x = .value v) ∨ x = .skip
theorem Tame.bind {α : Type} {s : Sem α} {f : α → Sem Next} (h : ∀ a, Tame P (f a)) : Tame P (s >>= f) := fun w x w' hr => by
  rw [Sem.run_bind] at hr
  cases hs : s.run P w with
  | ok v w1 => rw [hs] at hr; exact h v _ _ _ hr
  | halt y w1 => rw [hs] at hr; simp [Result.andThen] at hr
theorem Tame.val (v : Value) : Tame P (pure (.value v)) := fun w x w' hr => by cases hr; exact .inl ⟨v, rfl⟩
theorem Tame.rtp : Tame P (runtimePanic .nilDeref : Sem Next) := fun w x w' hr => by
  simp [runtimePanic, goPanic, go_sem] at hr
theorem Tame.uns (e : Unsupported) {s : Sem Next} (h : Tame P s) : Tame P (do unsupported e; s) := Tame.bind fun _ => h
theorem plain_nilCheck (x : Operand) : PlainOp P ⟨d, .nilCheck x, ty, pos, af, g⟩ := ⟨fun _ _ => rfl, fun ρ => by
    show Tame P _
    simp only [execOp]
    split
    · exact Tame.rtp
    · exact Tame.rtp
    · exact Tame.rtp
    · split
      · exact Tame.rtp
      · refine Tame.bind fun p => Tame.bind fun b => ?_
        split
        · exact Tame.uns _ (Tame.val _)
        · exact Tame.val _
      · exact Tame.val _
    · exact Tame.val _, fun _ h => by cases h⟩
end

theorem wpOpIn_of_plain {F : Fence} {n : Nat} {P : Program} {ops : Array Oper} {Q Q' : Exit → Act → World → Prop} (hp : ∀ o ∈ ops.toList, PlainOp P o) (hq : ∀ x a w, Q x a w → x = .normal)
    {K K' : Act → World → Prop} (hK : ∀ a w, K a w → K' a w) {i : Nat} {a : Act} {w : World} (h : wpOp P ops Q i K a w) : wpOpIn F n P ops Q' i K' a w := by
  unfold wpOp at h
  unfold wpOpIn
  cases ho : ops[i]? with
  | none => rw [ho] at h; exact hK _ _ h
  | some o =>
    rw [ho] at h
    simp only at h ⊢
    obtain ⟨pa, pr, pd⟩ := hp o (by simpa using Array.mem_of_getElem? ho)
    split
    · rename_i hw
      rw [if_pos hw] at h
      rcases h with h | ⟨_, a', w', h⟩
      · unfold Oper.wp at h
        unfold Oper.wpIn
        refine ⟨fun f hf => (by rw [pa] at hf; cases hf), ?_⟩
        rw [Oper.semAt_eq _ _ _ pd]
        cases hr : (execOp a.eval o).run P w with
        | ok x w1 =>
          rw [hr] at h
          rcases pr _ _ _ _ hr with ⟨v, rfl⟩ | rfl
          · exact hK _ _ h
          · exact hK _ _ h
        | halt y w1 =>
          rw [hr] at h
          cases y <;> simp only [Oper.upon] at h
          cases hq _ _ _ h
      · cases hq _ _ _ h
    · rename_i hw
      rw [if_neg hw] at h
      exact ⟨fun f hf => (by rw [pa] at hf; cases hf), hK _ _ h⟩
theorem wpAnyIn_of_plain {F : Fence} {n : Nat} {P : Program} {md : Region.Mode} {ops : Array Oper} {Q Q' : Exit → Act → World → Prop} (hp : ∀ o ∈ ops.toList, PlainOp P o) (hq : ∀ x a w, Q x a w → x = .normal) (hn : ∀ a w, Q .normal a w → Q' .normal a w) :
    ∀ (fuel : Nat) (listed : Array Bool) (a : Act) (w : World), wpAny P md ops Q fuel listed a w → wpAnyIn F n P md ops Q' fuel listed a w
  | 0, _, _, _, h => ⟨h.1, hn _ _ h.2⟩
  | fuel + 1, listed, _, _, h => ⟨fun e => hn _ _ (h.1 e), fun i hi => wpOpIn_of_plain hp hq (fun a w hk => wpAnyIn_of_plain hp hq hn fuel (listed.setIfInBounds i true) a w hk) (h.2 i hi)⟩
theorem wpAny_seq_from {P : Program} {md : Region.Mode} {Q : Exit → Act → World → Prop} {l l' : List Oper} {fuel : Nat} {listed : Array Bool} {a : Act} {w : World} (k : Nat) (hl : l.drop k = l') (hf : fuel = l'.length)
    (hB : Region.seqB md l.toArray l'.length k listed = true) (h : wpList P l.toArray Q l' a w) : wpAny P md l.toArray Q fuel listed a w := by
  subst hf hl
  exact wpAny_of_seq _ k listed a w (fun j => by simp [List.getElem?_drop]) hB h
theorem news_two (w : World) (x y : Value) (t : TypeId) : ∀ j u, [x, y][j]? = some u → (w.alloc (.cells #[x, y] t)).cell? ((⟨w.heap.size, 0, none⟩ : Addr).add j) = some u := by
  intro j u hj
  match j, hj with
  | 0, hj => simp at hj; subst hj; simp [Addr.add]
  | 1, hj => simp at hj; subst hj; simp [Addr.add]
/-- The one walk, in a round too: n operations ahead of the last ones, which stand in one order. -/
theorem wpIn_region_tail {F : Fence} {fn : Nat} {P : Program} {id : Nat} {Q : Exit → Act → World → Prop} {a : Act} {w : World} {l : List Oper} (n : Nat) (hm : P.follows .mixedOrders = true) (hB : Region.lexTailB .any l.toArray n = true) (hp : ∀ o ∈ l, PlainOp P o)
    (h : wpStill P l.toArray w.drew (fun a' => wpList P l.toArray (fun x a' w' => x = .normal ∧ Q .normal a' w') (l.drop n) a' w.drew) (l.take n) a) : (Code.region id l.toArray true).wpIn F fn P Q a w := by
  simp only [Region.lexTailB, Bool.and_eq_true, decide_eq_true_eq] at hB
  obtain ⟨⟨⟨⟨hsel, hn⟩, hs⟩, hc⟩, hlex⟩ := hB
  have hn' : n < l.length := by simpa using hn
  have htl : (l.take n).length = n := by simp; omega
  have hdl : (l.drop n).length = l.toArray.size - n := by simp
  have inv0 : HeadInv .any l.toArray n (Array.replicate l.toArray.size false) :=
    ⟨by simp, fun j oj _ hl => (by rw [getD_replicate_false] at hl; cases hl), fun t _ ht => getD_in (by simpa using ht) (getD_replicate_false _ _)⟩
  have H := wpAnyL_lex (md := .any) (g := l.toArray.size - n) hsel hs hc hn (l.take n) 0 _ a (fun j hj => by
    have hj' : j < n := by rw [htl] at hj; exact hj
    simp [hj']) (by simpa using htl) inv0 (by rw [htl]; exact hlex) h
  have H2 := wpAny_of_head (Q' := fun x a' w' => x = .normal ∧ Q .normal a' w') (g := l.toArray.size - n) (fun listed a' hL => by
    have := wpAny_of_seq (md := .any) (Q' := fun x a' w' => x = .normal ∧ Q .normal a' w') (l.drop n) n listed a' w.drew (fun j => by simp [List.getElem?_drop]) (by rw [hdl]; exact hL.1) hL.2
    rwa [hdl] at this) _ _ _ H
  rw [htl, show n + (l.toArray.size - n) = l.toArray.size by omega] at H2
  exact wpIn_region_any hm (wpAnyIn_of_plain (by simpa using hp) (fun _ _ _ h => h.1) (fun _ _ h => h.2) _ _ _ _ H2)
end Go.Proofs.YtffhoaimcjpjhaaGreat

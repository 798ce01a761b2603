/- A region that draws its order, and whose last store turns what it has loaded: a condition on the world that holds till operation k has come up. The document's free runs begin: the tree's first key, Runs.add, New. The document's arena begins. The document's arena: NewMem; both sides: play.Arenas, play.Put. By an AI agent. -/
import Derived.Test.YthhnpcniijpfeaaGreatZ1
import Derived.Deep.RegionHeld3
import Derived.Test.YthhnpcniijpfeaaGreatZ8
import Derived.Maps.AppendAt
import Derived.Deep.OwnRows
import Derived.Deep.LoopGhost
import Derived.BigQuiet
import Derived.Deep.DeepCutAuto
import Derived.Deep.CutBlock
namespace Go.Proofs.YthhnpcniijpfeaaGreat
open Go.RowKit
set_option linter.unusedSimpArgs false
set_option linter.unusedVariables false
section
variable {P : Program} {ops : Array Oper} {Q : Exit → Act → World → Prop} {md : Region.Mode} {S : World → Prop} {k : Nat}
/-- Whatever comes up: S holds behind it, till number k has come up. -/
def AnyU (P : Program) (md : Region.Mode) (ops : Array Oper) (Q : Exit → Act → World → Prop) (S : World → Prop) (k : Nat) : Nat → Array Bool → Act → World → Prop
  | 0, listed, a, w => Region.ready md ops listed = [] ∧ Q .normal a w
  | fuel + 1, listed, a, w => (Region.ready md ops listed = [] → Q .normal a w) ∧
      ∀ i ∈ Region.ready md ops listed, wpOp P ops Q i (fun a' w' => (i ≠ k → listed.getD k true = false → S w') ∧ AnyU P md ops Q S k fuel (listed.setIfInBounds i true) a' w') a w
theorem AnyU.plain : ∀ (fuel : Nat) (listed : Array Bool) (a : Act) (w : World), AnyU P md ops Q S k fuel listed a w → wpAny P md ops Q fuel listed a w
  | 0, _, _, _, h => h
  | fuel + 1, _, _, _, h => ⟨h.1, fun i hi => wpOp_mono (fun a' w' h' => AnyU.plain fuel _ a' w' h'.2) (h.2 i hi)⟩
/-- Number i, for which number k waits, is taken first. -/
theorem AnyU.first {i : Nat} {oi ok : Oper} {v : Value} (hi : ops[i]? = some oi) (hk : ops[k]? = some ok) (hki : ∃ e ∈ ok.after, Region.binds md e = true ∧ e.on = i) (hsel : ∀ (j : Nat) (o : Oper) cs b, ops[j]? = some o → o.op ≠ .select cs b)
    (hQ : ∀ c a w, Q (.panic c) (a.put oi.dst v) w → Q (.panic c) a w) :
    ∀ (fuel : Nat) (listed : Array Bool) (a : Act) (w : World),
      (∀ j oj, ops[j]? = some oj → j ≠ i → listed.getD j true = false → (∀ e ∈ oj.after, Region.binds md e = true → e.on ≠ i) → oi.apart ops oj = true) →
      listed.getD k true = false → i ≠ k → i ∈ Region.ready md ops listed → YieldsIf P ops S oi v a → S w →
      AnyU P md ops Q S k fuel (listed.setIfInBounds i true) (a.put oi.dst v) w → AnyU P md ops Q S k (fuel + 1) listed a w := by
  intro fuel
  induction fuel with
  | zero =>
    intro listed a w _ hlk hik hr hy hS H
    refine ⟨fun h => absurd hr (by rw [h]; simp), fun j hj => ?_⟩
    by_cases hji : j = i
    · subst hji; exact hy.wpOp hi hS ⟨fun _ _ => hS, H⟩
    · have := ready_mono hj hji
      rw [H.1] at this
      cases this
  | succ fuel ih =>
    intro listed a w hfree hlk hik hr hy hS H
    refine ⟨fun h => absurd hr (by rw [h]; simp), fun j hj => ?_⟩
    by_cases hji : j = i
    · subst hji; exact hy.wpOp hi hS ⟨fun _ _ => hS, H⟩
    · have h1 := H.2 j (ready_mono hj hji)
      obtain ⟨hjun, oj, hoj, hall⟩ := mem_ready.1 hj
      have hnot : ∀ e ∈ oj.after, Region.binds md e = true → e.on ≠ i := fun e he hb heq => by
        have g1 := hall e he hb
        have g0 := (mem_ready.1 hr).1
        rw [heq] at g1
        rcases Nat.lt_or_ge i listed.size with g | g
        · simp [g] at g0 g1; rw [g0] at g1; cases g1
        · simp [Array.getElem?_eq_none g] at g1
      have hjk : j ≠ k := fun e => by
        subst e
        obtain ⟨e, he, hb, heq⟩ := hki
        rw [hk] at hoj
        obtain rfl := Option.some.inj hoj
        exact hnot e he hb heq
      have h2 := wpOp_putIf hoj (hfree j oj hoj hji hjun hnot) (fun cs b => hsel i oi cs b hi) (fun cs b => hsel j oj cs b hoj) hQ hy h1
      have hfree' : ∀ l ol, ops[l]? = some ol → l ≠ i → (listed.setIfInBounds j true).getD l true = false →
          (∀ e ∈ ol.after, Region.binds md e = true → e.on ≠ i) → oi.apart ops ol = true := fun l ol hl hli hun hno => by
        refine hfree l ol hl hli ?_ hno
        by_cases hjl : j = l
        · subst hjl; exact hjun
        · rw [getD_set_ne true hjl] at hun; exact hun
      have hlk' : (listed.setIfInBounds j true).getD k true = false := by rw [getD_set_ne true hjk]; exact hlk
      have hlk2 : (listed.setIfInBounds i true).getD k true = false := by rw [getD_set_ne true hik]; exact hlk
      refine wpOp_mono (fun a' w' h3 => ?_) h2
      have hs := h3.2.1 hjk hlk2
      refine ⟨fun _ _ => hs, ih (listed.setIfInBounds j true) a' w' hfree' hlk' hik (ready_mono hr (Ne.symm hji)) h3.1 hs ?_⟩
      rw [Array.setIfInBounds_comm _ _ hji]
      exact h3.2.2
theorem AnyU.take {i : Nat} {oi ok : Oper} {v : Value} {fuel : Nat} {listed : Array Bool} {a : Act} {w : World} (hi : ops[i]? = some oi) (hk : ops[k]? = some ok) (hki : (ok.after.any fun e => Region.binds md e && e.on == i) = true)
    (hs : Region.noSelect ops = true) (hf : Region.free md ops listed i = true) (hr : (Region.ready md ops listed).contains i = true) (hlk : listed.getD k true = false) (hik : i ≠ k)
    (hQ : ∀ c a w, Q (.panic c) (a.put oi.dst v) w → Q (.panic c) a w) (hy : YieldsIf P ops S oi v a) (hS : S w)
    (h : AnyU P md ops Q S k fuel (listed.setIfInBounds i true) (a.put oi.dst v) w) : AnyU P md ops Q S k (fuel + 1) listed a w := by
  refine AnyU.first hi hk ?_ (Region.noSelect_spec hs) hQ fuel listed a w (Region.free_spec hi hf) hlk hik (by simpa using hr) hy hS h
  rw [Array.any_eq_true] at hki
  obtain ⟨j, hj, hb⟩ := hki
  simp only [Bool.and_eq_true, beq_iff_eq] at hb
  exact ⟨_, Array.getElem_mem hj, hb.1, hb.2⟩
/-- One that alone may come up now, ahead of number k. -/
theorem AnyU.one {i : Nat} {o : Oper} {fuel : Nat} {listed : Array Bool} {a : Act} {w : World} (ho : ops[i]? = some o) (hr : Region.ready md ops listed = [i])
    (h : ∀ K : Act → World → Prop, Shut (∀ a w, S w → (S w → AnyU P md ops Q S k fuel (listed.setIfInBounds i true) a w) → K a w) → if Region.wanted o (yielded ops a.tmps) = true then Oper.wp P o a w K Q else K (a.put o.dst undef) w) :
    AnyU P md ops Q S k (fuel + 1) listed a w :=
  ⟨fun e => absurd e (by rw [hr]; simp), fun j hj => by
    rw [hr] at hj
    obtain rfl := List.mem_singleton.1 hj
    exact wpOp_step ho (fun K hK => h K (fun a w hs hW => hK a w ⟨fun _ _ => hs, hW hs⟩))⟩
/-- Either of two. -/
theorem AnyU.two {i j : Nat} {o o' : Oper} {fuel : Nat} {listed : Array Bool} {a : Act} {w : World} (ho : ops[i]? = some o) (ho' : ops[j]? = some o') (hr : Region.ready md ops listed = [i, j])
    (h : ∀ K : Act → World → Prop, Shut (∀ a w, S w → (S w → AnyU P md ops Q S k fuel (listed.setIfInBounds i true) a w) → K a w) → if Region.wanted o (yielded ops a.tmps) = true then Oper.wp P o a w K Q else K (a.put o.dst undef) w)
    (h' : ∀ K : Act → World → Prop, Shut (∀ a w, S w → (S w → AnyU P md ops Q S k fuel (listed.setIfInBounds j true) a w) → K a w) → if Region.wanted o' (yielded ops a.tmps) = true then Oper.wp P o' a w K Q else K (a.put o'.dst undef) w) :
    AnyU P md ops Q S k (fuel + 1) listed a w :=
  ⟨fun e => absurd e (by rw [hr]; simp), fun l hl => by
    rw [hr] at hl
    rcases List.mem_cons.1 hl with rfl | hl
    · exact wpOp_step ho (fun K hK => h K (fun a w hs hW => hK a w ⟨fun _ _ => hs, hW hs⟩))
    · obtain rfl := List.mem_singleton.1 hl
      exact wpOp_step ho' (fun K hK => h' K (fun a w hs hW => hK a w ⟨fun _ _ => hs, hW hs⟩))⟩
/-- Number k itself, the last one. -/
theorem AnyU.last {o : Oper} {fuel : Nat} {listed : Array Bool} {a : Act} {w : World} (ho : ops[k]? = some o) (hr : Region.ready md ops listed = [k])
    (h : ∀ K : Act → World → Prop, Shut (∀ a w, AnyU P md ops Q S k fuel (listed.setIfInBounds k true) a w → K a w) → if Region.wanted o (yielded ops a.tmps) = true then Oper.wp P o a w K Q else K (a.put o.dst undef) w) :
    AnyU P md ops Q S k (fuel + 1) listed a w :=
  ⟨fun e => absurd e (by rw [hr]; simp), fun j hj => by
    rw [hr] at hj
    obtain rfl := List.mem_singleton.1 hj
    exact wpOp_step ho (fun K hK => h K (fun a w hW => hK a w ⟨fun e => absurd rfl e, hW⟩))⟩
theorem AnyU.done {listed : Array Bool} {a : Act} {w : World} (hr : Region.ready md ops listed = []) (h : Q .normal a w) : ∀ fuel, AnyU P md ops Q S k fuel listed a w
  | 0 => ⟨hr, h⟩
  | _ + 1 => ⟨fun _ => h, by rw [hr]; simp⟩
theorem AnyU.region {id : Nat} {a : Act} {w : World} (hm : P.follows .mixedOrders = true) (hS : S w.drew)
    (h : S w.drew → AnyU P .any ops Q S k ops.size (Array.replicate ops.size false) a w.drew) : (Code.region id ops true).wp P Q a w :=
  wp_region_any hm ((h hS).plain _ _ _ _)
end
theorem infoItem : (Tryz.prog.info? 217).map (fun i => (i.zero, i.size, i.bytes)) = some (some (.agg #[.int .i64 0, .int .u32 0, .int .i64 0]), 3, 24) := by kernel_rfl
theorem infoBool : (Tryz.prog.info? 4).map (fun i => (i.zero, i.size, i.bytes)) = some (some (.bool false), 1, 1) := by kernel_rfl
theorem infoU32 : (Tryz.prog.info? 38).map (fun i => (i.zero, i.size, i.bytes)) = some (some (.int .u32 0), 1, 4) := by kernel_rfl
/-- Nothing appended. -/
theorem run_append_none {P : Program} (w : World) (t ty e : TypeId) (i : TypeInfo) (ht : P.underlying t = some (.slice e)) (hi : P.info? e = some i) (b : Option Addr) (n c : Nat) (hn : n ≤ c) :
    (Builtin.append_ #[t, t] ty #[.slice b n c, .slice none 0 0]).run P w = .ok (.slice b n c) w := by
  cases b <;> simp [Builtin.append_, run_underlying ht, sizeOf, typeInfo, hi, Builtin.lenOf, Builtin.firstCells, loadCells, loadCellsFrom, storeCells, hn]
theorem wp_append_none {P : Program} {op : Oper} {a : Act} {w : World} {K : Act → World → Prop} {Q : Exit → Act → World → Prop} (s x : Operand) (t e : TypeId) (ho : op.op = .call { callee := .builtin .append, args := #[s, x], argTypes := #[t, t] })
    (i : TypeInfo) (ht : P.underlying t = some (.slice e)) (hi : P.info? e = some i) (b : Option Addr) (n c : Nat) (hs : a.eval s = .slice b n c) (hx : a.eval x = .slice none 0 0) (hn : n ≤ c) (h : K (a.put op.dst (.slice b n c)) w) : op.wp P a w K Q := by
  unfold Oper.wp execOp
  simp only [ho, resolve, invoke, builtin, Sem.run_bind, Sem.run_pure, Result.andThen_ok, List.map_toArray, List.map_cons, List.map_nil, hs, hx, run_append_none w t _ e i ht hi b n c hn]
  exact h
theorem adds_grownN {W w' : World} (h : W.grownBy w' none) : Adds W w' := by
  have hb2 := (Below.refl W.heap.size W).grown h (Nat.le_refl _) (fun k hk => by cases hk)
  exact ⟨hb2.os, hb2.tape, hb2.output, hb2.size, fun k hk _ => hb2.block k hk⟩
theorem cells_newL (W : World) (c : List Value) (t : TypeId) : ∀ j u, c[j]? = some u → (W.alloc (.cells c.toArray t)).cell? ((⟨W.heap.size, 0, none⟩ : Addr).add j) = some u := fun j u h => by
  have e : (⟨W.heap.size, 0, none⟩ : Addr).add j = ⟨W.heap.size, j, none⟩ := by unfold Addr.add; split <;> simp_all
  rw [e, (Blk.new W c.toArray t).cell j]
  simpa using h
theorem only_grown {W w' : World} {g : Nat} {a : Nat} {n c : Nat} (h : W.grownBy w' (Value.ownBlock (.slice (some ⟨g, a, none⟩) n c))) : Only (· = g) W w' :=
  ⟨h.os, h.tape, h.output, h.size, fun i hi hs => h.block i hi (fun e => hs (Option.some.inj (Eq.symm e)).symm)⟩
theorem owns_empty {W : World} {g : Nat} {e : TypeId} (h : Blk W g #[] e) (sz : Nat) : W.ownsRow 0 e sz (.slice (some ⟨g, 0, none⟩) 0 0) 0 [] :=
  ⟨by simp, .inr ⟨g, 0, #[], rfl, Nat.zero_le _, h, Nat.le_refl _, Nat.zero_le _, by simp, by simp⟩⟩
theorem cells_blk {W : World} {g : Nat} {l : List Value} {t : TypeId} (h : Blk W g l.toArray t) : ∀ j u, l[j]? = some u → W.cell? ((⟨g, 0, none⟩ : Addr).add j) = some u := fun j u hj => by
  have e : (⟨g, 0, none⟩ : Addr).add j = ⟨g, j, none⟩ := by unfold Addr.add; split <;> simp_all
  rw [e, h.cell j]
  simpa using hj
/-- The cells of the document's runs. -/
abbrev rC (fr tl dr : Value) (n : Int) : Array Value := #[fr, tl, dr, .int .i64 n]
section
variable {w : World} {rb : Nat} {fr dr : Value} {n key d v : Int}
set_option maxHeartbeats 2000000 in
theorem treePlace_nil (h : Blk w rb (rC fr (.slice none 0 0) dr n) 137) : Calls Tryz.prog 175 #[.pointer (some ⟨rb, 1, none⟩), .int .i64 key] w fun e w' => e = .returned (.int .i64 0) ∧ w = w' := by
  have c1 : w.cell? ⟨rb, 1, none⟩ = some (.slice none 0 0) := h.cell 1
  clear h
  go_enter Tryz.func175, Tryz.ntmps175
  go_wp2
  refine wp_loop_rounds 1 ?_
  rw [rounds_succ]
  go_wp2
  go_ret
  exact ⟨rfl, rfl⟩
set_option maxHeartbeats 2000000 in
theorem treeHas_nil (h : Blk w rb (rC fr (.slice none 0 0) dr n) 137) : Calls Tryz.prog 174 #[.pointer (some ⟨rb, 1, none⟩), .int .i64 key] w fun e w' => e = .returned (.bool false) ∧ w = w' := by
  have c1 : w.cell? ⟨rb, 1, none⟩ = some (.slice none 0 0) := h.cell 1
  have H := Lib.hid h
  clear h
  go_enter Tryz.func174, Tryz.ntmps174
  go_wp2_with (go_at_call 175; refine (treePlace_nil H.out).mono ?_; rintro e w1 ⟨rfl, rfl⟩)
  go_ret
  exact ⟨rfl, rfl⟩
set_option maxRecDepth 100000 in
set_option maxHeartbeats 8000000 in
theorem treePut_nil (h : Blk w rb (rC fr (.slice none 0 0) dr n) 137) : Calls Tryz.prog 127 #[.pointer (some ⟨rb, 1, none⟩), .int .i64 key, .int .u32 d, .int .i64 v] w fun e w' => e = .returned (.bool true) ∧ (∃ tl, Blk w' rb (rC fr tl dr n) 137) ∧ Only (· = rb) w w' := by
  obtain ⟨i0, hi, hz0, hz1, hz2⟩ := info_parts infoItem
  have c1 : w.cell? ⟨rb, 1, none⟩ = some (.slice none 0 0) := h.cell 1
  have H := Lib.hid h
  clear h
  go_enter Tryz.func127, Tryz.ntmps127
  go_upto_region 4 with (first
    | (go_at_call 174; refine (treeHas_nil H.out).mono ?_; rintro e w1 ⟨rfl, rfl⟩)
    | (go_at_call 175; refine (treePlace_nil H.out).mono ?_; rintro e w2 ⟨rfl, rfl⟩))
  refine AnyU.region (S := (fun W => Blk W rb (rC fr (.slice none 0 0) dr n) 137 ∧ Adds w W)) (k := 24) (by kernel_rfl) ⟨H.out.only ((Only.refl (fun _ => False) w).drew) (id : ¬ False), (Only.refl (fun _ => False) w).drew⟩ (fun hHeld => ?_)
  refine AnyU.take (i := 0) (v := (.pointer (some ⟨rb, 1, none⟩))) rfl rfl (by kernel_rfl) (by kernel_rfl) (by kernel_rfl) (by kernel_rfl) (by kernel_rfl) (by decide) (fun _ _ _ h => h) (Or.inl ⟨by rfl, fun W hS => by first | rfl | (go_simp; done)⟩) hHeld ?_
  try simp only [Act.put, List.getElem_toArray, List.getElem_cons_succ, List.getElem_cons_zero, List.setIfInBounds_toArray, List.set_cons_zero, List.set_cons_succ]
  refine AnyU.take (i := 2) (v := (.pointer (some ⟨rb, 1, none⟩))) rfl rfl (by kernel_rfl) (by kernel_rfl) (by kernel_rfl) (by kernel_rfl) (by kernel_rfl) (by decide) (fun _ _ _ h => h) (Or.inl ⟨by rfl, fun W hS => by first | rfl | (go_simp; done)⟩) hHeld ?_
  try simp only [Act.put, List.getElem_toArray, List.getElem_cons_succ, List.getElem_cons_zero, List.setIfInBounds_toArray, List.set_cons_zero, List.set_cons_succ]
  refine AnyU.take (i := 3) (v := (.pointer (some ⟨rb, 1, none⟩))) rfl rfl (by kernel_rfl) (by kernel_rfl) (by kernel_rfl) (by kernel_rfl) (by kernel_rfl) (by decide) (fun _ _ _ h => h) (Or.inl ⟨by rfl, fun W hS => by first | rfl | (go_simp; done)⟩) hHeld ?_
  try simp only [Act.put, List.getElem_toArray, List.getElem_cons_succ, List.getElem_cons_zero, List.setIfInBounds_toArray, List.set_cons_zero, List.set_cons_succ]
  refine AnyU.take (i := 4) (v := (.pointer (some ⟨rb, 1, none⟩))) rfl rfl (by kernel_rfl) (by kernel_rfl) (by kernel_rfl) (by kernel_rfl) (by kernel_rfl) (by decide) (fun _ _ _ h => h) (Or.inl ⟨by rfl, fun W hS => by first | rfl | (go_simp; done)⟩) hHeld ?_
  try simp only [Act.put, List.getElem_toArray, List.getElem_cons_succ, List.getElem_cons_zero, List.setIfInBounds_toArray, List.set_cons_zero, List.set_cons_succ]
  refine AnyU.take (i := 5) (v := (.slice none 0 0)) rfl rfl (by kernel_rfl) (by kernel_rfl) (by kernel_rfl) (by kernel_rfl) (by kernel_rfl) (by decide) (fun _ _ _ h => h) (Or.inl ⟨by rfl, fun W hS => by (have q1 : W.cell? ⟨rb, 1, none⟩ = some (.slice none 0 0) := hS.1.cell 1; go_simp)⟩) hHeld ?_
  try simp only [Act.put, List.getElem_toArray, List.getElem_cons_succ, List.getElem_cons_zero, List.setIfInBounds_toArray, List.set_cons_zero, List.set_cons_succ]
  refine AnyU.take (i := 6) (v := (.int .i64 0)) rfl rfl (by kernel_rfl) (by kernel_rfl) (by kernel_rfl) (by kernel_rfl) (by kernel_rfl) (by decide) (fun _ _ _ h => h) (Or.inl ⟨by rfl, fun W hS => by first | rfl | (go_simp; done)⟩) hHeld ?_
  try simp only [Act.put, List.getElem_toArray, List.getElem_cons_succ, List.getElem_cons_zero, List.setIfInBounds_toArray, List.set_cons_zero, List.set_cons_succ]
  refine AnyU.take (i := 7) (v := (.slice none 0 0)) rfl rfl (by kernel_rfl) (by kernel_rfl) (by kernel_rfl) (by kernel_rfl) (by kernel_rfl) (by decide) (fun _ _ _ h => h) (Or.inl ⟨by rfl, fun W hS => by (go_simp)⟩) hHeld ?_
  try simp only [Act.put, List.getElem_toArray, List.getElem_cons_succ, List.getElem_cons_zero, List.setIfInBounds_toArray, List.set_cons_zero, List.set_cons_succ]
  refine AnyU.take (i := 9) (v := (.int .i64 key)) rfl rfl (by kernel_rfl) (by kernel_rfl) (by kernel_rfl) (by kernel_rfl) (by kernel_rfl) (by decide) (fun _ _ _ h => h) (Or.inl ⟨by rfl, fun W hS => by first | rfl | (go_simp; done)⟩) hHeld ?_
  try simp only [Act.put, List.getElem_toArray, List.getElem_cons_succ, List.getElem_cons_zero, List.setIfInBounds_toArray, List.set_cons_zero, List.set_cons_succ]
  refine AnyU.take (i := 10) (v := (.int .u32 d)) rfl rfl (by kernel_rfl) (by kernel_rfl) (by kernel_rfl) (by kernel_rfl) (by kernel_rfl) (by decide) (fun _ _ _ h => h) (Or.inl ⟨by rfl, fun W hS => by first | rfl | (go_simp; done)⟩) hHeld ?_
  try simp only [Act.put, List.getElem_toArray, List.getElem_cons_succ, List.getElem_cons_zero, List.setIfInBounds_toArray, List.set_cons_zero, List.set_cons_succ]
  refine AnyU.take (i := 11) (v := (.int .i64 v)) rfl rfl (by kernel_rfl) (by kernel_rfl) (by kernel_rfl) (by kernel_rfl) (by kernel_rfl) (by decide) (fun _ _ _ h => h) (Or.inl ⟨by rfl, fun W hS => by first | rfl | (go_simp; done)⟩) hHeld ?_
  try simp only [Act.put, List.getElem_toArray, List.getElem_cons_succ, List.getElem_cons_zero, List.setIfInBounds_toArray, List.set_cons_zero, List.set_cons_succ]
  refine AnyU.take (i := 12) (v := (.agg #[.int .i64 key, .int .u32 d, .int .i64 v])) rfl rfl (by kernel_rfl) (by kernel_rfl) (by kernel_rfl) (by kernel_rfl) (by kernel_rfl) (by decide) (fun _ _ _ h => h) (Or.inl ⟨by rfl, fun W hS => by (go_simp; done)⟩) hHeld ?_
  try simp only [Act.put, List.getElem_toArray, List.getElem_cons_succ, List.getElem_cons_zero, List.setIfInBounds_toArray, List.set_cons_zero, List.set_cons_succ]
  refine AnyU.take (i := 15) (v := (.pointer (some ⟨rb, 1, none⟩))) rfl rfl (by kernel_rfl) (by kernel_rfl) (by kernel_rfl) (by kernel_rfl) (by kernel_rfl) (by decide) (fun _ _ _ h => h) (Or.inl ⟨by rfl, fun W hS => by first | rfl | (go_simp; done)⟩) hHeld ?_
  try simp only [Act.put, List.getElem_toArray, List.getElem_cons_succ, List.getElem_cons_zero, List.setIfInBounds_toArray, List.set_cons_zero, List.set_cons_succ]
  refine AnyU.take (i := 16) (v := (.pointer (some ⟨rb, 1, none⟩))) rfl rfl (by kernel_rfl) (by kernel_rfl) (by kernel_rfl) (by kernel_rfl) (by kernel_rfl) (by decide) (fun _ _ _ h => h) (Or.inl ⟨by rfl, fun W hS => by first | rfl | (go_simp; done)⟩) hHeld ?_
  try simp only [Act.put, List.getElem_toArray, List.getElem_cons_succ, List.getElem_cons_zero, List.setIfInBounds_toArray, List.set_cons_zero, List.set_cons_succ]
  refine AnyU.take (i := 17) (v := (.pointer (some ⟨rb, 1, none⟩))) rfl rfl (by kernel_rfl) (by kernel_rfl) (by kernel_rfl) (by kernel_rfl) (by kernel_rfl) (by decide) (fun _ _ _ h => h) (Or.inl ⟨by rfl, fun W hS => by first | rfl | (go_simp; done)⟩) hHeld ?_
  try simp only [Act.put, List.getElem_toArray, List.getElem_cons_succ, List.getElem_cons_zero, List.setIfInBounds_toArray, List.set_cons_zero, List.set_cons_succ]
  refine AnyU.take (i := 18) (v := (.slice none 0 0)) rfl rfl (by kernel_rfl) (by kernel_rfl) (by kernel_rfl) (by kernel_rfl) (by kernel_rfl) (by decide) (fun _ _ _ h => h) (Or.inl ⟨by rfl, fun W hS => by (have q1 : W.cell? ⟨rb, 1, none⟩ = some (.slice none 0 0) := hS.1.cell 1; go_simp)⟩) hHeld ?_
  try simp only [Act.put, List.getElem_toArray, List.getElem_cons_succ, List.getElem_cons_zero, List.setIfInBounds_toArray, List.set_cons_zero, List.set_cons_succ]
  refine AnyU.take (i := 19) (v := (.int .i64 0)) rfl rfl (by kernel_rfl) (by kernel_rfl) (by kernel_rfl) (by kernel_rfl) (by kernel_rfl) (by decide) (fun _ _ _ h => h) (Or.inl ⟨by rfl, fun W hS => by first | rfl | (go_simp; done)⟩) hHeld ?_
  try simp only [Act.put, List.getElem_toArray, List.getElem_cons_succ, List.getElem_cons_zero, List.setIfInBounds_toArray, List.set_cons_zero, List.set_cons_succ]
  refine AnyU.take (i := 20) (v := (.slice none 0 0)) rfl rfl (by kernel_rfl) (by kernel_rfl) (by kernel_rfl) (by kernel_rfl) (by kernel_rfl) (by decide) (fun _ _ _ h => h) (Or.inl ⟨by rfl, fun W hS => by (go_simp)⟩) hHeld ?_
  try simp only [Act.put, List.getElem_toArray, List.getElem_cons_succ, List.getElem_cons_zero, List.setIfInBounds_toArray, List.set_cons_zero, List.set_cons_succ]
  refine AnyU.two (i := 1) (j := 13) rfl rfl (by kernel_rfl) (fun K hK => ?_) (fun K hK => ?_)
  · simp only [List.getElem_toArray, List.getElem_cons_succ, List.getElem_cons_zero]
    go_simp
    have hE : Blk (w.drew.alloc (.cells #[] 217)) w.heap.size #[] 217 := Blk.new w.drew _ _
    refine hK.out _ (w.drew.alloc (.cells #[] 217)) ⟨hHeld.1.alloc _, hHeld.2.alloc _⟩ (fun hHeld => ?_)
    clear hK
    try simp only [Act.put, List.getElem_toArray, List.getElem_cons_succ, List.getElem_cons_zero, List.setIfInBounds_toArray, List.set_cons_zero, List.set_cons_succ]
    generalize w.drew.alloc (.cells #[] 217) = W1 at hE hHeld ⊢
    have hW1 : w.heap.size ≤ W1.heap.size := hHeld.2.size
    refine AnyU.two (i := 8) (j := 13) rfl rfl (by kernel_rfl) (fun K hK => ?_) (fun K hK => ?_)
    · simp only [List.getElem_toArray, List.getElem_cons_succ, List.getElem_cons_zero]
      rw [if_pos (by rfl)]
      refine wp_append_none _ _ 133 217 rfl i0 Tryz.underlying133 hi _ 0 0 rfl rfl (by omega) ?_
      refine hK.out _ _ hHeld (fun hHeld => ?_)
      clear hK
      try simp only [Act.put, List.getElem_toArray, List.getElem_cons_succ, List.getElem_cons_zero, List.setIfInBounds_toArray, List.set_cons_zero, List.set_cons_succ]
      refine AnyU.one (i := 13) rfl (by kernel_rfl) (fun K hK => ?_)
      simp only [List.getElem_toArray, List.getElem_cons_succ, List.getElem_cons_zero]
      go_simp
      have hN : Blk (W1.alloc (.cells #[.int .i64 key, .int .u32 d, .int .i64 v] 217)) W1.heap.size #[.int .i64 key, .int .u32 d, .int .i64 v] 217 := Blk.new W1 _ _
      have hE := hE.alloc (.cells #[.int .i64 key, .int .u32 d, .int .i64 v] 217)
      have hls := hE.lt
      refine hK.out _ (W1.alloc (.cells #[.int .i64 key, .int .u32 d, .int .i64 v] 217)) ⟨hHeld.1.alloc _, hHeld.2.alloc _⟩ (fun hHeld => ?_)
      clear hK
      try simp only [Act.put, List.getElem_toArray, List.getElem_cons_succ, List.getElem_cons_zero, List.setIfInBounds_toArray, List.set_cons_zero, List.set_cons_succ]
      have hgz : w.heap.size ≤ W1.heap.size := hW1
      generalize hg2 : W1.heap.size = g2 at hN hgz ⊢
      generalize W1.alloc (.cells #[.int .i64 key, .int .u32 d, .int .i64 v] 217) = W2 at hE hN hHeld ⊢
      refine AnyU.one (i := 14) rfl (by kernel_rfl) (fun K hK => ?_)
      simp only [List.getElem_toArray, List.getElem_cons_succ, List.getElem_cons_zero]
      rw [if_pos (by rfl)]
      refine wp_append_own _ _ _ 133 rfl 0 217 i0 (.agg #[.int .i64 0, .int .u32 0, .int .i64 0]) 3 24 Tryz.underlying133 hi hz0 hz1 hz2 rfl (by decide) (.slice (some ⟨w.heap.size, 0, none⟩) 0 0) 0 [] rfl (owns_empty hE 3) ⟨g2, 0, none⟩ 1 1 [.int .i64 key, .int .u32 d, .int .i64 v] rfl rfl (cells_blk hN) (by simp [Value.oneCell']) (by unfold maxLen; omega) (by omega) (Nat.zero_le _) ?_
      intro v' w3 hown hgrow _
      obtain ⟨_, ⟨_, hbad⟩ | ⟨gq, cq, cur, rfl, -, -, hcap, -⟩⟩ := hown
      · omega
      have hO : Only (· = w.heap.size) _ w3 := only_grown hgrow
      have hrb := H.out.lt
      refine hK.out _ w3 ⟨hHeld.1.only hO (by omega), hHeld.2.andThen hO (fun i hi e => by omega)⟩ (fun hHeld => ?_)
      clear hK hgrow hO hE hN
      try simp only [Act.put, List.getElem_toArray, List.getElem_cons_succ, List.getElem_cons_zero, List.setIfInBounds_toArray, List.set_cons_zero, List.set_cons_succ]
      refine AnyU.one (i := 21) rfl (by kernel_rfl) (fun K hK => ?_)
      simp only [List.getElem_toArray, List.getElem_cons_succ, List.getElem_cons_zero]
      rw [if_pos (by rfl)]
      refine wp_append_none _ _ 133 217 rfl i0 Tryz.underlying133 hi (some ⟨gq, 0, none⟩) (0 + 1) cq rfl rfl hcap ?_
      refine hK.out _ _ hHeld (fun hHeld => ?_)
      clear hK
      try simp only [Act.put, List.getElem_toArray, List.getElem_cons_succ, List.getElem_cons_zero, List.setIfInBounds_toArray, List.set_cons_zero, List.set_cons_succ]
      refine AnyU.one (i := 22) rfl (by kernel_rfl) (fun K hK => ?_)
      simp only [List.getElem_toArray, List.getElem_cons_succ, List.getElem_cons_zero]
      go_simp
      refine hK.out _ _ hHeld (fun hHeld => ?_)
      clear hK
      try simp only [Act.put, List.getElem_toArray, List.getElem_cons_succ, List.getElem_cons_zero, List.setIfInBounds_toArray, List.set_cons_zero, List.set_cons_succ]
      refine AnyU.one (i := 23) rfl (by kernel_rfl) (fun K hK => ?_)
      simp only [List.getElem_toArray, List.getElem_cons_succ, List.getElem_cons_zero]
      go_simp
      refine hK.out _ _ hHeld (fun hHeld => ?_)
      clear hK
      try simp only [Act.put, List.getElem_toArray, List.getElem_cons_succ, List.getElem_cons_zero, List.setIfInBounds_toArray, List.set_cons_zero, List.set_cons_succ]
      have q1 : w3.cell? ⟨rb, 1, none⟩ = some (.slice none 0 0) := hHeld.1.cell 1
      have f1 := hHeld.1.frozen 1
      refine AnyU.last rfl (by kernel_rfl) (fun K hK => ?_)
      simp only [List.getElem_toArray, List.getElem_cons_succ, List.getElem_cons_zero]
      go_simp
      refine hK.out _ _ ?_
      clear hK
      refine AnyU.done (by kernel_rfl) ?_ _
      go_wp2_with fail
      go_ret
      exact ⟨rfl, ⟨_, hHeld.1.setCell 1 (.slice (some ⟨gq, 0, none⟩) 1 cq)⟩, (hHeld.2.mono (T := (· = rb)) (fun _ _ e => e.elim)).setCell (p := ⟨rb, 1, none⟩) (.inl rfl) _⟩
    · simp only [List.getElem_toArray, List.getElem_cons_succ, List.getElem_cons_zero]
      go_simp
      have hN : Blk (W1.alloc (.cells #[.int .i64 key, .int .u32 d, .int .i64 v] 217)) W1.heap.size #[.int .i64 key, .int .u32 d, .int .i64 v] 217 := Blk.new W1 _ _
      have hE := hE.alloc (.cells #[.int .i64 key, .int .u32 d, .int .i64 v] 217)
      have hls := hE.lt
      refine hK.out _ (W1.alloc (.cells #[.int .i64 key, .int .u32 d, .int .i64 v] 217)) ⟨hHeld.1.alloc _, hHeld.2.alloc _⟩ (fun hHeld => ?_)
      clear hK
      try simp only [Act.put, List.getElem_toArray, List.getElem_cons_succ, List.getElem_cons_zero, List.setIfInBounds_toArray, List.set_cons_zero, List.set_cons_succ]
      have hgz : w.heap.size ≤ W1.heap.size := hW1
      generalize hg2 : W1.heap.size = g2 at hN hgz ⊢
      generalize W1.alloc (.cells #[.int .i64 key, .int .u32 d, .int .i64 v] 217) = W2 at hE hN hHeld ⊢
      refine AnyU.one (i := 8) rfl (by kernel_rfl) (fun K hK => ?_)
      simp only [List.getElem_toArray, List.getElem_cons_succ, List.getElem_cons_zero]
      rw [if_pos (by rfl)]
      refine wp_append_none _ _ 133 217 rfl i0 Tryz.underlying133 hi _ 0 0 rfl rfl (by omega) ?_
      refine hK.out _ _ hHeld (fun hHeld => ?_)
      clear hK
      try simp only [Act.put, List.getElem_toArray, List.getElem_cons_succ, List.getElem_cons_zero, List.setIfInBounds_toArray, List.set_cons_zero, List.set_cons_succ]
      refine AnyU.one (i := 14) rfl (by kernel_rfl) (fun K hK => ?_)
      simp only [List.getElem_toArray, List.getElem_cons_succ, List.getElem_cons_zero]
      rw [if_pos (by rfl)]
      refine wp_append_own _ _ _ 133 rfl 0 217 i0 (.agg #[.int .i64 0, .int .u32 0, .int .i64 0]) 3 24 Tryz.underlying133 hi hz0 hz1 hz2 rfl (by decide) (.slice (some ⟨w.heap.size, 0, none⟩) 0 0) 0 [] rfl (owns_empty hE 3) ⟨g2, 0, none⟩ 1 1 [.int .i64 key, .int .u32 d, .int .i64 v] rfl rfl (cells_blk hN) (by simp [Value.oneCell']) (by unfold maxLen; omega) (by omega) (Nat.zero_le _) ?_
      intro v' w3 hown hgrow _
      obtain ⟨_, ⟨_, hbad⟩ | ⟨gq, cq, cur, rfl, -, -, hcap, -⟩⟩ := hown
      · omega
      have hO : Only (· = w.heap.size) _ w3 := only_grown hgrow
      have hrb := H.out.lt
      refine hK.out _ w3 ⟨hHeld.1.only hO (by omega), hHeld.2.andThen hO (fun i hi e => by omega)⟩ (fun hHeld => ?_)
      clear hK hgrow hO hE hN
      try simp only [Act.put, List.getElem_toArray, List.getElem_cons_succ, List.getElem_cons_zero, List.setIfInBounds_toArray, List.set_cons_zero, List.set_cons_succ]
      refine AnyU.one (i := 21) rfl (by kernel_rfl) (fun K hK => ?_)
      simp only [List.getElem_toArray, List.getElem_cons_succ, List.getElem_cons_zero]
      rw [if_pos (by rfl)]
      refine wp_append_none _ _ 133 217 rfl i0 Tryz.underlying133 hi (some ⟨gq, 0, none⟩) (0 + 1) cq rfl rfl hcap ?_
      refine hK.out _ _ hHeld (fun hHeld => ?_)
      clear hK
      try simp only [Act.put, List.getElem_toArray, List.getElem_cons_succ, List.getElem_cons_zero, List.setIfInBounds_toArray, List.set_cons_zero, List.set_cons_succ]
      refine AnyU.one (i := 22) rfl (by kernel_rfl) (fun K hK => ?_)
      simp only [List.getElem_toArray, List.getElem_cons_succ, List.getElem_cons_zero]
      go_simp
      refine hK.out _ _ hHeld (fun hHeld => ?_)
      clear hK
      try simp only [Act.put, List.getElem_toArray, List.getElem_cons_succ, List.getElem_cons_zero, List.setIfInBounds_toArray, List.set_cons_zero, List.set_cons_succ]
      refine AnyU.one (i := 23) rfl (by kernel_rfl) (fun K hK => ?_)
      simp only [List.getElem_toArray, List.getElem_cons_succ, List.getElem_cons_zero]
      go_simp
      refine hK.out _ _ hHeld (fun hHeld => ?_)
      clear hK
      try simp only [Act.put, List.getElem_toArray, List.getElem_cons_succ, List.getElem_cons_zero, List.setIfInBounds_toArray, List.set_cons_zero, List.set_cons_succ]
      have q1 : w3.cell? ⟨rb, 1, none⟩ = some (.slice none 0 0) := hHeld.1.cell 1
      have f1 := hHeld.1.frozen 1
      refine AnyU.last rfl (by kernel_rfl) (fun K hK => ?_)
      simp only [List.getElem_toArray, List.getElem_cons_succ, List.getElem_cons_zero]
      go_simp
      refine hK.out _ _ ?_
      clear hK
      refine AnyU.done (by kernel_rfl) ?_ _
      go_wp2_with fail
      go_ret
      exact ⟨rfl, ⟨_, hHeld.1.setCell 1 (.slice (some ⟨gq, 0, none⟩) 1 cq)⟩, (hHeld.2.mono (T := (· = rb)) (fun _ _ e => e.elim)).setCell (p := ⟨rb, 1, none⟩) (.inl rfl) _⟩
  · simp only [List.getElem_toArray, List.getElem_cons_succ, List.getElem_cons_zero]
    go_simp
    have hN : Blk (w.drew.alloc (.cells #[.int .i64 key, .int .u32 d, .int .i64 v] 217)) w.heap.size #[.int .i64 key, .int .u32 d, .int .i64 v] 217 := Blk.new w.drew _ _
    refine hK.out _ (w.drew.alloc (.cells #[.int .i64 key, .int .u32 d, .int .i64 v] 217)) ⟨hHeld.1.alloc _, hHeld.2.alloc _⟩ (fun hHeld => ?_)
    clear hK
    try simp only [Act.put, List.getElem_toArray, List.getElem_cons_succ, List.getElem_cons_zero, List.setIfInBounds_toArray, List.set_cons_zero, List.set_cons_succ]
    generalize w.drew.alloc (.cells #[.int .i64 key, .int .u32 d, .int .i64 v] 217) = W1 at hN hHeld ⊢
    have hW1 : w.heap.size ≤ W1.heap.size := hHeld.2.size
    refine AnyU.one (i := 1) rfl (by kernel_rfl) (fun K hK => ?_)
    simp only [List.getElem_toArray, List.getElem_cons_succ, List.getElem_cons_zero]
    go_simp
    have hE : Blk (W1.alloc (.cells #[] 217)) W1.heap.size #[] 217 := Blk.new W1 _ _
    have hN := hN.alloc (.cells #[] 217)
    have hls := hN.lt
    refine hK.out _ (W1.alloc (.cells #[] 217)) ⟨hHeld.1.alloc _, hHeld.2.alloc _⟩ (fun hHeld => ?_)
    clear hK
    try simp only [Act.put, List.getElem_toArray, List.getElem_cons_succ, List.getElem_cons_zero, List.setIfInBounds_toArray, List.set_cons_zero, List.set_cons_succ]
    have hgz : w.heap.size ≤ W1.heap.size := hW1
    generalize hg2 : W1.heap.size = g2 at hE hgz ⊢
    generalize W1.alloc (.cells #[] 217) = W2 at hE hN hHeld ⊢
    refine AnyU.one (i := 8) rfl (by kernel_rfl) (fun K hK => ?_)
    simp only [List.getElem_toArray, List.getElem_cons_succ, List.getElem_cons_zero]
    rw [if_pos (by rfl)]
    refine wp_append_none _ _ 133 217 rfl i0 Tryz.underlying133 hi _ 0 0 rfl rfl (by omega) ?_
    refine hK.out _ _ hHeld (fun hHeld => ?_)
    clear hK
    try simp only [Act.put, List.getElem_toArray, List.getElem_cons_succ, List.getElem_cons_zero, List.setIfInBounds_toArray, List.set_cons_zero, List.set_cons_succ]
    refine AnyU.one (i := 14) rfl (by kernel_rfl) (fun K hK => ?_)
    simp only [List.getElem_toArray, List.getElem_cons_succ, List.getElem_cons_zero]
    rw [if_pos (by rfl)]
    refine wp_append_own _ _ _ 133 rfl 0 217 i0 (.agg #[.int .i64 0, .int .u32 0, .int .i64 0]) 3 24 Tryz.underlying133 hi hz0 hz1 hz2 rfl (by decide) (.slice (some ⟨g2, 0, none⟩) 0 0) 0 [] rfl (owns_empty hE 3) ⟨w.heap.size, 0, none⟩ 1 1 [.int .i64 key, .int .u32 d, .int .i64 v] rfl rfl (cells_blk hN) (by simp [Value.oneCell']) (by unfold maxLen; omega) (by omega) (Nat.zero_le _) ?_
    intro v' w3 hown hgrow _
    obtain ⟨_, ⟨_, hbad⟩ | ⟨gq, cq, cur, rfl, -, -, hcap, -⟩⟩ := hown
    · omega
    have hO : Only (· = g2) _ w3 := only_grown hgrow
    have hrb := H.out.lt
    refine hK.out _ w3 ⟨hHeld.1.only hO (by omega), hHeld.2.andThen hO (fun i hi e => by omega)⟩ (fun hHeld => ?_)
    clear hK hgrow hO hE hN
    try simp only [Act.put, List.getElem_toArray, List.getElem_cons_succ, List.getElem_cons_zero, List.setIfInBounds_toArray, List.set_cons_zero, List.set_cons_succ]
    refine AnyU.one (i := 21) rfl (by kernel_rfl) (fun K hK => ?_)
    simp only [List.getElem_toArray, List.getElem_cons_succ, List.getElem_cons_zero]
    rw [if_pos (by rfl)]
    refine wp_append_none _ _ 133 217 rfl i0 Tryz.underlying133 hi (some ⟨gq, 0, none⟩) (0 + 1) cq rfl rfl hcap ?_
    refine hK.out _ _ hHeld (fun hHeld => ?_)
    clear hK
    try simp only [Act.put, List.getElem_toArray, List.getElem_cons_succ, List.getElem_cons_zero, List.setIfInBounds_toArray, List.set_cons_zero, List.set_cons_succ]
    refine AnyU.one (i := 22) rfl (by kernel_rfl) (fun K hK => ?_)
    simp only [List.getElem_toArray, List.getElem_cons_succ, List.getElem_cons_zero]
    go_simp
    refine hK.out _ _ hHeld (fun hHeld => ?_)
    clear hK
    try simp only [Act.put, List.getElem_toArray, List.getElem_cons_succ, List.getElem_cons_zero, List.setIfInBounds_toArray, List.set_cons_zero, List.set_cons_succ]
    refine AnyU.one (i := 23) rfl (by kernel_rfl) (fun K hK => ?_)
    simp only [List.getElem_toArray, List.getElem_cons_succ, List.getElem_cons_zero]
    go_simp
    refine hK.out _ _ hHeld (fun hHeld => ?_)
    clear hK
    try simp only [Act.put, List.getElem_toArray, List.getElem_cons_succ, List.getElem_cons_zero, List.setIfInBounds_toArray, List.set_cons_zero, List.set_cons_succ]
    have q1 : w3.cell? ⟨rb, 1, none⟩ = some (.slice none 0 0) := hHeld.1.cell 1
    have f1 := hHeld.1.frozen 1
    refine AnyU.last rfl (by kernel_rfl) (fun K hK => ?_)
    simp only [List.getElem_toArray, List.getElem_cons_succ, List.getElem_cons_zero]
    go_simp
    refine hK.out _ _ ?_
    clear hK
    refine AnyU.done (by kernel_rfl) ?_ _
    go_wp2_with fail
    go_ret
    exact ⟨rfl, ⟨_, hHeld.1.setCell 1 (.slice (some ⟨gq, 0, none⟩) 1 cq)⟩, (hHeld.2.mono (T := (· = rb)) (fun _ _ e => e.elim)).setCell (p := ⟨rb, 1, none⟩) (.inl rfl) _⟩
end
section
variable {w : World} {rb db : Nat} {fr : Value} {n : Int}
set_option maxRecDepth 100000 in
set_option maxHeartbeats 4000000 in
theorem runsAdd_new (h : Blk w rb (rC fr (.slice none 0 0) (.slice (some ⟨db, 0, none⟩) 0 0) 0) 137) (n0 : 1 ≤ n) (n1 : n ≤ 4096) :
    Calls Tryz.prog 94 #[.pointer (some ⟨rb, 0, none⟩), .agg #[.int .i64 0, .int .i64 n]] w fun e w' => e = .returned (.tuple #[]) ∧ (∃ tl, Blk w' rb (rC fr tl (.slice (some ⟨db, 0, none⟩) 0 0) 1) 137) ∧ Only (· = rb) w w' := by
  have e1 : IntKind.i64.wrap (8192 * n) = 8192 * n := by rw [IntKind.wrap_i64]; omega
  have e2 : IntKind.i64.wrap (8192 * n + 0) = 8192 * n + 0 := by rw [IntKind.wrap_i64]; omega
  obtain ⟨wa, hwa⟩ : ∃ wa, wa = w.alloc (.cells #[.int .i64 0, .int .i64 n] 128) := ⟨_, rfl⟩
  obtain ⟨xb, hxb⟩ : ∃ xb, xb = w.heap.size := ⟨_, rfl⟩
  have hB : Blk wa rb (rC fr (.slice none 0 0) (.slice (some ⟨db, 0, none⟩) 0 0) 0) 137 := by rw [hwa]; exact h.alloc _
  have hX : Blk wa xb #[.int .i64 0, .int .i64 n] 128 := by rw [hwa, hxb]; exact Blk.new _ _ _
  have hA : Adds w wa := by rw [hwa]; exact (Only.refl _ _).alloc _
  have hne : xb ≠ rb := fun e => by have := h.lt; omega
  have c1 : wa.cell? ⟨rb, 1, none⟩ = some (.slice none 0 0) := hB.cell 1
  have c2 : wa.cell? ⟨rb, 2, none⟩ = some (.slice (some ⟨db, 0, none⟩) 0 0) := hB.cell 2
  have c3 : wa.cell? ⟨rb, 3, none⟩ = some (.int .i64 0) := hB.cell 3
  have f3 := hB.frozen 3
  have x0 : wa.cell? ⟨xb, 0, none⟩ = some (.int .i64 0) := hX.cell 0
  have x1 : wa.cell? ⟨xb, 1, none⟩ = some (.int .i64 n) := hX.cell 1
  have HB := Lib.hid hB; have HX := Lib.hid hX; have HA := Lib.hid hA
  have HW := Lib.hid hwa; have HXB := Lib.hid hxb
  clear h hB hX hA hwa hxb
  go_enter Tryz.func94, Tryz.ntmps94
  go_upto_region 2 with fail
  rw [← HW.out, ← HXB.out]
  go_quiet ((fail))
  go_upto_region 5 with fail
  generalize hd : wa.drewN _ = wd at x0 x1 ⊢
  have hBd : Blk wd rb (rC fr (.slice none 0 0) (.slice (some ⟨db, 0, none⟩) 0 0) 0) 137 := by rw [← hd]; exact HB.out
  have hXd : Blk wd xb #[.int .i64 0, .int .i64 n] 128 := by rw [← hd]; exact HX.out
  have hAd : Adds w wd := by rw [← hd]; exact HA.out.drewN _
  have HBz := Lib.hid (hBd.setCell 3 (.int .i64 1))
  have HAz := Lib.hid ((hAd.mono (T := (· = rb)) (fun _ _ e => e.elim)).setCell (p := ⟨rb, 3, none⟩) (.inl rfl) (.int .i64 1))
  have HXz := Lib.hid (hXd.setCell_other hne 3 (.int .i64 1))
  generalize wd.setCell ⟨rb, 3, none⟩ (.int .i64 1) = wz at HBz HAz HXz ⊢
  have z0 : wz.cell? ⟨xb, 0, none⟩ = some (.int .i64 0) := HXz.out.cell 0
  have z1 : wz.cell? ⟨xb, 1, none⟩ = some (.int .i64 n) := HXz.out.cell 1
  have HK : Hid (∀ W', Only (· = rb) wz.drew W' → W'.cell? ⟨xb, 0, none⟩ = some (.int .i64 0) ∧ W'.cell? ⟨xb, 1, none⟩ = some (.int .i64 n)) := Lib.hid (fun W' ho => ⟨(ho.cellF (p := ⟨xb, 0, none⟩) (cell_lt z0) hne).trans z0, (ho.cellF (p := ⟨xb, 1, none⟩) (cell_lt z1) hne).trans z1⟩)
  clear hd hBd hXd hAd x0 x1 c1 c2 c3 f3
  go_region_held3 (fun W => W.cell? ⟨xb, 0, none⟩ = some (.int .i64 0) ∧ W.cell? ⟨xb, 1, none⟩ = some (.int .i64 n))
    (first | (exact ⟨z0, z1⟩) | (exact HK.out _ (by assumption)))
    (first | (go_at_call 127; refine (treePut_nil HBz.out.drew).mono ?_; rintro e w5 ⟨rfl, htl, ho5⟩; have HT := Lib.hid htl; clear htl))
  go_wp2_with fail
  go_end0
  exact ⟨rfl, HT.out, HAz.out.trans ((Only.refl (fun x => x = rb) wz).drew.trans ho5)⟩
end
/-- The first i of n pages are marked free. -/
def fillB (n i : Nat) : Array Value := (List.replicate i (Value.bool true) ++ List.replicate (n - i) (Value.bool false)).toArray
theorem fillB_zero (n : Nat) : madeCells #[Value.bool false] n = fillB n 0 := by
  apply Array.ext'
  rw [toList_madeCells_one]
  simp [fillB]
theorem fillB_get {n i : Nat} (h : i < n) : (fillB n i)[i]? = some (.bool false) := by
  unfold fillB
  rw [List.getElem?_toArray, List.getElem?_append_right (by simp)]
  simp [List.getElem?_replicate]
  omega
theorem fillB_set {n i : Nat} (h : i < n) : (fillB n i).setIfInBounds i (.bool true) = fillB n (i + 1) := by
  apply Array.ext'
  unfold fillB
  rw [List.setIfInBounds_toArray]
  obtain ⟨m, hm⟩ : ∃ m, n - i = m + 1 := ⟨n - i - 1, by omega⟩
  have hm' : n - (i + 1) = m := by omega
  rw [hm, hm', List.replicate_succ, List.set_append_right _ _ (by simp)]
  simp [List.replicate_succ', List.append_assoc]
set_option maxRecDepth 100000 in
set_option maxHeartbeats 8000000 in
theorem r9New_ok (n : Nat) (w : World) (n0 : 1 ≤ n) (n1 : n ≤ 4096) :
    Calls Tryz.prog 70 #[.int .i64 (n : Int), .slice none 0 0] w fun e w' => ∃ rb fb tl db, e = .returned (.pointer (some ⟨rb, 0, none⟩)) ∧ Blk w' rb (rC (.slice (some ⟨fb, 0, none⟩) n n) tl (.slice (some ⟨db, 0, none⟩) 0 0) 1) 137 ∧ Blk w' fb (fillB n n) 4 ∧ Adds w w' ∧ w.heap.size ≤ rb ∧ w.heap.size ≤ fb := by
  obtain ⟨iU, hU, hU0, hU1, hU2⟩ := info_parts infoU32
  have hmk := fun W => run_make_row' (P := Tryz.prog) 35 4 (.bool false) 1 Tryz.underlying35 infoBool rfl .i64 .i64 n (by omega) (by omega) W
  have g1 : decide ((n : Int) < 1) = false := by simp; omega
  have g2 : decide ((n : Int) > 4096) = false := by simp; omega
  have g3 : ¬ (n : Int) < 1 := by omega
  have g4 : ¬ (n : Int) > 4096 := by omega
  go_enter Tryz.func70, Tryz.ntmps70
  go_upto_region 3 with fail
  go_cut [5] (fun x wx => ∃ rb fb db, x = .pointer (some ⟨rb, 0, none⟩) ∧ Blk wx rb (rC (.slice (some ⟨fb, 0, none⟩) n n) (.slice none 0 0) (.slice (some ⟨db, 0, none⟩) 0 0) 0) 137 ∧ Blk wx fb (fillB n 0) 4 ∧ Adds w wx ∧ w.heap.size ≤ rb ∧ w.heap.size ≤ fb)
  case first =>
    refine wp_region_held_drew (S := (fun W => Adds w W)) (by kernel_rfl) ((Only.refl (fun _ => False) w).drew) (fun hHeld => ?_)
    refine wpAnyH_take (i := 0) (v := (.int .i64 (n : Int))) rfl (by kernel_rfl) (by kernel_rfl) (by kernel_rfl) (fun _ _ _ h => h) (Or.inl ⟨by rfl, fun W hS => by first | rfl | (go_simp; done)⟩) hHeld ?_
    try simp only [Act.put, List.getElem_toArray, List.getElem_cons_succ, List.getElem_cons_zero, List.setIfInBounds_toArray, List.set_cons_zero, List.set_cons_succ]
    refine wpAnyH_take (i := 3) (v := (.slice none 0 0)) rfl (by kernel_rfl) (by kernel_rfl) (by kernel_rfl) (fun _ _ _ h => h) (Or.inl ⟨by rfl, fun W hS => by first | rfl | (go_simp; done)⟩) hHeld ?_
    try simp only [Act.put, List.getElem_toArray, List.getElem_cons_succ, List.getElem_cons_zero, List.setIfInBounds_toArray, List.set_cons_zero, List.set_cons_succ]
    refine wpAnyH_ready (rs := [1, 2]) (by kernel_rfl) (by simp) (AllReadyH.cons rfl (fun K hK => ?_) (AllReadyH.cons rfl (fun K hK => ?_) AllReadyH.nil))
    · simp only [List.getElem_toArray, List.getElem_cons_succ, List.getElem_cons_zero]
      go_simp
      have hF : Blk (w.drew.alloc (.cells (madeCells #[Value.bool false] n) 4)) w.heap.size (madeCells #[Value.bool false] n) 4 := Blk.new w.drew _ _
      refine hK.out _ (w.drew.alloc (.cells (madeCells #[Value.bool false] n) 4)) (hHeld.alloc _) (fun hHeld => ?_)
      clear hK
      try simp only [Act.put, List.getElem_toArray, List.getElem_cons_succ, List.getElem_cons_zero, List.setIfInBounds_toArray, List.set_cons_zero, List.set_cons_succ]
      generalize w.drew.alloc (.cells (madeCells #[Value.bool false] n) 4) = W1 at hF hHeld ⊢
      have hz1 : w.heap.size ≤ W1.heap.size := hHeld.size
      refine wpAnyH_ready (rs := [2]) (by kernel_rfl) (by simp) (AllReadyH.cons rfl (fun K hK => ?_) AllReadyH.nil)
      simp only [List.getElem_toArray, List.getElem_cons_succ, List.getElem_cons_zero]
      go_simp
      have hD : Blk (W1.alloc (.cells #[] 38)) W1.heap.size #[] 38 := Blk.new W1 _ _
      have hF := hF.alloc (.cells #[] 38)
      refine hK.out _ (W1.alloc (.cells #[] 38)) (hHeld.alloc _) (fun hHeld => ?_)
      clear hK
      try simp only [Act.put, List.getElem_toArray, List.getElem_cons_succ, List.getElem_cons_zero, List.setIfInBounds_toArray, List.set_cons_zero, List.set_cons_succ]
      have hgz : w.heap.size ≤ W1.heap.size := hz1
      generalize hg2 : W1.heap.size = g2 at hD hgz ⊢
      generalize W1.alloc (.cells #[] 38) = W2 at hF hD hHeld ⊢
      refine wpAnyH_ready (rs := [4]) (by kernel_rfl) (by simp) (AllReadyH.cons rfl (fun K hK => ?_) AllReadyH.nil)
      simp only [List.getElem_toArray, List.getElem_cons_succ, List.getElem_cons_zero]
      rw [if_pos (by rfl)]
      refine wp_append_none _ _ 65 38 rfl iU Tryz.underlying65 hU _ 0 0 rfl rfl (by omega) ?_
      refine hK.out _ _ hHeld (fun hHeld => ?_)
      clear hK
      try simp only [Act.put, List.getElem_toArray, List.getElem_cons_succ, List.getElem_cons_zero, List.setIfInBounds_toArray, List.set_cons_zero, List.set_cons_succ]
      have hZ2 : w.heap.size ≤ W2.heap.size := hHeld.size
      refine wpAnyH_take (i := 5) (v := (.agg (rC (.slice (some ⟨w.heap.size, 0, none⟩) n n) (.slice none 0 0) (.slice (some ⟨g2, 0, none⟩) 0 0) 0))) rfl (by kernel_rfl) (by kernel_rfl) (by kernel_rfl) (fun _ _ _ h => h) (Or.inl ⟨by rfl, fun W hS => by (go_simp; done)⟩) hHeld ?_
      try simp only [Act.put, List.getElem_toArray, List.getElem_cons_succ, List.getElem_cons_zero, List.setIfInBounds_toArray, List.set_cons_zero, List.set_cons_succ]
      refine wpAnyH_ready (rs := [6]) (by kernel_rfl) (by simp) (AllReadyH.cons rfl (fun K hK => ?_) AllReadyH.nil)
      simp only [List.getElem_toArray, List.getElem_cons_succ, List.getElem_cons_zero]
      go_simp
      have hR : Blk (W2.alloc (.cells (rC (.slice (some ⟨w.heap.size, 0, none⟩) n n) (.slice none 0 0) (.slice (some ⟨g2, 0, none⟩) 0 0) 0) 137)) W2.heap.size (rC (.slice (some ⟨w.heap.size, 0, none⟩) n n) (.slice none 0 0) (.slice (some ⟨g2, 0, none⟩) 0 0) 0) 137 := Blk.new W2 _ _
      have hF := hF.alloc (.cells (rC (.slice (some ⟨w.heap.size, 0, none⟩) n n) (.slice none 0 0) (.slice (some ⟨g2, 0, none⟩) 0 0) 0) 137)
      refine hK.out _ (W2.alloc (.cells (rC (.slice (some ⟨w.heap.size, 0, none⟩) n n) (.slice none 0 0) (.slice (some ⟨g2, 0, none⟩) 0 0) 0) 137)) (hHeld.alloc _) (fun hHeld => ?_)
      clear hK
      try simp only [Act.put, List.getElem_toArray, List.getElem_cons_succ, List.getElem_cons_zero, List.setIfInBounds_toArray, List.set_cons_zero, List.set_cons_succ]
      have hz2 : w.heap.size ≤ W2.heap.size := hZ2
      generalize hg3 : W2.heap.size = g3 at hR hz2 ⊢
      generalize W2.alloc (.cells (rC (.slice (some ⟨w.heap.size, 0, none⟩) n n) (.slice none 0 0) (.slice (some ⟨g2, 0, none⟩) 0 0) 0) 137) = W3 at hF hR hHeld ⊢
      refine wpAnyH_take (i := 7) (v := (.pointer (some ⟨g3, 0, none⟩))) rfl (by kernel_rfl) (by kernel_rfl) (by kernel_rfl) (fun _ _ _ h => h) (Or.inl ⟨by rfl, fun W hS => by first | rfl | (go_simp; done)⟩) hHeld ?_
      try simp only [Act.put, List.getElem_toArray, List.getElem_cons_succ, List.getElem_cons_zero, List.setIfInBounds_toArray, List.set_cons_zero, List.set_cons_succ]
      refine wpAnyH_done (by kernel_rfl) ?_ _
      go_wp2_with fail
      go_meet
      rw [fillB_zero] at hF
      exact ⟨_, _, _, rfl, hR, hF, hHeld, hz2, by omega⟩
    · simp only [List.getElem_toArray, List.getElem_cons_succ, List.getElem_cons_zero]
      go_simp
      have hD : Blk (w.drew.alloc (.cells #[] 38)) w.heap.size #[] 38 := Blk.new w.drew _ _
      refine hK.out _ (w.drew.alloc (.cells #[] 38)) (hHeld.alloc _) (fun hHeld => ?_)
      clear hK
      try simp only [Act.put, List.getElem_toArray, List.getElem_cons_succ, List.getElem_cons_zero, List.setIfInBounds_toArray, List.set_cons_zero, List.set_cons_succ]
      generalize w.drew.alloc (.cells #[] 38) = W1 at hD hHeld ⊢
      have hz1 : w.heap.size ≤ W1.heap.size := hHeld.size
      refine wpAnyH_ready (rs := [1, 4]) (by kernel_rfl) (by simp) (AllReadyH.cons rfl (fun K hK => ?_) (AllReadyH.cons rfl (fun K hK => ?_) AllReadyH.nil))
      · simp only [List.getElem_toArray, List.getElem_cons_succ, List.getElem_cons_zero]
        go_simp
        have hF : Blk (W1.alloc (.cells (madeCells #[Value.bool false] n) 4)) W1.heap.size (madeCells #[Value.bool false] n) 4 := Blk.new W1 _ _
        have hD := hD.alloc (.cells (madeCells #[Value.bool false] n) 4)
        refine hK.out _ (W1.alloc (.cells (madeCells #[Value.bool false] n) 4)) (hHeld.alloc _) (fun hHeld => ?_)
        clear hK
        try simp only [Act.put, List.getElem_toArray, List.getElem_cons_succ, List.getElem_cons_zero, List.setIfInBounds_toArray, List.set_cons_zero, List.set_cons_succ]
        have hgz : w.heap.size ≤ W1.heap.size := hz1
        generalize hg2 : W1.heap.size = g2 at hF hgz ⊢
        generalize W1.alloc (.cells (madeCells #[Value.bool false] n) 4) = W2 at hF hD hHeld ⊢
        refine wpAnyH_ready (rs := [4]) (by kernel_rfl) (by simp) (AllReadyH.cons rfl (fun K hK => ?_) AllReadyH.nil)
        simp only [List.getElem_toArray, List.getElem_cons_succ, List.getElem_cons_zero]
        rw [if_pos (by rfl)]
        refine wp_append_none _ _ 65 38 rfl iU Tryz.underlying65 hU _ 0 0 rfl rfl (by omega) ?_
        refine hK.out _ _ hHeld (fun hHeld => ?_)
        clear hK
        try simp only [Act.put, List.getElem_toArray, List.getElem_cons_succ, List.getElem_cons_zero, List.setIfInBounds_toArray, List.set_cons_zero, List.set_cons_succ]
        have hZ2 : w.heap.size ≤ W2.heap.size := hHeld.size
        refine wpAnyH_take (i := 5) (v := (.agg (rC (.slice (some ⟨g2, 0, none⟩) n n) (.slice none 0 0) (.slice (some ⟨w.heap.size, 0, none⟩) 0 0) 0))) rfl (by kernel_rfl) (by kernel_rfl) (by kernel_rfl) (fun _ _ _ h => h) (Or.inl ⟨by rfl, fun W hS => by (go_simp; done)⟩) hHeld ?_
        try simp only [Act.put, List.getElem_toArray, List.getElem_cons_succ, List.getElem_cons_zero, List.setIfInBounds_toArray, List.set_cons_zero, List.set_cons_succ]
        refine wpAnyH_ready (rs := [6]) (by kernel_rfl) (by simp) (AllReadyH.cons rfl (fun K hK => ?_) AllReadyH.nil)
        simp only [List.getElem_toArray, List.getElem_cons_succ, List.getElem_cons_zero]
        go_simp
        have hR : Blk (W2.alloc (.cells (rC (.slice (some ⟨g2, 0, none⟩) n n) (.slice none 0 0) (.slice (some ⟨w.heap.size, 0, none⟩) 0 0) 0) 137)) W2.heap.size (rC (.slice (some ⟨g2, 0, none⟩) n n) (.slice none 0 0) (.slice (some ⟨w.heap.size, 0, none⟩) 0 0) 0) 137 := Blk.new W2 _ _
        have hF := hF.alloc (.cells (rC (.slice (some ⟨g2, 0, none⟩) n n) (.slice none 0 0) (.slice (some ⟨w.heap.size, 0, none⟩) 0 0) 0) 137)
        refine hK.out _ (W2.alloc (.cells (rC (.slice (some ⟨g2, 0, none⟩) n n) (.slice none 0 0) (.slice (some ⟨w.heap.size, 0, none⟩) 0 0) 0) 137)) (hHeld.alloc _) (fun hHeld => ?_)
        clear hK
        try simp only [Act.put, List.getElem_toArray, List.getElem_cons_succ, List.getElem_cons_zero, List.setIfInBounds_toArray, List.set_cons_zero, List.set_cons_succ]
        have hz2 : w.heap.size ≤ W2.heap.size := hZ2
        generalize hg3 : W2.heap.size = g3 at hR hz2 ⊢
        generalize W2.alloc (.cells (rC (.slice (some ⟨g2, 0, none⟩) n n) (.slice none 0 0) (.slice (some ⟨w.heap.size, 0, none⟩) 0 0) 0) 137) = W3 at hF hR hHeld ⊢
        refine wpAnyH_take (i := 7) (v := (.pointer (some ⟨g3, 0, none⟩))) rfl (by kernel_rfl) (by kernel_rfl) (by kernel_rfl) (fun _ _ _ h => h) (Or.inl ⟨by rfl, fun W hS => by first | rfl | (go_simp; done)⟩) hHeld ?_
        try simp only [Act.put, List.getElem_toArray, List.getElem_cons_succ, List.getElem_cons_zero, List.setIfInBounds_toArray, List.set_cons_zero, List.set_cons_succ]
        refine wpAnyH_done (by kernel_rfl) ?_ _
        go_wp2_with fail
        go_meet
        rw [fillB_zero] at hF
        exact ⟨_, _, _, rfl, hR, hF, hHeld, hz2, by omega⟩
      · simp only [List.getElem_toArray, List.getElem_cons_succ, List.getElem_cons_zero]
        rw [if_pos (by rfl)]
        refine wp_append_none _ _ 65 38 rfl iU Tryz.underlying65 hU _ 0 0 rfl rfl (by omega) ?_
        refine hK.out _ _ hHeld (fun hHeld => ?_)
        clear hK
        try simp only [Act.put, List.getElem_toArray, List.getElem_cons_succ, List.getElem_cons_zero, List.setIfInBounds_toArray, List.set_cons_zero, List.set_cons_succ]
        refine wpAnyH_ready (rs := [1]) (by kernel_rfl) (by simp) (AllReadyH.cons rfl (fun K hK => ?_) AllReadyH.nil)
        simp only [List.getElem_toArray, List.getElem_cons_succ, List.getElem_cons_zero]
        go_simp
        have hF : Blk (W1.alloc (.cells (madeCells #[Value.bool false] n) 4)) W1.heap.size (madeCells #[Value.bool false] n) 4 := Blk.new W1 _ _
        have hD := hD.alloc (.cells (madeCells #[Value.bool false] n) 4)
        refine hK.out _ (W1.alloc (.cells (madeCells #[Value.bool false] n) 4)) (hHeld.alloc _) (fun hHeld => ?_)
        clear hK
        try simp only [Act.put, List.getElem_toArray, List.getElem_cons_succ, List.getElem_cons_zero, List.setIfInBounds_toArray, List.set_cons_zero, List.set_cons_succ]
        have hgz : w.heap.size ≤ W1.heap.size := hz1
        generalize hg2 : W1.heap.size = g2 at hF hgz ⊢
        generalize W1.alloc (.cells (madeCells #[Value.bool false] n) 4) = W2 at hF hD hHeld ⊢
        have hZ2 : w.heap.size ≤ W2.heap.size := hHeld.size
        refine wpAnyH_take (i := 5) (v := (.agg (rC (.slice (some ⟨g2, 0, none⟩) n n) (.slice none 0 0) (.slice (some ⟨w.heap.size, 0, none⟩) 0 0) 0))) rfl (by kernel_rfl) (by kernel_rfl) (by kernel_rfl) (fun _ _ _ h => h) (Or.inl ⟨by rfl, fun W hS => by (go_simp; done)⟩) hHeld ?_
        try simp only [Act.put, List.getElem_toArray, List.getElem_cons_succ, List.getElem_cons_zero, List.setIfInBounds_toArray, List.set_cons_zero, List.set_cons_succ]
        refine wpAnyH_ready (rs := [6]) (by kernel_rfl) (by simp) (AllReadyH.cons rfl (fun K hK => ?_) AllReadyH.nil)
        simp only [List.getElem_toArray, List.getElem_cons_succ, List.getElem_cons_zero]
        go_simp
        have hR : Blk (W2.alloc (.cells (rC (.slice (some ⟨g2, 0, none⟩) n n) (.slice none 0 0) (.slice (some ⟨w.heap.size, 0, none⟩) 0 0) 0) 137)) W2.heap.size (rC (.slice (some ⟨g2, 0, none⟩) n n) (.slice none 0 0) (.slice (some ⟨w.heap.size, 0, none⟩) 0 0) 0) 137 := Blk.new W2 _ _
        have hF := hF.alloc (.cells (rC (.slice (some ⟨g2, 0, none⟩) n n) (.slice none 0 0) (.slice (some ⟨w.heap.size, 0, none⟩) 0 0) 0) 137)
        refine hK.out _ (W2.alloc (.cells (rC (.slice (some ⟨g2, 0, none⟩) n n) (.slice none 0 0) (.slice (some ⟨w.heap.size, 0, none⟩) 0 0) 0) 137)) (hHeld.alloc _) (fun hHeld => ?_)
        clear hK
        try simp only [Act.put, List.getElem_toArray, List.getElem_cons_succ, List.getElem_cons_zero, List.setIfInBounds_toArray, List.set_cons_zero, List.set_cons_succ]
        have hz2 : w.heap.size ≤ W2.heap.size := hZ2
        generalize hg3 : W2.heap.size = g3 at hR hz2 ⊢
        generalize W2.alloc (.cells (rC (.slice (some ⟨g2, 0, none⟩) n n) (.slice none 0 0) (.slice (some ⟨w.heap.size, 0, none⟩) 0 0) 0) 137) = W3 at hF hR hHeld ⊢
        refine wpAnyH_take (i := 7) (v := (.pointer (some ⟨g3, 0, none⟩))) rfl (by kernel_rfl) (by kernel_rfl) (by kernel_rfl) (fun _ _ _ h => h) (Or.inl ⟨by rfl, fun W hS => by first | rfl | (go_simp; done)⟩) hHeld ?_
        try simp only [Act.put, List.getElem_toArray, List.getElem_cons_succ, List.getElem_cons_zero, List.setIfInBounds_toArray, List.set_cons_zero, List.set_cons_succ]
        refine wpAnyH_done (by kernel_rfl) ?_ _
        go_wp2_with fail
        go_meet
        rw [fillB_zero] at hF
        exact ⟨_, _, _, rfl, hR, hF, hHeld, hz2, by omega⟩
  case rest =>
    obtain ⟨rb, fb, db, rfl, hR, hF, hA, hl1, hl2⟩ := hcut
    have hne : fb ≠ rb := fun e => by subst e; exact absurd (hR.uniq hF).2 (by decide)
    have HR := Lib.hid hR; have HF := Lib.hid hF; have HA := Lib.hid hA
    clear hR hF hA
    go_wp2_with fail
    go_loopw [6] (fun o wr => ∃ i : Nat, i ≤ n ∧ o = .int .i64 (i : Int) ∧ Hid (Blk wr rb (rC (.slice (some ⟨fb, 0, none⟩) n n) (.slice none 0 0) (.slice (some ⟨db, 0, none⟩) 0 0) 0) 137) ∧ Hid (Blk wr fb (fillB n i) 4) ∧ Hid (Adds w wr)) (fun o _ => ((n : Int) - intOf o).toNat)
    case atStart => exact ⟨0, by omega, rfl, HR, HF, HA⟩
    case round =>
      obtain ⟨i, hi, rfl, KR, KF, KA⟩ := hrel
      have c0 : wr.cell? ⟨rb, 0, none⟩ = some (.slice (some ⟨fb, 0, none⟩) n n) := KR.out.cell 0
      by_cases hi2 : i < n
      · have cf : wr.cell? ⟨fb, i, none⟩ = some (.bool false) := (KF.out.cell i).trans (fillB_get hi2)
        have ff := KF.out.frozen i
        have g5 : (i : Int) < n := by omega
        have e5 : IntKind.i64.wrap ((i : Int) + 1) = (i : Int) + 1 := by rw [IntKind.wrap_i64]; omega
        go_wp2_with fail
        go_roundw
        case rel =>
          refine ⟨i + 1, by omega, by go_num, Lib.hid (KR.out.setCell_other hne.symm i (.bool true)), Lib.hid ?_, Lib.hid (KA.out.setCell (p := ⟨fb, i, none⟩) (.inr hl2) _)⟩
          rw [← fillB_set hi2]
          exact KF.out.setCell i (.bool true)
        case measure => simp [intOf]; omega
      · obtain rfl : i = n := by omega
        go_wp2_with (go_at_call 94; refine (runsAdd_new KR.out (by omega) (by omega)).mono ?_; rintro e w5 ⟨rfl, ⟨tl, htl⟩, ho⟩; have HT := Lib.hid htl; have HO := Lib.hid ho; clear htl ho)
        go_ret
        exact ⟨rb, fb, tl, db, rfl, HT.out, KF.out.only HO.out hne, KA.out.andThen HO.out (fun j hj e => by omega), hl1, hl2⟩
/-- Block bb is the document's arena over store s. -/
structure IsMem (w : World) (bb sb sm rb fb : Nat) (P T : Int) (s : StoreS) : Prop where
  head : Blk w bb #[.pointer (some ⟨sb, 0, none⟩), .pointer (some ⟨rb, 0, none⟩), .int .i64 P, .int .i64 T] 30
  st : IsRef w sb sm s
  ru : ∃ tl db, Blk w rb (rC (.slice (some ⟨fb, 0, none⟩) P.toNat P.toNat) tl (.slice (some ⟨db, 0, none⟩) 0 0) 1) 137
  fr : Blk w fb (fillB P.toNat P.toNat) 4
section
variable {w w' : World} {bb sb sm rb fb : Nat} {P T : Int} {s s' : StoreS}
theorem IsMem.only {S : Nat → Prop} (h : IsMem w bb sb sm rb fb P T s) (ho : Only S w w') (h1 : ¬ S bb) (h2 : ¬ S sb) (h3 : ¬ S sm) (h4 : ¬ S rb) (h5 : ¬ S fb) : IsMem w' bb sb sm rb fb P T s := by
  obtain ⟨tl, db, hr⟩ := h.ru
  exact ⟨h.head.only ho h1, h.st.only ho h2 h3, ⟨tl, db, hr.only ho h4⟩, h.fr.only ho h5⟩
theorem IsMem.adds (h : IsMem w bb sb sm rb fb P T s) (ho : Adds w w') : IsMem w' bb sb sm rb fb P T s := h.only ho id id id id id
/-- An access of the store's words. -/
theorem IsMem.acc (h : IsMem w bb sb sm rb fb P T s) (ho : Only (SB sb sm) w w') (hs : IsRef w' sb sm s') : IsMem w' bb sb sm rb fb P T s' := by
  obtain ⟨tl, db, hr⟩ := h.ru
  have k : ∀ {b : Nat} {c : Array Value} {t : TypeId}, Blk w b c t → t ≠ 101 → t ≠ 48 → ¬ SB sb sm b := fun hb h1 h2 e => by
    rcases e with e | e
    · subst e; exact h1 (hb.uniq h.st.head).2
    · subst e; exact h2 (hb.uniq h.st.row).2
  exact ⟨h.head.only ho (k h.head (by decide) (by decide)), hs, ⟨tl, db, hr.only ho (k hr (by decide) (by decide))⟩, h.fr.only ho (k h.fr (by decide) (by decide))⟩
end
theorem mem_words_bd {P T : Int} (h : Lay.may P T = true) : 90 ≤ Lay.words P T ∧ Lay.words P T ≤ 65536 := by
  obtain ⟨h1, h2, h3, h4⟩ := Lay.may_iff.1 h
  have hb := Lay.many_bd h1 h2
  have e : Lay.words P T = 68 + 14 * T + 6 * P + 2 * Lay.many P := by simp [Lay.words, h]
  rw [e]; omega
theorem refNew_ex (n' : Int) (w : World) (h1' : 1 ≤ n') (h2' : n' ≤ 65536) :
    Calls Tryz.prog 69 #[.int .i64 n'] w fun e w' => ∃ b m, e = .returned (.pointer (some ⟨b, 0, none⟩)) ∧ IsRef w' b m (StoreS.fresh n'.toNat) ∧ Adds w w' ∧ w.heap.size ≤ b ∧ w.heap.size ≤ m :=
  (refNew_ok n' w h1' h2').mono (fun _ _ h => ⟨_, _, h.1, h.2.1, h.2.2.1, by omega, Nat.le_refl _⟩)
theorem isRef_begun {w : World} {b m n : Nat} (h : IsRef w b m (StoreS.fresh n)) (h1 : n ≤ 65536) : IsRef (w.setCell ⟨m, 0, none⟩ (.int .u64 1)) b m (StoreS.begun n 0 1) := by
  have hne := h.ne
  refine ⟨?_, ?_, hne, StoreS.begun_fit h1 (by omega) (by omega)⟩
  · have h9 := h.head.setCell_other hne 0 (.int .u64 1)
    simpa [StoreS.arr, StoreS.begun, StoreS.fresh] using h9
  · have h9 := h.row.setCell 0 (.int .u64 1)
    simpa [StoreS.begun] using h9
set_option maxRecDepth 100000 in
set_option maxHeartbeats 8000000 in
theorem newMem_ok (P T : Int) (w : World) (hm : Lay.may P T = true) :
    Calls Tryz.prog 49 #[.agg #[.int .i64 P, .int .i64 T, .slice none 0 0]] w fun e w' => ∃ bb sb sm rb fb, e = .returned (.pointer (some ⟨bb, 0, none⟩)) ∧ IsMem w' bb sb sm rb fb P T (StoreS.begun (Lay.words P T).toNat 0 1) ∧ Adds w w' ∧ w.heap.size ≤ bb ∧ w.heap.size ≤ sb ∧ w.heap.size ≤ sm ∧ w.heap.size ≤ rb ∧ w.heap.size ≤ fb := by
  obtain ⟨p1, p2, -, -⟩ := Lay.may_iff.1 hm
  obtain ⟨d1, d2⟩ := mem_words_bd hm
  obtain ⟨n, hn⟩ : ∃ n : Nat, P = (n : Int) := ⟨P.toNat, by omega⟩
  subst hn
  have HM := Lib.hid hm
  have hx := Blk.new w #[.int .i64 (n : Int), .int .i64 T, .slice none 0 0] 67
  obtain ⟨wx, hwx⟩ : ∃ wx, wx = w.alloc (.cells #[.int .i64 (n : Int), .int .i64 T, .slice none 0 0] 67) := ⟨_, rfl⟩
  obtain ⟨xb, hxb⟩ : ∃ xb, xb = w.heap.size := ⟨_, rfl⟩
  have hAx : Adds w wx := by rw [hwx]; exact (Only.refl _ _).alloc _
  rw [← hwx, ← hxb] at hx
  have s0 : wx.cell? ⟨xb, 0, none⟩ = some (.int .i64 (n : Int)) := hx.cell 0
  have s1 : wx.cell? ⟨xb, 1, none⟩ = some (.int .i64 T) := hx.cell 1
  have HX := Lib.hid hx; have HA := Lib.hid hAx; have HWX := Lib.hid hwx; have HXB := Lib.hid hxb
  clear hm hx hwx hxb hAx
  go_enter Tryz.func49, Tryz.ntmps49
  go_upto_region 1 with fail
  rw [← HWX.out, ← HXB.out]
  go_upto_region 2 with fail
  obtain ⟨wl, hwl⟩ : ∃ wl, wl = wx.alloc (.cells #[.int .i64 (n : Int), .int .i64 T] 26) := ⟨_, rfl⟩
  obtain ⟨lb, hlb⟩ : ∃ lb, lb = wx.heap.size := ⟨_, rfl⟩
  have hl := Blk.new wx #[.int .i64 (n : Int), .int .i64 T] 26
  have HX2 := Lib.hid (HX.out.alloc (.cells #[.int .i64 (n : Int), .int .i64 T] 26))
  have HA2 := Lib.hid (HA.out.alloc (.cells #[.int .i64 (n : Int), .int .i64 T] 26))
  rw [← hwl] at hl HX2 HA2 ⊢
  rw [← hlb] at hl ⊢
  have l0 : wl.cell? ⟨lb, 0, none⟩ = some (.int .i64 (n : Int)) := hl.cell 0
  have l1 : wl.cell? ⟨lb, 1, none⟩ = some (.int .i64 T) := hl.cell 1
  have HL := Lib.hid hl
  clear hwl hlb hl s0 s1
  go_upto_region 4 with (go_at_call 67; refine (r6LayMay_any _ _ _).mono ?_; rintro e wm ⟨rfl, ho⟩; rw [HM.out]; have HX3 := Lib.hid (HX2.out.only ho id); have HL3 := Lib.hid (HL.out.only ho id); have HA3 := Lib.hid (HA2.out.thenF ho); clear ho)
  have l0' : wm.cell? ⟨lb, 0, none⟩ = some (.int .i64 (n : Int)) := HL3.out.cell 0
  have l1' : wm.cell? ⟨lb, 1, none⟩ = some (.int .i64 T) := HL3.out.cell 1
  have s0 : wm.cell? ⟨xb, 0, none⟩ = some (.int .i64 (n : Int)) := HX3.out.cell 0
  have s2 : wm.cell? ⟨xb, 2, none⟩ = some (.slice none 0 0) := HX3.out.cell 2
  clear l0 l1
  have HK : Hid (∀ W W', (W.cell? ⟨lb, 0, none⟩ = some (.int .i64 (n : Int)) ∧ W.cell? ⟨lb, 1, none⟩ = some (.int .i64 T) ∧ W.cell? ⟨xb, 0, none⟩ = some (.int .i64 (n : Int)) ∧ W.cell? ⟨xb, 2, none⟩ = some (.slice none 0 0) ∧ Adds wm W) → Adds W W' → (W'.cell? ⟨lb, 0, none⟩ = some (.int .i64 (n : Int)) ∧ W'.cell? ⟨lb, 1, none⟩ = some (.int .i64 T) ∧ W'.cell? ⟨xb, 0, none⟩ = some (.int .i64 (n : Int)) ∧ W'.cell? ⟨xb, 2, none⟩ = some (.slice none 0 0) ∧ Adds wm W')) := Lib.hid (fun W W' h ho => by
    obtain ⟨q0, q1, q2, q3, hq⟩ := h
    exact ⟨(ho.cellF (p := ⟨lb, 0, none⟩) (cell_lt q0) id).trans q0, (ho.cellF (p := ⟨lb, 1, none⟩) (cell_lt q1) id).trans q1, (ho.cellF (p := ⟨xb, 0, none⟩) (cell_lt q2) id).trans q2, (ho.cellF (p := ⟨xb, 2, none⟩) (cell_lt q3) id).trans q3, hq.thenF ho⟩)
  have HG : Hid (∀ W, (W.cell? ⟨lb, 0, none⟩ = some (.int .i64 (n : Int)) ∧ W.cell? ⟨lb, 1, none⟩ = some (.int .i64 T) ∧ W.cell? ⟨xb, 0, none⟩ = some (.int .i64 (n : Int)) ∧ W.cell? ⟨xb, 2, none⟩ = some (.slice none 0 0) ∧ Adds wm W) → Adds wm W) := Lib.hid (fun W h => h.2.2.2.2)
  go_upto_region 4 with fail
  go_cut [4] (fun x wx => ∃ bb sb sm rb fb tl db, x = .pointer (some ⟨bb, 0, none⟩) ∧ Hid (Blk wx bb #[.pointer (some ⟨sb, 0, none⟩), .pointer (some ⟨rb, 0, none⟩), .int .i64 n, .int .i64 T] 30 ∧ IsRef wx sb sm (StoreS.fresh (Lay.words n T).toNat) ∧ Blk wx rb (rC (.slice (some ⟨fb, 0, none⟩) n n) tl (.slice (some ⟨db, 0, none⟩) 0 0) 1) 137 ∧ Blk wx fb (fillB n n) 4 ∧ Adds wm wx) ∧ wm.heap.size ≤ bb ∧ wm.heap.size ≤ sb ∧ wm.heap.size ≤ sm ∧ wm.heap.size ≤ rb ∧ wm.heap.size ≤ fb)
  case first =>
    go_region_held3 (fun W => W.cell? ⟨lb, 0, none⟩ = some (.int .i64 (n : Int)) ∧ W.cell? ⟨lb, 1, none⟩ = some (.int .i64 T) ∧ W.cell? ⟨xb, 0, none⟩ = some (.int .i64 (n : Int)) ∧ W.cell? ⟨xb, 2, none⟩ = some (.slice none 0 0) ∧ Adds wm W)
      (first | (exact ⟨l0', l1', s0, s2, (Only.refl _ _).drew⟩) | (exact HK.out _ _ (by assumption) (by assumption)) | (exact HK.out _ _ (by assumption) ((Only.refl _ _).alloc _)))
      (first
      | (go_at_call 65; refine (r6Words_any _ _ _).mono ?_; rintro e w1 ⟨rfl, ho1⟩)
      | (go_at_call 69; refine (refNew_ex _ _ (by omega) d2).mono ?_; rintro e w2 ⟨sb, sm, rfl, hst, ho2, hlow1, hlow2⟩)
      | (go_at_call 70; refine (r9New_ok n _ (by omega) (by omega)).mono ?_; rintro e w3 ⟨rb, fb, tl, db, rfl, hR, hF, ho3, hlow3, hlow4⟩))
    all_goals
      go_wp2_with fail
      go_meet
      have z0 : wm.drew.heap.size = wm.heap.size := rfl
      have z1 := ho1.size; have z2 := ho2.size; have z3 := ho3.size
      first
        | exact ⟨_, sb, sm, rb, fb, tl, db, rfl, Lib.hid ⟨Blk.new _ _ _, (hst.only ho3 id id).alloc _, hR.alloc _, hF.alloc _, ((((Only.refl (fun _ => False) wm).drew.thenF ho1).thenF ho2).thenF ho3).alloc _⟩, by omega, by omega, by omega, by omega, by omega⟩
        | exact ⟨_, sb, sm, rb, fb, tl, db, rfl, Lib.hid ⟨Blk.new _ _ _, hst.alloc _, (hR.only ho2 id).alloc _, (hF.only ho2 id).alloc _, ((((Only.refl (fun _ => False) wm).drew.thenF ho1).thenF ho3).thenF ho2).alloc _⟩, by omega, by omega, by omega, by omega, by omega⟩
        | exact ⟨_, sb, sm, rb, fb, tl, db, rfl, Lib.hid ⟨Blk.new _ _ _, hst.alloc _, (hR.only (ho1.thenF ho2) id).alloc _, (hF.only (ho1.thenF ho2) id).alloc _, ((((Only.refl (fun _ => False) wm).drew.thenF ho3).thenF ho1).thenF ho2).alloc _⟩, by omega, by omega, by omega, by omega, by omega⟩
  case rest =>
    obtain ⟨bb, sb, sm, rb, fb, tl, db, rfl, HC, b1, b2, b3, b4, b5⟩ := hcut
    obtain ⟨hM, hS, hR, hF, hA⟩ := HC.out
    have c0 : wc.cell? ⟨bb, 0, none⟩ = some (.pointer (some ⟨sb, 0, none⟩)) := hM.cell 0
    have d0 := hS.cells.1
    have fm := hS.row.frozen 0
    have k0 := hS.head.lt
    have k1 := hS.row.lt
    have hin : (StoreS.fresh (Lay.words n T).toNat).inR 0 := ⟨by omega, by simp [StoreS.fresh]; omega⟩
    have x0 : wc.cell? ⟨sm, 0, none⟩ = some (.int .u64 ((StoreS.fresh (Lay.words n T).toNat).word 0)) := hS.wordCell hin
    have hlen : (StoreS.fresh (Lay.words n T).toNat).ws.length = (Lay.words n T).toNat := by simp [StoreS.fresh]
    rw [hlen] at d0
    have g1 : 0 < (Lay.words n T).toNat := by omega
    obtain ⟨m, hm⟩ : ∃ m, m = (Lay.words n T).toNat := ⟨_, rfl⟩
    rw [← hm] at d0 g1
    have HH := Lib.hid hm
    clear hM hS hR hF hA hlen hm hin
    go_wp2_with fail
    go_ret
    obtain ⟨hM, hS, hR, hF, hA⟩ := HC.out
    have hSB := isRef_begun hS (by omega)
    have hO : Only (SB sb sm) wc (wc.setCell ⟨sm, 0, none⟩ (.int .u64 1)) := (Only.refl _ _).setCell (.inl (.inr rfl)) _
    have k : ∀ {b : Nat} {c : Array Value} {t : TypeId}, Blk wc b c t → t ≠ 48 → b ≠ sm := fun hb h2 e => by
      subst e; exact h2 (hb.uniq hS.row).2
    have hA0 : Adds w wm := HA3.out
    have hz0 := hA0.size
    refine ⟨bb, sb, sm, rb, fb, rfl, ⟨hM.setCell_other (k hM (by decide)) 0 _, hSB, ⟨tl, db, ?_⟩, ?_⟩, (hA0.thenF hA).setCell (.inr ?_) _, ?_, ?_, ?_, ?_, ?_⟩
    · exact hR.setCell_other (k hR (by decide)) 0 _
    · exact hF.setCell_other (k hF (by decide)) 0 _
    · show w.heap.size ≤ sm
      omega
    all_goals omega
end Go.Proofs.YthhnpcniijpfeaaGreat

/- Package runs: near, and slices.Collect over it, at whatever state. By an AI agent. -/
import Derived.RangeFuncNested
import Derived.RangeFuncKeeps
import Derived.RangeFuncBound
import Derived.RangeFuncLeaves
import Derived.RangeFuncBox
import Derived.RangeFuncCalls
import Derived.Shelf.Abstract
import Derived.Shelf.RegionOpen
import Derived.OwnWalkIn
import Derived.TacticsInMore
import Derived.LoopNIn
import Derived.LoopIn
import Derived.Maps.AppendAt
import Derived.Test.YtbijbpnhakbeeaaRegIn
import Derived.Test.YtbijbpnhakbeeaaRunsPut
namespace Go.Proofs.Ytbijbpnhakbeeaa
open Go.RowKit Go.Shelf

attribute [local go_sem] Oper.semAt_some

theorem grownBy_adds {w w' : World} (h : Adds w w') : w.grownBy w' none := ⟨h.os, h.tape, h.output, h.size, fun k hk _ => h.block k hk id⟩
theorem abides_adds {α : Type} {B : Nat} {J : List α → World → Prop} (hJ : AbidesFrom B J) {s : List α} {w w' : World} (h : J s w) (ho : Adds w w') : J s w' := hJ s w w' none h (grownBy_adds ho) (fun r e => by cases e)
theorem below_adds {n₀ : Nat} {w w' : World} (h : Adds w w') (hn : n₀ ≤ w.heap.size) : Below n₀ w w' := ⟨h.os, h.tape, h.output, h.size, fun k hk => h.block k (Nat.lt_of_lt_of_le hk hn) id⟩
theorem wrap_succ (k : Nat) (h : k < 1000000) : IntKind.i64.wrap ((k : Int) + 1) = (k : Int) + 1 := by rw [IntKind.wrap_i64]; omega
theorem takeWhile_stop {α : Type} (p : α → Bool) : ∀ (l : List α) (k : Nat) (x : α), l[k]? = some x → (∀ y ∈ l.take k, p y = true) → p x = false → l.takeWhile p = l.take k
  | [], _, _, h, _, _ => by simp at h
  | a :: r, 0, x, h, _, hx => by simp at h; subst h; simp [List.takeWhile, hx]
  | a :: r, k + 1, x, h, hp, hx => by
    have h1 := hp a (by simp)
    have := takeWhile_stop p r k x (by simpa using h) (fun y hy => hp y (by simp [hy])) hx
    simp [List.takeWhile, h1, this]
theorem takeWhile_whole {α : Type} (p : α → Bool) : ∀ (l : List α), (∀ y ∈ l, p y = true) → l.takeWhile p = l
  | [], _ => rfl
  | a :: r, h => by simp [List.takeWhile, h a (by simp), takeWhile_whole p r (fun y hy => h y (by simp [hy]))]

set_option maxRecDepth 100000 in
set_option maxHeartbeats 4000000 in
theorem near1_in (n l rb Br Ba Be n₀ : Nat) (hn : 2 ≤ n) (lv : Value) (xs : List (Int × Int)) (P a b : Int) (hl : RunsOk P xs) (hP : 1 ≤ P ∧ P ≤ 4096) (J Jx : List (Int × Int) → World → Prop)
    (hY : ∀ pre (x : Int × Int) W, J pre W → pre.length < xs.length → YieldAt Fence.wide (n - 1) Try.prog l #[.agg #[.int .i64 x.1, .int .i64 x.2]] W fun e W' =>
      (e = .returned (.bool true) ∧ J (pre ++ [x]) W' ∧ Below n₀ W W') ∨ (e = .returned (.bool false) ∧ Jx (pre ++ [x]) W'))
    (W : World) (hJ : AbidesFrom W.heap.size J) (b1 : W.cell? ⟨Br, 0, none⟩ = some (.pointer (some ⟨rb, 0, none⟩))) (b2 : W.cell? ⟨Ba, 0, none⟩ = some (.int .i64 a)) (b3 : W.cell? ⟨Be, 0, none⟩ = some (.int .i64 b)) (c4 : W.cell? ⟨rb, 4, none⟩ = some lv)
    (hr : W.ownsRow 0 63 2 lv xs.length (shCells xs)) (hn₀ : n₀ ≤ W.heap.size) (hbe : Be < n₀) (hlv : ∀ g, some g = lv.ownBlock → g < n₀) (h0 : J [] W) :
    CallsIn Fence.wide n Try.prog 85 #[.func (.yield l) #[] #[], .pointer (some ⟨Br, 0, none⟩), .pointer (some ⟨Ba, 0, none⟩), .pointer (some ⟨Be, 0, none⟩)] W fun e W' => (∃ v, e = .returned v) ∧
      ((∃ ys, ys = nearL xs a b ∧ J ys W') ∨ (∃ pre, True ∧ Jx pre W')) := by
  have hlen : (xs.length : Int) ≤ 4096 := by have := hl.len (by omega); omega
  have HL := Lib.hid hl; have HR := Lib.hid hr; have HY := Lib.hid hY; have HJ := Lib.hid hJ; have H0 := Lib.hid h0; have HLV := Lib.hid hlv
  obtain ⟨p, hp⟩ : ∃ p, placeOf xs a = p := ⟨_, rfl⟩
  have hpl : p ≤ xs.length := hp ▸ place_le xs a
  have HP := Lib.hid hp
  obtain ⟨D, hD⟩ : ∃ D, xs.drop p = D := ⟨_, rfl⟩
  have hDl : D.length = xs.length - p := by rw [← hD]; simp
  have hnear : nearL xs a b = D.takeWhile (fun x => decide (x.1 ≤ b)) := by unfold nearL; rw [hp, hD]
  obtain ⟨m, hm⟩ : ∃ m, xs.length - p = m := ⟨_, rfl⟩
  rw [hm] at hDl
  have hin : p < xs.length → m ≠ 0 := fun h => by omega
  rcases row_shape hr with ⟨rfl, hx0⟩ | ⟨g, cap, rfl⟩
  · -- no list
    obtain rfl : xs = [] := List.length_eq_zero_iff.1 hx0
    obtain rfl : p = 0 := by simpa using hpl
    obtain rfl : m = 0 := by simpa using hm.symm
    obtain rfl : D = [] := by simpa using hD.symm
    have HNE := Lib.hid hnear
    clear hl hr hY hJ h0 hlv hp hm hnear hD hDl hin hx0
    refine callsIn_of_wp Try.func85 rfl trivial ?_ rfl
    simp only [Try.ntmps85, List.size_toArray, List.length_cons, List.length_nil, Nat.reduceAdd, Nat.reduceSub, Array.replicate_succ, Array.replicate_zero, List.push_toArray, List.append_toArray, List.nil_append, List.cons_append]
    gi_wp2
    refine wpIn_wide.2 ?_

    refine wp_region_held_drew (S := (fun W' => W'.cell? ⟨Br, 0, none⟩ = some (.pointer (some ⟨rb, 0, none⟩)) ∧ W'.cell? ⟨Ba, 0, none⟩ = some (.int .i64 a) ∧ W'.cell? ⟨rb, 4, none⟩ = some (.slice none 0 0))) (by kernel_rfl) ⟨b1, b2, c4⟩ (fun hHeld => ?_)
    refine wpAnyH_take (i := 0) (v := (.pointer (some ⟨rb, 0, none⟩))) rfl (by kernel_rfl) (by kernel_rfl) (by kernel_rfl) (fun _ _ _ h => h) (Or.inl ⟨by rfl, fun W hS => by (obtain ⟨q1, q2, q3⟩ := hS; go_simp; done)⟩) hHeld ?_
    try simp only [Act.put, List.getElem_toArray, List.getElem_cons_succ, List.getElem_cons_zero, List.setIfInBounds_toArray, List.set_cons_zero, List.set_cons_succ]
    refine wpAnyH_take (i := 1) (v := (.pointer (some ⟨rb, 0, none⟩))) rfl (by kernel_rfl) (by kernel_rfl) (by kernel_rfl) (fun _ _ _ h => h) (Or.inl ⟨by rfl, fun W hS => by first | rfl | (go_simp; done)⟩) hHeld ?_
    try simp only [Act.put, List.getElem_toArray, List.getElem_cons_succ, List.getElem_cons_zero, List.setIfInBounds_toArray, List.set_cons_zero, List.set_cons_succ]
    refine wpAnyH_take (i := 2) (v := (.pointer (some ⟨rb, 4, none⟩))) rfl (by kernel_rfl) (by kernel_rfl) (by kernel_rfl) (fun _ _ _ h => h) (Or.inl ⟨by rfl, fun W hS => by first | rfl | (go_simp; done)⟩) hHeld ?_
    try simp only [Act.put, List.getElem_toArray, List.getElem_cons_succ, List.getElem_cons_zero, List.setIfInBounds_toArray, List.set_cons_zero, List.set_cons_succ]
    refine wpAnyH_take (i := 3) (v := (.slice none 0 0)) rfl (by kernel_rfl) (by kernel_rfl) (by kernel_rfl) (fun _ _ _ h => h) (Or.inl ⟨by rfl, fun W hS => by (obtain ⟨q1, q2, q3⟩ := hS; go_simp; done)⟩) hHeld ?_
    try simp only [Act.put, List.getElem_toArray, List.getElem_cons_succ, List.getElem_cons_zero, List.setIfInBounds_toArray, List.set_cons_zero, List.set_cons_succ]
    refine wpAnyH_take (i := 4) (v := (.pointer (some ⟨rb, 0, none⟩))) rfl (by kernel_rfl) (by kernel_rfl) (by kernel_rfl) (fun _ _ _ h => h) (Or.inl ⟨by rfl, fun W hS => by (obtain ⟨q1, q2, q3⟩ := hS; go_simp; done)⟩) hHeld ?_
    try simp only [Act.put, List.getElem_toArray, List.getElem_cons_succ, List.getElem_cons_zero, List.setIfInBounds_toArray, List.set_cons_zero, List.set_cons_succ]
    refine wpAnyH_take (i := 5) (v := (.int .i64 a)) rfl (by kernel_rfl) (by kernel_rfl) (by kernel_rfl) (fun _ _ _ h => h) (Or.inl ⟨by rfl, fun W hS => by (obtain ⟨q1, q2, q3⟩ := hS; go_simp; done)⟩) hHeld ?_
    try simp only [Act.put, List.getElem_toArray, List.getElem_cons_succ, List.getElem_cons_zero, List.setIfInBounds_toArray, List.set_cons_zero, List.set_cons_succ]
    refine wpAnyH_take (i := 9) (v := (.int .i64 0)) rfl (by kernel_rfl) (by kernel_rfl) (by kernel_rfl) (fun _ _ _ h => h) (Or.inl ⟨by rfl, fun W hS => by first | rfl | (go_simp; done)⟩) hHeld ?_
    try simp only [Act.put, List.getElem_toArray, List.getElem_cons_succ, List.getElem_cons_zero, List.setIfInBounds_toArray, List.set_cons_zero, List.set_cons_succ]
    refine wpAnyH_ready (rs := [6]) (by kernel_rfl) (by simp) (AllReadyH.cons rfl (fun K hK => ?_) AllReadyH.nil)
    simp only [List.getElem_toArray, List.getElem_cons_succ, List.getElem_cons_zero]
    go_simp
    refine (place_row hHeld.2.2 HR.out HL.out hP a).mono ?_
    rintro e v1 ⟨rfl, hk⟩
    rw [HP.out]
    refine hK.out _ _ ⟨cell_al hHeld.1 hk, cell_al hHeld.2.1 hk, cell_al hHeld.2.2 hk⟩ (fun hHeld => ?_)
    clear hK K
    try simp only [Act.put, List.getElem_toArray, List.getElem_cons_succ, List.getElem_cons_zero, List.setIfInBounds_toArray, List.set_cons_zero, List.set_cons_succ]
    refine wpAnyH_take (i := 7) (v := (.slice none 0 0)) rfl (by kernel_rfl) (by kernel_rfl) (by kernel_rfl) (fun _ _ _ h => h) (Or.inl ⟨by rfl, fun W hS => by (first | rfl | (go_simp; done))⟩) hHeld ?_
    try simp only [Act.put, List.getElem_toArray, List.getElem_cons_succ, List.getElem_cons_zero, List.setIfInBounds_toArray, List.set_cons_zero, List.set_cons_succ]
    refine wpAnyH_take (i := 8) (v := (.int .i64 0)) rfl (by kernel_rfl) (by kernel_rfl) (by kernel_rfl) (fun _ _ _ h => h) (Or.inl ⟨by rfl, fun W hS => by first | rfl | (go_simp; done)⟩) hHeld ?_
    try simp only [Act.put, List.getElem_toArray, List.getElem_cons_succ, List.getElem_cons_zero, List.setIfInBounds_toArray, List.set_cons_zero, List.set_cons_succ]
    refine wpAnyH_done (by kernel_rfl) ?_ _
    gi_wp2
    have hj1 := abides_adds HJ.out H0.out ((Only.refl (fun _ => False) W).drew.thenF hk)
    gi_loopw [16] (fun i wr => i = .int .i64 0 ∧ J [] wr) (fun _ _ => 0)
    case atStart => exact ⟨rfl, hj1⟩
    case round =>
      obtain ⟨rfl, hJs⟩ := hrel
      gi_wp2
      go_end0
      exact ⟨⟨_, rfl⟩, .inl ⟨_, by rw [HNE.out]; rfl, hJs⟩⟩
  · -- a list
    obtain ⟨hrow, _⟩ := row_two hr
    have hcap : xs.length ≤ cap ∧ cap ≤ maxLen := by
      rcases hr.2 with ⟨h0, _⟩ | ⟨g', cap', cur, h0, _, _, h1, h2, _⟩
      · cases h0
      · cases h0; exact ⟨h1, h2⟩
    have hgn : g < n₀ := hlv g rfl
    have hc63 : cap ≤ 9223372036854775807 := by have := hcap.2; unfold maxLen at this; omega
    obtain ⟨AD, hAD, hAD2⟩ : ∃ AD : Addr, (if cap = p then (some ⟨g, 0, none⟩ : Option Addr) else some ⟨g, p * 2, none⟩) = some AD ∧ (p < xs.length → AD = ⟨g, p * 2, none⟩) := by
      by_cases h : cap = p
      · exact ⟨⟨g, 0, none⟩, by simp [h], fun h2 => by omega⟩
      · exact ⟨⟨g, p * 2, none⟩, by simp [h], fun _ => rfl⟩
    have hb1 : (p : Int) ≤ (xs.length : Int) := by omega
    have hb2 : p ≤ cap := by omega
    have hcells : ∀ k x, D[k]? = some x → AD = ⟨g, p * 2, none⟩ ∧ W.cell? ⟨g, p * 2 + k * 2, none⟩ = some (.int .i64 x.1) ∧ W.cell? ⟨g, p * 2 + k * 2 + 1, none⟩ = some (.int .i64 x.2) := fun k x hk => by
      have hk0 := (List.getElem?_eq_some_iff.1 hk).1
      rw [← hD, List.getElem?_drop] at hk
      have h2 := hrow _ x hk
      rw [show (p + k) * 2 = p * 2 + k * 2 by omega] at h2
      exact ⟨hAD2 (by omega), h2⟩
    have hDm : ∀ k x, D[k]? = some x → x ∈ xs := fun k x hk => by
      rw [← hD] at hk
      exact List.mem_of_mem_drop (List.mem_of_getElem? hk)
    have HC := Lib.hid hcells; have HNE := Lib.hid hnear; have HDL := Lib.hid hDl; have HDM := Lib.hid hDm
    clear hl hr hY hJ h0 hlv hp hnear hD hDl hin hrow hcap hAD2 hcells hDm
    refine callsIn_of_wp Try.func85 rfl trivial ?_ rfl
    simp only [Try.ntmps85, List.size_toArray, List.length_cons, List.length_nil, Nat.reduceAdd, Nat.reduceSub, Array.replicate_succ, Array.replicate_zero, List.push_toArray, List.append_toArray, List.nil_append, List.cons_append]
    gi_wp2
    refine wpIn_wide.2 ?_
    refine wp_region_held_drew (S := (fun W' => W'.cell? ⟨Br, 0, none⟩ = some (.pointer (some ⟨rb, 0, none⟩)) ∧ W'.cell? ⟨Ba, 0, none⟩ = some (.int .i64 a) ∧ W'.cell? ⟨rb, 4, none⟩ = some (.slice (some ⟨g, 0, none⟩) xs.length cap))) (by kernel_rfl) ⟨b1, b2, c4⟩ (fun hHeld => ?_)
    refine wpAnyH_take (i := 0) (v := (.pointer (some ⟨rb, 0, none⟩))) rfl (by kernel_rfl) (by kernel_rfl) (by kernel_rfl) (fun _ _ _ h => h) (Or.inl ⟨by rfl, fun W hS => by (obtain ⟨q1, q2, q3⟩ := hS; go_simp; done)⟩) hHeld ?_
    try simp only [Act.put, List.getElem_toArray, List.getElem_cons_succ, List.getElem_cons_zero, List.setIfInBounds_toArray, List.set_cons_zero, List.set_cons_succ]
    refine wpAnyH_take (i := 1) (v := (.pointer (some ⟨rb, 0, none⟩))) rfl (by kernel_rfl) (by kernel_rfl) (by kernel_rfl) (fun _ _ _ h => h) (Or.inl ⟨by rfl, fun W hS => by first | rfl | (go_simp; done)⟩) hHeld ?_
    try simp only [Act.put, List.getElem_toArray, List.getElem_cons_succ, List.getElem_cons_zero, List.setIfInBounds_toArray, List.set_cons_zero, List.set_cons_succ]
    refine wpAnyH_take (i := 2) (v := (.pointer (some ⟨rb, 4, none⟩))) rfl (by kernel_rfl) (by kernel_rfl) (by kernel_rfl) (fun _ _ _ h => h) (Or.inl ⟨by rfl, fun W hS => by first | rfl | (go_simp; done)⟩) hHeld ?_
    try simp only [Act.put, List.getElem_toArray, List.getElem_cons_succ, List.getElem_cons_zero, List.setIfInBounds_toArray, List.set_cons_zero, List.set_cons_succ]
    refine wpAnyH_take (i := 3) (v := (.slice (some ⟨g, 0, none⟩) xs.length cap)) rfl (by kernel_rfl) (by kernel_rfl) (by kernel_rfl) (fun _ _ _ h => h) (Or.inl ⟨by rfl, fun W hS => by (obtain ⟨q1, q2, q3⟩ := hS; go_simp; done)⟩) hHeld ?_
    try simp only [Act.put, List.getElem_toArray, List.getElem_cons_succ, List.getElem_cons_zero, List.setIfInBounds_toArray, List.set_cons_zero, List.set_cons_succ]
    refine wpAnyH_take (i := 4) (v := (.pointer (some ⟨rb, 0, none⟩))) rfl (by kernel_rfl) (by kernel_rfl) (by kernel_rfl) (fun _ _ _ h => h) (Or.inl ⟨by rfl, fun W hS => by (obtain ⟨q1, q2, q3⟩ := hS; go_simp; done)⟩) hHeld ?_
    try simp only [Act.put, List.getElem_toArray, List.getElem_cons_succ, List.getElem_cons_zero, List.setIfInBounds_toArray, List.set_cons_zero, List.set_cons_succ]
    refine wpAnyH_take (i := 5) (v := (.int .i64 a)) rfl (by kernel_rfl) (by kernel_rfl) (by kernel_rfl) (fun _ _ _ h => h) (Or.inl ⟨by rfl, fun W hS => by (obtain ⟨q1, q2, q3⟩ := hS; go_simp; done)⟩) hHeld ?_
    try simp only [Act.put, List.getElem_toArray, List.getElem_cons_succ, List.getElem_cons_zero, List.setIfInBounds_toArray, List.set_cons_zero, List.set_cons_succ]
    refine wpAnyH_take (i := 9) (v := (.int .i64 0)) rfl (by kernel_rfl) (by kernel_rfl) (by kernel_rfl) (fun _ _ _ h => h) (Or.inl ⟨by rfl, fun W hS => by first | rfl | (go_simp; done)⟩) hHeld ?_
    try simp only [Act.put, List.getElem_toArray, List.getElem_cons_succ, List.getElem_cons_zero, List.setIfInBounds_toArray, List.set_cons_zero, List.set_cons_succ]
    refine wpAnyH_ready (rs := [6]) (by kernel_rfl) (by simp) (AllReadyH.cons rfl (fun K hK => ?_) AllReadyH.nil)
    simp only [List.getElem_toArray, List.getElem_cons_succ, List.getElem_cons_zero]
    go_simp
    refine (place_row hHeld.2.2 HR.out HL.out hP a).mono ?_
    rintro e v1 ⟨rfl, hk⟩
    rw [HP.out]
    refine hK.out _ _ ⟨cell_al hHeld.1 hk, cell_al hHeld.2.1 hk, cell_al hHeld.2.2 hk⟩ (fun hHeld => ?_)
    clear hK K
    try simp only [Act.put, List.getElem_toArray, List.getElem_cons_succ, List.getElem_cons_zero, List.setIfInBounds_toArray, List.set_cons_zero, List.set_cons_succ]
    refine wpAnyH_take (i := 7) (v := (.slice (some AD) m (cap - p))) rfl (by kernel_rfl) (by kernel_rfl) (by kernel_rfl) (fun _ _ _ h => h) (Or.inl ⟨by rfl, fun W hS => by (go_simp; done)⟩) hHeld ?_
    try simp only [Act.put, List.getElem_toArray, List.getElem_cons_succ, List.getElem_cons_zero, List.setIfInBounds_toArray, List.set_cons_zero, List.set_cons_succ]
    refine wpAnyH_take (i := 8) (v := (.int .i64 m)) rfl (by kernel_rfl) (by kernel_rfl) (by kernel_rfl) (fun _ _ _ h => h) (Or.inl ⟨by rfl, fun W hS => by first | rfl | (go_simp; done)⟩) hHeld ?_
    try simp only [Act.put, List.getElem_toArray, List.getElem_cons_succ, List.getElem_cons_zero, List.setIfInBounds_toArray, List.set_cons_zero, List.set_cons_succ]
    refine wpAnyH_done (by kernel_rfl) ?_ _
    have hml : m ≤ xs.length := by omega
    clear hAD hm
    gi_wp2
    have hj1 := abides_adds HJ.out H0.out ((Only.refl (fun _ => False) W).drew.thenF hk)
    have hw1 : Below n₀ W v1 := below_adds ((Only.refl (fun _ => False) W).drew.thenF hk) hn₀
    have HW1 := Lib.hid hw1
    clear hw1 hk hHeld
    gi_loopw [16] (fun i wr => ∃ k : Nat, k ≤ m ∧ i = .int .i64 k ∧ J (D.take k) wr ∧ Below n₀ W wr ∧ W.heap.size ≤ wr.heap.size ∧ (∀ y ∈ D.take k, decide (y.1 ≤ b) = true))
      (fun i _ => m - (intOf i).toNat)
    case atStart => exact ⟨0, Nat.zero_le _, rfl, hj1, HW1.out, HW1.out.size, fun y hy => by simp at hy⟩
    case round =>
      obtain ⟨k, hk, rfl, hJs, hnx, hsz, hall⟩ := hrel
      have HA := Lib.hid hall; have HNX := Lib.hid hnx
      by_cases hlt : k < m
      · obtain ⟨x, hx⟩ : ∃ x, D[k]? = some x := ⟨_, List.getElem?_eq_getElem (by have := HDL.out; omega)⟩
        obtain ⟨rfl, q0, q1⟩ := HC.out k x hx
        have q0' := (hnx.cell (p := ⟨g, p * 2 + k * 2, none⟩) hgn).trans q0
        have q1' := (hnx.cell (p := ⟨g, p * 2 + k * 2 + 1, none⟩) hgn).trans q1
        have e3 := cell_al ((hnx.cell (p := ⟨Be, 0, none⟩) hbe).trans b3) ((Only.refl (fun _ => False) wr).alloc (.cells #[.int .i64 x.1, .int .i64 x.2] 63))
        have HX := Lib.hid hx
        have hJ2 := abides_adds HJ.out hJs ((Only.refl (fun _ => False) wr).alloc (.cells #[.int .i64 x.1, .int .i64 x.2] 63))
        have hpre : (D.take k).length < xs.length := by have := HDL.out; simp; omega
        obtain ⟨fn, tmps, assign, body, hy, hR⟩ := HY.out _ x _ hJ2 hpre
        have HJ2 := Lib.hid hJ2
        clear hall hnx hx q0 q1 hJ2 hpre hJs b1 b2 c4
        have hk4 : k < 1000000 := by omega
        have hwk2 := wrap_succ k hk4
        by_cases hend : b < x.1
        · gi_wp2
          refine ⟨fun _ h => (by cases h), ?_⟩
          gi_wp2
          refine bodyPost_ret (results_none rfl _ _ _) rfl ?_
          refine ⟨⟨_, rfl⟩, .inl ⟨_, rfl, ?_⟩⟩
          rw [HNE.out, takeWhile_stop (fun x : Int × Int => decide (x.1 ≤ b)) D k x HX.out HA.out (by simpa using hend)]
          exact HJ2.out
        · gi_wp2
          refine ⟨fun _ => by omega, ?_⟩
          refine hR.mono ?_
          rintro e W3 (⟨rfl, hJ3, hk3⟩ | ⟨rfl, hJx3⟩)
          · gi_wp2
            go_roundw
            case rel =>
              have hb3 := below_adds (n₀ := n₀) ((Only.refl (fun _ => False) wr).alloc (.cells #[.int .i64 x.1, .int .i64 x.2] 63)) (by omega)
              have htk : D.take (k + 1) = D.take k ++ [x] := by rw [List.take_add_one, HX.out]; rfl
              refine ⟨k + 1, by omega, by simp, by rw [htk]; exact hJ3, (HNX.out.trans hb3).trans hk3, Nat.le_trans hsz (Nat.le_trans (by simp) hk3.size), fun y hy => ?_⟩
              rw [htk, List.mem_append, List.mem_singleton] at hy
              rcases hy with hy | rfl
              · exact HA.out y hy
              · simp; omega
            case measure => simp [intOf]; omega
          · gi_wp2
            refine bodyPost_ret (results_none rfl _ _ _) rfl ?_
            exact ⟨⟨_, rfl⟩, .inr ⟨_, trivial, hJx3⟩⟩
      · obtain rfl : k = m := by omega
        gi_wp2
        go_end0
        refine ⟨⟨_, rfl⟩, .inl ⟨_, rfl, ?_⟩⟩
        have hall := HA.out
        rw [HNE.out]
        rw [List.take_of_length_le (by have := HDL.out; omega)] at hJs hall
        rw [takeWhile_whole _ _ hall]
        exact hJs
end Go.Proofs.Ytbijbpnhakbeeaa
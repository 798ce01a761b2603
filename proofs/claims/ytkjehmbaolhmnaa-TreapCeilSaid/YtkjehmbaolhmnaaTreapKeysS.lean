/- Package treap at string: the walk by rising keys, and Keys. By an AI agent. -/
import Derived.RangeFuncKeeps
import Derived.RangeFuncBound
import Derived.RangeFuncLeaves
import Derived.RangeFuncBox
import Derived.RangeFuncCalls
import Derived.Shelf.Abstract
import Derived.Shelf.RegionOpen
import Derived.OwnWalkIn
import Derived.TacticsInMore
import Derived.LoopNIn
import Derived.LoopIn
import Derived.Maps.AppendAt
import Derived.Test.YtkjehmbaolhmnaaTreeWalk
import Derived.Test.YtkjehmbaolhmnaaRegIn
namespace Go.Proofs.Ytkjehmbaolhmnaa
open Go.RowKit Go.Shelf

attribute [local go_sem] Oper.semAt_some

set_option maxRecDepth 100000 in
set_option maxHeartbeats 2000000 in
theorem eachS_in (F : Fence) (hd : F.depth = none) (hf : F.fn 43) (hro : F.round = none) (l n₀ N : Nat) (w0 : World) (J Jx : List (Nd w0) → World → Prop)
    (hY : ∀ m pre (x : Nd w0) W, J pre W → pre.length < N → YieldAt F m Try.prog l #[.pointer (some ⟨x.b, 0, none⟩)] W fun e W' =>
      (e = .returned (.bool true) ∧ J (pre ++ [x]) W' ∧ Below n₀ W W') ∨ (e = .returned (.bool false) ∧ Jx (pre ++ [x]) W')) (t : Tr) :
    ∀ (h : IsTr 84 w0 t) (n : Nat) (pre : List (Nd w0)) (W : World), w0.heap.size ≤ n₀ → Below n₀ w0 W → J pre W → pre.length + t.size ≤ N →
      CallsIn F n Try.prog 43 #[.pointer t.adr, .func (.yield l) #[] #[]] W fun e W' =>
        (e = .returned (.bool true) ∧ J (pre ++ ris t h) W' ∧ Below n₀ W W') ∨ (e = .returned (.bool false) ∧ ∃ q, q <+: ris t h ∧ Jx (pre ++ q) W') := by
  induction t with
  | nil =>
    intro h n pre W _ _ hJ _
    rw [show Tr.nil.adr = none from rfl]
    refine callsIn_of_wp Try.func43 rfl hf ?_ hro
    simp only [Try.ntmps43, List.size_toArray, List.length_cons, List.length_nil, Nat.reduceAdd, Nat.reduceSub, Array.replicate_succ, Array.replicate_zero, List.push_toArray, List.append_toArray, List.nil_append, List.cons_append]
    gi_wp2
    repeat' (first
      | (exact absurd ‹some undef = some (Value.bool _)› (by simp [undef]))
      | (go_ret; exact .inl ⟨rfl, by simpa [ris] using hJ, Below.refl _ _⟩)
      | (refine ⟨fun _ h => (by cases h), ?_⟩; gi_wp2))
  | node b k d v tl tr ihl ihr =>
    intro h n pre W hn₀ hW hJ hN
    have hdd : ∀ k : Nat, (F.depth.isSome = true → 1 ≤ k) := fun k h => by rw [hd] at h; cases h
    have hb : b < n₀ := Nat.lt_of_lt_of_le h.1.lt hn₀
    have hW0 : ∀ W', Below n₀ w0 W' → W'.cell? ⟨b, 3, none⟩ = some (.pointer tl.adr) ∧ W'.cell? ⟨b, 4, none⟩ = some (.pointer tr.adr) := fun W' hw =>
      ⟨(hw.cell (p := ⟨b, 3, none⟩) hb).trans (h.1.cell 3), (hw.cell (p := ⟨b, 4, none⟩) hb).trans (h.1.cell 4)⟩
    simp only [Tr.size] at hN
    have hl := ris_len tl h.2.1
    have c3 := (hW0 W hW).1
    have ih2 : ∀ W2, Below n₀ w0 W2 → J (pre ++ ris tl h.2.1 ++ [⟨b, k, 0, h.1.cell 0⟩]) W2 → CallsIn F (n - 1) Try.prog 43 #[.pointer tr.adr, .func (.yield l) #[] #[]] W2 fun e W' =>
        (e = .returned (.bool true) ∧ J (pre ++ ris (.node b k d v tl tr) h) W' ∧ Below n₀ W2 W') ∨ (e = .returned (.bool false) ∧ ∃ q, q <+: ris (.node b k d v tl tr) h ∧ Jx (pre ++ q) W') := fun W2 hw hj => by
      refine (ihr h.2.2 (n - 1) _ W2 hn₀ hw hj (by simp [hl]; omega)).mono ?_
      rintro e W' (⟨he, hj', hb'⟩ | ⟨he, q, hq, hx⟩)
      · exact .inl ⟨he, by simpa [ris] using hj', hb'⟩
      · obtain ⟨r, hr⟩ := hq
        exact .inr ⟨he, ris tl h.2.1 ++ ⟨b, k, 0, h.1.cell 0⟩ :: q, ⟨r, by simp [ris, ← hr]⟩, by simpa using hx⟩
    have hy : ∀ W1, Below n₀ w0 W1 → J (pre ++ ris tl h.2.1) W1 → YieldAt F (n - 1) Try.prog l #[.pointer (some ⟨b, 0, none⟩)] W1 fun e W2 =>
        (e = .returned (.bool true) ∧ Below n₀ W1 W2 ∧ W2.cell? ⟨b, 4, none⟩ = some (.pointer tr.adr) ∧ CallsIn F (n - 1) Try.prog 43 #[.pointer tr.adr, .func (.yield l) #[] #[]] W2 fun e W' =>
          (e = .returned (.bool true) ∧ J (pre ++ ris (.node b k d v tl tr) h) W' ∧ Below n₀ W2 W') ∨ (e = .returned (.bool false) ∧ ∃ q, q <+: ris (.node b k d v tl tr) h ∧ Jx (pre ++ q) W')) ∨
        (e = .returned (.bool false) ∧ ∃ q, q <+: ris (.node b k d v tl tr) h ∧ Jx (pre ++ q) W2) := fun W1 hw hj => by
      refine YieldAt.mono (hY (n - 1) _ ⟨b, k, 0, h.1.cell 0⟩ W1 hj (by simp [hl]; omega)) fun e W2 hh => hh.elim (fun ⟨he, hj2, hb2⟩ => ?_) (fun ⟨he, hx⟩ => ?_)
      · exact .inl ⟨he, hb2, (hW0 _ (hw.trans hb2)).2, ih2 W2 (hw.trans hb2) hj2⟩
      · exact .inr ⟨he, ris tl h.2.1 ++ [⟨b, k, 0, h.1.cell 0⟩], ⟨ris tr h.2.2, by simp [ris]⟩, by simpa using hx⟩
    have ih1 : CallsIn F (n - 1) Try.prog 43 #[.pointer tl.adr, .func (.yield l) #[] #[]] W fun e W1 =>
        (e = .returned (.bool true) ∧ Below n₀ W W1 ∧ YieldAt F (n - 1) Try.prog l #[.pointer (some ⟨b, 0, none⟩)] W1 fun e W2 =>
          (e = .returned (.bool true) ∧ Below n₀ W1 W2 ∧ W2.cell? ⟨b, 4, none⟩ = some (.pointer tr.adr) ∧ CallsIn F (n - 1) Try.prog 43 #[.pointer tr.adr, .func (.yield l) #[] #[]] W2 fun e W' =>
            (e = .returned (.bool true) ∧ J (pre ++ ris (.node b k d v tl tr) h) W' ∧ Below n₀ W2 W') ∨ (e = .returned (.bool false) ∧ ∃ q, q <+: ris (.node b k d v tl tr) h ∧ Jx (pre ++ q) W')) ∨
          (e = .returned (.bool false) ∧ ∃ q, q <+: ris (.node b k d v tl tr) h ∧ Jx (pre ++ q) W2)) ∨
        (e = .returned (.bool false) ∧ ∃ q, q <+: ris (.node b k d v tl tr) h ∧ Jx (pre ++ q) W1) := by
      refine (ihl h.2.1 (n - 1) _ W hn₀ hW hJ (by omega)).mono ?_
      rintro e W' (⟨he, hj', hb'⟩ | ⟨he, q, hq, hx⟩)
      · exact .inl ⟨he, hb', hy _ (hW.trans hb') hj'⟩
      · obtain ⟨r, hr⟩ := hq
        exact .inr ⟨he, q, ⟨r ++ ⟨b, k, 0, h.1.cell 0⟩ :: ris tr h.2.2, by simp [ris, ← hr]⟩, hx⟩
    rw [show (Tr.node b k d v tl tr).adr = some ⟨b, 0, none⟩ from rfl]
    obtain ⟨L, hL⟩ : ∃ L, L = ris (.node b k d v tl tr) h := ⟨_, rfl⟩
    rw [← hL] at ih1 ⊢
    clear hL hl hy ih2 ihl ihr hY hJ hN hW hW0 h hb hn₀
    refine callsIn_of_wp Try.func43 rfl hf ?_ hro
    simp only [Try.ntmps43, List.size_toArray, List.length_cons, List.length_nil, Nat.reduceAdd, Nat.reduceSub, Array.replicate_succ, Array.replicate_zero, List.push_toArray, List.append_toArray, List.nil_append, List.cons_append]
    gi_wp2_with (first
      | ((try refine ⟨hdd _, ?_⟩); gi_at_call 43; refine ih1.mono ?_; clear ih1; rintro e W1 (⟨rfl, hb1, fn, tmps, assign, body, hy, hR⟩ | ⟨rfl, q, hq, hx1⟩))
      | ((try refine ⟨hdd _, ?_⟩); refine hR.mono ?_; clear hR; rintro e W2 (⟨rfl, hb2, c4, ih2⟩ | ⟨rfl, q, hq, hx2⟩))
      | ((try refine ⟨hdd _, ?_⟩); gi_at_call 43; refine ih2.mono ?_; clear ih2; rintro e W3 (⟨rfl, hJ3, hb3⟩ | ⟨rfl, q, hq, hx3⟩)))
    all_goals (repeat' (first
      | (exact absurd ‹some undef = some (Value.bool _)› (by simp [undef]))
      | (go_ret; exact .inl ⟨rfl, hJ3, (hb1.trans hb2).trans hb3⟩)
      | (go_ret; exact .inr ⟨rfl, q, hq, hx3⟩)
      | (go_ret; exact .inr ⟨rfl, q, hq, hx2⟩)
      | (go_ret; exact .inr ⟨rfl, q, hq, hx1⟩)
      | (refine ⟨fun _ h => (by cases h), ?_⟩; gi_wp2)))

set_option maxHeartbeats 1000000 in
theorem rising1S_in (F : Fence) (hd : F.depth = none) (n : Nat) (hf : F.fn 42) (hf2 : F.fn 43) (hro : F.round = none) (l Bt n₀ : Nat) (w0 : World) (t : Tr) (h : IsTr 84 w0 t) (hn₀ : w0.heap.size ≤ n₀) (J Jx : List (Nd w0) → World → Prop)
    (hY : ∀ pre (x : Nd w0) W, J pre W → pre.length < t.size → YieldAt F (n - 1) Try.prog l #[.pointer (some ⟨x.b, 0, none⟩)] W fun e W' =>
      (e = .returned (.bool true) ∧ J (pre ++ [x]) W' ∧ Below n₀ W W') ∨ (e = .returned (.bool false) ∧ Jx (pre ++ [x]) W'))
    (W : World) (hW : Below n₀ w0 W) (hBt : W.cell? ⟨Bt, 0, none⟩ = some (.pointer t.adr)) (h0 : J [] W) :
    CallsIn F n Try.prog 42 #[.func (.yield l) #[] #[], .pointer (some ⟨Bt, 0, none⟩)] W fun e W' => (∃ v, e = .returned v) ∧
      ((∃ ys, ys = ris t h ∧ J ys W') ∨ (∃ pre, pre <+: ris t h ∧ Jx pre W')) := by
  have hdd : ∀ k : Nat, (F.depth.isSome = true → 1 ≤ k) := fun k h => by rw [hd] at h; cases h
  have hp := eachS_in F hd hf2 hro l n₀ t.size w0 J Jx (fun m pre x W hj hl => yieldAt_anyDepth hd m (hY pre x W hj hl)) t h (n - 1) [] W hn₀ hW h0 (by simp)
  obtain ⟨L, hL⟩ : ∃ L, L = ris t h := ⟨_, rfl⟩
  rw [← hL] at hp ⊢
  clear hL
  generalize t.adr = a at *
  refine callsIn_of_wp Try.func42 rfl hf ?_ hro
  simp only [Try.ntmps42, List.size_toArray, List.length_cons, List.length_nil, Nat.reduceAdd, Nat.reduceSub, Array.replicate_succ, Array.replicate_zero, List.push_toArray, List.append_toArray, List.nil_append, List.cons_append]
  gi_wp2_with ((try refine ⟨hdd _, ?_⟩); gi_at_call 43; refine hp.mono ?_; clear hp; rintro e W1 (⟨rfl, hJ1, _⟩ | ⟨rfl, q, hq, hx⟩))
  · go_end0
    exact ⟨⟨_, rfl⟩, .inl ⟨_, rfl, by simpa using hJ1⟩⟩
  · go_end0
    exact ⟨⟨_, rfl⟩, .inr ⟨q, hq, by simpa using hx⟩⟩

set_option maxHeartbeats 1000000 in
theorem risingS_in (F : Fence) (n : Nat) (hf : F.fn 34) (hro : F.round = none) (p0 : Option Addr) (w : World) :
    CallsIn F n Try.prog 34 #[.pointer p0] w fun e w' => e = .returned (.func (.func 42) #[] #[.pointer (some ⟨w.heap.size, 0, none⟩)]) ∧ w' = w.alloc (.cells #[.pointer p0] 76) := by
  refine callsIn_of_wp Try.func34 rfl hf ?_ hro
  simp only [Try.ntmps34, List.size_toArray, List.length_cons, List.length_nil, Nat.reduceAdd, Nat.reduceSub, Array.replicate_succ, Array.replicate_zero, List.push_toArray, List.append_toArray, List.nil_append, List.cons_append]
  gi_wp2
  go_ret
  exact ⟨rfl, rfl⟩

theorem risingS_stops (F : Fence) (hd : F.depth = none) (n : Nat) (hf : F.fn 42) (hf2 : F.fn 43) (hro : F.round = none) (Bt n₀ : Nat) (w0 : World) (t : Tr) (h : IsTr 84 w0 t) (hn₀ : w0.heap.size ≤ n₀)
    (w : World) (hW0 : Below n₀ w0 w) (hBt : Bt < w.heap.size) (hnw : n₀ ≤ w.heap.size) (hc : w.cell? ⟨Bt, 0, none⟩ = some (.pointer t.adr)) :
    SeqStopsK F n Try.prog 42 #[.pointer (some ⟨Bt, 0, none⟩)] (fun x : Nd w0 => #[.pointer (some ⟨x.b, 0, none⟩)]) (Below n₀) (fun ys => ys = ris t h) (fun pre => pre <+: ris t h) t.size w := fun l J Jx W hW _ _ hY h0 =>
  rising1S_in F hd n hf hf2 hro l Bt n₀ w0 t h hn₀ J Jx hY W (hW0.trans (hW.mono hnw)) ((hW.cell (p := ⟨Bt, 0, none⟩) hBt).trans hc) h0

theorem infoIntS : (Try.prog.info? 3).map (fun i => (i.zero, i.size, i.bytes)) = some (some (.int .i64 0), 1, 8) := by kernel_rfl

set_option maxRecDepth 100000 in
set_option maxHeartbeats 4000000 in
theorem keysS_in (F : Fence) (hd : F.depth = none) (n : Nat) (hf : F.fn 20) (hf1 : F.fn 34) (hf2 : F.fn 42) (hf3 : F.fn 43) (hro : F.round = none) (hn : 3 ≤ n)
    (tb : Nat) (t : Tr) (m : Int) (w : World) (h : IsTreap 84 78 w tb t m) (ht : t.size < 1000000) :
    CallsIn F n Try.prog 20 #[.pointer (some ⟨tb, 0, none⟩)] w fun e w' => ∃ v, e = .returned v ∧ w'.ownsRow w.heap.size 3 1 v t.size (t.ins.map fun e => .int .i64 e.1) ∧ Below w.heap.size w w' := by
  have h1 : 1 ≤ n := by omega
  obtain ⟨i0, hi, hz0, hz1, hz2⟩ := info_parts infoIntS
  obtain ⟨c0, c1, _, _⟩ := (h.alloc (.cells #[.slice none 0 0] 22)).cells
  refine callsIn_of_wp_marks Try.func20 rfl hf ?_ hro
  simp only [Try.ntmps20, List.size_toArray, List.length_cons, List.length_nil, Nat.reduceAdd, Nat.reduceSub, Array.replicate_succ, Array.replicate_zero, List.push_toArray, List.append_toArray, List.nil_append, List.cons_append]
  gi_wp2_with (gi_at_call 34; refine (risingS_in F (n - 1) hf1 hro _ _).mono ?_; rintro e w' ⟨rfl, rfl⟩)
  have bO := Boxed.new w 22 (.slice none 0 0)
  have bN := Boxed.new (w.alloc (.cells #[.slice none 0 0] 22)) 76 (.pointer t.adr)
  rw [World.size_alloc] at bN
  have hB0 : Below w.heap.size w ((w.alloc (.cells #[.slice none 0 0] 22)).alloc (.cells #[.pointer t.adr] 76)) := ((Below.refl _ w).alloc (Nat.le_refl _) _).alloc (by simp) _
  refine wpIn_rangeFunc_ownG hro h1 (gf := 42) (lb := #[.pointer (some ⟨w.heap.size + 1, 0, none⟩)]) rfl hf2 (enters_of Try.func42 (by kernel_rfl) rfl)
    (risingS_stops F hd (n - 1) hf2 hf3 hro (w.heap.size + 1) w.heap.size w t h.tr (Nat.le_refl _) _ hB0 (by simp) (by simp; omega) bN.cell) belowK_t (belowK_b (by simp; omega)) (Below.refl _ _) (fun _ => rfl)
    (fun pre W => (∃ v, Boxed W w.heap.size 22 v ∧ W.ownsRow w.heap.size 3 1 v pre.length (kyCells pre) ∧ True) ∧ Below w.heap.size w W)
    (fun _ _ _ => False)
    (OwnFrom.and (Own.from (holdsRow_own w.heap.size w.heap.size 22 3 1 (fun pre : List (Nd w) => pre.length) (fun pre => kyCells pre) (fun _ _ => True)) _) (ownFrom_below (Nat.le_refl _) (by simp; omega)))
    (fun _ _ _ _ _ hs _ _ => hs)
    ⟨⟨_, bO.alloc _, World.ownsRow_nil _ _ _ _, trivial⟩, hB0⟩
    (fun x => { tmps := #[.pointer (some ⟨tb, 0, none⟩), undef, .pointer (some ⟨w.heap.size, 0, none⟩), .pointer (some ⟨x.b, 0, none⟩), .pointer (some ⟨tb, 0, none⟩), .bool false, .pointer (some ⟨tb, 0, none⟩), .pointer (some ⟨tb, 0, none⟩), .pointer (some ⟨tb, 0, none⟩), .pointer t.adr, .func (.func 42) #[] #[.pointer (some ⟨w.heap.size + 1, 0, none⟩)], .pointer (some ⟨x.b, 0, none⟩), undef, undef, undef, undef, undef, undef, undef, undef], defers := [] }) ?assign ?body ?done ?stop
  case assign =>
    intro l x W K hK
    gi_wp2
    exact hK
  case body =>
    rintro l pre x W ⟨⟨v, hv, hrow, -⟩, hB⟩ hlt
    have hc := hv.cell
    have hf0 := hv.frozen
    have hx : W.cell? ⟨x.b, 0, none⟩ = some (.int .i64 x.k) := (hB.cell (p := ⟨x.b, 0, none⟩) x.lt).trans x.hc
    have hmx : Try.prog.follows .mixedOrders = true := by kernel_rfl
    have hplen : pre.length < 1000000 := by omega
    have hv' : Boxed W.drew w.heap.size 22 v := hv
    have hrow' : W.drew.ownsRow w.heap.size 3 1 v pre.length (kyCells pre) := hrow
    have hB' : Below w.heap.size w W.drew := hB.drew
    have hK0 : KeepsFrom ((w.alloc (.cells #[.slice none 0 0] 22)).alloc (.cells #[.pointer t.adr] 76)).heap.size W W.drew := (KeepsOthers.drew W).from _
    have hBw : Below w.heap.size W W.drew := (Below.refl _ _).drew
    gi_wp2
    refine wpIn_region_any hmx (wpAnyIn_of_plain ?plain (fun _ _ _ h => h.1) (fun _ _ h => h.2) _ _ _ _ (?walk : wpAny _ _ _ (fun x a' w' => x = .normal ∧ _) _ _ _ _))
    case plain =>
      intro o ho
      simp only [List.mem_cons, List.not_mem_nil, or_false] at ho
      rcases ho with rfl | rfl | rfl | rfl | rfl | rfl | rfl | rfl
      all_goals (first | exact plain_move _ | exact plain_load _ _ | exact plain_nilCheck _ | exact plain_fieldAddr _ _ _ | exact plain_build _ _ | exact plain_buildSlice _ _ _ | exact plain_append _ _ | exact plain_store _ _ _)
    case walk =>
      have hc' : W.drew.cell? ⟨w.heap.size, 0, none⟩ = some v := hc
      have hf' : W.drew.frozen? ⟨w.heap.size, 0, none⟩ = false := hf0
      have hx' : W.drew.cell? ⟨x.b, 0, none⟩ = some (.int .i64 x.k) := hx
      change wpAny _ _ _ _ _ _ _ W.drew
      generalize W.drew = W2 at *
      clear hc hf0 hx hv hrow hB
      refine wpAny_take (i := 1) (v := ?tkv1) rfl (by kernel_rfl) (by kernel_rfl) (by kernel_rfl) (fun _ _ _ h => by cases h.1) (Or.inl ⟨by rfl, ?tky1⟩) ?tkr1
      case tky1 => (intro w; go_simp; try with_reducible rfl)
      refine wpAny_take (i := 2) (v := ?tkv2) rfl (by kernel_rfl) (by kernel_rfl) (by kernel_rfl) (fun _ _ _ h => by cases h.1) (Or.inl ⟨by rfl, ?tky2⟩) ?tkr2
      case tky2 => (intro w; go_simp; try with_reducible rfl)
      refine wpAny_take (i := 3) (v := ?tkv3) rfl (by kernel_rfl) (by kernel_rfl) (by kernel_rfl) (fun _ _ _ h => by cases h.1) (Or.inl ⟨by rfl, ?tky3⟩) ?tkr3
      case tky3 => (intro w; go_simp; try with_reducible rfl)
      refine wpAny_ready (rs := [0, 4]) (by kernel_rfl) (by simp) ?_
      refine AllReady.cons rfl (fun K hK => ?_) (AllReady.cons rfl (fun K hK => ?_) AllReady.nil)
      · go_simp
        refine hK _ _ ?_; clear hK K
        refine wpAny_ready (rs := [4]) (by kernel_rfl) (by simp) ?_
        refine AllReady.cons rfl (fun K hK => ?_) AllReady.nil
        go_simp
        refine hK _ _ ?_; clear hK K
        refine wpAny_seq_from 5 rfl rfl (by kernel_rfl) ?_
        go_wp2_with (at_builtin; refine wpList_append_own _ rfl _ _ 22 rfl w.heap.size 3 i0 (.int .i64 0) 1 8 Try.underlying22 hi hz0 hz1 hz2 rfl (by decide) _ _ _ rfl (hrow'.alloc _) ⟨W2.heap.size, 0, none⟩ 1 1 [.int .i64 x.k] rfl rfl (cell_one_new _ _ _) (by simp [Value.oneCell']) (by unfold maxLen; omega) (by omega) (by have := hB'.size; simp; omega) ?_; intro v' w1 hown' hgrow _; obtain ⟨g', cap', rfl⟩ := ownsRow_succ hown'; obtain ⟨hv1, hv2, hr2, hk2, hb2⟩ := hv'.appended (by decide) hrow' hB'.size (Nat.le_refl _) hown' hgrow; have hc1 := hv1.cell; have hf1 := hv1.frozen)
        exact ⟨(hK0.trans (hk2.from _)), hBw.trans hb2, ⟨_, hv2, by rw [kyCells_snoc]; simpa using hr2, trivial⟩, hB'.trans hb2⟩
      · go_simp
        refine hK _ _ ?_; clear hK K
        refine wpAny_ready (rs := [0, 5]) (by kernel_rfl) (by simp) ?_
        refine AllReady.cons rfl (fun K hK => ?_) (AllReady.cons rfl (fun K hK => ?_) AllReady.nil)
        · go_simp
          refine hK _ _ ?_; clear hK K
          refine wpAny_seq_from 5 rfl rfl (by kernel_rfl) ?_
          go_wp2_with (at_builtin; refine wpList_append_own _ rfl _ _ 22 rfl w.heap.size 3 i0 (.int .i64 0) 1 8 Try.underlying22 hi hz0 hz1 hz2 rfl (by decide) _ _ _ rfl (hrow'.alloc _) ⟨W2.heap.size, 0, none⟩ 1 1 [.int .i64 x.k] rfl rfl (cell_one_new _ _ _) (by simp [Value.oneCell']) (by unfold maxLen; omega) (by omega) (by have := hB'.size; simp; omega) ?_; intro v' w1 hown' hgrow _; obtain ⟨g', cap', rfl⟩ := ownsRow_succ hown'; obtain ⟨hv1, hv2, hr2, hk2, hb2⟩ := hv'.appended (by decide) hrow' hB'.size (Nat.le_refl _) hown' hgrow; have hc1 := hv1.cell; have hf1 := hv1.frozen)
          exact ⟨(hK0.trans (hk2.from _)), hBw.trans hb2, ⟨_, hv2, by rw [kyCells_snoc]; simpa using hr2, trivial⟩, hB'.trans hb2⟩
        · go_simp
          refine hK _ _ ?_; clear hK K
          have hc2 : (W2.alloc (.cells #[.int .i64 x.k] 3)).cell? ⟨w.heap.size, 0, none⟩ = some v := (hv'.alloc _).cell
          refine wpAny_ready (rs := [0]) (by kernel_rfl) (by simp) ?_
          refine AllReady.cons rfl (fun K hK => ?_) AllReady.nil
          go_simp
          refine hK _ _ ?_; clear hK K
          refine wpAny_seq_from 6 rfl rfl (by kernel_rfl) ?_
          (refine wpList_append_own _ rfl _ _ 22 rfl w.heap.size 3 i0 (.int .i64 0) 1 8 Try.underlying22 hi hz0 hz1 hz2 rfl (by decide) _ _ _ rfl (hrow'.alloc _) ⟨W2.heap.size, 0, none⟩ 1 1 [.int .i64 x.k] rfl rfl (cell_one_new _ _ _) (by simp [Value.oneCell']) (by unfold maxLen; omega) (by omega) (by have := hB'.size; simp; omega) ?_; intro v' w1 hown' hgrow _; obtain ⟨g', cap', rfl⟩ := ownsRow_succ hown'; obtain ⟨hv1, hv2, hr2, hk2, hb2⟩ := hv'.appended (by decide) hrow' hB'.size (Nat.le_refl _) hown' hgrow; have hc1 := hv1.cell; have hf1 := hv1.frozen)
          go_wp2
          exact ⟨(hK0.trans (hk2.from _)), hBw.trans hb2, ⟨_, hv2, by rw [kyCells_snoc]; simpa using hr2, trivial⟩, hB'.trans hb2⟩
  case done =>
    rintro D ys W hD rfl ⟨⟨v, hv, hrow, -⟩, hB⟩ hK
    have hc := hv.cell
    have hf0 := hv.frozen
    obtain ⟨a, k1, k2, rfl⟩ := ownsRow_slice hrow
    gi_wp2
    have hK2 : (W.setCell ⟨w.heap.size, 0, none⟩ (.slice a k1 k2)).heap[D]? = some (.deferred (some [])) := (KeepsOthers.setCell W ⟨w.heap.size, 0, none⟩ (.slice a k1 k2)).same D _ hK rfl
    refine ⟨by simp, .inl ⟨_, _, rfl, run_takeDeferred hK2, ?_⟩⟩
    have hcell : ((W.setCell ⟨w.heap.size, 0, none⟩ (.slice a k1 k2)).putObj D (.deferred none)).cell? ⟨w.heap.size, 0, none⟩ = some (.slice a k1 k2) := by
      refine cell_kept (World.cell?_setCell_same' _ _ _ (by rw [hc]; rfl)) (grownBy_putObj' _ D (.deferred none)) (fun r e => by cases e; exact ⟨_, hK2, rfl⟩)
    have hrow2 := ownsRow_putObj (hrow.kept (grownBy_setCell' W w.heap.size (.slice a k1 k2)) (.inr (hv.not_row (by decide) hrow).symm)) (.deferred none) hK2 rfl
    have hB2 : Below w.heap.size w ((W.setCell ⟨w.heap.size, 0, none⟩ (.slice a k1 k2)).putObj D (.deferred none)) :=
      (hB.setCell (p := ⟨w.heap.size, 0, none⟩) (Nat.le_refl _) _).trans (belowK_b (w := w) (Nat.le_refl _) _ D _ _ (by simp at hD; omega) hK2 rfl rfl)
    refine ⟨.slice a k1 k2, ?_, _, rfl, by rw [ris_len, kyCells_ris] at hrow2; exact hrow2, hB2⟩
    simp [results, Try.f20, hcell, go_sem]
  case stop =>
    rintro D c pre W _ _ h _
    exact h.elim

theorem keysS_any (tb : Nat) (t : Tr) (m : Int) (w : World) (h : IsTreap 84 78 w tb t m) (ht : t.size < 1000000) :
    Calls Try.prog 20 #[.pointer (some ⟨tb, 0, none⟩)] w fun e w' => ∃ v, e = .returned v ∧ w'.ownsRow w.heap.size 3 1 v t.size (t.ins.map fun e => .int .i64 e.1) ∧ Adds w w' :=
  (callsIn_wide.1 (keysS_in Fence.wide rfl 3 trivial trivial trivial trivial rfl (by omega) tb t m w h ht)).mono fun _ _ ⟨v, he, h1, h2⟩ =>
    ⟨v, he, h1, (Only.of_below h2).mono (fun _ hk h => absurd hk (Nat.not_lt.2 h))⟩
end Go.Proofs.Ytkjehmbaolhmnaa

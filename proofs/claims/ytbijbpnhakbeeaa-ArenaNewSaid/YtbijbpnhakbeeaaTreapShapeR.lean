/- Package treap at dustpan/api.Run: the walk from the root on, and Shape. By an AI agent. -/
import Derived.RangeFuncKeeps
import Derived.RangeFuncBound
import Derived.RangeFuncLeaves
import Derived.RangeFuncBox
import Derived.RangeFuncCalls
import Derived.Shelf.Abstract
import Derived.Shelf.RegionOpen
import Derived.OwnWalkIn
import Derived.TacticsInMore
import Derived.LoopNIn
import Derived.LoopIn
import Derived.Maps.AppendAt
import Derived.Test.YtbijbpnhakbeeaaTreeWalk2
import Derived.Test.YtbijbpnhakbeeaaRegIn
namespace Go.Proofs.Ytbijbpnhakbeeaa
open Go.RowKit Go.Shelf

attribute [local go_sem] Oper.semAt_some

set_option maxRecDepth 100000 in
set_option maxHeartbeats 2000000 in
theorem belowR_in (F : Fence) (hd : F.depth = none) (hf : F.fn 91) (hro : F.round = none) (l n₀ N : Nat) (w0 : World) (J Jx : List (Nd w0) → World → Prop)
    (hY : ∀ m pre (x : Nd w0) W, J pre W → pre.length < N → YieldAt F m Try.prog l #[.pointer (some ⟨x.b, 0, none⟩), .int .i64 x.dep] W fun e W' =>
      (e = .returned (.bool true) ∧ J (pre ++ [x]) W' ∧ Below n₀ W W') ∨ (e = .returned (.bool false) ∧ Jx (pre ++ [x]) W')) (t : Tr) :
    ∀ (h : IsTr2 125 w0 t) (dep n : Nat) (pre : List (Nd w0)) (W : World), w0.heap.size ≤ n₀ → Below n₀ w0 W → dep + t.size < 1000000 → J pre W → pre.length + t.size ≤ N →
      CallsIn F n Try.prog 91 #[.pointer t.adr, .int .i64 dep, .func (.yield l) #[] #[]] W fun e W' =>
        (e = .returned (.bool true) ∧ J (pre ++ nds2 t h dep) W' ∧ Below n₀ W W') ∨ (e = .returned (.bool false) ∧ ∃ q, q <+: nds2 t h dep ∧ Jx (pre ++ q) W') := by
  induction t with
  | nil =>
    intro h dep n pre W _ _ _ hJ _
    rw [show Tr.nil.adr = none from rfl]
    refine callsIn_of_wp Try.func91 rfl hf ?_ hro
    simp only [Try.ntmps91, List.size_toArray, List.length_cons, List.length_nil, Nat.reduceAdd, Nat.reduceSub, Array.replicate_succ, Array.replicate_zero, List.push_toArray, List.append_toArray, List.nil_append, List.cons_append]
    gi_wp2
    refine ⟨fun _ h => (by cases h), ?_⟩
    gi_wp2
    all_goals (first
      | (exfalso; rename_i hu _; simp [undef] at hu; done)
      | (go_ret; exact .inl ⟨rfl, by simpa [nds2] using hJ, Below.refl _ _⟩))
  | node b k d v tl tr ihl ihr =>
    intro h dep n pre W hn₀ hW hdep hJ hN
    have hdd : ∀ k : Nat, (F.depth.isSome = true → 1 ≤ k) := fun k h => by rw [hd] at h; cases h
    have hb : b < n₀ := Nat.lt_of_lt_of_le h.1.lt hn₀
    have hW0 : ∀ W', Below n₀ w0 W' → W'.cell? ⟨b, 4, none⟩ = some (.pointer tl.adr) ∧ W'.cell? ⟨b, 5, none⟩ = some (.pointer tr.adr) := fun W' hw =>
      ⟨(hw.cell (p := ⟨b, 4, none⟩) hb).trans (h.1.cell 4), (hw.cell (p := ⟨b, 5, none⟩) hb).trans (h.1.cell 5)⟩
    simp only [Tr.size] at hdep hN
    have hl := nds2_len tl h.2.1 (dep + 1)
    have hdz : wrap64 ((dep : Int) + 1) = ((dep + 1 : Nat) : Int) := by simp [wrap64]; omega
    -- each callee's word, with what the walk wants next beside it
    have ih2 : ∀ W2, Below n₀ w0 W2 → J (pre ++ [⟨b, k, dep, h.1.cell 0⟩] ++ nds2 tl h.2.1 (dep + 1)) W2 → CallsIn F (n - 1) Try.prog 91 #[.pointer tr.adr, .int .i64 (wrap64 ((dep : Int) + 1)), .func (.yield l) #[] #[]] W2 fun e W' =>
        (e = .returned (.bool true) ∧ J (pre ++ nds2 (.node b k d v tl tr) h dep) W' ∧ Below n₀ W2 W') ∨ (e = .returned (.bool false) ∧ ∃ q, q <+: nds2 (.node b k d v tl tr) h dep ∧ Jx (pre ++ q) W') := fun W2 hw hj => by
      rw [hdz]
      refine (ihr h.2.2 (dep + 1) (n - 1) _ W2 hn₀ hw (by omega) hj (by simp [hl]; omega)).mono ?_
      rintro e W' (⟨he, hj', hb'⟩ | ⟨he, q, hq, hx⟩)
      · exact .inl ⟨he, by simpa [nds2] using hj', hb'⟩
      · obtain ⟨r, hr⟩ := hq
        exact .inr ⟨he, ⟨b, k, dep, h.1.cell 0⟩ :: (nds2 tl h.2.1 (dep + 1) ++ q), ⟨r, by simp [nds2, ← hr]⟩, by simpa using hx⟩
    have ih1 : ∀ W1, Below n₀ w0 W1 → J (pre ++ [⟨b, k, dep, h.1.cell 0⟩]) W1 → CallsIn F (n - 1) Try.prog 91 #[.pointer tl.adr, .int .i64 (wrap64 ((dep : Int) + 1)), .func (.yield l) #[] #[]] W1 fun e W2 =>
        (e = .returned (.bool true) ∧ Below n₀ W1 W2 ∧ W2.cell? ⟨b, 5, none⟩ = some (.pointer tr.adr) ∧ CallsIn F (n - 1) Try.prog 91 #[.pointer tr.adr, .int .i64 (wrap64 ((dep : Int) + 1)), .func (.yield l) #[] #[]] W2 fun e W' =>
          (e = .returned (.bool true) ∧ J (pre ++ nds2 (.node b k d v tl tr) h dep) W' ∧ Below n₀ W2 W') ∨ (e = .returned (.bool false) ∧ ∃ q, q <+: nds2 (.node b k d v tl tr) h dep ∧ Jx (pre ++ q) W')) ∨
        (e = .returned (.bool false) ∧ ∃ q, q <+: nds2 (.node b k d v tl tr) h dep ∧ Jx (pre ++ q) W2) := fun W1 hw hj => by
      rw [hdz] at ih2 ⊢
      refine (ihl h.2.1 (dep + 1) (n - 1) _ W1 hn₀ hw (by omega) hj (by simp; omega)).mono ?_
      rintro e W' (⟨he, hj', hb'⟩ | ⟨he, q, hq, hx⟩)
      · exact .inl ⟨he, hb', (hW0 _ (hw.trans hb')).2, ih2 _ (hw.trans hb') hj'⟩
      · obtain ⟨r, hr⟩ := hq
        exact .inr ⟨he, ⟨b, k, dep, h.1.cell 0⟩ :: q, ⟨r ++ nds2 tr h.2.2 (dep + 1), by simp [nds2, ← hr]⟩, by simpa using hx⟩
    have hy : YieldAt F (n - 1) Try.prog l #[.pointer (some ⟨b, 0, none⟩), .int .i64 dep] W fun e W1 =>
        (e = .returned (.bool true) ∧ Below n₀ W W1 ∧ W1.cell? ⟨b, 4, none⟩ = some (.pointer tl.adr) ∧ CallsIn F (n - 1) Try.prog 91 #[.pointer tl.adr, .int .i64 (wrap64 ((dep : Int) + 1)), .func (.yield l) #[] #[]] W1 fun e W2 =>
          (e = .returned (.bool true) ∧ Below n₀ W1 W2 ∧ W2.cell? ⟨b, 5, none⟩ = some (.pointer tr.adr) ∧ CallsIn F (n - 1) Try.prog 91 #[.pointer tr.adr, .int .i64 (wrap64 ((dep : Int) + 1)), .func (.yield l) #[] #[]] W2 fun e W' =>
            (e = .returned (.bool true) ∧ J (pre ++ nds2 (.node b k d v tl tr) h dep) W' ∧ Below n₀ W2 W') ∨ (e = .returned (.bool false) ∧ ∃ q, q <+: nds2 (.node b k d v tl tr) h dep ∧ Jx (pre ++ q) W')) ∨
          (e = .returned (.bool false) ∧ ∃ q, q <+: nds2 (.node b k d v tl tr) h dep ∧ Jx (pre ++ q) W2)) ∨ (e = .returned (.bool false) ∧ ∃ q, q <+: nds2 (.node b k d v tl tr) h dep ∧ Jx (pre ++ q) W1) := by
      refine YieldAt.mono (hY (n - 1) pre ⟨b, k, dep, h.1.cell 0⟩ W hJ (by omega)) fun e W1 hh => hh.elim (fun ⟨he, hj, hb1⟩ => ?_) (fun ⟨he, hx⟩ => ?_)
      · exact .inl ⟨he, hb1, (hW0 _ (hW.trans hb1)).1, ih1 W1 (hW.trans hb1) hj⟩
      · exact .inr ⟨he, [⟨b, k, dep, h.1.cell 0⟩], ⟨nds2 tl h.2.1 (dep + 1) ++ nds2 tr h.2.2 (dep + 1), by simp [nds2]⟩, hx⟩
    rw [show (Tr.node b k d v tl tr).adr = some ⟨b, 0, none⟩ from rfl]
    obtain ⟨L, hL⟩ : ∃ L, L = nds2 (.node b k d v tl tr) h dep := ⟨_, rfl⟩
    rw [← hL] at hy ⊢
    clear hL hl hdz ih1 ih2 ihl ihr hY hJ hN hdep hW hW0 h hb hn₀
    obtain ⟨fn, tmps, assign, body, hy, hR⟩ := hy
    refine callsIn_of_wp Try.func91 rfl hf ?_ hro
    simp only [Try.ntmps91, List.size_toArray, List.length_cons, List.length_nil, Nat.reduceAdd, Nat.reduceSub, Array.replicate_succ, Array.replicate_zero, List.push_toArray, List.append_toArray, List.nil_append, List.cons_append]
    gi_wp2_with (first
      | ((try refine ⟨hdd _, ?_⟩); refine hR.mono ?_; clear hR; rintro e W1 (⟨rfl, hb1, c3, ih1⟩ | ⟨rfl, q, hq, hx1⟩))
      | ((try refine ⟨hdd _, ?_⟩); gi_at_call 91; refine ih1.mono ?_; clear ih1; rintro e W2 (⟨rfl, hb2, c4, ih2⟩ | ⟨rfl, q, hq, hx2⟩))
      | ((try refine ⟨hdd _, ?_⟩); gi_at_call 91; refine ih2.mono ?_; clear ih2; rintro e W3 (⟨rfl, hJ3, hb3⟩ | ⟨rfl, q, hq, hx3⟩)))
    · go_ret
      exact .inl ⟨rfl, hJ3, (hb1.trans hb2).trans hb3⟩
    · go_ret
      exact .inr ⟨rfl, q, hq, hx3⟩
    · go_ret
      exact .inr ⟨rfl, q, hq, hx2⟩
    · go_ret
      exact .inr ⟨rfl, q, hq, hx1⟩

set_option maxHeartbeats 1000000 in
theorem down1R_in (F : Fence) (hd : F.depth = none) (n : Nat) (hf : F.fn 90) (hf2 : F.fn 91) (hro : F.round = none) (l Bt n₀ : Nat) (w0 : World) (t : Tr) (h : IsTr2 125 w0 t) (ht : t.size < 1000000) (hn₀ : w0.heap.size ≤ n₀) (J Jx : List (Nd w0) → World → Prop)
    (hY : ∀ pre (x : Nd w0) W, J pre W → pre.length < t.size → YieldAt F (n - 1) Try.prog l #[.pointer (some ⟨x.b, 0, none⟩), .int .i64 x.dep] W fun e W' =>
      (e = .returned (.bool true) ∧ J (pre ++ [x]) W' ∧ Below n₀ W W') ∨ (e = .returned (.bool false) ∧ Jx (pre ++ [x]) W'))
    (W : World) (hW : Below n₀ w0 W) (hBt : W.cell? ⟨Bt, 0, none⟩ = some (.pointer t.adr)) (h0 : J [] W) :
    CallsIn F n Try.prog 90 #[.func (.yield l) #[] #[], .pointer (some ⟨Bt, 0, none⟩)] W fun e W' => (∃ v, e = .returned v) ∧
      ((∃ ys, ys = nds2 t h 0 ∧ J ys W') ∨ (∃ pre, pre <+: nds2 t h 0 ∧ Jx pre W')) := by
  have hdd : ∀ k : Nat, (F.depth.isSome = true → 1 ≤ k) := fun k h => by rw [hd] at h; cases h
  have hp := belowR_in F hd hf2 hro l n₀ t.size w0 J Jx (fun m pre x W hj hl => yieldAt_anyDepth hd m (hY pre x W hj hl)) t h 0 (n - 1) [] W hn₀ hW (by omega) h0 (by simp)
  obtain ⟨L, hL⟩ : ∃ L, L = nds2 t h 0 := ⟨_, rfl⟩
  rw [← hL] at hp ⊢
  clear hL
  generalize t.adr = a at *
  refine callsIn_of_wp Try.func90 rfl hf ?_ hro
  simp only [Try.ntmps90, List.size_toArray, List.length_cons, List.length_nil, Nat.reduceAdd, Nat.reduceSub, Array.replicate_succ, Array.replicate_zero, List.push_toArray, List.append_toArray, List.nil_append, List.cons_append]
  gi_wp2_with ((try refine ⟨hdd _, ?_⟩); gi_at_call 91; refine hp.mono ?_; clear hp; rintro e W1 (⟨rfl, hJ1, _⟩ | ⟨rfl, q, hq, hx⟩))
  · go_end0
    exact ⟨⟨_, rfl⟩, .inl ⟨_, rfl, by simpa using hJ1⟩⟩
  · go_end0
    exact ⟨⟨_, rfl⟩, .inr ⟨q, hq, by simpa using hx⟩⟩

set_option maxHeartbeats 1000000 in
theorem downR_in (F : Fence) (n : Nat) (hf : F.fn 75) (hro : F.round = none) (p0 : Option Addr) (w : World) :
    CallsIn F n Try.prog 75 #[.pointer p0] w fun e w' => e = .returned (.func (.func 90) #[] #[.pointer (some ⟨w.heap.size, 0, none⟩)]) ∧ w' = w.alloc (.cells #[.pointer p0] 120) := by
  refine callsIn_of_wp Try.func75 rfl hf ?_ hro
  simp only [Try.ntmps75, List.size_toArray, List.length_cons, List.length_nil, Nat.reduceAdd, Nat.reduceSub, Array.replicate_succ, Array.replicate_zero, List.push_toArray, List.append_toArray, List.nil_append, List.cons_append]
  gi_wp2
  go_ret
  exact ⟨rfl, rfl⟩

theorem downR_stops (F : Fence) (hd : F.depth = none) (n : Nat) (hf : F.fn 90) (hf2 : F.fn 91) (hro : F.round = none) (Bt n₀ : Nat) (w0 : World) (t : Tr) (h : IsTr2 125 w0 t) (ht : t.size < 1000000) (hn₀ : w0.heap.size ≤ n₀)
    (w : World) (hW0 : Below n₀ w0 w) (hBt : Bt < w.heap.size) (hnw : n₀ ≤ w.heap.size) (hc : w.cell? ⟨Bt, 0, none⟩ = some (.pointer t.adr)) :
    SeqStopsK F n Try.prog 90 #[.pointer (some ⟨Bt, 0, none⟩)] (fun x : Nd w0 => #[.pointer (some ⟨x.b, 0, none⟩), .int .i64 x.dep]) (Below n₀) (fun ys => ys = nds2 t h 0) (fun pre => pre <+: nds2 t h 0) t.size w := fun l J Jx W hW _ _ hY h0 =>
  down1R_in F hd n hf hf2 hro l Bt n₀ w0 t h ht hn₀ J Jx hY W (hW0.trans (hW.mono hnw)) ((hW.cell (p := ⟨Bt, 0, none⟩) hBt).trans hc) h0

theorem infoNodeR : (Try.prog.info? 72).map (fun i => (i.zero, i.size, i.bytes)) = some (some (.agg #[.int .i64 0, .int .i64 0]), 2, 16) := by kernel_rfl

set_option maxRecDepth 100000 in
set_option maxHeartbeats 4000000 in
theorem shapeR_in (F : Fence) (hd : F.depth = none) (n : Nat) (hf : F.fn 56) (hf1 : F.fn 75) (hf2 : F.fn 90) (hf3 : F.fn 91) (hro : F.round = none) (hn : 3 ≤ n)
    (tb : Nat) (t : Tr) (m : Int) (w : World) (h : IsTreap2 125 122 w tb t m) (ht : t.size < 1000000) :
    CallsIn F n Try.prog 56 #[.pointer (some ⟨tb, 0, none⟩)] w fun e w' => ∃ v, e = .returned v ∧ w'.ownsRow w.heap.size 72 2 v t.size (shCells (t.shape 0)) ∧ Below w.heap.size w w' := by
  have h1 : 1 ≤ n := by omega
  obtain ⟨i0, hi, hz0, hz1, hz2⟩ := info_parts infoNodeR
  obtain ⟨c0, c1, _, _⟩ := (h.alloc (.cells #[.slice none 0 0] 54)).cells
  refine callsIn_of_wp_marks Try.func56 rfl hf ?_ hro
  simp only [Try.ntmps56, List.size_toArray, List.length_cons, List.length_nil, Nat.reduceAdd, Nat.reduceSub, Array.replicate_succ, Array.replicate_zero, List.push_toArray, List.append_toArray, List.nil_append, List.cons_append]
  gi_wp2_with (gi_at_call 75; refine (downR_in F (n - 1) hf1 hro _ _).mono ?_; rintro e w' ⟨rfl, rfl⟩)
  have bO := Boxed.new w 54 (.slice none 0 0)
  have bN := Boxed.new (w.alloc (.cells #[.slice none 0 0] 54)) 120 (.pointer t.adr)
  rw [World.size_alloc] at bN
  have hB0 : Below w.heap.size w ((w.alloc (.cells #[.slice none 0 0] 54)).alloc (.cells #[.pointer t.adr] 120)) := ((Below.refl _ w).alloc (Nat.le_refl _) _).alloc (by simp) _
  refine wpIn_rangeFunc_ownG hro h1 (gf := 90) (lb := #[.pointer (some ⟨w.heap.size + 1, 0, none⟩)]) rfl hf2 (enters_of Try.func90 (by kernel_rfl) rfl)
    (downR_stops F hd (n - 1) hf2 hf3 hro (w.heap.size + 1) w.heap.size w t h.tr ht (Nat.le_refl _) _ hB0 (by simp) (by simp; omega) bN.cell) belowK_t (belowK_b (by simp; omega)) (Below.refl _ _) (fun _ => rfl)
    (fun pre W => (∃ v, Boxed W w.heap.size 54 v ∧ W.ownsRow w.heap.size 72 2 v pre.length (ndCells pre) ∧ True) ∧ Below w.heap.size w W)
    (fun _ _ _ => False)
    (OwnFrom.and (Own.from (holdsRow_own w.heap.size w.heap.size 54 72 2 (fun pre : List (Nd w) => pre.length) (fun pre => ndCells pre) (fun _ _ => True)) _) (ownFrom_below (Nat.le_refl _) (by simp; omega)))
    (fun _ _ _ _ _ hs _ _ => hs)
    ⟨⟨_, bO.alloc _, World.ownsRow_nil _ _ _ _, trivial⟩, hB0⟩
    (fun x => { tmps := #[.pointer (some ⟨tb, 0, none⟩), undef, .pointer (some ⟨w.heap.size, 0, none⟩), .pointer (some ⟨x.b, 0, none⟩), .int .i64 x.dep, .pointer (some ⟨tb, 0, none⟩), .bool false, .pointer (some ⟨tb, 0, none⟩), .pointer (some ⟨tb, 0, none⟩), .pointer (some ⟨tb, 0, none⟩), .pointer t.adr, .func (.func 90) #[] #[.pointer (some ⟨w.heap.size + 1, 0, none⟩)], .pointer (some ⟨x.b, 0, none⟩), .int .i64 x.dep, undef, undef, undef, undef, undef, undef, undef, undef, undef, undef], defers := [] }) ?assign ?body ?done ?stop
  case assign =>
    intro l x W K hK
    gi_wp2
    exact hK
  case body =>
    rintro l pre x W ⟨⟨v, hv, hrow, -⟩, hB⟩ hlt
    have hc := hv.cell
    have hf0 := hv.frozen
    have hx : W.cell? ⟨x.b, 0, none⟩ = some (.int .i64 x.k) := (hB.cell (p := ⟨x.b, 0, none⟩) x.lt).trans x.hc
    have hmx : Try.prog.follows .mixedOrders = true := by kernel_rfl
    have hplen : pre.length < 1000000 := by omega
    have hv' : Boxed W.drew w.heap.size 54 v := hv
    have hrow' : W.drew.ownsRow w.heap.size 72 2 v pre.length (ndCells pre) := hrow
    have hB' : Below w.heap.size w W.drew := hB.drew
    have hK0 : KeepsFrom ((w.alloc (.cells #[.slice none 0 0] 54)).alloc (.cells #[.pointer t.adr] 120)).heap.size W W.drew := (KeepsOthers.drew W).from _
    have hBw : Below w.heap.size W W.drew := (Below.refl _ _).drew
    gi_wp2
    refine wpIn_region_any hmx (wpAnyIn_of_plain ?plain (fun _ _ _ h => h.1) (fun _ _ h => h.2) _ _ _ _ (?walk : wpAny _ _ _ (fun x a' w' => x = .normal ∧ _) _ _ _ _))
    case plain =>
      intro o ho
      simp only [List.mem_cons, List.not_mem_nil, or_false] at ho
      rcases ho with rfl | rfl | rfl | rfl | rfl | rfl | rfl | rfl | rfl | rfl
      all_goals (first | exact plain_move _ | exact plain_load _ _ | exact plain_nilCheck _ | exact plain_fieldAddr _ _ _ | exact plain_build _ _ | exact plain_buildSlice _ _ _ | exact plain_append _ _ | exact plain_store _ _ _)
    case walk =>
      have hc' : W.drew.cell? ⟨w.heap.size, 0, none⟩ = some v := hc
      have hf' : W.drew.frozen? ⟨w.heap.size, 0, none⟩ = false := hf0
      have hx' : W.drew.cell? ⟨x.b, 0, none⟩ = some (.int .i64 x.k) := hx
      change wpAny _ _ _ _ _ _ _ W.drew
      generalize W.drew = W2 at *
      clear hc hf0 hx hv hrow hB
      refine wpAny_take (i := 1) (v := ?tkv1) rfl (by kernel_rfl) (by kernel_rfl) (by kernel_rfl) (fun _ _ _ h => by cases h.1) (Or.inl ⟨by rfl, ?tky1⟩) ?tkr1
      case tky1 => (intro w; go_simp; try with_reducible rfl)
      refine wpAny_take (i := 2) (v := ?tkv2) rfl (by kernel_rfl) (by kernel_rfl) (by kernel_rfl) (fun _ _ _ h => by cases h.1) (Or.inl ⟨by rfl, ?tky2⟩) ?tkr2
      case tky2 => (intro w; go_simp; try with_reducible rfl)
      refine wpAny_take (i := 3) (v := ?tkv3) rfl (by kernel_rfl) (by kernel_rfl) (by kernel_rfl) (fun _ _ _ h => by cases h.1) (Or.inl ⟨by rfl, ?tky3⟩) ?tkr3
      case tky3 => (intro w; go_simp; try with_reducible rfl)
      refine wpAny_take (i := 5) (v := ?tkv5) rfl (by kernel_rfl) (by kernel_rfl) (by kernel_rfl) (fun _ _ _ h => by cases h.1) (Or.inl ⟨by rfl, ?tky5⟩) ?tkr5
      case tky5 => (intro w; go_simp; try with_reducible rfl)
      refine wpAny_ready (rs := [0, 4]) (by kernel_rfl) (by simp) ?_
      refine AllReady.cons rfl (fun K hK => ?_) (AllReady.cons rfl (fun K hK => ?_) AllReady.nil)
      · go_simp
        refine hK _ _ ?_; clear hK K
        refine wpAny_ready (rs := [4]) (by kernel_rfl) (by simp) ?_
        refine AllReady.cons rfl (fun K hK => ?_) AllReady.nil
        go_simp
        refine hK _ _ ?_; clear hK K
        refine wpAny_take (i := 6) (v := ?tkv6a) rfl (by kernel_rfl) (by kernel_rfl) (by kernel_rfl) (fun _ _ _ h => by cases h.1) (Or.inl ⟨by rfl, ?tky6a⟩) ?tkr6a
        case tky6a => (intro w; go_simp; try with_reducible rfl)
        refine wpAny_seq_from 7 rfl rfl (by kernel_rfl) ?_
        go_wp2_with (at_builtin; refine wpList_append_own _ rfl _ _ 54 rfl w.heap.size 72 i0 (.agg #[.int .i64 0, .int .i64 0]) 2 16 Try.underlying54 hi hz0 hz1 hz2 rfl (by decide) _ _ _ rfl (hrow'.alloc _) ⟨W2.heap.size, 0, none⟩ 1 1 [.int .i64 x.k, .int .i64 x.dep] rfl rfl (news_two _ _ _ _) (by simp [Value.oneCell']) (by unfold maxLen; omega) (by omega) (by have := hB'.size; simp; omega) ?_; intro v' w1 hown' hgrow _; obtain ⟨g', cap', rfl⟩ := ownsRow_succ hown'; obtain ⟨hv1, hv2, hr2, hk2, hb2⟩ := hv'.appended (by decide) hrow' hB'.size (Nat.le_refl _) hown' hgrow; have hc1 := hv1.cell; have hf1 := hv1.frozen)
        exact ⟨(hK0.trans (hk2.from _)), hBw.trans hb2, ⟨_, hv2, by rw [ndCells_snoc]; simpa using hr2, trivial⟩, hB'.trans hb2⟩
      · go_simp
        refine hK _ _ ?_; clear hK K
        refine wpAny_take (i := 6) (v := ?tkv6b) rfl (by kernel_rfl) (by kernel_rfl) (by kernel_rfl) (fun _ _ _ h => by cases h.1) (Or.inl ⟨by rfl, ?tky6b⟩) ?tkr6b
        case tky6b => (intro w; go_simp; try with_reducible rfl)
        refine wpAny_ready (rs := [0, 7]) (by kernel_rfl) (by simp) ?_
        refine AllReady.cons rfl (fun K hK => ?_) (AllReady.cons rfl (fun K hK => ?_) AllReady.nil)
        · go_simp
          refine hK _ _ ?_; clear hK K
          refine wpAny_seq_from 7 rfl rfl (by kernel_rfl) ?_
          go_wp2_with (at_builtin; refine wpList_append_own _ rfl _ _ 54 rfl w.heap.size 72 i0 (.agg #[.int .i64 0, .int .i64 0]) 2 16 Try.underlying54 hi hz0 hz1 hz2 rfl (by decide) _ _ _ rfl (hrow'.alloc _) ⟨W2.heap.size, 0, none⟩ 1 1 [.int .i64 x.k, .int .i64 x.dep] rfl rfl (news_two _ _ _ _) (by simp [Value.oneCell']) (by unfold maxLen; omega) (by omega) (by have := hB'.size; simp; omega) ?_; intro v' w1 hown' hgrow _; obtain ⟨g', cap', rfl⟩ := ownsRow_succ hown'; obtain ⟨hv1, hv2, hr2, hk2, hb2⟩ := hv'.appended (by decide) hrow' hB'.size (Nat.le_refl _) hown' hgrow; have hc1 := hv1.cell; have hf1 := hv1.frozen)
          exact ⟨(hK0.trans (hk2.from _)), hBw.trans hb2, ⟨_, hv2, by rw [ndCells_snoc]; simpa using hr2, trivial⟩, hB'.trans hb2⟩
        · go_simp
          refine hK _ _ ?_; clear hK K
          have hc2 : (W2.alloc (.cells #[.int .i64 x.k, .int .i64 x.dep] 72)).cell? ⟨w.heap.size, 0, none⟩ = some v := (hv'.alloc _).cell
          refine wpAny_ready (rs := [0]) (by kernel_rfl) (by simp) ?_
          refine AllReady.cons rfl (fun K hK => ?_) AllReady.nil
          go_simp
          refine hK _ _ ?_; clear hK K
          refine wpAny_seq_from 8 rfl rfl (by kernel_rfl) ?_
          (refine wpList_append_own _ rfl _ _ 54 rfl w.heap.size 72 i0 (.agg #[.int .i64 0, .int .i64 0]) 2 16 Try.underlying54 hi hz0 hz1 hz2 rfl (by decide) _ _ _ rfl (hrow'.alloc _) ⟨W2.heap.size, 0, none⟩ 1 1 [.int .i64 x.k, .int .i64 x.dep] rfl rfl (news_two _ _ _ _) (by simp [Value.oneCell']) (by unfold maxLen; omega) (by omega) (by have := hB'.size; simp; omega) ?_; intro v' w1 hown' hgrow _; obtain ⟨g', cap', rfl⟩ := ownsRow_succ hown'; obtain ⟨hv1, hv2, hr2, hk2, hb2⟩ := hv'.appended (by decide) hrow' hB'.size (Nat.le_refl _) hown' hgrow; have hc1 := hv1.cell; have hf1 := hv1.frozen)
          go_wp2
          exact ⟨(hK0.trans (hk2.from _)), hBw.trans hb2, ⟨_, hv2, by rw [ndCells_snoc]; simpa using hr2, trivial⟩, hB'.trans hb2⟩
  case done =>
    rintro D ys W hD rfl ⟨⟨v, hv, hrow, -⟩, hB⟩ hK
    have hc := hv.cell
    have hf0 := hv.frozen
    obtain ⟨a, k1, k2, rfl⟩ := ownsRow_slice hrow
    gi_wp2
    have hK2 : (W.setCell ⟨w.heap.size, 0, none⟩ (.slice a k1 k2)).heap[D]? = some (.deferred (some [])) := (KeepsOthers.setCell W ⟨w.heap.size, 0, none⟩ (.slice a k1 k2)).same D _ hK rfl
    refine ⟨by simp, .inl ⟨_, _, rfl, run_takeDeferred hK2, ?_⟩⟩
    have hcell : ((W.setCell ⟨w.heap.size, 0, none⟩ (.slice a k1 k2)).putObj D (.deferred none)).cell? ⟨w.heap.size, 0, none⟩ = some (.slice a k1 k2) := by
      refine cell_kept (World.cell?_setCell_same' _ _ _ (by rw [hc]; rfl)) (grownBy_putObj' _ D (.deferred none)) (fun r e => by cases e; exact ⟨_, hK2, rfl⟩)
    have hrow2 := ownsRow_putObj (hrow.kept (grownBy_setCell' W w.heap.size (.slice a k1 k2)) (.inr (hv.not_row (by decide) hrow).symm)) (.deferred none) hK2 rfl
    have hB2 : Below w.heap.size w ((W.setCell ⟨w.heap.size, 0, none⟩ (.slice a k1 k2)).putObj D (.deferred none)) :=
      (hB.setCell (p := ⟨w.heap.size, 0, none⟩) (Nat.le_refl _) _).trans (belowK_b (w := w) (Nat.le_refl _) _ D _ _ (by simp at hD; omega) hK2 rfl rfl)
    refine ⟨.slice a k1 k2, ?_, _, rfl, by rw [nds2_len] at hrow2; rw [← nds2_shape t h.tr 0]; exact hrow2, hB2⟩
    simp [results, Try.f56, hcell, go_sem]
  case stop =>
    rintro D c pre W _ _ h _
    exact h.elim

theorem shapeR_any (tb : Nat) (t : Tr) (m : Int) (w : World) (h : IsTreap2 125 122 w tb t m) (ht : t.size < 1000000) :
    Calls Try.prog 56 #[.pointer (some ⟨tb, 0, none⟩)] w fun e w' => ∃ v, e = .returned v ∧ w'.ownsRow w.heap.size 72 2 v t.size (shCells (t.shape 0)) ∧ Adds w w' :=
  (callsIn_wide.1 (shapeR_in Fence.wide rfl 3 trivial trivial trivial trivial rfl (by omega) tb t m w h ht)).mono fun _ _ ⟨v, he, h1, h2⟩ =>
    ⟨v, he, h1, (Only.of_below h2).mono (fun _ hk h => absurd hk (Nat.not_lt.2 h))⟩
end Go.Proofs.Ytbijbpnhakbeeaa

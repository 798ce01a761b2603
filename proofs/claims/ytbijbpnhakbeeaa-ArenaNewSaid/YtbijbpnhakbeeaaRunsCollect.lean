/- slices.Collect over runs.near, at whatever state. By an AI agent. -/
import Derived.Test.YtbijbpnhakbeeaaRunsNear
namespace Go.Proofs.Ytbijbpnhakbeeaa
open Go.RowKit Go.Shelf

attribute [local go_sem] Oper.semAt_some

theorem near_stops (n rb Br Ba Be n₀ : Nat) (hn : 2 ≤ n) (lv : Value) (xs : List (Int × Int)) (P a b : Int) (hl : RunsOk P xs) (hP : 1 ≤ P ∧ P ≤ 4096) (w : World) (hn₀ : n₀ ≤ w.heap.size)
    (b1 : w.cell? ⟨Br, 0, none⟩ = some (.pointer (some ⟨rb, 0, none⟩))) (b2 : w.cell? ⟨Ba, 0, none⟩ = some (.int .i64 a)) (b3 : w.cell? ⟨Be, 0, none⟩ = some (.int .i64 b)) (c4 : w.cell? ⟨rb, 4, none⟩ = some lv)
    (hr : w.ownsRow 0 63 2 lv xs.length (shCells xs)) (hbe : Be < n₀) (hlv : ∀ g, some g = lv.ownBlock → g < n₀) :
    SeqStopsK Fence.wide n Try.prog 85 #[.pointer (some ⟨Br, 0, none⟩), .pointer (some ⟨Ba, 0, none⟩), .pointer (some ⟨Be, 0, none⟩)] (fun x : Int × Int => #[.agg #[.int .i64 x.1, .int .i64 x.2]]) (Below n₀)
      (fun ys => ys = nearL xs a b) (fun _ => True) xs.length w := fun l J Jx W hW hJ _ hY h0 =>
  near1_in n l rb Br Ba Be n₀ hn lv xs P a b hl hP J Jx hY W hJ ((hW.cell (p := ⟨Br, 0, none⟩) (cell_lt b1)).trans b1) ((hW.cell (p := ⟨Ba, 0, none⟩) (cell_lt b2)).trans b2) ((hW.cell (p := ⟨Be, 0, none⟩) (cell_lt b3)).trans b3)
    ((hW.cell (p := ⟨rb, 4, none⟩) (cell_lt c4)).trans c4) (row_only2 hr (Only.of_below hW) (fun g e e2 => by have := row_lt hr g e; omega)) (Nat.le_trans hn₀ hW.size) hbe hlv h0

theorem blk_ownF {B Bx : Nat} {c : Array Value} {t : TypeId} {X Y : World} {row : Option Nat} (h : Blk X Bx c t) (hg : X.grownBy Y row) (hr : ∀ r, row = some r → B ≤ r ∧ ∃ o : Obj, X.heap[r]? = some o ∧ o.isCells = false) : Blk Y Bx c t :=
  (hg.block Bx h.lt (fun e => by obtain ⟨_, o, ho, hc⟩ := hr Bx e.symm; rw [show X.heap[Bx]? = _ from h] at ho; cases ho; cases hc)).trans h

set_option maxRecDepth 100000 in
set_option maxHeartbeats 4000000 in
theorem appendNear_in (n rb Br Ba Be : Nat) (hn : 4 ≤ n) (lv : Value) (xs : List (Int × Int)) (P a b : Int) (hl : RunsOk P xs) (hP : 1 ≤ P ∧ P ≤ 4096) (w : World)
    (b1 : w.cell? ⟨Br, 0, none⟩ = some (.pointer (some ⟨rb, 0, none⟩))) (b2 : w.cell? ⟨Ba, 0, none⟩ = some (.int .i64 a)) (b3 : w.cell? ⟨Be, 0, none⟩ = some (.int .i64 b)) (c4 : w.cell? ⟨rb, 4, none⟩ = some lv)
    (hr : w.ownsRow 0 63 2 lv xs.length (shCells xs)) :
    CallsIn Fence.wide n Try.prog 84 #[.slice none 0 0, .func (.func 85) #[] #[.pointer (some ⟨Br, 0, none⟩), .pointer (some ⟨Ba, 0, none⟩), .pointer (some ⟨Be, 0, none⟩)]] w fun e w' =>
      ∃ v, e = .returned v ∧ w'.ownsRow w.heap.size 63 2 v (nearL xs a b).length (shCells (nearL xs a b)) ∧ Below w.heap.size w w' := by
  have h1 : 1 ≤ n := by omega
  have hlen : (xs.length : Int) ≤ 4096 := by have := hl.len (by omega); omega
  obtain ⟨i0, hi, hz0, hz1, hz2⟩ := info_parts infoRunI
  obtain ⟨SV, hSV⟩ : ∃ SV, Value.func (.func 85) #[] #[.pointer (some ⟨Br, 0, none⟩), .pointer (some ⟨Ba, 0, none⟩), .pointer (some ⟨Be, 0, none⟩)] = SV := ⟨_, rfl⟩
  rw [hSV]
  refine callsIn_of_wp_marks Try.func84 rfl trivial ?_ rfl
  simp only [Try.ntmps84, List.size_toArray, List.length_cons, List.length_nil, Nat.reduceAdd, Nat.reduceSub, Array.replicate_succ, Array.replicate_zero, List.push_toArray, List.append_toArray, List.nil_append, List.cons_append]
  gi_wp2
  have bO := Boxed.new w 49 (.slice none 0 0)
  have hA0 : Adds w (w.alloc (.cells #[.slice none 0 0] 49)) := (Only.refl _ w).alloc _
  have hB0 : Below w.heap.size w (w.alloc (.cells #[.slice none 0 0] 49)) := (Below.refl _ w).alloc (Nat.le_refl _) _
  have hst := near_stops (n - 1) rb Br Ba Be w.heap.size (by omega) lv xs P a b hl hP (w.alloc (.cells #[.slice none 0 0] 49)) (by simp) (cell_al b1 hA0) (cell_al b2 hA0) (cell_al b3 hA0) (cell_al c4 hA0) (row_only2 hr hA0 (fun _ _ h => h)) (cell_lt b3) (fun g e => row_lt hr g e)
  have hsz : (w.alloc (.cells #[.slice none 0 0] 49)).heap.size = w.heap.size + 1 := by simp
  generalize w.alloc (.cells #[.slice none 0 0] 49) = W0 at bO hA0 hB0 hst hsz ⊢
  refine wpIn_rangeFunc_ownH rfl h1 (gf := 85) (lb := #[.pointer (some ⟨Br, 0, none⟩), .pointer (some ⟨Ba, 0, none⟩), .pointer (some ⟨Be, 0, none⟩)]) (by rw [← hSV]; rfl) trivial (enters_of Try.func85 (by kernel_rfl) rfl)
    hst belowK_t (belowK_b (by omega)) (Below.refl _ _) (fun _ => rfl)
    (fun pre W => (∃ v, Boxed W w.heap.size 49 v ∧ W.ownsRow w.heap.size 63 2 v pre.length (shCells pre) ∧ True) ∧ Below w.heap.size w W)
    (fun _ _ _ => False)
    (OwnFrom.and (Own.from (holdsRow_own w.heap.size w.heap.size 49 63 2 (fun pre : List (Int × Int) => pre.length) (fun pre => shCells pre) (fun _ _ => True)) _) (ownFrom_below (Nat.le_refl _) (by omega)))
    (fun _ _ _ _ _ hs _ _ => hs)
    ⟨⟨_, bO, World.ownsRow_nil _ _ _ _, trivial⟩, hB0⟩
    (fun x a' W => ∃ Bx, w.heap.size < Bx ∧ Blk W Bx #[.int .i64 x.1, .int .i64 x.2] 63 ∧ a' = { tmps := #[.slice none 0 0, SV, .pointer (some ⟨w.heap.size, 0, none⟩), undef, .slice none 0 0, .pointer (some ⟨Bx, 0, none⟩), SV, .agg #[.int .i64 x.1, .int .i64 x.2], undef, undef, undef, undef, undef], defers := [] })
    (fun x a' _ X Y row hs hg hr => by obtain ⟨Bx, h1, h2, h3⟩ := hs; exact ⟨Bx, h1, blk_ownF h2 hg hr, h3⟩)
    ?assign ?body ?done ?stop
  case assign =>
    rintro l pre x W K ⟨⟨v, hv, hrow, -⟩, hB⟩ hK
    gi_wp2
    exact hK _ _ ((KeepsOthers.alloc _ _).from _) ((Below.refl _ W).alloc hB.size _) ⟨⟨v, hv.alloc _, hrow.alloc _, trivial⟩, hB.alloc hB.size _⟩ ⟨W.heap.size, hv.lt, Blk.new W _ _, rfl⟩
  case body =>
    rintro l pre x a' W hl' ⟨r, hr'⟩ ⟨⟨v, hv, hrow, -⟩, hB⟩ ⟨Bx, hBx, hbx, rfl⟩ hlt
    have hc := hv.cell
    have hf := hv.frozen
    have x0 := hbx.cell 0; have x1 := hbx.cell 1
    have hplen : pre.length < 1000000 := by omega
    gi_wp2_with (gi_at_builtin; refine wpListIn_append_own _ rfl _ _ 49 rfl w.heap.size 63 i0 (.agg #[.int .i64 0, .int .i64 0]) 2 16 Try.underlying49 hi hz0 hz1 hz2 rfl (by decide) _ _ _ rfl (hrow.alloc _) ⟨W.heap.size, 0, none⟩ 1 1 [.int .i64 x.1, .int .i64 x.2] rfl rfl (news_two _ _ _ _) (by simp [Value.oneCell']) (by unfold maxLen; omega) (by omega) (by have := hB.size; simp; omega) ?_; intro v' w1 hown' hgrow _; obtain ⟨g', cap', rfl⟩ := ownsRow_succ hown'; obtain ⟨hv1, hv2, hr2, hk2, hb2⟩ := hv.appended (by decide) hrow hB.size (Nat.le_refl _) hown' hgrow; have hc1 := hv1.cell; have hf1 := hv1.frozen)
    exact ⟨hk2.from _, hb2, ⟨_, hv2, by rw [shCells_append]; simpa [shCells] using hr2, trivial⟩, hB.trans hb2⟩
  case done =>
    rintro D ys W hD rfl ⟨⟨v, hv, hrow, -⟩, hB⟩ hK
    have hc := hv.cell
    gi_wp2
    refine ⟨by simp, .inl ⟨_, _, rfl, run_takeDeferred hK, ?_⟩⟩
    refine ⟨v, by simp [results, Try.f84, go_sem], v, rfl, ownsRow_putObj hrow (.deferred none) hK rfl, hB.trans (belowK_b (w := w) (Nat.le_refl _) W D _ _ (by omega) hK rfl rfl)⟩
  case stop =>
    rintro D c pre W _ _ h _
    exact h.elim

theorem near_any (rb : Nat) (a b : Int) (w : World) :
    Calls Try.prog 62 #[.pointer (some ⟨rb, 0, none⟩), .int .i64 a, .int .i64 b] w fun e w' => e = .returned (.func (.func 85) #[] #[.pointer (some ⟨w.heap.size, 0, none⟩), .pointer (some ⟨w.heap.size + 1, 0, none⟩), .pointer (some ⟨w.heap.size + 1 + 1, 0, none⟩)]) ∧
      w' = ((w.alloc (.cells #[.pointer (some ⟨rb, 0, none⟩)] 50)).alloc (.cells #[.int .i64 a] 3)).alloc (.cells #[.int .i64 b] 3) := by
  go_enter Try.func62, Try.ntmps62
  go_wp2
  go_ret
  exact ⟨rfl, rfl⟩
set_option maxHeartbeats 1000000 in
theorem collect_any (rb Br Ba Be : Nat) (lv : Value) (xs : List (Int × Int)) (P a b : Int) (hl : RunsOk P xs) (hP : 1 ≤ P ∧ P ≤ 4096) (w : World)
    (b1 : w.cell? ⟨Br, 0, none⟩ = some (.pointer (some ⟨rb, 0, none⟩))) (b2 : w.cell? ⟨Ba, 0, none⟩ = some (.int .i64 a)) (b3 : w.cell? ⟨Be, 0, none⟩ = some (.int .i64 b)) (c4 : w.cell? ⟨rb, 4, none⟩ = some lv)
    (hr : w.ownsRow 0 63 2 lv xs.length (shCells xs)) :
    Calls Try.prog 61 #[.func (.func 85) #[] #[.pointer (some ⟨Br, 0, none⟩), .pointer (some ⟨Ba, 0, none⟩), .pointer (some ⟨Be, 0, none⟩)]] w fun e w' =>
      ∃ v, e = .returned v ∧ w'.ownsRow w.heap.size 63 2 v (nearL xs a b).length (shCells (nearL xs a b)) ∧ Adds w w' := by
  have hc := callsIn_wide.1 (appendNear_in 4 rb Br Ba Be (by omega) lv xs P a b hl hP w b1 b2 b3 c4 hr)
  have HC := Lib.hid hc
  clear hc hr hl
  go_enter Try.func61, Try.ntmps61
  go_wp2_with (go_at_call 84; refine HC.out.mono ?_; rintro e w1 ⟨v, rfl, hrow, hb⟩)
  go_ret
  exact ⟨v, rfl, hrow, (Only.of_below hb).mono (fun _ hk h => absurd hk (Nat.not_lt.2 h))⟩
end Go.Proofs.Ytbijbpnhakbeeaa

/- TagRow: its walk. By an AI agent. -/
import Derived.Test.YtilmblgcncbgiaaLTagBack
import Derived.Test.YtilmblgcncbgiaaRow
import Derived.Maps.AppendAt
namespace Go.Proofs.Ytilmblgcncbgiaa
open Go.RowKit
namespace Tag
/-- The heads so far: each has its own tag. -/
def Heads (t : Int) (k : Nat) (xs : List Int) : Prop := xs.length = k + 1 ∧ ∀ j : Nat, j ≤ k → 0 ≤ xs.getD j 0 ∧ xs.getD j 0 < 18446744073709551616 ∧ tg (xs.getD j 0) = (t + j) % 4294967296
theorem Heads.more {t : Int} {k : Nat} {xs : List Int} (h : Heads t k xs) {p : Int} (p0 : -1 ≤ p) (p1 : p < 4096) : Heads t (k + 1) (xs ++ [nx (xs.getD k 0) p]) := by
  obtain ⟨hl, hx⟩ := h
  refine ⟨by simp [hl], fun j hj => ?_⟩
  by_cases e : j ≤ k
  · have : (xs ++ [nx (xs.getD k 0) p]).getD j 0 = xs.getD j 0 := by
      simp only [List.getD_eq_getElem?_getD]; rw [List.getElem?_append_left (by omega)]
    rw [this]; exact hx j e
  · have e' : j = k + 1 := by omega
    subst e'
    have : (xs ++ [nx (xs.getD k 0) p]).getD (k + 1) 0 = nx (xs.getD k 0) p := by
      simp only [List.getD_eq_getElem?_getD]
      rw [List.getElem?_append_right (by omega)]
      simp [hl]
    rw [this]
    obtain ⟨a, b, c⟩ := hx k (Nat.le_refl _)
    have hok : okB p = true := by unfold okB; simp; omega
    unfold nx mk
    rw [if_pos hok, c]
    unfold tg
    push_cast
    refine ⟨by omega, by omega, by omega⟩
theorem Heads.ne {t : Int} {k : Nat} {xs : List Int} (h : Heads t k xs) (hk : k < 200) {p : Int} (p0 : -1 ≤ p) (p1 : p < 4096) {j : Nat} (hj : j ≤ k) : (xs.getD j 0 == nx (xs.getD k 0) p) = false := by
  obtain ⟨a, b, c⟩ := h.2 k (Nat.le_refl _)
  obtain ⟨a', b', c'⟩ := h.2 j hj
  have hok : okB p = true := by unfold okB; simp; omega
  rw [beq_eq_false_iff_ne]
  intro e
  have e2 : tg (nx (xs.getD k 0) p) = (t + j) % 4294967296 := by rw [← e]; exact c'
  unfold nx mk at e2
  rw [if_pos hok, c] at e2
  unfold tg at e2
  omega
end Tag
theorem ownsRow_one (w : World) (x : Value) (e : TypeId) : (w.alloc (.cells #[x] e)).ownsRow w.heap.size e 1 (.slice (some ⟨w.heap.size, 0, none⟩) 1 1) 1 [x] :=
  ⟨rfl, .inr ⟨w.heap.size, 1, #[x], rfl, Nat.le_refl _, by show (w.heap.push _)[w.heap.size]? = _; simp, Nat.le_refl _, by decide, rfl, rfl⟩⟩
theorem infoU64 : (Try.prog.info? 23).map (fun i => (i.zero, i.size, i.bytes)) = some (some (.int .u64 0), 1, 8) := by kernel_rfl
theorem row_u64 {w : World} {base n : Nat} {e : TypeId} {v : Value} {xs : List Int} (h : w.ownsRow base e 1 v n (xs.map (Value.int .u64))) (h0 : 0 < n) :
    xs.length = n ∧ ∃ g cap, v = .slice (some ⟨g, 0, none⟩) n cap ∧ base ≤ g ∧ g < w.heap.size ∧ ∀ j : Nat, j < n → w.cell? ⟨g, j, none⟩ = some (.int .u64 (xs.getD j 0)) := by
  obtain ⟨hl, ⟨_, h1⟩ | ⟨g, cap, cur, h1, h2, h3, _, _, _, h5⟩⟩ := h
  · omega
  · have hl' : xs.length = n := by simpa using hl
    refine ⟨hl', g, cap, h1, h2, ?_, fun j hj => ?_⟩
    · rcases Nat.lt_or_ge g w.heap.size with h | h
      · exact h
      · rw [Array.getElem?_eq_none h] at h3; cases h3
    · have e : (cur.toList.take (n * 1))[j]? = some (.int .u64 (xs.getD j 0)) := by
        rw [h5]
        simp [List.getElem?_map, List.getElem?_eq_getElem (hl' ▸ hj : j < xs.length)]
      rw [List.getElem?_take_of_lt (by omega)] at e
      simp [World.cell?, h3]
      simpa using e
theorem row_len {k : IntKind} {w : World} {a : Option Addr} {len cap : Nat} {zs : List Int} (h : IsRow k w a len cap zs) : len ≤ cap ∧ cap ≤ 9223372036854775807 := by
  rcases h with ⟨_, rfl, rfl, _⟩ | ⟨_, _, h1, h2, _⟩
  · omega
  · unfold maxLen at h2; omega
theorem row_at {k : IntKind} {w : World} {a : Option Addr} {len cap : Nat} {zs : List Int} (h : IsRow k w a len cap zs) {i : Nat} (hi : i < len) :
    ∃ b off, a = some ⟨b, off, none⟩ ∧ b < w.heap.size ∧ w.cell? ⟨b, off + i, none⟩ = some (.int k (zs.getD i 0)) ∧ (Lit.int k (zs.getD i 0)).wf = true := by
  rcases h with ⟨rfl, rfl, rfl, rfl⟩ | ⟨x, rfl, h1, h2, h3, h4, h5⟩
  · omega
  · have h00 := h4 i (by omega)
    obtain ⟨b, off, spot⟩ := x
    have hs : spot = none := by
      rcases spot with _ | sp
      · rfl
      · have h0 := h4 0 (by omega)
        exact World.cell?_spot (a := ⟨b, off, some sp⟩) (by simpa [Addr.add] using h0)
    subst hs
    have e : (⟨b, off, none⟩ : Addr).add i = ⟨b, off + i, none⟩ := by unfold Addr.add; split <;> simp_all
    rw [e] at h00
    refine ⟨b, off, rfl, ?_, h00, h5 _ ?_⟩
    · rcases Nat.lt_or_ge b w.heap.size with h | h
      · exact h
      · simp [World.cell?, Array.getElem?_eq_none h] at h00
    · rw [List.getD_eq_getElem?_getD, List.getElem?_eq_getElem (by omega)]; exact List.getElem_mem _
set_option maxRecDepth 100000 in
set_option maxHeartbeats 8000000 in
theorem tagRow_law (t : Int) (w0 : (Lit.int .u32 t).wf = true) (a : Option Addr) (len cap : Nat) (zs : List Int) (w : World) (w1 : IsRow .u16 w a len cap zs) :
    Calls Try.prog 5 #[.int .u32 t, .slice a len cap] w fun e w' => e = .returned (.bool true) ∧ Below w.heap.size w w' := by
  obtain ⟨b0, b1⟩ := bd_u32 w0
  have HR := Lib.hid w1
  obtain ⟨hl, hcap⟩ := row_len w1
  clear w0 w1
  obtain ⟨k1, t1, p1⟩ := Tag.back (t := t) (p := -1) b0 b1 (by omega) (by omega)
  obtain ⟨m1, m2⟩ := Tag.mk_bd (t := t) (p := -1) b0 b1
  go_enter Try.func5, Try.ntmps5
  go_wp2_with (first
    | (go_at_call 12; refine (tagMake_any _ _ _ b0 b1 (by omega) (by omega)).mono ?_; rintro e w' ⟨rfl, rfl⟩))
  have h0 : Tag.Heads t 0 [Tag.mk t (-1)] := ⟨rfl, fun j hj => by
    obtain rfl : j = 0 := by omega
    refine ⟨m1, m2, ?_⟩
    show Tag.tg (Tag.mk t (-1)) = _
    rw [t1]; omega⟩
  have r0 : (w.alloc (.cells #[.int .u64 (Tag.mk t (-1))] 23)).ownsRow w.heap.size 23 1 (.slice (some ⟨w.heap.size, 0, none⟩) 1 1) 1 ([Tag.mk t (-1)].map (Value.int .u64)) :=
    ownsRow_one _ _ _
  have g0 : Below w.heap.size w (w.alloc (.cells #[.int .u64 (Tag.mk t (-1))] 23)) := (Below.refl _ _).alloc (Nat.le_refl _) _
  clear t1 p1
  go_loopw [5, 7, 8] (fun x l i wr => ∃ k : Nat, k ≤ len ∧ k ≤ 200 ∧ i = .int .i64 k ∧ ∃ xs, Tag.Heads t k xs ∧ x = .int .u64 (xs.getD k 0) ∧ wr.ownsRow w.heap.size 23 1 l (k + 1) (xs.map (Value.int .u64)) ∧ Below w.heap.size w wr)
    (fun _ _ i _ => len - (intOf i).toNat)
  case atStart => exact ⟨0, Nat.zero_le _, Nat.zero_le _, rfl, _, h0, rfl, r0, g0⟩
  case round =>
    obtain ⟨k, hk, hk1, rfl, xs, hx, rfl, hown, hB⟩ := hrel
    clear h0 r0 g0
    by_cases hlt : k < len
    · by_cases h200 : k < 200
      · obtain ⟨b, off, rfl, hb, hc, hcw⟩ := row_at HR.out hlt
        have hcb := bd_u16 hcw
        obtain ⟨y, hy⟩ : ∃ y, y = zs.getD k 0 := ⟨_, rfl⟩
        rw [← hy] at hc hcb
        have c0 := (hB.cell (p := ⟨b, off + k, none⟩) hb).trans hc
        obtain ⟨hn, g, cap', rfl, hg, hgl, hrow⟩ := row_u64 hown (by omega)
        obtain ⟨x0, x1, _⟩ := hx.2 k (Nat.le_refl _)
        have hne : ∀ j : Nat, j ≤ k → (xs.getD j 0 == Tag.nx (xs.getD k 0) (y % 4097 - 1)) = false := fun j hj => hx.ne h200 (by omega) (by omega) hj
        have hok : Tag.okB (y % 4097 - 1) = true := by unfold Tag.okB; simp; omega
        have hmore := hx.more (p := y % 4097 - 1) (by omega) (by omega)
        obtain ⟨v, hv⟩ : ∃ v, v = xs.getD k 0 := ⟨_, rfl⟩
        rw [← hv] at x0 x1 hne hmore
        simp only [← hv]
        have HN := Lib.hid hne; have HM := Lib.hid hmore; have HW := Lib.hid hrow; have HO := Lib.hid hown; have HB := Lib.hid hB
        clear hy hc hcw hx HR hne hmore hrow hown hB hcap hn hv m1 m2 k1
        go_wp2_with (first
          | (go_at_call 14; refine (tagNext_any _ _ _ x0 x1 (by omega) (by omega)).mono ?_; rintro e w' ⟨rfl, n, rfl⟩))
        go_loop [9] (fun i => ∃ j : Nat, j ≤ k + 1 ∧ i = .int .i64 j) (fun i => k + 1 - (intOf i).toNat)
        case atStart => exact ⟨0, Nat.zero_le _, rfl⟩
        case round =>
          obtain ⟨j, hj, rfl⟩ := hrel
          by_cases hj2 : j < k + 1
          · have p1 := HW.out j hj2
            have p2 := HN.out j (by omega)
            obtain ⟨q, hq⟩ : ∃ q, q = xs.getD j 0 := ⟨_, rfl⟩
            rw [← hq] at p1 p2
            clear hq
            have hj3 : (j : Int) < (k : Int) + 1 := by omega
            go_wp2
            go_round
            case rel => exact ⟨j + 1, by omega, by go_num⟩
            case measure => simp [intOf]; omega
          · have hj3 : decide ((j : Int) < (k : Int) + 1) = false := by simp; omega
            have hj4 : ¬ (j : Int) < (k : Int) + 1 := by omega
            obtain ⟨i0, hi, hz0, hz1, hz2⟩ := info_parts infoU64
            go_wp2_with (first
              | (at_builtin; refine wpList_append_own _ rfl _ _ 34 rfl w.heap.size 23 i0 (.int .u64 0) 1 8 Try.underlying34 hi hz0 hz1 hz2 rfl (by decide) _ _ _ rfl ((show (wr.drewN n).ownsRow _ _ _ _ _ _ from HO.out).alloc _) ⟨wr.heap.size, 0, none⟩ 1 1 [.int .u64 (Tag.nx v (y % 4097 - 1))] rfl rfl (cell_one_new _ _ _) (fun x hx => by simp at hx; subst hx; rfl) (by unfold maxLen; omega) (by omega) (by have := HB.out.size; simp; omega) ?_; intro v' w3 hown' hgrow3 hnil3))
            have hl1 : xs.length = k + 1 := by have := HM.out.1; simp at this; exact this
            have hlast : (xs ++ [Tag.nx v (y % 4097 - 1)]).getD (k + 1) 0 = Tag.nx v (y % 4097 - 1) := by
              rw [List.getD_eq_getElem?_getD, List.getElem?_append_right (by omega), hl1]; simp
            have hb3 : Below w.heap.size w w3 := ((below_drewN' HB.out n).alloc (by have := HB.out.size; simp; omega) _).grown hgrow3 (by have := HB.out.size; simp; omega) (fun q hq => by have e : some g = some q := hq; cases e; exact hg)
            go_roundw
            case rel => exact ⟨k + 1, by omega, by omega, by go_num, _, HM.out, by rw [hlast], by simpa using hown', hb3⟩
            case measure => simp [intOf]; omega
      · go_wp2_with (first
          | (go_at_call 20; refine (awake6_any _).mono ?_; rintro e w' ⟨rfl, n, rfl⟩))
        go_ret
        exact ⟨rfl, below_drewN' hB _⟩
    · go_wp2_with (first
        | (go_at_call 20; refine (awake6_any _).mono ?_; rintro e w' ⟨rfl, n, rfl⟩))
      go_ret
      exact ⟨rfl, below_drewN' hB _⟩
end Go.Proofs.Ytilmblgcncbgiaa

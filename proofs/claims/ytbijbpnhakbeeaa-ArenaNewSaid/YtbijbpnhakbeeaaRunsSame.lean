/- The document's SameRuns, SameNodes: whether two rows of two cells an element are alike. By an AI agent. -/
import Derived.Test.YtbijbpnhakbeeaaRunsSt
import Derived.Test.YtbijbpnhakbeeaaRow
namespace Go.Proofs.Ytbijbpnhakbeeaa
open Go.RowKit

/-- A slice of nodes: what its cells hold. -/
def NodesAt (w : World) (v : Value) (xs : List (Int × Int)) : Prop :=
  ∃ a cap, v = .slice a xs.length cap ∧ ∀ i x, xs[i]? = some x → ∃ b off, a = some ⟨b, off, none⟩ ∧ w.cell? ⟨b, off + i * 2, none⟩ = some (.int .i64 x.1) ∧ w.cell? ⟨b, off + i * 2 + 1, none⟩ = some (.int .i64 x.2)
theorem NodesAt.of_owns {w : World} {base : Nat} {e : TypeId} {v : Value} {xs : List (Int × Int)} (h : w.ownsRow base e 2 v xs.length (shCells xs)) : NodesAt w v xs := by
  obtain ⟨_, ⟨h0, h1⟩ | ⟨g, cap, cur, h1, h2, h3, _, _, _, h5⟩⟩ := h
  · have : xs = [] := List.eq_nil_of_length_eq_zero h1
    subst this
    exact ⟨none, 0, h0, fun i x hx => by simp at hx⟩
  · refine ⟨_, cap, h1, fun i x hx => ⟨g, 0, rfl, ?_⟩⟩
    have hi : i < xs.length := (List.getElem?_eq_some_iff.1 hx).1
    obtain ⟨e1, e2⟩ := shCells_at xs i x hx
    rw [← h5, List.getElem?_take_of_lt (by omega)] at e1 e2
    rw [Nat.zero_add]
    exact ⟨by simpa [World.cell?, h3] using e1, by simpa [World.cell?, h3] using e2⟩
theorem NodesAt.adds {w w' : World} {v : Value} {xs : List (Int × Int)} (h : NodesAt w v xs) (ho : Adds w w') : NodesAt w' v xs := by
  obtain ⟨a, cap, h1, h2⟩ := h
  refine ⟨a, cap, h1, fun i x hx => ?_⟩
  obtain ⟨b, off, h3, h4, h5⟩ := h2 i x hx
  exact ⟨b, off, h3, (ho.cellF (p := ⟨b, _, none⟩) (cell_lt h4) id).trans h4, (ho.cellF (p := ⟨b, _, none⟩) (cell_lt h5) id).trans h5⟩
theorem NodesAt.kept {S : Nat → Prop} {w w' : World} {base : Nat} {e : TypeId} {v : Value} {xs : List (Int × Int)} (h : w.ownsRow base e 2 v xs.length (shCells xs)) (ho : Only S w w') (hs : ∀ g, some g = v.ownBlock → ¬ S g) : NodesAt w' v xs := NodesAt.of_owns (row_only2 h ho hs)
set_option maxRecDepth 100000 in
set_option maxHeartbeats 2000000 in
theorem sameNodes_any (v u : Value) (xs ys : List (Int × Int)) (w : World) (hv : NodesAt w v xs) (hu : NodesAt w u ys) (hx : xs.length < 1000000) (hy : ys.length < 1000000) :
    Calls Try.prog 25 #[v, u] w fun e w' => e = .returned (.bool (decide (xs = ys))) ∧ ∃ n, w' = w.drewN n := by
  obtain ⟨a, c1, rfl, hv⟩ := hv
  obtain ⟨b, c2, rfl, hu⟩ := hu
  have HV := Lib.hid hv; have HU := Lib.hid hu
  clear hv hu
  by_cases hl : xs.length = ys.length
  · have t0 : ((xs.length : Int) != (ys.length : Int)) = false := by simp [hl]
    obtain ⟨n, hn⟩ : ∃ n, n = xs.length := ⟨_, rfl⟩
    have hn2 : n = ys.length := hn.trans hl
    obtain ⟨R, hR⟩ : ∃ R, R = decide (xs = ys) := ⟨_, rfl⟩
    have HN := Lib.hid hn; have HN2 := Lib.hid hn2; have HR := Lib.hid hR
    rw [← hn, ← hn2, ← hR]
    rw [← hn] at hx
    clear hn hn2 hl t0 hy hR
    go_enter Try.func25, Try.ntmps25
    go_wp2
    go_loopw [5] (fun i wr => ∃ k m : Nat, k ≤ n ∧ i = .int .i64 k ∧ wr = w.drewN m ∧ RowKit.Hid (∀ j, j < k → xs[j]? = ys[j]?)) (fun i _ => n - (intOf i).toNat)
    case atStart => exact ⟨0, 0, Nat.zero_le _, rfl, rfl, Lib.hid (fun j hj => by omega)⟩
    case round =>
      obtain ⟨k, m, hk, rfl, rfl, hp⟩ := hrel
      by_cases hkn : k < n
      · obtain ⟨x, hx1⟩ : ∃ x, xs[k]? = some x := ⟨_, List.getElem?_eq_getElem (HN.out ▸ hkn)⟩
        obtain ⟨y, hy1⟩ : ∃ y, ys[k]? = some y := ⟨_, List.getElem?_eq_getElem (HN2.out ▸ hkn)⟩
        obtain ⟨b1, o1, rfl, p1, p2⟩ := HV.out k x hx1
        obtain ⟨b2, o2, rfl, q1, q2⟩ := HU.out k y hy1
        have HX := Lib.hid hx1; have HY := Lib.hid hy1
        clear hx1 hy1
        obtain ⟨x1, x2⟩ := x
        obtain ⟨y1, y2⟩ := y
        simp only at p1 p2 q1 q2
        by_cases he : x1 = y1
        · subst he
          by_cases he2 : x2 = y2
          · subst he2
            have s1 : (x1 != x1) = false := by simp
            have s2 : (x2 != x2) = false := by simp
            go_wp2
            go_quiet ((fail))
            go_wp2
            go_roundw
            case rel => exact ⟨k + 1, _, by omega, by go_num, rfl, Lib.hid (fun j hj => by
              rcases Nat.lt_or_ge j k with h | h
              · exact hp j h
              · have : j = k := by omega
                subst this
                rw [HX.out, HY.out])⟩
            case measure => simp [intOf]; omega
          · have hR0 : R = false := by
              rw [HR.out]
              simp only [decide_eq_false_iff_not]
              intro h
              have := HX.out
              rw [h, HY.out] at this
              simp at this
              exact he2 this.symm
            have s2 : (x2 == y2) = false := by simpa using he2
            subst hR0
            clear he2
            go_wp2
            go_quiet ((fail))
            go_wp2
            go_ret
            exact ⟨rfl, m + nq, by simp [World.drewN, Nat.add_assoc]⟩
        · have hR0 : R = false := by
            rw [HR.out]
            simp only [decide_eq_false_iff_not]
            intro h
            have := HX.out
            rw [h, HY.out] at this
            simp at this
            exact he this.1.symm
          have s2 : (x1 == y1) = false := by simpa using he
          subst hR0
          clear he
          go_wp2
          go_quiet ((fail))
          go_wp2
          go_ret
          exact ⟨rfl, m + nq, by simp [World.drewN, Nat.add_assoc]⟩
      · have hR0 : R = true := by
          rw [HR.out]
          simp only [decide_eq_true_eq]
          apply List.ext_getElem?
          intro j
          rcases Nat.lt_or_ge j k with h | h
          · exact hp j h
          · have h1 := HN.out; have h2 := HN2.out
            rw [List.getElem?_eq_none (by omega), List.getElem?_eq_none (by omega)]
        subst hR0
        go_wp2
        go_ret
        exact ⟨rfl, _, rfl⟩
  · have hR : decide (xs = ys) = false := by simpa using fun h => hl (by rw [h])
    rw [hR]
    obtain ⟨n, hn⟩ : ∃ n, n = xs.length := ⟨_, rfl⟩
    obtain ⟨n2, hn2⟩ : ∃ n, n = ys.length := ⟨_, rfl⟩
    have t0 : ((n : Int) != (n2 : Int)) = true := by simpa using fun h => hl (by omega)
    rw [← hn, ← hn2]
    clear hn hn2 HV HU hR hl hx hy
    go_enter Try.func25, Try.ntmps25
    go_wp2
    go_ret
    exact ⟨rfl, 0, rfl⟩
set_option maxRecDepth 100000 in
set_option maxHeartbeats 2000000 in
theorem sameRuns_any (v u : Value) (xs ys : List (Int × Int)) (w : World) (hv : NodesAt w v xs) (hu : NodesAt w u ys) (hx : xs.length < 1000000) (hy : ys.length < 1000000) :
    Calls Try.prog 21 #[v, u] w fun e w' => e = .returned (.bool (decide (xs = ys))) ∧ ∃ n, w' = w.drewN n := by
  obtain ⟨a, c1, rfl, hv⟩ := hv
  obtain ⟨b, c2, rfl, hu⟩ := hu
  have HV := Lib.hid hv; have HU := Lib.hid hu
  clear hv hu
  by_cases hl : xs.length = ys.length
  · have t0 : ((xs.length : Int) != (ys.length : Int)) = false := by simp [hl]
    obtain ⟨n, hn⟩ : ∃ n, n = xs.length := ⟨_, rfl⟩
    have hn2 : n = ys.length := hn.trans hl
    obtain ⟨R, hR⟩ : ∃ R, R = decide (xs = ys) := ⟨_, rfl⟩
    have HN := Lib.hid hn; have HN2 := Lib.hid hn2; have HR := Lib.hid hR
    rw [← hn, ← hn2, ← hR]
    rw [← hn] at hx
    clear hn hn2 hl t0 hy hR
    go_enter Try.func21, Try.ntmps21
    go_wp2
    go_loopw [5] (fun i wr => ∃ k m : Nat, k ≤ n ∧ i = .int .i64 k ∧ wr = w.drewN m ∧ RowKit.Hid (∀ j, j < k → xs[j]? = ys[j]?)) (fun i _ => n - (intOf i).toNat)
    case atStart => exact ⟨0, 0, Nat.zero_le _, rfl, rfl, Lib.hid (fun j hj => by omega)⟩
    case round =>
      obtain ⟨k, m, hk, rfl, rfl, hp⟩ := hrel
      by_cases hkn : k < n
      · obtain ⟨x, hx1⟩ : ∃ x, xs[k]? = some x := ⟨_, List.getElem?_eq_getElem (HN.out ▸ hkn)⟩
        obtain ⟨y, hy1⟩ : ∃ y, ys[k]? = some y := ⟨_, List.getElem?_eq_getElem (HN2.out ▸ hkn)⟩
        obtain ⟨b1, o1, rfl, p1, p2⟩ := HV.out k x hx1
        obtain ⟨b2, o2, rfl, q1, q2⟩ := HU.out k y hy1
        have HX := Lib.hid hx1; have HY := Lib.hid hy1
        clear hx1 hy1
        obtain ⟨x1, x2⟩ := x
        obtain ⟨y1, y2⟩ := y
        simp only at p1 p2 q1 q2
        by_cases he : x1 = y1
        · subst he
          by_cases he2 : x2 = y2
          · subst he2
            have s1 : (x1 != x1) = false := by simp
            have s2 : (x2 != x2) = false := by simp
            go_wp2
            go_quiet ((fail))
            go_wp2
            go_roundw
            case rel => exact ⟨k + 1, _, by omega, by go_num, rfl, Lib.hid (fun j hj => by
              rcases Nat.lt_or_ge j k with h | h
              · exact hp j h
              · have : j = k := by omega
                subst this
                rw [HX.out, HY.out])⟩
            case measure => simp [intOf]; omega
          · have hR0 : R = false := by
              rw [HR.out]
              simp only [decide_eq_false_iff_not]
              intro h
              have := HX.out
              rw [h, HY.out] at this
              simp at this
              exact he2 this.symm
            have s2 : (x2 == y2) = false := by simpa using he2
            subst hR0
            clear he2
            go_wp2
            go_quiet ((fail))
            go_wp2
            go_ret
            exact ⟨rfl, m + nq, by simp [World.drewN, Nat.add_assoc]⟩
        · have hR0 : R = false := by
            rw [HR.out]
            simp only [decide_eq_false_iff_not]
            intro h
            have := HX.out
            rw [h, HY.out] at this
            simp at this
            exact he this.1.symm
          have s2 : (x1 == y1) = false := by simpa using he
          subst hR0
          clear he
          go_wp2
          go_quiet ((fail))
          go_wp2
          go_ret
          exact ⟨rfl, m + nq, by simp [World.drewN, Nat.add_assoc]⟩
      · have hR0 : R = true := by
          rw [HR.out]
          simp only [decide_eq_true_eq]
          apply List.ext_getElem?
          intro j
          rcases Nat.lt_or_ge j k with h | h
          · exact hp j h
          · have h1 := HN.out; have h2 := HN2.out
            rw [List.getElem?_eq_none (by omega), List.getElem?_eq_none (by omega)]
        subst hR0
        go_wp2
        go_ret
        exact ⟨rfl, _, rfl⟩
  · have hR : decide (xs = ys) = false := by simpa using fun h => hl (by rw [h])
    rw [hR]
    obtain ⟨n, hn⟩ : ∃ n, n = xs.length := ⟨_, rfl⟩
    obtain ⟨n2, hn2⟩ : ∃ n, n = ys.length := ⟨_, rfl⟩
    have t0 : ((n : Int) != (n2 : Int)) = true := by simpa using fun h => hl (by omega)
    rw [← hn, ← hn2]
    clear hn hn2 HV HU hR hl hx hy
    go_enter Try.func21, Try.ntmps21
    go_wp2
    go_ret
    exact ⟨rfl, 0, rfl⟩
end Go.Proofs.Ytbijbpnhakbeeaa

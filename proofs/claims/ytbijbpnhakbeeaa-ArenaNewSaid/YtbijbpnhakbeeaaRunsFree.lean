/- Package runs: Put, at whatever state. By an AI agent. -/
import Derived.Deep.LoopGhost
import Derived.Test.YtbijbpnhakbeeaaRunsList
import Derived.Test.YtbijbpnhakbeeaaRunsCollect
namespace Go.Proofs.Ytbijbpnhakbeeaa
open Go.RowKit

/-- Some runs dropped, one behind the other. -/
inductive Dels : RS → List (Int × Int) → RS → Prop
  | nil (s : RS) : Dels s [] s
  | snoc {s s1 : RS} {ys : List (Int × Int)} (h : Dels s ys s1) (x : Int × Int) (hx : x ∈ s1.xs) (lv : Value) : Dels s (ys ++ [x]) (s1.del x lv)
theorem dropsL_snoc (x : Int × Int) : ∀ (ys xs : List (Int × Int)), dropsL xs (ys ++ [x]) = delL x (dropsL xs ys)
  | [], _ => rfl
  | y :: ys, xs => dropsL_snoc x ys (delL y xs)
theorem wholeL_snoc (x : Int × Int) : ∀ (ys : List (Int × Int)) (a n : Int), wholeL a n (ys ++ [x]) = (min (wholeL a n ys).1 x.1, (wholeL a n ys).2 + x.2)
  | [], _, _ => rfl
  | y :: ys, a, n => wholeL_snoc x ys (min a y.1) (n + y.2)
theorem Dels.xs {s s1 : RS} {ys : List (Int × Int)} (h : Dels s ys s1) : s1.xs = dropsL s.xs ys := by
  induction h with
  | nil => rfl
  | snoc h x hx lv ih => rw [dropsL_snoc, ← ih]; rfl
theorem Dels.same {s s1 : RS} {ys : List (Int × Int)} (h : Dels s ys s1) : s1.dn = s.dn ∧ s1.P = s.P ∧ s1.rb = s.rb ∧ s1.ds = s.ds := by
  induction h with
  | nil => exact ⟨rfl, rfl, rfl, rfl⟩
  | snoc h x hx lv ih => exact ih
theorem mem_dropsL {P : Int} : ∀ (pre : List (Int × Int)) {xs post : List (Int × Int)} {x : Int × Int}, RunsOk P xs → (pre ++ x :: post).Pairwise (fun a b => a.1 + a.2 < b.1) → (∀ y ∈ pre ++ x :: post, y ∈ xs) → x ∈ dropsL xs pre
  | [], xs, post, x, _, _, hm => hm x (by simp)
  | y :: pre, xs, post, x, h, hp, hm => by
    have hy := hm y (by simp)
    have hp' := List.pairwise_cons.1 (show (y :: (pre ++ x :: post)).Pairwise _ from hp)
    refine mem_dropsL pre (post := post) (delL_ok h hy) hp'.2 (fun z hz => (mem_delL h hy).2 ⟨hm z (by simp at hz ⊢; simp [hz]), fun e => ?_⟩)
    have h5 := hp'.1 z hz
    have hb := h.bd y hy
    subst e; omega
theorem wholeL_bound (B : Int) : ∀ (ys : List (Int × Int)) (a n : Int), (∀ y ∈ ys, 0 ≤ y.1 ∧ y.1 < 1000000 ∧ 0 ≤ y.2 ∧ y.2 < 1000000) → 0 ≤ a → a < 1000000 → 0 ≤ n → n + 1000000 * ys.length < B → 0 ≤ (wholeL a n ys).1 ∧ (wholeL a n ys).1 < 1000000 ∧ 0 ≤ (wholeL a n ys).2 ∧ (wholeL a n ys).2 < B
  | [], a, n, _, h1, h2, h3, h4 => ⟨h1, h2, h3, by simp at h4; simpa [wholeL] using h4⟩
  | y :: ys, a, n, h, h1, h2, h3, h4 => by
    have hy := h y (by simp)
    refine wholeL_bound B ys (min a y.1) (n + y.2) (fun z hz => h z (by simp [hz])) (by omega) (by omega) (by omega) (by simp at h4; omega)
theorem wrap_ok (a : Int) (h0 : -1000000000000 ≤ a) (h1 : a ≤ 1000000000000) : IntKind.i64.wrap a = a := by rw [IntKind.wrap_i64]; omega
theorem wrap64_ok (a : Int) (h0 : -1000000000000 ≤ a) (h1 : a ≤ 1000000000000) : wrap64 a = a := by simp [wrap64]; omega

def FreeOf (s : RS) (a n c : Int) (s' : RS) : Prop :=
  ((a < 0 ∨ n < 1 ∨ s.P < a ∨ s.P - a < n) ∧ c = 1 ∧ s' = s) ∨
  ((0 ≤ a ∧ 1 ≤ n ∧ a + n ≤ s.P) ∧ (∃ y ∈ nearL s.xs a (a + n), Hits y a n) ∧ c = 4 ∧ s' = s) ∨
  ((0 ≤ a ∧ 1 ≤ n ∧ a + n ≤ s.P) ∧ (∀ y ∈ nearL s.xs a (a + n), ¬ Hits y a n) ∧ c = 0 ∧ ∃ s1 nb lv, Dels s (nearL s.xs a (a + n)) s1 ∧ s' = s1.put (wholeL a n (nearL s.xs a (a + n))) nb lv)
def FreePost (s : RS) (a n : Int) (w : World) (e : Ending) (w' : World) : Prop := ∃ c s', e = .returned (.int .i64 c) ∧ FreeOf s a n c s' ∧ IsRuns w' s' ∧ Moves s s' w w'
set_option maxRecDepth 100000 in
set_option maxHeartbeats 8000000 in
theorem free_any {w : World} {s : RS} (h : IsRuns w s) (a n : Int) (hdn : s.dn < 1000000) :
    Calls Try.prog 32 #[.pointer (some ⟨s.rb, 0, none⟩), .int .i64 a, .int .i64 n] w (FreePost s a n w) := by
  have H := Lib.hid h
  have hP1 := h.ok.P1; have hP2 := h.ok.P2
  obtain ⟨c0, _, _, _, _, _⟩ := h.cells
  clear h
  by_cases h1 : a < 0
  · go_enter Try.func32, Try.ntmps32
    go_wp2_with fail
    go_ret
    exact ⟨1, s, rfl, .inl ⟨.inl h1, rfl, rfl⟩, H.out, Moves.refl _ (Only.refl _ _)⟩
  by_cases h2 : n < 1
  · go_enter Try.func32, Try.ntmps32
    go_wp2_with fail
    go_ret
    exact ⟨1, s, rfl, .inl ⟨.inr (.inl h2), rfl, rfl⟩, H.out, Moves.refl _ (Only.refl _ _)⟩
  by_cases h3 : s.P < a
  · go_enter Try.func32, Try.ntmps32
    go_wp2_with fail
    go_ret
    exact ⟨1, s, rfl, .inl ⟨.inr (.inr (.inl h3)), rfl, rfl⟩, H.out, Moves.refl _ (Only.refl _ _)⟩
  have hw0 := wrap64_ok (s.P - a) (by omega) (by omega)
  have hw0' := wrap_ok (s.P - a) (by omega) (by omega)
  by_cases h4 : s.P - a < n
  · go_enter Try.func32, Try.ntmps32
    go_wp2_with fail
    go_ret
    exact ⟨1, s, rfl, .inl ⟨.inr (.inr (.inr h4)), rfl, rfl⟩, H.out, Moves.refl _ (Only.refl _ _)⟩
  have hv : 0 ≤ a ∧ 1 ≤ n ∧ a + n ≤ s.P := by omega
  have hw1 := wrap64_ok (a + n) (by omega) (by omega)
  have hw1' := wrap_ok (a + n) (by omega) (by omega)
  go_enter Try.func32, Try.ntmps32
  obtain ⟨B, hB⟩ : ∃ B, w.heap.size = B := ⟨_, rfl⟩
  obtain ⟨W, hW⟩ : ∃ W, w.alloc (.cells #[.int .i64 a, .int .i64 n] 63) = W := ⟨_, rfl⟩
  have hbx : Blk W B #[.int .i64 a, .int .i64 n] 63 := by rw [← hW, ← hB]; exact Blk.new w _ _
  have hO0 : Adds w W := by rw [← hW]; exact (Only.refl _ w).alloc _
  have hB0 : ∀ y, s.all y → y < B := fun y hy => hB ▸ H.out.lt y hy
  have HB0 := Lib.hid hB0; have HO := Lib.hid hO0; have HBX := Lib.hid hbx
  go_wp2_with fail
  rw [← hW]
  have HW := Lib.hid hW
  clear hW
  rw [HW.out]
  clear hB0 hO0 hbx
  refine (near_any s.rb a (a + n) W).mono ?_
  rintro e V0 ⟨rfl, hV0⟩
  have hV0a : Adds W V0 := by rw [hV0]; exact (((Only.refl _ W).alloc _).alloc _).alloc _
  have b1 : V0.cell? ⟨W.heap.size, 0, none⟩ = some (.pointer (some ⟨s.rb, 0, none⟩)) := by
    rw [hV0]; exact cell_al (cell_al (World.cell?_alloc_new W _ _ 0) ((Only.refl _ _).alloc _)) ((Only.refl _ _).alloc _)
  have b2 : V0.cell? ⟨W.heap.size + 1, 0, none⟩ = some (.int .i64 a) := by
    rw [hV0]
    have := World.cell?_alloc_new (W.alloc (.cells #[.pointer (some ⟨s.rb, 0, none⟩)] 50)) #[.int .i64 a] 3 0
    simp only [World.size_alloc] at this
    exact cell_al this ((Only.refl _ _).alloc _)
  have b3 : V0.cell? ⟨W.heap.size + 1 + 1, 0, none⟩ = some (.int .i64 (a + n)) := by
    rw [hV0]
    have := World.cell?_alloc_new ((W.alloc (.cells #[.pointer (some ⟨s.rb, 0, none⟩)] 50)).alloc (.cells #[.int .i64 a] 3)) #[.int .i64 (a + n)] 3 0
    simp only [World.size_alloc] at this
    exact this
  have HV0 := Lib.hid hV0a
  have hI0 := H.out.adds (HO.out.thenF hV0a)
  have hco := collect_any s.rb W.heap.size (W.heap.size + 1) (W.heap.size + 1 + 1) s.lv s.xs s.P a (a + n) H.out.ok.list ⟨H.out.ok.P1, H.out.ok.P2⟩ V0 b1 b2 b3 (hI0.blk.cell 4) hI0.row
  have HCO := Lib.hid hco
  clear hV0 hV0a b1 b2 b3 hI0 hco c0
  go_wp2_with fail
  refine HCO.out.mono ?_
  rintro e V ⟨bv, rfl, hrow, hoV⟩
  obtain ⟨N, hN⟩ : ∃ N, nearL s.xs a (a + n) = N := ⟨_, rfl⟩
  rw [hN] at hrow
  have hA1 : Adds w V := (HO.out.thenF HV0.out).thenF hoV
  have hI1 := H.out.adds hA1
  have hbx1 := (HBX.out.only HV0.out id).only hoV id
  have hNg : N.Pairwise (fun a b => a.1 + a.2 < b.1) := hN ▸ H.out.ok.list.gap.sublist (nearL_sub _ _ _)
  have hNm : ∀ y ∈ N, y ∈ s.xs := fun y hy => (nearL_sub _ _ _).subset (hN ▸ hy)
  have hNl : N.length ≤ 4096 := by
    have h5 := (nearL_sub s.xs a (a + n)).length_le
    rw [hN] at h5
    have := H.out.ok.list.len (by omega); omega
  have hBV : W.heap.size ≤ V0.heap.size := HV0.out.size
  have hBW : B < W.heap.size := HBX.out.lt
  have H1 := Lib.hid hI1; have HA1 := Lib.hid hA1; have HBX1 := Lib.hid hbx1; have HN := Lib.hid hN; have HNG := Lib.hid hNg; have HNM := Lib.hid hNm; have HROW := Lib.hid hrow
  clear hI1 hA1 hbx1 hN hNg hNm hoV HCO
  obtain ⟨gb, cb, hbv⟩ : ∃ gb cb, bv = .slice gb N.length cb := by
    rcases row_shape hrow with ⟨e1, e2⟩ | ⟨g, cp, e1⟩
    · exact ⟨none, 0, by rw [e1, e2]⟩
    · exact ⟨_, cp, e1⟩
  subst hbv
  clear hrow
  have hcell : ∀ (k : Nat) (x : Int × Int), N[k]? = some x → ∃ g, gb = some ⟨g, 0, none⟩ ∧ V.cell? ⟨g, k * 2, none⟩ = some (.int .i64 x.1) ∧ V.cell? ⟨g, k * 2 + 1, none⟩ = some (.int .i64 x.2) ∧ g ≠ B ∧ g < V.heap.size ∧ B < g := fun k x hk => by
    have hk0 := (List.getElem?_eq_some_iff.1 hk).1
    rcases HROW.out.2 with ⟨e1, e2⟩ | ⟨g, cp, cur, e1, hbg, hg, _⟩
    · omega
    · cases e1
      have h6 := (row_two (ownsRow_base0 HROW.out)).1 k x hk
      exact ⟨g, rfl, h6.1, h6.2, by omega, cell_lt h6.1, by omega⟩
  have HCELL := Lib.hid hcell
  have hsm : ∀ y ∈ N, 0 ≤ y.1 ∧ y.1 < 1000000 ∧ 0 ≤ y.2 ∧ y.2 < 1000000 := fun y hy => H.out.ok.list.small hP2 y (HNM.out y hy)
  have HSM := Lib.hid hsm
  clear hcell hsm hBV
  go_wp2_with fail
  go_loopg [53] N.length (fun kx v wr => ∃ k : Nat, v = .int .i64 k ∧ k ≤ N.length ∧ N.length - k ≤ kx ∧ Hid (Blk wr B #[.int .i64 (wholeL a n (N.take k)).1, .int .i64 (wholeL a n (N.take k)).2] 63) ∧ Hid (Only (· = B) V wr) ∧ Hid (∀ y ∈ N.take k, ¬ Hits y a n))
  case atStart => exact ⟨0, rfl, Nat.zero_le _, by omega, HBX1, Lib.hid (Only.refl _ _), Lib.hid (fun y hy => by simp at hy)⟩
  case round =>
    obtain ⟨k, rfl, hk, hkx, HB, HOV, HNH⟩ := hrel
    by_cases hlt : k < N.length
    · obtain ⟨x, hx⟩ : ∃ x, N[k]? = some x := ⟨_, List.getElem?_eq_getElem hlt⟩
      obtain ⟨g, rfl, q0, q1, hgB, hgV, hBg⟩ := HCELL.out k x hx
      have hsx := HSM.out x (List.mem_of_getElem? hx)
      have hlk : ((N.take k).length : Int) ≤ 4096 := by simp; omega
      have hwb := wholeL_bound 5000000000 (N.take k) a n (fun y hy => HSM.out y (List.mem_of_mem_take hy)) (by omega) (by omega) (by omega) (by omega)
      obtain ⟨wh, hwh⟩ : ∃ wh, wholeL a n (N.take k) = wh := ⟨_, rfl⟩
      rw [hwh] at HB hwb
      have hal := (Only.refl (fun _ => False) wr).alloc (.cells #[.int .i64 x.1, .int .i64 x.2] 63)
      have q0 := (HOV.out.cellF (p := ⟨g, k * 2, none⟩) hgV hgB).trans q0
      have q1 := (HOV.out.cellF (p := ⟨g, k * 2 + 1, none⟩) hgV hgB).trans q1
      have hBl := HB.out.lt
      have hne : wr.heap.size ≠ B := by omega
      have hne' : B ≠ wr.heap.size := by omega
      have w0 : wr.cell? ⟨B, 0, none⟩ = some (.int .i64 wh.1) := HB.out.cell 0
      have w1 : wr.cell? ⟨B, 1, none⟩ = some (.int .i64 wh.2) := HB.out.cell 1
      have g0 := HB.out.frozen 0; have g1 := HB.out.frozen 1
      have hwx := wrap64_ok (x.1 + x.2) (by omega) (by omega)
      have hwx' := wrap_ok (x.1 + x.2) (by omega) (by omega)
      have hww := wrap64_ok (wh.2 + x.2) (by omega) (by omega)
      have hww' := wrap_ok (wh.2 + x.2) (by omega) (by omega)
      have hk4 : k < 1000000 := by omega
      have hwk := wrap_succ k hk4
      have HX := Lib.hid hx; have HWH := Lib.hid hwh
      clear hx hwh hal
      by_cases hp : x.1 < a + n
      · by_cases hq : a < x.1 + x.2
        · go_wp2_with fail
          go_ret
          refine ⟨4, s, rfl, .inr (.inl ⟨hv, ⟨x, by rw [HN.out]; exact List.mem_of_getElem? HX.out, hp, hq⟩, rfl, rfl⟩), ?_, ?_⟩
          · exact (H1.out.only HOV.out (fun y hy e => by have := HB0.out y hy; omega)).adds ((Only.refl _ wr).alloc _)
          · exact Moves.refl s ((HA1.out.andThen HOV.out (fun i hi e => by omega)).thenF ((Only.refl _ wr).alloc _))
        · go_wp2_with fail
          go_roundg (N.length - (k + 1))
          case measure => omega
          case rel =>
            have htk : N.take (k + 1) = N.take k ++ [x] := by rw [List.take_add_one, HX.out]; rfl
            refine ⟨k + 1, by simp, by omega, Nat.le_refl _, Lib.hid ?_, Lib.hid ?_, Lib.hid ?_⟩
            · rw [htk, wholeL_snoc, HWH.out]
              exact ((HB.out.setCell 0 _).setCell 1 _).alloc _
            · exact ((HOV.out.setCell (p := ⟨B, 0, none⟩) (.inl rfl) _).setCell (p := ⟨B, 1, none⟩) (.inl rfl) _).alloc _
            · intro y hy
              rw [htk, List.mem_append, List.mem_singleton] at hy
              rcases hy with hy | rfl
              · exact HNH.out y hy
              · intro hh; unfold Hits at hh; omega
      · go_wp2_with fail
        go_roundg (N.length - (k + 1))
        case measure => omega
        case rel =>
          have htk : N.take (k + 1) = N.take k ++ [x] := by rw [List.take_add_one, HX.out]; rfl
          refine ⟨k + 1, by simp, by omega, Nat.le_refl _, Lib.hid ?_, Lib.hid ?_, Lib.hid ?_⟩
          · rw [htk, wholeL_snoc, HWH.out]
            exact ((HB.out.setCell 0 _).setCell 1 _).alloc _
          · exact ((HOV.out.setCell (p := ⟨B, 0, none⟩) (.inl rfl) _).setCell (p := ⟨B, 1, none⟩) (.inl rfl) _).alloc _
          · intro y hy
            rw [htk, List.mem_append, List.mem_singleton] at hy
            rcases hy with hy | rfl
            · exact HNH.out y hy
            · intro hh; unfold Hits at hh; omega
    · obtain rfl : k = N.length := by omega
      generalize wr = V2 at *
      rw [List.take_length] at HB HNH
      have hFr := freed H.out.ok.list (a := a) (n := n) (by omega) (by omega) (by omega) (by rw [HN.out]; exact HNH.out)
      have hI2 := H1.out.only HOV.out (fun y hy e => by have := HB0.out y hy; omega)
      have hA2 : Adds w V2 := HA1.out.andThen HOV.out (fun i hi e => by omega)
      have HFR := Lib.hid hFr; have HI2 := Lib.hid hI2; have HA2 := Lib.hid hA2
      obtain ⟨wh, hwh⟩ : ∃ wh, wholeL a n N = wh := ⟨_, rfl⟩
      rw [hwh] at HB
      have HWH := Lib.hid hwh
      have hnB : ∀ y, B ≤ y → ¬ s.own y := fun y hy ho => by have := HB0.out y (.inl ho); omega
      have HNB := Lib.hid hnB
      clear hFr hI2 hA2 hwh hnB
      go_wp2_with fail
      go_loopg [87] N.length (fun kx v wr => ∃ (k : Nat) (s1 : RS), v = .int .i64 k ∧ k ≤ N.length ∧ N.length - k ≤ kx ∧ Hid (Dels s (N.take k) s1) ∧ Hid (IsRuns wr s1) ∧ Hid (Moves s s1 V2 wr))
      case atStart => exact ⟨0, s, rfl, Nat.zero_le _, by omega, Lib.hid (by rw [List.take_zero]; exact Dels.nil s), HI2, Lib.hid (Moves.refl s (Only.refl _ _))⟩
      case round =>
        obtain ⟨k, s1, rfl, hk2, hkx2, HD, HIq, HMq⟩ := hrel
        have hs1 := HD.out.same
        obtain ⟨hsd, hsP, hsr, _⟩ := hs1
        by_cases hlt2 : k < N.length
        · obtain ⟨x, hx⟩ : ∃ x, N[k]? = some x := ⟨_, List.getElem?_eq_getElem hlt2⟩
          obtain ⟨g, rfl, q0, q1, hgB, hgV, hBg⟩ := HCELL.out k x hx
          have hgr : g < V2.heap.size := Nat.lt_of_lt_of_le hgV HOV.out.size
          have q0 := (HMq.out.only.cellF (p := ⟨g, k * 2, none⟩) hgr (HNB.out g (by omega))).trans ((HOV.out.cellF (p := ⟨g, k * 2, none⟩) hgV hgB).trans q0)
          have q1 := (HMq.out.only.cellF (p := ⟨g, k * 2 + 1, none⟩) hgr (HNB.out g (by omega))).trans ((HOV.out.cellF (p := ⟨g, k * 2 + 1, none⟩) hgV hgB).trans q1)
          have hxm : x ∈ s1.xs := by
            rw [HD.out.xs]
            have e5 : N = N.take k ++ x :: N.drop (k + 1) := by
              rw [← List.take_append_drop k N]
              congr 1
              · simp
              · rw [List.take_append_drop]; exact List.drop_eq_getElem?_toList_append.trans (by rw [hx]; rfl)
            exact mem_dropsL (N.take k) H.out.ok.list (e5 ▸ HNG.out) (fun y hy => HNM.out y (e5 ▸ hy))
          have hal := (Only.refl (fun _ => False) wr).alloc (.cells #[.int .i64 x.1, .int .i64 x.2] 63)
          have hdr := drop_any (HIq.out.adds hal) x hxm
          have HDR := Lib.hid hdr; have HAL := Lib.hid hal; have HX := Lib.hid hx; have HXM := Lib.hid hxm
          have hk4 : k < 1000000 := by omega
          have hwk := wrap_succ k hk4
          clear hdr hal hx hxm hgV hgB
          rw [hsr] at HDR
          go_wp2_with fail
          refine HDR.out.mono ?_
          rintro e W3 ⟨⟨v3, rfl⟩, lv3, h3, m3⟩
          have H3 := Lib.hid h3; have M3 := Lib.hid m3
          clear h3 m3 q0 q1
          go_wp2_with fail
          go_roundg (N.length - (k + 1))
          case measure => omega
          case rel =>
            have htk : N.take (k + 1) = N.take k ++ [x] := by rw [List.take_add_one, HX.out]; rfl
            exact ⟨k + 1, _, by simp, by omega, Nat.le_refl _, Lib.hid (by rw [htk]; exact Dels.snoc HD.out x HXM.out lv3), H3, Lib.hid (Moves.trans HMq.out (Moves.ahead HAL.out M3.out))⟩
        · obtain rfl : k = N.length := by omega
          rw [List.take_length] at HD
          have hfb := HFR.out.bd
          have hff := HFR.out.free
          rw [HN.out, HWH.out] at hfb hff
          rw [← HD.out.xs] at hff
          rw [← hsP] at hfb
          have hpu := put_any HIq.out wh hfb hff (by omega)
          have hB9 := HB.out.only HMq.out.only (HNB.out B (Nat.le_refl _))
          have w0 : wr.cell? ⟨B, 0, none⟩ = some (.int .i64 wh.1) := hB9.cell 0
          have w1 : wr.cell? ⟨B, 1, none⟩ = some (.int .i64 wh.2) := hB9.cell 1
          have HPU := Lib.hid hpu
          clear hfb hff hpu hB9
          rw [hsr] at HPU
          go_wp2_with fail
          refine HPU.out.mono ?_
          rintro e W3 ⟨⟨v3, rfl⟩, nb, lv3, h3, m3⟩
          have H3 := Lib.hid h3; have M3 := Lib.hid m3
          clear h3 m3 w0 w1
          go_wp2_with fail
          go_ret
          refine ⟨0, _, rfl, .inr (.inr ⟨hv, by rw [HN.out]; exact HNH.out, rfl, s1, nb, lv3, by rw [HN.out]; exact HD.out, by rw [HN.out, HWH.out]⟩), H3.out, ?_⟩
          exact Moves.trans (Moves.ahead HA2.out HMq.out) M3.out
end Go.Proofs.Ytbijbpnhakbeeaa

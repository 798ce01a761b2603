/- The document's free runs: Put, at whatever state. By an AI agent. -/
import Derived.Test.YtbijbpnhakbeeaaDocTake
namespace Go.Proofs.Ytbijbpnhakbeeaa
open Go.RowKit
/-- The runs beside those that are put back. -/
def touch (a n : Int) (y : Int × Int) : Bool := decide (y.1 + y.2 = a) || decide (y.1 = a + n)
def tch (a n : Int) (l : List (Int × Int)) : List (Int × Int) := l.filter (touch a n)
def dropsI (its : List It) (ys : List (Int × Int)) : List It := ys.foldl (fun i y => delI (kOf y) i) its
theorem dropsI_snoc (its : List It) (ys : List (Int × Int)) (y : Int × Int) : dropsI its (ys ++ [y]) = delI (kOf y) (dropsI its ys) := by simp [dropsI]
theorem dropsI_len : ∀ (ys : List (Int × Int)) (its : List It), (dropsI its ys).length ≤ its.length
  | [], _ => Nat.le_refl _
  | y :: ys, its => Nat.le_trans (dropsI_len ys (delI (kOf y) its)) (delI_len _ _)
theorem tch_hit {a n : Int} {l : List (Int × Int)} {k : Nat} {y : Int × Int} (h : l[k]? = some y) (ht : touch a n y = true) : tch a n (l.take (k + 1)) = tch a n (l.take k) ++ [y] := by
  rw [List.take_add_one, h]; simp [tch, ht]
theorem tch_miss {a n : Int} {l : List (Int × Int)} {k : Nat} {y : Int × Int} (h : l[k]? = some y) (ht : touch a n y = false) : tch a n (l.take (k + 1)) = tch a n (l.take k) := by
  rw [List.take_add_one, h]; simp [tch, ht]
def DS.tree (s : DS) (its : List It) (lv : Value) : DS := { s with its := its, lv := lv }
/-- What Put wants of the items. -/
structure GiveAsk (s : DS) (a n : Int) : Prop where
  key : ∀ (k : Nat) (y : Int × Int), (lstN s.fr s.fr.length)[k]? = some y → touch a n y = true → hasK (kOf y) (dropsI s.its (tch a n ((lstN s.fr s.fr.length).take k))) = true
  bd : 0 ≤ (wholeL a n (tch a n (lstN s.fr s.fr.length))).1 ∧ 1 ≤ (wholeL a n (tch a n (lstN s.fr s.fr.length))).2 ∧ (wholeL a n (tch a n (lstN s.fr s.fr.length))).1 + (wholeL a n (tch a n (lstN s.fr s.fr.length))).2 ≤ 4096
  new : hasK (kOf (wholeL a n (tch a n (lstN s.fr s.fr.length)))) (dropsI s.its (tch a n (lstN s.fr s.fr.length))) = false
def GiveD (s : DS) (a n c : Int) (s' : DS) : Prop :=
  ((a < 0 ∨ n < 1 ∨ (s.fr.length : Int) ≤ a ∨ (s.fr.length : Int) - a < n) ∧ c = 1 ∧ s' = s) ∨
  ((0 ≤ a ∧ 1 ≤ n ∧ a + n ≤ s.fr.length) ∧ (∃ p : Int, a ≤ p ∧ p < a + n ∧ s.fr.getD p.toNat false = true) ∧ c = 4 ∧ s' = s) ∨
  ((0 ≤ a ∧ 1 ≤ n ∧ a + n ≤ s.fr.length) ∧ (∀ p : Int, a ≤ p → p < a + n → s.fr.getD p.toNat false = false) ∧ c = 0 ∧ ∃ lv lv', s' = ((s.tree (dropsI s.its (tch a n (lstN s.fr s.fr.length))) lv).setF a.toNat true n.toNat).add (wholeL a n (tch a n (lstN s.fr s.fr.length))) lv')
def GivePost (s : DS) (a n : Int) (w : World) (e : Ending) (w' : World) : Prop := ∃ c s', e = .returned (.int .i64 c) ∧ GiveD s a n c s' ∧ IsDoc w' s' ∧ MovD s s' w w'
theorem give_bad {s : DS} {a n : Int} {w : World} (h : a < 0 ∨ n < 1 ∨ (s.fr.length : Int) ≤ a ∨ (s.fr.length : Int) - a < n) (H : IsDoc w s) : GivePost s a n w (.returned (.int .i64 1)) w :=
  ⟨1, s, rfl, .inl ⟨h, rfl, rfl⟩, H, MovD.refl _ (Only.refl _ _)⟩
theorem give_twice {s : DS} {a m k : Nat} {w : World} (hm : 1 ≤ (m : Int)) (hv : a + m ≤ s.fr.length) (hk : k < m) (hb : s.fr.getD (a + k) false = true) (H : IsDoc w s) : GivePost s a m w (.returned (.int .i64 4)) w :=
  ⟨4, s, rfl, .inr (.inl ⟨⟨by omega, hm, by omega⟩, ⟨((a + k : Nat) : Int), by omega, by omega, by rw [Int.toNat_natCast]; exact hb⟩, rfl, rfl⟩), H, MovD.refl _ (Only.refl _ _)⟩
theorem none_free {s : DS} {a m : Nat} (h : ∀ j, j < m → s.fr.getD (a + j) false = false) : ∀ p : Int, (a : Int) ≤ p → p < (a : Int) + (m : Int) → s.fr.getD p.toNat false = false := fun p h1 h2 => by
  obtain ⟨q, rfl⟩ : ∃ q : Nat, p = q := ⟨p.toNat, by omega⟩
  have := h (q - a) (by omega)
  rw [show a + (q - a) = q by omega] at this
  rw [Int.toNat_natCast]; exact this
theorem lst_small (s : DS) (hP : s.fr.length ≤ 4096) : ∀ y ∈ lstN s.fr s.fr.length, 0 ≤ y.1 ∧ y.1 < 1000000 ∧ 0 ≤ y.2 ∧ y.2 < 1000000 := fun y hy => (lstN_ok s.fr s.fr.length).1.small (by omega) y hy
theorem whole_small (s : DS) (hP : s.fr.length ≤ 4096) {a m : Nat} (hv : a + m ≤ s.fr.length) (k : Nat) : 0 ≤ (wholeL a m (tch a m ((lstN s.fr s.fr.length).take k))).1 ∧ (wholeL a m (tch a m ((lstN s.fr s.fr.length).take k))).1 < 1000000 ∧ 0 ≤ (wholeL a m (tch a m ((lstN s.fr s.fr.length).take k))).2 ∧ (wholeL a m (tch a m ((lstN s.fr s.fr.length).take k))).2 < 5000000000 := by
  have h1 := lstN_len s.fr s.fr.length
  have h2 : (tch (a : Int) (m : Int) ((lstN s.fr s.fr.length).take k)).length ≤ ((lstN s.fr s.fr.length).take k).length := List.length_filter_le _ _
  have h3 : ((lstN s.fr s.fr.length).take k).length ≤ (lstN s.fr s.fr.length).length := by rw [List.length_take]; omega
  refine wholeL_bound 5000000000 _ a m (fun y hy => lst_small s hP y (List.mem_of_mem_take (List.mem_filter.1 hy).1)) (by omega) (by omega) (by omega) (by omega)
theorem wrapC {x : Int} (h : -100000000000 ≤ x ∧ x ≤ 100000000000) : IntKind.i64.wrap x = x ∧ wrap64 x = x := ⟨wrap_ok x (by omega) (by omega), wrap64_ok x (by omega) (by omega)⟩
/-- What stands behind some rounds of Put's second loop. -/
structure GiveI (s : DS) (a n : Int) (L : List (Int × Int)) (w V wr : World) (B : Nat) (j : Nat) (lv : Value) (x1 x2 : Int) : Prop where
  x : wholeL a n (tch a n (L.take j)) = (x1, x2)
  doc : IsDoc wr (s.tree (dropsI s.its (tch a n (L.take j))) lv)
  mov : MovD s (s.tree (dropsI s.its (tch a n (L.take j))) lv) w wr
  out : ∀ y, (s.tree (dropsI s.its (tch a n (L.take j))) lv).all y → y ≠ B
  box : Blk wr B #[.int .i64 x1, .int .i64 x2] 63
  only : Only (fun y => y = s.rb ∨ y = B) V wr
theorem GiveI.drawn {s : DS} {a n : Int} {L : List (Int × Int)} {w V wr : World} {B j : Nat} {lv : Value} {x1 x2 : Int} (h : GiveI s a n L w V wr B j lv x1 x2) (q : Nat) : GiveI s a n L w V (wr.drewN q) B j lv x1 x2 :=
  ⟨h.x, h.doc.adds ((Only.refl (fun _ => False) wr).drewN q), h.mov.behind ((Only.refl (fun _ => False) wr).drewN q), h.out, h.box.drewN q, h.only.drewN q⟩
theorem GiveI.drew {s : DS} {a n : Int} {L : List (Int × Int)} {w V wr : World} {B j : Nat} {lv : Value} {x1 x2 : Int} (h : GiveI s a n L w V wr B j lv x1 x2) : GiveI s a n L w V wr.drew B j lv x1 x2 :=
  ⟨h.x, h.doc.adds (Only.refl (fun _ => False) wr).drew, h.mov.behind (Only.refl (fun _ => False) wr).drew, h.out, h.box.drew, h.only.drew⟩
theorem GiveI.miss {s : DS} {a n : Int} {L : List (Int × Int)} {w V wr : World} {B j : Nat} {lv : Value} {x1 x2 : Int} (h : GiveI s a n L w V wr B j lv x1 x2) {y : Int × Int} (hy : L[j]? = some y) (ht : touch a n y = false) : GiveI s a n L w V wr B (j + 1) lv x1 x2 := by
  have e := tch_miss (a := a) (n := n) hy ht
  exact ⟨by rw [e]; exact h.x, by rw [e]; exact h.doc, by rw [e]; exact h.mov, by rw [e]; exact h.out, h.box, h.only⟩
theorem GiveI.hit {s : DS} {a n : Int} {L : List (Int × Int)} {w V wr W2 : World} {B j : Nat} {lv lv2 : Value} {x1 x2 y1 y2 : Int} (h : GiveI s a n L w V wr B j lv x1 x2) (hy : L[j]? = some (y1, y2)) (ht : touch a n (y1, y2) = true) (hB : w.heap.size ≤ B)
    (h2 : IsDoc W2 ((s.tree (dropsI s.its (tch a n (L.take j))) lv).del (kOf (y1, y2)) lv2)) (m2 : MovD (s.tree (dropsI s.its (tch a n (L.take j))) lv) ((s.tree (dropsI s.its (tch a n (L.take j))) lv).del (kOf (y1, y2)) lv2) wr W2) (ho : Only (· = s.rb) wr W2) (hBr : B ≠ s.rb) :
    GiveI s a n L w V ((W2.setCell ⟨B, 1, none⟩ (.int .i64 (x2 + y2))).setCell ⟨B, 0, none⟩ (.int .i64 (min x1 y1))) B (j + 1) lv2 (min x1 y1) (x2 + y2) := by
  have e := tch_hit (a := a) (n := n) hy ht
  have eD : (s.tree (dropsI s.its (tch a n (L.take j))) lv).del (kOf (y1, y2)) lv2 = s.tree (dropsI s.its (tch a n (L.take (j + 1)))) lv2 := by
    rw [e, dropsI_snoc]; rfl
  rw [eD] at h2 m2
  have hall : ∀ y, (s.tree (dropsI s.its (tch a n (L.take (j + 1)))) lv2).all y → y ≠ B := fun y hy => by
    rcases m2.all y hy with h3 | h3
    · exact h.out y h3
    · have := h.box.lt; intro e; omega
  have hS : Only (· = B) W2 ((W2.setCell ⟨B, 1, none⟩ (.int .i64 (x2 + y2))).setCell ⟨B, 0, none⟩ (.int .i64 (min x1 y1))) :=
    ((Only.refl (· = B) W2).setCell (p := ⟨B, 1, none⟩) (.inl rfl) _).setCell (p := ⟨B, 0, none⟩) (.inl rfl) _
  have m3 := h.mov.trans m2
  refine ⟨?_, h2.only hS hall, ⟨(m3.only.setCell (p := ⟨B, 1, none⟩) (.inr hB) _).setCell (p := ⟨B, 0, none⟩) (.inr hB) _, m3.rb, m3.fb, m3.all⟩, hall, ((h.box.only ho hBr).setCell 1 _).setCell 0 _, (h.only.trans (ho.mono (fun _ _ e => .inl e))).trans (hS.mono (fun _ _ e => .inr e))⟩
  rw [e, wholeL_snoc, h.x]
theorem give_done {s D : DS} {a m : Nat} {lv lv' : Value} {x1 x2 : Int} {w W : World} (hm : 1 ≤ (m : Int)) (hv : a + m ≤ s.fr.length) (hf : ∀ p : Int, (a : Int) ≤ p → p < (a : Int) + (m : Int) → s.fr.getD p.toNat false = false)
    (hx : wholeL a m (tch a m (lstN s.fr s.fr.length)) = (x1, x2)) (hD : s.tree (dropsI s.its (tch a m (lstN s.fr s.fr.length))) lv = D) (h5 : IsDoc W ((D.setF a true m).add (x1, x2) lv')) (hM : MovD s ((D.setF a true m).add (x1, x2) lv') w W) : GivePost s a m w (.returned (.int .i64 0)) W :=
  ⟨0, _, rfl, .inr (.inr ⟨⟨by omega, hm, by omega⟩, hf, rfl, lv, lv', by rw [hD, hx]; rfl⟩), h5, hM⟩
set_option maxRecDepth 100000 in
set_option maxHeartbeats 8000000 in
theorem give9_any {w : World} {s : DS} (h : IsDoc w s) (a n : Int) (ha : 0 ≤ a → 1 ≤ n → a + n ≤ s.fr.length → (∀ p : Int, a ≤ p → p < a + n → s.fr.getD p.toNat false = false) → GiveAsk s a n) (hn : s.n < 1000000) (hil : s.its.length < 800000) :
    Calls Try.prog 40 #[.pointer (some ⟨s.rb, 0, none⟩), .int .i64 a, .int .i64 n] w (GivePost s a n w) := by
  have H := Lib.hid h
  have HA := Lib.hid ha
  obtain ⟨P, hP⟩ : ∃ P, s.fr.length = P := ⟨_, rfl⟩
  have hP2 : P ≤ 4096 := hP ▸ h.P2
  have c0 : w.cell? ⟨s.rb, 0, none⟩ = some (.slice (some ⟨s.fb, 0, none⟩) P P) := by rw [← hP]; exact h.blk.cell 0
  have HP := Lib.hid hP
  clear h ha hP
  by_cases h1 : a < 0
  · have h9 := give_bad (n := n) (.inl h1) H.out
    have H9 := Lib.hid h9
    clear h9
    go_enter Try.func40, Try.ntmps40
    go_wp2_with fail
    go_ret
    exact H9.out
  by_cases h2 : n < 1
  · have h9 := give_bad (a := a) (.inr (.inl h2)) H.out
    have H9 := Lib.hid h9
    clear h9
    go_enter Try.func40, Try.ntmps40
    go_wp2_with fail
    go_ret
    exact H9.out
  by_cases h3 : (P : Int) ≤ a
  · have h9 := give_bad (n := n) (.inr (.inr (.inl (by rw [HP.out]; exact h3)))) H.out
    have H9 := Lib.hid h9
    clear h9
    go_enter Try.func40, Try.ntmps40
    go_wp2_with fail
    go_ret
    exact H9.out
  obtain ⟨hw0, hw0'⟩ := wrapB (x := (P : Int) - a) (by constructor <;> omega)
  by_cases h4 : (P : Int) - a < n
  · have h9 := give_bad (.inr (.inr (.inr (by rw [HP.out]; exact h4)))) H.out
    have H9 := Lib.hid h9
    clear h9
    go_enter Try.func40, Try.ntmps40
    go_wp2_with fail
    go_ret
    exact H9.out
  obtain ⟨a, rfl⟩ : ∃ b : Nat, a = b := ⟨a.toNat, by omega⟩
  obtain ⟨m, rfl⟩ : ∃ m : Nat, n = m := ⟨n.toNat, by omega⟩
  have hv : a + m ≤ P := by omega
  have h3' : ¬ (P : Int) ≤ (a : Int) := h3
  obtain ⟨hw1, hw1'⟩ := wrapB (x := (a : Int) + (m : Int)) (by constructor <;> omega)
  have HF := Lib.hid (fun (i : Nat) (hi : i < P) => H.out.freeCell (i := i) (HP.out.symm ▸ hi))
  have HV := Lib.hid hv
  have HM := Lib.hid (show 1 ≤ (m : Int) by omega)
  go_enter Try.func40, Try.ntmps40
  go_wp2_with fail
  clear hw0 hw0' h4 h3 h3' h2
  go_loopw [7] (fun iv wr => ∃ k : Nat, iv = .int .i64 ((a + k : Nat) : Int) ∧ k ≤ m ∧ Hid (∀ j, j < k → s.fr.getD (a + j) false = false) ∧ wr = w) (fun iv _ => a + m - (intOf iv).toNat)
  case atStart => exact ⟨0, rfl, Nat.zero_le _, Lib.hid (fun j hj => absurd hj (by omega)), rfl⟩
  case round =>
    obtain ⟨k, rfl, hkm, HN, rfl⟩ := hrel
    have hka : a + k < 1000000 := lt_big HV.out hP2 hkm
    have hwk := wrap_succ (a + k) hka
    by_cases hk2 : k < m
    · have hap : a + k < P := lt_len HV.out hk2
      have e0 := HF.out (a + k) hap
      obtain ⟨ob, hob⟩ : ∃ ob, s.fr.getD (a + k) false = ob := ⟨_, rfl⟩
      rw [hob] at e0
      have HOB := Lib.hid hob
      clear hob
      cases ob with
      | true =>
        go_wp2_with fail
        go_ret
        exact give_twice HM.out (by rw [HP.out]; exact HV.out) hk2 HOB.out H.out
      | false =>
        go_wp2_with fail
        go_roundw
        case rel =>
          refine ⟨k + 1, stepI a k, hk2, Lib.hid (fun j hj => ?_), trivial⟩
          rcases Nat.lt_succ_iff_lt_or_eq.1 hj with h9 | rfl
          · exact HN.out j h9
          · exact HOB.out
        case measure => exact less_i hk2
    · obtain rfl : k = m := Nat.le_antisymm hkm (Nat.le_of_not_lt hk2)
      clear hkm hk2 hwk hka
      have hfr := none_free HN.out
      have hask := HA.out (Int.natCast_nonneg a) HM.out (by rw [HP.out]; have := HV.out; omega) hfr
      have HFR := Lib.hid hfr; have HASK := Lib.hid hask
      clear hfr hask
      generalize wr = w at *
      obtain ⟨B, hB⟩ : ∃ B, w.heap.size = B := ⟨_, rfl⟩
      obtain ⟨W, hW⟩ : ∃ W, w.alloc (.cells #[.int .i64 (a : Int), .int .i64 (k : Int)] 63) = W := ⟨_, rfl⟩
      have hbx : Blk W B #[.int .i64 (a : Int), .int .i64 (k : Int)] 63 := by rw [← hW, ← hB]; exact Blk.new w _ _
      have hO : Adds w W := by rw [← hW]; exact (Only.refl (fun _ => False) w).alloc _
      have hBr : B ≠ s.rb := by have := H.out.blk.lt; omega
      have hBf : B ≠ s.fb := by have := H.out.fre.lt; omega
      have HLI := Lib.hid (list9_any (H.out.adds hO))
      have HBX := Lib.hid hbx; have HO := Lib.hid hO; have HB := Lib.hid hB
      have hBW : B < W.heap.size := hbx.lt
      clear hbx hO
      go_upto_region 9 with fail
      clear hW hB
      go_wp2_with fail
      refine HLI.out.mono ?_
      rintro e V ⟨v, rfl, hrow, hoV⟩
      obtain ⟨la, lc, rfl⟩ := ownsRow_opened hrow
      obtain ⟨L, hL⟩ : ∃ L, lstN s.fr s.fr.length = L := ⟨_, rfl⟩
      have hcell : ∀ (j : Nat) (y : Int × Int), L[j]? = some y → ∃ g off, la = some ⟨g, off, none⟩ ∧ V.cell? ⟨g, off + j * 2, none⟩ = some (.int .i64 y.1) ∧ V.cell? ⟨g, off + j * 2 + 1, none⟩ = some (.int .i64 y.2) ∧ W.heap.size ≤ g := fun j y hj => by
        rw [hL] at hrow
        rcases row_shape hrow with ⟨_, e2⟩ | ⟨g, cp, e1⟩
        · have := (List.getElem?_eq_some_iff.1 hj).1; omega
        · cases e1
          have h6 := (row_two (ownsRow_base0 hrow)).1 j y hj
          exact ⟨g, 0, rfl, by rw [Nat.zero_add]; exact h6.1, by rw [Nat.zero_add]; exact h6.2, row_base hrow g rfl⟩
      have hll : L.length ≤ 4096 := by rw [← hL]; exact Nat.le_trans (lstN_len _ _) (by rw [HP.out]; exact hP2)
      rw [hL]
      obtain ⟨M, hMl⟩ : ∃ M, L.length = M := ⟨_, rfl⟩
      rw [hMl] at hll ⊢
      have HMA := Lib.hid (HO.out.thenF hoV)
      have HIV := Lib.hid (H.out.adds HMA.out)
      have HBV := Lib.hid (HBX.out.only hoV id)
      have HCELL := Lib.hid hcell; have HL := Lib.hid hL; have HML := Lib.hid hMl
      have HBB := Lib.hid (Nat.le_of_eq HB.out)
      clear hrow hoV hcell hL hMl c0
      go_wp2_with fail
      go_loopw [10] (fun iv wr => ∃ (j : Nat) (lv : Value) (x1 x2 : Int), iv = .int .i64 j ∧ j ≤ M ∧ Hid (GiveI s a k L w V wr B j lv x1 x2)) (fun iv _ => M - (intOf iv).toNat)
      case atStart => exact ⟨0, s.lv, _, _, rfl, Nat.zero_le _, Lib.hid ⟨rfl, HIV.out, MovD.refl s HMA.out, fun y hy => by have := H.out.lt y hy; have := HBB.out; omega, HBV.out, Only.refl _ _⟩⟩
      case round =>
        obtain ⟨j, lv, x1, x2, rfl, hj, HG⟩ := hrel
        have HX := Lib.hid HG.out.x; have HI := Lib.hid HG.out.doc; have HBQ := Lib.hid HG.out.box; have HOQ := Lib.hid HG.out.only
        have hj4 : j < 1000000 := Nat.lt_of_le_of_lt hj (Nat.lt_of_le_of_lt hll (by decide))
        have hwj := wrap_succ j hj4
        by_cases hjm : j < M
        · obtain ⟨y, hy⟩ : ∃ y, L[j]? = some y := ⟨_, List.getElem?_eq_getElem (HML.out.symm ▸ hjm)⟩
          obtain ⟨g, off, rfl, q0, q1, hgW⟩ := HCELL.out j y hy
          have hyb := lst_small s (HP.out.symm ▸ hP2) y (by rw [HL.out]; exact List.mem_of_getElem? hy)
          obtain ⟨y1, y2⟩ := y
          simp only at q0 q1 hyb
          have hgr : g ≠ s.rb := by have := H.out.blk.lt; have := HO.out.size; omega
          have hgB : g ≠ B := by omega
          have q0 := (HOQ.out.cellF (p := ⟨g, off + j * 2, none⟩) (cell_lt q0) (by rintro (e | e); exact hgr e; exact hgB e)).trans q0
          have q1 := (HOQ.out.cellF (p := ⟨g, off + j * 2 + 1, none⟩) (cell_lt q1) (by rintro (e | e); exact hgr e; exact hgB e)).trans q1
          have hxb := whole_small s (HP.out.symm ▸ hP2) (a := a) (m := k) (by rw [HP.out]; exact HV.out) j
          rw [HL.out, HX.out] at hxb
          obtain ⟨hwa, hwa'⟩ := wrapC (x := y1 + y2) (by constructor <;> omega)
          obtain ⟨hwb, hwb'⟩ := wrapC (x := 8192 * y2) (by constructor <;> omega)
          obtain ⟨hwc, hwc'⟩ := wrapC (x := 8192 * y2 + y1) (by constructor <;> omega)
          obtain ⟨hwd, hwd'⟩ := wrapC (x := x2 + y2) (by constructor <;> omega)
          have HY := Lib.hid hy; have HYB := Lib.hid hyb
          clear hy hyb hxb
          have w0 : wr.cell? ⟨B, 0, none⟩ = some (.int .i64 x1) := HBQ.out.cell 0
          have w1 : wr.cell? ⟨B, 1, none⟩ = some (.int .i64 x2) := HBQ.out.cell 1
          by_cases hA : y1 + y2 = (a : Int)
          · have ht : touch (a : Int) (k : Int) (y1, y2) = true := by simp [touch, hA]
            have HT := Lib.hid ht
            have dA : (y1 + y2 == (a : Int)) = true := by simpa using hA
            clear ht hA
            have HK := Lib.hid (HASK.out.key j (y1, y2) (by rw [HL.out]; exact HY.out) HT.out)
            rw [HL.out] at HK
            go_wp2_with fail
            go_quiet ((fail))
            go_upto_region 14 with fail
            refine wp_region_held_drew (S := (fun W' => W'.cell? ⟨g, off + j * 2, none⟩ = some (.int .i64 y1) ∧ W'.cell? ⟨g, off + j * 2 + 1, none⟩ = some (.int .i64 y2))) (by kernel_rfl) ⟨q0, q1⟩ (fun hHeld => ?_)
            refine wpAnyH_take (i := 0) (v := (.pointer (some ⟨s.rb, 0, none⟩))) rfl (by kernel_rfl) (by kernel_rfl) (by kernel_rfl) (fun _ _ _ h => h) (Or.inl ⟨by rfl, fun W hS => by first | rfl | (go_simp; done)⟩) hHeld ?_
            try simp only [Act.put, List.getElem_toArray, List.getElem_cons_succ, List.getElem_cons_zero, List.setIfInBounds_toArray, List.set_cons_zero, List.set_cons_succ]
            refine wpAnyH_take (i := 1) (v := (.pointer (some ⟨s.rb, 0, none⟩))) rfl (by kernel_rfl) (by kernel_rfl) (by kernel_rfl) (fun _ _ _ h => h) (Or.inl ⟨by rfl, fun W hS => by first | rfl | (go_simp; done)⟩) hHeld ?_
            try simp only [Act.put, List.getElem_toArray, List.getElem_cons_succ, List.getElem_cons_zero, List.setIfInBounds_toArray, List.set_cons_zero, List.set_cons_succ]
            refine wpAnyH_take (i := 2) (v := (.pointer (some ⟨s.rb, 1, none⟩))) rfl (by kernel_rfl) (by kernel_rfl) (by kernel_rfl) (fun _ _ _ h => h) (Or.inl ⟨by rfl, fun W hS => by first | rfl | (go_simp; done)⟩) hHeld ?_
            try simp only [Act.put, List.getElem_toArray, List.getElem_cons_succ, List.getElem_cons_zero, List.setIfInBounds_toArray, List.set_cons_zero, List.set_cons_succ]
            refine wpAnyH_take (i := 3) (v := (.slice (some ⟨g, off, none⟩) M lc)) rfl (by kernel_rfl) (by kernel_rfl) (by kernel_rfl) (fun _ _ _ h => h) (Or.inl ⟨by rfl, fun W hS => by first | rfl | (go_simp; done)⟩) hHeld ?_
            try simp only [Act.put, List.getElem_toArray, List.getElem_cons_succ, List.getElem_cons_zero, List.setIfInBounds_toArray, List.set_cons_zero, List.set_cons_succ]
            refine wpAnyH_take (i := 4) (v := (.int .i64 (j : Int))) rfl (by kernel_rfl) (by kernel_rfl) (by kernel_rfl) (fun _ _ _ h => h) (Or.inl ⟨by rfl, fun W hS => by first | rfl | (go_simp; done)⟩) hHeld ?_
            try simp only [Act.put, List.getElem_toArray, List.getElem_cons_succ, List.getElem_cons_zero, List.setIfInBounds_toArray, List.set_cons_zero, List.set_cons_succ]
            refine wpAnyH_take (i := 5) (v := (.pointer (some ⟨g, off + j * 2, none⟩))) rfl (by kernel_rfl) (by kernel_rfl) (by kernel_rfl) (fun _ _ _ h => h) (Or.inl ⟨by rfl, fun W hS => by (go_simp; done)⟩) hHeld ?_
            try simp only [Act.put, List.getElem_toArray, List.getElem_cons_succ, List.getElem_cons_zero, List.setIfInBounds_toArray, List.set_cons_zero, List.set_cons_succ]
            refine wpAnyH_take (i := 6) (v := (.pointer (some ⟨g, off + j * 2 + 1, none⟩))) rfl (by kernel_rfl) (by kernel_rfl) (by kernel_rfl) (fun _ _ _ h => h) (Or.inl ⟨by rfl, fun W hS => by (go_simp; done)⟩) hHeld ?_
            try simp only [Act.put, List.getElem_toArray, List.getElem_cons_succ, List.getElem_cons_zero, List.setIfInBounds_toArray, List.set_cons_zero, List.set_cons_succ]
            refine wpAnyH_take (i := 7) (v := (.int .i64 y2)) rfl (by kernel_rfl) (by kernel_rfl) (by kernel_rfl) (fun _ _ _ h => h) (Or.inl ⟨by rfl, fun W hS => by (obtain ⟨q1, q2⟩ := hS; go_simp; done)⟩) hHeld ?_
            try simp only [Act.put, List.getElem_toArray, List.getElem_cons_succ, List.getElem_cons_zero, List.setIfInBounds_toArray, List.set_cons_zero, List.set_cons_succ]
            refine wpAnyH_take (i := 8) (v := (.int .i64 (8192 * y2))) rfl (by kernel_rfl) (by kernel_rfl) (by kernel_rfl) (fun _ _ _ h => h) (Or.inl ⟨by rfl, fun W hS => by (go_simp; done)⟩) hHeld ?_
            try simp only [Act.put, List.getElem_toArray, List.getElem_cons_succ, List.getElem_cons_zero, List.setIfInBounds_toArray, List.set_cons_zero, List.set_cons_succ]
            refine wpAnyH_take (i := 9) (v := (.slice (some ⟨g, off, none⟩) M lc)) rfl (by kernel_rfl) (by kernel_rfl) (by kernel_rfl) (fun _ _ _ h => h) (Or.inl ⟨by rfl, fun W hS => by first | rfl | (go_simp; done)⟩) hHeld ?_
            try simp only [Act.put, List.getElem_toArray, List.getElem_cons_succ, List.getElem_cons_zero, List.setIfInBounds_toArray, List.set_cons_zero, List.set_cons_succ]
            refine wpAnyH_take (i := 10) (v := (.int .i64 (j : Int))) rfl (by kernel_rfl) (by kernel_rfl) (by kernel_rfl) (fun _ _ _ h => h) (Or.inl ⟨by rfl, fun W hS => by first | rfl | (go_simp; done)⟩) hHeld ?_
            try simp only [Act.put, List.getElem_toArray, List.getElem_cons_succ, List.getElem_cons_zero, List.setIfInBounds_toArray, List.set_cons_zero, List.set_cons_succ]
            refine wpAnyH_take (i := 11) (v := (.pointer (some ⟨g, off + j * 2, none⟩))) rfl (by kernel_rfl) (by kernel_rfl) (by kernel_rfl) (fun _ _ _ h => h) (Or.inl ⟨by rfl, fun W hS => by (go_simp; done)⟩) hHeld ?_
            try simp only [Act.put, List.getElem_toArray, List.getElem_cons_succ, List.getElem_cons_zero, List.setIfInBounds_toArray, List.set_cons_zero, List.set_cons_succ]
            refine wpAnyH_take (i := 12) (v := (.pointer (some ⟨g, off + j * 2, none⟩))) rfl (by kernel_rfl) (by kernel_rfl) (by kernel_rfl) (fun _ _ _ h => h) (Or.inl ⟨by rfl, fun W hS => by (go_simp; done)⟩) hHeld ?_
            try simp only [Act.put, List.getElem_toArray, List.getElem_cons_succ, List.getElem_cons_zero, List.setIfInBounds_toArray, List.set_cons_zero, List.set_cons_succ]
            refine wpAnyH_take (i := 13) (v := (.int .i64 y1)) rfl (by kernel_rfl) (by kernel_rfl) (by kernel_rfl) (fun _ _ _ h => h) (Or.inl ⟨by rfl, fun W hS => by (obtain ⟨q1, q2⟩ := hS; go_simp; done)⟩) hHeld ?_
            try simp only [Act.put, List.getElem_toArray, List.getElem_cons_succ, List.getElem_cons_zero, List.setIfInBounds_toArray, List.set_cons_zero, List.set_cons_succ]
            refine wpAnyH_take (i := 14) (v := (.int .i64 (8192 * y2 + y1))) rfl (by kernel_rfl) (by kernel_rfl) (by kernel_rfl) (fun _ _ _ h => h) (Or.inl ⟨by rfl, fun W hS => by (go_simp; done)⟩) hHeld ?_
            try simp only [Act.put, List.getElem_toArray, List.getElem_cons_succ, List.getElem_cons_zero, List.setIfInBounds_toArray, List.set_cons_zero, List.set_cons_succ]
            refine wpAnyH_ready (rs := [15]) (by kernel_rfl) (by simp) (AllReadyH.cons rfl (fun K hK => ?_) AllReadyH.nil)
            simp only [List.getElem_toArray, List.getElem_cons_succ, List.getElem_cons_zero]
            go_simp
            refine (drop9D_any (HG.out.drawn nq).drew.doc HK.out).mono ?_
            rintro e W2 ⟨⟨v, rfl⟩, lv2, h2, m2, ho2⟩
            refine hK.out _ _ ⟨(ho2.cellF (p := ⟨g, off + j * 2, none⟩) (cell_lt hHeld.1) hgr).trans hHeld.1, (ho2.cellF (p := ⟨g, off + j * 2 + 1, none⟩) (cell_lt hHeld.2) hgr).trans hHeld.2⟩ (fun hHeld => ?_)
            clear hK K
            try simp only [Act.put, List.getElem_toArray, List.getElem_cons_succ, List.getElem_cons_zero, List.setIfInBounds_toArray, List.set_cons_zero, List.set_cons_succ]
            refine wpAnyH_done (by kernel_rfl) ?_ _
            have hbx2 := (HBQ.out.only ((Only.refl (fun _ => False) wr).drewN nq).drew id).only ho2 hBr
            have w0 : W2.cell? ⟨B, 0, none⟩ = some (.int .i64 x1) := hbx2.cell 0
            have w1 : W2.cell? ⟨B, 1, none⟩ = some (.int .i64 x2) := hbx2.cell 1
            have f0 : W2.frozen? ⟨B, 0, none⟩ = false := hbx2.frozen 0
            have f1 : W2.frozen? ⟨B, 1, none⟩ = false := hbx2.frozen 1
            obtain ⟨q0, q1⟩ := hHeld
            have H2 := Lib.hid h2; have M2 := Lib.hid m2; have HO2 := Lib.hid ho2; have HBX2 := Lib.hid hbx2
            clear h2 m2 ho2 hbx2
            go_upto_region 15 with fail
            go_region
            go_upto_region 16 with fail
            go_region
            go_wp2_with fail
            go_roundw
            case rel => exact ⟨j + 1, lv2, min x1 y1, x2 + y2, by simp, hjm, Lib.hid (((HG.out.drawn nq).drew.hit HY.out HT.out HBB.out H2.out M2.out HO2.out hBr).drew.drew)⟩
            case measure => simp [intOf]; omega
          · have dA : (y1 + y2 == (a : Int)) = false := by simpa using hA
            clear hA
            by_cases hB : y1 = (a : Int) + (k : Int)
            · have ht : touch (a : Int) (k : Int) (y1, y2) = true := by simp [touch, hB]
              have HT := Lib.hid ht
              have dB : (y1 == (a : Int) + (k : Int)) = true := by simpa using hB
              clear ht hB
              have HK := Lib.hid (HASK.out.key j (y1, y2) (by rw [HL.out]; exact HY.out) HT.out)
              rw [HL.out] at HK
              go_wp2_with fail
              go_quiet ((fail))
              go_upto_region 14 with fail
              refine wp_region_held_drew (S := (fun W' => W'.cell? ⟨g, off + j * 2, none⟩ = some (.int .i64 y1) ∧ W'.cell? ⟨g, off + j * 2 + 1, none⟩ = some (.int .i64 y2))) (by kernel_rfl) ⟨q0, q1⟩ (fun hHeld => ?_)
              refine wpAnyH_take (i := 0) (v := (.pointer (some ⟨s.rb, 0, none⟩))) rfl (by kernel_rfl) (by kernel_rfl) (by kernel_rfl) (fun _ _ _ h => h) (Or.inl ⟨by rfl, fun W hS => by first | rfl | (go_simp; done)⟩) hHeld ?_
              try simp only [Act.put, List.getElem_toArray, List.getElem_cons_succ, List.getElem_cons_zero, List.setIfInBounds_toArray, List.set_cons_zero, List.set_cons_succ]
              refine wpAnyH_take (i := 1) (v := (.pointer (some ⟨s.rb, 0, none⟩))) rfl (by kernel_rfl) (by kernel_rfl) (by kernel_rfl) (fun _ _ _ h => h) (Or.inl ⟨by rfl, fun W hS => by first | rfl | (go_simp; done)⟩) hHeld ?_
              try simp only [Act.put, List.getElem_toArray, List.getElem_cons_succ, List.getElem_cons_zero, List.setIfInBounds_toArray, List.set_cons_zero, List.set_cons_succ]
              refine wpAnyH_take (i := 2) (v := (.pointer (some ⟨s.rb, 1, none⟩))) rfl (by kernel_rfl) (by kernel_rfl) (by kernel_rfl) (fun _ _ _ h => h) (Or.inl ⟨by rfl, fun W hS => by first | rfl | (go_simp; done)⟩) hHeld ?_
              try simp only [Act.put, List.getElem_toArray, List.getElem_cons_succ, List.getElem_cons_zero, List.setIfInBounds_toArray, List.set_cons_zero, List.set_cons_succ]
              refine wpAnyH_take (i := 3) (v := (.slice (some ⟨g, off, none⟩) M lc)) rfl (by kernel_rfl) (by kernel_rfl) (by kernel_rfl) (fun _ _ _ h => h) (Or.inl ⟨by rfl, fun W hS => by first | rfl | (go_simp; done)⟩) hHeld ?_
              try simp only [Act.put, List.getElem_toArray, List.getElem_cons_succ, List.getElem_cons_zero, List.setIfInBounds_toArray, List.set_cons_zero, List.set_cons_succ]
              refine wpAnyH_take (i := 4) (v := (.int .i64 (j : Int))) rfl (by kernel_rfl) (by kernel_rfl) (by kernel_rfl) (fun _ _ _ h => h) (Or.inl ⟨by rfl, fun W hS => by first | rfl | (go_simp; done)⟩) hHeld ?_
              try simp only [Act.put, List.getElem_toArray, List.getElem_cons_succ, List.getElem_cons_zero, List.setIfInBounds_toArray, List.set_cons_zero, List.set_cons_succ]
              refine wpAnyH_take (i := 5) (v := (.pointer (some ⟨g, off + j * 2, none⟩))) rfl (by kernel_rfl) (by kernel_rfl) (by kernel_rfl) (fun _ _ _ h => h) (Or.inl ⟨by rfl, fun W hS => by (go_simp; done)⟩) hHeld ?_
              try simp only [Act.put, List.getElem_toArray, List.getElem_cons_succ, List.getElem_cons_zero, List.setIfInBounds_toArray, List.set_cons_zero, List.set_cons_succ]
              refine wpAnyH_take (i := 6) (v := (.pointer (some ⟨g, off + j * 2 + 1, none⟩))) rfl (by kernel_rfl) (by kernel_rfl) (by kernel_rfl) (fun _ _ _ h => h) (Or.inl ⟨by rfl, fun W hS => by (go_simp; done)⟩) hHeld ?_
              try simp only [Act.put, List.getElem_toArray, List.getElem_cons_succ, List.getElem_cons_zero, List.setIfInBounds_toArray, List.set_cons_zero, List.set_cons_succ]
              refine wpAnyH_take (i := 7) (v := (.int .i64 y2)) rfl (by kernel_rfl) (by kernel_rfl) (by kernel_rfl) (fun _ _ _ h => h) (Or.inl ⟨by rfl, fun W hS => by (obtain ⟨q1, q2⟩ := hS; go_simp; done)⟩) hHeld ?_
              try simp only [Act.put, List.getElem_toArray, List.getElem_cons_succ, List.getElem_cons_zero, List.setIfInBounds_toArray, List.set_cons_zero, List.set_cons_succ]
              refine wpAnyH_take (i := 8) (v := (.int .i64 (8192 * y2))) rfl (by kernel_rfl) (by kernel_rfl) (by kernel_rfl) (fun _ _ _ h => h) (Or.inl ⟨by rfl, fun W hS => by (go_simp; done)⟩) hHeld ?_
              try simp only [Act.put, List.getElem_toArray, List.getElem_cons_succ, List.getElem_cons_zero, List.setIfInBounds_toArray, List.set_cons_zero, List.set_cons_succ]
              refine wpAnyH_take (i := 9) (v := (.slice (some ⟨g, off, none⟩) M lc)) rfl (by kernel_rfl) (by kernel_rfl) (by kernel_rfl) (fun _ _ _ h => h) (Or.inl ⟨by rfl, fun W hS => by first | rfl | (go_simp; done)⟩) hHeld ?_
              try simp only [Act.put, List.getElem_toArray, List.getElem_cons_succ, List.getElem_cons_zero, List.setIfInBounds_toArray, List.set_cons_zero, List.set_cons_succ]
              refine wpAnyH_take (i := 10) (v := (.int .i64 (j : Int))) rfl (by kernel_rfl) (by kernel_rfl) (by kernel_rfl) (fun _ _ _ h => h) (Or.inl ⟨by rfl, fun W hS => by first | rfl | (go_simp; done)⟩) hHeld ?_
              try simp only [Act.put, List.getElem_toArray, List.getElem_cons_succ, List.getElem_cons_zero, List.setIfInBounds_toArray, List.set_cons_zero, List.set_cons_succ]
              refine wpAnyH_take (i := 11) (v := (.pointer (some ⟨g, off + j * 2, none⟩))) rfl (by kernel_rfl) (by kernel_rfl) (by kernel_rfl) (fun _ _ _ h => h) (Or.inl ⟨by rfl, fun W hS => by (go_simp; done)⟩) hHeld ?_
              try simp only [Act.put, List.getElem_toArray, List.getElem_cons_succ, List.getElem_cons_zero, List.setIfInBounds_toArray, List.set_cons_zero, List.set_cons_succ]
              refine wpAnyH_take (i := 12) (v := (.pointer (some ⟨g, off + j * 2, none⟩))) rfl (by kernel_rfl) (by kernel_rfl) (by kernel_rfl) (fun _ _ _ h => h) (Or.inl ⟨by rfl, fun W hS => by (go_simp; done)⟩) hHeld ?_
              try simp only [Act.put, List.getElem_toArray, List.getElem_cons_succ, List.getElem_cons_zero, List.setIfInBounds_toArray, List.set_cons_zero, List.set_cons_succ]
              refine wpAnyH_take (i := 13) (v := (.int .i64 y1)) rfl (by kernel_rfl) (by kernel_rfl) (by kernel_rfl) (fun _ _ _ h => h) (Or.inl ⟨by rfl, fun W hS => by (obtain ⟨q1, q2⟩ := hS; go_simp; done)⟩) hHeld ?_
              try simp only [Act.put, List.getElem_toArray, List.getElem_cons_succ, List.getElem_cons_zero, List.setIfInBounds_toArray, List.set_cons_zero, List.set_cons_succ]
              refine wpAnyH_take (i := 14) (v := (.int .i64 (8192 * y2 + y1))) rfl (by kernel_rfl) (by kernel_rfl) (by kernel_rfl) (fun _ _ _ h => h) (Or.inl ⟨by rfl, fun W hS => by (go_simp; done)⟩) hHeld ?_
              try simp only [Act.put, List.getElem_toArray, List.getElem_cons_succ, List.getElem_cons_zero, List.setIfInBounds_toArray, List.set_cons_zero, List.set_cons_succ]
              refine wpAnyH_ready (rs := [15]) (by kernel_rfl) (by simp) (AllReadyH.cons rfl (fun K hK => ?_) AllReadyH.nil)
              simp only [List.getElem_toArray, List.getElem_cons_succ, List.getElem_cons_zero]
              go_simp
              refine (drop9D_any (HG.out.drawn nq).drew.doc HK.out).mono ?_
              rintro e W2 ⟨⟨v, rfl⟩, lv2, h2, m2, ho2⟩
              refine hK.out _ _ ⟨(ho2.cellF (p := ⟨g, off + j * 2, none⟩) (cell_lt hHeld.1) hgr).trans hHeld.1, (ho2.cellF (p := ⟨g, off + j * 2 + 1, none⟩) (cell_lt hHeld.2) hgr).trans hHeld.2⟩ (fun hHeld => ?_)
              clear hK K
              try simp only [Act.put, List.getElem_toArray, List.getElem_cons_succ, List.getElem_cons_zero, List.setIfInBounds_toArray, List.set_cons_zero, List.set_cons_succ]
              refine wpAnyH_done (by kernel_rfl) ?_ _
              have hbx2 := (HBQ.out.only ((Only.refl (fun _ => False) wr).drewN nq).drew id).only ho2 hBr
              have w0 : W2.cell? ⟨B, 0, none⟩ = some (.int .i64 x1) := hbx2.cell 0
              have w1 : W2.cell? ⟨B, 1, none⟩ = some (.int .i64 x2) := hbx2.cell 1
              have f0 : W2.frozen? ⟨B, 0, none⟩ = false := hbx2.frozen 0
              have f1 : W2.frozen? ⟨B, 1, none⟩ = false := hbx2.frozen 1
              obtain ⟨q0, q1⟩ := hHeld
              have H2 := Lib.hid h2; have M2 := Lib.hid m2; have HO2 := Lib.hid ho2; have HBX2 := Lib.hid hbx2
              clear h2 m2 ho2 hbx2
              go_upto_region 15 with fail
              go_region
              go_upto_region 16 with fail
              go_region
              go_wp2_with fail
              go_roundw
              case rel => exact ⟨j + 1, lv2, min x1 y1, x2 + y2, by simp, hjm, Lib.hid (((HG.out.drawn nq).drew.hit HY.out HT.out HBB.out H2.out M2.out HO2.out hBr).drew.drew)⟩
              case measure => simp [intOf]; omega
            · have dB : (y1 == (a : Int) + (k : Int)) = false := by simpa using hB
              have ht : touch (a : Int) (k : Int) (y1, y2) = false := by simp at dA dB; simp [touch, dA, dB]
              have HT := Lib.hid ht
              clear ht hB
              go_wp2_with fail
              go_quiet ((fail))
              go_wp2_with fail
              go_roundw
              case rel => exact ⟨j + 1, lv, x1, x2, by simp, hjm, Lib.hid ((HG.out.miss HY.out HT.out).drawn nq)⟩
              case measure => simp [intOf]; omega
        · obtain rfl : j = M := Nat.le_antisymm hj (Nat.le_of_not_lt hjm)
          obtain ⟨hx, hdoc, hmov, -, hbox, -⟩ := HG.out
          rw [List.take_of_length_le (Nat.le_of_eq HML.out)] at hx hdoc hmov
          obtain ⟨D, hD⟩ : ∃ D, s.tree (dropsI s.its (tch a k L)) lv = D := ⟨_, rfl⟩
          rw [hD] at hdoc hmov
          have hDr : D.rb = s.rb := by rw [← hD]; rfl
          have hDf : D.fb = s.fb := by rw [← hD]; rfl
          have hDl : D.fr.length = P := by rw [← hD]; exact HP.out
          have hDi : D.its = dropsI s.its (tch a k L) := by rw [← hD]; rfl
          have hDn : D.n = s.n := by rw [← hD]; rfl
          have HX := Lib.hid hx; have H2 := Lib.hid hdoc; have M2 := Lib.hid hmov; have HBX2 := Lib.hid hbox; have HD := Lib.hid hD; have HDI := Lib.hid hDi
          clear hx hdoc hmov hbox hD hDi HG HBX HBV HIV HMA HCELL HLI
          have HFRE := HFR
          clear hj hjm hj4 hwj hll
          go_wp2_with fail
          go_loopw [11] (fun iv wq => ∃ i : Nat, iv = .int .i64 ((a + i : Nat) : Int) ∧ i ≤ k ∧ Hid (IsDoc wq (D.setF a true i)) ∧ Hid (MovD s (D.setF a true i) w wq) ∧ Hid (Blk wq B #[.int .i64 x1, .int .i64 x2] 63)) (fun iv _ => a + k - (intOf iv).toNat)
          case atStart => exact ⟨0, rfl, Nat.zero_le _, H2, M2, HBX2⟩
          case round =>
            obtain ⟨i, rfl, hik, HR, HMV, HBR⟩ := hrel
            have c0 : wr.cell? ⟨B, 0, none⟩ = some (.int .i64 x1) := HBR.out.cell 0
            have c1 : wr.cell? ⟨B, 1, none⟩ = some (.int .i64 x2) := HBR.out.cell 1
            have hlf : (setTo D.fr a true i).length = P := by rw [setTo_len]; exact hDl
            have d0 : wr.cell? ⟨s.rb, 0, none⟩ = some (.slice (some ⟨s.fb, 0, none⟩) P P) := by
              have h9 := HR.out.blk.cell 0
              rw [show (D.setF a true i).rb = s.rb from hDr, show (D.setF a true i).fv = .slice (some ⟨s.fb, 0, none⟩) P P by unfold DS.setF DS.fv; simp only [hlf, hDf]] at h9
              exact h9
            have hia : a + i < 1000000 := lt_big HV.out hP2 hik
            have hwi := wrap_succ (a + i) hia
            by_cases hi2 : i < k
            · have hap : a + i < P := lt_len HV.out hi2
              have e0 := HR.out.freeCell (i := a + i) (by show a + i < (setTo D.fr a true i).length; rw [hlf]; exact hap)
              rw [show (D.setF a true i).fb = s.fb from hDf] at e0
              generalize (D.setF a true i).fr.getD (a + i) false = ob at e0
              have fe : wr.frozen? ⟨s.fb, a + i, none⟩ = false := by have := HR.out.fre.frozen (a + i); rwa [show (D.setF a true i).fb = s.fb from hDf] at this
              go_wp2_with fail
              go_roundw
              case rel =>
                obtain ⟨n1, n2⟩ := pageD HR.out HMV.out hDf
                exact ⟨i + 1, stepI a i, hi2, Lib.hid n1, Lib.hid n2, Lib.hid (HBR.out.only ((Only.refl (· = s.fb) wr).setCell (p := ⟨s.fb, a + i, none⟩) (.inl rfl) _) hBf)⟩
              case measure => exact less_i hi2
            · obtain rfl : i = k := Nat.le_antisymm hik (Nat.le_of_not_lt hi2)
              have hw := HASK.out.bd; have hnw := HASK.out.new
              rw [HL.out, HX.out] at hw hnw
              have q2 : hasK (kOf (x1, x2)) (D.setF a true i).its = false := by
                rw [show (D.setF a true i).its = D.its from rfl, HDI.out]; exact hnw
              have q3 : (D.setF a true i).n < 1000000 := by rw [show (D.setF a true i).n = D.n from rfl, hDn]; exact hn
              have q4 : (D.setF a true i).its.length < 800000 := by
                rw [show (D.setF a true i).its = D.its from rfl, HDI.out]; exact Nat.lt_of_le_of_lt (dropsI_len _ _) hil
              have had := add9_any HR.out (x1, x2) hw q2 q3 q4
              rw [show (D.setF a true i).rb = s.rb from hDr] at had
              simp only at had
              have HAD := Lib.hid had
              clear hw hnw q2 q3 q4 had
              go_wp2_with (go_at_call 65; refine HAD.out.mono ?_; rintro e W3 ⟨⟨v, rfl⟩, lv', h5, m5⟩; have H5 := Lib.hid h5; have M5 := Lib.hid m5; clear h5 m5)
              go_ret
              exact give_done HM.out (by rw [HP.out]; exact HV.out) HFRE.out (HL.out ▸ HX.out) (HL.out ▸ HD.out) H5.out (HMV.out.trans M5.out)
end Go.Proofs.Ytbijbpnhakbeeaa

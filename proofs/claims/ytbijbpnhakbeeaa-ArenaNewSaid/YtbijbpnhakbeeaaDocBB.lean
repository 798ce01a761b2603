/- The document's free runs: Put, at whatever state. The document's shape of a tree, out of its items, at whatever state. The document's free runs: Shape; New with whatever draws. The program's free runs and the document's go together: a plain law. The law's same: is all that is seen alike? The program's free runs beside the document's, in one heap. The document's arena begins, with whatever draws. By an AI agent. -/
import Derived.Test.YtbijbpnhakbeeaaDocAA
import Derived.Deep.DeepCutAuto
import Derived.Deep.CutBlock
import Derived.Deep.OwnRows
import Derived.Test.YtbijbpnhakbeeaaRunsSome
import Derived.Test.YtbijbpnhakbeeaaStoreRef
import Derived.Test.YtbijbpnhakbeeaaStoreBegun
import Derived.Test.YtbijbpnhakbeeaaLayoutRef
namespace Go.Proofs.Ytbijbpnhakbeeaa
open Go.RowKit
/-- The runs beside those that are put back. -/
def touch (a n : Int) (y : Int × Int) : Bool := decide (y.1 + y.2 = a) || decide (y.1 = a + n)
def tch (a n : Int) (l : List (Int × Int)) : List (Int × Int) := l.filter (touch a n)
def dropsI (its : List It) (ys : List (Int × Int)) : List It := ys.foldl (fun i y => delI (kOf y) i) its
theorem dropsI_snoc (its : List It) (ys : List (Int × Int)) (y : Int × Int) : dropsI its (ys ++ [y]) = delI (kOf y) (dropsI its ys) := by simp [dropsI]
theorem dropsI_len : ∀ (ys : List (Int × Int)) (its : List It), (dropsI its ys).length ≤ its.length
  | [], _ => Nat.le_refl _
  | y :: ys, its => Nat.le_trans (dropsI_len ys (delI (kOf y) its)) (delI_len _ _)
theorem tch_hit {a n : Int} {l : List (Int × Int)} {k : Nat} {y : Int × Int} (h : l[k]? = some y) (ht : touch a n y = true) : tch a n (l.take (k + 1)) = tch a n (l.take k) ++ [y] := by
  rw [List.take_add_one, h]; simp [tch, ht]
theorem tch_miss {a n : Int} {l : List (Int × Int)} {k : Nat} {y : Int × Int} (h : l[k]? = some y) (ht : touch a n y = false) : tch a n (l.take (k + 1)) = tch a n (l.take k) := by
  rw [List.take_add_one, h]; simp [tch, ht]
def DS.tree (s : DS) (its : List It) (lv : Value) : DS := { s with its := its, lv := lv }
/-- What Put wants of the items. -/
structure GiveAsk (s : DS) (a n : Int) : Prop where
  key : ∀ (k : Nat) (y : Int × Int), (lstN s.fr s.fr.length)[k]? = some y → touch a n y = true → hasK (kOf y) (dropsI s.its (tch a n ((lstN s.fr s.fr.length).take k))) = true
  bd : 0 ≤ (wholeL a n (tch a n (lstN s.fr s.fr.length))).1 ∧ 1 ≤ (wholeL a n (tch a n (lstN s.fr s.fr.length))).2 ∧ (wholeL a n (tch a n (lstN s.fr s.fr.length))).1 + (wholeL a n (tch a n (lstN s.fr s.fr.length))).2 ≤ 4096
  new : hasK (kOf (wholeL a n (tch a n (lstN s.fr s.fr.length)))) (dropsI s.its (tch a n (lstN s.fr s.fr.length))) = false
def GiveD (s : DS) (a n c : Int) (s' : DS) : Prop :=
  ((a < 0 ∨ n < 1 ∨ (s.fr.length : Int) ≤ a ∨ (s.fr.length : Int) - a < n) ∧ c = 1 ∧ s' = s) ∨
  ((0 ≤ a ∧ 1 ≤ n ∧ a + n ≤ s.fr.length) ∧ (∃ p : Int, a ≤ p ∧ p < a + n ∧ s.fr.getD p.toNat false = true) ∧ c = 4 ∧ s' = s) ∨
  ((0 ≤ a ∧ 1 ≤ n ∧ a + n ≤ s.fr.length) ∧ (∀ p : Int, a ≤ p → p < a + n → s.fr.getD p.toNat false = false) ∧ c = 0 ∧ ∃ lv lv', s' = ((s.tree (dropsI s.its (tch a n (lstN s.fr s.fr.length))) lv).setF a.toNat true n.toNat).add (wholeL a n (tch a n (lstN s.fr s.fr.length))) lv')
def GivePost (s : DS) (a n : Int) (w : World) (e : Ending) (w' : World) : Prop := ∃ c s', e = .returned (.int .i64 c) ∧ GiveD s a n c s' ∧ IsDoc w' s' ∧ MovD s s' w w'
theorem give_bad {s : DS} {a n : Int} {w : World} (h : a < 0 ∨ n < 1 ∨ (s.fr.length : Int) ≤ a ∨ (s.fr.length : Int) - a < n) (H : IsDoc w s) : GivePost s a n w (.returned (.int .i64 1)) w :=
  ⟨1, s, rfl, .inl ⟨h, rfl, rfl⟩, H, MovD.refl _ (Only.refl _ _)⟩
theorem give_twice {s : DS} {a m k : Nat} {w : World} (hm : 1 ≤ (m : Int)) (hv : a + m ≤ s.fr.length) (hk : k < m) (hb : s.fr.getD (a + k) false = true) (H : IsDoc w s) : GivePost s a m w (.returned (.int .i64 4)) w :=
  ⟨4, s, rfl, .inr (.inl ⟨⟨by omega, hm, by omega⟩, ⟨((a + k : Nat) : Int), by omega, by omega, by rw [Int.toNat_natCast]; exact hb⟩, rfl, rfl⟩), H, MovD.refl _ (Only.refl _ _)⟩
theorem none_free {s : DS} {a m : Nat} (h : ∀ j, j < m → s.fr.getD (a + j) false = false) : ∀ p : Int, (a : Int) ≤ p → p < (a : Int) + (m : Int) → s.fr.getD p.toNat false = false := fun p h1 h2 => by
  obtain ⟨q, rfl⟩ : ∃ q : Nat, p = q := ⟨p.toNat, by omega⟩
  have := h (q - a) (by omega)
  rw [show a + (q - a) = q by omega] at this
  rw [Int.toNat_natCast]; exact this
theorem lst_small (s : DS) (hP : s.fr.length ≤ 4096) : ∀ y ∈ lstN s.fr s.fr.length, 0 ≤ y.1 ∧ y.1 < 1000000 ∧ 0 ≤ y.2 ∧ y.2 < 1000000 := fun y hy => (lstN_ok s.fr s.fr.length).1.small (by omega) y hy
theorem whole_small (s : DS) (hP : s.fr.length ≤ 4096) {a m : Nat} (hv : a + m ≤ s.fr.length) (k : Nat) : 0 ≤ (wholeL a m (tch a m ((lstN s.fr s.fr.length).take k))).1 ∧ (wholeL a m (tch a m ((lstN s.fr s.fr.length).take k))).1 < 1000000 ∧ 0 ≤ (wholeL a m (tch a m ((lstN s.fr s.fr.length).take k))).2 ∧ (wholeL a m (tch a m ((lstN s.fr s.fr.length).take k))).2 < 5000000000 := by
  have h1 := lstN_len s.fr s.fr.length
  have h2 : (tch (a : Int) (m : Int) ((lstN s.fr s.fr.length).take k)).length ≤ ((lstN s.fr s.fr.length).take k).length := List.length_filter_le _ _
  have h3 : ((lstN s.fr s.fr.length).take k).length ≤ (lstN s.fr s.fr.length).length := by rw [List.length_take]; omega
  refine wholeL_bound 5000000000 _ a m (fun y hy => lst_small s hP y (List.mem_of_mem_take (List.mem_filter.1 hy).1)) (by omega) (by omega) (by omega) (by omega)
theorem wrapC {x : Int} (h : -100000000000 ≤ x ∧ x ≤ 100000000000) : IntKind.i64.wrap x = x ∧ wrap64 x = x := ⟨wrap_ok x (by omega) (by omega), wrap64_ok x (by omega) (by omega)⟩
/-- What stands behind some rounds of Put's second loop. -/
structure GiveI (s : DS) (a n : Int) (L : List (Int × Int)) (w V wr : World) (B : Nat) (j : Nat) (lv : Value) (x1 x2 : Int) : Prop where
  x : wholeL a n (tch a n (L.take j)) = (x1, x2)
  doc : IsDoc wr (s.tree (dropsI s.its (tch a n (L.take j))) lv)
  mov : MovD s (s.tree (dropsI s.its (tch a n (L.take j))) lv) w wr
  out : ∀ y, (s.tree (dropsI s.its (tch a n (L.take j))) lv).all y → y ≠ B
  box : Blk wr B #[.int .i64 x1, .int .i64 x2] 63
  only : Only (fun y => y = s.rb ∨ y = B) V wr
theorem GiveI.drawn {s : DS} {a n : Int} {L : List (Int × Int)} {w V wr : World} {B j : Nat} {lv : Value} {x1 x2 : Int} (h : GiveI s a n L w V wr B j lv x1 x2) (q : Nat) : GiveI s a n L w V (wr.drewN q) B j lv x1 x2 :=
  ⟨h.x, h.doc.adds ((Only.refl (fun _ => False) wr).drewN q), h.mov.behind ((Only.refl (fun _ => False) wr).drewN q), h.out, h.box.drewN q, h.only.drewN q⟩
theorem GiveI.drew {s : DS} {a n : Int} {L : List (Int × Int)} {w V wr : World} {B j : Nat} {lv : Value} {x1 x2 : Int} (h : GiveI s a n L w V wr B j lv x1 x2) : GiveI s a n L w V wr.drew B j lv x1 x2 :=
  ⟨h.x, h.doc.adds (Only.refl (fun _ => False) wr).drew, h.mov.behind (Only.refl (fun _ => False) wr).drew, h.out, h.box.drew, h.only.drew⟩
theorem GiveI.miss {s : DS} {a n : Int} {L : List (Int × Int)} {w V wr : World} {B j : Nat} {lv : Value} {x1 x2 : Int} (h : GiveI s a n L w V wr B j lv x1 x2) {y : Int × Int} (hy : L[j]? = some y) (ht : touch a n y = false) : GiveI s a n L w V wr B (j + 1) lv x1 x2 := by
  have e := tch_miss (a := a) (n := n) hy ht
  exact ⟨by rw [e]; exact h.x, by rw [e]; exact h.doc, by rw [e]; exact h.mov, by rw [e]; exact h.out, h.box, h.only⟩
theorem GiveI.hit {s : DS} {a n : Int} {L : List (Int × Int)} {w V wr W2 : World} {B j : Nat} {lv lv2 : Value} {x1 x2 y1 y2 : Int} (h : GiveI s a n L w V wr B j lv x1 x2) (hy : L[j]? = some (y1, y2)) (ht : touch a n (y1, y2) = true) (hB : w.heap.size ≤ B)
    (h2 : IsDoc W2 ((s.tree (dropsI s.its (tch a n (L.take j))) lv).del (kOf (y1, y2)) lv2)) (m2 : MovD (s.tree (dropsI s.its (tch a n (L.take j))) lv) ((s.tree (dropsI s.its (tch a n (L.take j))) lv).del (kOf (y1, y2)) lv2) wr W2) (ho : Only (· = s.rb) wr W2) (hBr : B ≠ s.rb) :
    GiveI s a n L w V ((W2.setCell ⟨B, 1, none⟩ (.int .i64 (x2 + y2))).setCell ⟨B, 0, none⟩ (.int .i64 (min x1 y1))) B (j + 1) lv2 (min x1 y1) (x2 + y2) := by
  have e := tch_hit (a := a) (n := n) hy ht
  have eD : (s.tree (dropsI s.its (tch a n (L.take j))) lv).del (kOf (y1, y2)) lv2 = s.tree (dropsI s.its (tch a n (L.take (j + 1)))) lv2 := by
    rw [e, dropsI_snoc]; rfl
  rw [eD] at h2 m2
  have hall : ∀ y, (s.tree (dropsI s.its (tch a n (L.take (j + 1)))) lv2).all y → y ≠ B := fun y hy => by
    rcases m2.all y hy with h3 | h3
    · exact h.out y h3
    · have := h.box.lt; intro e; omega
  have hS : Only (· = B) W2 ((W2.setCell ⟨B, 1, none⟩ (.int .i64 (x2 + y2))).setCell ⟨B, 0, none⟩ (.int .i64 (min x1 y1))) :=
    ((Only.refl (· = B) W2).setCell (p := ⟨B, 1, none⟩) (.inl rfl) _).setCell (p := ⟨B, 0, none⟩) (.inl rfl) _
  have m3 := h.mov.trans m2
  refine ⟨?_, h2.only hS hall, ⟨(m3.only.setCell (p := ⟨B, 1, none⟩) (.inr hB) _).setCell (p := ⟨B, 0, none⟩) (.inr hB) _, m3.rb, m3.fb, m3.all⟩, hall, ((h.box.only ho hBr).setCell 1 _).setCell 0 _, (h.only.trans (ho.mono (fun _ _ e => .inl e))).trans (hS.mono (fun _ _ e => .inr e))⟩
  rw [e, wholeL_snoc, h.x]
theorem give_done {s D : DS} {a m : Nat} {lv lv' : Value} {x1 x2 : Int} {w W : World} (hm : 1 ≤ (m : Int)) (hv : a + m ≤ s.fr.length) (hf : ∀ p : Int, (a : Int) ≤ p → p < (a : Int) + (m : Int) → s.fr.getD p.toNat false = false)
    (hx : wholeL a m (tch a m (lstN s.fr s.fr.length)) = (x1, x2)) (hD : s.tree (dropsI s.its (tch a m (lstN s.fr s.fr.length))) lv = D) (h5 : IsDoc W ((D.setF a true m).add (x1, x2) lv')) (hM : MovD s ((D.setF a true m).add (x1, x2) lv') w W) : GivePost s a m w (.returned (.int .i64 0)) W :=
  ⟨0, _, rfl, .inr (.inr ⟨⟨by omega, hm, by omega⟩, hf, rfl, lv, lv', by rw [hD, hx]; rfl⟩), h5, hM⟩
set_option maxRecDepth 100000 in
set_option maxHeartbeats 8000000 in
theorem give9_any {w : World} {s : DS} (h : IsDoc w s) (a n : Int) (ha : 0 ≤ a → 1 ≤ n → a + n ≤ s.fr.length → (∀ p : Int, a ≤ p → p < a + n → s.fr.getD p.toNat false = false) → GiveAsk s a n) (hn : s.n < 1000000) (hil : s.its.length < 800000) :
    Calls Try.prog 40 #[.pointer (some ⟨s.rb, 0, none⟩), .int .i64 a, .int .i64 n] w (GivePost s a n w) := by
  have H := Lib.hid h
  have HA := Lib.hid ha
  obtain ⟨P, hP⟩ : ∃ P, s.fr.length = P := ⟨_, rfl⟩
  have hP2 : P ≤ 4096 := hP ▸ h.P2
  have c0 : w.cell? ⟨s.rb, 0, none⟩ = some (.slice (some ⟨s.fb, 0, none⟩) P P) := by rw [← hP]; exact h.blk.cell 0
  have HP := Lib.hid hP
  clear h ha hP
  by_cases h1 : a < 0
  · have h9 := give_bad (n := n) (.inl h1) H.out
    have H9 := Lib.hid h9
    clear h9
    go_enter Try.func40, Try.ntmps40
    go_wp2_with fail
    go_ret
    exact H9.out
  by_cases h2 : n < 1
  · have h9 := give_bad (a := a) (.inr (.inl h2)) H.out
    have H9 := Lib.hid h9
    clear h9
    go_enter Try.func40, Try.ntmps40
    go_wp2_with fail
    go_ret
    exact H9.out
  by_cases h3 : (P : Int) ≤ a
  · have h9 := give_bad (n := n) (.inr (.inr (.inl (by rw [HP.out]; exact h3)))) H.out
    have H9 := Lib.hid h9
    clear h9
    go_enter Try.func40, Try.ntmps40
    go_wp2_with fail
    go_ret
    exact H9.out
  obtain ⟨hw0, hw0'⟩ := wrapB (x := (P : Int) - a) (by constructor <;> omega)
  by_cases h4 : (P : Int) - a < n
  · have h9 := give_bad (.inr (.inr (.inr (by rw [HP.out]; exact h4)))) H.out
    have H9 := Lib.hid h9
    clear h9
    go_enter Try.func40, Try.ntmps40
    go_wp2_with fail
    go_ret
    exact H9.out
  obtain ⟨a, rfl⟩ : ∃ b : Nat, a = b := ⟨a.toNat, by omega⟩
  obtain ⟨m, rfl⟩ : ∃ m : Nat, n = m := ⟨n.toNat, by omega⟩
  have hv : a + m ≤ P := by omega
  have h3' : ¬ (P : Int) ≤ (a : Int) := h3
  obtain ⟨hw1, hw1'⟩ := wrapB (x := (a : Int) + (m : Int)) (by constructor <;> omega)
  have HF := Lib.hid (fun (i : Nat) (hi : i < P) => H.out.freeCell (i := i) (HP.out.symm ▸ hi))
  have HV := Lib.hid hv
  have HM := Lib.hid (show 1 ≤ (m : Int) by omega)
  go_enter Try.func40, Try.ntmps40
  go_wp2_with fail
  clear hw0 hw0' h4 h3 h3' h2
  go_loopw [7] (fun iv wr => ∃ k : Nat, iv = .int .i64 ((a + k : Nat) : Int) ∧ k ≤ m ∧ Hid (∀ j, j < k → s.fr.getD (a + j) false = false) ∧ wr = w) (fun iv _ => a + m - (intOf iv).toNat)
  case atStart => exact ⟨0, rfl, Nat.zero_le _, Lib.hid (fun j hj => absurd hj (by omega)), rfl⟩
  case round =>
    obtain ⟨k, rfl, hkm, HN, rfl⟩ := hrel
    have hka : a + k < 1000000 := lt_big HV.out hP2 hkm
    have hwk := wrap_succ (a + k) hka
    by_cases hk2 : k < m
    · have hap : a + k < P := lt_len HV.out hk2
      have e0 := HF.out (a + k) hap
      obtain ⟨ob, hob⟩ : ∃ ob, s.fr.getD (a + k) false = ob := ⟨_, rfl⟩
      rw [hob] at e0
      have HOB := Lib.hid hob
      clear hob
      cases ob with
      | true =>
        go_wp2_with fail
        go_ret
        exact give_twice HM.out (by rw [HP.out]; exact HV.out) hk2 HOB.out H.out
      | false =>
        go_wp2_with fail
        go_roundw
        case rel =>
          refine ⟨k + 1, stepI a k, hk2, Lib.hid (fun j hj => ?_), trivial⟩
          rcases Nat.lt_succ_iff_lt_or_eq.1 hj with h9 | rfl
          · exact HN.out j h9
          · exact HOB.out
        case measure => exact less_i hk2
    · obtain rfl : k = m := Nat.le_antisymm hkm (Nat.le_of_not_lt hk2)
      clear hkm hk2 hwk hka
      have hfr := none_free HN.out
      have hask := HA.out (Int.natCast_nonneg a) HM.out (by rw [HP.out]; have := HV.out; omega) hfr
      have HFR := Lib.hid hfr; have HASK := Lib.hid hask
      clear hfr hask
      generalize wr = w at *
      obtain ⟨B, hB⟩ : ∃ B, w.heap.size = B := ⟨_, rfl⟩
      obtain ⟨W, hW⟩ : ∃ W, w.alloc (.cells #[.int .i64 (a : Int), .int .i64 (k : Int)] 63) = W := ⟨_, rfl⟩
      have hbx : Blk W B #[.int .i64 (a : Int), .int .i64 (k : Int)] 63 := by rw [← hW, ← hB]; exact Blk.new w _ _
      have hO : Adds w W := by rw [← hW]; exact (Only.refl (fun _ => False) w).alloc _
      have hBr : B ≠ s.rb := by have := H.out.blk.lt; omega
      have hBf : B ≠ s.fb := by have := H.out.fre.lt; omega
      have HLI := Lib.hid (list9_any (H.out.adds hO))
      have HBX := Lib.hid hbx; have HO := Lib.hid hO; have HB := Lib.hid hB
      have hBW : B < W.heap.size := hbx.lt
      clear hbx hO
      go_upto_region 9 with fail
      clear hW hB
      go_wp2_with fail
      refine HLI.out.mono ?_
      rintro e V ⟨v, rfl, hrow, hoV⟩
      obtain ⟨la, lc, rfl⟩ := ownsRow_opened hrow
      obtain ⟨L, hL⟩ : ∃ L, lstN s.fr s.fr.length = L := ⟨_, rfl⟩
      have hcell : ∀ (j : Nat) (y : Int × Int), L[j]? = some y → ∃ g off, la = some ⟨g, off, none⟩ ∧ V.cell? ⟨g, off + j * 2, none⟩ = some (.int .i64 y.1) ∧ V.cell? ⟨g, off + j * 2 + 1, none⟩ = some (.int .i64 y.2) ∧ W.heap.size ≤ g := fun j y hj => by
        rw [hL] at hrow
        rcases row_shape hrow with ⟨_, e2⟩ | ⟨g, cp, e1⟩
        · have := (List.getElem?_eq_some_iff.1 hj).1; omega
        · cases e1
          have h6 := (row_two (ownsRow_base0 hrow)).1 j y hj
          exact ⟨g, 0, rfl, by rw [Nat.zero_add]; exact h6.1, by rw [Nat.zero_add]; exact h6.2, row_base hrow g rfl⟩
      have hll : L.length ≤ 4096 := by rw [← hL]; exact Nat.le_trans (lstN_len _ _) (by rw [HP.out]; exact hP2)
      rw [hL]
      obtain ⟨M, hMl⟩ : ∃ M, L.length = M := ⟨_, rfl⟩
      rw [hMl] at hll ⊢
      have HMA := Lib.hid (HO.out.thenF hoV)
      have HIV := Lib.hid (H.out.adds HMA.out)
      have HBV := Lib.hid (HBX.out.only hoV id)
      have HCELL := Lib.hid hcell; have HL := Lib.hid hL; have HML := Lib.hid hMl
      have HBB := Lib.hid (Nat.le_of_eq HB.out)
      clear hrow hoV hcell hL hMl c0
      go_wp2_with fail
      go_loopw [10] (fun iv wr => ∃ (j : Nat) (lv : Value) (x1 x2 : Int), iv = .int .i64 j ∧ j ≤ M ∧ Hid (GiveI s a k L w V wr B j lv x1 x2)) (fun iv _ => M - (intOf iv).toNat)
      case atStart => exact ⟨0, s.lv, _, _, rfl, Nat.zero_le _, Lib.hid ⟨rfl, HIV.out, MovD.refl s HMA.out, fun y hy => by have := H.out.lt y hy; have := HBB.out; omega, HBV.out, Only.refl _ _⟩⟩
      case round =>
        obtain ⟨j, lv, x1, x2, rfl, hj, HG⟩ := hrel
        have HX := Lib.hid HG.out.x; have HI := Lib.hid HG.out.doc; have HBQ := Lib.hid HG.out.box; have HOQ := Lib.hid HG.out.only
        have hj4 : j < 1000000 := Nat.lt_of_le_of_lt hj (Nat.lt_of_le_of_lt hll (by decide))
        have hwj := wrap_succ j hj4
        by_cases hjm : j < M
        · obtain ⟨y, hy⟩ : ∃ y, L[j]? = some y := ⟨_, List.getElem?_eq_getElem (HML.out.symm ▸ hjm)⟩
          obtain ⟨g, off, rfl, q0, q1, hgW⟩ := HCELL.out j y hy
          have hyb := lst_small s (HP.out.symm ▸ hP2) y (by rw [HL.out]; exact List.mem_of_getElem? hy)
          obtain ⟨y1, y2⟩ := y
          simp only at q0 q1 hyb
          have hgr : g ≠ s.rb := by have := H.out.blk.lt; have := HO.out.size; omega
          have hgB : g ≠ B := by omega
          have q0 := (HOQ.out.cellF (p := ⟨g, off + j * 2, none⟩) (cell_lt q0) (by rintro (e | e); exact hgr e; exact hgB e)).trans q0
          have q1 := (HOQ.out.cellF (p := ⟨g, off + j * 2 + 1, none⟩) (cell_lt q1) (by rintro (e | e); exact hgr e; exact hgB e)).trans q1
          have hxb := whole_small s (HP.out.symm ▸ hP2) (a := a) (m := k) (by rw [HP.out]; exact HV.out) j
          rw [HL.out, HX.out] at hxb
          obtain ⟨hwa, hwa'⟩ := wrapC (x := y1 + y2) (by constructor <;> omega)
          obtain ⟨hwb, hwb'⟩ := wrapC (x := 8192 * y2) (by constructor <;> omega)
          obtain ⟨hwc, hwc'⟩ := wrapC (x := 8192 * y2 + y1) (by constructor <;> omega)
          obtain ⟨hwd, hwd'⟩ := wrapC (x := x2 + y2) (by constructor <;> omega)
          have HY := Lib.hid hy; have HYB := Lib.hid hyb
          clear hy hyb hxb
          have w0 : wr.cell? ⟨B, 0, none⟩ = some (.int .i64 x1) := HBQ.out.cell 0
          have w1 : wr.cell? ⟨B, 1, none⟩ = some (.int .i64 x2) := HBQ.out.cell 1
          by_cases hA : y1 + y2 = (a : Int)
          · have ht : touch (a : Int) (k : Int) (y1, y2) = true := by simp [touch, hA]
            have HT := Lib.hid ht
            have dA : (y1 + y2 == (a : Int)) = true := by simpa using hA
            clear ht hA
            have HK := Lib.hid (HASK.out.key j (y1, y2) (by rw [HL.out]; exact HY.out) HT.out)
            rw [HL.out] at HK
            go_wp2_with fail
            go_quiet ((fail))
            go_upto_region 14 with fail
            refine wp_region_held_drew (S := (fun W' => W'.cell? ⟨g, off + j * 2, none⟩ = some (.int .i64 y1) ∧ W'.cell? ⟨g, off + j * 2 + 1, none⟩ = some (.int .i64 y2))) (by kernel_rfl) ⟨q0, q1⟩ (fun hHeld => ?_)
            refine wpAnyH_take (i := 0) (v := (.pointer (some ⟨s.rb, 0, none⟩))) rfl (by kernel_rfl) (by kernel_rfl) (by kernel_rfl) (fun _ _ _ h => h) (Or.inl ⟨by rfl, fun W hS => by first | rfl | (go_simp; done)⟩) hHeld ?_
            try simp only [Act.put, List.getElem_toArray, List.getElem_cons_succ, List.getElem_cons_zero, List.setIfInBounds_toArray, List.set_cons_zero, List.set_cons_succ]
            refine wpAnyH_take (i := 1) (v := (.pointer (some ⟨s.rb, 0, none⟩))) rfl (by kernel_rfl) (by kernel_rfl) (by kernel_rfl) (fun _ _ _ h => h) (Or.inl ⟨by rfl, fun W hS => by first | rfl | (go_simp; done)⟩) hHeld ?_
            try simp only [Act.put, List.getElem_toArray, List.getElem_cons_succ, List.getElem_cons_zero, List.setIfInBounds_toArray, List.set_cons_zero, List.set_cons_succ]
            refine wpAnyH_take (i := 2) (v := (.pointer (some ⟨s.rb, 1, none⟩))) rfl (by kernel_rfl) (by kernel_rfl) (by kernel_rfl) (fun _ _ _ h => h) (Or.inl ⟨by rfl, fun W hS => by first | rfl | (go_simp; done)⟩) hHeld ?_
            try simp only [Act.put, List.getElem_toArray, List.getElem_cons_succ, List.getElem_cons_zero, List.setIfInBounds_toArray, List.set_cons_zero, List.set_cons_succ]
            refine wpAnyH_take (i := 3) (v := (.slice (some ⟨g, off, none⟩) M lc)) rfl (by kernel_rfl) (by kernel_rfl) (by kernel_rfl) (fun _ _ _ h => h) (Or.inl ⟨by rfl, fun W hS => by first | rfl | (go_simp; done)⟩) hHeld ?_
            try simp only [Act.put, List.getElem_toArray, List.getElem_cons_succ, List.getElem_cons_zero, List.setIfInBounds_toArray, List.set_cons_zero, List.set_cons_succ]
            refine wpAnyH_take (i := 4) (v := (.int .i64 (j : Int))) rfl (by kernel_rfl) (by kernel_rfl) (by kernel_rfl) (fun _ _ _ h => h) (Or.inl ⟨by rfl, fun W hS => by first | rfl | (go_simp; done)⟩) hHeld ?_
            try simp only [Act.put, List.getElem_toArray, List.getElem_cons_succ, List.getElem_cons_zero, List.setIfInBounds_toArray, List.set_cons_zero, List.set_cons_succ]
            refine wpAnyH_take (i := 5) (v := (.pointer (some ⟨g, off + j * 2, none⟩))) rfl (by kernel_rfl) (by kernel_rfl) (by kernel_rfl) (fun _ _ _ h => h) (Or.inl ⟨by rfl, fun W hS => by (go_simp; done)⟩) hHeld ?_
            try simp only [Act.put, List.getElem_toArray, List.getElem_cons_succ, List.getElem_cons_zero, List.setIfInBounds_toArray, List.set_cons_zero, List.set_cons_succ]
            refine wpAnyH_take (i := 6) (v := (.pointer (some ⟨g, off + j * 2 + 1, none⟩))) rfl (by kernel_rfl) (by kernel_rfl) (by kernel_rfl) (fun _ _ _ h => h) (Or.inl ⟨by rfl, fun W hS => by (go_simp; done)⟩) hHeld ?_
            try simp only [Act.put, List.getElem_toArray, List.getElem_cons_succ, List.getElem_cons_zero, List.setIfInBounds_toArray, List.set_cons_zero, List.set_cons_succ]
            refine wpAnyH_take (i := 7) (v := (.int .i64 y2)) rfl (by kernel_rfl) (by kernel_rfl) (by kernel_rfl) (fun _ _ _ h => h) (Or.inl ⟨by rfl, fun W hS => by (obtain ⟨q1, q2⟩ := hS; go_simp; done)⟩) hHeld ?_
            try simp only [Act.put, List.getElem_toArray, List.getElem_cons_succ, List.getElem_cons_zero, List.setIfInBounds_toArray, List.set_cons_zero, List.set_cons_succ]
            refine wpAnyH_take (i := 8) (v := (.int .i64 (8192 * y2))) rfl (by kernel_rfl) (by kernel_rfl) (by kernel_rfl) (fun _ _ _ h => h) (Or.inl ⟨by rfl, fun W hS => by (go_simp; done)⟩) hHeld ?_
            try simp only [Act.put, List.getElem_toArray, List.getElem_cons_succ, List.getElem_cons_zero, List.setIfInBounds_toArray, List.set_cons_zero, List.set_cons_succ]
            refine wpAnyH_take (i := 9) (v := (.slice (some ⟨g, off, none⟩) M lc)) rfl (by kernel_rfl) (by kernel_rfl) (by kernel_rfl) (fun _ _ _ h => h) (Or.inl ⟨by rfl, fun W hS => by first | rfl | (go_simp; done)⟩) hHeld ?_
            try simp only [Act.put, List.getElem_toArray, List.getElem_cons_succ, List.getElem_cons_zero, List.setIfInBounds_toArray, List.set_cons_zero, List.set_cons_succ]
            refine wpAnyH_take (i := 10) (v := (.int .i64 (j : Int))) rfl (by kernel_rfl) (by kernel_rfl) (by kernel_rfl) (fun _ _ _ h => h) (Or.inl ⟨by rfl, fun W hS => by first | rfl | (go_simp; done)⟩) hHeld ?_
            try simp only [Act.put, List.getElem_toArray, List.getElem_cons_succ, List.getElem_cons_zero, List.setIfInBounds_toArray, List.set_cons_zero, List.set_cons_succ]
            refine wpAnyH_take (i := 11) (v := (.pointer (some ⟨g, off + j * 2, none⟩))) rfl (by kernel_rfl) (by kernel_rfl) (by kernel_rfl) (fun _ _ _ h => h) (Or.inl ⟨by rfl, fun W hS => by (go_simp; done)⟩) hHeld ?_
            try simp only [Act.put, List.getElem_toArray, List.getElem_cons_succ, List.getElem_cons_zero, List.setIfInBounds_toArray, List.set_cons_zero, List.set_cons_succ]
            refine wpAnyH_take (i := 12) (v := (.pointer (some ⟨g, off + j * 2, none⟩))) rfl (by kernel_rfl) (by kernel_rfl) (by kernel_rfl) (fun _ _ _ h => h) (Or.inl ⟨by rfl, fun W hS => by (go_simp; done)⟩) hHeld ?_
            try simp only [Act.put, List.getElem_toArray, List.getElem_cons_succ, List.getElem_cons_zero, List.setIfInBounds_toArray, List.set_cons_zero, List.set_cons_succ]
            refine wpAnyH_take (i := 13) (v := (.int .i64 y1)) rfl (by kernel_rfl) (by kernel_rfl) (by kernel_rfl) (fun _ _ _ h => h) (Or.inl ⟨by rfl, fun W hS => by (obtain ⟨q1, q2⟩ := hS; go_simp; done)⟩) hHeld ?_
            try simp only [Act.put, List.getElem_toArray, List.getElem_cons_succ, List.getElem_cons_zero, List.setIfInBounds_toArray, List.set_cons_zero, List.set_cons_succ]
            refine wpAnyH_take (i := 14) (v := (.int .i64 (8192 * y2 + y1))) rfl (by kernel_rfl) (by kernel_rfl) (by kernel_rfl) (fun _ _ _ h => h) (Or.inl ⟨by rfl, fun W hS => by (go_simp; done)⟩) hHeld ?_
            try simp only [Act.put, List.getElem_toArray, List.getElem_cons_succ, List.getElem_cons_zero, List.setIfInBounds_toArray, List.set_cons_zero, List.set_cons_succ]
            refine wpAnyH_ready (rs := [15]) (by kernel_rfl) (by simp) (AllReadyH.cons rfl (fun K hK => ?_) AllReadyH.nil)
            simp only [List.getElem_toArray, List.getElem_cons_succ, List.getElem_cons_zero]
            go_simp
            refine (drop9D_any (HG.out.drawn nq).drew.doc HK.out).mono ?_
            rintro e W2 ⟨⟨v, rfl⟩, lv2, h2, m2, ho2⟩
            refine hK.out _ _ ⟨(ho2.cellF (p := ⟨g, off + j * 2, none⟩) (cell_lt hHeld.1) hgr).trans hHeld.1, (ho2.cellF (p := ⟨g, off + j * 2 + 1, none⟩) (cell_lt hHeld.2) hgr).trans hHeld.2⟩ (fun hHeld => ?_)
            clear hK K
            try simp only [Act.put, List.getElem_toArray, List.getElem_cons_succ, List.getElem_cons_zero, List.setIfInBounds_toArray, List.set_cons_zero, List.set_cons_succ]
            refine wpAnyH_done (by kernel_rfl) ?_ _
            have hbx2 := (HBQ.out.only ((Only.refl (fun _ => False) wr).drewN nq).drew id).only ho2 hBr
            have w0 : W2.cell? ⟨B, 0, none⟩ = some (.int .i64 x1) := hbx2.cell 0
            have w1 : W2.cell? ⟨B, 1, none⟩ = some (.int .i64 x2) := hbx2.cell 1
            have f0 : W2.frozen? ⟨B, 0, none⟩ = false := hbx2.frozen 0
            have f1 : W2.frozen? ⟨B, 1, none⟩ = false := hbx2.frozen 1
            obtain ⟨q0, q1⟩ := hHeld
            have H2 := Lib.hid h2; have M2 := Lib.hid m2; have HO2 := Lib.hid ho2; have HBX2 := Lib.hid hbx2
            clear h2 m2 ho2 hbx2
            go_upto_region 15 with fail
            go_region
            go_upto_region 16 with fail
            go_region
            go_wp2_with fail
            go_roundw
            case rel => exact ⟨j + 1, lv2, min x1 y1, x2 + y2, by simp, hjm, Lib.hid (((HG.out.drawn nq).drew.hit HY.out HT.out HBB.out H2.out M2.out HO2.out hBr).drew.drew)⟩
            case measure => simp [intOf]; omega
          · have dA : (y1 + y2 == (a : Int)) = false := by simpa using hA
            clear hA
            by_cases hB : y1 = (a : Int) + (k : Int)
            · have ht : touch (a : Int) (k : Int) (y1, y2) = true := by simp [touch, hB]
              have HT := Lib.hid ht
              have dB : (y1 == (a : Int) + (k : Int)) = true := by simpa using hB
              clear ht hB
              have HK := Lib.hid (HASK.out.key j (y1, y2) (by rw [HL.out]; exact HY.out) HT.out)
              rw [HL.out] at HK
              go_wp2_with fail
              go_quiet ((fail))
              go_upto_region 14 with fail
              refine wp_region_held_drew (S := (fun W' => W'.cell? ⟨g, off + j * 2, none⟩ = some (.int .i64 y1) ∧ W'.cell? ⟨g, off + j * 2 + 1, none⟩ = some (.int .i64 y2))) (by kernel_rfl) ⟨q0, q1⟩ (fun hHeld => ?_)
              refine wpAnyH_take (i := 0) (v := (.pointer (some ⟨s.rb, 0, none⟩))) rfl (by kernel_rfl) (by kernel_rfl) (by kernel_rfl) (fun _ _ _ h => h) (Or.inl ⟨by rfl, fun W hS => by first | rfl | (go_simp; done)⟩) hHeld ?_
              try simp only [Act.put, List.getElem_toArray, List.getElem_cons_succ, List.getElem_cons_zero, List.setIfInBounds_toArray, List.set_cons_zero, List.set_cons_succ]
              refine wpAnyH_take (i := 1) (v := (.pointer (some ⟨s.rb, 0, none⟩))) rfl (by kernel_rfl) (by kernel_rfl) (by kernel_rfl) (fun _ _ _ h => h) (Or.inl ⟨by rfl, fun W hS => by first | rfl | (go_simp; done)⟩) hHeld ?_
              try simp only [Act.put, List.getElem_toArray, List.getElem_cons_succ, List.getElem_cons_zero, List.setIfInBounds_toArray, List.set_cons_zero, List.set_cons_succ]
              refine wpAnyH_take (i := 2) (v := (.pointer (some ⟨s.rb, 1, none⟩))) rfl (by kernel_rfl) (by kernel_rfl) (by kernel_rfl) (fun _ _ _ h => h) (Or.inl ⟨by rfl, fun W hS => by first | rfl | (go_simp; done)⟩) hHeld ?_
              try simp only [Act.put, List.getElem_toArray, List.getElem_cons_succ, List.getElem_cons_zero, List.setIfInBounds_toArray, List.set_cons_zero, List.set_cons_succ]
              refine wpAnyH_take (i := 3) (v := (.slice (some ⟨g, off, none⟩) M lc)) rfl (by kernel_rfl) (by kernel_rfl) (by kernel_rfl) (fun _ _ _ h => h) (Or.inl ⟨by rfl, fun W hS => by first | rfl | (go_simp; done)⟩) hHeld ?_
              try simp only [Act.put, List.getElem_toArray, List.getElem_cons_succ, List.getElem_cons_zero, List.setIfInBounds_toArray, List.set_cons_zero, List.set_cons_succ]
              refine wpAnyH_take (i := 4) (v := (.int .i64 (j : Int))) rfl (by kernel_rfl) (by kernel_rfl) (by kernel_rfl) (fun _ _ _ h => h) (Or.inl ⟨by rfl, fun W hS => by first | rfl | (go_simp; done)⟩) hHeld ?_
              try simp only [Act.put, List.getElem_toArray, List.getElem_cons_succ, List.getElem_cons_zero, List.setIfInBounds_toArray, List.set_cons_zero, List.set_cons_succ]
              refine wpAnyH_take (i := 5) (v := (.pointer (some ⟨g, off + j * 2, none⟩))) rfl (by kernel_rfl) (by kernel_rfl) (by kernel_rfl) (fun _ _ _ h => h) (Or.inl ⟨by rfl, fun W hS => by (go_simp; done)⟩) hHeld ?_
              try simp only [Act.put, List.getElem_toArray, List.getElem_cons_succ, List.getElem_cons_zero, List.setIfInBounds_toArray, List.set_cons_zero, List.set_cons_succ]
              refine wpAnyH_take (i := 6) (v := (.pointer (some ⟨g, off + j * 2 + 1, none⟩))) rfl (by kernel_rfl) (by kernel_rfl) (by kernel_rfl) (fun _ _ _ h => h) (Or.inl ⟨by rfl, fun W hS => by (go_simp; done)⟩) hHeld ?_
              try simp only [Act.put, List.getElem_toArray, List.getElem_cons_succ, List.getElem_cons_zero, List.setIfInBounds_toArray, List.set_cons_zero, List.set_cons_succ]
              refine wpAnyH_take (i := 7) (v := (.int .i64 y2)) rfl (by kernel_rfl) (by kernel_rfl) (by kernel_rfl) (fun _ _ _ h => h) (Or.inl ⟨by rfl, fun W hS => by (obtain ⟨q1, q2⟩ := hS; go_simp; done)⟩) hHeld ?_
              try simp only [Act.put, List.getElem_toArray, List.getElem_cons_succ, List.getElem_cons_zero, List.setIfInBounds_toArray, List.set_cons_zero, List.set_cons_succ]
              refine wpAnyH_take (i := 8) (v := (.int .i64 (8192 * y2))) rfl (by kernel_rfl) (by kernel_rfl) (by kernel_rfl) (fun _ _ _ h => h) (Or.inl ⟨by rfl, fun W hS => by (go_simp; done)⟩) hHeld ?_
              try simp only [Act.put, List.getElem_toArray, List.getElem_cons_succ, List.getElem_cons_zero, List.setIfInBounds_toArray, List.set_cons_zero, List.set_cons_succ]
              refine wpAnyH_take (i := 9) (v := (.slice (some ⟨g, off, none⟩) M lc)) rfl (by kernel_rfl) (by kernel_rfl) (by kernel_rfl) (fun _ _ _ h => h) (Or.inl ⟨by rfl, fun W hS => by first | rfl | (go_simp; done)⟩) hHeld ?_
              try simp only [Act.put, List.getElem_toArray, List.getElem_cons_succ, List.getElem_cons_zero, List.setIfInBounds_toArray, List.set_cons_zero, List.set_cons_succ]
              refine wpAnyH_take (i := 10) (v := (.int .i64 (j : Int))) rfl (by kernel_rfl) (by kernel_rfl) (by kernel_rfl) (fun _ _ _ h => h) (Or.inl ⟨by rfl, fun W hS => by first | rfl | (go_simp; done)⟩) hHeld ?_
              try simp only [Act.put, List.getElem_toArray, List.getElem_cons_succ, List.getElem_cons_zero, List.setIfInBounds_toArray, List.set_cons_zero, List.set_cons_succ]
              refine wpAnyH_take (i := 11) (v := (.pointer (some ⟨g, off + j * 2, none⟩))) rfl (by kernel_rfl) (by kernel_rfl) (by kernel_rfl) (fun _ _ _ h => h) (Or.inl ⟨by rfl, fun W hS => by (go_simp; done)⟩) hHeld ?_
              try simp only [Act.put, List.getElem_toArray, List.getElem_cons_succ, List.getElem_cons_zero, List.setIfInBounds_toArray, List.set_cons_zero, List.set_cons_succ]
              refine wpAnyH_take (i := 12) (v := (.pointer (some ⟨g, off + j * 2, none⟩))) rfl (by kernel_rfl) (by kernel_rfl) (by kernel_rfl) (fun _ _ _ h => h) (Or.inl ⟨by rfl, fun W hS => by (go_simp; done)⟩) hHeld ?_
              try simp only [Act.put, List.getElem_toArray, List.getElem_cons_succ, List.getElem_cons_zero, List.setIfInBounds_toArray, List.set_cons_zero, List.set_cons_succ]
              refine wpAnyH_take (i := 13) (v := (.int .i64 y1)) rfl (by kernel_rfl) (by kernel_rfl) (by kernel_rfl) (fun _ _ _ h => h) (Or.inl ⟨by rfl, fun W hS => by (obtain ⟨q1, q2⟩ := hS; go_simp; done)⟩) hHeld ?_
              try simp only [Act.put, List.getElem_toArray, List.getElem_cons_succ, List.getElem_cons_zero, List.setIfInBounds_toArray, List.set_cons_zero, List.set_cons_succ]
              refine wpAnyH_take (i := 14) (v := (.int .i64 (8192 * y2 + y1))) rfl (by kernel_rfl) (by kernel_rfl) (by kernel_rfl) (fun _ _ _ h => h) (Or.inl ⟨by rfl, fun W hS => by (go_simp; done)⟩) hHeld ?_
              try simp only [Act.put, List.getElem_toArray, List.getElem_cons_succ, List.getElem_cons_zero, List.setIfInBounds_toArray, List.set_cons_zero, List.set_cons_succ]
              refine wpAnyH_ready (rs := [15]) (by kernel_rfl) (by simp) (AllReadyH.cons rfl (fun K hK => ?_) AllReadyH.nil)
              simp only [List.getElem_toArray, List.getElem_cons_succ, List.getElem_cons_zero]
              go_simp
              refine (drop9D_any (HG.out.drawn nq).drew.doc HK.out).mono ?_
              rintro e W2 ⟨⟨v, rfl⟩, lv2, h2, m2, ho2⟩
              refine hK.out _ _ ⟨(ho2.cellF (p := ⟨g, off + j * 2, none⟩) (cell_lt hHeld.1) hgr).trans hHeld.1, (ho2.cellF (p := ⟨g, off + j * 2 + 1, none⟩) (cell_lt hHeld.2) hgr).trans hHeld.2⟩ (fun hHeld => ?_)
              clear hK K
              try simp only [Act.put, List.getElem_toArray, List.getElem_cons_succ, List.getElem_cons_zero, List.setIfInBounds_toArray, List.set_cons_zero, List.set_cons_succ]
              refine wpAnyH_done (by kernel_rfl) ?_ _
              have hbx2 := (HBQ.out.only ((Only.refl (fun _ => False) wr).drewN nq).drew id).only ho2 hBr
              have w0 : W2.cell? ⟨B, 0, none⟩ = some (.int .i64 x1) := hbx2.cell 0
              have w1 : W2.cell? ⟨B, 1, none⟩ = some (.int .i64 x2) := hbx2.cell 1
              have f0 : W2.frozen? ⟨B, 0, none⟩ = false := hbx2.frozen 0
              have f1 : W2.frozen? ⟨B, 1, none⟩ = false := hbx2.frozen 1
              obtain ⟨q0, q1⟩ := hHeld
              have H2 := Lib.hid h2; have M2 := Lib.hid m2; have HO2 := Lib.hid ho2; have HBX2 := Lib.hid hbx2
              clear h2 m2 ho2 hbx2
              go_upto_region 15 with fail
              go_region
              go_upto_region 16 with fail
              go_region
              go_wp2_with fail
              go_roundw
              case rel => exact ⟨j + 1, lv2, min x1 y1, x2 + y2, by simp, hjm, Lib.hid (((HG.out.drawn nq).drew.hit HY.out HT.out HBB.out H2.out M2.out HO2.out hBr).drew.drew)⟩
              case measure => simp [intOf]; omega
            · have dB : (y1 == (a : Int) + (k : Int)) = false := by simpa using hB
              have ht : touch (a : Int) (k : Int) (y1, y2) = false := by simp at dA dB; simp [touch, dA, dB]
              have HT := Lib.hid ht
              clear ht hB
              go_wp2_with fail
              go_quiet ((fail))
              go_wp2_with fail
              go_roundw
              case rel => exact ⟨j + 1, lv, x1, x2, by simp, hjm, Lib.hid ((HG.out.miss HY.out HT.out).drawn nq)⟩
              case measure => simp [intOf]; omega
        · obtain rfl : j = M := Nat.le_antisymm hj (Nat.le_of_not_lt hjm)
          obtain ⟨hx, hdoc, hmov, -, hbox, -⟩ := HG.out
          rw [List.take_of_length_le (Nat.le_of_eq HML.out)] at hx hdoc hmov
          obtain ⟨D, hD⟩ : ∃ D, s.tree (dropsI s.its (tch a k L)) lv = D := ⟨_, rfl⟩
          rw [hD] at hdoc hmov
          have hDr : D.rb = s.rb := by rw [← hD]; rfl
          have hDf : D.fb = s.fb := by rw [← hD]; rfl
          have hDl : D.fr.length = P := by rw [← hD]; exact HP.out
          have hDi : D.its = dropsI s.its (tch a k L) := by rw [← hD]; rfl
          have hDn : D.n = s.n := by rw [← hD]; rfl
          have HX := Lib.hid hx; have H2 := Lib.hid hdoc; have M2 := Lib.hid hmov; have HBX2 := Lib.hid hbox; have HD := Lib.hid hD; have HDI := Lib.hid hDi
          clear hx hdoc hmov hbox hD hDi HG HBX HBV HIV HMA HCELL HLI
          have HFRE := HFR
          clear hj hjm hj4 hwj hll
          go_wp2_with fail
          go_loopw [11] (fun iv wq => ∃ i : Nat, iv = .int .i64 ((a + i : Nat) : Int) ∧ i ≤ k ∧ Hid (IsDoc wq (D.setF a true i)) ∧ Hid (MovD s (D.setF a true i) w wq) ∧ Hid (Blk wq B #[.int .i64 x1, .int .i64 x2] 63)) (fun iv _ => a + k - (intOf iv).toNat)
          case atStart => exact ⟨0, rfl, Nat.zero_le _, H2, M2, HBX2⟩
          case round =>
            obtain ⟨i, rfl, hik, HR, HMV, HBR⟩ := hrel
            have c0 : wr.cell? ⟨B, 0, none⟩ = some (.int .i64 x1) := HBR.out.cell 0
            have c1 : wr.cell? ⟨B, 1, none⟩ = some (.int .i64 x2) := HBR.out.cell 1
            have hlf : (setTo D.fr a true i).length = P := by rw [setTo_len]; exact hDl
            have d0 : wr.cell? ⟨s.rb, 0, none⟩ = some (.slice (some ⟨s.fb, 0, none⟩) P P) := by
              have h9 := HR.out.blk.cell 0
              rw [show (D.setF a true i).rb = s.rb from hDr, show (D.setF a true i).fv = .slice (some ⟨s.fb, 0, none⟩) P P by unfold DS.setF DS.fv; simp only [hlf, hDf]] at h9
              exact h9
            have hia : a + i < 1000000 := lt_big HV.out hP2 hik
            have hwi := wrap_succ (a + i) hia
            by_cases hi2 : i < k
            · have hap : a + i < P := lt_len HV.out hi2
              have e0 := HR.out.freeCell (i := a + i) (by show a + i < (setTo D.fr a true i).length; rw [hlf]; exact hap)
              rw [show (D.setF a true i).fb = s.fb from hDf] at e0
              generalize (D.setF a true i).fr.getD (a + i) false = ob at e0
              have fe : wr.frozen? ⟨s.fb, a + i, none⟩ = false := by have := HR.out.fre.frozen (a + i); rwa [show (D.setF a true i).fb = s.fb from hDf] at this
              go_wp2_with fail
              go_roundw
              case rel =>
                obtain ⟨n1, n2⟩ := pageD HR.out HMV.out hDf
                exact ⟨i + 1, stepI a i, hi2, Lib.hid n1, Lib.hid n2, Lib.hid (HBR.out.only ((Only.refl (· = s.fb) wr).setCell (p := ⟨s.fb, a + i, none⟩) (.inl rfl) _) hBf)⟩
              case measure => exact less_i hi2
            · obtain rfl : i = k := Nat.le_antisymm hik (Nat.le_of_not_lt hi2)
              have hw := HASK.out.bd; have hnw := HASK.out.new
              rw [HL.out, HX.out] at hw hnw
              have q2 : hasK (kOf (x1, x2)) (D.setF a true i).its = false := by
                rw [show (D.setF a true i).its = D.its from rfl, HDI.out]; exact hnw
              have q3 : (D.setF a true i).n < 1000000 := by rw [show (D.setF a true i).n = D.n from rfl, hDn]; exact hn
              have q4 : (D.setF a true i).its.length < 800000 := by
                rw [show (D.setF a true i).its = D.its from rfl, HDI.out]; exact Nat.lt_of_le_of_lt (dropsI_len _ _) hil
              have had := add9_any HR.out (x1, x2) hw q2 q3 q4
              rw [show (D.setF a true i).rb = s.rb from hDr] at had
              simp only at had
              have HAD := Lib.hid had
              clear hw hnw q2 q3 q4 had
              go_wp2_with (go_at_call 65; refine HAD.out.mono ?_; rintro e W3 ⟨⟨v, rfl⟩, lv', h5, m5⟩; have H5 := Lib.hid h5; have M5 := Lib.hid m5; clear h5 m5)
              go_ret
              exact give_done HM.out (by rw [HP.out]; exact HV.out) HFRE.out (HL.out ▸ HX.out) (HL.out ▸ HD.out) H5.out (HMV.out.trans M5.out)
theorem infoNode : (Try.prog.info? 72).map (fun i => (i.zero, i.size, i.bytes)) = some (some (.agg #[.int .i64 0, .int .i64 0]), 2, 16) := by kernel_rfl
def kdI (xs : List It) : List (Int × Int) := xs.map (fun x => (x.1, x.2.1))
def kdT (t : Tr) : List (Int × Int) := t.ins.map (fun e => (e.1, e.2.1))
/-- The first one of the greatest draw, of the first n. -/
def TopAt (xs : List It) (n k : Nat) : Prop := k < n ∧ ∃ y, xs[k]? = some y ∧ ∀ j x, j < n → xs[j]? = some x → x.2.1 ≤ y.2.1 ∧ (j < k → x.2.1 < y.2.1)
theorem TopAt.one {xs : List It} {y : It} (h : xs[0]? = some y) : TopAt xs 1 0 :=
  ⟨by omega, y, h, fun j x hj hx => by
    obtain rfl : j = 0 := by omega
    rw [h] at hx; cases hx; exact ⟨Int.le_refl _, fun h => absurd h (by omega)⟩⟩
theorem TopAt.up {xs : List It} {n k : Nat} {x y : It} (h : TopAt xs n k) (hx : xs[n]? = some x) (hy : xs[k]? = some y) (hd : y.2.1 < x.2.1) : TopAt xs (n + 1) n := by
  obtain ⟨h1, y', h2, h3⟩ := h
  rw [hy] at h2; cases h2
  refine ⟨by omega, x, hx, fun j z hj hz => ?_⟩
  by_cases hjn : j = n
  · subst hjn; rw [hx] at hz; cases hz; exact ⟨Int.le_refl _, fun h => absurd h (by omega)⟩
  · have := h3 j z (by omega) hz
    exact ⟨by omega, fun _ => by omega⟩
theorem TopAt.keep {xs : List It} {n k : Nat} {x y : It} (h : TopAt xs n k) (hx : xs[n]? = some x) (hy : xs[k]? = some y) (hd : ¬ y.2.1 < x.2.1) : TopAt xs (n + 1) k := by
  obtain ⟨h1, y', h2, h3⟩ := h
  rw [hy] at h2; cases h2
  refine ⟨by omega, y, hy, fun j z hj hz => ?_⟩
  by_cases hjn : j = n
  · subst hjn; rw [hx] at hz; cases hz; exact ⟨by omega, fun h => absurd h (by omega)⟩
  · exact h3 j z (by omega) hz
theorem TopAt.uniq {xs : List It} {n k k' : Nat} (h : TopAt xs n k) (h' : TopAt xs n k') : k = k' := by
  obtain ⟨h1, y, h2, h3⟩ := h
  obtain ⟨h1', y', h2', h3'⟩ := h'
  rcases Nat.lt_trichotomy k k' with hk | hk | hk
  · have a := h3' k y h1 h2; have b := h3 k' y' h1' h2'; have := a.2 hk; omega
  · exact hk
  · have a := h3 k' y' h1' h2'; have b := h3' k y h1 h2; have := a.2 hk; omega
theorem ItAt.front {w : World} {a : Option Addr} {n c : Nat} {L R : List It} (h : ItAt w (.slice a n c) (L ++ R)) : ItAt w (.slice a L.length c) L := by
  obtain ⟨a', c', h1, h2, h3, h4, h5⟩ := h
  cases h1
  refine ⟨a, c, rfl, by simp at h2; omega, h3, h4, fun i x hx => h5 i x ?_⟩
  have := (List.getElem?_eq_some_iff.1 hx).1
  rw [List.getElem?_append_left this]; exact hx
theorem ItAt.back {w : World} {g off n c : Nat} {L R : List It} (h : ItAt w (.slice (some ⟨g, off, none⟩) n c) (L ++ R)) : ItAt w (.slice (some ⟨g, off + L.length * 3, none⟩) R.length (c - L.length)) R := by
  obtain ⟨a', c', h1, h2, h3, h4, h5⟩ := h
  cases h1
  refine ⟨_, _, rfl, by simp at h2; omega, by omega, fun e => (by cases e), fun i x hx => ?_⟩
  obtain ⟨b, o, e1, e2, e3, e4⟩ := h5 (L.length + i) x (by rw [List.getElem?_append_right (by omega)]; simpa using hx)
  cases e1
  refine ⟨g, off + L.length * 3, rfl, ?_, ?_, ?_⟩
  · rw [show off + L.length * 3 + i * 3 = off + (L.length + i) * 3 by omega]; exact e2
  · rw [show off + L.length * 3 + i * 3 = off + (L.length + i) * 3 by omega]; exact e3
  · rw [show off + L.length * 3 + i * 3 = off + (L.length + i) * 3 by omega]; exact e4
/-- Items that say a tree: the root's place. -/
theorem kd_node {b : Nat} {k d : Int} {v : Value} {l r : Tr} {xs : List It} (h : kdI xs = kdT (.node b k d v l r)) (hb : (Tr.node b k d v l r).bst) (hh : (Tr.node b k d v l r).heap) :
    ∃ L x R, xs = L ++ x :: R ∧ kdI L = kdT l ∧ x.1 = k ∧ kdI R = kdT r ∧ TopAt xs xs.length L.length := by
  unfold kdI kdT at h
  rw [Tr.ins, List.map_append, List.map_cons] at h
  obtain ⟨L, R', rfl, h1, h2⟩ := List.map_eq_append_iff.1 h
  obtain ⟨x, R, rfl, h3, h4⟩ := List.map_eq_cons_iff.1 h2
  obtain ⟨b1, b2, b3, b4⟩ := Tr.bst_node.1 hb
  obtain ⟨g1, g2, -, -⟩ := hh
  have h3' : x.1 = k ∧ x.2.1 = d := by simpa using h3
  refine ⟨L, x, R, rfl, h1, h3'.1, h4, by simp, x, by simp, fun j z hj hz => ?_⟩
  have hmL : ∀ z ∈ L, z.2.1 < d := fun z hz => by
    have : (z.1, z.2.1) ∈ L.map (fun x => (x.1, x.2.1)) := List.mem_map.2 ⟨z, hz, rfl⟩
    rw [h1] at this
    obtain ⟨e, he, e2⟩ := List.mem_map.1 this
    have a1 := b3 e he; have a2 := Tr.up_iff.1 (g1 e he)
    have e3 : e.1 = z.1 ∧ e.2.1 = z.2.1 := by simpa using e2
    omega
  have hmR : ∀ z ∈ R, z.2.1 ≤ d := fun z hz => by
    have : (z.1, z.2.1) ∈ R.map (fun x => (x.1, x.2.1)) := List.mem_map.2 ⟨z, hz, rfl⟩
    rw [h4] at this
    obtain ⟨e, he, e2⟩ := List.mem_map.1 this
    have a1 := b4 e he; have a2 := Tr.up_iff.1 (g2 e he)
    have e3 : e.1 = z.1 ∧ e.2.1 = z.2.1 := by simpa using e2
    omega
  rw [h3'.2]
  rcases Nat.lt_trichotomy j L.length with hlt | heq | hgt
  · rw [List.getElem?_append_left hlt] at hz
    have := hmL z (List.mem_of_getElem? hz)
    exact ⟨by omega, fun _ => this⟩
  · subst heq
    rw [List.getElem?_append_right (Nat.le_refl _)] at hz
    simp at hz; subst hz
    exact ⟨by omega, fun h => absurd h (by omega)⟩
  · rw [List.getElem?_append_right (by omega)] at hz
    obtain ⟨q, hq⟩ : ∃ q, j - L.length = q + 1 := ⟨j - L.length - 1, by omega⟩
    rw [hq, List.getElem?_cons_succ] at hz
    have := hmR z (List.mem_of_getElem? hz)
    exact ⟨this, fun h => absurd h (by omega)⟩
def ShapeTo (w : World) (dep : Nat) (t : Tr) (e : Ending) (w' : World) : Prop := ∃ u, e = .returned u ∧ w'.ownsRow w.heap.size 72 2 u (Tr.shape dep t).length (shCells (Tr.shape dep t)) ∧ Adds w w'
theorem wpList_append_src {P : Program} {ops : Array Oper} {rest : List Oper} {op : Oper} {a : Act} {w : World} {Q : Exit → Act → World → Prop} (hgd : op.guard = none) (s x : Operand) (t e : TypeId) (ho : op.op = .call { callee := .builtin .append, args := #[s, x], argTypes := #[t, t] })
    (i : TypeInfo) (z : Value) (size bytes : Nat) (ht : P.underlying t = some (.slice e)) (hi : P.info? e = some i) (hz : i.zero = some z)
    (hsize : i.size = size) (hby : i.bytes = bytes) (hzs : z.cells.size = size) (hsz : 0 < size) (base : Nat) (v : Value) (n : Nat) (xs : List Value) (hs : a.eval s = v) (hown : w.ownsRow base e size v n xs)
    (u : Value) (m : Nat) (news : List Value) (hx : a.eval x = u) (hu : Src w u m news) (hl : news.length = m * size) (h1 : ∀ u ∈ news, u.oneCell' = true) (h63 : n + m ≤ maxLen) (hbytes : (n + m) * bytes ≤ 140737488355328) (hbase : base ≤ w.heap.size)
    (h : ∀ v' w', w'.ownsRow base e size v' (n + m) (xs ++ news) → Only (fun y => some y = v.ownBlock) w w' → wpList P ops Q rest (a.put op.dst v') w') : wpList P ops Q (op :: rest) a w :=
  wpList_plain hgd fun _ hK => wp_append_src s x t e ho i z size bytes ht hi hz hsize hby hzs hsz base v n xs hs hown u m news hx hu hl h1 h63 hbytes hbase fun v' w' h2 h3 => hK _ _ (h v' w' h2 h3)
theorem Src.of_owns {w : World} {base : Nat} {e : TypeId} {size : Nat} {v : Value} {n : Nat} {xs : List Value} (h : w.ownsRow base e size v n xs) : Src w v n xs := by
  rcases h.2 with ⟨rfl, rfl⟩ | ⟨g, cap, cur, rfl, _, hg, _, _, _, hc⟩
  · have := h.1; exact .inl ⟨rfl, rfl, List.eq_nil_of_length_eq_zero (by omega)⟩
  · refine .inr (.inl ⟨g, 0, cap, rfl, fun j x hj => ?_⟩)
    rw [← hc, List.getElem?_take] at hj
    split at hj
    · rw [Nat.zero_add]; simpa [World.cell?, hg] using hj
    · cases hj
theorem kd_len {xs : List It} {t : Tr} (h : kdI xs = kdT t) : xs.length = t.size := by
  have := congrArg List.length h
  unfold kdI kdT at this
  rw [List.length_map, List.length_map, Tr.size_ins] at this
  exact this
set_option maxRecDepth 100000 in
set_option maxHeartbeats 8000000 in
theorem shape9_any (t : Tr) : ∀ (w : World) (v : Value) (xs : List It) (dep : Nat), t.bst → t.heap → kdI xs = kdT t → ItAt w v xs → dep + t.size < 900000 →
    Calls Try.prog 76 #[v, .int .i64 dep] w (ShapeTo w dep t) := by
  induction t with
  | nil =>
    intro w v xs dep _ _ hk hit _
    obtain rfl : xs = [] := by cases xs with | nil => rfl | cons x r => simp [kdI, kdT, Tr.ins] at hk
    obtain ⟨a, c, rfl, -⟩ := hit
    go_enter Try.func76, Try.ntmps76
    go_wp2_with fail
    go_ret
    exact ⟨_, rfl, World.ownsRow_nil _ _ _ _, Only.refl _ _⟩
  | node b k d vv l r ihl ihr =>
    intro w v xs dep hb hh hk hit hsz
    obtain ⟨i0, hi, hz0, hz1, hz2⟩ := info_parts infoNode
    obtain ⟨L, x, R, hxs, hkl, hxk, hkr, htop⟩ := kd_node hk hb hh
    have hlen := kd_len hk
    have hll := kd_len hkl
    have hlr := kd_len hkr
    obtain ⟨b1, b2, -, -⟩ := Tr.bst_node.1 hb
    obtain ⟨-, -, g1, g2⟩ := hh
    simp only [Tr.size] at hsz hlen
    obtain ⟨m, hm⟩ : ∃ m, L.length = m := ⟨_, rfl⟩
    obtain ⟨n, hn⟩ : ∃ n, xs.length = n := ⟨_, rfl⟩
    have hit' := hit
    obtain ⟨a, c, rfl, hc1, hc2, hc3, hv⟩ := hit'
    have hxat : xs[m]? = some x := by rw [hxs, ← hm]; simp
    obtain ⟨g, off, rfl, p1, -, -⟩ := hv m x hxat
    have hit1 : ItAt w (.slice (some ⟨g, off, none⟩) m c) L := by rw [hxs] at hit; rw [← hm]; exact hit.front
    have hit2 : ItAt w (.slice (some ⟨g, off + (m + 1) * 3, none⟩) R.length (c - (m + 1))) R := by
      have e : xs = (L ++ [x]) ++ R := by rw [hxs]; simp
      rw [e] at hit
      have := hit.back
      rw [show (L ++ [x]).length = m + 1 by simp [hm]] at this
      exact this
    have hR : R.length = n - (m + 1) := by rw [← hn, hxs]; simp; omega
    have hmn : m < n := by have := htop.1; omega
    rw [hR] at hit2
    have hit20 : c = m + 1 → ItAt w (.slice (some ⟨g, off, none⟩) (n - (m + 1)) 0) R := fun hcm => by
      have h0 : R = [] := List.eq_nil_of_length_eq_zero (by rw [hR]; have h1 := hc1; rw [hn] at h1; omega)
      rw [← hR, h0]
      exact ⟨_, _, rfl, Nat.le_refl _, Nat.zero_le _, fun _ => rfl, fun i x hx => by simp at hx⟩
    have HV := Lib.hid hv; have HI1 := Lib.hid hit1; have HI2 := Lib.hid hit2; have HT := Lib.hid htop; have HN := Lib.hid hn; have HM := Lib.hid hm
    have HL := Lib.hid (fun (w' : World) (ho : Adds w w') => (show Calls Try.prog 76 #[.slice (some ⟨g, off, none⟩) m c, .int .i64 ((dep : Int) + 1)] w' (ShapeTo w' (dep + 1) l) from ihl w' _ L (dep + 1) b1 g1 hkl (hit1.adds ho) (by omega)))
    have HRR := Lib.hid (fun (w' : World) (ho : Adds w w') => (show Calls Try.prog 76 #[.slice (some ⟨g, off + (m + 1) * 3, none⟩) (n - (m + 1)) (c - (m + 1)), .int .i64 ((dep : Int) + 1)] w' (ShapeTo w' (dep + 1) r) from ihr w' _ R (dep + 1) b2 g2 hkr (hit2.adds ho) (by omega)))
    have HRR0 := Lib.hid (fun (w' : World) (ho : Adds w w') (hcm : c = m + 1) => (show Calls Try.prog 76 #[.slice (some ⟨g, off, none⟩) (n - (m + 1)) 0, .int .i64 ((dep : Int) + 1)] w' (ShapeTo w' (dep + 1) r) from ihr w' _ R (dep + 1) b2 g2 hkr (hit20 hcm |>.adds ho) (by omega)))
    rw [hm] at htop; rw [hn] at hc1
    have hn4 : n < 900000 := by omega
    have hdw := wrap_succ dep (by omega)
    have hmw := wrap_succ m (by omega)
    rw [hn]
    obtain ⟨y0, hy0⟩ : ∃ y0, xs[0]? = some y0 := ⟨_, List.getElem?_eq_getElem (by omega)⟩
    have HY0 := Lib.hid hy0
    have hnz : ((n : Int) == 0) = false := by have : n ≠ 0 := by omega
                                              simpa using this
    have HXK := Lib.hid hxk
    have HLS := Lib.hid (show Tr.shape dep (.node b k d vv l r) = (k, (dep : Int)) :: (Tr.shape (dep + 1) l ++ Tr.shape (dep + 1) r) from rfl)
    have hs1 : (Tr.shape (dep + 1) l).length = l.size := Tr.shape_len _ _
    have hs2 : (Tr.shape (dep + 1) r).length = r.size := Tr.shape_len _ _
    have HS1 := Lib.hid hs1; have HS2 := Lib.hid hs2
    clear hit hit1 hit2 hit20 ihl ihr b1 b2 g1 g2 hkl hkr hb hk hv hxs htop hxk hlen hll hlr hn hs1 hs2 hy0 hxat hR hm
    go_enter Try.func76, Try.ntmps76
    go_wp2_with fail
    go_loopw [5, 6] (fun kv iv wr => ∃ (q i : Nat), kv = .int .i64 q ∧ iv = .int .i64 i ∧ i ≤ n ∧ 1 ≤ i ∧ Hid (TopAt xs i q) ∧ ∃ z, wr = w.drewN z) (fun _ iv _ => n - (intOf iv).toNat)
    case atStart => exact ⟨0, 1, rfl, rfl, by omega, by omega, Lib.hid (TopAt.one HY0.out), 0, rfl⟩
    case round =>
      obtain ⟨kq, i, rfl, rfl, hin, hi1, HQ, z, rfl⟩ := hrel
      have hwi := wrap_succ i (by omega)
      by_cases hi2 : i < n
      · obtain ⟨xi, hxi⟩ : ∃ xi, xs[i]? = some xi := ⟨_, List.getElem?_eq_getElem (by rw [HN.out]; exact hi2)⟩
        have hqn : kq < i := HQ.out.1
        have hqn2 : kq < n := by omega
        obtain ⟨xq, hxq⟩ : ∃ xq, xs[kq]? = some xq := ⟨_, List.getElem?_eq_getElem (by rw [HN.out]; omega)⟩
        obtain ⟨b1, o1, e1, -, r1, -⟩ := HV.out i xi hxi
        cases e1
        obtain ⟨b2, o2, e2, -, r2, -⟩ := HV.out kq xq hxq
        cases e2
        have HXI := Lib.hid hxi; have HXQ := Lib.hid hxq
        obtain ⟨dq, hdq⟩ : ∃ dq, xq.2.1 = dq := ⟨_, rfl⟩
        obtain ⟨di, hdi⟩ : ∃ di, xi.2.1 = di := ⟨_, rfl⟩
        rw [hdi] at r1; rw [hdq] at r2
        have HDQ := Lib.hid hdq; have HDI := Lib.hid hdi
        clear hxi hxq hdq hdi
        by_cases hd : dq < di
        · have HDD := Lib.hid hd
          go_wp2_with fail
          go_quiet ((fail))
          go_wp2_with fail
          go_roundw
          case rel => exact ⟨i, i + 1, by simp, by simp, by omega, by omega, Lib.hid (HQ.out.up HXI.out HXQ.out (by rw [HDQ.out, HDI.out]; have := HDD.out; omega)), _, rfl⟩
          case measure => simp [intOf]; omega
        · have hd' : decide (dq < di) = false := by simpa using hd
          have HDD := Lib.hid hd
          go_wp2_with fail
          go_quiet ((fail))
          go_wp2_with fail
          go_roundw
          case rel => exact ⟨kq, i + 1, by simp, by simp, by omega, by omega, Lib.hid (HQ.out.keep HXI.out HXQ.out (by rw [HDQ.out, HDI.out]; have := HDD.out; omega)), _, rfl⟩
          case measure => simp [intOf]; omega
      · obtain rfl : i = n := by omega
        have hkm : kq = m := HQ.out.uniq (by have h := HT.out; rw [HN.out, HM.out] at h; exact h)
        subst hkm
        replace p1 := cell_al p1 ((Only.refl (fun _ => False) w).drewN z)
        rw [HXK.out] at p1
        clear HV HY0 HQ HT hi2 hi1 hin
        have hAz : Adds w (w.drewN z) := (Only.refl (fun _ => False) w).drewN z
        obtain ⟨W, hW⟩ : ∃ W, w.drewN z = W := ⟨_, rfl⟩
        rw [hW] at p1 hAz ⊢
        have hsz2 : w.heap.size = W.heap.size := by rw [← hW]; rfl
        have HSZ := Lib.hid hsz2
        clear hW hsz2
        obtain ⟨W1, hW1⟩ : ∃ W1, W.alloc (.cells #[Value.int .i64 k, Value.int .i64 dep] 72) = W1 := ⟨_, rfl⟩
        have hr1 : W1.ownsRow w.heap.size 72 2 (.slice (some ⟨W.heap.size, 0, none⟩) 1 1) 1 [.int .i64 k, .int .i64 dep] := by
          rw [← hW1, HSZ.out]
          exact ⟨rfl, .inr ⟨W.heap.size, 1, #[.int .i64 k, .int .i64 dep], rfl, Nat.le_refl _, Blk.new W _ _, by omega, by decide, rfl, rfl⟩⟩
        have hA1 : Adds w W1 := by rw [← hW1]; exact hAz.alloc _
        have HR1 := Lib.hid hr1; have HA1 := Lib.hid hA1
        clear hr1 hA1 hAz
        go_wp2_with fail
        refine (HL.out W1 HA1.out).mono ?_
        rintro e W2 ⟨u, rfl, hu, hA2⟩
        have hr2 := row_only2 HR1.out hA2 (fun _ _ h => h)
        have hAd2 : Adds w W2 := HA1.out.thenF hA2
        have HR2 := Lib.hid hr2; have HU := Lib.hid hu; have HA2 := Lib.hid hAd2
        have hbs : w.heap.size ≤ W2.heap.size := hAd2.size
        clear hr2 hu hA2 hAd2
        go_wp2_with (at_builtin; refine wpList_append_src rfl _ _ 54 72 rfl i0 (.agg #[.int .i64 0, .int .i64 0]) 2 16 Try.underlying54 hi hz0 hz1 hz2 rfl (by decide) w.heap.size _ 1 [.int .i64 k, .int .i64 dep] rfl HR2.out _ _ _ rfl (Src.of_owns HU.out) HU.out.1 (shCells_one _) (by rw [HS1.out]; unfold maxLen; omega) (by rw [HS1.out]; omega) hbs ?_; intro v3 W3 hv3 hO3; have HV3 := Lib.hid hv3; have HO3 := Lib.hid hO3; clear hv3 hO3; obtain ⟨a3, c3, rfl⟩ := ownsRow_opened HV3.out)
        all_goals
          have hA3 : Adds w W3 := HA2.out.andThen HO3.out (fun y hy e => by have := row_base HR2.out y e; omega)
          have HA3 := Lib.hid hA3
          have hbs3 : w.heap.size ≤ W3.heap.size := hA3.size
          clear hA3
          first
            | with_reducible refine (HRR.out W3 HA3.out).mono ?_
            | refine (HRR0.out W3 HA3.out (by omega)).mono ?_
          rintro e W4 ⟨u2, rfl, hu2, hA4⟩
          have hr4 := row_only2 HV3.out hA4 (fun _ _ h => h)
          have hAd4 : Adds w W4 := HA3.out.thenF hA4
          have HR4 := Lib.hid hr4; have HU2 := Lib.hid hu2; have HA4 := Lib.hid hAd4
          have hbs4 : w.heap.size ≤ W4.heap.size := hAd4.size
          clear hr4 hu2 hA4 hAd4
          go_wp2_with (at_builtin; refine wpList_append_src rfl _ _ 54 72 rfl i0 (.agg #[.int .i64 0, .int .i64 0]) 2 16 Try.underlying54 hi hz0 hz1 hz2 rfl (by decide) w.heap.size _ (1 + (Tr.shape (dep + 1) l).length) _ rfl HR4.out _ _ _ rfl (Src.of_owns HU2.out) HU2.out.1 (shCells_one _) (by rw [HS1.out, HS2.out]; unfold maxLen; omega) (by rw [HS1.out, HS2.out]; omega) hbs4 ?_; intro v5 W5 hv5 hO5; have HV5 := Lib.hid hv5; have HO5 := Lib.hid hO5; clear hv5 hO5; obtain ⟨a5, c5, rfl⟩ := ownsRow_opened HV5.out)
          go_ret
          refine ⟨_, rfl, ?_, HA4.out.andThen HO5.out (fun y hy e => by have := row_base HR4.out y e; omega)⟩
          have h9 := HV5.out
          rw [HLS.out]
          rw [show ((k, (dep : Int)) :: (Tr.shape (dep + 1) l ++ Tr.shape (dep + 1) r)).length = 1 + (Tr.shape (dep + 1) l).length + (Tr.shape (dep + 1) r).length by simp; omega]
          rw [show shCells ((k, (dep : Int)) :: (Tr.shape (dep + 1) l ++ Tr.shape (dep + 1) r)) = [.int .i64 k, .int .i64 dep] ++ shCells (Tr.shape (dep + 1) l) ++ shCells (Tr.shape (dep + 1) r) by rw [shCells, shCells_append]; rfl]
          exact h9
set_option maxHeartbeats 2000000 in
theorem shape9R_any {w : World} {s : DS} (h : IsDoc w s) {t : Tr} (hb : t.bst) (hh : t.heap) (hk : kdI s.its = kdT t) :
    Calls Try.prog 27 #[.pointer (some ⟨s.rb, 0, none⟩)] w (ShapeTo w 0 t) := by
  have hl := kd_len hk
  have c1 : w.cell? ⟨s.rb, 1, none⟩ = some s.lv := h.blk.cell 1
  have HS := Lib.hid (show Calls Try.prog 76 #[s.lv, .int .i64 0] w (ShapeTo w 0 t) from shape9_any t w s.lv s.its 0 hb hh hk (ItAt.of_owns h.row).1 (by have := h.il; omega))
  have hT : Calls Try.prog 57 #[.pointer (some ⟨s.rb, 1, none⟩)] w (ShapeTo w 0 t) := by
    clear h
    generalize s.lv = lv at c1 HS
    generalize s.rb = rb at c1
    go_enter Try.func57, Try.ntmps57
    go_wp2_with (go_at_call 76; refine HS.out.mono ?_; rintro e w1 ⟨u, rfl, h1, h2⟩)
    go_ret
    exact ⟨u, rfl, h1, h2⟩
  have HT := Lib.hid hT
  clear h hT c1 HS
  go_enter Try.func27, Try.ntmps27
  go_wp2_with (go_at_call 57; refine HT.out.mono ?_; rintro e w1 ⟨u, rfl, h1, h2⟩)
  go_ret
  exact ⟨u, rfl, h1, h2⟩
theorem infoBool9 : (Try.prog.info? 4).map (fun i => (i.zero, i.size, i.bytes)) = some (some (.bool false), 1, 1) := by kernel_rfl
theorem Draws.src {w : World} {v : Value} {ds : List Int} (h : Draws w v ds) : Src w v ds.length (ds.map (.int .u32)) := by
  rcases h with ⟨rfl, rfl⟩ | ⟨g, off, cap, rfl, h⟩ | ⟨rfl, ad, c, rfl⟩
  · exact .inl ⟨rfl, rfl, rfl⟩
  rotate_left
  · exact .inr (.inr ⟨rfl, rfl, ad, c, rfl⟩)
  · refine .inr (.inl ⟨g, off, cap, rfl, fun j x hj => ?_⟩)
    rw [List.getElem?_map] at hj
    cases hd : ds[j]? with
    | none => rw [hd] at hj; cases hj
    | some d => rw [hd] at hj; cases hj; exact h j d hd
theorem u32_one (ds : List Int) : ∀ u ∈ ds.map (Value.int .u32), u.oneCell' = true := by
  intro u hu
  obtain ⟨d, _, rfl⟩ := List.mem_map.1 hu
  rfl
/-- The document's runs as they are made: no page is free, no run is put. -/
structure Begun (P : Nat) (ds : List Int) (w wx : World) (s : DS) : Prop where
  doc : IsDoc wx s
  fr : s.fr = List.replicate P false
  its : s.its = []
  ds : s.ds = ds
  n : s.n = 0
  adds : Adds w wx
  new : ∀ y, s.all y → w.heap.size ≤ y
theorem Begun.of {P : Nat} {ds : List Int} {w wx : World} {rb fb : Nat} {dv : Value} (h1 : 1 ≤ P) (h2 : P ≤ 4096) (hd : ds.length < 1000000) (hR : Blk wx rb (rCells (.slice (some ⟨fb, 0, none⟩) P P) (.slice none 0 0) dv 0) 104) (hF : Blk wx fb (madeCells #[Value.bool false] P) 4)
    (hD : wx.ownsRow w.heap.size 113 1 dv ds.length (ds.map (.int .u32))) (hA : Adds w wx) (l1 : w.heap.size ≤ rb) (l2 : w.heap.size ≤ fb) : ∃ s, (Value.pointer (some ⟨rb, 0, none⟩)) = .pointer (some ⟨s.rb, 0, none⟩) ∧ Begun P ds w wx s := by
  have hne : rb ≠ fb := fun e => by subst e; exact absurd (hR.uniq hF).2 (by decide)
  have hf : madeCells #[Value.bool false] P = ((List.replicate P false).map Value.bool).toArray := by
    apply Array.ext'
    rw [toList_madeCells_one]
    simp
  refine ⟨⟨rb, fb, List.replicate P false, .slice none 0 0, [], dv, ds, 0⟩, rfl, ⟨?_, ?_, ownsRow_base0 hD, World.ownsRow_nil _ _ _ _, hne, by simpa using h1, by simpa using h2, by simp, hd⟩, rfl, rfl, rfl, rfl, hA, ?_⟩
  · have := hR; unfold DS.fv; simpa using this
  · rw [← hf]; exact hF
  · rintro y ((rfl | rfl) | e | e)
    · exact l1
    · exact l2
    · simp [Value.ownBlock] at e
    · exact row_base hD y e
/-- What New makes. -/
structure NewDoc (P : Nat) (ds : List Int) (s : DS) : Prop where
  fr : s.fr = setTo (List.replicate P false) 0 true P
  its : s.its = [(8192 * (P : Int), ds[0]?.getD 0, 0)]
  ds : s.ds = ds
  n : s.n = 1
theorem begun_page {w wr : World} {D : DS} {k : Nat} (hR : IsDoc wr (D.setF 0 true k)) (hA : Adds w wr) (hl : w.heap.size ≤ D.fb) : IsDoc (wr.setCell ⟨D.fb, k, none⟩ (.bool true)) (D.setF 0 true (k + 1)) ∧ Adds w (wr.setCell ⟨D.fb, k, none⟩ (.bool true)) := by
  have h9 := hR.page (.bool true) rfl
  rw [Nat.zero_add] at h9
  exact ⟨h9, hA.setCell (p := ⟨D.fb, k, none⟩) (.inr hl) _⟩
set_option maxRecDepth 100000 in
set_option maxHeartbeats 8000000 in
theorem new9_any {w : World} (P : Nat) {v : Value} {ds : List Int} (h1 : 1 ≤ P) (h2 : P ≤ 4096) (hd : Draws w v ds) (hn : ds.length < 1000000) :
    Calls Try.prog 38 #[.int .i64 (P : Int), v] w fun e w' => ∃ s, e = .returned (.pointer (some ⟨s.rb, 0, none⟩)) ∧ IsDoc w' s ∧ NewDoc P ds s ∧ Adds w w' ∧ ∀ y, s.all y → w.heap.size ≤ y := by
  obtain ⟨i0, hi, hz0, hz1, hz2⟩ := info_parts infoU32R
  have hmk := fun W => run_make_row' (P := Try.prog) 99 4 (.bool false) 1 Try.underlying99 infoBool9 rfl .i64 .i64 P (by omega) (by omega) W
  have g1 : decide ((P : Int) < 1) = false := by simp; omega
  have g2 : decide ((P : Int) > 4096) = false := by simp; omega
  have g3 : ¬ (P : Int) < 1 := by omega
  have g4 : ¬ (P : Int) > 4096 := by omega
  have HD := Lib.hid hd.src
  obtain ⟨dl, hdl⟩ : ∃ dl, ds.length = dl := ⟨_, rfl⟩
  obtain ⟨dc, hdc⟩ : ∃ dc, ds.map (Value.int .u32) = dc := ⟨_, rfl⟩
  have hdcl : dc.length = dl := by rw [← hdc, ← hdl]; simp
  have hd1 : ∀ u ∈ dc, u.oneCell' = true := by rw [← hdc]; exact u32_one ds
  rw [hdl, hdc] at HD
  rw [hdl] at hn
  have HDL := Lib.hid hdl; have HDC := Lib.hid hdc; have HD1 := Lib.hid hd1
  clear hd hdl hdc hd1
  go_enter Try.func38, Try.ntmps38
  go_upto_region 3 with fail
  go_cut [5] (fun x wx => ∃ s, x = .pointer (some ⟨s.rb, 0, none⟩) ∧ Begun P ds w wx s)
  case first =>
    refine wp_region_held_drew (S := (fun W => Adds w W)) (by kernel_rfl) ((Only.refl (fun _ => False) w).drew) (fun hHeld => ?_)
    refine wpAnyH_take (i := 0) (v := (.int .i64 (P : Int))) rfl (by kernel_rfl) (by kernel_rfl) (by kernel_rfl) (fun _ _ _ h => h) (Or.inl ⟨by rfl, fun W hS => by first | rfl | (go_simp; done)⟩) hHeld ?_
    try simp only [Act.put, List.getElem_toArray, List.getElem_cons_succ, List.getElem_cons_zero, List.setIfInBounds_toArray, List.set_cons_zero, List.set_cons_succ]
    refine wpAnyH_take (i := 3) (v := v) rfl (by kernel_rfl) (by kernel_rfl) (by kernel_rfl) (fun _ _ _ h => h) (Or.inl ⟨by rfl, fun W hS => by first | rfl | (go_simp; done)⟩) hHeld ?_
    try simp only [Act.put, List.getElem_toArray, List.getElem_cons_succ, List.getElem_cons_zero, List.setIfInBounds_toArray, List.set_cons_zero, List.set_cons_succ]
    refine wpAnyH_ready (rs := [1, 2]) (by kernel_rfl) (by simp) (AllReadyH.cons rfl (fun K hK => ?_) (AllReadyH.cons rfl (fun K hK => ?_) AllReadyH.nil))
    · simp only [List.getElem_toArray, List.getElem_cons_succ, List.getElem_cons_zero]
      go_simp
      have hF : Blk (w.drew.alloc (.cells (madeCells #[Value.bool false] P) 4)) w.drew.heap.size (madeCells #[Value.bool false] P) 4 := Blk.new w.drew _ _
      have hlf : w.heap.size ≤ w.heap.size := Nat.le_refl _
      have hF : Blk _ w.heap.size _ _ := hF
      refine hK.out _ (w.drew.alloc (.cells (madeCells #[Value.bool false] P) 4)) (hHeld.alloc _) (fun hHeld => ?_)
      clear hK
      try simp only [Act.put, List.getElem_toArray, List.getElem_cons_succ, List.getElem_cons_zero, List.setIfInBounds_toArray, List.set_cons_zero, List.set_cons_succ]
      generalize w.drew.alloc (.cells (madeCells #[Value.bool false] P) 4) = W1 at hF hHeld ⊢
      refine wpAnyH_ready (rs := [2]) (by kernel_rfl) (by simp) (AllReadyH.cons rfl (fun K hK => ?_) AllReadyH.nil)
      simp only [List.getElem_toArray, List.getElem_cons_succ, List.getElem_cons_zero]
      go_simp
      have hE : Blk (W1.alloc (.cells #[] 113)) W1.heap.size #[] 113 := Blk.new W1 _ _
      have hF := hF.alloc (.cells #[] 113)
      have hle : w.heap.size ≤ W1.heap.size := hHeld.size
      refine hK.out _ (W1.alloc (.cells #[] 113)) (hHeld.alloc _) (fun hHeld => ?_)
      clear hK
      try simp only [Act.put, List.getElem_toArray, List.getElem_cons_succ, List.getElem_cons_zero, List.setIfInBounds_toArray, List.set_cons_zero, List.set_cons_succ]
      generalize W1.heap.size = gE at hE hle ⊢
      generalize W1.alloc (.cells #[] 113) = W2 at hE hF hHeld ⊢
      refine wpAnyH_ready (rs := [4]) (by kernel_rfl) (by simp) (AllReadyH.cons rfl (fun K hK => ?_) AllReadyH.nil)
      simp only [List.getElem_toArray, List.getElem_cons_succ, List.getElem_cons_zero]
      rw [if_pos (by rfl)]
      refine wp_append_src _ _ 22 113 rfl i0 (.int .u32 0) 1 4 Try.underlying22 hi hz0 hz1 hz2 rfl (by decide) w.heap.size (.slice (some ⟨gE, 0, none⟩) 0 0) 0 [] rfl (owns_emptyB hE hle 1) v dl dc rfl (HD.out.adds hHeld) (by omega) HD1.out (by unfold maxLen; omega) (by omega) (by have := hHeld.size; omega) ?_
      intro dv W3 hD hO'
      have hO := hO'.mono (T := (w.heap.size ≤ ·)) (fun y _ e => row_base (owns_emptyB hE hle 1) y e)
      rw [Nat.zero_add, List.nil_append] at hD
      have hF := hF.only hO' (fun e => by have e2 := Option.some.inj e; simp only at e2; rw [e2] at hF; exact absurd (hE.uniq hF).2 (by decide))
      refine hK.out _ W3 (hHeld.andThen hO (fun i hi e => by omega)) (fun hHeld => ?_)
      clear hK hO hO' hE
      try simp only [Act.put, List.getElem_toArray, List.getElem_cons_succ, List.getElem_cons_zero, List.setIfInBounds_toArray, List.set_cons_zero, List.set_cons_succ]
      obtain ⟨da, dcap, rfl⟩ := ownsRow_opened hD
      refine wpAnyH_take (i := 5) (v := (.agg (rCells (.slice (some ⟨w.heap.size, 0, none⟩) P P) (.slice none 0 0) (.slice da dl dcap) 0))) rfl (by kernel_rfl) (by kernel_rfl) (by kernel_rfl) (fun _ _ _ h => h) (Or.inl ⟨by rfl, fun W hS => by (go_simp; done)⟩) hHeld ?_
      try simp only [Act.put, List.getElem_toArray, List.getElem_cons_succ, List.getElem_cons_zero, List.setIfInBounds_toArray, List.set_cons_zero, List.set_cons_succ]
      refine wpAnyH_ready (rs := [6]) (by kernel_rfl) (by simp) (AllReadyH.cons rfl (fun K hK => ?_) AllReadyH.nil)
      simp only [List.getElem_toArray, List.getElem_cons_succ, List.getElem_cons_zero]
      go_simp
      have hR : Blk (W3.alloc (.cells (rCells (.slice (some ⟨w.heap.size, 0, none⟩) P P) (.slice none 0 0) (.slice da dl dcap) 0) 104)) W3.heap.size (rCells (.slice (some ⟨w.heap.size, 0, none⟩) P P) (.slice none 0 0) (.slice da dl dcap) 0) 104 := Blk.new W3 _ _
      have hF := hF.alloc (.cells (rCells (.slice (some ⟨w.heap.size, 0, none⟩) P P) (.slice none 0 0) (.slice da dl dcap) 0) 104)
      have hD := row_only2 hD ((Only.refl (fun _ => False) W3).alloc (.cells (rCells (.slice (some ⟨w.heap.size, 0, none⟩) P P) (.slice none 0 0) (.slice da dl dcap) 0) 104)) (fun _ _ h => h)
      have hlr : w.heap.size ≤ W3.heap.size := hHeld.size
      refine hK.out _ (W3.alloc (.cells (rCells (.slice (some ⟨w.heap.size, 0, none⟩) P P) (.slice none 0 0) (.slice da dl dcap) 0) 104)) (hHeld.alloc _) (fun hHeld => ?_)
      clear hK
      try simp only [Act.put, List.getElem_toArray, List.getElem_cons_succ, List.getElem_cons_zero, List.setIfInBounds_toArray, List.set_cons_zero, List.set_cons_succ]
      generalize W3.heap.size = gR at hR hlr ⊢
      generalize W3.alloc (.cells (rCells (.slice (some ⟨w.heap.size, 0, none⟩) P P) (.slice none 0 0) (.slice da dl dcap) 0) 104) = WZ at hF hD hR hHeld ⊢
      refine wpAnyH_take (i := 7) (v := (.pointer (some ⟨gR, 0, none⟩))) rfl (by kernel_rfl) (by kernel_rfl) (by kernel_rfl) (fun _ _ _ h => h) (Or.inl ⟨by rfl, fun W hS => by first | rfl | (go_simp; done)⟩) hHeld ?_
      try simp only [Act.put, List.getElem_toArray, List.getElem_cons_succ, List.getElem_cons_zero, List.setIfInBounds_toArray, List.set_cons_zero, List.set_cons_succ]
      refine wpAnyH_done (by kernel_rfl) ?_ _
      go_wp2_with fail
      go_meet
      rw [← HDC.out, ← HDL.out] at hD
      rw [← HDL.out] at hR
      exact Begun.of h1 h2 (by rw [HDL.out]; exact hn) hR hF hD hHeld hlr hlf
    · simp only [List.getElem_toArray, List.getElem_cons_succ, List.getElem_cons_zero]
      go_simp
      have hE : Blk (w.drew.alloc (.cells #[] 113)) w.drew.heap.size #[] 113 := Blk.new w.drew _ _
      have hle : w.heap.size ≤ w.drew.heap.size := hHeld.size
      refine hK.out _ (w.drew.alloc (.cells #[] 113)) (hHeld.alloc _) (fun hHeld => ?_)
      clear hK
      try simp only [Act.put, List.getElem_toArray, List.getElem_cons_succ, List.getElem_cons_zero, List.setIfInBounds_toArray, List.set_cons_zero, List.set_cons_succ]
      have hE : Blk _ w.heap.size #[] 113 := hE
      have hle : w.heap.size ≤ w.heap.size := Nat.le_refl _
      generalize w.drew.alloc (.cells #[] 113) = W4 at hE hHeld ⊢
      refine wpAnyH_ready (rs := [1, 4]) (by kernel_rfl) (by simp) (AllReadyH.cons rfl (fun K hK => ?_) (AllReadyH.cons rfl (fun K hK => ?_) AllReadyH.nil))
      · simp only [List.getElem_toArray, List.getElem_cons_succ, List.getElem_cons_zero]
        go_simp
        have hF : Blk (W4.alloc (.cells (madeCells #[Value.bool false] P) 4)) W4.heap.size (madeCells #[Value.bool false] P) 4 := Blk.new W4 _ _
        have hE := hE.alloc (.cells (madeCells #[Value.bool false] P) 4)
        have hlf : w.heap.size ≤ W4.heap.size := hHeld.size
        refine hK.out _ (W4.alloc (.cells (madeCells #[Value.bool false] P) 4)) (hHeld.alloc _) (fun hHeld => ?_)
        clear hK
        try simp only [Act.put, List.getElem_toArray, List.getElem_cons_succ, List.getElem_cons_zero, List.setIfInBounds_toArray, List.set_cons_zero, List.set_cons_succ]
        generalize W4.heap.size = gF at hF hlf ⊢
        generalize W4.alloc (.cells (madeCells #[Value.bool false] P) 4) = W5 at hF hE hHeld ⊢
        refine wpAnyH_ready (rs := [4]) (by kernel_rfl) (by simp) (AllReadyH.cons rfl (fun K hK => ?_) AllReadyH.nil)
        simp only [List.getElem_toArray, List.getElem_cons_succ, List.getElem_cons_zero]
        rw [if_pos (by rfl)]
        refine wp_append_src _ _ 22 113 rfl i0 (.int .u32 0) 1 4 Try.underlying22 hi hz0 hz1 hz2 rfl (by decide) w.heap.size (.slice (some ⟨w.heap.size, 0, none⟩) 0 0) 0 [] rfl (owns_emptyB hE hle 1) v dl dc rfl (HD.out.adds hHeld) (by omega) HD1.out (by unfold maxLen; omega) (by omega) (by have := hHeld.size; omega) ?_
        intro dv W6 hD hO'
        have hO := hO'.mono (T := (w.heap.size ≤ ·)) (fun y _ e => row_base (owns_emptyB hE hle 1) y e)
        rw [Nat.zero_add, List.nil_append] at hD
        have hF := hF.only hO' (fun e => by have e2 := Option.some.inj e; simp only at e2; rw [e2] at hF; exact absurd (hE.uniq hF).2 (by decide))
        refine hK.out _ W6 (hHeld.andThen hO (fun i hi e => by omega)) (fun hHeld => ?_)
        clear hK hO hO' hE
        try simp only [Act.put, List.getElem_toArray, List.getElem_cons_succ, List.getElem_cons_zero, List.setIfInBounds_toArray, List.set_cons_zero, List.set_cons_succ]
        obtain ⟨da, dcap, rfl⟩ := ownsRow_opened hD
        refine wpAnyH_take (i := 5) (v := (.agg (rCells (.slice (some ⟨gF, 0, none⟩) P P) (.slice none 0 0) (.slice da dl dcap) 0))) rfl (by kernel_rfl) (by kernel_rfl) (by kernel_rfl) (fun _ _ _ h => h) (Or.inl ⟨by rfl, fun W hS => by (go_simp; done)⟩) hHeld ?_
        try simp only [Act.put, List.getElem_toArray, List.getElem_cons_succ, List.getElem_cons_zero, List.setIfInBounds_toArray, List.set_cons_zero, List.set_cons_succ]
        refine wpAnyH_ready (rs := [6]) (by kernel_rfl) (by simp) (AllReadyH.cons rfl (fun K hK => ?_) AllReadyH.nil)
        simp only [List.getElem_toArray, List.getElem_cons_succ, List.getElem_cons_zero]
        go_simp
        have hR : Blk (W6.alloc (.cells (rCells (.slice (some ⟨gF, 0, none⟩) P P) (.slice none 0 0) (.slice da dl dcap) 0) 104)) W6.heap.size (rCells (.slice (some ⟨gF, 0, none⟩) P P) (.slice none 0 0) (.slice da dl dcap) 0) 104 := Blk.new W6 _ _
        have hF := hF.alloc (.cells (rCells (.slice (some ⟨gF, 0, none⟩) P P) (.slice none 0 0) (.slice da dl dcap) 0) 104)
        have hD := row_only2 hD ((Only.refl (fun _ => False) W6).alloc (.cells (rCells (.slice (some ⟨gF, 0, none⟩) P P) (.slice none 0 0) (.slice da dl dcap) 0) 104)) (fun _ _ h => h)
        have hlr : w.heap.size ≤ W6.heap.size := hHeld.size
        refine hK.out _ (W6.alloc (.cells (rCells (.slice (some ⟨gF, 0, none⟩) P P) (.slice none 0 0) (.slice da dl dcap) 0) 104)) (hHeld.alloc _) (fun hHeld => ?_)
        clear hK
        try simp only [Act.put, List.getElem_toArray, List.getElem_cons_succ, List.getElem_cons_zero, List.setIfInBounds_toArray, List.set_cons_zero, List.set_cons_succ]
        generalize W6.heap.size = gR at hR hlr ⊢
        generalize W6.alloc (.cells (rCells (.slice (some ⟨gF, 0, none⟩) P P) (.slice none 0 0) (.slice da dl dcap) 0) 104) = WZ at hF hD hR hHeld ⊢
        refine wpAnyH_take (i := 7) (v := (.pointer (some ⟨gR, 0, none⟩))) rfl (by kernel_rfl) (by kernel_rfl) (by kernel_rfl) (fun _ _ _ h => h) (Or.inl ⟨by rfl, fun W hS => by first | rfl | (go_simp; done)⟩) hHeld ?_
        try simp only [Act.put, List.getElem_toArray, List.getElem_cons_succ, List.getElem_cons_zero, List.setIfInBounds_toArray, List.set_cons_zero, List.set_cons_succ]
        refine wpAnyH_done (by kernel_rfl) ?_ _
        go_wp2_with fail
        go_meet
        rw [← HDC.out, ← HDL.out] at hD
        rw [← HDL.out] at hR
        exact Begun.of h1 h2 (by rw [HDL.out]; exact hn) hR hF hD hHeld hlr hlf
      · simp only [List.getElem_toArray, List.getElem_cons_succ, List.getElem_cons_zero]
        rw [if_pos (by rfl)]
        refine wp_append_src _ _ 22 113 rfl i0 (.int .u32 0) 1 4 Try.underlying22 hi hz0 hz1 hz2 rfl (by decide) w.heap.size (.slice (some ⟨w.heap.size, 0, none⟩) 0 0) 0 [] rfl (owns_emptyB hE hle 1) v dl dc rfl (HD.out.adds hHeld) (by omega) HD1.out (by unfold maxLen; omega) (by omega) (by have := hHeld.size; omega) ?_
        intro dv W7 hD hO'
        have hO := hO'.mono (T := (w.heap.size ≤ ·)) (fun y _ e => row_base (owns_emptyB hE hle 1) y e)
        rw [Nat.zero_add, List.nil_append] at hD
        refine hK.out _ W7 (hHeld.andThen hO (fun i hi e => by omega)) (fun hHeld => ?_)
        clear hK hO hO' hE
        try simp only [Act.put, List.getElem_toArray, List.getElem_cons_succ, List.getElem_cons_zero, List.setIfInBounds_toArray, List.set_cons_zero, List.set_cons_succ]
        refine wpAnyH_ready (rs := [1]) (by kernel_rfl) (by simp) (AllReadyH.cons rfl (fun K hK => ?_) AllReadyH.nil)
        simp only [List.getElem_toArray, List.getElem_cons_succ, List.getElem_cons_zero]
        go_simp
        have hF : Blk (W7.alloc (.cells (madeCells #[Value.bool false] P) 4)) W7.heap.size (madeCells #[Value.bool false] P) 4 := Blk.new W7 _ _
        have hD := row_only2 hD ((Only.refl (fun _ => False) W7).alloc (.cells (madeCells #[Value.bool false] P) 4)) (fun _ _ h => h)
        have hlf : w.heap.size ≤ W7.heap.size := hHeld.size
        refine hK.out _ (W7.alloc (.cells (madeCells #[Value.bool false] P) 4)) (hHeld.alloc _) (fun hHeld => ?_)
        clear hK
        try simp only [Act.put, List.getElem_toArray, List.getElem_cons_succ, List.getElem_cons_zero, List.setIfInBounds_toArray, List.set_cons_zero, List.set_cons_succ]
        generalize W7.heap.size = gF at hF hlf ⊢
        generalize W7.alloc (.cells (madeCells #[Value.bool false] P) 4) = W8 at hF hD hHeld ⊢
        obtain ⟨da, dcap, rfl⟩ := ownsRow_opened hD
        refine wpAnyH_take (i := 5) (v := (.agg (rCells (.slice (some ⟨gF, 0, none⟩) P P) (.slice none 0 0) (.slice da dl dcap) 0))) rfl (by kernel_rfl) (by kernel_rfl) (by kernel_rfl) (fun _ _ _ h => h) (Or.inl ⟨by rfl, fun W hS => by (go_simp; done)⟩) hHeld ?_
        try simp only [Act.put, List.getElem_toArray, List.getElem_cons_succ, List.getElem_cons_zero, List.setIfInBounds_toArray, List.set_cons_zero, List.set_cons_succ]
        refine wpAnyH_ready (rs := [6]) (by kernel_rfl) (by simp) (AllReadyH.cons rfl (fun K hK => ?_) AllReadyH.nil)
        simp only [List.getElem_toArray, List.getElem_cons_succ, List.getElem_cons_zero]
        go_simp
        have hR : Blk (W8.alloc (.cells (rCells (.slice (some ⟨gF, 0, none⟩) P P) (.slice none 0 0) (.slice da dl dcap) 0) 104)) W8.heap.size (rCells (.slice (some ⟨gF, 0, none⟩) P P) (.slice none 0 0) (.slice da dl dcap) 0) 104 := Blk.new W8 _ _
        have hF := hF.alloc (.cells (rCells (.slice (some ⟨gF, 0, none⟩) P P) (.slice none 0 0) (.slice da dl dcap) 0) 104)
        have hD := row_only2 hD ((Only.refl (fun _ => False) W8).alloc (.cells (rCells (.slice (some ⟨gF, 0, none⟩) P P) (.slice none 0 0) (.slice da dl dcap) 0) 104)) (fun _ _ h => h)
        have hlr : w.heap.size ≤ W8.heap.size := hHeld.size
        refine hK.out _ (W8.alloc (.cells (rCells (.slice (some ⟨gF, 0, none⟩) P P) (.slice none 0 0) (.slice da dl dcap) 0) 104)) (hHeld.alloc _) (fun hHeld => ?_)
        clear hK
        try simp only [Act.put, List.getElem_toArray, List.getElem_cons_succ, List.getElem_cons_zero, List.setIfInBounds_toArray, List.set_cons_zero, List.set_cons_succ]
        generalize W8.heap.size = gR at hR hlr ⊢
        generalize W8.alloc (.cells (rCells (.slice (some ⟨gF, 0, none⟩) P P) (.slice none 0 0) (.slice da dl dcap) 0) 104) = WZ at hF hD hR hHeld ⊢
        refine wpAnyH_take (i := 7) (v := (.pointer (some ⟨gR, 0, none⟩))) rfl (by kernel_rfl) (by kernel_rfl) (by kernel_rfl) (fun _ _ _ h => h) (Or.inl ⟨by rfl, fun W hS => by first | rfl | (go_simp; done)⟩) hHeld ?_
        try simp only [Act.put, List.getElem_toArray, List.getElem_cons_succ, List.getElem_cons_zero, List.setIfInBounds_toArray, List.set_cons_zero, List.set_cons_succ]
        refine wpAnyH_done (by kernel_rfl) ?_ _
        go_wp2_with fail
        go_meet
        rw [← HDC.out, ← HDL.out] at hD
        rw [← HDL.out] at hR
        exact Begun.of h1 h2 (by rw [HDL.out]; exact hn) hR hF hD hHeld hlr hlf
  case rest =>
    obtain ⟨s0, rfl, hB⟩ := hcut
    have hdoc := hB.doc; have hA := hB.adds
    have hl2 : w.heap.size ≤ s0.fb := hB.new _ (.inl (.inr rfl))
    have hlen : s0.fr.length = P := by rw [hB.fr]; simp
    have H0 := Lib.hid hdoc; have HA := Lib.hid hA; have HB := Lib.hid hB
    clear hdoc hA hB
    go_wp2_with fail
    go_loopw [6] (fun iv wr => ∃ i : Nat, iv = .int .i64 (i : Int) ∧ i ≤ P ∧ Hid (IsDoc wr (s0.setF 0 true i)) ∧ Hid (Adds w wr)) (fun iv _ => P - (intOf iv).toNat)
    case atStart => exact ⟨0, rfl, Nat.zero_le _, H0, HA⟩
    case round =>
      obtain ⟨i, rfl, hik, HR, HAW⟩ := hrel
      have hlf : (setTo s0.fr 0 true i).length = P := by rw [setTo_len]; exact hlen
      have d0 : wr.cell? ⟨s0.rb, 0, none⟩ = some (.slice (some ⟨s0.fb, 0, none⟩) P P) := by
        have h9 := HR.out.blk.cell 0
        rw [show (s0.setF 0 true i).rb = s0.rb from rfl, show (s0.setF 0 true i).fv = .slice (some ⟨s0.fb, 0, none⟩) P P by unfold DS.setF DS.fv; simp only [hlf]] at h9
        exact h9
      have hwi := wrap_succ i (by omega)
      by_cases hi2 : i < P
      · have e0 := HR.out.freeCell (i := i) (by show i < (setTo s0.fr 0 true i).length; rw [hlf]; exact hi2)
        rw [show (s0.setF 0 true i).fb = s0.fb from rfl] at e0
        generalize (s0.setF 0 true i).fr.getD i false = ob at e0
        have fe : wr.frozen? ⟨s0.fb, i, none⟩ = false := HR.out.fre.frozen i
        go_wp2_with fail
        go_roundw
        case rel =>
          obtain ⟨n1, n2⟩ := begun_page HR.out HAW.out hl2
          exact ⟨i + 1, by simp, hi2, Lib.hid n1, Lib.hid n2⟩
        case measure => simp [intOf]; omega
      · obtain rfl : i = P := Nat.le_antisymm hik (Nat.le_of_not_lt hi2)
        have had := add9_any HR.out ((0 : Int), (i : Int)) (by simp only; omega) (by show hasK _ s0.its = false; rw [HB.out.its]; rfl) (by show s0.n < _; rw [HB.out.n]; decide) (by show s0.its.length < _; rw [HB.out.its]; decide)
        simp only at had
        have HAD := Lib.hid (show Calls Try.prog 65 #[.pointer (some ⟨s0.rb, 0, none⟩), .agg #[.int .i64 0, .int .i64 i]] wr _ from had)
        clear had
        go_wp2_with (go_at_call 65; refine HAD.out.mono ?_; rintro e W3 ⟨⟨v, rfl⟩, lv, h5, m5⟩; have H5 := Lib.hid h5; have M5 := Lib.hid m5; clear h5 m5)
        go_ret
        refine ⟨(s0.setF 0 true i).add (0, (i : Int)) lv, rfl, H5.out, ⟨?_, ?_, HB.out.ds, ?_⟩, HAW.out.andThen M5.out.only (fun y hy e => ?_), fun y hy => ?_⟩
        · show setTo s0.fr 0 true i = _
          rw [HB.out.fr]
        · show insI _ _ _ s0.its = _
          rw [HB.out.its]
          show [(kOf ((0 : Int), (i : Int)), s0.ds[s0.n]?.getD 0, (0 : Int))] = _
          rw [HB.out.ds, HB.out.n]
          simp [kOf]
        · show s0.n + 1 = 1
          rw [HB.out.n]
        · have := HB.out.new y (.inl e); omega
        · rcases M5.out.all y hy with h9 | h9
          · exact HB.out.new y h9
          · exact Nat.le_trans HAW.out.size h9
/-- Keys rise. -/
def RiseI (its : List It) : Prop := (its.map (·.1)).Pairwise (· < ·)
theorem plc_split {A B : List It} {key : Int} (hA : ∀ x ∈ A, x.1 < key) (hB : ∀ x ∈ B, key ≤ x.1) : plc key (A ++ B) = A.length := by
  induction A with
  | nil =>
    cases B with
    | nil => rfl
    | cons y r => have := hB y (by simp); show plc key (y :: r) = 0; unfold plc; rw [if_neg (by omega)]
  | cons x r ih =>
    show plc key (x :: (r ++ B)) = _
    unfold plc
    rw [if_pos (hA x (by simp)), ih (fun y hy => hA y (by simp [hy]))]
    rfl
theorem RiseI.parts {its : List It} (h : RiseI its) (key : Int) : (∀ x ∈ its.take (plc key its), x.1 < key) ∧ (∀ x ∈ its.drop (plc key its), key ≤ x.1) := by
  induction its with
  | nil => exact ⟨fun x hx => by simp at hx, fun x hx => by simp at hx⟩
  | cons y r ih =>
    have h' := List.pairwise_cons.1 (show ((y.1 :: r.map (·.1)).Pairwise (· < ·)) from h)
    obtain ⟨i1, i2⟩ := ih h'.2
    unfold plc
    split
    · rename_i hy
      refine ⟨fun x hx => ?_, fun x hx => i2 x (by simpa using hx)⟩
      rw [List.take_succ_cons] at hx
      rcases List.mem_cons.1 hx with rfl | hx
      · exact hy
      · exact i1 x hx
    · rename_i hy
      refine ⟨fun x hx => by simp at hx, fun x hx => ?_⟩
      rw [List.drop_zero] at hx
      rcases List.mem_cons.1 hx with rfl | hx
      · omega
      · have := h'.1 x.1 (List.mem_map.2 ⟨x, hx, rfl⟩); omega
theorem has_iff {its : List It} (h : RiseI its) (key : Int) : hasK key its = true ↔ ∃ x ∈ its, x.1 = key := by
  obtain ⟨h1, h2⟩ := h.parts key
  constructor
  · intro hk
    obtain ⟨x, hx, he⟩ := hasK_at hk
    exact ⟨x, List.mem_of_getElem? hx, he⟩
  · rintro ⟨x, hx, rfl⟩
    have hd : x ∈ its.drop (plc x.1 its) := by
      have h3 := (List.take_append_drop (plc x.1 its) its) ▸ hx
      rcases List.mem_append.1 h3 with h4 | h4
      · have := h1 x h4; omega
      · exact h4
    have hp : ((its.drop (plc x.1 its)).map (·.1)).Pairwise (· < ·) := by
      exact List.Pairwise.sublist (List.Sublist.map (·.1) (List.drop_sublist (plc x.1 its) its)) (show (its.map (·.1)).Pairwise (· < ·) from h)
    unfold hasK
    rw [show its[plc x.1 its]? = (its.drop (plc x.1 its))[0]? by rw [List.getElem?_drop, Nat.add_zero]]
    cases hdr : its.drop (plc x.1 its) with
    | nil => rw [hdr] at hd; cases hd
    | cons y r =>
      rw [hdr] at hd h2 hp
      show decide (y.1 = x.1) = true
      rcases List.mem_cons.1 hd with rfl | hd
      · simp
      · have h5 := (List.pairwise_cons.1 (show ((y.1 :: r.map (·.1)).Pairwise (· < ·)) from hp)).1 x.1 (List.mem_map.2 ⟨x, hd, rfl⟩)
        have h6 := h2 y (by simp)
        omega
theorem del_filter {its : List It} (h : RiseI its) {key : Int} (hk : hasK key its = true) : delI key its = its.filter (fun x => x.1 != key) := by
  obtain ⟨h1, h2⟩ := h.parts key
  obtain ⟨x, hx, he⟩ := hasK_at hk
  have hlt := (List.getElem?_eq_some_iff.1 hx).1
  have e : its = its.take (plc key its) ++ x :: its.drop (plc key its + 1) := by
    conv => lhs; rw [← List.take_append_drop (plc key its) its]
    congr 1
    exact List.drop_eq_getElem?_toList_append.trans (by rw [hx]; rfl)
  have hf1 : (its.take (plc key its)).filter (fun x => x.1 != key) = its.take (plc key its) := List.filter_eq_self.2 (fun y hy => by have := h1 y hy; simp; omega)
  have hp : ((its.drop (plc key its)).map (·.1)).Pairwise (· < ·) := List.Pairwise.sublist (List.Sublist.map (·.1) (List.drop_sublist (plc key its) its)) (show (its.map (·.1)).Pairwise (· < ·) from h)
  have hd : its.drop (plc key its) = x :: its.drop (plc key its + 1) := List.drop_eq_getElem?_toList_append.trans (by rw [hx]; rfl)
  have hf2 : (its.drop (plc key its + 1)).filter (fun x => x.1 != key) = its.drop (plc key its + 1) := List.filter_eq_self.2 (fun y hy => by
    rw [hd] at hp
    have h5 := (List.pairwise_cons.1 (show ((x.1 :: (its.drop (plc key its + 1)).map (·.1)).Pairwise (· < ·)) from hp)).1 y.1 (List.mem_map.2 ⟨y, hy, rfl⟩)
    simp; omega)
  unfold delI
  conv => rhs; rw [e]
  rw [List.filter_append, hf1, List.filter_cons_of_neg (by simp [he]), hf2]
theorem RiseI.of_kd {its : List It} {t : Tr} (h : kdI its = kdT t) (hb : t.bst) : RiseI its := by
  have h1 : its.map (·.1) = t.ins.map (·.1) := by
    have := congrArg (List.map Prod.fst) h
    unfold kdI kdT at this
    rw [List.map_map, List.map_map] at this
    exact this
  unfold RiseI; rw [h1]; exact hb
theorem kd_mem {its : List It} {t : Tr} (h : kdI its = kdT t) (key : Int) : (∃ x ∈ its, x.1 = key) ↔ ∃ e ∈ t.ins, e.1 = key := by
  constructor
  · rintro ⟨x, hx, rfl⟩
    have h1 : (x.1, x.2.1) ∈ kdI its := List.mem_map.2 ⟨x, hx, rfl⟩
    rw [h] at h1
    obtain ⟨e, he, h2⟩ := List.mem_map.1 h1
    have h3 : e.1 = x.1 ∧ e.2.1 = x.2.1 := by simpa using h2
    exact ⟨e, he, h3.1⟩
  · rintro ⟨e, he, rfl⟩
    have h1 : (e.1, e.2.1) ∈ kdT t := List.mem_map.2 ⟨e, he, rfl⟩
    rw [← h] at h1
    obtain ⟨x, hx, h2⟩ := List.mem_map.1 h1
    have h3 : x.1 = e.1 ∧ x.2.1 = e.2.1 := by simpa using h2
    exact ⟨x, hx, h3.1⟩
theorem kd_drop {its : List It} {t : Tr} (h : kdI its = kdT t) (hb : t.bst) {key : Int} (hk : hasK key its = true) : kdI (delI key its) = kdT (Tr.drop key t) := by
  rw [del_filter (RiseI.of_kd h hb) hk]
  unfold kdT
  rw [Tr.drop_ins hb]
  have h1 : ∀ l : List It, kdI (l.filter (fun x => x.1 != key)) = (kdI l).filter (fun x => x.1 != key) := fun l => by
    unfold kdI; rw [List.filter_map]; rfl
  have h2 : (t.ins.filter (fun e => e.1 != key)).map (fun e => (e.1, e.2.1)) = (kdT t).filter (fun x => x.1 != key) := by
    unfold kdT; rw [List.filter_map]; rfl
  rw [h1, h2, h]
theorem kd_put {its : List It} {t : Tr} (h : kdI its = kdT t) (hb : t.bst) (key d v : Int) (nb : Nat) (vv : Value) : kdI (insI key d v its) = kdT (Tr.put nb key d vv t) := by
  obtain ⟨l1, l2⟩ := Tr.split_lt key t hb
  have hs := Tr.split_ins key t
  unfold kdT
  rw [Tr.put_ins, List.map_append, List.map_cons]
  unfold kdI kdT at h
  rw [← hs, List.map_append] at h
  obtain ⟨A, B, rfl, hA, hB⟩ := List.map_eq_append_iff.1 h
  have hp : plc key (A ++ B) = A.length := plc_split (fun x hx => by
      have : (x.1, x.2.1) ∈ A.map (fun x => (x.1, x.2.1)) := List.mem_map.2 ⟨x, hx, rfl⟩
      rw [hA] at this
      obtain ⟨e, he, h2⟩ := List.mem_map.1 this
      have h3 : e.1 = x.1 ∧ e.2.1 = x.2.1 := by simpa using h2
      have := l1 e he; omega) (fun x hx => by
      have : (x.1, x.2.1) ∈ B.map (fun x => (x.1, x.2.1)) := List.mem_map.2 ⟨x, hx, rfl⟩
      rw [hB] at this
      obtain ⟨e, he, h2⟩ := List.mem_map.1 this
      have h3 : e.1 = x.1 ∧ e.2.1 = x.2.1 := by simpa using h2
      have := l2 e he; omega)
  unfold insI kdI
  rw [hp]
  simp [hA, hB]
/-- The two go together. -/
structure Sim (s : RS) (d : DS) : Prop where
  len : (d.fr.length : Int) = s.P
  list : lstN d.fr d.fr.length = s.xs
  kd : kdI d.its = kdT s.t
  ds : d.ds = s.ds
  n : d.n = s.dn
section
variable {s s' : RS} {d d' : DS}
theorem Sim.pages (h : Sim s d) (p : Int) : pg s.xs p ↔ 0 ≤ p ∧ p < (d.fr.length : Int) ∧ d.fr.getD p.toNat false = true := by
  rw [← h.list]; exact (lstN_ok d.fr d.fr.length).2 p
theorem Sim.rise (h : Sim s d) (hs : s.Ok) : RiseI d.its := RiseI.of_kd h.kd hs.tree.bst
theorem Sim.has (h : Sim s d) (hs : s.Ok) (key : Int) : hasK key d.its = true ↔ ∃ y ∈ s.xs, kOf y = key := by
  rw [has_iff (h.rise hs), kd_mem h.kd]
  constructor
  · rintro ⟨e, he, rfl⟩
    obtain ⟨y, hy, hk, _⟩ := hs.mem e he
    exact ⟨y, hy, hk.symm⟩
  · rintro ⟨y, hy, rfl⟩
    exact hs.have_ y hy
theorem Sim.room (h : Sim s d) (hs : s.Ok) : d.its.length ≤ 4096 := by
  have h1 := kd_len h.kd
  have h2 := hs.size
  have h3 := hs.list.len (by have := hs.P1; omega)
  have h4 := hs.P2
  omega
theorem Sim.draw (h : Sim s d) : d.draw = s.draw := by unfold DS.draw RS.draw; rw [h.ds, h.n]
/-- What Take wants. -/
theorem Sim.askT (h : Sim s d) (hs : s.Ok) (n : Int) (hn : 1 ≤ n) : TakeAsk d n := fun x hx => by
  rw [h.list] at hx
  have hk : hasK (kOf x) d.its = true := (h.has hs _).2 ⟨x, hx.mem, rfl⟩
  refine ⟨hk, fun hlt => ?_⟩
  have ht := took hs.list hn hx.mem hx.long
  have hb := ht.bd hlt
  have hr := del_filter (h.rise hs) hk
  cases hc : hasK (kOf (x.1 + n, x.2 - n)) (delI (kOf x) d.its) with
  | false => rfl
  | true =>
    obtain ⟨z, hz, he⟩ := hasK_at hc
    have hz2 := List.mem_of_getElem? hz
    rw [hr] at hz2
    obtain ⟨hz3, hz4⟩ := List.mem_filter.1 hz2
    obtain ⟨y, hy, hyk⟩ := (h.has hs z.1).1 ((has_iff (h.rise hs) _).2 ⟨z, hz3, rfl⟩)
    have e1 := hs.key_inj (x := y) (y := (x.1 + n, x.2 - n)) (hs.list.bd y hy) (by simpa using hb) (hyk.trans he)
    have hyx : y ≠ x := fun e => by subst e; simp [hyk] at hz4
    have := ht.free y ((mem_delL hs.list hx.mem).2 ⟨hy, hyx⟩)
    rw [e1] at this; simp only at this; omega
theorem Sim.del (h : Sim s d) (hs : s.Ok) {x : Int × Int} (hx : x ∈ s.xs) (v v' : Value) : kdI (d.del (kOf x) v).its = kdT (s.del x v').t :=
  kd_drop h.kd hs.tree.bst ((h.has hs _).2 ⟨x, hx, rfl⟩)
theorem list_turn {fr : List Bool} {P : Int} {xs : List (Int × Int)} {a k : Nat} {b : Bool} (hl : (fr.length : Int) = P) (hk : a + k ≤ fr.length) (ho : RunsOk P xs) (hp : ∀ p : Int, pg xs p ↔ 0 ≤ p ∧ p < P ∧ (if (a : Int) ≤ p ∧ p < a + k then b else fr.getD p.toNat false) = true) : lstN (setTo fr a b k) (setTo fr a b k).length = xs := by
  subst hl
  rw [setTo_len]
  refine lst_eq ho (fun p => (hp p).trans ?_)
  by_cases h0 : 0 ≤ p
  · obtain ⟨q, rfl⟩ : ∃ q : Nat, p = q := ⟨p.toNat, by omega⟩
    rw [Int.toNat_natCast, setTo_at _ _ _ _ _ hk]
    have e : ((a : Int) ≤ (q : Int) ∧ (q : Int) < (a : Int) + (k : Int)) ↔ (a ≤ q ∧ q < a + k) := by omega
    by_cases hc : a ≤ q ∧ q < a + k
    · rw [if_pos hc, if_pos (e.2 hc)]
    · rw [if_neg hc, if_neg (fun h => hc (e.1 h))]
  · constructor <;> (rintro ⟨h1, _⟩; omega)
/-- Both take. -/
theorem Sim.take (h : Sim s d) (hs : s.Ok) {n a e a' e' : Int} (ht : TakeOf s n a e s') (hd : TakeD d n a' e' d') : a = a' ∧ e = e' ∧ Sim s' d' := by
  rcases ht with ⟨h1, rfl, rfl, rfl⟩ | ⟨h1, h2, rfl, rfl, rfl⟩ | ⟨h1, x, hx, rfl, rfl, lv, hh⟩
  · rcases hd with ⟨k1, rfl, rfl, rfl⟩ | ⟨k1, _⟩ | ⟨k1, _⟩
    · exact ⟨rfl, rfl, h⟩
    · omega
    · omega
  · rcases hd with ⟨k1, _⟩ | ⟨k1, k2, rfl, rfl, rfl⟩ | ⟨k1, y, hy, _⟩
    · omega
    · exact ⟨rfl, rfl, h⟩
    · rw [h.list] at hy
      have := h2 y hy.mem; have := hy.long; omega
  · rcases hd with ⟨k1, _⟩ | ⟨k1, k2, _⟩ | ⟨k1, y, hy, rfl, rfl, lv2, hh2⟩
    · omega
    · rw [h.list] at k2
      have := k2 x hx.mem; have := hx.long; omega
    · rw [h.list] at hy
      obtain rfl := IsBest.uniq hs.list hs.P2 hx hy
      refine ⟨rfl, rfl, ?_⟩
      have hT := took hs.list h1 hx.mem hx.long
      have hb := hs.list.bd x hx.mem
      have hlong := hx.long
      have hlen := h.len
      obtain ⟨m, rfl⟩ : ∃ m : Nat, n = m := ⟨n.toNat, by omega⟩
      obtain ⟨x1, x2⟩ := x
      simp only at hb hlong
      obtain ⟨b, rfl⟩ : ∃ b : Nat, x1 = b := ⟨x1.toNat, by omega⟩
      have hli : lstN (setTo d.fr b false m) (setTo d.fr b false m).length = takeL ((b : Int), x2) m s.xs := list_turn hlen (by omega) hT.ok (fun p => by
        rw [hT.pages p, h.pages p, hlen]
        simp only
        by_cases hc : (b : Int) ≤ p ∧ p < (b : Int) + (m : Int)
        · rw [if_pos hc]; simp [hc]
        · rw [if_neg hc]; simp [hc])
      have hle : ((setTo d.fr b false m).length : Int) = s.P := by rw [setTo_len]; exact hlen
      have hdl := h.del hs hx.mem lv2 lv
      rcases hh with ⟨h3, rfl⟩ | ⟨h3, nb, lv', rfl⟩
      · rcases hh2 with ⟨_, rfl⟩ | ⟨h4, _⟩
        · refine ⟨hle, ?_, hdl, h.ds, h.n⟩
          have e9 : takeL ((b : Int), x2) m s.xs = delL ((b : Int), x2) s.xs := by unfold takeL; rw [if_neg (by simp only; simp only at h3; omega)]
          rw [e9] at hli
          exact hli
        · simp only at h3 h4; omega
      · rcases hh2 with ⟨h4, _⟩ | ⟨_, lv3, rfl⟩
        · simp only at h3 h4; omega
        · refine ⟨hle, ?_, ?_, h.ds, by show d.n + 1 = s.dn + 1; rw [h.n]⟩
          · have e9 : takeL ((b : Int), x2) m s.xs = insL ((b : Int) + m, x2 - m) (delL ((b : Int), x2) s.xs) := by unfold takeL; rw [if_pos h3]
            rw [e9] at hli
            exact hli
          · show kdI (insI _ _ _ _) = kdT (Tr.put nb _ _ _ _)
            rw [show (DS.setF (d.del (kOf ((b : Int), x2)) lv2) ((b : Int), x2).1.toNat false (m : Int).toNat).draw = (s.del ((b : Int), x2) lv).draw from h.draw]
            exact kd_put hdl (Tr.drop_ok hs.tree).bst _ _ _ _ _
/-- Where no page is free, those that lie near lie beside. -/
theorem near_tch {P : Int} {xs : List (Int × Int)} (h : RunsOk P xs) {a n : Int} (hn : 1 ≤ n) (hh : ∀ y ∈ nearL xs a (a + n), ¬ Hits y a n) : nearL xs a (a + n) = tch a n xs := by
  have hm := fun y => mem_nearL h (a := a) (b := a + n) (y := y)
  have e : nearL xs a (a + n) = xs.filter (fun y => decide (a ≤ y.1 + y.2) && decide (y.1 ≤ a + n)) := by
    unfold nearL
    rw [takeWhile_rise _ (h.sub (List.drop_sublist _ _)), (place_split a h).2, List.filter_filter]
    congr 1
    funext y
    exact Bool.and_comm _ _
  unfold tch
  rw [e]
  refine List.filter_congr (fun y hy => ?_)
  have hb := h.bd y hy
  have h2 := fun hc => hh y ((hm y).2 ⟨hy, hc⟩)
  unfold Hits at h2
  unfold touch
  by_cases c1 : a ≤ y.1 + y.2
  · by_cases c2 : y.1 ≤ a + n
    · have h3 := h2 ⟨c1, c2⟩
      have h4 : y.1 + y.2 = a ∨ y.1 = a + n := by omega
      rcases h4 with h4 | h4
      · have h5 : decide (y.1 + y.2 = a) = true := by simpa using h4
        simp [c1, c2, h5]
      · have h5 : decide (y.1 = a + n) = true := by simpa using h4
        simp [c1, c2, h5]
    · have h4 : ¬ y.1 + y.2 = a := by omega
      have h5 : ¬ y.1 = a + n := by omega
      simp [c2, h4, h5]
  · have h4 : ¬ y.1 + y.2 = a := by omega
    have h5 : ¬ y.1 = a + n := by omega
    simp [c1, h4, h5]
/-- Runs dropped, one behind the other: the items go with them. -/
theorem dels_sim {ys : List (Int × Int)} (h : Dels s ys s') : Sim s d → s.Ok → s'.Ok ∧ kdI (dropsI d.its ys) = kdT s'.t ∧ ∀ (k : Nat) (y : Int × Int), ys[k]? = some y → hasK (kOf y) (dropsI d.its (ys.take k)) = true := by
  induction h with
  | nil => intro hsim hs; exact ⟨hs, hsim.kd, fun k y hy => by simp at hy⟩
  | snoc h x hx lv ih =>
    rename_i s1 ys
    intro hsim hs
    obtain ⟨h1, h2, h3⟩ := ih hsim hs
    have hk : hasK (kOf x) (dropsI d.its ys) = true := (has_iff (RiseI.of_kd h2 h1.tree.bst) _).2 ((kd_mem h2 _).2 (h1.have_ x hx))
    refine ⟨h1.del hx lv, ?_, fun k y hy => ?_⟩
    · rw [dropsI_snoc]
      exact kd_drop h2 h1.tree.bst hk
    · rcases Nat.lt_trichotomy k ys.length with hlt | heq | hgt
      · rw [List.getElem?_append_left hlt] at hy
        rw [List.take_append_of_le_length (by omega)]
        exact h3 k y hy
      · subst heq
        rw [List.getElem?_append_right (Nat.le_refl _)] at hy
        simp at hy; subst hy
        rw [List.take_append_of_le_length (Nat.le_refl _), List.take_length]
        exact hk
      · rw [List.getElem?_eq_none (by simp; omega)] at hy; cases hy
theorem tch_place {a n : Int} : ∀ (L : List (Int × Int)) (k : Nat) (y : Int × Int), L[k]? = some y → touch a n y = true → ∃ j, (tch a n L)[j]? = some y ∧ (tch a n L).take j = tch a n (L.take k)
  | [], k, y, h, _ => by simp at h
  | x :: r, 0, y, h, ht => by
    simp at h; subst h
    exact ⟨0, by unfold tch; rw [List.filter_cons_of_pos ht]; rfl, rfl⟩
  | x :: r, k + 1, y, h, ht => by
    obtain ⟨j, h1, h2⟩ := tch_place r k y (by simpa using h) ht
    by_cases hx : touch a n x = true
    · refine ⟨j + 1, ?_, ?_⟩
      · unfold tch; rw [List.filter_cons_of_pos hx, List.getElem?_cons_succ]; exact h1
      · unfold tch at h2 ⊢; rw [List.filter_cons_of_pos hx, List.take_succ_cons, h2, List.take_succ_cons, List.filter_cons_of_pos hx]
    · refine ⟨j, ?_, ?_⟩
      · unfold tch; rw [List.filter_cons_of_neg hx]; exact h1
      · unfold tch at h2 ⊢; rw [List.filter_cons_of_neg hx, h2, List.take_succ_cons, List.filter_cons_of_neg hx]
/-- Both free pages. -/
theorem Sim.give (h : Sim s d) (hs : s.Ok) {a n c c' : Int} (hf : FreeOf s a n c s') (hd : GiveD d a n c' d') : c = c' ∧ Sim s' d' := by
  have hP : (d.fr.length : Int) = s.P := h.len
  rcases hf with ⟨h1, rfl, rfl⟩ | ⟨h1, h2, rfl, rfl⟩ | ⟨h1, h2, rfl, s1, nb, lv, hdl, rfl⟩
  · rcases hd with ⟨k1, rfl, rfl⟩ | ⟨k1, _⟩ | ⟨k1, _⟩
    · exact ⟨rfl, h⟩
    · omega
    · omega
  · obtain ⟨p, p1, p2, p3⟩ := (hits_pg hs.list h1.2.1).1 h2
    have p4 := (h.pages p).1 p3
    rcases hd with ⟨k1, _⟩ | ⟨k1, k2, rfl, rfl⟩ | ⟨k1, k2, _⟩
    · omega
    · exact ⟨rfl, h⟩
    · have := k2 p p1 p2; rw [p4.2.2] at this; cases this
  · rcases hd with ⟨k1, _⟩ | ⟨k1, ⟨p, p1, p2, p3⟩, _⟩ | ⟨k1, k2, rfl, lv2, lv3, rfl⟩
    · omega
    · exfalso
      obtain ⟨y, hy, hyh⟩ := (hits_pg hs.list h1.2.1).2 ⟨p, p1, p2, (h.pages p).2 ⟨by omega, by omega, p3⟩⟩
      exact h2 y hy hyh
    · refine ⟨rfl, ?_⟩
      have hF := freed hs.list h1.1 h1.2.1 h1.2.2 h2
      have hnt := near_tch hs.list h1.2.1 h2
      rw [← h.list] at hnt
      have hds := hdl.same
      obtain ⟨o1, o2, _⟩ := dels_sim hdl h hs
      rw [h.list] at hnt
      obtain ⟨b, rfl⟩ : ∃ b : Nat, a = b := ⟨a.toNat, by omega⟩
      obtain ⟨m, rfl⟩ : ∃ m : Nat, n = m := ⟨n.toNat, by omega⟩
      rw [h.list, ← hnt]
      have hli : lstN (setTo d.fr b true m) (setTo d.fr b true m).length = freeL b m s.xs := list_turn hP (by omega) hF.ok (fun p => by
        rw [hF.pages p, h.pages p, hP]
        by_cases hc : (b : Int) ≤ p ∧ p < (b : Int) + (m : Int)
        · rw [if_pos hc]
          constructor
          · intro _; exact ⟨by omega, by omega, rfl⟩
          · intro _; exact .inr hc
        · rw [if_neg hc]; simp [hc])
      refine ⟨?_, ?_, ?_, h.ds.trans hds.2.2.2.symm, ?_⟩
      · show ((setTo d.fr (b : Int).toNat true (m : Int).toNat).length : Int) = s1.P
        rw [setTo_len, hds.2.1]; exact hP
      · show lstN (setTo d.fr (b : Int).toNat true (m : Int).toNat) (setTo d.fr (b : Int).toNat true (m : Int).toNat).length = insL _ s1.xs
        rw [Int.toNat_natCast, Int.toNat_natCast, hli, hdl.xs]; rfl
      · show kdI (insI _ _ _ (dropsI d.its _)) = kdT (Tr.put nb _ _ _ s1.t)
        rw [show (DS.setF (d.tree (dropsI d.its (nearL s.xs ↑b (↑b + ↑m))) lv2) (b : Int).toNat true (m : Int).toNat).draw = s1.draw from by
          have := h.draw
          unfold DS.draw RS.draw at this ⊢
          show d.ds[d.n]?.getD 0 = _
          rw [hds.2.2.2, hds.1]; exact this]
        exact kd_put o2 o1.tree.bst _ _ _ _ _
      · show d.n + 1 = s1.dn + 1
        rw [h.n, hds.1]
/-- What Put wants. -/
theorem Sim.askG (h : Sim s d) (hs : s.Ok) {a n c : Int} (hf : FreeOf s a n c s') : 0 ≤ a → 1 ≤ n → a + n ≤ d.fr.length → (∀ p : Int, a ≤ p → p < a + n → d.fr.getD p.toNat false = false) → GiveAsk d a n := by
  intro ha hn hP hfr
  have hlen := h.len
  rcases hf with ⟨h1, _⟩ | ⟨h1, h2, _⟩ | ⟨h1, h2, rfl, s1, nb, lv, hdl, rfl⟩
  · omega
  · obtain ⟨p, p1, p2, p3⟩ := (hits_pg hs.list hn).1 h2
    have p4 := (h.pages p).1 p3
    rw [hfr p p1 p2] at p4
    cases p4.2.2
  · have hF := freed hs.list h1.1 h1.2.1 h1.2.2 h2
    have hnt := near_tch hs.list h1.2.1 h2
    obtain ⟨o1, o2, o3⟩ := dels_sim hdl h hs
    have hds := hdl.same
    have hP2 := hs.P2
    refine ⟨fun k y hy ht => ?_, ?_, ?_⟩
    · rw [h.list] at hy ⊢
      obtain ⟨j, j1, j2⟩ := tch_place _ k y hy ht
      rw [← j2, ← hnt]
      rw [← hnt] at j1
      exact o3 j y j1
    · rw [h.list, ← hnt]
      have := hF.bd; omega
    · rw [h.list, ← hnt]
      cases hc : hasK (kOf (wholeL a n (nearL s.xs a (a + n)))) (dropsI d.its (nearL s.xs a (a + n))) with
      | false => rfl
      | true =>
        obtain ⟨z, hz, he⟩ := hasK_at hc
        obtain ⟨e, he2, he3⟩ := (kd_mem o2 z.1).1 ⟨z, List.mem_of_getElem? hz, rfl⟩
        obtain ⟨y, hy, hyk, _⟩ := o1.mem e he2
        have e1 := o1.key_inj (x := y) (y := wholeL a n (nearL s.xs a (a + n))) (o1.list.bd y hy) (by rw [hds.2.1]; exact hF.bd) (hyk.symm.trans (he3.trans he))
        rw [hdl.xs] at hy
        have := hF.free y hy
        rw [← e1] at this
        have hb := hF.bd
        rw [← e1] at hb
        omega
/-- What both find. -/
theorem Sim.find (h : Sim s d) (hs : s.Ok) {n : Int} {x y : Int × Int} {ok ok' : Bool} (hb : BestOf s n x ok) (hd : Best9 (lstN d.fr d.fr.length) n y ok') : x = y ∧ ok = ok' := by
  rw [h.list] at hd
  rcases hb with ⟨rfl, h1, h2⟩ | ⟨rfl, rfl, h2⟩
  · rcases hd with ⟨k1, _⟩ | ⟨_, ⟨rfl, k2⟩ | ⟨rfl, _, k2⟩⟩
    · omega
    · exact ⟨IsBest.uniq hs.list hs.P2 h2 k2, rfl⟩
    · have := k2 x h2.mem; have := h2.long; omega
  · rcases hd with ⟨k1, rfl, rfl⟩ | ⟨k1, ⟨rfl, k2⟩ | ⟨rfl, rfl, k2⟩⟩
    · exact ⟨rfl, rfl⟩
    · rcases h2 with h2 | h2
      · omega
      · have := h2 y k2.mem; have := k2.long; omega
    · exact ⟨rfl, rfl⟩
/-- Both begin. -/
theorem Sim.new {P : Nat} {ds : List Int} (h1 : 1 ≤ P) (hs : NewRuns P ds s) (hd : NewDoc P ds d) : Sim s d := by
  have hl : d.fr.length = P := by rw [hd.fr, setTo_len]; simp
  refine ⟨by rw [hl, hs.eP], ?_, ?_, hd.ds.trans hs.eds.symm, by rw [hd.n, hs.edn]⟩
  · rw [hs.exs, hd.fr]
    refine list_turn (P := (P : Int)) (by simp) (by simp) (RunsOk.single (by simp only; omega)) (fun p => ?_)
    rw [pg_single]
    simp only
    by_cases hc : ((0 : Nat) : Int) ≤ p ∧ p < ((0 : Nat) : Int) + (P : Int)
    · rw [if_pos hc]; exact ⟨fun _ => ⟨by omega, by omega, rfl⟩, fun _ => by omega⟩
    · rw [if_neg hc]; exact ⟨fun hh => absurd hh (by omega), fun hh => absurd hh.2.1 (by have := hh.1; omega)⟩
  · obtain ⟨nb, ht⟩ := hs.et
    rw [hd.its, ht]
    rfl
end
set_option maxRecDepth 100000 in
set_option maxHeartbeats 8000000 in
theorem same10_any {w : World} {s : RS} {d : DS} (h : IsRuns w s) (hd : IsDoc w d) (hs : Sim s d) :
    Calls Try.prog 41 #[.pointer (some ⟨s.rb, 0, none⟩), .pointer (some ⟨d.rb, 0, none⟩)] w fun e w' => e = .returned (.bool true) ∧ Adds w w' := by
  have hok := h.ok
  have hP2 := hok.P2; have hP1 := hok.P1
  have hlen : s.xs.length ≤ 4096 := by have := hok.list.len (by omega); omega
  have hsz : s.t.size = s.xs.length := hok.size
  have c3 : w.cell? ⟨d.rb, 3, none⟩ = some (.int .i64 s.dn) := by rw [← hs.n]; exact hd.blk.cell 3
  have hsl : (s.t.shape 0).length = s.t.size := Tr.shape_len _ _
  have HL := Lib.hid hs.list
  have HK := Lib.hid hs.kd
  have H := Lib.hid h; have HD := Lib.hid hd; have HT := Lib.hid hok.tree
  obtain ⟨rb, hrb⟩ : ∃ rb, s.rb = rb := ⟨_, rfl⟩
  obtain ⟨db, hdb⟩ : ∃ db, d.rb = db := ⟨_, rfl⟩
  obtain ⟨dn, hdn⟩ : ∃ dn, s.dn = dn := ⟨_, rfl⟩
  obtain ⟨tt, htt⟩ : ∃ tt, tot s.xs = tt := ⟨_, rfl⟩
  have HL1 := Lib.hid (fun W (ho : Adds w W) => list_any (H.out.adds ho))
  have HL2 := Lib.hid (fun W (ho : Adds w W) => list9_any (HD.out.adds ho))
  have HT1 := Lib.hid (fun W (ho : Adds w W) => total_any (H.out.adds ho))
  have HT2 := Lib.hid (fun W (ho : Adds w W) => total9_any (HD.out.adds ho))
  have HN1 := Lib.hid (fun W (ho : Adds w W) => drawn_any (H.out.adds ho))
  have HS1 := Lib.hid (fun W (ho : Adds w W) => shape_any (H.out.adds ho))
  have HS2 := Lib.hid (fun W (ho : Adds w W) => shape9R_any (HD.out.adds ho) HT.out.bst HT.out.heap HK.out)
  rw [HL.out] at HL2 HT2
  rw [hrb] at HL1 HT1 HN1 HS1 ⊢
  rw [hdb] at HL2 HT2 HS2 c3 ⊢
  rw [hdn] at HN1 c3
  rw [htt] at HT1 HT2
  clear h hd hs hok hrb hdb hdn htt
  go_enter Try.func41, Try.ntmps41
  go_upto_region 1 with fail
  refine wp_region_held_drew (S := (fun W' => W'.cell? ⟨db, 3, none⟩ = some (.int .i64 dn))) (by kernel_rfl) c3 (fun hHeld => ?_)
  refine wpAnyH_take (i := 0) (v := (.pointer (some ⟨rb, 0, none⟩))) rfl (by kernel_rfl) (by kernel_rfl) (by kernel_rfl) (fun _ _ _ h => h) (Or.inl ⟨by rfl, fun W hS => by first | rfl | (go_simp; done)⟩) hHeld ?_
  try simp only [Act.put, List.getElem_toArray, List.getElem_cons_succ, List.getElem_cons_zero, List.setIfInBounds_toArray, List.set_cons_zero, List.set_cons_succ]
  refine wpAnyH_take (i := 2) (v := (.pointer (some ⟨db, 0, none⟩))) rfl (by kernel_rfl) (by kernel_rfl) (by kernel_rfl) (fun _ _ _ h => h) (Or.inl ⟨by rfl, fun W hS => by first | rfl | (go_simp; done)⟩) hHeld ?_
  try simp only [Act.put, List.getElem_toArray, List.getElem_cons_succ, List.getElem_cons_zero, List.setIfInBounds_toArray, List.set_cons_zero, List.set_cons_succ]
  refine wpAnyH_ready (rs := [1]) (by kernel_rfl) (by simp) (AllReadyH.cons rfl (fun K hK => ?_) AllReadyH.nil)
  simp only [List.getElem_toArray, List.getElem_cons_succ, List.getElem_cons_zero]
  go_simp
  refine (HL1.out _ ((Only.refl (fun _ => False) w).drew)).mono ?_
  rintro e w1 ⟨v1, rfl, r1, o1⟩
  have A1 : Adds w w1 := ((Only.refl (fun _ => False) w).drew).thenF o1
  refine hK.out _ _ (cell_al hHeld o1) (fun hHeld => ?_)
  clear hK K
  try simp only [Act.put, List.getElem_toArray, List.getElem_cons_succ, List.getElem_cons_zero, List.setIfInBounds_toArray, List.set_cons_zero, List.set_cons_succ]
  refine wpAnyH_ready (rs := [3]) (by kernel_rfl) (by simp) (AllReadyH.cons rfl (fun K hK => ?_) AllReadyH.nil)
  simp only [List.getElem_toArray, List.getElem_cons_succ, List.getElem_cons_zero]
  go_simp
  refine (HL2.out _ A1).mono ?_
  rintro e w2 ⟨v2, rfl, r2, o2⟩
  have A2 := A1.thenF o2
  refine hK.out _ _ (cell_al hHeld o2) (fun hHeld => ?_)
  clear hK K
  try simp only [Act.put, List.getElem_toArray, List.getElem_cons_succ, List.getElem_cons_zero, List.setIfInBounds_toArray, List.set_cons_zero, List.set_cons_succ]
  refine wpAnyH_ready (rs := [4]) (by kernel_rfl) (by simp) (AllReadyH.cons rfl (fun K hK => ?_) AllReadyH.nil)
  simp only [List.getElem_toArray, List.getElem_cons_succ, List.getElem_cons_zero]
  go_simp
  refine (sameRuns_any v1 v2 s.xs s.xs w2 ((NodesAt.of_owns r1).adds o2) (NodesAt.of_owns r2) (by omega) (by omega)).mono ?_
  rintro e w3 ⟨rfl, q3, rfl⟩
  rw [show decide (s.xs = s.xs) = true by simp]
  have A3 : Adds w (w2.drewN q3) := A2.drewN q3
  refine hK.out _ _ (cell_al hHeld ((Only.refl (fun _ => False) w2).drewN q3)) (fun hHeld => ?_)
  clear hK K
  try simp only [Act.put, List.getElem_toArray, List.getElem_cons_succ, List.getElem_cons_zero, List.setIfInBounds_toArray, List.set_cons_zero, List.set_cons_succ]
  refine wpAnyH_take (i := 5) (v := (.bool true)) rfl (by kernel_rfl) (by kernel_rfl) (by kernel_rfl) (fun _ _ _ h => h) (Or.inl ⟨by rfl, fun W hS => by first | rfl | (go_simp; done)⟩) hHeld ?_
  try simp only [Act.put, List.getElem_toArray, List.getElem_cons_succ, List.getElem_cons_zero, List.setIfInBounds_toArray, List.set_cons_zero, List.set_cons_succ]
  refine wpAnyH_take (i := 6) (v := (.pointer (some ⟨rb, 0, none⟩))) rfl (by kernel_rfl) (by kernel_rfl) (by kernel_rfl) (fun _ _ _ h => h) (Or.inl ⟨by rfl, fun W hS => by first | rfl | (go_simp; done)⟩) hHeld ?_
  try simp only [Act.put, List.getElem_toArray, List.getElem_cons_succ, List.getElem_cons_zero, List.setIfInBounds_toArray, List.set_cons_zero, List.set_cons_succ]
  refine wpAnyH_take (i := 8) (v := (.pointer (some ⟨db, 0, none⟩))) rfl (by kernel_rfl) (by kernel_rfl) (by kernel_rfl) (fun _ _ _ h => h) (Or.inl ⟨by rfl, fun W hS => by first | rfl | (go_simp; done)⟩) hHeld ?_
  try simp only [Act.put, List.getElem_toArray, List.getElem_cons_succ, List.getElem_cons_zero, List.setIfInBounds_toArray, List.set_cons_zero, List.set_cons_succ]
  refine wpAnyH_ready (rs := [7]) (by kernel_rfl) (by simp) (AllReadyH.cons rfl (fun K hK => ?_) AllReadyH.nil)
  simp only [List.getElem_toArray, List.getElem_cons_succ, List.getElem_cons_zero]
  go_simp
  refine (HT1.out _ A3).mono ?_
  rintro e w4 ⟨rfl, rfl⟩
  refine hK.out _ _ hHeld (fun hHeld => ?_)
  clear hK K
  try simp only [Act.put, List.getElem_toArray, List.getElem_cons_succ, List.getElem_cons_zero, List.setIfInBounds_toArray, List.set_cons_zero, List.set_cons_succ]
  refine wpAnyH_ready (rs := [9]) (by kernel_rfl) (by simp) (AllReadyH.cons rfl (fun K hK => ?_) AllReadyH.nil)
  simp only [List.getElem_toArray, List.getElem_cons_succ, List.getElem_cons_zero]
  go_simp
  refine (HT2.out _ A3).mono ?_
  rintro e w4 ⟨rfl, rfl⟩
  refine hK.out _ _ hHeld (fun hHeld => ?_)
  clear hK K
  try simp only [Act.put, List.getElem_toArray, List.getElem_cons_succ, List.getElem_cons_zero, List.setIfInBounds_toArray, List.set_cons_zero, List.set_cons_succ]
  refine wpAnyH_take (i := 10) (v := (.bool true)) rfl (by kernel_rfl) (by kernel_rfl) (by kernel_rfl) (fun _ _ _ h => h) (Or.inl ⟨by rfl, fun W hS => by (go_simp; done)⟩) hHeld ?_
  try simp only [Act.put, List.getElem_toArray, List.getElem_cons_succ, List.getElem_cons_zero, List.setIfInBounds_toArray, List.set_cons_zero, List.set_cons_succ]
  refine wpAnyH_take (i := 11) (v := (.bool true)) rfl (by kernel_rfl) (by kernel_rfl) (by kernel_rfl) (fun _ _ _ h => h) (Or.inl ⟨by rfl, fun W hS => by (go_simp; done)⟩) hHeld ?_
  try simp only [Act.put, List.getElem_toArray, List.getElem_cons_succ, List.getElem_cons_zero, List.setIfInBounds_toArray, List.set_cons_zero, List.set_cons_succ]
  refine wpAnyH_take (i := 12) (v := (.bool true)) rfl (by kernel_rfl) (by kernel_rfl) (by kernel_rfl) (fun _ _ _ h => h) (Or.inl ⟨by rfl, fun W hS => by (go_simp; done)⟩) hHeld ?_
  try simp only [Act.put, List.getElem_toArray, List.getElem_cons_succ, List.getElem_cons_zero, List.setIfInBounds_toArray, List.set_cons_zero, List.set_cons_succ]
  refine wpAnyH_take (i := 13) (v := (.pointer (some ⟨rb, 0, none⟩))) rfl (by kernel_rfl) (by kernel_rfl) (by kernel_rfl) (fun _ _ _ h => h) (Or.inl ⟨by rfl, fun W hS => by first | rfl | (go_simp; done)⟩) hHeld ?_
  try simp only [Act.put, List.getElem_toArray, List.getElem_cons_succ, List.getElem_cons_zero, List.setIfInBounds_toArray, List.set_cons_zero, List.set_cons_succ]
  refine wpAnyH_take (i := 15) (v := (.pointer (some ⟨db, 0, none⟩))) rfl (by kernel_rfl) (by kernel_rfl) (by kernel_rfl) (fun _ _ _ h => h) (Or.inl ⟨by rfl, fun W hS => by first | rfl | (go_simp; done)⟩) hHeld ?_
  try simp only [Act.put, List.getElem_toArray, List.getElem_cons_succ, List.getElem_cons_zero, List.setIfInBounds_toArray, List.set_cons_zero, List.set_cons_succ]
  refine wpAnyH_take (i := 16) (v := (.pointer (some ⟨db, 0, none⟩))) rfl (by kernel_rfl) (by kernel_rfl) (by kernel_rfl) (fun _ _ _ h => h) (Or.inl ⟨by rfl, fun W hS => by first | rfl | (go_simp; done)⟩) hHeld ?_
  try simp only [Act.put, List.getElem_toArray, List.getElem_cons_succ, List.getElem_cons_zero, List.setIfInBounds_toArray, List.set_cons_zero, List.set_cons_succ]
  refine wpAnyH_take (i := 17) (v := (.pointer (some ⟨db, 3, none⟩))) rfl (by kernel_rfl) (by kernel_rfl) (by kernel_rfl) (fun _ _ _ h => h) (Or.inl ⟨by rfl, fun W hS => by first | rfl | (go_simp; done)⟩) hHeld ?_
  try simp only [Act.put, List.getElem_toArray, List.getElem_cons_succ, List.getElem_cons_zero, List.setIfInBounds_toArray, List.set_cons_zero, List.set_cons_succ]
  refine wpAnyH_take (i := 18) (v := (.int .i64 (dn : Int))) rfl (by kernel_rfl) (by kernel_rfl) (by kernel_rfl) (fun _ _ _ h => h) (Or.inl ⟨by rfl, fun W hS => by (obtain q1 := hS; go_simp; done)⟩) hHeld ?_
  try simp only [Act.put, List.getElem_toArray, List.getElem_cons_succ, List.getElem_cons_zero, List.setIfInBounds_toArray, List.set_cons_zero, List.set_cons_succ]
  refine wpAnyH_ready (rs := [14]) (by kernel_rfl) (by simp) (AllReadyH.cons rfl (fun K hK => ?_) AllReadyH.nil)
  simp only [List.getElem_toArray, List.getElem_cons_succ, List.getElem_cons_zero]
  go_simp
  refine (HN1.out _ A3).mono ?_
  rintro e w4 ⟨rfl, rfl⟩
  refine hK.out _ _ hHeld (fun hHeld => ?_)
  clear hK K
  try simp only [Act.put, List.getElem_toArray, List.getElem_cons_succ, List.getElem_cons_zero, List.setIfInBounds_toArray, List.set_cons_zero, List.set_cons_succ]
  refine wpAnyH_take (i := 19) (v := (.bool true)) rfl (by kernel_rfl) (by kernel_rfl) (by kernel_rfl) (fun _ _ _ h => h) (Or.inl ⟨by rfl, fun W hS => by (go_simp; done)⟩) hHeld ?_
  try simp only [Act.put, List.getElem_toArray, List.getElem_cons_succ, List.getElem_cons_zero, List.setIfInBounds_toArray, List.set_cons_zero, List.set_cons_succ]
  refine wpAnyH_take (i := 20) (v := (.bool true)) rfl (by kernel_rfl) (by kernel_rfl) (by kernel_rfl) (fun _ _ _ h => h) (Or.inl ⟨by rfl, fun W hS => by (go_simp; done)⟩) hHeld ?_
  try simp only [Act.put, List.getElem_toArray, List.getElem_cons_succ, List.getElem_cons_zero, List.setIfInBounds_toArray, List.set_cons_zero, List.set_cons_succ]
  refine wpAnyH_take (i := 21) (v := (.bool true)) rfl (by kernel_rfl) (by kernel_rfl) (by kernel_rfl) (fun _ _ _ h => h) (Or.inl ⟨by rfl, fun W hS => by (go_simp; done)⟩) hHeld ?_
  try simp only [Act.put, List.getElem_toArray, List.getElem_cons_succ, List.getElem_cons_zero, List.setIfInBounds_toArray, List.set_cons_zero, List.set_cons_succ]
  refine wpAnyH_take (i := 22) (v := (.pointer (some ⟨rb, 0, none⟩))) rfl (by kernel_rfl) (by kernel_rfl) (by kernel_rfl) (fun _ _ _ h => h) (Or.inl ⟨by rfl, fun W hS => by first | rfl | (go_simp; done)⟩) hHeld ?_
  try simp only [Act.put, List.getElem_toArray, List.getElem_cons_succ, List.getElem_cons_zero, List.setIfInBounds_toArray, List.set_cons_zero, List.set_cons_succ]
  refine wpAnyH_take (i := 24) (v := (.pointer (some ⟨db, 0, none⟩))) rfl (by kernel_rfl) (by kernel_rfl) (by kernel_rfl) (fun _ _ _ h => h) (Or.inl ⟨by rfl, fun W hS => by first | rfl | (go_simp; done)⟩) hHeld ?_
  try simp only [Act.put, List.getElem_toArray, List.getElem_cons_succ, List.getElem_cons_zero, List.setIfInBounds_toArray, List.set_cons_zero, List.set_cons_succ]
  refine wpAnyH_ready (rs := [23]) (by kernel_rfl) (by simp) (AllReadyH.cons rfl (fun K hK => ?_) AllReadyH.nil)
  simp only [List.getElem_toArray, List.getElem_cons_succ, List.getElem_cons_zero]
  go_simp
  refine (HS1.out _ A3).mono ?_
  rintro e w5 ⟨v5, rfl, r5, o5⟩
  have A5 := A3.thenF o5
  rw [← hsl] at r5
  refine hK.out _ _ (cell_al hHeld o5) (fun hHeld => ?_)
  clear hK K
  try simp only [Act.put, List.getElem_toArray, List.getElem_cons_succ, List.getElem_cons_zero, List.setIfInBounds_toArray, List.set_cons_zero, List.set_cons_succ]
  refine wpAnyH_ready (rs := [25]) (by kernel_rfl) (by simp) (AllReadyH.cons rfl (fun K hK => ?_) AllReadyH.nil)
  simp only [List.getElem_toArray, List.getElem_cons_succ, List.getElem_cons_zero]
  go_simp
  refine (HS2.out _ A5).mono ?_
  rintro e w6 ⟨v6, rfl, r6, o6⟩
  have A6 := A5.thenF o6
  refine hK.out _ _ (cell_al hHeld o6) (fun hHeld => ?_)
  clear hK K
  try simp only [Act.put, List.getElem_toArray, List.getElem_cons_succ, List.getElem_cons_zero, List.setIfInBounds_toArray, List.set_cons_zero, List.set_cons_succ]
  refine wpAnyH_ready (rs := [26]) (by kernel_rfl) (by simp) (AllReadyH.cons rfl (fun K hK => ?_) AllReadyH.nil)
  simp only [List.getElem_toArray, List.getElem_cons_succ, List.getElem_cons_zero]
  go_simp
  refine (sameNodes_any v5 v6 (s.t.shape 0) (s.t.shape 0) w6 ((NodesAt.of_owns r5).adds o6) (NodesAt.of_owns r6) (by omega) (by omega)).mono ?_
  rintro e w7 ⟨rfl, q7, rfl⟩
  rw [show decide (s.t.shape 0 = s.t.shape 0) = true by simp]
  have A7 : Adds w (w6.drewN q7) := A6.drewN q7
  refine hK.out _ _ (cell_al hHeld ((Only.refl (fun _ => False) w6).drewN q7)) (fun hHeld => ?_)
  clear hK K
  try simp only [Act.put, List.getElem_toArray, List.getElem_cons_succ, List.getElem_cons_zero, List.setIfInBounds_toArray, List.set_cons_zero, List.set_cons_succ]
  refine wpAnyH_take (i := 27) (v := (.bool true)) rfl (by kernel_rfl) (by kernel_rfl) (by kernel_rfl) (fun _ _ _ h => h) (Or.inl ⟨by rfl, fun W hS => by (go_simp; done)⟩) hHeld ?_
  try simp only [Act.put, List.getElem_toArray, List.getElem_cons_succ, List.getElem_cons_zero, List.setIfInBounds_toArray, List.set_cons_zero, List.set_cons_succ]
  refine wpAnyH_take (i := 28) (v := (.bool true)) rfl (by kernel_rfl) (by kernel_rfl) (by kernel_rfl) (fun _ _ _ h => h) (Or.inl ⟨by rfl, fun W hS => by (go_simp; done)⟩) hHeld ?_
  try simp only [Act.put, List.getElem_toArray, List.getElem_cons_succ, List.getElem_cons_zero, List.setIfInBounds_toArray, List.set_cons_zero, List.set_cons_succ]
  refine wpAnyH_done (by kernel_rfl) ?_ _
  go_wp2_with fail
  go_ret
  exact ⟨rfl, A7⟩
/-- Runs of ours and of the document's, made by a call, apart, that go together. -/
structure Pair (w w' : World) (P : Int) (s : RS) (d : DS) : Prop where
  fs : SomeRuns w w' P s
  dd : IsDoc w' d
  dnew : ∀ y, d.all y → w.heap.size ≤ y
  apart : ∀ y, s.all y → ¬ d.all y
  sim : Sim s d
section
variable {w w1 w2 w3 : World} {P : Int} {s s' : RS} {d d' : DS}
theorem Pair.keepD (h : Pair w w1 P s d) (m : Moves s s' w1 w2) : IsDoc w2 d := h.dd.only m.only (fun y hd ho => h.apart y (.inl ho) hd)
theorem Pair.keep (h : Pair w w1 P s d) (ho : Adds w1 w2) : Pair w w2 P s d := ⟨h.fs.keep ho, h.dd.adds ho, h.dnew, h.apart, h.sim⟩
theorem Pair.both (h : Pair w w1 P s d) (ia : IsRuns w2 s') (ma : Moves s s' w1 w2) (ib : IsDoc w3 d') (mb : MovD d d' w2 w3) (hs : Sim s' d') : Pair w w3 P s' d' := by
  have hA := h.fs.moves ia ma
  have hd := h.keepD ma
  have hap : ∀ y, s'.all y → ¬ d.all y := fun y hy hb => (ma.all y hy).elim (fun h2 => h.apart y h2 hb) (fun h2 => by have := h.dd.lt y hb; omega)
  refine ⟨⟨ia.only mb.only (fun y hy ho => hap y hy (.inl ho)), hA.P, hA.adds.andThen mb.only (fun i hi ho => by have := h.dnew i (.inl ho); omega), hA.new⟩, ib, fun y hy => (mb.all y hy).elim (h.dnew y) (fun h2 => Nat.le_trans hA.adds.size h2), fun y hy hb => (mb.all y hb).elim (hap y hy) (fun h2 => by have := ia.lt y hy; omega), hs⟩
theorem Pair.start {n : Nat} {ds : List Int} (h1 : 1 ≤ n) (hP : (n : Int) = P) (hA : Adds w w1) (i1 : IsRuns w2 s) (n1 : NewRuns n ds s) (o1 : Adds w1 w2) (f1 : ∀ y, s.all y → w1.heap.size ≤ y) (oo : Adds w2 w3) {w4 : World} (i2 : IsDoc w4 d) (n2 : NewDoc n ds d) (o2 : Adds w3 w4) (f2 : ∀ y, d.all y → w3.heap.size ≤ y) : Pair w w4 P s d := by
  have hz := oo.size; have hz1 := o1.size; have hz2 := hA.size
  exact ⟨⟨i1.adds (oo.thenF o2), n1.eP.trans hP, ((hA.thenF o1).thenF oo).thenF o2, fun y hy => Nat.le_trans hz2 (f1 y hy)⟩, i2, fun y hy => by have := f2 y hy; omega, fun y hy hd => by have := f2 y hd; have := i1.lt y hy; omega, Sim.new h1 n1 n2⟩
theorem Pair.dn (h : Pair w w1 P s d) : d.n = s.dn := h.sim.n
theorem Pair.il (h : Pair w w1 P s d) : d.its.length < 800000 := by have := h.sim.room h.fs.is.ok; omega
end
theorem rowK_adds {k : IntKind} {w w' : World} {a : Option Addr} {len cap : Nat} {zs : List Int} (h : IsRow k w a len cap zs) (ho : Adds w w') : IsRow k w' a len cap zs := by
  rcases h with h | ⟨x, h1, h2, h3, h4, h5, h6⟩
  · exact .inl h
  · refine .inr ⟨x, h1, h2, h3, h4, fun i hi => ?_, h6⟩
    have := h5 i hi
    refine (ho.cellF (p := x.add i) ?_ id).trans this
    rcases Nat.lt_or_ge (x.add i).block w.heap.size with h7 | h7
    · exact h7
    · simp [World.cell?, Array.getElem?_eq_none h7] at this
theorem wrap_three (k : Nat) (h : k < 1000000) : IntKind.i64.wrap ((k : Int) + 3) = (k : Int) + 3 ∧ wrap64 ((k : Int) + 1) = (k : Int) + 1 ∧ wrap64 ((k : Int) + 2) = (k : Int) + 2 := ⟨wrap_ok ((k : Int) + 3) (by omega) (by omega), wrap64_ok ((k : Int) + 1) (by omega) (by omega), wrap64_ok ((k : Int) + 2) (by omega) (by omega)⟩
theorem take_dn {s s' : RS} {n a e : Int} (h : TakeOf s n a e s') : s'.dn ≤ s.dn + 1 := by
  rcases h.cases with ⟨_, _, _, _, _, _, h1, _⟩ | ⟨_, _, rfl, _⟩
  · exact h1
  · omega
theorem free_dn {s s' : RS} {a n c : Int} (h : FreeOf s a n c s') : s'.dn ≤ s.dn + 1 := by
  rcases h.cases with ⟨_, _, _, _, h1⟩ | ⟨_, rfl, _⟩
  · omega
  · omega
theorem mem_words_bd {P T : Int} (h : Lay.may P T = true) : 90 ≤ Lay.words P T ∧ Lay.words P T ≤ 65536 := by
  obtain ⟨h1, h2, h3, h4⟩ := Lay.may_iff.1 h
  have hb := Lay.many_bd h1 h2
  have e : Lay.words P T = 68 + 14 * T + 6 * P + 2 * Lay.many P := by simp [Lay.words, h]
  rw [e]; omega
theorem refNew_ex (n' : Int) (w : World) (h1' : 1 ≤ n') (h2' : n' ≤ 65536) :
    Calls Try.prog 51 #[.int .i64 n'] w fun e w' => ∃ b m, e = .returned (.pointer (some ⟨b, 0, none⟩)) ∧ IsRef w' b m (StoreS.fresh n'.toNat) ∧ Adds w w' ∧ w.heap.size ≤ b ∧ w.heap.size ≤ m :=
  (refNew_ok n' w h1' h2').mono (fun _ _ h => ⟨_, _, h.1, h.2.1, h.2.2.1, by omega, Nat.le_refl _⟩)
theorem isRef_begun {w : World} {b m n : Nat} (h : IsRef w b m (StoreS.fresh n)) (h1 : n ≤ 65536) : IsRef (w.setCell ⟨m, 0, none⟩ (.int .u64 1)) b m (StoreS.begun n 0 1) := by
  have hne := h.ne
  refine ⟨?_, ?_, hne, StoreS.begun_fit h1 (by omega) (by omega)⟩
  · have h9 := h.head.setCell_other hne 0 (.int .u64 1)
    simpa [StoreS.arr, StoreS.begun, StoreS.fresh] using h9
  · have h9 := h.row.setCell 0 (.int .u64 1)
    simpa [StoreS.begun] using h9
/-- The document's arena over store s and runs d. -/
structure IsMemD (w : World) (bb sb sm : Nat) (P T : Int) (s : StoreS) (d : DS) : Prop where
  head : Blk w bb #[.pointer (some ⟨sb, 0, none⟩), .pointer (some ⟨d.rb, 0, none⟩), .int .i64 P, .int .i64 T] 36
  st : IsRef w sb sm s
  ru : IsDoc w d
theorem IsMemD.adds {w w' : World} {bb sb sm : Nat} {P T : Int} {s : StoreS} {d : DS} (h : IsMemD w bb sb sm P T s d) (ho : Adds w w') : IsMemD w' bb sb sm P T s d := ⟨h.head.only ho id, h.st.only ho id id, h.ru.adds ho⟩
set_option maxHeartbeats 2000000 in
theorem newMemD_no (P T : Int) (va : Option Addr) (vl vc : Nat) (w : World) (hm : Lay.may P T = false) :
    Calls Try.prog 13 #[.agg #[.int .i64 P, .int .i64 T, .slice va vl vc]] w fun e w' => e = .returned (.pointer none) ∧ Adds w w' := by
  go_enter Try.func13, Try.ntmps13
  go_wp2_with (go_at_call 50; refine (r6LayMay_any _ _ _).mono ?_; rintro e wm ⟨rfl, ho⟩; rw [hm])
  go_ret
  exact ⟨rfl, (((Only.refl _ _).alloc _).alloc _).thenF ho⟩
set_option maxRecDepth 100000 in
set_option maxHeartbeats 8000000 in
theorem newMemD_ok (P T : Int) (va : Option Addr) (vl vc : Nat) (ds : List Int) (w : World) (hd : Draws w (.slice va vl vc) ds) (hdn : ds.length < 1000000) (hm : Lay.may P T = true) :
    Calls Try.prog 13 #[.agg #[.int .i64 P, .int .i64 T, .slice va vl vc]] w fun e w' => ∃ bb sb sm d, e = .returned (.pointer (some ⟨bb, 0, none⟩)) ∧ IsMemD w' bb sb sm P T (StoreS.begun (Lay.words P T).toNat 0 1) d ∧ NewDoc P.toNat ds d ∧ Adds w w' ∧ w.heap.size ≤ bb ∧ w.heap.size ≤ sb ∧ w.heap.size ≤ sm ∧ ∀ y, d.all y → w.heap.size ≤ y := by
  obtain ⟨p1, p2, -, -⟩ := Lay.may_iff.1 hm
  obtain ⟨d1, d2⟩ := mem_words_bd hm
  obtain ⟨n, hn⟩ : ∃ n : Nat, P = (n : Int) := ⟨P.toNat, by omega⟩
  subst hn
  have HM := Lib.hid hm
  have HDR := Lib.hid hd
  have hx := Blk.new w #[.int .i64 (n : Int), .int .i64 T, .slice va vl vc] 24
  obtain ⟨wx, hwx⟩ : ∃ wx, wx = w.alloc (.cells #[.int .i64 (n : Int), .int .i64 T, .slice va vl vc] 24) := ⟨_, rfl⟩
  obtain ⟨xb, hxb⟩ : ∃ xb, xb = w.heap.size := ⟨_, rfl⟩
  have hAx : Adds w wx := by rw [hwx]; exact (Only.refl _ _).alloc _
  rw [← hwx, ← hxb] at hx
  have s0 : wx.cell? ⟨xb, 0, none⟩ = some (.int .i64 (n : Int)) := hx.cell 0
  have s1 : wx.cell? ⟨xb, 1, none⟩ = some (.int .i64 T) := hx.cell 1
  have HX := Lib.hid hx; have HA := Lib.hid hAx; have HWX := Lib.hid hwx; have HXB := Lib.hid hxb
  clear hm hd hx hwx hxb hAx
  go_enter Try.func13, Try.ntmps13
  go_upto_region 1 with fail
  rw [← HWX.out, ← HXB.out]
  go_upto_region 2 with fail
  obtain ⟨wl, hwl⟩ : ∃ wl, wl = wx.alloc (.cells #[.int .i64 (n : Int), .int .i64 T] 31) := ⟨_, rfl⟩
  obtain ⟨lb, hlb⟩ : ∃ lb, lb = wx.heap.size := ⟨_, rfl⟩
  have hl := Blk.new wx #[.int .i64 (n : Int), .int .i64 T] 31
  have HX2 := Lib.hid (HX.out.alloc (.cells #[.int .i64 (n : Int), .int .i64 T] 31))
  have HA2 := Lib.hid (HA.out.alloc (.cells #[.int .i64 (n : Int), .int .i64 T] 31))
  rw [← hwl] at hl HX2 HA2 ⊢
  rw [← hlb] at hl ⊢
  have l0 : wl.cell? ⟨lb, 0, none⟩ = some (.int .i64 (n : Int)) := hl.cell 0
  have l1 : wl.cell? ⟨lb, 1, none⟩ = some (.int .i64 T) := hl.cell 1
  have HL := Lib.hid hl
  clear hwl hlb hl s0 s1
  go_upto_region 4 with (go_at_call 50; refine (r6LayMay_any _ _ _).mono ?_; rintro e wm ⟨rfl, ho⟩; rw [HM.out]; have HX3 := Lib.hid (HX2.out.only ho id); have HL3 := Lib.hid (HL.out.only ho id); have HA3 := Lib.hid (HA2.out.thenF ho); clear ho)
  have l0' : wm.cell? ⟨lb, 0, none⟩ = some (.int .i64 (n : Int)) := HL3.out.cell 0
  have l1' : wm.cell? ⟨lb, 1, none⟩ = some (.int .i64 T) := HL3.out.cell 1
  have s0 : wm.cell? ⟨xb, 0, none⟩ = some (.int .i64 (n : Int)) := HX3.out.cell 0
  have s2 : wm.cell? ⟨xb, 2, none⟩ = some (.slice va vl vc) := HX3.out.cell 2
  clear l0 l1
  have HK : Hid (∀ W W', (W.cell? ⟨lb, 0, none⟩ = some (.int .i64 (n : Int)) ∧ W.cell? ⟨lb, 1, none⟩ = some (.int .i64 T) ∧ W.cell? ⟨xb, 0, none⟩ = some (.int .i64 (n : Int)) ∧ W.cell? ⟨xb, 2, none⟩ = some (.slice va vl vc) ∧ Adds wm W) → Adds W W' → (W'.cell? ⟨lb, 0, none⟩ = some (.int .i64 (n : Int)) ∧ W'.cell? ⟨lb, 1, none⟩ = some (.int .i64 T) ∧ W'.cell? ⟨xb, 0, none⟩ = some (.int .i64 (n : Int)) ∧ W'.cell? ⟨xb, 2, none⟩ = some (.slice va vl vc) ∧ Adds wm W')) := Lib.hid (fun W W' h ho => by
    obtain ⟨q0, q1, q2, q3, hq⟩ := h
    exact ⟨(ho.cellF (p := ⟨lb, 0, none⟩) (cell_lt q0) id).trans q0, (ho.cellF (p := ⟨lb, 1, none⟩) (cell_lt q1) id).trans q1, (ho.cellF (p := ⟨xb, 0, none⟩) (cell_lt q2) id).trans q2, (ho.cellF (p := ⟨xb, 2, none⟩) (cell_lt q3) id).trans q3, hq.thenF ho⟩)
  have HG : Hid (∀ W, (W.cell? ⟨lb, 0, none⟩ = some (.int .i64 (n : Int)) ∧ W.cell? ⟨lb, 1, none⟩ = some (.int .i64 T) ∧ W.cell? ⟨xb, 0, none⟩ = some (.int .i64 (n : Int)) ∧ W.cell? ⟨xb, 2, none⟩ = some (.slice va vl vc) ∧ Adds wm W) → Adds wm W) := Lib.hid (fun W h => h.2.2.2.2)
  go_upto_region 4 with fail
  go_cut [4] (fun x wx => ∃ bb sb sm d, x = .pointer (some ⟨bb, 0, none⟩) ∧ Hid (IsMemD wx bb sb sm n T (StoreS.fresh (Lay.words n T).toNat) d ∧ NewDoc n ds d ∧ Adds wm wx) ∧ wm.heap.size ≤ bb ∧ wm.heap.size ≤ sb ∧ wm.heap.size ≤ sm ∧ ∀ y, d.all y → wm.heap.size ≤ y ∧ y ≠ sm)
  case first =>
    go_region_held3 (fun W => W.cell? ⟨lb, 0, none⟩ = some (.int .i64 (n : Int)) ∧ W.cell? ⟨lb, 1, none⟩ = some (.int .i64 T) ∧ W.cell? ⟨xb, 0, none⟩ = some (.int .i64 (n : Int)) ∧ W.cell? ⟨xb, 2, none⟩ = some (.slice va vl vc) ∧ Adds wm W)
      (first | (exact ⟨l0', l1', s0, s2, (Only.refl _ _).drew⟩) | (exact HK.out _ _ (by assumption) (by assumption)) | (exact HK.out _ _ (by assumption) ((Only.refl _ _).alloc _)))
      (first
      | (go_at_call 52; refine (r6Words_any _ _ _).mono ?_; rintro e w1 ⟨rfl, ho1⟩)
      | (go_at_call 51; refine (refNew_ex _ _ (by omega) d2).mono ?_; rintro e w2 ⟨sb, sm, rfl, hst, ho2, hlow1, hlow2⟩)
      | (go_at_call 38; refine (new9_any n (by omega) (by omega) (HDR.out.adds (HA3.out.thenF (HG.out _ (by assumption)))) hdn).mono ?_; rintro e w3 ⟨d, rfl, hdoc, hnd, ho3, hlow3⟩))
    all_goals
      go_wp2_with fail
      go_meet
      have z0 : wm.drew.heap.size = wm.heap.size := rfl
      have z1 := ho1.size; have z2 := ho2.size; have z3 := ho3.size
      first
        | exact ⟨_, sb, sm, d, rfl, Lib.hid ⟨⟨Blk.new _ _ _, (hst.only ho3 id id).alloc _, hdoc.adds ((Only.refl _ _).alloc _)⟩, hnd, ((((Only.refl (fun _ => False) wm).drew.thenF ho1).thenF ho2).thenF ho3).alloc _⟩, by omega, by omega, by omega, fun y hy => by have := hlow3 y hy; have := hst.row.lt; exact ⟨by omega, by omega⟩⟩
        | exact ⟨_, sb, sm, d, rfl, Lib.hid ⟨⟨Blk.new _ _ _, hst.alloc _, (hdoc.adds ho2).adds ((Only.refl _ _).alloc _)⟩, hnd, ((((Only.refl (fun _ => False) wm).drew.thenF ho1).thenF ho3).thenF ho2).alloc _⟩, by omega, by omega, by omega, fun y hy => by have := hlow3 y hy; have := hdoc.lt y hy; exact ⟨by omega, by omega⟩⟩
        | exact ⟨_, sb, sm, d, rfl, Lib.hid ⟨⟨Blk.new _ _ _, hst.alloc _, (hdoc.adds (ho1.thenF ho2)).adds ((Only.refl _ _).alloc _)⟩, hnd, ((((Only.refl (fun _ => False) wm).drew.thenF ho3).thenF ho1).thenF ho2).alloc _⟩, by omega, by omega, by omega, fun y hy => by have := hlow3 y hy; have := hdoc.lt y hy; exact ⟨by omega, by omega⟩⟩
  case rest =>
    obtain ⟨bb, sb, sm, d, rfl, HC, b1, b2, b3, b4⟩ := hcut
    obtain ⟨⟨hM, hS, hD⟩, hN, hA⟩ := HC.out
    have HB4 := Lib.hid b4
    have c0 : wc.cell? ⟨bb, 0, none⟩ = some (.pointer (some ⟨sb, 0, none⟩)) := hM.cell 0
    have d0 := hS.cells.1
    have fm := hS.row.frozen 0
    have k0 := hS.head.lt
    have k1 := hS.row.lt
    have hin : (StoreS.fresh (Lay.words n T).toNat).inR 0 := ⟨by omega, by simp [StoreS.fresh]; omega⟩
    have x0 : wc.cell? ⟨sm, 0, none⟩ = some (.int .u64 ((StoreS.fresh (Lay.words n T).toNat).word 0)) := hS.wordCell hin
    have hlen : (StoreS.fresh (Lay.words n T).toNat).ws.length = (Lay.words n T).toNat := by simp [StoreS.fresh]
    rw [hlen] at d0
    have g1 : 0 < (Lay.words n T).toNat := by omega
    obtain ⟨m, hm⟩ : ∃ m, m = (Lay.words n T).toNat := ⟨_, rfl⟩
    rw [← hm] at d0 g1
    have HH := Lib.hid hm
    clear hM hS hD hN hA hlen hm hin b4
    go_wp2_with fail
    go_ret
    obtain ⟨⟨hM, hS, hD⟩, hN, hA⟩ := HC.out
    have hSB := isRef_begun hS (by omega)
    have hO : Only (· = sm) wc (wc.setCell ⟨sm, 0, none⟩ (.int .u64 1)) := (Only.refl (· = sm) wc).setCell (p := ⟨sm, 0, none⟩) (.inl rfl) _
    have k : ∀ {b : Nat} {c : Array Value} {t : TypeId}, Blk wc b c t → t ≠ 43 → b ≠ sm := fun hb h2 e => by
      subst e; exact h2 (hb.uniq hS.row).2
    have hA0 : Adds w wm := HA3.out
    have hz0 := hA0.size
    refine ⟨bb, sb, sm, d, rfl, ⟨hM.setCell_other (k hM (by decide)) 0 _, hSB, hD.only hO (fun y hy e => (HB4.out y hy).2 e)⟩, hN, (hA0.thenF hA).setCell (.inr ?_) _, ?_, ?_, ?_, ?_⟩
    · show w.heap.size ≤ sm
      omega
    · omega
    · omega
    · omega
    · intro y hy; have := (HB4.out y hy).1; omega
end Go.Proofs.Ytbijbpnhakbeeaa

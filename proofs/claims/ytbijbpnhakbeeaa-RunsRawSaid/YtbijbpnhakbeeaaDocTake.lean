/- The document's free runs: Take, at whatever state. By an AI agent. -/
import Derived.Test.YtbijbpnhakbeeaaDocSet
namespace Go.Proofs.Ytbijbpnhakbeeaa
open Go.RowKit
theorem lt_big {a k m P : Nat} (h : a + m ≤ P) (hP : P ≤ 4096) (hk : k ≤ m) : a + k < 1000000 := by omega
theorem lt_len {a k m P : Nat} (h : a + m ≤ P) (hk : k < m) : a + k < P := by omega
theorem wrapB {x : Int} (h : -100000000 ≤ x ∧ x ≤ 100000000) : IntKind.i64.wrap x = x ∧ wrap64 x = x := ⟨wrap_ok x (by omega) (by omega), wrap64_ok x (by omega) (by omega)⟩
theorem pageD {w wr : World} {s D : DS} {a k : Nat} {b : Bool} (hR : IsDoc wr (D.setF a b k)) (hM : MovD s (D.setF a b k) w wr) (hf : D.fb = s.fb) : IsDoc (wr.setCell ⟨s.fb, a + k, none⟩ (.bool b)) (D.setF a b (k + 1)) ∧ MovD s (D.setF a b (k + 1)) w (wr.setCell ⟨s.fb, a + k, none⟩ (.bool b)) :=
  ⟨hf ▸ hR.page (.bool b) rfl, hM.only.setCell (p := ⟨s.fb, a + k, none⟩) (.inl (.inr rfl)) _, hM.rb, hM.fb, hM.all⟩
theorem stepI (a k : Nat) : Value.int .i64 ((a : Int) + (k : Int) + 1) = Value.int .i64 ((a + (k + 1) : Nat) : Int) := by congr 1
theorem less_i {a k m : Nat} (h : k < m) : a + m - (intOf (Value.int .i64 ((a : Int) + (k : Int) + 1))).toNat < a + m - (intOf (Value.int .i64 ((a + k : Nat) : Int))).toNat := by simp only [intOf]; omega
theorem rest_ok {a k P : Nat} {x2 : Int} (h : 0 ≤ (a : Int) ∧ 1 ≤ x2 ∧ (a : Int) + x2 ≤ (P : Int)) (hP : P ≤ 4096) (hk : (k : Int) < x2) : 0 ≤ ((a : Int) + (k : Int), x2 - (k : Int)).1 ∧ 1 ≤ ((a : Int) + (k : Int), x2 - (k : Int)).2 ∧ ((a : Int) + (k : Int), x2 - (k : Int)).1 + ((a : Int) + (k : Int), x2 - (k : Int)).2 ≤ 4096 := by
  simp only; omega
/-- What the document's Take leaves. -/
def TakeD (s : DS) (n at_ c : Int) (s' : DS) : Prop :=
  (n < 1 ∧ at_ = 0 ∧ c = 1 ∧ s' = s) ∨ (1 ≤ n ∧ (∀ y ∈ lstN s.fr s.fr.length, y.2 < n) ∧ at_ = 0 ∧ c = 3 ∧ s' = s) ∨
  (1 ≤ n ∧ ∃ x, IsBest n (lstN s.fr s.fr.length) x ∧ at_ = x.1 ∧ c = 0 ∧ ∃ lv, (x.2 ≤ n ∧ s' = (s.del (kOf x) lv).setF x.1.toNat false n.toNat) ∨ (n < x.2 ∧ ∃ lv', s' = ((s.del (kOf x) lv).setF x.1.toNat false n.toNat).add (x.1 + n, x.2 - n) lv'))
def TakeDPost (s : DS) (n : Int) (w : World) (e : Ending) (w' : World) : Prop := ∃ at_ c s', e = .returned (.tuple #[.int .i64 at_, .int .i64 c]) ∧ TakeD s n at_ c s' ∧ IsDoc w' s' ∧ MovD s s' w w'
/-- What Take wants of the items. -/
def TakeAsk (s : DS) (n : Int) : Prop := ∀ x, IsBest n (lstN s.fr s.fr.length) x → hasK (kOf x) s.its = true ∧ (n < x.2 → hasK (kOf (x.1 + n, x.2 - n)) (delI (kOf x) s.its) = false)
theorem take_more {s D : DS} {a k : Nat} {x2 : Int} {lv lv' : Value} {w wr W : World} (hb : IsBest (k : Int) (lstN s.fr s.fr.length) ((a : Int), x2)) (h1 : 1 ≤ (k : Int)) (hx : (k : Int) < x2) (hD : s.del (kOf ((a : Int), x2)) lv = D) (hDf : D.fb = s.fb)
    (h5 : IsDoc W ((D.setF a false k).add ((a : Int) + (k : Int), x2 - (k : Int)) lv')) (m5 : MovD (D.setF a false k) ((D.setF a false k).add ((a : Int) + (k : Int), x2 - (k : Int)) lv') wr W) (hM : MovD s (D.setF a false k) w wr) : TakeDPost s (k : Int) w (.returned (.tuple #[.int .i64 (a : Int), .int .i64 0])) W :=
  ⟨(a : Int), 0, _, rfl, .inr (.inr ⟨h1, _, hb, rfl, rfl, lv, .inr ⟨hx, lv', by rw [hD]; rfl⟩⟩), h5, hM.trans m5⟩
theorem take_less {s D : DS} {a k : Nat} {x2 : Int} {lv : Value} {w wr : World} (hb : IsBest (k : Int) (lstN s.fr s.fr.length) ((a : Int), x2)) (h1 : 1 ≤ (k : Int)) (hx : x2 ≤ (k : Int)) (hD : s.del (kOf ((a : Int), x2)) lv = D)
    (hR : IsDoc wr (D.setF a false k)) (hM : MovD s (D.setF a false k) w wr) : TakeDPost s (k : Int) w (.returned (.tuple #[.int .i64 (a : Int), .int .i64 0])) wr :=
  ⟨(a : Int), 0, _, rfl, .inr (.inr ⟨h1, _, hb, rfl, rfl, lv, .inl ⟨hx, by rw [hD]; rfl⟩⟩), hR, hM⟩
set_option maxRecDepth 100000 in
set_option maxHeartbeats 8000000 in
theorem take9_any {w : World} {s : DS} (h : IsDoc w s) (n : Int) (ha : 1 ≤ n → TakeAsk s n) (hn : s.n < 1000000) (hil : s.its.length < 800000) :
    Calls Try.prog 39 #[.pointer (some ⟨s.rb, 0, none⟩), .int .i64 n] w (TakeDPost s n w) := by
  have HB := Lib.hid (best9_any h n)
  have H := Lib.hid h
  have HA := Lib.hid ha
  clear h ha
  by_cases h1 : n < 1
  · go_enter Try.func39, Try.ntmps39
    go_wp2_with fail
    go_ret2
    exact ⟨0, 1, s, rfl, .inl ⟨h1, rfl, rfl, rfl⟩, H.out, MovD.refl _ (Only.refl _ _)⟩
  · go_enter Try.func39, Try.ntmps39
    go_wp2_with fail
    refine HB.out.mono ?_
    rintro e V ⟨⟨x, ok, rfl, hb⟩, hV⟩
    rcases hb with ⟨h2, _⟩ | ⟨-, ⟨rfl, hb⟩ | ⟨rfl, rfl, hb⟩⟩
    · omega
    · obtain ⟨hk, hk2⟩ := HA.out (by omega) x hb
      obtain ⟨x1, x2⟩ := x
      have hxb := (lstN_ok s.fr s.fr.length).1.bd _ hb.mem
      have hP2 := H.out.P2
      have hlong := hb.long
      simp only at hxb hlong hk2
      obtain ⟨a, rfl⟩ : ∃ a : Nat, x1 = a := ⟨x1.toNat, by omega⟩
      obtain ⟨m, rfl⟩ : ∃ m : Nat, n = m := ⟨n.toNat, by omega⟩
      have hO : Adds w (V.alloc (.cells #[.int .i64 (a : Int), .int .i64 x2] 63)) := hV.thenF ((Only.refl (fun _ => False) V).alloc _)
      obtain ⟨B, hB⟩ : ∃ B, V.heap.size = B := ⟨_, rfl⟩
      obtain ⟨W, hW⟩ : ∃ W, V.alloc (.cells #[.int .i64 (a : Int), .int .i64 x2] 63) = W := ⟨_, rfl⟩
      have hbx : Blk W B #[.int .i64 (a : Int), .int .i64 x2] 63 := by rw [← hW, ← hB]; exact Blk.new V _ _
      rw [hW] at hO
      have hBl : w.heap.size ≤ B := by rw [← hB]; exact hV.size
      have HI := Lib.hid (H.out.adds hO)
      have HO := Lib.hid hO; have HBX := Lib.hid hbx; have HBB := Lib.hid hb; have HK := Lib.hid hk; have HK2 := Lib.hid hk2
      have b0 := hbx.cell 0; have b1 := hbx.cell 1
      have hBr : B ≠ s.rb := by have := H.out.blk.lt; omega
      have hBf : B ≠ s.fb := by have := H.out.fre.lt; omega
      have ham : a + m ≤ s.fr.length := by omega
      have HX1 := Lib.hid h1
      have g1 : -100000000 ≤ 8192 * x2 ∧ 8192 * x2 ≤ 100000000 := by constructor <;> omega
      have g2 : -100000000 ≤ 8192 * x2 + (a : Int) ∧ 8192 * x2 + (a : Int) ≤ 100000000 := by constructor <;> omega
      have g3 : -100000000 ≤ (a : Int) + (m : Int) ∧ (a : Int) + (m : Int) ≤ 100000000 := by constructor <;> omega
      have g4 : -100000000 ≤ x2 - (m : Int) ∧ x2 - (m : Int) ≤ 100000000 := by constructor <;> omega
      obtain ⟨hw1, hw1'⟩ := wrapB g1; obtain ⟨hw2, hw2'⟩ := wrapB g2; obtain ⟨hw3, hw3'⟩ := wrapB g3; obtain ⟨hw4, hw4'⟩ := wrapB g4
      clear g1 g2 g3 g4
      clear hO hbx hb hk hk2 hV
      go_upto_region 6 with fail
      refine wp_region_held_drew (S := (fun W' => W'.cell? ⟨B, 0, none⟩ = some (.int .i64 (a : Int)) ∧ W'.cell? ⟨B, 1, none⟩ = some (.int .i64 x2))) (by kernel_rfl) ⟨b0, b1⟩ (fun hHeld => ?_)
      refine wpAnyH_take (i := 0) (v := (.pointer (some ⟨s.rb, 0, none⟩))) rfl (by kernel_rfl) (by kernel_rfl) (by kernel_rfl) (fun _ _ _ h => h) (Or.inl ⟨by rfl, fun W hS => by first | rfl | (go_simp; done)⟩) hHeld ?_
      try simp only [Act.put, List.getElem_toArray, List.getElem_cons_succ, List.getElem_cons_zero, List.setIfInBounds_toArray, List.set_cons_zero, List.set_cons_succ]
      refine wpAnyH_take (i := 1) (v := (.pointer (some ⟨s.rb, 0, none⟩))) rfl (by kernel_rfl) (by kernel_rfl) (by kernel_rfl) (fun _ _ _ h => h) (Or.inl ⟨by rfl, fun W hS => by first | rfl | (go_simp; done)⟩) hHeld ?_
      try simp only [Act.put, List.getElem_toArray, List.getElem_cons_succ, List.getElem_cons_zero, List.setIfInBounds_toArray, List.set_cons_zero, List.set_cons_succ]
      refine wpAnyH_take (i := 2) (v := (.pointer (some ⟨s.rb, 1, none⟩))) rfl (by kernel_rfl) (by kernel_rfl) (by kernel_rfl) (fun _ _ _ h => h) (Or.inl ⟨by rfl, fun W hS => by first | rfl | (go_simp; done)⟩) hHeld ?_
      try simp only [Act.put, List.getElem_toArray, List.getElem_cons_succ, List.getElem_cons_zero, List.setIfInBounds_toArray, List.set_cons_zero, List.set_cons_succ]
      refine wpAnyH_take (i := 3) (v := (.pointer (some ⟨B, 1, none⟩))) rfl (by kernel_rfl) (by kernel_rfl) (by kernel_rfl) (fun _ _ _ h => h) (Or.inl ⟨by rfl, fun W hS => by first | rfl | (go_simp; done)⟩) hHeld ?_
      try simp only [Act.put, List.getElem_toArray, List.getElem_cons_succ, List.getElem_cons_zero, List.setIfInBounds_toArray, List.set_cons_zero, List.set_cons_succ]
      refine wpAnyH_take (i := 4) (v := (.int .i64 x2)) rfl (by kernel_rfl) (by kernel_rfl) (by kernel_rfl) (fun _ _ _ h => h) (Or.inl ⟨by rfl, fun W hS => by (obtain ⟨q1, q2⟩ := hS; go_simp; done)⟩) hHeld ?_
      try simp only [Act.put, List.getElem_toArray, List.getElem_cons_succ, List.getElem_cons_zero, List.setIfInBounds_toArray, List.set_cons_zero, List.set_cons_succ]
      refine wpAnyH_take (i := 5) (v := (.int .i64 (8192 * x2))) rfl (by kernel_rfl) (by kernel_rfl) (by kernel_rfl) (fun _ _ _ h => h) (Or.inl ⟨by rfl, fun W hS => by (go_simp; done)⟩) hHeld ?_
      try simp only [Act.put, List.getElem_toArray, List.getElem_cons_succ, List.getElem_cons_zero, List.setIfInBounds_toArray, List.set_cons_zero, List.set_cons_succ]
      refine wpAnyH_take (i := 6) (v := (.pointer (some ⟨B, 0, none⟩))) rfl (by kernel_rfl) (by kernel_rfl) (by kernel_rfl) (fun _ _ _ h => h) (Or.inl ⟨by rfl, fun W hS => by first | rfl | (go_simp; done)⟩) hHeld ?_
      try simp only [Act.put, List.getElem_toArray, List.getElem_cons_succ, List.getElem_cons_zero, List.setIfInBounds_toArray, List.set_cons_zero, List.set_cons_succ]
      refine wpAnyH_take (i := 7) (v := (.int .i64 (a : Int))) rfl (by kernel_rfl) (by kernel_rfl) (by kernel_rfl) (fun _ _ _ h => h) (Or.inl ⟨by rfl, fun W hS => by (obtain ⟨q1, q2⟩ := hS; go_simp; done)⟩) hHeld ?_
      try simp only [Act.put, List.getElem_toArray, List.getElem_cons_succ, List.getElem_cons_zero, List.setIfInBounds_toArray, List.set_cons_zero, List.set_cons_succ]
      refine wpAnyH_take (i := 8) (v := (.int .i64 (8192 * x2 + (a : Int)))) rfl (by kernel_rfl) (by kernel_rfl) (by kernel_rfl) (fun _ _ _ h => h) (Or.inl ⟨by rfl, fun W hS => by (go_simp; done)⟩) hHeld ?_
      try simp only [Act.put, List.getElem_toArray, List.getElem_cons_succ, List.getElem_cons_zero, List.setIfInBounds_toArray, List.set_cons_zero, List.set_cons_succ]
      refine wpAnyH_ready (rs := [9]) (by kernel_rfl) (by simp) (AllReadyH.cons rfl (fun K hK => ?_) AllReadyH.nil)
      simp only [List.getElem_toArray, List.getElem_cons_succ, List.getElem_cons_zero]
      go_simp
      refine (drop9D_any (HI.out.adds ((Only.refl (fun _ => False) W).drew)) HK.out).mono ?_
      rintro e W2 ⟨⟨v, rfl⟩, lv, h2, m2, ho2⟩
      refine hK.out _ _ ⟨(ho2.cellF (p := ⟨B, 0, none⟩) (cell_lt hHeld.1) hBr).trans hHeld.1, (ho2.cellF (p := ⟨B, 1, none⟩) (cell_lt hHeld.2) hBr).trans hHeld.2⟩ (fun hHeld => ?_)
      clear hK K
      try simp only [Act.put, List.getElem_toArray, List.getElem_cons_succ, List.getElem_cons_zero, List.setIfInBounds_toArray, List.set_cons_zero, List.set_cons_succ]
      refine wpAnyH_done (by kernel_rfl) ?_ _
      have hbx2 := (HBX.out.only ((Only.refl (fun _ => False) W).drew) id).only ho2 hBr
      have H2 := Lib.hid h2; have M2 := Lib.hid (MovD.ahead (HO.out.thenF ((Only.refl (fun _ => False) W).drew)) m2); have HBX2 := Lib.hid hbx2
      have c0 : W2.cell? ⟨B, 0, none⟩ = some (.int .i64 (a : Int)) := hbx2.cell 0
      clear hHeld h2 m2 ho2 hbx2 b0 b1
      obtain ⟨D, hD⟩ : ∃ D, s.del (kOf ((a : Int), x2)) lv = D := ⟨_, rfl⟩
      rw [hD] at H2 M2
      have hDr : D.rb = s.rb := by rw [← hD]; rfl
      have hDf : D.fb = s.fb := by rw [← hD]; rfl
      have hDl : D.fr.length = s.fr.length := by rw [← hD]; rfl
      obtain ⟨P, hP⟩ : ∃ P, s.fr.length = P := ⟨_, rfl⟩
      rw [hP] at hDl hP2 hxb ham
      clear hw1 hw1' hw2 hw2' 
      have HW3 := Lib.hid hw3; have HW3' := Lib.hid hw3'; have HW4 := Lib.hid hw4; have HW4' := Lib.hid hw4'; have HAM := Lib.hid ham; have HXB := Lib.hid hxb; have HLG := Lib.hid hlong; have HP2 := Lib.hid hP2
      clear hw4 hw4' ham hxb hlong hP2
      have HD := Lib.hid hD; have HP := Lib.hid hP; have HDL := Lib.hid hDl
      clear hD hP
      go_wp2_with fail
      go_loopw [8] (fun iv wr => ∃ k : Nat, iv = .int .i64 ((a + k : Nat) : Int) ∧ k ≤ m ∧ Hid (IsDoc wr (D.setF a false k)) ∧ Hid (MovD s (D.setF a false k) w wr) ∧ Hid (Blk wr B #[.int .i64 (a : Int), .int .i64 x2] 63)) (fun iv _ => a + m - (intOf iv).toNat)
      case atStart => exact ⟨0, rfl, Nat.zero_le _, H2, M2, HBX2⟩
      case round =>
        obtain ⟨k, rfl, hkm, HR, HMV, HBR⟩ := hrel
        have c0 : wr.cell? ⟨B, 0, none⟩ = some (.int .i64 (a : Int)) := HBR.out.cell 0
        have c1 : wr.cell? ⟨B, 1, none⟩ = some (.int .i64 x2) := HBR.out.cell 1
        have hlf : (setTo D.fr a false k).length = P := by rw [setTo_len]; exact hDl
        have d0 : wr.cell? ⟨s.rb, 0, none⟩ = some (.slice (some ⟨s.fb, 0, none⟩) P P) := by
          have h9 := HR.out.blk.cell 0
          rw [show (D.setF a false k).rb = s.rb from hDr, show (D.setF a false k).fv = .slice (some ⟨s.fb, 0, none⟩) P P by unfold DS.setF DS.fv; simp only [hlf, hDf]] at h9
          exact h9
        have hka : a + k < 1000000 := lt_big HAM.out HP2.out hkm
        have hwk := wrap_succ (a + k) hka
        by_cases hk2 : k < m
        · have hap : a + k < P := lt_len HAM.out hk2
          have e0 := HR.out.freeCell (i := a + k) (by show a + k < (setTo D.fr a false k).length; rw [hlf]; exact hap)
          rw [show (D.setF a false k).fb = s.fb from hDf] at e0
          generalize (D.setF a false k).fr.getD (a + k) false = ob at e0
          have fe : wr.frozen? ⟨s.fb, a + k, none⟩ = false := by have := HR.out.fre.frozen (a + k); rwa [show (D.setF a false k).fb = s.fb from hDf] at this
          go_wp2_with fail
          go_roundw
          case rel =>
            obtain ⟨n1, n2⟩ := pageD HR.out HMV.out hDf
            exact ⟨k + 1, stepI a k, hk2, Lib.hid n1, Lib.hid n2, Lib.hid (HBR.out.only ((Only.refl (· = s.fb) wr).setCell (p := ⟨s.fb, a + k, none⟩) (.inl rfl) _) hBf)⟩
          case measure => exact less_i hk2
        · obtain rfl : k = m := Nat.le_antisymm hkm (Nat.le_of_not_lt hk2)
          by_cases hx2 : (k : Int) < x2
          · have hxk : x2 ≠ 0 := by intro e; rw [e] at hx2; exact absurd (Int.lt_of_le_of_lt (Int.natCast_nonneg k) hx2) (by decide)
            have q1 := rest_ok HXB.out HP2.out hx2
            have q2 : hasK (kOf ((a : Int) + (k : Int), x2 - (k : Int))) (D.setF a false k).its = false := by
              have e9 : (D.setF a false k).its = delI (kOf ((a : Int), x2)) s.its := by rw [← HD.out]; rfl
              rw [e9]; exact HK2.out hx2
            have q3 : (D.setF a false k).n < 1000000 := by
              have e9 : (D.setF a false k).n = s.n := by rw [← HD.out]; rfl
              rw [e9]; exact hn
            have q4 : (D.setF a false k).its.length < 800000 := by
              have e9 : (D.setF a false k).its = delI (kOf ((a : Int), x2)) s.its := by rw [← HD.out]; rfl
              rw [e9]; exact Nat.lt_of_le_of_lt (delI_len _ _) hil
            have had := add9_any HR.out ((a : Int) + (k : Int), x2 - (k : Int)) q1 q2 q3 q4
            rw [show (D.setF a false k).rb = s.rb from hDr] at had
            simp only at had
            have HAD := Lib.hid had
            clear q1 q2 q3 q4 had
            have h4 := HW4.out; have h4' := HW4'.out; have h3 := HW3.out; have h3' := HW3'.out
            clear hxk
            have hBo : ¬ (D.setF a false k).own B := by
              rintro (e | e)
              · exact hBr (e.trans hDr)
              · exact hBf (e.trans hDf)
            go_wp2_with (go_at_call 65; refine HAD.out.mono ?_; rintro e W3 ⟨⟨v, rfl⟩, lv', h5, m5⟩; have c9 := (m5.only.cellF (p := ⟨B, 0, none⟩) (cell_lt c0) hBo).trans c0; have H5 := Lib.hid h5; have M5 := Lib.hid m5; clear h5 m5)
            go_ret2
            exact take_more HBB.out HX1.out hx2 HD.out hDf H5.out M5.out HMV.out
          · go_wp2_with fail
            go_ret2
            exact take_less HBB.out HX1.out hx2 HD.out HR.out HMV.out
    · go_wp2_with fail
      go_ret2
      have ho := hV.thenF ((Only.refl (fun _ => False) V).alloc (.cells #[.int .i64 0, .int .i64 0] 63))
      exact ⟨0, 3, s, rfl, .inr (.inl ⟨by omega, hb, rfl, rfl, rfl⟩), H.out.adds ho, MovD.refl _ ho⟩
end Go.Proofs.Ytbijbpnhakbeeaa

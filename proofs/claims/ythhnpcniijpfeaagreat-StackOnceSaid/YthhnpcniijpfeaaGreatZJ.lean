/- StackRuns: what lies in a stack, at any words: as many as there are pages. By an AI agent. -/
import Derived.Test.YthhnpcniijpfeaaGreatZStackList
namespace Go.Proofs.YthhnpcniijpfeaaGreat
open Go.RowKit
set_option linter.unusedSimpArgs false
set_option linter.unusedVariables false
/-- The pages from a page on, at most so many. -/
def walkL (s : StoreS) (P T : Int) : Nat → Int → List Int
  | 0, _ => []
  | n + 1, p => if 0 ≤ p ∧ p < P then p :: walkL s P T n (underV (s.word (Lay.nextAt P T p))) else []
theorem walkL_len (s : StoreS) (P T : Int) : ∀ (n : Nat) (p : Int), (walkL s P T n p).length ≤ n
  | 0, _ => Nat.le_refl _
  | n + 1, p => by
    unfold walkL
    split
    · rw [List.length_cons]; have := walkL_len s P T n (underV (s.word (Lay.nextAt P T p))); omega
    · simp
section
variable {w : World} {ab sb sm rb : Nat} {P T hd : Int} {s : StoreS}
set_option maxRecDepth 100000 in
set_option maxHeartbeats 4000000 in
theorem stackListB_any (hY : Yard w ab sb sm rb P T s) (hh : Lay.isHead P T hd = true) (hlen : s.ws.length = (Lay.words P T).toNat) (L : List Int) (hc : L = walkL s P T P.toNat (Tag.pg (s.word hd))) :
    Calls Tryz.prog 15 #[.pointer (some ⟨ab, 0, none⟩), .int .i64 hd] w fun e w' => ∃ v, e = .returned v ∧ w'.ownsRow w.heap.size 3 1 v L.length (L.map (Value.int .i64)) ∧ Adds w w' := by
  have hm : Lay.may P T = true := by unfold Lay.isHead at hh; rw [Bool.and_eq_true] at hh; exact hh.1
  have hb := Lay.may_iff.1 hm
  have hin : s.inR hd := by
    have h7 := (Lay.isHead_kind hh).1
    unfold Lay.nameOk at h7; rw [decide_eq_true_eq] at h7
    exact ⟨h7.1, by rw [hlen]; omega⟩
  have hnx : ∀ p, s.inR (Lay.nextAt P T p) := fun p => ⟨(Lay.nextAt_bd hm).1, by have := (Lay.nextAt_bd (p := p) hm).2; rw [hlen]; omega⟩
  obtain ⟨i0, hi, hz0, hz1, hz2⟩ := info_parts infoInt
  have hwd := StoreS.word_bd hY.st.fit hd
  have HWB := Lib.hid (fun i => StoreS.word_bd hY.st.fit i)
  obtain ⟨x, hx⟩ : ∃ x, x = s.word hd := ⟨_, rfl⟩
  have hpk := Lib.hid (fun W (h : IsStore W sb sm s) => peek_in sb sm hd s W h hin)
  rw [← hx] at hwd hpk hc
  have HY := Lib.hid hY; have HH := Lib.hid hh; have HNX := Lib.hid hnx; have HC := Lib.hid hc; have HWD := Lib.hid hwd
  obtain ⟨y, hy⟩ : ∃ y, y = Tag.pg x := ⟨_, rfl⟩
  have HYY := Lib.hid hy
  rw [← hy] at HC
  clear hY hh hnx hc hwd hx hin hy hlen
  go_enter Tryz.func15, Tryz.ntmps15
  go_wp2_with (first
    | (go_at_call 29; refine (arenaLayout_any HY.out.ar).mono ?_; rintro e w1 ⟨rfl, ho1⟩; have HO1 := Lib.hid ho1; have hB := Blk.new w1 #[.int .i64 P, .int .i64 T] 26; have HBL := Lib.hid hB; clear ho1 hB)
    | (go_at_call 30; refine (stackHead_any P T hd _).mono ?_; rintro e w2 ⟨rfl, ho2⟩; rw [HH.out]; have HB2 := Lib.hid (HBL.out.only ho2 id); have HO2 := Lib.hid ((HO1.out.alloc _).thenF ho2); clear ho2)
    | (go_at_call 32; refine (arenaStore_any (HY.out.ar.only HO2.out id)).mono ?_; rintro e w3 ⟨rfl, rfl⟩)
    | (go_at_call 33; refine (hpk.out _ (HY.out.st.only HO2.out id id)).mono ?_; rintro e w4 ⟨rfl, rfl⟩)
    | (go_at_call 31; refine (tagPage_any x _ HWD.out.1 HWD.out.2).mono ?_; rintro e w5 ⟨rfl, k, rfl⟩; rw [← HYY.out]))
  obtain ⟨lb, hlb⟩ : ∃ lb, lb = w1.heap.size := ⟨_, rfl⟩
  have HB5 := Lib.hid (HB2.out.drewN k); have HO5 := Lib.hid (HO2.out.drewN k)
  rw [← hlb] at HB5 ⊢
  clear hlb HBL HB2 HO1 HO2
  go_loopg [4, 6] P.toNat (fun gq o q wr => ∃ (gg : Nat) (done : List Int) (p : Int) (v : Value), gg ≤ gq ∧ o = v ∧ q = .int .i64 p ∧ Aside (L = done ++ walkL s P T gg p) ∧ done.length + gg = P.toNat ∧ wr.ownsRow w.heap.size 3 1 v done.length (done.map (Value.int .i64)) ∧ Below w.heap.size w wr ∧ Blk wr lb #[.int .i64 P, .int .i64 T] 26)
  case atStart => exact ⟨_, [], y, _, Nat.le_refl _, rfl, rfl, by rw [HC.out]; rfl, by simp, World.ownsRow_nil _ _ _ _, Adds.below' HO5.out, HB5.out⟩
  case round =>
    obtain ⟨gg, done, p, v, hgq, rfl, rfl, hL, hg, hrow, hB, hBl⟩ := hrel
    obtain ⟨a, cp, rfl⟩ := slice_of hrow
    have HR := Lib.hid hrow; have HB := Lib.hid hB; have HBl := Lib.hid hBl; have HL := Lib.hid hL.out
    obtain ⟨l0, l1⟩ := cells2 hBl
    clear hrow hB hBl hL HC HO5 HB5 hpk HYY
    have hcase : (p < 0 ∨ (0 ≤ p ∧ P ≤ p) ∨ (0 ≤ p ∧ p < P ∧ gg = 0)) ∨ (0 ≤ p ∧ p < P ∧ 0 < gg) := by omega
    rcases hcase with hp | ⟨hp, hp2, hg0⟩
    · have hwl : walkL s P T gg p = [] := by
        cases gg with
        | zero => rfl
        | succ n => unfold walkL; rw [if_neg (by omega)]
      have HW := Lib.hid hwl
      clear hwl
      rcases hp with hp | ⟨hp, hp2⟩ | ⟨hp, hp2, hg2⟩
      · go_wp2
        go_ret
        refine ⟨_, rfl, ?_, Below.adds' HB.out⟩
        rw [HL.out, HW.out, List.append_nil]; exact HR.out
      · go_wp2
        go_ret
        refine ⟨_, rfl, ?_, Below.adds' HB.out⟩
        rw [HL.out, HW.out, List.append_nil]; exact HR.out
      · have hd3 : ¬ (done.length : Int) < P := by omega
        clear hg hg2
        go_wp2
        go_ret
        refine ⟨_, rfl, ?_, Below.adds' HB.out⟩
        rw [HL.out, HW.out, List.append_nil]; exact HR.out
    · obtain ⟨r, hr⟩ : ∃ r, gg = r + 1 := ⟨gg - 1, by omega⟩
      have HG := Lib.hid hr
      have hwl : walkL s P T gg p = p :: walkL s P T r (underV (s.word (Lay.nextAt P T p))) := by rw [hr]; show (if _ then _ else _) = _; rw [if_pos ⟨hp, hp2⟩]
      have HC2 := Lib.hid hwl
      clear hwl
      have hd1 : (done.length : Int) < P := by omega
      obtain ⟨nx, hnx⟩ : ∃ nx, nx = Lay.nextAt P T p := ⟨_, rfl⟩
      obtain ⟨x2, hx2⟩ : ∃ x2, x2 = s.word nx := ⟨_, rfl⟩
      have hpk2 : Hid (∀ W (h : IsStore W sb sm s), Calls Tryz.prog 33 #[.pointer (some ⟨sb, 0, none⟩), .int .i64 nx] W fun e w' => e = .returned (.int .u64 x2) ∧ W = w') := by
        rw [hx2, hnx]; exact Lib.hid (fun W h => peek_in sb sm _ s W h (HNX.out p))
      have hxb : Hid (0 ≤ x2 ∧ x2 < 18446744073709551616) := by rw [hx2]; exact Lib.hid (HWB.out nx)
      have HC3 : Hid (walkL s P T gg p = p :: walkL s P T r (underV x2)) := by rw [hx2, hnx]; exact HC2
      have HN := Lib.hid hnx
      clear HC2 hnx hx2 hr
      go_wp2_with (at_builtin; refine wpList_append_own _ rfl _ _ 54 rfl w.heap.size 3 i0 (.int .i64 0) 1 8 Tryz.underlying54 hi hz0 hz1 hz2 rfl (by decide) _ _ _ rfl (HR.out.alloc _) ⟨wr.heap.size, 0, none⟩ 1 1 [.int .i64 p] rfl rfl (cell_one_new _ _ _) (by simp [Value.oneCell']) (by unfold maxLen; omega) (by omega) (by have := HB.out.size; simp; omega) ?_; intro v' w1 hown' hgrow hnil)
      have hBl1 := Lib.hid (row_grown (HBl.out.alloc (.cells #[.int .i64 p] 3)) (by decide) (HR.out.alloc (.cells #[.int .i64 p] 3)) hgrow)
      have hB1 : Below w.heap.size w w1 := (HB.out.alloc (by have := HB.out.size; omega) (.cells #[.int .i64 p] 3)).grown hgrow (by have := HB.out.size; simp; omega) (fun k hk0 => by
        have hk : (Value.slice a done.length cp).ownBlock = some k := hk0
        obtain ⟨_, ⟨h1, h2⟩ | ⟨g, cap, cur, h1, h2, _⟩⟩ := HR.out
        · rw [h1] at hk; simp [Value.ownBlock] at hk
        · rw [h1] at hk; obtain rfl : g = k := by simpa [Value.ownBlock] using hk
          exact h2)
      have HB1 := Lib.hid hB1; have HR1 := Lib.hid hown'
      have hY1 := Lib.hid (HY.out.adds (Below.adds' hB1))
      obtain ⟨m0, m1⟩ := cells2 hBl1.out
      clear l0 l1 hown' hgrow hnil hB1 HR HB HBl
      go_wp2_with fail
      go_region_held3 (fun W => W.cell? ⟨lb, 0, none⟩ = some (.int .i64 P) ∧ W.cell? ⟨lb, 1, none⟩ = some (.int .i64 T) ∧ Adds w1 W)
        (first | assumption | (exact ⟨m0, m1, (Only.refl _ _).drew⟩) | (exact heldM2 (by assumption) (by first | assumption | exact Only.refl _ _)))
        (first
        | (go_at_call 32; refine (arenaStore_any (hY1.out.ar.only (heldM2 (w := w1) (b := lb) (x := .int .i64 P) (y := .int .i64 T) (by assumption) (Only.refl _ _)).2.2 id)).mono ?_; rintro e u1 ⟨rfl, rfl⟩)
        | (go_at_call 35; refine (below_any P T p _).mono ?_; rintro e u2 ⟨rfl, ho2⟩; rw [← HN.out])
        | (go_at_call 33; refine (hpk2.out _ (hY1.out.st.only (heldM2 (w := w1) (b := lb) (x := .int .i64 P) (y := .int .i64 T) (by assumption) (Only.refl _ _)).2.2 id id)).mono ?_; rintro e u3 ⟨rfl, rfl⟩)
        | (go_at_call 34; refine (under_any x2 _ hxb.out.1 hxb.out.2).mono ?_; rintro e u4 ⟨rfl, rfl⟩))
      rename_i hH
      have hA := hH.2.2
      go_wp2_with fail
      go_roundg r
      case rel =>
        refine ⟨r, done ++ [p], underV x2, _, Nat.le_refl _, rfl, rfl, (show L = done ++ [p] ++ walkL s P T r (underV x2) by rw [HL.out, HC3.out]; simp), by have := HG.out; simp; omega, ?_, HB1.out.trans (hA.below HB1.out.size (fun _ _ h => h)), hBl1.out.only hA id⟩
        have hk := row_adds HR1.out hA
        simpa using hk
      case measure => have := HG.out; omega
end
end Go.Proofs.YthhnpcniijpfeaaGreat

/- StackRuns: what lies in a stack, at any words: as many as there are pages. The reference's Name (chapter 8): the same answer. The reference's Name (chapter 8): the same answer, at every word. StackRuns: what lies in a stack of the document, as many as there are pages. By an AI agent. -/
import Derived.Test.YthhnpcniijpfeaaGreatZStackList
import Derived.Test.YthhnpcniijpfeaaGreatZ4
import Derived.Test.YthhnpcniijpfeaaGreatZ8
import Derived.Test.YthhnpcniijpfeaaGreatZC
namespace Go.Proofs.YthhnpcniijpfeaaGreat
open Go.RowKit
set_option linter.unusedSimpArgs false
set_option linter.unusedVariables false
/-- The pages from a page on, at most so many. -/
def walkL (s : StoreS) (P T : Int) : Nat → Int → List Int
  | 0, _ => []
  | n + 1, p => if 0 ≤ p ∧ p < P then p :: walkL s P T n (underV (s.word (Lay.nextAt P T p))) else []
theorem walkL_len (s : StoreS) (P T : Int) : ∀ (n : Nat) (p : Int), (walkL s P T n p).length ≤ n
  | 0, _ => Nat.le_refl _
  | n + 1, p => by
    unfold walkL
    split
    · rw [List.length_cons]; have := walkL_len s P T n (underV (s.word (Lay.nextAt P T p))); omega
    · simp
section
variable {w : World} {ab sb sm rb : Nat} {P T hd : Int} {s : StoreS}
set_option maxRecDepth 100000 in
set_option maxHeartbeats 4000000 in
theorem stackListB_any (hY : Yard w ab sb sm rb P T s) (hh : Lay.isHead P T hd = true) (hlen : s.ws.length = (Lay.words P T).toNat) (L : List Int) (hc : L = walkL s P T P.toNat (Tag.pg (s.word hd))) :
    Calls Tryz.prog 15 #[.pointer (some ⟨ab, 0, none⟩), .int .i64 hd] w fun e w' => ∃ v, e = .returned v ∧ w'.ownsRow w.heap.size 3 1 v L.length (L.map (Value.int .i64)) ∧ Adds w w' := by
  have hm : Lay.may P T = true := by unfold Lay.isHead at hh; rw [Bool.and_eq_true] at hh; exact hh.1
  have hb := Lay.may_iff.1 hm
  have hin : s.inR hd := by
    have h7 := (Lay.isHead_kind hh).1
    unfold Lay.nameOk at h7; rw [decide_eq_true_eq] at h7
    exact ⟨h7.1, by rw [hlen]; omega⟩
  have hnx : ∀ p, s.inR (Lay.nextAt P T p) := fun p => ⟨(Lay.nextAt_bd hm).1, by have := (Lay.nextAt_bd (p := p) hm).2; rw [hlen]; omega⟩
  obtain ⟨i0, hi, hz0, hz1, hz2⟩ := info_parts infoInt
  have hwd := StoreS.word_bd hY.st.fit hd
  have HWB := Lib.hid (fun i => StoreS.word_bd hY.st.fit i)
  obtain ⟨x, hx⟩ : ∃ x, x = s.word hd := ⟨_, rfl⟩
  have hpk := Lib.hid (fun W (h : IsStore W sb sm s) => peek_in sb sm hd s W h hin)
  rw [← hx] at hwd hpk hc
  have HY := Lib.hid hY; have HH := Lib.hid hh; have HNX := Lib.hid hnx; have HC := Lib.hid hc; have HWD := Lib.hid hwd
  obtain ⟨y, hy⟩ : ∃ y, y = Tag.pg x := ⟨_, rfl⟩
  have HYY := Lib.hid hy
  rw [← hy] at HC
  clear hY hh hnx hc hwd hx hin hy hlen
  go_enter Tryz.func15, Tryz.ntmps15
  go_wp2_with (first
    | (go_at_call 29; refine (arenaLayout_any HY.out.ar).mono ?_; rintro e w1 ⟨rfl, ho1⟩; have HO1 := Lib.hid ho1; have hB := Blk.new w1 #[.int .i64 P, .int .i64 T] 26; have HBL := Lib.hid hB; clear ho1 hB)
    | (go_at_call 30; refine (stackHead_any P T hd _).mono ?_; rintro e w2 ⟨rfl, ho2⟩; rw [HH.out]; have HB2 := Lib.hid (HBL.out.only ho2 id); have HO2 := Lib.hid ((HO1.out.alloc _).thenF ho2); clear ho2)
    | (go_at_call 32; refine (arenaStore_any (HY.out.ar.only HO2.out id)).mono ?_; rintro e w3 ⟨rfl, rfl⟩)
    | (go_at_call 33; refine (hpk.out _ (HY.out.st.only HO2.out id id)).mono ?_; rintro e w4 ⟨rfl, rfl⟩)
    | (go_at_call 31; refine (tagPage_any x _ HWD.out.1 HWD.out.2).mono ?_; rintro e w5 ⟨rfl, k, rfl⟩; rw [← HYY.out]))
  obtain ⟨lb, hlb⟩ : ∃ lb, lb = w1.heap.size := ⟨_, rfl⟩
  have HB5 := Lib.hid (HB2.out.drewN k); have HO5 := Lib.hid (HO2.out.drewN k)
  rw [← hlb] at HB5 ⊢
  clear hlb HBL HB2 HO1 HO2
  go_loopg [4, 6] P.toNat (fun gq o q wr => ∃ (gg : Nat) (done : List Int) (p : Int) (v : Value), gg ≤ gq ∧ o = v ∧ q = .int .i64 p ∧ Aside (L = done ++ walkL s P T gg p) ∧ done.length + gg = P.toNat ∧ wr.ownsRow w.heap.size 3 1 v done.length (done.map (Value.int .i64)) ∧ Below w.heap.size w wr ∧ Blk wr lb #[.int .i64 P, .int .i64 T] 26)
  case atStart => exact ⟨_, [], y, _, Nat.le_refl _, rfl, rfl, by rw [HC.out]; rfl, by simp, World.ownsRow_nil _ _ _ _, Adds.below' HO5.out, HB5.out⟩
  case round =>
    obtain ⟨gg, done, p, v, hgq, rfl, rfl, hL, hg, hrow, hB, hBl⟩ := hrel
    obtain ⟨a, cp, rfl⟩ := slice_of hrow
    have HR := Lib.hid hrow; have HB := Lib.hid hB; have HBl := Lib.hid hBl; have HL := Lib.hid hL.out
    obtain ⟨l0, l1⟩ := cells2 hBl
    clear hrow hB hBl hL HC HO5 HB5 hpk HYY
    have hcase : (p < 0 ∨ (0 ≤ p ∧ P ≤ p) ∨ (0 ≤ p ∧ p < P ∧ gg = 0)) ∨ (0 ≤ p ∧ p < P ∧ 0 < gg) := by omega
    rcases hcase with hp | ⟨hp, hp2, hg0⟩
    · have hwl : walkL s P T gg p = [] := by
        cases gg with
        | zero => rfl
        | succ n => unfold walkL; rw [if_neg (by omega)]
      have HW := Lib.hid hwl
      clear hwl
      rcases hp with hp | ⟨hp, hp2⟩ | ⟨hp, hp2, hg2⟩
      · go_wp2
        go_ret
        refine ⟨_, rfl, ?_, Below.adds' HB.out⟩
        rw [HL.out, HW.out, List.append_nil]; exact HR.out
      · go_wp2
        go_ret
        refine ⟨_, rfl, ?_, Below.adds' HB.out⟩
        rw [HL.out, HW.out, List.append_nil]; exact HR.out
      · have hd3 : ¬ (done.length : Int) < P := by omega
        clear hg hg2
        go_wp2
        go_ret
        refine ⟨_, rfl, ?_, Below.adds' HB.out⟩
        rw [HL.out, HW.out, List.append_nil]; exact HR.out
    · obtain ⟨r, hr⟩ : ∃ r, gg = r + 1 := ⟨gg - 1, by omega⟩
      have HG := Lib.hid hr
      have hwl : walkL s P T gg p = p :: walkL s P T r (underV (s.word (Lay.nextAt P T p))) := by rw [hr]; show (if _ then _ else _) = _; rw [if_pos ⟨hp, hp2⟩]
      have HC2 := Lib.hid hwl
      clear hwl
      have hd1 : (done.length : Int) < P := by omega
      obtain ⟨nx, hnx⟩ : ∃ nx, nx = Lay.nextAt P T p := ⟨_, rfl⟩
      obtain ⟨x2, hx2⟩ : ∃ x2, x2 = s.word nx := ⟨_, rfl⟩
      have hpk2 : Hid (∀ W (h : IsStore W sb sm s), Calls Tryz.prog 33 #[.pointer (some ⟨sb, 0, none⟩), .int .i64 nx] W fun e w' => e = .returned (.int .u64 x2) ∧ W = w') := by
        rw [hx2, hnx]; exact Lib.hid (fun W h => peek_in sb sm _ s W h (HNX.out p))
      have hxb : Hid (0 ≤ x2 ∧ x2 < 18446744073709551616) := by rw [hx2]; exact Lib.hid (HWB.out nx)
      have HC3 : Hid (walkL s P T gg p = p :: walkL s P T r (underV x2)) := by rw [hx2, hnx]; exact HC2
      have HN := Lib.hid hnx
      clear HC2 hnx hx2 hr
      go_wp2_with (at_builtin; refine wpList_append_own _ rfl _ _ 54 rfl w.heap.size 3 i0 (.int .i64 0) 1 8 Tryz.underlying54 hi hz0 hz1 hz2 rfl (by decide) _ _ _ rfl (HR.out.alloc _) ⟨wr.heap.size, 0, none⟩ 1 1 [.int .i64 p] rfl rfl (cell_one_new _ _ _) (by simp [Value.oneCell']) (by unfold maxLen; omega) (by omega) (by have := HB.out.size; simp; omega) ?_; intro v' w1 hown' hgrow hnil)
      have hBl1 := Lib.hid (row_grown (HBl.out.alloc (.cells #[.int .i64 p] 3)) (by decide) (HR.out.alloc (.cells #[.int .i64 p] 3)) hgrow)
      have hB1 : Below w.heap.size w w1 := (HB.out.alloc (by have := HB.out.size; omega) (.cells #[.int .i64 p] 3)).grown hgrow (by have := HB.out.size; simp; omega) (fun k hk0 => by
        have hk : (Value.slice a done.length cp).ownBlock = some k := hk0
        obtain ⟨_, ⟨h1, h2⟩ | ⟨g, cap, cur, h1, h2, _⟩⟩ := HR.out
        · rw [h1] at hk; simp [Value.ownBlock] at hk
        · rw [h1] at hk; obtain rfl : g = k := by simpa [Value.ownBlock] using hk
          exact h2)
      have HB1 := Lib.hid hB1; have HR1 := Lib.hid hown'
      have hY1 := Lib.hid (HY.out.adds (Below.adds' hB1))
      obtain ⟨m0, m1⟩ := cells2 hBl1.out
      clear l0 l1 hown' hgrow hnil hB1 HR HB HBl
      go_wp2_with fail
      go_region_held3 (fun W => W.cell? ⟨lb, 0, none⟩ = some (.int .i64 P) ∧ W.cell? ⟨lb, 1, none⟩ = some (.int .i64 T) ∧ Adds w1 W)
        (first | assumption | (exact ⟨m0, m1, (Only.refl _ _).drew⟩) | (exact heldM2 (by assumption) (by first | assumption | exact Only.refl _ _)))
        (first
        | (go_at_call 32; refine (arenaStore_any (hY1.out.ar.only (heldM2 (w := w1) (b := lb) (x := .int .i64 P) (y := .int .i64 T) (by assumption) (Only.refl _ _)).2.2 id)).mono ?_; rintro e u1 ⟨rfl, rfl⟩)
        | (go_at_call 35; refine (below_any P T p _).mono ?_; rintro e u2 ⟨rfl, ho2⟩; rw [← HN.out])
        | (go_at_call 33; refine (hpk2.out _ (hY1.out.st.only (heldM2 (w := w1) (b := lb) (x := .int .i64 P) (y := .int .i64 T) (by assumption) (Only.refl _ _)).2.2 id id)).mono ?_; rintro e u3 ⟨rfl, rfl⟩)
        | (go_at_call 34; refine (under_any x2 _ hxb.out.1 hxb.out.2).mono ?_; rintro e u4 ⟨rfl, rfl⟩))
      rename_i hH
      have hA := hH.2.2
      go_wp2_with fail
      go_roundg r
      case rel =>
        refine ⟨r, done ++ [p], underV x2, _, Nat.le_refl _, rfl, rfl, (show L = done ++ [p] ++ walkL s P T r (underV x2) by rw [HL.out, HC3.out]; simp), by have := HG.out; simp; omega, ?_, HB1.out.trans (hA.below HB1.out.size (fun _ _ h => h)), hBl1.out.only hA id⟩
        have hk := row_adds HR1.out hA
        simpa using hk
      case measure => have := HG.out; omega
end
theorem r6_last_name {P T i : Int} (hn : Lay.nameOk P T i = true) (c1 : 68 + 14 * T + 6 * P ≤ i) (c2 : i < 68 + 14 * T + 6 * P + 2 * Lay.many P) (hb : 1 ≤ Lay.many P) (hb2 : Lay.many P ≤ 64) (hP : 1 ≤ P) (hT : 1 ≤ T) :
    Ending.returned (.tuple #[.agg #[.int .i64 (IntKind.i64.wrap (15 + (i - 68 - 14 * T - 5 * P - P) / Lay.many P)), .int .i64 ((i - 68 - 14 * T - 5 * P - P) % Lay.many P), .int .i64 0], .bool true]) =
      nameOf (Lay.nameOk P T i) (Lay.nameAt P T i) := by
  generalize hM : Lay.many P = M at *
  have hX0 : 0 ≤ i - 68 - 14 * T - 5 * P - P := by omega
  generalize hX : i - 68 - 14 * T - 5 * P - P = X at *
  by_cases h : X < M
  · have e1 : X / M = 0 := Int.ediv_eq_zero_of_lt hX0 h
    have e2 : X % M = X := Int.emod_eq_of_lt hX0 h
    rw [e1, e2, hn, nameOf_yes rfl (show Lay.nameAt P T i = (15, X, 0) by
      unfold Lay.nameAt; rw [hM]; rw [if_neg (by omega), if_neg (by omega), if_neg (by omega), if_neg (by omega), if_neg (by omega), if_pos (by omega)]; congr 2; omega)]
    rfl
  · have e1 : X / M = 1 := by
      rw [Int.ediv_eq_iff_of_pos (by omega)]; omega
    have e2 : X % M = X - M := by have := Int.emod_add_mul_ediv X M; rw [e1] at this; omega
    rw [e1, e2, hn, nameOf_yes rfl (show Lay.nameAt P T i = (16, X - M, 0) by
      unfold Lay.nameAt; rw [hM]; rw [if_neg (by omega), if_neg (by omega), if_neg (by omega), if_neg (by omega), if_neg (by omega), if_neg (by omega)]; congr 2; omega)]
    rfl
set_option maxRecDepth 100000 in
set_option maxHeartbeats 8000000 in
theorem r6Name_last (P T i : Int) (w : World) (hn : Lay.nameOk P T i = true) (c1 : 68 + 14 * T + 6 * P ≤ i) (c2 : i < 68 + 14 * T + 6 * P + 2 * Lay.many P) :
    Calls Tryz.prog 41 #[.agg #[.int .i64 P, .int .i64 T], .int .i64 i] w fun e w' => e = nameOf (Lay.nameOk P T i) (Lay.nameAt P T i) ∧ Adds w w' := by
  have B1 := (Blk.new w #[.int .i64 P, .int .i64 T] 26).alloc (.cells #[.int .i64 0, .int .i64 0, .int .i64 0] 97)
  have B2 := Blk.new (w.alloc (.cells #[.int .i64 P, .int .i64 T] 26)) #[.int .i64 0, .int .i64 0, .int .i64 0] 97
  rw [World.size_alloc] at B2
  have HA := Lib.hid (((Only.refl (fun _ => False) w).alloc (.cells #[.int .i64 P, .int .i64 T] 26)).alloc (.cells #[.int .i64 0, .int .i64 0, .int .i64 0] 97))
  have hm := Lay.nameOk_may hn
  obtain ⟨hP1, hP2, hT1, hT2⟩ := Lay.may_iff.1 hm
  obtain ⟨hb1, hb2⟩ := Lay.many_bd hP1 hP2
  have hw1 : Lay.words P T = 68 + 14 * T + 6 * P + 2 * Lay.many P := by simp [Lay.words, hm]
  have hw2 : i < Lay.words P T := by omega
  have HF := Lib.hid (r6_last_name hn c1 c2 hb1 hb2 hP1 hT1)
  have hX0 : 0 ≤ i - 68 - 14 * T - 5 * P - P := by omega
  have hX1 : i - 68 - 14 * T - 5 * P - P ≤ 200 := by omega
  have E1 := Lib.hid (Int.tdiv_eq_ediv_of_nonneg hX0 (b := Lay.many P))
  have E2 := Lib.hid (Int.tmod_eq_emod_of_nonneg hX0 (b := Lay.many P))
  have E3 : Hid (IntKind.i64.wrap ((i - 68 - 14 * T - 5 * P - P) / Lay.many P) = (i - 68 - 14 * T - 5 * P - P) / Lay.many P) := by
    show IntKind.i64.wrap _ = _
    rw [IntKind.wrap_i64]
    have := Int.ediv_nonneg hX0 (show 0 ≤ Lay.many P by omega)
    have := Int.ediv_le_self (b := Lay.many P) hX0
    omega
  clear hn hm hw1 hX0 hX1
  go_enter Tryz.func41, Tryz.ntmps41
  go_wp2_with (go_at_call 65; refine (r6Words_any _ _ _).mono ?_; rintro e w1 ⟨rfl, ho⟩; replace B1 := B1.only ho id; replace B2 := B2.only ho id; replace HA := Lib.hid (HA.out.thenF ho); clear ho; obtain ⟨q0, q1⟩ := cells2 B1; obtain ⟨q2, q3, q4, g2, g3, g4⟩ := cells3 B2)
  replace B1 := B1.drew
  replace B2 := B2.drew
  replace HA := Lib.hid HA.out.drew
  have hne : (Lay.many P == 0) = false := by simp; omega
  go_region_with (go_at_call 66; refine (r6Maps_any _ _ _ hP1 hP2).mono ?_; rintro e w2 ⟨rfl, ho⟩; replace B1 := B1.only ho id; replace B2 := B2.only ho id; replace HA := Lib.hid (HA.out.thenF ho); clear ho; obtain ⟨q0, q1⟩ := cells2 B1; obtain ⟨q2, q3, q4, g2, g3, g4⟩ := cells3 B2)
  all_goals clear B1 q0 q1
  all_goals go_wp2
  all_goals exact bodyPost_ret (v := .tuple #[.agg #[.int .i64 (IntKind.i64.wrap (15 + (i - 68 - 14 * T - 5 * P - P) / Lay.many P)), .int .i64 ((i - 68 - 14 * T - 5 * P - P) % Lay.many P), .int .i64 0], .bool true]) (by simp [results, Tryz.results41, go_sem, Act.put, *, E1.out, E2.out, E3.out]) rfl ⟨HF.out, HA.out.set3 (by omega) _ _ _⟩
set_option maxRecDepth 100000 in
set_option maxHeartbeats 8000000 in
theorem r6Name_any (P T i : Int) (w : World) :
    Calls Tryz.prog 41 #[.agg #[.int .i64 P, .int .i64 T], .int .i64 i] w fun e w' => e = nameOf (Lay.nameOk P T i) (Lay.nameAt P T i) ∧ Adds w w' := by
  have B1 := (Blk.new w #[.int .i64 P, .int .i64 T] 26).alloc (.cells #[.int .i64 0, .int .i64 0, .int .i64 0] 97)
  have B2 := Blk.new (w.alloc (.cells #[.int .i64 P, .int .i64 T] 26)) #[.int .i64 0, .int .i64 0, .int .i64 0] 97
  rw [World.size_alloc] at B2
  have HA := Lib.hid (((Only.refl (fun _ => False) w).alloc (.cells #[.int .i64 P, .int .i64 T] 26)).alloc (.cells #[.int .i64 0, .int .i64 0, .int .i64 0] 97))
  cases hn : Lay.nameOk P T i
  · rw [nameOf_no rfl]
    by_cases hi : i < 0
    · clear hn
      go_enter Tryz.func41, Tryz.ntmps41
      go_wp2
      exact bodyPost_ret (v := .tuple #[.agg #[.int .i64 0, .int .i64 0, .int .i64 0], .bool false]) (by simp [results, Tryz.results41, go_sem, *]) rfl ⟨rfl, by simpa using HA.out⟩
    · have hw2 : Lay.words P T ≤ i := by
        rcases (show i < Lay.words P T ∨ Lay.words P T ≤ i by omega) with h | h
        · simp [Lay.nameOk] at hn; omega
        · exact h
      clear hn
      go_enter Tryz.func41, Tryz.ntmps41
      go_wp2_with (go_at_call 65; refine (r6Words_any _ _ _).mono ?_; rintro e w1 ⟨rfl, ho⟩; replace B1 := B1.only ho id; replace B2 := B2.only ho id; replace HA := Lib.hid (HA.out.thenF ho); clear ho; obtain ⟨q0, q1⟩ := cells2 B1; obtain ⟨q2, q3, q4, g2, g3, g4⟩ := cells3 B2)
      exact bodyPost_ret (v := .tuple #[.agg #[.int .i64 0, .int .i64 0, .int .i64 0], .bool false]) (by simp [results, Tryz.results41, go_sem, *]) rfl ⟨rfl, HA.out.set3 (by omega) _ _ _⟩
  have hn' := hn
  have hm := Lay.nameOk_may hn
  obtain ⟨hP1, hP2, hT1, hT2⟩ := Lay.may_iff.1 hm
  obtain ⟨hb1, hb2⟩ := Lay.many_bd hP1 hP2
  have hw1 : Lay.words P T = 68 + 14 * T + 6 * P + 2 * Lay.many P := by simp [Lay.words, hm]
  have hi : 0 ≤ i ∧ i < 68 + 14 * T + 6 * P + 2 * Lay.many P := by
    simp only [Lay.nameOk, decide_eq_true_eq] at hn; omega
  obtain ⟨hi1, hi2⟩ := hi
  have hw2 : i < Lay.words P T := by omega
  clear hw1
  rcases (show (0 ≤ i ∧ i < 5) ∨ (5 ≤ i ∧ i < 8) ∨ (8 ≤ i ∧ i < 68) ∨ (68 ≤ i ∧ i < 68 + 14 * T) ∨ (68 + 14 * T ≤ i ∧ i < 68 + 14 * T + 5 * P) ∨ (68 + 14 * T + 5 * P ≤ i ∧ i < 68 + 14 * T + 6 * P) ∨ 68 + 14 * T + 6 * P ≤ i by omega) with ⟨c1, c2⟩ | ⟨c1, c2⟩ | ⟨c1, c2⟩ | ⟨c1, c2⟩ | ⟨c1, c2⟩ | ⟨c1, c2⟩ | c1
  · rw [nameOf_yes rfl (show Lay.nameAt P T i = (i + 1, 0, 0) by unfold Lay.nameAt; rw [if_pos (by omega)]; unfold Lay.aloneK; rw [if_pos (by omega)])]
    clear hn hn' hm
    go_enter Tryz.func41, Tryz.ntmps41
    go_wp2_with (go_at_call 65; refine (r6Words_any _ _ _).mono ?_; rintro e w1 ⟨rfl, ho⟩; replace B1 := B1.only ho id; replace B2 := B2.only ho id; replace HA := Lib.hid (HA.out.thenF ho); clear ho; obtain ⟨q0, q1⟩ := cells2 B1; obtain ⟨q2, q3, q4, g2, g3, g4⟩ := cells3 B2)
    exact bodyPost_ret (v := .tuple #[.agg #[.int .i64 (i + 1), .int .i64 (0), .int .i64 (0)], .bool true]) (by simp [results, Tryz.results41, go_sem, *]) rfl ⟨rfl, HA.out.set3 (by omega) _ _ _⟩
  · rw [nameOf_yes rfl (show Lay.nameAt P T i = (6, 0, 0) by unfold Lay.nameAt; rw [if_pos (by omega)]; unfold Lay.aloneK; rw [if_neg (by omega)])]
    clear hn hn' hm
    rcases (show i = 5 ∨ i = 6 ∨ i = 7 by omega) with rfl | rfl | rfl
    all_goals clear c1 c2 hi1
    all_goals go_enter Tryz.func41, Tryz.ntmps41
    all_goals go_wp2_with (go_at_call 65; refine (r6Words_any _ _ _).mono ?_; rintro e w1 ⟨rfl, ho⟩; replace B1 := B1.only ho id; replace B2 := B2.only ho id; replace HA := Lib.hid (HA.out.thenF ho); clear ho; obtain ⟨q0, q1⟩ := cells2 B1; obtain ⟨q2, q3, q4, g2, g3, g4⟩ := cells3 B2)
    all_goals exact bodyPost_ret (v := .tuple #[.agg #[.int .i64 (6), .int .i64 (0), .int .i64 (0)], .bool true]) (by simp [results, Tryz.results41, go_sem, *]) rfl ⟨rfl, HA.out.set3 (by omega) _ _ _⟩
  · rw [nameOf_yes rfl (show Lay.nameAt P T i = (7, (i - 8) / 4, (i - 8) % 4) by unfold Lay.nameAt; (repeat (first | rw [if_pos (by omega)] | rw [if_neg (by omega)])))]
    clear hn hn' hm
    go_enter Tryz.func41, Tryz.ntmps41
    go_wp2_with (go_at_call 65; refine (r6Words_any _ _ _).mono ?_; rintro e w1 ⟨rfl, ho⟩; replace B1 := B1.only ho id; replace B2 := B2.only ho id; replace HA := Lib.hid (HA.out.thenF ho); clear ho; obtain ⟨q0, q1⟩ := cells2 B1; obtain ⟨q2, q3, q4, g2, g3, g4⟩ := cells3 B2)
    exact bodyPost_ret (v := .tuple #[.agg #[.int .i64 (7), .int .i64 ((i - 8) / 4), .int .i64 ((i - 8) % 4)], .bool true]) (by simp [results, Tryz.results41, go_sem, *]) rfl ⟨rfl, HA.out.set3 (by omega) _ _ _⟩
  · rw [nameOf_yes rfl (show Lay.nameAt P T i = (8, (i - 68) / 14, (i - 68) % 14) by unfold Lay.nameAt; (repeat (first | rw [if_pos (by omega)] | rw [if_neg (by omega)])))]
    clear hn hn' hm
    go_enter Tryz.func41, Tryz.ntmps41
    go_wp2_with (go_at_call 65; refine (r6Words_any _ _ _).mono ?_; rintro e w1 ⟨rfl, ho⟩; replace B1 := B1.only ho id; replace B2 := B2.only ho id; replace HA := Lib.hid (HA.out.thenF ho); clear ho; obtain ⟨q0, q1⟩ := cells2 B1; obtain ⟨q2, q3, q4, g2, g3, g4⟩ := cells3 B2)
    exact bodyPost_ret (v := .tuple #[.agg #[.int .i64 (8), .int .i64 ((i - 68) / 14), .int .i64 ((i - 68) % 14)], .bool true]) (by simp [results, Tryz.results41, go_sem, *]) rfl ⟨rfl, HA.out.set3 (by omega) _ _ _⟩
  · rw [nameOf_yes rfl (show Lay.nameAt P T i = (9 + (i - 68 - 14 * T) % 5, (i - 68 - 14 * T) / 5, 0) by unfold Lay.nameAt; (repeat (first | rw [if_pos (by omega)] | rw [if_neg (by omega)])); rw [show i - (68 + 14 * T) = i - 68 - 14 * T by omega])]
    clear hn hn' hm
    go_enter Tryz.func41, Tryz.ntmps41
    go_wp2_with (go_at_call 65; refine (r6Words_any _ _ _).mono ?_; rintro e w1 ⟨rfl, ho⟩; replace B1 := B1.only ho id; replace B2 := B2.only ho id; replace HA := Lib.hid (HA.out.thenF ho); clear ho; obtain ⟨q0, q1⟩ := cells2 B1; obtain ⟨q2, q3, q4, g2, g3, g4⟩ := cells3 B2)
    exact bodyPost_ret (v := .tuple #[.agg #[.int .i64 (9 + (i - 68 - 14 * T) % 5), .int .i64 ((i - 68 - 14 * T) / 5), .int .i64 (0)], .bool true]) (by simp [results, Tryz.results41, go_sem, *]) rfl ⟨rfl, HA.out.set3 (by omega) _ _ _⟩
  · rw [nameOf_yes rfl (show Lay.nameAt P T i = (14, i - 68 - 14 * T - 5 * P, 0) by unfold Lay.nameAt; (repeat (first | rw [if_pos (by omega)] | rw [if_neg (by omega)])); rw [show i - (68 + 14 * T + 5 * P) = i - 68 - 14 * T - 5 * P by omega])]
    clear hn hn' hm
    go_enter Tryz.func41, Tryz.ntmps41
    go_wp2_with (go_at_call 65; refine (r6Words_any _ _ _).mono ?_; rintro e w1 ⟨rfl, ho⟩; replace B1 := B1.only ho id; replace B2 := B2.only ho id; replace HA := Lib.hid (HA.out.thenF ho); clear ho; obtain ⟨q0, q1⟩ := cells2 B1; obtain ⟨q2, q3, q4, g2, g3, g4⟩ := cells3 B2)
    exact bodyPost_ret (v := .tuple #[.agg #[.int .i64 (14), .int .i64 (i - 68 - 14 * T - 5 * P), .int .i64 (0)], .bool true]) (by simp [results, Tryz.results41, go_sem, *]) rfl ⟨rfl, HA.out.set3 (by omega) _ _ _⟩
  · have := r6Name_last P T i w hn' c1 hi2
    rw [hn'] at this
    exact this
section
variable {w : World} {bb sb sm rb fb : Nat} {P T hd : Int} {s : StoreS}
set_option maxRecDepth 100000 in
set_option maxHeartbeats 4000000 in
theorem docListB_any (h : IsMem w bb sb sm rb fb P T s) (hh : Lay.isHead P T hd = true) (hlen : s.ws.length = (Lay.words P T).toNat) (hx4 : ∀ q, 0 ≤ q → q < P → s.word (Lay.nextAt P T q) ≤ P) (L : List Int) (hc : L = walkL s P T P.toNat (Tag.pg (s.word hd))) :
    Calls Tryz.prog 22 #[.pointer (some ⟨bb, 0, none⟩), .int .i64 hd] w fun e w' => ∃ v, e = .returned v ∧ w'.ownsRow w.heap.size 3 1 v L.length (L.map (Value.int .i64)) ∧ Adds w w' := by
  have hm : Lay.may P T = true := by unfold Lay.isHead at hh; rw [Bool.and_eq_true] at hh; exact hh.1
  have hb := Lay.may_iff.1 hm
  obtain ⟨i0, hi, hz0, hz1, hz2⟩ := info_parts infoInt
  have h7 := Lay.isHead_kind hh
  have hin : s.inR hd := by
    have h8 := h7.1
    unfold Lay.nameOk at h8; rw [decide_eq_true_eq] at h8
    exact ⟨h8.1, by rw [hlen]; omega⟩
  have hnx : ∀ p, s.inR (Lay.nextAt P T p) := fun p => ⟨(Lay.nextAt_bd hm).1, by have := (Lay.nextAt_bd (p := p) hm).2; rw [hlen]; omega⟩
  have hwd := StoreS.word_bd h.st.fit hd
  have HWB := Lib.hid (fun i => StoreS.word_bd h.st.fit i)
  have c0 : w.cell? ⟨bb, 0, none⟩ = some (.pointer (some ⟨sb, 0, none⟩)) := h.head.cell 0
  have c2 : w.cell? ⟨bb, 2, none⟩ = some (.int .i64 P) := h.head.cell 2
  have c3 : w.cell? ⟨bb, 3, none⟩ = some (.int .i64 T) := h.head.cell 3
  have HNAME : Hid (∀ W, Calls Tryz.prog 41 #[.agg #[.int .i64 P, .int .i64 T], .int .i64 hd] W fun e w' => (∃ a b : Int, e = .returned (.tuple #[.agg #[.int .i64 7, .int .i64 a, .int .i64 b], .bool true])) ∧ Adds W w') := Lib.hid (fun W => (r6Name_any P T hd W).mono (fun e w' q => ⟨⟨(Lay.nameAt P T hd).2.1, (Lay.nameAt P T hd).2.2, by
    have q1 := q.1
    rw [h7.1] at q1
    rw [q1]
    simp [nameOf, atV, h7.2]⟩, q.2⟩))
  have HM := Lib.hid h; have HIN := Lib.hid hin; have HNX := Lib.hid hnx; have HX4 := Lib.hid hx4; have HMAY := Lib.hid hm
  have HC := Lib.hid hc
  obtain ⟨n, hn⟩ : ∃ n, n = s.ws.length := ⟨_, rfl⟩
  have HN := Lib.hid hn
  clear h hh hlen hx4 hc h7 hin hnx hn
  go_enter Tryz.func22, Tryz.ntmps22
  go_upto_region 7 with (go_at_call 41; refine (HNAME.out _).mono ?_; rintro e w1 ⟨⟨x1, x2, rfl⟩, ho1⟩; have HO1 := Lib.hid ho1; clear ho1)
  have k0 := (HM.out.adds HO1.out).head.cell 0
  have a1 : Adds w1 (w1.alloc (.cells #[.int .i64 7, .int .i64 x1, .int .i64 x2] 97)) := (Only.refl (fun _ => False) w1).alloc _
  obtain ⟨W2, hW2⟩ : ∃ W, w1.alloc (.cells #[.int .i64 7, .int .i64 x1, .int .i64 x2] 97) = W := ⟨_, rfl⟩
  try rw [hW2]
  rw [hW2] at a1
  have HA2 := Lib.hid (HO1.out.thenF a1)
  have hM2 := HM.out.adds HA2.out
  have c0 : W2.cell? ⟨bb, 0, none⟩ = some (.pointer (some ⟨sb, 0, none⟩)) := hM2.head.cell 0
  have c2 : W2.cell? ⟨bb, 2, none⟩ = some (.int .i64 P) := hM2.head.cell 2
  have c3 : W2.cell? ⟨bb, 3, none⟩ = some (.int .i64 T) := hM2.head.cell 3
  have d0 := hM2.st.cells.1
  have y0 : W2.cell? ⟨sm, hd.toNat, none⟩ = some (.int .u64 (s.word hd)) := hM2.st.wordCell HIN.out
  rw [← HN.out] at d0
  have hd0 : 0 ≤ hd := HIN.out.1
  have hd1 : hd < (n : Int) := by rw [HN.out]; exact HIN.out.2
  obtain ⟨x, hx⟩ : ∃ x, s.word hd = x := ⟨_, rfl⟩
  rw [hx] at y0 HC
  have HXW := Lib.hid (by rw [← hx]; exact hwd : 0 ≤ x ∧ x < 18446744073709551616)
  clear hW2 a1 k0 hwd hx hM2 HNAME
  obtain ⟨y, hy⟩ : ∃ y, Tag.pg x = y := ⟨_, rfl⟩
  rw [hy] at HC
  have HYY := Lib.hid hy
  clear hy
  go_upto_region 8 with (go_at_call 42; refine (r6Page_any x _ HXW.out.1 HXW.out.2).mono ?_; rintro e w2 ⟨rfl, rfl⟩; rw [HYY.out])
  have HW2B := Lib.hid (Adds.below' HA2.out)
  clear y0 c0 c2 c3 d0 HXW HYY hd0 hd1 HO1
  go_loopg [5, 8] P.toNat (fun gq o q wr => ∃ (gg : Nat) (done : List Int) (p : Int) (v : Value), gg ≤ gq ∧ o = v ∧ q = .int .i64 p ∧ Aside (L = done ++ walkL s P T gg p) ∧ done.length + gg = P.toNat ∧ wr.ownsRow w.heap.size 3 1 v done.length (done.map (Value.int .i64)) ∧ Below w.heap.size w wr)
  case atStart => exact ⟨_, [], y, _, Nat.le_refl _, rfl, rfl, by rw [HC.out]; rfl, by simp, World.ownsRow_nil _ _ _ _, HW2B.out⟩
  case round =>
    obtain ⟨gg, done, p, v, hgq, rfl, rfl, hL, hg, hrow, hB⟩ := hrel
    obtain ⟨a, cp, rfl⟩ := slice_of hrow
    have HR := Lib.hid hrow; have HB := Lib.hid hB; have HL := Lib.hid hL.out
    have hM := HM.out.adds (Below.adds' hB)
    have c0 : wr.cell? ⟨bb, 0, none⟩ = some (.pointer (some ⟨sb, 0, none⟩)) := hM.head.cell 0
    have c2 : wr.cell? ⟨bb, 2, none⟩ = some (.int .i64 P) := hM.head.cell 2
    have c3 : wr.cell? ⟨bb, 3, none⟩ = some (.int .i64 T) := hM.head.cell 3
    clear hrow hB hL HC HW2B HA2 hM
    have hcase : (p < 0 ∨ (0 ≤ p ∧ gg = 0) ∨ (0 ≤ p ∧ P ≤ p ∧ 0 < gg)) ∨ (0 ≤ p ∧ p < P ∧ 0 < gg) := by omega
    rcases hcase with hp | ⟨hp, hp2, hg0⟩
    · have hwl : walkL s P T gg p = [] := by
        cases gg with
        | zero => rfl
        | succ n => unfold walkL; rw [if_neg (by omega)]
      have HW := Lib.hid hwl
      clear hwl
      rcases hp with hp | ⟨hp, hg2⟩ | ⟨hp, hp2, hg2⟩
      · have hp3 : ¬ 0 ≤ p := by omega
        go_wp2_with fail
        go_ret
        refine ⟨_, rfl, ?_, Below.adds' HB.out⟩
        rw [HL.out, HW.out, List.append_nil]; exact HR.out
      · have hd3 : ¬ (done.length : Int) < P := by omega
        clear hg hg2
        go_wp2_with fail
        go_ret
        refine ⟨_, rfl, ?_, Below.adds' HB.out⟩
        rw [HL.out, HW.out, List.append_nil]; exact HR.out
      · have hd3 : (done.length : Int) < P := by omega
        have hno : Lay.pageOk P T 11 p = false := by unfold Lay.pageOk; rw [HMAY.out, Bool.true_and]; exact decide_eq_false (fun e => by omega)
        have HNO := Lib.hid hno
        clear hg hg2 hno
        go_wp2_with (go_at_call 43; refine (r6PageWord_any P T 11 p _).mono ?_; rintro e w5 ⟨rfl, hz⟩; rw [HNO.out]; have HZ := Lib.hid hz; clear hz; simp only [atOf, atV])
        go_ret
        refine ⟨_, rfl, ?_, (Below.adds' HB.out).thenF HZ.out⟩
        rw [HL.out, HW.out, List.append_nil]; exact row_adds HR.out HZ.out
    · obtain ⟨r, hr⟩ : ∃ r, gg = r + 1 := ⟨gg - 1, by omega⟩
      have HG := Lib.hid (And.intro hr hg)
      have hd1 : (done.length : Int) < P := by omega
      obtain ⟨nx, hnx⟩ : ∃ nx, nx = Lay.nextAt P T p := ⟨_, rfl⟩
      obtain ⟨x2, hx2⟩ : ∃ x2, x2 = s.word nx := ⟨_, rfl⟩
      have hxb : 0 ≤ x2 ∧ x2 ≤ P := ⟨by rw [hx2]; exact (HWB.out nx).1, by rw [hx2, hnx]; exact HX4.out p hp hp2⟩
      have hun : underV x2 = Tag.pg x2 := by
        unfold underV Tag.pg
        have : x2 % 4294967296 = x2 := by omega
        rw [this]
        split <;> split <;> omega
      have HC3 : Hid (walkL s P T gg p = p :: walkL s P T r (Tag.pg x2)) := Lib.hid (by
        rw [hr, ← hun, hx2, hnx]; show (if _ then _ else _) = _; rw [if_pos ⟨hp, hp2⟩])
      have hok := pageOk_11 HMAY.out hp hp2
      have HPW : Hid (∀ W, Calls Tryz.prog 43 #[.agg #[.int .i64 P, .int .i64 T], .int .i64 11, .int .i64 p] W fun e w' => e = .returned (.tuple #[.int .i64 nx, .bool true]) ∧ Adds W w') := Lib.hid (fun W => (r6PageWord_any P T 11 p W).mono (fun e w' q => ⟨by rw [q.1, hnx]; unfold atOf Lay.nextAt; rw [hok], q.2⟩))
      have HIN2 := Lib.hid (show s.inR nx by rw [hnx]; exact HNX.out p)
      have HX2 := Lib.hid hx2
      have nx0 : 0 ≤ nx := HIN2.out.1
      have nx1 : nx < (n : Int) := by rw [HN.out]; exact HIN2.out.2
      have tx2 : Int.tmod x2 4294967296 = x2 := by rw [Int.tmod_eq_emod_of_nonneg hxb.1]; omega
      have HPG := Lib.hid (show 0 ≤ x2 ∧ x2 < 18446744073709551616 by omega)
      clear hr hnx hx2 hun hok hxb hg hg0
      go_upto_region 11 with (go_at_call 43; refine (HPW.out _).mono ?_; rintro e w5 ⟨rfl, hz⟩; have HZ := Lib.hid hz; clear hz)
      have HR5 := Lib.hid (row_adds HR.out HZ.out)
      have HB5 := Lib.hid (HB.out.trans (HZ.out.below HB.out.size (fun _ _ h => h)))
      go_upto_region 12 with (at_builtin; refine wpList_append_own _ rfl _ _ 54 rfl w.heap.size 3 i0 (.int .i64 0) 1 8 Tryz.underlying54 hi hz0 hz1 hz2 rfl (by decide) _ _ _ rfl (HR5.out.alloc _) ⟨w5.heap.size, 0, none⟩ 1 1 [.int .i64 p] rfl rfl (cell_one_new _ _ _) (by simp [Value.oneCell']) (by unfold maxLen; omega) (by omega) (by have := HB5.out.size; simp; omega) ?_; intro v' w6 hown' hgrow hnil)
      have hB1 : Below w.heap.size w w6 := (HB5.out.alloc (by have := HB5.out.size; omega) (.cells #[.int .i64 p] 3)).grown hgrow (by have := HB5.out.size; simp; omega) (fun k hk0 => by
        have hk : (Value.slice a done.length cp).ownBlock = some k := hk0
        obtain ⟨_, ⟨h1, h2⟩ | ⟨g, cap, cur, h1, h2, _⟩⟩ := HR.out
        · rw [h1] at hk; simp [Value.ownBlock] at hk
        · rw [h1] at hk; obtain rfl : g = k := by simpa [Value.ownBlock] using hk
          exact h2)
      have HB1 := Lib.hid hB1; have HR1 := Lib.hid hown'
      have hM := HM.out.adds (Below.adds' hB1)
      clear c0 c2 c3
      have c0 : w6.cell? ⟨bb, 0, none⟩ = some (.pointer (some ⟨sb, 0, none⟩)) := hM.head.cell 0
      have d0 := hM.st.cells.1
      have y0 : w6.cell? ⟨sm, nx.toNat, none⟩ = some (.int .u64 (s.word nx)) := hM.st.wordCell HIN2.out
      rw [← HN.out] at d0
      rw [← HX2.out] at y0
      clear hown' hgrow hnil hB1 HR HB HR5 HB5 HZ hM HPW
      go_wp2_with (go_at_call 42; refine (r6Page_any x2 _ HPG.out.1 HPG.out.2).mono ?_; rintro e w7 ⟨rfl, rfl⟩)
      go_roundg r
      case rel =>
        refine ⟨r, done ++ [p], Tag.pg x2, _, Nat.le_refl _, rfl, rfl, (show L = done ++ [p] ++ walkL s P T r (Tag.pg x2) by rw [HL.out, HC3.out]; simp), by have h1 := HG.out.1; have h2 := HG.out.2; simp; omega, ?_, HB1.out⟩
        simpa using HR1.out
      case measure => have := HG.out.1; omega
end
end Go.Proofs.YthhnpcniijpfeaaGreat

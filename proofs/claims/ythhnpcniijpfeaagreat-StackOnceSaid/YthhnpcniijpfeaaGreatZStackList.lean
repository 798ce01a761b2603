/- Package stack: what lies in a stack. By an AI agent. -/
import Derived.Test.YthhnpcniijpfeaaGreatZ7
import Derived.Maps.AppendAt
import Derived.Deep.LoopGhost
namespace Go.Proofs.YthhnpcniijpfeaaGreat
open Go.RowKit
set_option linter.unusedSimpArgs false
set_option linter.unusedVariables false
theorem infoInt : (Tryz.prog.info? 3).map (fun i => (i.zero, i.size, i.bytes)) = some (some (.int .i64 0), 1, 8) := by kernel_rfl
/-- The pages that lie from a page on. -/
def Chain (s : StoreS) (P T : Int) : Int → List Int → Prop
  | p, [] => ¬ (0 ≤ p ∧ p < P)
  | p, q :: L => p = q ∧ (0 ≤ p ∧ p < P) ∧ Chain s P T (underV (s.word (Lay.nextAt P T p))) L
theorem slice_of {w : World} {base : Nat} {e : TypeId} {v : Value} {n : Nat} {xs : List Value} (h : w.ownsRow base e 1 v n xs) : ∃ a cp, v = .slice a n cp := by
  obtain ⟨_, ⟨h1, h2⟩ | ⟨g, cap, cur, h1, _⟩⟩ := h
  · subst h2; exact ⟨none, 0, h1⟩
  · exact ⟨_, _, h1⟩
theorem Below.adds' {w w' : World} (h : Below w.heap.size w w') : Adds w w' := ⟨h.os, h.tape, h.output, h.size, fun k hk _ => h.block k hk⟩
theorem Adds.below' {w w' : World} (h : Adds w w') : Below w.heap.size w w' := h.below (Nat.le_refl _) (fun _ _ h => h)
theorem Blk.notRow {W : World} {B : Nat} {c : Array Value} {t e : TypeId} (h : Blk W B c t) (hte : t ≠ e) {base size k : Nat} {v : Value} {xs : List Value} (hr : W.ownsRow base e size v k xs) : some B ≠ v.ownBlock := by
  rcases hr.2 with ⟨rfl, _⟩ | ⟨g, cap, cur, rfl, _, hgb, _⟩
  · simp [Value.ownBlock]
  · intro e'
    obtain rfl : B = g := by simpa [Value.ownBlock] using e'
    have := (show W.heap[B]? = _ from h).symm.trans hgb
    simp at this
    exact hte this.2
theorem row_adds {w w' : World} {B : Nat} {e : TypeId} {v : Value} {n : Nat} {xs : List Value} (h : w.ownsRow B e 1 v n xs) (ho : Adds w w') : w'.ownsRow B e 1 v n xs := by
  obtain ⟨h0, h1 | ⟨g, cap, cur, e1, e2, e3, r⟩⟩ := h
  · exact ⟨h0, .inl h1⟩
  · exact ⟨h0, .inr ⟨g, cap, cur, e1, e2, (ho.block g (Array.getElem?_eq_some_iff.1 e3).1 id).trans e3, r⟩⟩
theorem Only.ofGrown' {w w' : World} {r : Option Nat} (h : w.grownBy w' r) : Only (fun y => some y = r) w w' :=
  ⟨h.os, h.tape, h.output, h.size, fun k hk hs => h.block k hk (fun e => hs e)⟩
theorem row_grown {W W' : World} {B : Nat} {c : Array Value} {t e : TypeId} {base n : Nat} {v : Value} {xs : List Value} (h : Blk W B c t) (hte : t ≠ e) (hr : W.ownsRow base e 1 v n xs) (hg : W.grownBy W' v.ownBlock) : Blk W' B c t :=
  h.only (Only.ofGrown' hg) (h.notRow hte hr)
section
variable {w : World} {ab sb sm rb : Nat} {P T hd : Int} {s : StoreS}
set_option maxRecDepth 100000 in
set_option maxHeartbeats 4000000 in
theorem stackList_any (hY : Yard w ab sb sm rb P T s) (hh : Lay.isHead P T hd = true) (hlen : s.ws.length = (Lay.words P T).toNat) (L : List Int) (hc : Chain s P T (Tag.pg (s.word hd)) L) (hl : (L.length : Int) ≤ P) :
    Calls Tryz.prog 15 #[.pointer (some ⟨ab, 0, none⟩), .int .i64 hd] w fun e w' => ∃ v, e = .returned v ∧ w'.ownsRow w.heap.size 3 1 v L.length (L.map (Value.int .i64)) ∧ Adds w w' := by
  have hm : Lay.may P T = true := by unfold Lay.isHead at hh; rw [Bool.and_eq_true] at hh; exact hh.1
  have hb := Lay.may_iff.1 hm
  have hin : s.inR hd := by
    have h7 := (Lay.isHead_kind hh).1
    unfold Lay.nameOk at h7; rw [decide_eq_true_eq] at h7
    exact ⟨h7.1, by rw [hlen]; omega⟩
  have hnx : ∀ p, s.inR (Lay.nextAt P T p) := fun p => ⟨(Lay.nextAt_bd hm).1, by have := (Lay.nextAt_bd (p := p) hm).2; rw [hlen]; omega⟩
  obtain ⟨i0, hi, hz0, hz1, hz2⟩ := info_parts infoInt
  have hwd := StoreS.word_bd hY.st.fit hd
  have HWB := Lib.hid (fun i => StoreS.word_bd hY.st.fit i)
  obtain ⟨x, hx⟩ : ∃ x, x = s.word hd := ⟨_, rfl⟩
  have hpk := Lib.hid (fun W (h : IsStore W sb sm s) => peek_in sb sm hd s W h hin)
  rw [← hx] at hwd hpk hc
  have HY := Lib.hid hY; have HH := Lib.hid hh; have HNX := Lib.hid hnx; have HC := Lib.hid hc; have HWD := Lib.hid hwd
  obtain ⟨y, hy⟩ : ∃ y, y = Tag.pg x := ⟨_, rfl⟩
  have HYY := Lib.hid hy
  rw [← hy] at HC
  clear hY hh hnx hc hwd hx hin hy hlen
  go_enter Tryz.func15, Tryz.ntmps15
  go_wp2_with (first
    | (go_at_call 29; refine (arenaLayout_any HY.out.ar).mono ?_; rintro e w1 ⟨rfl, ho1⟩; have HO1 := Lib.hid ho1; have hB := Blk.new w1 #[.int .i64 P, .int .i64 T] 26; have HBL := Lib.hid hB; clear ho1 hB)
    | (go_at_call 30; refine (stackHead_any P T hd _).mono ?_; rintro e w2 ⟨rfl, ho2⟩; rw [HH.out]; have HB2 := Lib.hid (HBL.out.only ho2 id); have HO2 := Lib.hid ((HO1.out.alloc _).thenF ho2); clear ho2)
    | (go_at_call 32; refine (arenaStore_any (HY.out.ar.only HO2.out id)).mono ?_; rintro e w3 ⟨rfl, rfl⟩)
    | (go_at_call 33; refine (hpk.out _ (HY.out.st.only HO2.out id id)).mono ?_; rintro e w4 ⟨rfl, rfl⟩)
    | (go_at_call 31; refine (tagPage_any x _ HWD.out.1 HWD.out.2).mono ?_; rintro e w5 ⟨rfl, k, rfl⟩; rw [← HYY.out]))
  obtain ⟨lb, hlb⟩ : ∃ lb, lb = w1.heap.size := ⟨_, rfl⟩
  have HB5 := Lib.hid (HB2.out.drewN k); have HO5 := Lib.hid (HO2.out.drewN k)
  rw [← hlb] at HB5 ⊢
  clear hlb HBL HB2 HO1 HO2
  go_loopg [4, 6] L.length (fun gg o q wr => ∃ (done rest : List Int) (p : Int) (v : Value), o = v ∧ q = .int .i64 p ∧ L = done ++ rest ∧ rest.length ≤ gg ∧ Aside (Chain s P T p rest) ∧ wr.ownsRow w.heap.size 3 1 v done.length (done.map (Value.int .i64)) ∧ Below w.heap.size w wr ∧ Blk wr lb #[.int .i64 P, .int .i64 T] 26)
  case atStart => exact ⟨[], L, y, _, rfl, rfl, rfl, Nat.le_refl _, HC.out, World.ownsRow_nil _ _ _ _, Adds.below' HO5.out, HB5.out⟩
  case round =>
    obtain ⟨done, rest, p, v, rfl, rfl, hL, hg, hch, hrow, hB, hBl⟩ := hrel
    obtain ⟨a, cp, rfl⟩ := slice_of hrow
    have hcc := hch.out
    have HR := Lib.hid hrow; have HB := Lib.hid hB; have HBl := Lib.hid hBl; have HL := Lib.hid hL
    obtain ⟨l0, l1⟩ := cells2 hBl
    have hlen := congrArg List.length hL
    rw [List.length_append] at hlen
    clear hrow hB hBl hch HC HO5 HB5 hpk HYY
    cases rest with
    | nil =>
      have hp : p < 0 ∨ (0 ≤ p ∧ P ≤ p) := by have : ¬ (0 ≤ p ∧ p < P) := hcc; omega
      clear hcc
      rcases hp with hp | ⟨hp, hp2⟩
      all_goals
        go_wp2
        go_ret
        refine ⟨_, rfl, ?_, Below.adds' HB.out⟩
        simpa [HL.out] using HR.out
    | cons q r =>
      obtain ⟨rfl, ⟨hp, hp2⟩, hch2⟩ := hcc
      have HC2 := Lib.hid hch2
      rw [List.length_cons] at hlen hg
      have hd1 : (done.length : Int) < P := by omega
      obtain ⟨nx, hnx⟩ : ∃ nx, nx = Lay.nextAt P T p := ⟨_, rfl⟩
      obtain ⟨x2, hx2⟩ : ∃ x2, x2 = s.word nx := ⟨_, rfl⟩
      have hpk2 : Hid (∀ W (h : IsStore W sb sm s), Calls Tryz.prog 33 #[.pointer (some ⟨sb, 0, none⟩), .int .i64 nx] W fun e w' => e = .returned (.int .u64 x2) ∧ W = w') := by
        rw [hx2, hnx]; exact Lib.hid (fun W h => peek_in sb sm _ s W h (HNX.out p))
      have hxb : Hid (0 ≤ x2 ∧ x2 < 18446744073709551616) := by rw [hx2]; exact Lib.hid (HWB.out nx)
      have HC3 : Hid (Chain s P T (underV x2) r) := by rw [hx2, hnx]; exact HC2
      have HN := Lib.hid hnx
      clear hch2 HC2 hnx hx2
      go_wp2_with (at_builtin; refine wpList_append_own _ rfl _ _ 54 rfl w.heap.size 3 i0 (.int .i64 0) 1 8 Tryz.underlying54 hi hz0 hz1 hz2 rfl (by decide) _ _ _ rfl (HR.out.alloc _) ⟨wr.heap.size, 0, none⟩ 1 1 [.int .i64 p] rfl rfl (cell_one_new _ _ _) (by simp [Value.oneCell']) (by unfold maxLen; omega) (by omega) (by have := HB.out.size; simp; omega) ?_; intro v' w1 hown' hgrow hnil)
      have hBl1 := Lib.hid (row_grown (HBl.out.alloc (.cells #[.int .i64 p] 3)) (by decide) (HR.out.alloc (.cells #[.int .i64 p] 3)) hgrow)
      have hB1 : Below w.heap.size w w1 := (HB.out.alloc (by have := HB.out.size; omega) (.cells #[.int .i64 p] 3)).grown hgrow (by have := HB.out.size; simp; omega) (fun k hk0 => by
        have hk : (Value.slice a done.length cp).ownBlock = some k := hk0
        obtain ⟨_, ⟨h1, h2⟩ | ⟨g, cap, cur, h1, h2, _⟩⟩ := HR.out
        · rw [h1] at hk; simp [Value.ownBlock] at hk
        · rw [h1] at hk; obtain rfl : g = k := by simpa [Value.ownBlock] using hk
          exact h2)
      have HB1 := Lib.hid hB1; have HR1 := Lib.hid hown'
      have hY1 := Lib.hid (HY.out.adds (Below.adds' hB1))
      obtain ⟨m0, m1⟩ := cells2 hBl1.out
      clear l0 l1 hown' hgrow hnil hB1 HR HB HBl
      go_wp2_with fail
      go_region_held3 (fun W => W.cell? ⟨lb, 0, none⟩ = some (.int .i64 P) ∧ W.cell? ⟨lb, 1, none⟩ = some (.int .i64 T) ∧ Adds w1 W)
        (first | assumption | (exact ⟨m0, m1, (Only.refl _ _).drew⟩) | (exact heldM2 (by assumption) (by first | assumption | exact Only.refl _ _)))
        (first
        | (go_at_call 32; refine (arenaStore_any (hY1.out.ar.only (heldM2 (w := w1) (b := lb) (x := .int .i64 P) (y := .int .i64 T) (by assumption) (Only.refl _ _)).2.2 id)).mono ?_; rintro e u1 ⟨rfl, rfl⟩)
        | (go_at_call 35; refine (below_any P T p _).mono ?_; rintro e u2 ⟨rfl, ho2⟩; rw [← HN.out])
        | (go_at_call 33; refine (hpk2.out _ (hY1.out.st.only (heldM2 (w := w1) (b := lb) (x := .int .i64 P) (y := .int .i64 T) (by assumption) (Only.refl _ _)).2.2 id id)).mono ?_; rintro e u3 ⟨rfl, rfl⟩)
        | (go_at_call 34; refine (under_any x2 _ hxb.out.1 hxb.out.2).mono ?_; rintro e u4 ⟨rfl, rfl⟩))
      rename_i hH
      have hA := hH.2.2
      go_wp2_with fail
      go_roundg r.length
      case rel =>
        refine ⟨done ++ [p], r, underV x2, _, rfl, rfl, by rw [HL.out]; simp, Nat.le_refl _, HC3.out, ?_, HB1.out.trans (hA.below HB1.out.size (fun _ _ h => h)), hBl1.out.only hA id⟩
        have hk := row_adds HR1.out hA
        simpa using hk
      case measure => omega
end
end Go.Proofs.YthhnpcniijpfeaaGreat

/- All spans of an arena, of either side; spans compared. By an AI agent. -/
import Derived.Test.YtbepbcjklgfmjaaGreatDoorZDocRec
import Derived.Test.YtbepbcjklgfmjaaGreatDoorZDoc
namespace Go.Proofs.YtbepbcjklgfmjaaGreatDoor
open Go.RowKit
set_option linter.unusedSimpArgs false
set_option linter.unusedVariables false
/-- A span as it is told. -/
structure SpanS where
  pg : Int
  ps : Int
  cl : Int
  gn : Int
  ph : Int
  al : Int
  mr : Int
abbrev SpanS.vals (x : SpanS) : List Value := [.int .i64 x.pg, .int .i64 x.ps, .int .i64 x.cl, .int .i64 x.gn, .int .i64 x.ph, .int .u64 x.al, .int .u64 x.mr]
/-- What a page's words say. -/
def spanOf (P T : Int) (g : Int → Int) (p : Int) : Option SpanS :=
  if g (recAt P T 9 p) = 0 then none else some ⟨p, g (recAt P T 10 p) / 256, g (recAt P T 10 p) % 256, Ph.gen (g (recAt P T 9 p)), Ph.ph (g (recAt P T 9 p)), g (recAt P T 12 p), g (recAt P T 13 p)⟩
/-- The spans of the first pages. -/
def spansL (P T : Int) (g : Int → Int) : Nat → List SpanS
  | 0 => []
  | n + 1 => spansL P T g n ++ (match spanOf P T g n with | none => [] | some x => [x])
def flatS (l : List SpanS) : List Value := l.flatMap SpanS.vals
theorem flatS_len (l : List SpanS) : (flatS l).length = l.length * 7 := by
  induction l with
  | nil => rfl
  | cons x l ih => simp only [flatS, List.flatMap_cons, List.length_append, List.length_cons] at ih ⊢; rw [ih]; simp; omega
theorem flatS_append (l : List SpanS) (x : SpanS) : flatS (l ++ [x]) = flatS l ++ x.vals := by simp [flatS]
theorem spansL_len (P T : Int) (g : Int → Int) : ∀ n, (spansL P T g n).length ≤ n
  | 0 => by simp [spansL]
  | n + 1 => by
    have := spansL_len P T g n
    rw [spansL]
    split <;> simp <;> omega
theorem flatS_at : ∀ (l : List SpanS) (k : Nat) (x : SpanS), l[k]? = some x → ∀ j v, x.vals[j]? = some v → (flatS l)[k * 7 + j]? = some v
  | [], k, x, h, _, _, _ => by simp at h
  | y :: l, 0, x, h, j, v, hj => by
    have e : y = x := by simpa using h
    subst e
    have hlt : j < y.vals.length := by
      rcases Nat.lt_or_ge j y.vals.length with h1 | h1
      · exact h1
      · rw [List.getElem?_eq_none h1] at hj; cases hj
    simp only [flatS, List.flatMap_cons, Nat.zero_mul, Nat.zero_add]
    rw [List.getElem?_append_left hlt]; exact hj
  | y :: l, k + 1, x, h, j, v, hj => by
    have ih := flatS_at l k x (by simpa using h) j v hj
    have e : (k + 1) * 7 + j = y.vals.length + (k * 7 + j) := by simp; omega
    simp only [flatS, List.flatMap_cons]
    rw [e, List.getElem?_append_right (by omega)]
    simpa [flatS] using ih
theorem row_base {w : World} {base : Nat} {e : TypeId} {size : Nat} {v : Value} {n : Nat} {xs : List Value} (h : w.ownsRow base e size v n xs) (k : Nat) (hk : v.ownBlock = some k) : base ≤ k := by
  rcases h.2 with ⟨rfl, _⟩ | ⟨g, cap, cur, rfl, hbg, _⟩
  · cases hk
  · obtain rfl : g = k := by simpa [Value.ownBlock] using hk
    exact hbg
theorem row_snoc2 {w w1 : World} {base n size : Nat} {v : Value} {e : TypeId} {xs : List Value} (hr : w.ownsRow base e size v n xs) (o : Obj) (hg : (w.alloc o).grownBy w1 v.ownBlock) : ∀ {u : World}, Adds u w → base = u.heap.size → Adds u w1 := fun {u} hu hbe => by
  have h1 : Adds u (w.alloc o) := hu.alloc o
  refine ⟨hg.os.trans h1.os, hg.tape.trans h1.tape, hg.output.trans h1.output, Nat.le_trans h1.size hg.size, fun k hk _ => (hg.block k (Nat.lt_of_lt_of_le hk h1.size) (fun e => ?_)).trans (h1.block k hk id)⟩
  have := row_base hr k e.symm
  omega
section
variable {w : World} {ab sb sm rb bb fb : Nat} {P T : Int} {g : Int → Int} {s : StoreS}
theorem YW.fitW (hY : YW w ab sb sm rb P T g) {i : Int} (h0 : 0 ≤ i) (h1 : i < Lay.words P T) : 0 ≤ g i ∧ g i < 18446744073709551616 := by
  obtain ⟨s, hy, _, hg⟩ := hY
  rw [← hg i h0 h1]
  exact StoreS.word_bd hy.st.fit i
set_option maxRecDepth 100000 in
set_option maxHeartbeats 8000000 in
theorem recList_all (hY : YW w ab sb sm rb P T g) (hm : Lay.may P T = true) :
    Calls Tryz.prog 11 #[ptr ab] w fun e w' => ∃ v, e = .returned v ∧ w'.ownsRow w.heap.size 39 7 v (spansL P T g P.toNat).length (flatS (spansL P T g P.toNat)) ∧ Adds w w' := by
  have hfl : ∀ (a b : Int) W, Sem.run Tryz.prog (Instr.field 35 (.agg #[.int .i64 a, .int .i64 b]) 0) W = .ok (.int .i64 a) W := fun _ _ _ => by kernel_rfl
  obtain ⟨i0, hi, hz0, hz1, hz2⟩ := info_parts infoSpan
  have HY := Lib.hid hY; have HM := Lib.hid hm
  have hAr : Hid (IsArena w ab sb rb P T) := Lib.hid (by obtain ⟨s, hy, _⟩ := hY; exact hy.ar)
  obtain ⟨p1, p2, -, -⟩ := Lay.may_iff.1 hm
  obtain ⟨n, rfl⟩ : ∃ n : Nat, P = n := ⟨P.toNat, by omega⟩
  rw [Int.toNat_natCast]
  clear hY hm
  go_enter Tryz.func11, Tryz.ntmps11
  go_wp2_with (go_at_call 27; refine (arenaLayout_any hAr.out).mono ?_; rintro e w1 ⟨rfl, ho1⟩; have HO1 := Lib.hid ho1; clear ho1)
  go_loopw [2, 9] (fun o p wr => ∃ k : Nat, k ≤ n ∧ p = .int .i64 k ∧ Hid (wr.ownsRow w.heap.size 39 7 o (spansL n T g k).length (flatS (spansL n T g k))) ∧ Hid (Adds w wr)) (fun _ p _ => n - (intOf p).toNat)
  case atStart => exact ⟨0, by omega, rfl, Lib.hid (World.ownsRow_nil _ _ _ _), HO1⟩
  case round =>
    obtain ⟨k, hk1, rfl, HR, HW⟩ := hrel
    have hwk : IntKind.i64.wrap ((k : Int) + 1) = (k : Int) + 1 := by rw [IntKind.wrap_i64]; omega
    by_cases hk2 : k < n
    · have g1 : (k : Int) < (n : Int) := by omega
      by_cases hz : g (recAt n T 9 k) = 0
      · have hs : spansL n T g (k + 1) = spansL n T g k := by rw [spansL, spanOf, if_pos hz]; simp
        have HS := Lib.hid hs; have HZ := Lib.hid hz
        clear hs hz
        go_wp2_with (go_at_call 8; refine (read_zero (pg := (k : Int)) (HY.out.adds HW.out) HM.out (by omega) (by omega) HZ.out).mono ?_; rintro e w2 ⟨rfl, ho⟩; have HO2 := Lib.hid ho; have HO := Lib.hid (HW.out.thenF ho); clear ho)
        go_roundw
        case rel => exact ⟨k + 1, by omega, by go_num, Lib.hid (by rw [HS.out]; exact ownsRow_only HR.out (HO2.out.alloc _) (fun _ _ => id)), Lib.hid (HO.out.alloc _)⟩
        case measure => simp [intOf]; omega
      · obtain ⟨x, hx⟩ : ∃ x, spanOf n T g k = some x := ⟨_, by rw [spanOf, if_neg hz]⟩
        have hs : spansL n T g (k + 1) = spansL n T g k ++ [x] := by rw [spansL, hx]
        have hll := spansL_len n T g k
        obtain ⟨L, hL⟩ : ∃ L, spansL n T g k = L := ⟨_, rfl⟩
        rw [hL] at HR hs hll
        have b9 := recAt_bd (k := 9) (p := (k : Int)) HM.out (by omega) g1 (by omega) (by omega)
        have b10 := recAt_bd (k := 10) (p := (k : Int)) HM.out (by omega) g1 (by omega) (by omega)
        have HRd : Hid (∀ W, Adds w W → Calls Tryz.prog 8 #[ptr ab, .int .i64 (k : Int)] W fun e w' => e = .returned (.tuple #[spanV x.pg x.ps x.cl x.gn x.ph x.al x.mr, .bool true]) ∧ Adds W w') := Lib.hid (fun W ho => by
          have := read_some (pg := (k : Int)) (HY.out.adds ho) HM.out (by omega) g1 rfl hz rfl rfl rfl (HY.out.fitW b9.1 b9.2) (HY.out.fitW b10.1 b10.2)
          rw [spanOf, if_neg hz] at hx
          injection hx with hx
          rw [← hx]; exact this)
        obtain ⟨m, hm⟩ : ∃ m, L.length = m := ⟨_, rfl⟩
        rw [hm] at HR hll
        obtain ⟨pg, ps, cl, gn, ph, al, mk⟩ := x
        dsimp only at HRd
        have HS := Lib.hid hs; have HMM := Lib.hid hm
        obtain ⟨la, lc, hlv⟩ := ownsRow_slice HR.out
        subst hlv
        have hg0 : w.heap.size ≤ wr.heap.size := HW.out.size
        clear hx hs hz b9 b10 hL hm
        go_upto_region 6 with (go_at_call 8; refine (HRd.out _ HW.out).mono ?_; rintro e w2 ⟨rfl, ho⟩; have HR2 := Lib.hid (ownsRow_only HR.out ho (fun _ _ => id)); have HO := Lib.hid (HW.out.thenF ho); clear ho)
        obtain ⟨wa, hwa⟩ : ∃ wa, wa = w2.alloc (.cells #[.int .i64 pg, .int .i64 ps, .int .i64 cl, .int .i64 gn, .int .i64 ph, .int .u64 al, .int .u64 mk] 39) := ⟨_, rfl⟩
        have hB := Blk.new w2 #[.int .i64 pg, .int .i64 ps, .int .i64 cl, .int .i64 gn, .int .i64 ph, .int .u64 al, .int .u64 mk] 39
        rw [← hwa] at hB ⊢
        obtain ⟨y0, y1, y2, y3, y4, y5, y6, -⟩ := hB.seven
        have HA := Lib.hid (show Adds w wa by rw [hwa]; exact HO.out.alloc _)
        have HR3 := Lib.hid (show wa.ownsRow w.heap.size 39 7 (.slice la m lc) m (flatS L) by rw [hwa]; exact HR2.out.alloc _)
        have hg1 : w.heap.size ≤ wa.heap.size := HA.out.size
        clear hwa hB
        go_wp2_with (at_builtin; refine wpList_append_own _ rfl _ _ 44 rfl w.heap.size 39 i0 (.agg spanZ) 7 56 Tryz.underlying44 hi hz0 hz1 hz2 rfl (by decide) (.slice la m lc) m (flatS L) rfl (HR3.out.alloc (.cells #[.int .i64 pg, .int .i64 ps, .int .i64 cl, .int .i64 gn, .int .i64 ph, .int .u64 al, .int .u64 mk] 39)) ⟨wa.heap.size, 0, none⟩ 1 1 [.int .i64 pg, .int .i64 ps, .int .i64 cl, .int .i64 gn, .int .i64 ph, .int .u64 al, .int .u64 mk] rfl rfl (cells_new _ _ _) (by simp [Value.oneCell']) (by unfold maxLen; omega) (by omega) (by simp; omega) ?_; intro v' w3 hown' hgrow3 hnil3)
        have hA3 : Adds w w3 := row_snoc2 HR3.out _ hgrow3 HA.out rfl
        go_roundw
        case rel =>
          refine ⟨k + 1, by omega, by go_num, Lib.hid ?_, Lib.hid hA3⟩
          rw [HS.out, flatS_append, List.length_append, HMM.out]
          exact hown'
        case measure => simp [intOf]; omega
    · obtain rfl : k = n := by omega
      go_wp2
      go_ret
      exact ⟨_, rfl, HR.out, HW.out⟩
set_option maxRecDepth 100000 in
set_option maxHeartbeats 8000000 in
theorem docSpans_all (h : IsMem w bb sb sm rb fb P T s) (hm : Lay.may P T = true) (hl : s.ws.length = (Lay.words P T).toNat) :
    Calls Tryz.prog 12 #[.pointer (some ⟨bb, 0, none⟩)] w fun e w' => ∃ v, e = .returned v ∧ w'.ownsRow w.heap.size 39 7 v (spansL P T s.word P.toNat).length (flatS (spansL P T s.word P.toNat)) ∧ Adds w w' := by
  obtain ⟨i0, hi, hz0, hz1, hz2⟩ := info_parts infoSpan
  have HY := Lib.hid h; have HM := Lib.hid hm
  obtain ⟨p1, p2, -, -⟩ := Lay.may_iff.1 hm
  obtain ⟨n, rfl⟩ : ∃ n : Nat, P = n := ⟨P.toNat, by omega⟩
  rw [Int.toNat_natCast]
  have HLn := Lib.hid hl
  clear h hm hl
  go_enter Tryz.func12, Tryz.ntmps12
  go_wp2_with fail
  go_loopw [3, 4] (fun o p wr => ∃ k : Nat, k ≤ n ∧ p = .int .i64 k ∧ Hid (wr.ownsRow w.heap.size 39 7 o (spansL n T s.word k).length (flatS (spansL n T s.word k))) ∧ Hid (Adds w wr)) (fun _ p _ => n - (intOf p).toNat)
  case atStart => exact ⟨0, by omega, rfl, Lib.hid (World.ownsRow_nil _ _ _ _), Lib.hid (Only.refl _ _)⟩
  case round =>
    obtain ⟨k, hk1, rfl, HR, HW⟩ := hrel
    have hwk : IntKind.i64.wrap ((k : Int) + 1) = (k : Int) + 1 := by rw [IntKind.wrap_i64]; omega
    have m2 : wr.cell? ⟨bb, 2, none⟩ = some (.int .i64 n) := (HY.out.adds HW.out).head.cell 2
    by_cases hk2 : k < n
    · have g1 : (k : Int) < (n : Int) := by omega
      have hok : Lay.pageOk n T 9 k = true := by unfold Lay.pageOk; rw [HM.out, Bool.true_and, decide_eq_true_eq]; omega
      have e9 := recAt_eq (k := 9) (p := (k : Int)) HM.out (by omega) g1 (by omega) (by omega)
      have e10 := recAt_eq (k := 10) (p := (k : Int)) HM.out (by omega) g1 (by omega) (by omega)
      have e12 := recAt_eq (k := 12) (p := (k : Int)) HM.out (by omega) g1 (by omega) (by omega)
      have e13 := recAt_eq (k := 13) (p := (k : Int)) HM.out (by omega) g1 (by omega) (by omega)
      have bd := recAt_bd (k := 13) (p := (k : Int)) HM.out (by omega) g1 (by omega) (by omega)
      have bd9 := recAt_bd (k := 9) (p := (k : Int)) HM.out (by omega) g1 (by omega) (by omega)
      have ea : recAt n T 9 k = Lay.pageAt n T 9 k := by unfold recAt atV; rw [hok]; rfl
      simp at e9 e10 e12 e13
      by_cases hz : s.word (recAt n T 9 k) = 0
      · have hs : spansL n T s.word (k + 1) = spansL n T s.word k := by rw [spansL, spanOf, if_pos hz]; simp
        have HS := Lib.hid hs
        have HRd : Hid (∀ W, Adds w W → Calls Tryz.prog 9 #[.pointer (some ⟨bb, 0, none⟩), .int .i64 (k : Int)] W fun e w' => e = .returned (.tuple #[.agg spanZ, .bool false]) ∧ Adds W w') := Lib.hid (fun W ho =>
          docRead_zero (HY.out.adds ho) hok (by rw [← ea]; exact ⟨bd9.1, by have := HLn.out; omega⟩) (by rw [← ea]; exact hz))
        clear hs hz e9 e10 e12 e13 bd bd9 ea hok
        go_wp2_with (go_at_call 9; refine (HRd.out _ HW.out).mono ?_; rintro e w2 ⟨rfl, ho⟩; have HO2 := Lib.hid ho; have HO := Lib.hid (HW.out.thenF ho); clear ho)
        go_roundw
        case rel => exact ⟨k + 1, by omega, by go_num, Lib.hid (by rw [HS.out]; exact ownsRow_only HR.out (HO2.out.alloc _) (fun _ _ => id)), Lib.hid (HO.out.alloc _)⟩
        case measure => simp [intOf]; omega
      · obtain ⟨x, hx⟩ : ∃ x, spanOf n T s.word k = some x := ⟨_, by rw [spanOf, if_neg hz]⟩
        have hs : spansL n T s.word (k + 1) = spansL n T s.word k ++ [x] := by rw [spansL, hx]
        have hll := spansL_len n T s.word k
        obtain ⟨L, hL⟩ : ∃ L, spansL n T s.word k = L := ⟨_, rfl⟩
        rw [hL] at HR hs hll
        have HRd : Hid (∀ W, Adds w W → Calls Tryz.prog 9 #[.pointer (some ⟨bb, 0, none⟩), .int .i64 (k : Int)] W fun e w' => e = .returned (.tuple #[spanV x.pg x.ps x.cl x.gn x.ph x.al x.mr, .bool true]) ∧ Adds W w') := Lib.hid (fun W ho => by
          obtain ⟨A, hA⟩ : ∃ A : Nat, recAt n T 9 k = A := ⟨(recAt n T 9 k).toNat, by omega⟩
          have fb := fun i => StoreS.word_bd HY.out.st.fit i
          have := docRead_some (A := A) (pg := (k : Int)) (HY.out.adds ho) hok (by rw [← ea]; exact hA) (by have := HLn.out; omega) (by rw [← hA]) hz (by rw [show ((A + 1 : Nat) : Int) = recAt n T 10 k by omega]) (by rw [show ((A + 3 : Nat) : Int) = recAt n T 12 k by omega]) (by rw [show ((A + 4 : Nat) : Int) = recAt n T 13 k by omega]) (fb _) (fb _)
          rw [spanOf, if_neg hz] at hx
          injection hx with hx
          rw [← hx]; exact this)
        obtain ⟨m, hm⟩ : ∃ m, L.length = m := ⟨_, rfl⟩
        rw [hm] at HR hll
        obtain ⟨pg, ps, cl, gn, ph, al, mk⟩ := x
        dsimp only at HRd
        have HS := Lib.hid hs; have HMM := Lib.hid hm
        obtain ⟨la, lc, hlv⟩ := ownsRow_slice HR.out
        subst hlv
        have hg0 : w.heap.size ≤ wr.heap.size := HW.out.size
        clear hx hs hz hL hm e9 e10 e12 e13 bd bd9 ea hok
        go_upto_region 7 with (go_at_call 9; refine (HRd.out _ HW.out).mono ?_; rintro e w2 ⟨rfl, ho⟩; have HR2 := Lib.hid (ownsRow_only HR.out ho (fun _ _ => id)); have HO := Lib.hid (HW.out.thenF ho); clear ho)
        obtain ⟨wa, hwa⟩ : ∃ wa, wa = w2.alloc (.cells #[.int .i64 pg, .int .i64 ps, .int .i64 cl, .int .i64 gn, .int .i64 ph, .int .u64 al, .int .u64 mk] 39) := ⟨_, rfl⟩
        have hB := Blk.new w2 #[.int .i64 pg, .int .i64 ps, .int .i64 cl, .int .i64 gn, .int .i64 ph, .int .u64 al, .int .u64 mk] 39
        rw [← hwa] at hB ⊢
        obtain ⟨y0, y1, y2, y3, y4, y5, y6, -⟩ := hB.seven
        have HA := Lib.hid (show Adds w wa by rw [hwa]; exact HO.out.alloc _)
        have HR3 := Lib.hid (show wa.ownsRow w.heap.size 39 7 (.slice la m lc) m (flatS L) by rw [hwa]; exact HR2.out.alloc _)
        have hg1 : w.heap.size ≤ wa.heap.size := HA.out.size
        clear hwa hB m2
        go_wp2_with (at_builtin; refine wpList_append_own _ rfl _ _ 44 rfl w.heap.size 39 i0 (.agg spanZ) 7 56 Tryz.underlying44 hi hz0 hz1 hz2 rfl (by decide) (.slice la m lc) m (flatS L) rfl (HR3.out.alloc (.cells #[.int .i64 pg, .int .i64 ps, .int .i64 cl, .int .i64 gn, .int .i64 ph, .int .u64 al, .int .u64 mk] 39)) ⟨wa.heap.size, 0, none⟩ 1 1 [.int .i64 pg, .int .i64 ps, .int .i64 cl, .int .i64 gn, .int .i64 ph, .int .u64 al, .int .u64 mk] rfl rfl (cells_new _ _ _) (by simp [Value.oneCell']) (by unfold maxLen; omega) (by omega) (by simp; omega) ?_; intro v' w3 hown' hgrow3 hnil3)
        have hA3 : Adds w w3 := row_snoc2 HR3.out _ hgrow3 HA.out rfl
        go_roundw
        case rel =>
          refine ⟨k + 1, by omega, by go_num, Lib.hid ?_, Lib.hid hA3⟩
          rw [HS.out, flatS_append, List.length_append, HMM.out]
          exact hown'
        case measure => simp [intOf]; omega
    · obtain rfl : k = n := by omega
      have g1 : ¬ (k : Int) < (k : Int) := by omega
      go_wp2
      go_ret
      exact ⟨_, rfl, HR.out, HW.out⟩
end
/-- An element of a row of spans. -/
theorem row7_el {w : World} {base : Nat} {v : Value} {L : List SpanS} (h : w.ownsRow base 39 7 v L.length (flatS L)) {k : Nat} {x : SpanS} (hk : L[k]? = some x) :
    ∃ g cp, v = .slice (some ⟨g, 0, none⟩) L.length cp ∧ ∀ j u, x.vals[j]? = some u → w.cell? ⟨g, k * 7 + j, none⟩ = some u := by
  have hlt : k < L.length := by
    rcases Nat.lt_or_ge k L.length with h1 | h1
    · exact h1
    · rw [List.getElem?_eq_none h1] at hk; cases hk
  obtain ⟨_, ⟨_, h1⟩ | ⟨g, cap, cur, h1, h2, h3, _, _, _, h5⟩⟩ := h
  · omega
  · refine ⟨g, cap, h1, fun j u hj => ?_⟩
    have hj7 : j < 7 := by
      rcases Nat.lt_or_ge j 7 with h6 | h6
      · exact h6
      · rw [List.getElem?_eq_none (by simpa using h6)] at hj; cases hj
    have e1 : (cur.toList.take (L.length * 7))[k * 7 + j]? = some u := by rw [h5]; exact flatS_at L k x hk j u hj
    rw [List.getElem?_take_of_lt (by omega)] at e1
    simpa [World.cell?, h3] using e1
set_option maxRecDepth 100000 in
set_option maxHeartbeats 4000000 in
theorem sameSpans_any {w : World} {b1 b2 : Nat} {v1 v2 : Value} {L : List SpanS} (hl : L.length ≤ 100000) (h1 : w.ownsRow b1 39 7 v1 L.length (flatS L)) (h2 : w.ownsRow b2 39 7 v2 L.length (flatS L)) :
    Calls Tryz.prog 10 #[v1, v2] w fun e w' => e = .returned (.bool true) ∧ ∃ k, w' = w.drewN k := by
  obtain ⟨n, hn⟩ : ∃ n, L.length = n := ⟨_, rfl⟩
  obtain ⟨a1, c1, e1⟩ := ownsRow_slice h1
  obtain ⟨a2, c2, e2⟩ := ownsRow_slice h2
  have H1 := Lib.hid h1; have H2 := Lib.hid h2
  have HN := Lib.hid hn
  rw [hn] at e1 e2 hl
  rw [e1, e2]
  have E1 := Lib.hid e1; have E2 := Lib.hid e2
  clear h1 h2 e1 e2 hn
  go_enter Tryz.func10, Tryz.ntmps10
  go_wp2
  go_loopw [5] (fun i wr => ∃ k : Nat, k ≤ n ∧ i = .int .i64 k ∧ ∃ q, wr = w.drewN q) (fun i _ => n - (intOf i).toNat)
  case atStart => exact ⟨0, by omega, rfl, 0, rfl⟩
  case round =>
    obtain ⟨k, hk1, rfl, q, rfl⟩ := hrel
    have hwk : IntKind.i64.wrap ((k : Int) + 1) = (k : Int) + 1 := by rw [IntKind.wrap_i64]; omega
    by_cases hk2 : k < n
    · obtain ⟨x, hx⟩ : ∃ x, L[k]? = some x := ⟨_, List.getElem?_eq_getElem (by rw [HN.out]; exact hk2)⟩
      obtain ⟨g1, p1, f1, k1⟩ := row7_el H1.out hx
      obtain ⟨g2, p2, f2, k2⟩ := row7_el H2.out hx
      rw [E1.out, HN.out] at f1
      rw [E2.out, HN.out] at f2
      injection f1 with f1 _ f3
      injection f2 with f2 _ f4
      obtain ⟨x0, x1, x2, x3, x4, x5, x6⟩ := x
      subst f1 f2 f3 f4
      have a0 : w.cell? ⟨g1, k * 7, none⟩ = some (.int .i64 x0) := k1 0 _ rfl
      have a1 : w.cell? ⟨g1, k * 7 + 1, none⟩ = some (.int .i64 x1) := k1 1 _ rfl
      have a2 : w.cell? ⟨g1, k * 7 + 2, none⟩ = some (.int .i64 x2) := k1 2 _ rfl
      have a3 : w.cell? ⟨g1, k * 7 + 3, none⟩ = some (.int .i64 x3) := k1 3 _ rfl
      have a4 : w.cell? ⟨g1, k * 7 + 4, none⟩ = some (.int .i64 x4) := k1 4 _ rfl
      have a5 : w.cell? ⟨g1, k * 7 + 5, none⟩ = some (.int .u64 x5) := k1 5 _ rfl
      have a6 : w.cell? ⟨g1, k * 7 + 6, none⟩ = some (.int .u64 x6) := k1 6 _ rfl
      have d0 : w.cell? ⟨g2, k * 7, none⟩ = some (.int .i64 x0) := k2 0 _ rfl
      have d1 : w.cell? ⟨g2, k * 7 + 1, none⟩ = some (.int .i64 x1) := k2 1 _ rfl
      have d2 : w.cell? ⟨g2, k * 7 + 2, none⟩ = some (.int .i64 x2) := k2 2 _ rfl
      have d3 : w.cell? ⟨g2, k * 7 + 3, none⟩ = some (.int .i64 x3) := k2 3 _ rfl
      have d4 : w.cell? ⟨g2, k * 7 + 4, none⟩ = some (.int .i64 x4) := k2 4 _ rfl
      have d5 : w.cell? ⟨g2, k * 7 + 5, none⟩ = some (.int .u64 x5) := k2 5 _ rfl
      have d6 : w.cell? ⟨g2, k * 7 + 6, none⟩ = some (.int .u64 x6) := k2 6 _ rfl
      have hne := fun W => span_self W x0 x1 x2 x3 x4 x5 x6
      have g1 : (k : Int) < (n : Int) := by omega
      have g2 : (0 : Int) ≤ (k : Int) := by omega
      clear k1 k2 hx
      go_wp2
      go_quiet ((fail))
      go_wp2
      go_roundw
      case rel => exact ⟨k + 1, by omega, by go_num, _, rfl⟩
      case measure => simp [intOf]; omega
    · have g1 : ¬ (k : Int) < (n : Int) := by omega
      go_wp2
      go_ret
      exact ⟨rfl, _, rfl⟩
end Go.Proofs.YtbepbcjklgfmjaaGreatDoor

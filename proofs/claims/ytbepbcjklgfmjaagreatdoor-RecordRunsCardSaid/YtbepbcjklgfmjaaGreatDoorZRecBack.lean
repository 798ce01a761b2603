/- RecordBack: spans compared, the document's Lay, all spans of an arena, its index. By an AI agent. -/
import Derived.Test.YtbepbcjklgfmjaaGreatDoorZRecAwake
import Derived.Test.YtbepbcjklgfmjaaGreatDoorZ8
import Derived.Test.YtbepbcjklgfmjaaGreatDoorZD
import Derived.Maps.AppendAt
import Derived.Deep.RegionHeld3
import Derived.Deep.LoopGhost
import Derived.Laws.StructEq
namespace Go.Proofs.YtbepbcjklgfmjaaGreatDoor
open Go.RowKit
set_option linter.unusedSimpArgs false
set_option linter.unusedVariables false
theorem span_neq (W : World) (a b c d e f g a' b' c' d' e' f' g' : Int) : Sem.run Tryz.prog (binOp .neq 39 (spanV a b c d e f g) (spanV a' b' c' d' e' f' g')) W = .ok (.bool (!(a == a' && b == b' && c == c' && d == d' && e == e' && f == f' && g == g'))) W := by
  rw [run_neq_struct, run_equalIn_struct W 9999 _ _ _ (by kernel_rfl) (by kernel_rfl)]
  simp only [Program.fieldsOf, Tryz.underlying39]
  simp [go_sem]
  by_cases h1 : a = a' <;> by_cases h2 : b = b' <;> by_cases h3 : c = c' <;> by_cases h4 : d = d' <;> by_cases h5 : e = e' <;> by_cases h6 : f = f' <;> by_cases h7 : g = g' <;> simp [h1, h2, h3, h4, h5, h6, h7]
theorem span_self (W : World) (a b c d e f g : Int) : Sem.run Tryz.prog (binOp .neq 39 (spanV a b c d e f g) (spanV a b c d e f g)) W = .ok (.bool false) W := by
  rw [span_neq]; simp
/-- A span in the first seven cells of a block. -/
def Sp (w : World) (b : Nat) (x0 x1 x2 x3 x4 x5 x6 : Int) : Prop := w.cell? ⟨b, 0, none⟩ = some (.int .i64 x0) ∧ w.cell? ⟨b, 1, none⟩ = some (.int .i64 x1) ∧ w.cell? ⟨b, 2, none⟩ = some (.int .i64 x2) ∧ w.cell? ⟨b, 3, none⟩ = some (.int .i64 x3) ∧ w.cell? ⟨b, 4, none⟩ = some (.int .i64 x4) ∧ w.cell? ⟨b, 5, none⟩ = some (.int .u64 x5) ∧ w.cell? ⟨b, 6, none⟩ = some (.int .u64 x6)
theorem Sp.adds {w w' : World} {b : Nat} {x0 x1 x2 x3 x4 x5 x6 : Int} (h : Sp w b x0 x1 x2 x3 x4 x5 x6) (ho : Adds w w') : Sp w' b x0 x1 x2 x3 x4 x5 x6 := by
  obtain ⟨h0, h1, h2, h3, h4, h5, h6⟩ := h
  have hl := cell_lt h0
  exact ⟨(ho.cellF (p := ⟨b, 0, none⟩) hl id).trans h0, (ho.cellF (p := ⟨b, 1, none⟩) hl id).trans h1, (ho.cellF (p := ⟨b, 2, none⟩) hl id).trans h2, (ho.cellF (p := ⟨b, 3, none⟩) hl id).trans h3, (ho.cellF (p := ⟨b, 4, none⟩) hl id).trans h4, (ho.cellF (p := ⟨b, 5, none⟩) hl id).trans h5, (ho.cellF (p := ⟨b, 6, none⟩) hl id).trans h6⟩
set_option maxRecDepth 100000 in
set_option maxHeartbeats 2000000 in
theorem sameSpans_one {w : World} {b c n m : Nat} {x0 x1 x2 x3 x4 x5 x6 : Int} (h1 : Sp w b x0 x1 x2 x3 x4 x5 x6) (h2 : Sp w c x0 x1 x2 x3 x4 x5 x6) :
    Calls Tryz.prog 10 #[.slice (some ⟨b, 0, none⟩) 1 n, .slice (some ⟨c, 0, none⟩) 1 m] w fun e w' => e = .returned (.bool true) ∧ ∃ k, w' = w.drewN k := by
  obtain ⟨a0, a1, a2, a3, a4, a5, a6⟩ := h1
  obtain ⟨c0, c1, c2, c3, c4, c5, c6⟩ := h2
  have hne := fun W => span_self W x0 x1 x2 x3 x4 x5 x6
  go_enter Tryz.func10, Tryz.ntmps10
  go_wp2
  refine wp_loop_rounds 2 ?_
  rw [rounds_succ]
  go_wp2
  go_quiet ((fail))
  go_wp2
  rw [rounds_succ]
  go_wp2
  go_ret
  exact ⟨rfl, _, rfl⟩
theorem infoSpan : (Tryz.prog.info? 39).map (fun i => (i.zero, i.size, i.bytes)) = some (some (.agg spanZ), 7, 56) := by kernel_rfl
theorem cells_new (W : World) (c : List Value) (t : TypeId) : ∀ j u, c[j]? = some u → (W.alloc (.cells c.toArray t)).cell? ((⟨W.heap.size, 0, none⟩ : Addr).add j) = some u := fun j u h => by
  have e : (⟨W.heap.size, 0, none⟩ : Addr).add j = ⟨W.heap.size, j, none⟩ := by unfold Addr.add; split <;> simp_all
  rw [e, (Blk.new W c.toArray t).cell j]
  simpa using h
theorem row7_at {w : World} {base : Nat} {e : TypeId} {v : Value} {xs : List Value} (h : w.ownsRow base e 7 v 1 xs) :
    ∃ g cp, v = .slice (some ⟨g, 0, none⟩) 1 cp ∧ ∀ k x, k < 7 → xs[k]? = some x → w.cell? ⟨g, k, none⟩ = some x := by
  obtain ⟨_, ⟨_, h1⟩ | ⟨g, cap, cur, h1, h2, h3, _, _, _, h5⟩⟩ := h
  · omega
  · refine ⟨g, cap, h1, fun k x hk hx => ?_⟩
    have e1 : (cur.toList.take (1 * 7))[k]? = some x := by rw [h5]; exact hx
    rw [List.getElem?_take_of_lt (by omega)] at e1
    simpa [World.cell?, h3] using e1
theorem adds_grown {W w' : World} (h : W.grownBy w' none) : Adds W w' := by
  have hb2 := (Below.refl W.heap.size W).grown h (Nat.le_refl _) (fun k hk => by cases hk)
  exact ⟨hb2.os, hb2.tape, hb2.output, hb2.size, fun k hk _ => hb2.block k hk⟩
section
variable {w : World} {ab sb sm rb : Nat} {P T pg : Int} {g : Int → Int}
set_option maxRecDepth 100000 in
set_option maxHeartbeats 4000000 in
theorem recList_none (hY : YW w ab sb sm rb P T g) (hm : Lay.may P T = true) (hz : ∀ p, 0 ≤ p → p < P → g (recAt P T 9 p) = 0) :
    Calls Tryz.prog 11 #[ptr ab] w fun e w' => e = .returned (.slice none 0 0) ∧ Adds w w' := by
  have hfl : ∀ (a b : Int) W, Sem.run Tryz.prog (Instr.field 35 (.agg #[.int .i64 a, .int .i64 b]) 0) W = .ok (.int .i64 a) W := fun _ _ _ => by kernel_rfl
  have HY := Lib.hid hY; have HM := Lib.hid hm; have HZ := Lib.hid hz
  have hAr : Hid (IsArena w ab sb rb P T) := Lib.hid (by obtain ⟨s, hy, _⟩ := hY; exact hy.ar)
  obtain ⟨p1, p2, -, -⟩ := Lay.may_iff.1 hm
  clear hY hm hz
  go_enter Tryz.func11, Tryz.ntmps11
  go_wp2_with (go_at_call 27; refine (arenaLayout_any hAr.out).mono ?_; rintro e w1 ⟨rfl, ho1⟩; have HO1 := Lib.hid ho1; clear ho1)
  go_loopw [2, 9] (fun o p wr => ∃ k : Int, 0 ≤ k ∧ k ≤ P ∧ o = .slice none 0 0 ∧ p = .int .i64 k ∧ Hid (Adds w wr)) (fun _ p _ => (P - intOf p).toNat)
  case atStart => exact ⟨0, by omega, by omega, rfl, rfl, HO1⟩
  case round =>
    obtain ⟨k, hk0, hk1, rfl, rfl, HW⟩ := hrel
    by_cases hk2 : k < P
    · go_wp2_with (go_at_call 8; refine (read_zero (HY.out.adds HW.out) HM.out hk0 hk2 (HZ.out _ hk0 hk2)).mono ?_; rintro e w2 ⟨rfl, ho⟩; have HO := Lib.hid (HW.out.thenF ho); clear ho)
      go_roundw
      case rel => exact ⟨k + 1, by omega, by omega, rfl, by go_num, Lib.hid (HO.out.alloc _)⟩
      case measure => simp [intOf]; omega
    · go_wp2
      go_ret
      exact ⟨rfl, HW.out⟩
set_option maxRecDepth 100000 in
set_option maxHeartbeats 8000000 in
theorem recList_one {st bs al mk gn ph : Int} (hY : YW w ab sb sm rb P T g) (hm : Lay.may P T = true) (h0 : 0 ≤ pg) (h1 : pg < P) (hz : ∀ p, 0 ≤ p → p < P → p ≠ pg → g (recAt P T 9 p) = 0) (hst : g (recAt P T 9 pg) = st) (hs : st ≠ 0) (hbs : g (recAt P T 10 pg) = bs) (hal : g (recAt P T 12 pg) = al) (hmk : g (recAt P T 13 pg) = mk) (b0 : 0 ≤ st ∧ st < 18446744073709551616) (b1 : 0 ≤ bs ∧ bs < 18446744073709551616) (hgn : Ph.gen st = gn) (hph : Ph.ph st = ph) :
    Calls Tryz.prog 11 #[ptr ab] w fun e w' => ∃ b c, e = .returned (.slice (some ⟨b, 0, none⟩) 1 c) ∧ Sp w' b pg (bs / 256) (bs % 256) gn ph al mk ∧ Adds w w' := by
  have hfl : ∀ (a b : Int) W, Sem.run Tryz.prog (Instr.field 35 (.agg #[.int .i64 a, .int .i64 b]) 0) W = .ok (.int .i64 a) W := fun _ _ _ => by kernel_rfl
  obtain ⟨i0, hi, hz0, hz1, hz2⟩ := info_parts infoSpan
  have HY := Lib.hid hY; have HM := Lib.hid hm; have HZ := Lib.hid hz
  have HR : Hid (∀ W, Adds w W → Calls Tryz.prog 8 #[ptr ab, .int .i64 pg] W fun e w' => e = .returned (.tuple #[spanV pg (bs / 256) (bs % 256) gn ph al mk, .bool true]) ∧ Adds W w') := Lib.hid (fun W ho => by
    subst hgn hph
    exact read_some (hY.adds ho) hm h0 h1 hst hs hbs hal hmk b0 b1)
  obtain ⟨q, hq⟩ : ∃ q, q = bs / 256 := ⟨_, rfl⟩
  obtain ⟨r, hr⟩ : ∃ r, r = bs % 256 := ⟨_, rfl⟩
  rw [← hq, ← hr] at HR ⊢
  have hAr : Hid (IsArena w ab sb rb P T) := Lib.hid (by obtain ⟨s, hy, _⟩ := hY; exact hy.ar)
  obtain ⟨p1, p2, -, -⟩ := Lay.may_iff.1 hm
  have hbig : w.heap.size ≤ w.heap.size := Nat.le_refl _
  clear hY hm hz hst hs hbs hal hmk b0 b1 hgn hph hq hr
  go_enter Tryz.func11, Tryz.ntmps11
  go_wp2_with (go_at_call 27; refine (arenaLayout_any hAr.out).mono ?_; rintro e w1 ⟨rfl, ho1⟩; have HO1 := Lib.hid ho1; clear ho1)
  go_loopw [2, 9] (fun o p wr => ∃ k : Int, 0 ≤ k ∧ k ≤ P ∧ p = .int .i64 k ∧ Hid (Adds w wr) ∧ ((k ≤ pg ∧ o = .slice none 0 0) ∨ (pg < k ∧ ∃ b c, o = .slice (some ⟨b, 0, none⟩) 1 c ∧ Hid (Sp wr b pg q r gn ph al mk)))) (fun _ p _ => (P - intOf p).toNat)
  case atStart => exact ⟨0, by omega, by omega, rfl, HO1, .inl ⟨by omega, rfl⟩⟩
  case round =>
    obtain ⟨k, hk0, hk1, rfl, HW, hcase⟩ := hrel
    by_cases hk2 : k < P
    · by_cases hkp : k = pg
      · subst hkp
        obtain ⟨-, rfl⟩ | ⟨hk3, -⟩ := hcase
        · go_upto_region 6 with (go_at_call 8; refine (HR.out _ HW.out).mono ?_; rintro e w2 ⟨rfl, ho⟩; have HO := Lib.hid (HW.out.thenF ho); clear ho)
          obtain ⟨wa, hwa⟩ : ∃ wa, wa = w2.alloc (.cells #[.int .i64 k, .int .i64 q, .int .i64 r, .int .i64 gn, .int .i64 ph, .int .u64 al, .int .u64 mk] 39) := ⟨_, rfl⟩
          have hB := Blk.new w2 #[.int .i64 k, .int .i64 q, .int .i64 r, .int .i64 gn, .int .i64 ph, .int .u64 al, .int .u64 mk] 39
          rw [← hwa] at hB ⊢
          obtain ⟨y0, y1, y2, y3, y4, y5, y6, -⟩ := hB.seven
          have HA := Lib.hid (show Adds w wa by rw [hwa]; exact HO.out.alloc _)
          clear hwa hB
          go_wp2_with (at_builtin; refine wpList_append_own _ rfl _ _ 44 rfl wa.heap.size 39 i0 (.agg spanZ) 7 56 Tryz.underlying44 hi hz0 hz1 hz2 rfl (by decide) (.slice none 0 0) 0 [] rfl (World.ownsRow_nil _ _ _ _) ⟨wa.heap.size, 0, none⟩ 1 1 [.int .i64 k, .int .i64 q, .int .i64 r, .int .i64 gn, .int .i64 ph, .int .u64 al, .int .u64 mk] rfl rfl (cells_new _ _ _) (by simp [Value.oneCell']) (by unfold maxLen; omega) (by omega) (by simp) ?_; intro v' w3 hown' hgrow3 hnil3)
          simp only [Nat.zero_add, List.nil_append] at hown'
          obtain ⟨gb, cp, rfl, hg⟩ := row7_at hown'
          have hsp : Sp w3 gb k q r gn ph al mk := ⟨hg 0 _ (by omega) rfl, hg 1 _ (by omega) rfl, hg 2 _ (by omega) rfl, hg 3 _ (by omega) rfl, hg 4 _ (by omega) rfl, hg 5 _ (by omega) rfl, hg 6 _ (by omega) rfl⟩
          have HS := Lib.hid hsp
          have HA3 := Lib.hid ((HA.out.alloc (.cells #[.int .i64 k, .int .i64 q, .int .i64 r, .int .i64 gn, .int .i64 ph, .int .u64 al, .int .u64 mk] 39)).thenF (adds_grown hgrow3))
          clear hown' hgrow3 hnil3 hg hsp
          go_roundw
          case rel => exact ⟨k + 1, by omega, by omega, by go_num, HA3, .inr ⟨by omega, gb, cp, rfl, HS⟩⟩
          case measure => simp [intOf]; omega
        · omega
      · go_wp2_with (go_at_call 8; refine (read_zero (HY.out.adds HW.out) HM.out hk0 hk2 (HZ.out _ hk0 hk2 hkp)).mono ?_; rintro e w2 ⟨rfl, ho⟩; have HO2 := Lib.hid ho; have HO := Lib.hid (HW.out.thenF ho); clear ho)
        go_roundw
        case rel =>
          refine ⟨k + 1, by omega, by omega, by go_num, Lib.hid (HO.out.alloc _), ?_⟩
          obtain ⟨h1, rfl⟩ | ⟨h1, b, c, rfl, hs⟩ := hcase
          · exact .inl ⟨by omega, rfl⟩
          · exact .inr ⟨by omega, b, c, rfl, Lib.hid (hs.out.adds (HO2.out.alloc _))⟩
        case measure => simp [intOf]; omega
    · obtain ⟨h1, rfl⟩ | ⟨h1, b, c, rfl, hs⟩ := hcase
      · omega
      · go_wp2
        go_ret
        exact ⟨b, ⟨c, rfl⟩, hs.out, HW.out⟩
end
end Go.Proofs.YtbepbcjklgfmjaaGreatDoor

/- StoreApart: its walk. By an AI agent. -/
import Derived.Test.YtkfjhdjllnihnaaStoreTouch
import Derived.Test.YtkfjhdjllnihnaaRecs
namespace Go.Proofs.Ytkfjhdjllnihnaa
open Go.RowKit
theorem row_words {w : World} {base n : Nat} {v : Value} {s : StoreS} (h : w.ownsRow base 22 1 v s.ws.length (s.ws.map (Value.int .u64))) (hn : s.ws.length = n) (h0 : 0 < n) :
    ∃ g cap cur, v = .slice (some ⟨g, 0, none⟩) n cap ∧ base ≤ g ∧ Blk w g cur 22 ∧ ∀ j : Nat, j < n → cur[j]? = some (.int .u64 (s.word j)) := by
  obtain ⟨_, ⟨_, h1⟩ | ⟨g, cap, cur, h1, h2, h3, _, _, _, h5⟩⟩ := h
  · omega
  · subst hn
    refine ⟨g, cap, cur, h1, h2, h3, fun j hj => ?_⟩
    have e : (cur.toList.take (s.ws.length * 1))[j]? = some (.int .u64 (s.word j)) := by
      rw [h5]
      simp [StoreS.word, List.getElem?_map, List.getElem?_eq_getElem hj]
    rw [List.getElem?_take_of_lt (by omega)] at e
    simpa using e
theorem Only.put (w : World) (g o : Nat) (v : Value) : Only (· = g) w (w.setCell ⟨g, o, none⟩ v) := (Only.refl (· = g) w).setCell (.inl rfl) v
theorem StoreS.fresh_word (n : Nat) (j : Int) : (StoreS.fresh n).word j = 0 := by
  unfold StoreS.word StoreS.fresh
  simp only [List.getD_eq_getElem?_getD, List.getElem?_replicate]
  split <;> rfl
theorem IsStore.lts {w : World} {b m : Nat} {s : StoreS} (h : IsStore w b m s) : b < w.heap.size ∧ m < w.heap.size := ⟨h.head.lt, h.row.lt⟩
set_option maxRecDepth 100000 in
set_option maxHeartbeats 8000000 in
theorem storeApart_law (a0 : Option Addr) (len cap : Nat) (f : Nat → Nat → Int) (w : World) (w0 : IsRecs [.u8, .i64, .u64, .u64] w a0 len cap f) :
    Calls Try.prog 5 #[.slice a0 len cap] w fun e w' => e = .returned (.bool true) ∧ Below w.heap.size w w' := by
  have HR := Lib.hid w0
  obtain ⟨hl, hcap⟩ := recs_len w0
  clear w0
  go_enter Try.func5, Try.ntmps5
  go_wp2_with fail
  refine (storeNew_ok 20 _ (by omega) (by omega)).mono ?_; rintro e w1 ⟨rfl, hs1, ho1, hz1⟩
  go_wp2_with fail
  refine (storeNew_ok 20 _ (by omega) (by omega)).mono ?_; rintro e w2 ⟨rfl, hs2, ho2, hz2⟩
  have HS1 := Lib.hid (hs1.only ho2 id id)
  have HS2 := Lib.hid hs2
  have HO := Lib.hid (ho1.thenF ho2)
  clear hs1 hs2 ho1 ho2
  rw [hz1] at HS2 hz2 ⊢
  go_wp2_with fail
  go_loopw [5] (fun i wr => ∃ k : Nat, k ≤ len ∧ k ≤ 100 ∧ i = .int .i64 k ∧ ∃ S, IsStore wr (w.heap.size + 1) w.heap.size S ∧ S.ws.length = 20 ∧ IsStore wr (w.heap.size + 2 + 1) (w.heap.size + 2) (StoreS.fresh (20 : Int).toNat) ∧ Adds w wr)
    (fun i _ => len - (intOf i).toNat)
  case atStart => exact ⟨0, Nat.zero_le _, Nat.zero_le _, rfl, _, HS1.out, by simp [StoreS.fresh], HS2.out, HO.out⟩
  case round =>
    obtain ⟨k, hk, hk1, rfl, S, hS, hlen, hF, hA⟩ := hrel
    by_cases hlt : k < len
    · by_cases h100 : k < 100
      · obtain ⟨b, off, rfl, hb, hc⟩ := recs_at HR.out hlt (by decide)
        have hW := words_any _ _ _ _ hS
        go_wp2_with fail
        refine hW.mono ?_; rintro e w3 ⟨v, rfl, hv, ho3⟩
        have hA3 : Adds w w3 := hA.thenF ho3
        have c0 : w3.cell? ⟨b, off + k * 4, none⟩ = some (.int .u8 (f k 0)) := (hA3.cellF hb id).trans (by simpa using (hc 0 .u8 rfl).1)
        have c1 : w3.cell? ⟨b, off + k * 4 + 1, none⟩ = some (.int .i64 (f k 1)) := (hA3.cellF hb id).trans (by simpa [Nat.add_assoc] using (hc 1 .i64 rfl).1)
        have c2 : w3.cell? ⟨b, off + k * 4 + 2, none⟩ = some (.int .u64 (f k 2)) := (hA3.cellF hb id).trans (by simpa [Nat.add_assoc] using (hc 2 .u64 rfl).1)
        have c3 : w3.cell? ⟨b, off + k * 4 + 3, none⟩ = some (.int .u64 (f k 3)) := (hA3.cellF hb id).trans (by simpa [Nat.add_assoc] using (hc 3 .u64 rfl).1)
        have wf0 := (hc 0 .u8 rfl).2; have wf2 := (hc 2 .u64 rfl).2; have wf3 := (hc 3 .u64 rfl).2
        clear hc
        have wb2 := bd_u64 wf2
        clear wf0 wf2 wf3
        have hS3 := (hS.only ho3 id id).alloc (.cells #[.int .u8 (f k 0), .int .i64 (f k 1), .int .u64 (f k 2), .int .u64 (f k 3)] 42)
        have hF3 := (hF.only ho3 id id).alloc (.cells #[.int .u8 (f k 0), .int .i64 (f k 1), .int .u64 (f k 2), .int .u64 (f k 3)] 42)
        have hB3 := Blk.new w3 #[.int .u8 (f k 0), .int .i64 (f k 1), .int .u64 (f k 2), .int .u64 (f k 3)] 42
        have hz3 : w3.heap.size < (w3.alloc (.cells #[.int .u8 (f k 0), .int .i64 (f k 1), .int .u64 (f k 2), .int .u64 (f k 3)] 42)).heap.size := hB3.lt
        obtain ⟨g, cap', cur, rfl, hg, hG, hGc⟩ := row_words hv hlen (by decide)
        have hG3 := hG.alloc (.cells #[.int .u8 (f k 0), .int .i64 (f k 1), .int .u64 (f k 2), .int .u64 (f k 3)] 42)
        have hA3' := hA3.alloc (.cells #[.int .u8 (f k 0), .int .i64 (f k 1), .int .u64 (f k 2), .int .u64 (f k 3)] 42)
        have lS := hS.lts; have lF := hF.lts; have l3 := ho3.size
        clear hv
        go_wp2_with fail
        all_goals (first
          | (refine (load_touch _ _ _ _ _ hS3).mono ?_)
          | (refine (put_touch _ _ _ _ _ _ hS3 wb2.1 wb2.2).mono ?_)
          | (refine (cas_touch _ _ _ _ _ _ _ hS3 wb2.1 wb2.2).mono ?_)
          | (refine (add_touch _ _ _ _ _ _ hS3).mono ?_))
        all_goals (rintro e w4 ⟨⟨v4, rfl⟩, S4, hS4, hl4, hw4, ho4⟩)
        all_goals (
          obtain ⟨hS4l, hS4m⟩ := hS4.lts
          have hA4 := hA3'.thenSB ho4 (by omega) (Nat.le_refl _)
          have hF4 := hF3.only ho4 (by unfold SB; omega) (by unfold SB; omega)
          have hG4 := hG3.only ho4 (by unfold SB; omega)
          have hB4 := hB3.only ho4 (by unfold SB; omega)
          have l4 := ho4.size
          go_wp2_with fail)
        all_goals (
          refine (words_any _ _ _ _ hS4).mono ?_; rintro e w5 ⟨v5, rfl, hv5, ho5⟩
          obtain ⟨g2, cap2, cur2, rfl, hg2, hG2, hG2c⟩ := row_words hv5 (hl4.trans hlen) (by decide)
          clear hv5
          have hA5 := hA4.thenF ho5
          have hF5 := hF4.only ho5 id id
          have hS5 := hS4.only ho5 id id
          have hG5 := hG4.only ho5 id
          have hB5 := hB4.only ho5 id
          have q1 : ∀ j : Nat, j < 20 → w5.cell? ⟨g, j, none⟩ = some (.int .u64 (S.word j)) := fun j hj => (hG5.cell j).trans (hGc j hj)
          have q2 : ∀ j : Nat, j < 20 → w5.cell? ⟨g2, j, none⟩ = some (.int .u64 (S4.word j)) := fun j hj => (hG2.cell j).trans (hG2c j hj)
          have q3 : w5.cell? ⟨w3.heap.size, 1, none⟩ = some (.int .i64 (f k 1)) := hB5.cell 1
          have l5 := hF5.lts; have m5 := hS5.lts
          clear c0 c1 c2 c3 hG hG3 hG4 hB3 hB4 hF3 hF4 hF hS hA hA3 hA3' hA4 ho3 ho4
          go_wp2_with fail)
        all_goals (
          have HA5 := Lib.hid hA5; have HS5 := Lib.hid hS5; have HF5 := Lib.hid hF5; have HG2 := Lib.hid hG2
          clear hA5 hS5 hF5 hG2 hS3 hS4 hG5 hB5
          go_loopw [9] (fun i wr => ∃ j n : Nat, j ≤ 20 ∧ i = .int .i64 j ∧ wr = w5.drewN n) (fun i _ => 20 - (intOf i).toNat)
          case atStart => exact ⟨0, 0, by omega, rfl, rfl⟩
          case round =>
            obtain ⟨j, n, hj, rfl, rfl⟩ := hrel
            by_cases hj2 : j < 20
            · have p1 := q1 j hj2; have p2 := q2 j hj2
              clear q1 q2
              by_cases hat : (j : Int) = f k 1
              · have t1 : ((j : Int) != f k 1) = false := by simpa using hat
                go_wp2
                go_quiet ((fail))
                go_wp2
                go_roundw
                case rel => exact ⟨j + 1, _, by omega, by go_num, rfl⟩
                case measure => simp [intOf]; omega
              · have t1 : ((j : Int) != f k 1) = true := by simpa using hat
                have t2 : (S4.word j != S.word j) = false := by rw [hw4 j (by omega) hat]; simp
                clear hat
                go_wp2
                go_quiet ((fail))
                go_wp2
                go_roundw
                case rel => exact ⟨j + 1, _, by omega, by go_num, rfl⟩
                case measure => simp [intOf]; omega
            · have p2 : w5.cell? ⟨g2, 0, none⟩ = some (.int .u64 (S4.word 0)) := by simpa using q2 0 (by decide)
              have p3 := HG2.out.frozen 0
              clear q1 q2
              go_wp2_with fail
              have hs6 := (HS5.out.drewN n).only (Only.put (w5.drewN n) g2 0 (.int .u64 (IntKind.u64.wrap (S4.word 0 + 1)))) (by omega) (by omega)
              have hf6 := (HF5.out.drewN n).only (Only.put (w5.drewN n) g2 0 (.int .u64 (IntKind.u64.wrap (S4.word 0 + 1)))) (by omega) (by omega)
              have ha6 := (HA5.out.drewN n).setCell (p := ⟨g2, 0, none⟩) (.inr (by simp; omega)) (.int .u64 (IntKind.u64.wrap (S4.word 0 + 1)))
              refine (load_in _ _ 0 _ _ hs6 ⟨by omega, by omega⟩).mono ?_; rintro e w7 ⟨rfl, hs7, ho7⟩
              have HA7 := Lib.hid (ha6.thenSB ho7 (by omega) (by omega))
              have HF7 := Lib.hid (hf6.only ho7 (by unfold SB; omega) (by unfold SB; omega))
              have HS7 := Lib.hid hs7
              clear hs6 hf6 ha6 ho7 hs7
              go_wp2_with fail
              go_roundw
              case rel => exact ⟨k + 1, by omega, by omega, by go_num, _, HS7.out, by simp [StoreS.acc]; omega, HF7.out, HA7.out⟩
              case measure => simp [intOf]; omega)
      · clear hS hlen
        have l5 := hF.lts
        go_wp2_with fail
        refine (words_any _ _ _ _ hF).mono ?_; rintro e w5 ⟨v5, rfl, hv5, ho5⟩
        obtain ⟨g2, cap2, cur2, rfl, hg2, hG2, hG2c⟩ := row_words hv5 (by simp [StoreS.fresh] : _ = 20) (by decide)
        have q2 : ∀ j : Nat, j < 20 → w5.cell? ⟨g2, j, none⟩ = some (.int .u64 0) := fun j hj => ((hG2.cell j).trans (hG2c j hj)).trans (by rw [StoreS.fresh_word])
        have hm0 : (StoreS.fresh (20 : Int).toNat).many = 0 := rfl
        have HA5 := Lib.hid (hA.thenF ho5); have HF5 := Lib.hid (hF.only ho5 id id)
        clear hv5 hG2 hG2c hF hA ho5
        go_wp2_with fail
        go_loop [14] (fun i => ∃ j : Nat, j ≤ 20 ∧ i = .int .i64 j) (fun i => 20 - (intOf i).toNat)
        case atStart => exact ⟨0, by omega, rfl⟩
        case round =>
          obtain ⟨j, hj, rfl⟩ := hrel
          by_cases hj2 : j < 20
          · have p2 := q2 j hj2
            clear q2
            go_wp2
            go_round
            case rel => exact ⟨j + 1, by omega, by go_num⟩
            case measure => simp [intOf]; omega
          · go_wp2_with (first
              | (go_at_call 15; refine (count_any _ _ _ _ HF5.out).mono ?_; rintro e w7 ⟨rfl, rfl⟩)
              | (go_at_call 13; refine (awake2_any _).mono ?_; rintro e w7 ⟨rfl, ho7⟩))
            go_ret
            exact ⟨rfl, (HA5.out.thenF (by assumption)).below (Nat.le_refl _) (fun _ _ h => h)⟩
    · clear hS hlen
      have l5 := hF.lts
      go_wp2_with fail
      refine (words_any _ _ _ _ hF).mono ?_; rintro e w5 ⟨v5, rfl, hv5, ho5⟩
      obtain ⟨g2, cap2, cur2, rfl, hg2, hG2, hG2c⟩ := row_words hv5 (by simp [StoreS.fresh] : _ = 20) (by decide)
      have q2 : ∀ j : Nat, j < 20 → w5.cell? ⟨g2, j, none⟩ = some (.int .u64 0) := fun j hj => ((hG2.cell j).trans (hG2c j hj)).trans (by rw [StoreS.fresh_word])
      have hm0 : (StoreS.fresh (20 : Int).toNat).many = 0 := rfl
      have HA5 := Lib.hid (hA.thenF ho5); have HF5 := Lib.hid (hF.only ho5 id id)
      clear hv5 hG2 hG2c hF hA ho5
      go_wp2_with fail
      go_loop [14] (fun i => ∃ j : Nat, j ≤ 20 ∧ i = .int .i64 j) (fun i => 20 - (intOf i).toNat)
      case atStart => exact ⟨0, by omega, rfl⟩
      case round =>
        obtain ⟨j, hj, rfl⟩ := hrel
        by_cases hj2 : j < 20
        · have p2 := q2 j hj2
          clear q2
          go_wp2
          go_round
          case rel => exact ⟨j + 1, by omega, by go_num⟩
          case measure => simp [intOf]; omega
        · go_wp2_with (first
            | (go_at_call 15; refine (count_any _ _ _ _ HF5.out).mono ?_; rintro e w7 ⟨rfl, rfl⟩)
            | (go_at_call 13; refine (awake2_any _).mono ?_; rintro e w7 ⟨rfl, ho7⟩))
          go_ret
          exact ⟨rfl, (HA5.out.thenF (by assumption)).below (Nat.le_refl _) (fun _ _ h => h)⟩
end Go.Proofs.Ytkfjhdjllnihnaa

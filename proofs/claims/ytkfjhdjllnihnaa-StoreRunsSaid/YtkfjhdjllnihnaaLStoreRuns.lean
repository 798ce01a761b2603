/- StoreRuns: its walk. By an AI agent. -/
import Derived.Deep.DeepCutAuto
import Derived.Deep.CutBlock
import Derived.Test.YtkfjhdjllnihnaaStoreAwake
import Derived.Test.YtkfjhdjllnihnaaStoreDo
import Derived.Test.YtkfjhdjllnihnaaRecs
namespace Go.Proofs.Ytkfjhdjllnihnaa
open Go.RowKit
theorem ownWords {w : World} {base n : Nat} {v : Value} {s : StoreS} (h : w.ownsRow base 22 1 v s.ws.length (s.ws.map (Value.int .u64))) (hn : s.ws.length = n) (h0 : 0 < n) :
    ∃ g cap, v = .slice (some ⟨g, 0, none⟩) n cap ∧ base ≤ g ∧ ∀ j : Nat, j < n → w.cell? ⟨g, j, none⟩ = some (.int .u64 (s.word j)) := by
  obtain ⟨_, ⟨_, h1⟩ | ⟨g, cap, cur, h1, h2, h3, _, _, _, h5⟩⟩ := h
  · omega
  · subst hn
    refine ⟨g, cap, h1, h2, fun j hj => ?_⟩
    have e : (cur.toList.take (s.ws.length * 1))[j]? = some (.int .u64 (s.word j)) := by
      rw [h5]
      simp [StoreS.word, List.getElem?_map, List.getElem?_eq_getElem hj]
    rw [List.getElem?_take_of_lt (by omega)] at e
    simpa [World.cell?, h3] using e
set_option maxRecDepth 100000 in
set_option maxHeartbeats 2000000 in
theorem sameWords_eq (g d n c1 c2 : Nat) (f : Nat → Int) (w : World) (q1 : ∀ j : Nat, j < n → w.cell? ⟨g, j, none⟩ = some (.int .u64 (f j))) (q2 : ∀ j : Nat, j < n → w.cell? ⟨d, j, none⟩ = some (.int .u64 (f j))) (hn : n < 1000000) :
    Calls Try.prog 20 #[.slice (some ⟨g, 0, none⟩) n c1, .slice (some ⟨d, 0, none⟩) n c2] w fun e w' => e = .returned (.bool true) ∧ ∃ k, w' = w.drewN k := by
  have Q1 := Lib.hid q1; have Q2 := Lib.hid q2
  clear q1 q2
  go_enter Try.func20, Try.ntmps20
  go_wp2
  go_loopw [5] (fun i wr => ∃ k m : Nat, k ≤ n ∧ i = .int .i64 k ∧ wr = w.drewN m) (fun i _ => n - (intOf i).toNat)
  case atStart => exact ⟨0, 0, Nat.zero_le _, rfl, rfl⟩
  case round =>
    obtain ⟨k, m, hk, rfl, rfl⟩ := hrel
    by_cases hkn : k < n
    · have p1 := Q1.out k hkn; have p2 := Q2.out k hkn
      obtain ⟨x, hx⟩ : ∃ x, x = f k := ⟨_, rfl⟩
      rw [← hx] at p1 p2
      clear hx
      have t1 : (x != x) = false := by simp
      go_wp2
      go_quiet ((fail))
      go_wp2
      go_roundw
      case rel => exact ⟨k + 1, _, by omega, by go_num, rfl⟩
      case measure => simp [intOf]; omega
    · go_wp2
      go_ret
      exact ⟨rfl, m, rfl⟩
set_option maxRecDepth 100000 in
set_option maxHeartbeats 8000000 in
theorem storeRuns_law (a : Int) (w0 : (Lit.int .u8 a).wf = true) (a0 : Option Addr) (len cap : Nat) (f : Nat → Nat → Int) (w : World) (w1 : IsRecs [.u8, .i64, .u64, .u64] w a0 len cap f) :
    Calls Try.prog 6 #[.int .u8 a, .slice a0 len cap] w fun e w' => e = .returned (.bool true) ∧ Below w.heap.size w w' := by
  have HR := Lib.hid w1
  obtain ⟨hl, hcap⟩ := recs_len w1
  obtain ⟨b0, b1⟩ := bd_u8 w0
  clear w0 w1
  have hz0 : 1 ≤ 1 + a % 40 := by omega
  have hz1 : 1 + a % 40 ≤ 65536 := by omega
  go_enter Try.func6, Try.ntmps6
  go_upto_block 0 with (first
    | (go_at_call 8; refine (storeNew_ok _ _ hz0 hz1).mono ?_; rintro e w1 ⟨rfl, hs1, ho1, hs2⟩; have HS := Lib.hid hs1; have HO := Lib.hid ho1; have HZ := Lib.hid hs2; clear hs1 ho1 hs2)
    | (go_at_call 18; refine (refNew_ok _ _ hz0 hz1).mono ?_; rintro e w2 ⟨rfl, hr1, ho2, hz2⟩; have HR2 := Lib.hid hr1; have HO2 := Lib.hid ho2; have HZ2 := Lib.hid hz2; clear hr1 ho2 hz2))
  obtain ⟨N1, hN1⟩ : ∃ N1, N1 = w1.heap.size := ⟨_, rfl⟩
  have hT : Twin w2 (w.heap.size + 1) w.heap.size (w1.heap.size + 1) w1.heap.size (StoreS.fresh (1 + a % 40).toNat) :=
    ⟨HS.out.only HO2.out id id, HR2.out, by have := HZ.out; omega⟩
  have hA : Adds w w2 := HO.out.thenF HO2.out
  obtain ⟨sz, hsz⟩ : ∃ sz : Nat, sz = (1 + a % 40).toNat := ⟨_, rfl⟩
  have hsz2 : (1 + a % 40 : Int) = (sz : Int) := by omega
  have hsz3 : 1 ≤ sz ∧ sz ≤ 40 := by omega
  have HL : RowKit.Hid (w.heap.size + 2 = N1) := Lib.hid (by have := HZ.out; omega)
  rw [← hsz] at hT
  rw [← hN1] at hT
  have HT := Lib.hid hT; have HA := Lib.hid hA
  rw [hsz2]
  simp only [← hN1]
  clear hT hA HS HO HZ HR2 HO2 HZ2 hN1 hsz hsz2 hz0 hz1 b0 b1
  have HSZ := Lib.hid hsz3
  go_cut [8] (fun _ wx => ∃ S, Twin wx (w.heap.size + 1) w.heap.size (N1 + 1) N1 S ∧ S.ws.length = sz ∧ Adds w wx)
  case first =>
    go_wp2_with fail
    go_loopw [8] (fun i wr => ∃ k : Nat, k ≤ len ∧ k ≤ 300 ∧ i = .int .i64 k ∧ ∃ S, Twin wr (w.heap.size + 1) w.heap.size (N1 + 1) N1 S ∧ S.ws.length = sz ∧ Adds w wr) (fun i _ => len - (intOf i).toNat)
    case atStart => exact ⟨0, Nat.zero_le _, Nat.zero_le _, rfl, _, HT.out, by simp [StoreS.fresh], HA.out⟩
    case round =>
      obtain ⟨k, hk, hk3, rfl, S, hT, hS, hA⟩ := hrel
      have H1 := Lib.hid hT; have HA1 := Lib.hid hA
      clear hT hA HT HA
      by_cases c1 : k < len
      · by_cases c2 : k < 300
        · obtain ⟨b, off, rfl, hb, hc⟩ := recs_at HR.out c1 (by decide)
          have d0 : wr.cell? ⟨b, off + k * 4, none⟩ = some (.int .u8 (f k 0)) := (HA1.out.cellF hb id).trans (by simpa using (hc 0 .u8 rfl).1)
          have d1 : wr.cell? ⟨b, off + k * 4 + 1, none⟩ = some (.int .i64 (f k 1)) := (HA1.out.cellF hb id).trans (by simpa [Nat.add_assoc] using (hc 1 .i64 rfl).1)
          have d2 : wr.cell? ⟨b, off + k * 4 + 2, none⟩ = some (.int .u64 (f k 2)) := (HA1.out.cellF hb id).trans (by simpa [Nat.add_assoc] using (hc 2 .u64 rfl).1)
          have d3 : wr.cell? ⟨b, off + k * 4 + 3, none⟩ = some (.int .u64 (f k 3)) := (HA1.out.cellF hb id).trans (by simpa [Nat.add_assoc] using (hc 3 .u64 rfl).1)
          have e0 := bd_u8 (hc 0 .u8 rfl).2; have e2 := bd_u64 (hc 2 .u64 rfl).2; have e3 := bd_u64 (hc 3 .u64 rfl).2
          have HE := Lib.hid (And.intro e0 (And.intro e2 e3))
          clear hc e0 e2 e3
          generalize f k 0 = x0 at *
          generalize f k 1 = x1 at *
          generalize f k 2 = x2 at *
          generalize f k 3 = x3 at *
          go_upto_region 8 with fail
          go_cut [54] (fun s wx => s = .bool false ∧ ∃ S, Twin wx (w.heap.size + 1) w.heap.size (N1 + 1) N1 S ∧ S.ws.length = sz ∧ Adds w wx)
          case first =>
            go_wp2_with fail
            go_region_with ((first
              | (go_at_call 19; refine (do_any _ _ _ _ S _ _ _ _ _ (H1.out.adds (Only.refl _ _).drew) HE.out.1 HE.out.2.1 HE.out.2.2).mono ?_; rintro e w3 ⟨rfl, S', hl', hT', hO'⟩; obtain ⟨q0, q1, q2, q3, q4, q5⟩ := hT'.two.cells; have H2 := Lib.hid hT'; have HO2 := Lib.hid hO'; have HL2 := Lib.hid hl'; clear hT' hO' hl' q0)
              | (go_at_call 16; refine (last_any _ _ S' _ H2.out.one).mono ?_; rintro e w4 ⟨rfl, ho4⟩; obtain ⟨p0, p1, p2, p3, p4, p5⟩ := (H2.out.adds ho4).two.cells; have H3 := Lib.hid (H2.out.adds ho4); have HO4 := Lib.hid ho4; clear ho4 p0)
              | (go_at_call 15; refine (count_any _ _ S' _ H3.out.one).mono ?_; rintro e w5 ⟨rfl, rfl⟩)))
            all_goals (
              have hAd : Adds w w3 := HA1.out.drew.andThen HO2.out (fun i hi h => by have := HL.out; rcases h with (rfl | rfl) | (rfl | rfl) <;> omega)
              go_wp2_with fail
              go_meet
              exact ⟨by simp, S', H3.out, HL2.out.trans hS, hAd.thenF HO4.out⟩)
          case rest =>
            obtain ⟨rfl, S', hT', hS', hA'⟩ := hcut
            have H3 := Lib.hid hT'; have HA3 := Lib.hid hA'
            clear hT' hA'
            go_wp2_with fail
            go_roundw
            case rel => exact ⟨k + 1, by omega, by omega, by go_num, S', H3.out, hS', HA3.out⟩
            case measure => simp [intOf]; omega
        · go_wp2_with fail
          go_meet
          exact ⟨S, H1.out, hS, HA1.out⟩
      · go_wp2_with fail
        go_meet
        exact ⟨S, H1.out, hS, HA1.out⟩
  case rest =>
    obtain ⟨S, hT, hS, hA⟩ := hcut
    have H3 := Lib.hid hT; have HA3 := Lib.hid hA
    obtain ⟨q0, q1, q2, q3, q4, q5⟩ := hT.two.cells
    rw [hS] at q0
    clear hT hA q1 q2 q3 q4 q5
    have H3 := Lib.hid (H3.out.adds (Only.refl _ _).drew); have HA3 := Lib.hid HA3.out.drew
    go_wp2_with fail
    go_region_with ((first
      | (go_at_call 14; refine (storeLen_any _ _ S _ H3.out.one).mono ?_; rintro e w5 ⟨rfl, rfl⟩; rw [hS])
      | (go_at_call 17; refine (words_any _ _ S _ H3.out.one).mono ?_; rintro e w6 ⟨v, rfl, hv, ho6⟩; obtain ⟨g, cp, rfl, hg, hgc⟩ := ownWords hv hS HSZ.out.1; have q0' := (H3.out.adds ho6).two.cells.1; rw [hS] at q0'; have HG := Lib.hid hgc; have H6 := Lib.hid (H3.out.adds ho6); have HA6 := Lib.hid (HA3.out.thenF ho6); clear hv hgc ho6)
      | (go_at_call 20; refine (sameWords_eq g N1 sz cp sz (fun j => S.word j) _ HG.out (fun j hj => by have := H6.out.two.wordCell (i := j) ⟨by omega, by omega⟩; simpa using this) (by have := HSZ.out; omega)).mono ?_; rintro e w7 ⟨rfl, n7, rfl⟩)
      | (go_at_call 13; refine (awake2_any _).mono ?_; rintro e w8 ⟨rfl, ho8⟩)))
    all_goals go_wp2_with fail
    all_goals go_ret
    all_goals exact ⟨rfl, (Only.thenF (HA6.out.drewN _) (by assumption)).below (Nat.le_refl _) (fun _ _ h => h)⟩
end Go.Proofs.Ytkfjhdjllnihnaa

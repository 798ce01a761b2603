/- RunsPages: its walk. By an AI agent. -/
import Derived.Test.YtbijbpnhakbeeaaRunsSome
import Derived.Test.YtbijbpnhakbeeaaRunsHas
namespace Go.Proofs.Ytbijbpnhakbeeaa
open Go.RowKit
theorem has_at {w : World} {v : Value} {xs : List (Int × Int)} (hv : NodesAt w v xs) {P : Int} (hs : RunsOk P xs) (hP : 0 ≤ P ∧ P ≤ 4096) (m : Nat) (p : Int) :
    Calls Try.prog 31 #[v, .int .i64 p] (w.drewN m) fun e w' => e = .returned (.bool (hasB xs p)) ∧ ∃ q, w' = w.drewN q := by
  refine (has_any (hv.adds ((Only.refl _ w).drewN m)) (hs.small hP.2) (by have := hs.len hP.1; omega) p).mono ?_
  rintro e w' ⟨rfl, q, rfl⟩
  exact ⟨rfl, m + q, by simp [World.drewN, Nat.add_assoc]⟩
/-- Just those pages are free no more that were taken. -/
def TookPg (was now : List (Int × Int)) (c a n : Int) : Prop := ∀ p, (c = 0 → a ≤ p → p < a + n → hasB was p = true ∧ hasB now p = false) ∧ (¬ (c = 0 ∧ a ≤ p ∧ p < a + n) → hasB now p = hasB was p)
/-- Just those have come that were put. -/
def CamePg (now then_ : List (Int × Int)) (c a n : Int) : Prop := ∀ p, (c = 0 → a ≤ p → p < a + n → hasB now p = false ∧ hasB then_ p = true) ∧ (¬ (c = 0 ∧ a ≤ p ∧ p < a + n) → hasB then_ p = hasB now p)
theorem hasB_false {xs : List (Int × Int)} {p : Int} (h : ¬ pg xs p) : hasB xs p = false := by
  cases hb : hasB xs p
  · rfl
  · exact absurd (hasB_iff.1 hb) h
theorem hasB_eq {xs ys : List (Int × Int)} {p : Int} (h : pg xs p ↔ pg ys p) : hasB xs p = hasB ys p := by
  cases hb : hasB ys p
  · exact hasB_false (fun hx => by have := hasB_iff.2 (h.1 hx); rw [hb] at this; cases this)
  · exact hasB_iff.2 (h.2 (hasB_iff.1 hb))
theorem took_pg {s s' : RS} {n a c : Int} (h : s.Ok) (ht : TakeOf s n a c s') : TookPg s.xs s'.xs c a n := by
  intro p
  rcases ht.cases with ⟨rfl, hn, x, hb, rfl, hx, _⟩ | ⟨hc, _, rfl, _⟩
  · have hk := took h.list hn hb.mem hb.long
    have hl := hb.long
    refine ⟨fun _ h1 h2 => ⟨hasB_iff.2 ⟨x, hb.mem, h1, by omega⟩, hasB_false (fun hp => ?_)⟩, fun hno => hasB_eq ?_⟩
    · rw [hx, hk.pages] at hp; exact hp.2 ⟨h1, h2⟩
    · rw [hx, hk.pages]
      exact ⟨fun h3 => h3.1, fun h3 => ⟨h3, fun h4 => hno ⟨rfl, h4.1, h4.2⟩⟩⟩
  · exact ⟨fun h0 => absurd h0 hc, fun _ => rfl⟩
theorem came_pg {s s' : RS} {n a c : Int} (h : s.Ok) (hf : FreeOf s a n c s') : CamePg s.xs s'.xs c a n := by
  intro p
  rcases hf.cases with ⟨rfl, hv, hno, hx, _⟩ | ⟨hc, rfl, _⟩
  · have hk := freed h.list (a := a) (n := n) hv.1 hv.2.1 hv.2.2 hno
    refine ⟨fun _ h1 h2 => ⟨hasB_false (fun hp => ?_), hasB_iff.2 ?_⟩, fun hn2 => hasB_eq ?_⟩
    · obtain ⟨y, hy, hh⟩ := (hits_pg h.list hv.2.1).2 ⟨p, h1, h2, hp⟩
      exact hno y hy hh
    · rw [hx, hk.pages]; exact .inr ⟨h1, h2⟩
    · rw [hx, hk.pages]
      exact ⟨fun h3 => h3.elim id (fun h4 => absurd ⟨rfl, h4.1, h4.2⟩ hn2), .inl⟩
  · exact ⟨fun h0 => absurd h0 hc, fun _ => rfl⟩
set_option maxRecDepth 100000 in
set_option maxHeartbeats 8000000 in
theorem runsPages_law (p : Int) (w0 : (Lit.int .u8 p).wf = true) (a1 : Option Addr) (l1 c1 : Nat) (z1 : List Int) (a2 : Option Addr) (l2 c2 : Nat) (z2 : List Int) (k : Int) (w3 : (Lit.int .u8 k).wf = true) (t : Int) (w4 : (Lit.int .u8 t).wf = true) (w : World) (h1 : IsRow .u8 w a1 l1 c1 z1) (h2 : IsRow .u8 w a2 l2 c2 z2) :
    Calls Try.prog 5 #[.int .u8 p, .slice a1 l1 c1, .slice a2 l2 c2, .int .u8 k, .int .u8 t] w fun e w' => e = .returned (.bool true) ∧ Below w.heap.size w w' := by
  obtain ⟨k0, k1⟩ := bd_u8 w3
  obtain ⟨t0, t1⟩ := bd_u8 w4
  have HSO := Lib.hid (some_any w0 h1 h2)
  obtain ⟨n, hn⟩ : ∃ n, 1 + k % 9 = n := ⟨_, rfl⟩
  have hn1 : 1 ≤ n := by omega
  have hn2 : n ≤ 9 := by omega
  obtain ⟨d, hd⟩ : ∃ d, t % 100 = d := ⟨_, rfl⟩
  have hd1 : 0 ≤ d := by omega
  have hd2 : d ≤ 100 := by omega
  clear h1 h2 w0 w3 w4
  go_enter Try.func5, Try.ntmps5
  go_wp2_with fail
  refine HSO.out.mono ?_
  rintro e v0 ⟨s, rfl, hs, hdn⟩
  have HS := Lib.hid hs
  clear hs
  go_wp2_with fail
  refine (list_any HS.out.is).mono ?_
  rintro e v1 ⟨lv, rfl, hrow, ho1⟩
  have HS1 := Lib.hid (HS.out.keep ho1); have HROW := Lib.hid hrow; have HO1 := Lib.hid ho1
  have hP1 := HS.out.is.ok.P1
  have hP2 := HS.out.is.ok.P2
  clear hrow ho1
  go_wp2_with fail
  refine (take_any HS1.out.is n (by omega)).mono ?_
  rintro e v2 ⟨at_, c, s1, rfl, ht, h2, m2⟩
  have HS2 := Lib.hid (HS1.out.moves h2 m2); have M2 := Lib.hid m2; have hr1 := m2.rb
  have HTP := Lib.hid (took_pg HS.out.is.ok ht)
  have hdn1 : s1.dn ≤ s.dn + 1 := by
    rcases ht.cases with ⟨_, _, x, _, _, _, h, _⟩ | ⟨_, _, e, _⟩
    · exact h
    · rw [e]; omega
  have hat : 0 ≤ at_ ∧ at_ ≤ 4096 := by
    rcases ht.cases with ⟨_, _, x, hb, rfl, _⟩ | ⟨_, rfl, _⟩
    · have := HS.out.is.ok.list.bd x hb.mem; omega
    · omega
  clear h2 m2 ht
  dsimp only
  go_wp2_with fail
  rw [← hr1]
  refine (list_any HS2.out.is).mono ?_
  rintro e v3 ⟨nv, rfl, hrow3, ho3⟩
  have HS3 := Lib.hid (HS2.out.keep ho3); have HROW3 := Lib.hid hrow3; have HO3 := Lib.hid ho3
  have hnW := NodesAt.of_owns (told_kept HS.out.is HROW.out HO1.out (M2.out.behind ho3))
  have hnN := NodesAt.of_owns hrow3
  have HW := Lib.hid (has_at hnW HS.out.is.ok.list ⟨by omega, hP2⟩)
  have HN := Lib.hid (has_at hnN HS2.out.is.ok.list ⟨by have := HS2.out.is.ok.P1; omega, HS2.out.is.ok.P2⟩)
  clear hrow3 ho3 hnW hnN
  have hwa := wrap64_ok (at_ + n) (by omega) (by omega)
  have hwa2 := wrap_ok (at_ + n) (by omega) (by omega)
  have hwd := wrap64_ok (d + n) (by omega) (by omega)
  have hwd2 := wrap_ok (d + n) (by omega) (by omega)
  go_wp2_with fail
  go_loopw [17] (fun i wr => ∃ j m : Nat, j ≤ 101 ∧ i = .int .i64 j ∧ wr = v3.drewN m) (fun i _ => 101 - (intOf i).toNat)
  case atStart => exact ⟨0, 0, Nat.zero_le _, rfl, rfl⟩
  case round =>
    obtain ⟨j, m, hj, rfl, rfl⟩ := hrel
    by_cases hjn : j < 101
    · have hk4 : j < 1000000 := by omega
      have hwk := wrap_succ j hk4
      have hpj := HTP.out (j : Int)
      obtain ⟨b1, hb1⟩ : ∃ b, hasB s1.xs (j : Int) = b := ⟨_, rfl⟩
      obtain ⟨b2, hb2⟩ : ∃ b, hasB s.xs (j : Int) = b := ⟨_, rfl⟩
      have HX := HN.out; have HY := HW.out
      rw [hb1, hb2] at hpj
      by_cases hc : c = 0
      · by_cases g1 : at_ ≤ (j : Int)
        · by_cases g2 : (j : Int) < at_ + n
          · obtain ⟨e2, e1⟩ := hpj.1 hc g1 g2
            subst e1 e2 hc
            have HXc := Lib.hid (fun m' => HN.out m' (j : Int)); have HYc := Lib.hid (fun m' => HW.out m' (j : Int))
            rw [hb1] at HXc
            rw [hb2] at HYc
            clear hpj HX HY hb1 hb2
            go_wp2_with (first
              | (go_at_call 31; (with_reducible refine (HXc.out _).mono ?_); rintro e u1 ⟨rfl, q1, rfl⟩)
              | (go_at_call 31; (with_reducible refine (HYc.out _).mono ?_); rintro e u1 ⟨rfl, q1, rfl⟩))
            all_goals (
              go_roundw
              case rel => exact ⟨j + 1, _, by omega, by simp, rfl⟩
              case measure => simp [intOf]; omega)
          · have hpj := hpj.2 (fun h => g2 h.2.2)
            subst hpj hc
            have HXc := Lib.hid (fun m' => HN.out m' (j : Int)); have HYc := Lib.hid (fun m' => HW.out m' (j : Int))
            rw [hb1] at HXc
            rw [hb2] at HYc
            have g2' : (at_ + n ≤ (j : Int)) := by omega
            clear HX HY hb1 hb2
            go_wp2_with (first
              | (go_at_call 31; (with_reducible refine (HXc.out _).mono ?_); rintro e u1 ⟨rfl, q1, rfl⟩)
              | (go_at_call 31; (with_reducible refine (HYc.out _).mono ?_); rintro e u1 ⟨rfl, q1, rfl⟩))
            all_goals (
              go_roundw
              case rel => exact ⟨j + 1, _, by omega, by simp, rfl⟩
              case measure => simp [intOf]; omega)
        · have hpj := hpj.2 (fun h => g1 h.2.1)
          subst hpj hc
          have HXc := Lib.hid (fun m' => HN.out m' (j : Int)); have HYc := Lib.hid (fun m' => HW.out m' (j : Int))
          rw [hb1] at HXc
          rw [hb2] at HYc
          clear HX HY hb1 hb2
          go_wp2_with (first
            | (go_at_call 31; (with_reducible refine (HXc.out _).mono ?_); rintro e u1 ⟨rfl, q1, rfl⟩)
            | (go_at_call 31; (with_reducible refine (HYc.out _).mono ?_); rintro e u1 ⟨rfl, q1, rfl⟩))
          all_goals (
            go_roundw
            case rel => exact ⟨j + 1, _, by omega, by simp, rfl⟩
            case measure => simp [intOf]; omega)
      · have hpj := hpj.2 (fun h => hc h.1)
        subst hpj
        have hcb : (c == 0) = false := by simpa using hc
        have HXc := Lib.hid (fun m' => HN.out m' (j : Int)); have HYc := Lib.hid (fun m' => HW.out m' (j : Int))
        rw [hb1] at HXc
        rw [hb2] at HYc
        clear HX HY hb1 hb2 hc
        go_wp2_with (first
          | (go_at_call 31; (with_reducible refine (HXc.out _).mono ?_); rintro e u1 ⟨rfl, q1, rfl⟩)
          | (go_at_call 31; (with_reducible refine (HYc.out _).mono ?_); rintro e u1 ⟨rfl, q1, rfl⟩))
        all_goals (
          go_roundw
          case rel => exact ⟨j + 1, _, by omega, by simp, rfl⟩
          case measure => simp [intOf]; omega)
    · obtain rfl : j = 101 := by omega
      go_wp2_with fail
      rw [← hr1]
      refine (free_any (HS3.out.is.adds ((Only.refl _ v3).drewN m)) d n (by omega)).mono ?_
      rintro e v4 ⟨c4, s3, rfl, hf, h4, m4⟩
      have HS4 := Lib.hid ((HS3.out.keep ((Only.refl _ v3).drewN m)).moves h4 m4); have M4 := Lib.hid m4; have hr3 := m4.rb.trans hr1
      have HCP := Lib.hid (came_pg HS2.out.is.ok hf)
      clear hf h4 m4
      go_wp2_with fail
      rw [← hr3]
      refine (list_any HS4.out.is).mono ?_
      rintro e v5 ⟨tv, rfl, hrow5, ho5⟩
      have HO5 := Lib.hid ho5
      have hnT := NodesAt.of_owns hrow5
      have hnN := NodesAt.of_owns (told_kept HS2.out.is HROW3.out HO3.out (Moves.ahead ((Only.refl (fun _ => False) v3).drewN m) (M4.out.behind ho5)))
      have HNT := Lib.hid hnT
      have HT := Lib.hid (has_at hnT HS4.out.is.ok.list ⟨by have := HS4.out.is.ok.P1; omega, HS4.out.is.ok.P2⟩)
      have HN2 := Lib.hid (has_at hnN HS2.out.is.ok.list ⟨by have := HS2.out.is.ok.P1; omega, HS2.out.is.ok.P2⟩)
      clear hrow5 ho5 hnT hnN
      go_wp2_with fail
      go_loopw [22] (fun i wr => ∃ j m : Nat, j ≤ 101 ∧ i = .int .i64 j ∧ wr = v5.drewN m) (fun i _ => 101 - (intOf i).toNat)
      case atStart => exact ⟨0, 0, Nat.zero_le _, rfl, rfl⟩
      case round =>
        obtain ⟨j, m, hj, rfl, rfl⟩ := hrel
        by_cases hjn : j < 101
        · have hk4 : j < 1000000 := by omega
          have hwk := wrap_succ j hk4
          have hpj := HCP.out (j : Int)
          obtain ⟨b1, hb1⟩ : ∃ b, hasB s3.xs (j : Int) = b := ⟨_, rfl⟩
          obtain ⟨b2, hb2⟩ : ∃ b, hasB s1.xs (j : Int) = b := ⟨_, rfl⟩
          have HX := HT.out; have HY := HN2.out
          rw [hb1, hb2] at hpj
          by_cases hc : c4 = 0
          · by_cases g1 : d ≤ (j : Int)
            · by_cases g2 : (j : Int) < d + n
              · obtain ⟨e2, e1⟩ := hpj.1 hc g1 g2
                subst e1 e2 hc
                have HXc := Lib.hid (fun m' => HT.out m' (j : Int)); have HYc := Lib.hid (fun m' => HN2.out m' (j : Int))
                rw [hb1] at HXc
                rw [hb2] at HYc
                clear hpj HX HY hb1 hb2
                go_wp2_with (first
                  | (go_at_call 31; (with_reducible refine (HXc.out _).mono ?_); rintro e u1 ⟨rfl, q1, rfl⟩)
                  | (go_at_call 31; (with_reducible refine (HYc.out _).mono ?_); rintro e u1 ⟨rfl, q1, rfl⟩))
                all_goals (
                  go_roundw
                  case rel => exact ⟨j + 1, _, by omega, by simp, rfl⟩
                  case measure => simp [intOf]; omega)
              · have hpj := hpj.2 (fun h => g2 h.2.2)
                subst hpj hc
                have HXc := Lib.hid (fun m' => HT.out m' (j : Int)); have HYc := Lib.hid (fun m' => HN2.out m' (j : Int))
                rw [hb1] at HXc
                rw [hb2] at HYc
                have g2' : (d + n ≤ (j : Int)) := by omega
                clear HX HY hb1 hb2
                go_wp2_with (first
                  | (go_at_call 31; (with_reducible refine (HXc.out _).mono ?_); rintro e u1 ⟨rfl, q1, rfl⟩)
                  | (go_at_call 31; (with_reducible refine (HYc.out _).mono ?_); rintro e u1 ⟨rfl, q1, rfl⟩))
                all_goals (
                  go_roundw
                  case rel => exact ⟨j + 1, _, by omega, by simp, rfl⟩
                  case measure => simp [intOf]; omega)
            · have hpj := hpj.2 (fun h => g1 h.2.1)
              subst hpj hc
              have HXc := Lib.hid (fun m' => HT.out m' (j : Int)); have HYc := Lib.hid (fun m' => HN2.out m' (j : Int))
              rw [hb1] at HXc
              rw [hb2] at HYc
              clear HX HY hb1 hb2
              go_wp2_with (first
                | (go_at_call 31; (with_reducible refine (HXc.out _).mono ?_); rintro e u1 ⟨rfl, q1, rfl⟩)
                | (go_at_call 31; (with_reducible refine (HYc.out _).mono ?_); rintro e u1 ⟨rfl, q1, rfl⟩))
              all_goals (
                go_roundw
                case rel => exact ⟨j + 1, _, by omega, by simp, rfl⟩
                case measure => simp [intOf]; omega)
          · have hpj := hpj.2 (fun h => hc h.1)
            subst hpj
            have hcb : (c4 == 0) = false := by simpa using hc
            have HXc := Lib.hid (fun m' => HT.out m' (j : Int)); have HYc := Lib.hid (fun m' => HN2.out m' (j : Int))
            rw [hb1] at HXc
            rw [hb2] at HYc
            clear HX HY hb1 hb2 hc
            go_wp2_with (first
              | (go_at_call 31; (with_reducible refine (HXc.out _).mono ?_); rintro e u1 ⟨rfl, q1, rfl⟩)
              | (go_at_call 31; (with_reducible refine (HYc.out _).mono ?_); rintro e u1 ⟨rfl, q1, rfl⟩))
            all_goals (
              go_roundw
              case rel => exact ⟨j + 1, _, by omega, by simp, rfl⟩
              case measure => simp [intOf]; omega)
        · obtain rfl : j = 101 := by omega
          go_wp2_with fail
          refine (right_any (NodesAt.adds HNT.out ((Only.refl _ v5).drewN m)) HS4.out.is.ok.list HS4.out.is.ok.P2 (by have := HS4.out.is.ok.list.len (by have := HS4.out.is.ok.P1; omega); have := HS4.out.is.ok.P2; omega)).mono ?_
          rintro e u2 ⟨rfl, q2, rfl⟩
          go_wp2_with fail
          refine (awake10_any _).mono ?_
          rintro e u3 ⟨rfl, ho9⟩
          go_wp2_with fail
          go_ret
          exact ⟨rfl, (((HS4.out.adds.thenF HO5.out).drewN (m + q2)).thenF ho9).below (Nat.le_refl _) (fun _ _ h => h)⟩
end Go.Proofs.Ytbijbpnhakbeeaa
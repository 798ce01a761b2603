/- RunsBest: its walk. By an AI agent. -/
import Derived.Test.YtbijbpnhakbeeaaRunsSome
namespace Go.Proofs.Ytbijbpnhakbeeaa
open Go.RowKit
set_option maxRecDepth 100000 in
set_option maxHeartbeats 8000000 in
theorem runsBest_law (p : Int) (w0 : (Lit.int .u8 p).wf = true) (a1 : Option Addr) (l1 c1 : Nat) (z1 : List Int) (a2 : Option Addr) (l2 c2 : Nat) (z2 : List Int) (k : Int) (w3 : (Lit.int .u8 k).wf = true) (w : World) (h1 : IsRow .u8 w a1 l1 c1 z1) (h2 : IsRow .u8 w a2 l2 c2 z2) :
    Calls Try.prog 4 #[.int .u8 p, .slice a1 l1 c1, .slice a2 l2 c2, .int .u8 k] w fun e w' => e = .returned (.bool true) ∧ Below w.heap.size w w' := by
  obtain ⟨k0, k1⟩ := bd_u8 w3
  have HSO := Lib.hid (some_any w0 h1 h2)
  obtain ⟨n, hn⟩ : ∃ n, 1 + k % 20 = n := ⟨_, rfl⟩
  have hn1 : 1 ≤ n := by omega
  have hn2 : n ≤ 20 := by omega
  clear h1 h2 w0 w3
  go_enter Try.func4, Try.ntmps4
  go_wp2_with fail
  refine HSO.out.mono ?_
  rintro e v0 ⟨s, rfl, hs, hdn⟩
  have HS := Lib.hid hs
  clear hs
  go_wp2_with fail
  refine (list_any HS.out.is).mono ?_
  rintro e v1 ⟨lv, rfl, hrow, ho1⟩
  have HS1 := Lib.hid (HS.out.keep ho1); have HROW := Lib.hid hrow; have HO1 := Lib.hid ho1
  have hP1 := HS.out.is.ok.P1
  have hP2 := HS.out.is.ok.P2
  have hlen : s.xs.length ≤ 100 := by have := HS.out.is.ok.list.len (by omega); have := HS.out.P; omega
  clear hrow ho1
  go_wp2_with fail
  refine (take_any HS1.out.is n (by omega)).mono ?_
  rintro e v2 ⟨at_, c, s1, rfl, ht, h2, m2⟩
  have HS2 := Lib.hid (HS1.out.moves h2 m2)
  obtain ⟨a, cp, rfl, hv⟩ := NodesAt.of_owns (told_kept HS.out.is HROW.out HO1.out m2)
  have HV := Lib.hid hv
  clear hv h2 m2
  rcases ht.cases with ⟨rfl, _, x, hb, rfl, _⟩ | ⟨hc0, rfl, _, ⟨h9, _⟩ | ⟨_, rfl, hno⟩⟩
  · have HB := Lib.hid hb
    clear ht hb
    obtain ⟨ix, hix⟩ := List.mem_iff_getElem?.1 HB.out.mem
    have hixl := (List.getElem?_eq_some_iff.1 hix).1
    obtain ⟨b, o, rfl, x1, x2⟩ := HV.out ix x hix
    have HIX := Lib.hid hix
    have hlong := HB.out.long
    have hxb := HS.out.is.ok.list.bd x HB.out.mem
    clear hix
    dsimp only
    go_wp2_with fail
    go_loopw [14, 15] (fun lg i wr => ∃ (j m : Nat) (L : Int), j ≤ s.xs.length ∧ i = .int .i64 j ∧ lg = .int .i64 L ∧ wr = v2.drewN m ∧ Hid ((j ≤ ix → 0 ≤ L ∧ L ≤ j) ∧ (ix < j → -1000 ≤ L ∧ L ≤ -1000 + (j - ix - 1)))) (fun _ i _ => s.xs.length - (intOf i).toNat)
    case atStart => exact ⟨0, 0, 0, Nat.zero_le _, rfl, rfl, rfl, Lib.hid ⟨fun _ => by omega, fun h => by omega⟩⟩
    case round =>
      obtain ⟨j, m, L, hj, rfl, rfl, rfl, HL⟩ := hrel
      have hLb : -1000 ≤ L ∧ L ≤ 100 := by
        rcases Nat.lt_or_ge ix j with h | h
        · have := HL.out.2 h; omega
        · have := HL.out.1 h; omega
      by_cases hjn : j < s.xs.length
      · obtain ⟨y, hy⟩ : ∃ y, s.xs[j]? = some y := ⟨_, List.getElem?_eq_getElem hjn⟩
        obtain ⟨b', o', hbb, p1, p2⟩ := HV.out j y hy
        cases hbb
        have hk4 : j < 1000000 := by omega
        have hwk := wrap_succ j hk4
        have hwl := wrap_ok (L + 1) (by omega) (by omega)
        have hwl2 := wrap64_ok (L + 1) (by omega) (by omega)
        have hyb := HS.out.is.ok.list.bd y (List.mem_of_getElem? hy)
        have HY := Lib.hid hy
        clear hy
        by_cases hji : j = ix
        · -- the run that was taken of
          subst hji
          have hyx : y = x := by have := HY.out; rw [HIX.out] at this; cases this; rfl
          subst hyx
          have tl : decide (n ≤ y.2) = true := by simpa using hlong
          have tn : decide (y.2 < n) = false := by simp; omega
          clear hLb HL
          go_wp2_with fail
          go_loopw [16] (fun i wr => ∃ j' m' : Nat, j' ≤ s.xs.length ∧ i = .int .i64 j' ∧ wr = v2.drewN m') (fun i _ => s.xs.length - (intOf i).toNat)
          case atStart => exact ⟨0, m, Nat.zero_le _, rfl, rfl⟩
          case round =>
            obtain ⟨j', m', hj', rfl, rfl⟩ := hrel
            by_cases hjn' : j' < s.xs.length
            · obtain ⟨z, hz⟩ : ∃ z, s.xs[j']? = some z := ⟨_, List.getElem?_eq_getElem hjn'⟩
              obtain ⟨b', o', hbb, r1, r2⟩ := HV.out j' z hz
              cases hbb
              have hk4' : j' < 1000000 := by omega
              have hwk' := wrap_succ j' hk4'
              have hzb := HS.out.is.ok.list.bd z (List.mem_of_getElem? hz)
              have hle := HB.out.least z (List.mem_of_getElem? hz)
              clear hz
              by_cases hz1 : n ≤ z.2
              · have hle := hle hz1
                have s1 : decide (n ≤ z.2) = true := by simpa using hz1
                have s2 : decide (z.2 < y.2) = false := by simp; omega
                by_cases hz2 : z.2 = y.2
                · have s3 : (z.2 == y.2) = true := by simpa using hz2
                  have s4 : decide (z.1 < y.1) = false := by simp; omega
                  clear hle hz1 hz2 hzb hxb hlong
                  go_wp2_with fail
                  go_quiet ((fail))
                  go_wp2_with fail
                  go_roundw
                  case rel => exact ⟨j' + 1, m' + nq, by omega, by simp, by simp [World.drewN, Nat.add_assoc]⟩
                  case measure => simp [intOf]; omega
                · have s3 : (z.2 == y.2) = false := by simpa using hz2
                  clear hle hz1 hz2 hzb hxb hlong
                  go_wp2_with fail
                  go_quiet ((fail))
                  go_wp2_with fail
                  go_roundw
                  case rel => exact ⟨j' + 1, m' + nq, by omega, by simp, by simp [World.drewN, Nat.add_assoc]⟩
                  case measure => simp [intOf]; omega
              · have s1 : decide (n ≤ z.2) = false := by simpa using hz1
                clear hle hz1 hzb hxb hlong
                go_wp2_with fail
                go_quiet ((fail))
                go_wp2_with fail
                go_roundw
                case rel => exact ⟨j' + 1, m' + nq, by omega, by simp, by simp [World.drewN, Nat.add_assoc]⟩
                case measure => simp [intOf]; omega
            · go_wp2_with fail
              go_roundw
              case rel => exact ⟨j + 1, m', -1000, by omega, by simp, rfl, rfl, Lib.hid ⟨fun h => by omega, fun h => by omega⟩⟩
              case measure => simp [intOf]; omega
        · have hne : (y.1 == x.1) = false := by
            have h5 := HS.out.is.ok.list.apart HB.out.mem (List.mem_of_getElem? HY.out)
            simp only [beq_eq_false_iff_ne, ne_eq]
            intro he
            rcases h5 with h5 | h5 | h5
            · subst h5
              obtain ⟨g1, g2⟩ := List.getElem?_eq_some_iff.1 HIX.out
              obtain ⟨g3, g4⟩ := List.getElem?_eq_some_iff.1 HY.out
              have hp := List.pairwise_iff_getElem.1 HS.out.is.ok.list.gap
              rcases Nat.lt_or_gt_of_ne hji with h6 | h6
              · have := hp j ix g3 g1 h6; rw [g2, g4] at this; omega
              · have := hp ix j g1 g3 h6; rw [g2, g4] at this; omega
            · omega
            · omega
          by_cases hny : n ≤ y.2
          · have tn : decide (y.2 < n) = false := by simp; omega
            go_wp2
            go_roundw
            case rel => exact ⟨j + 1, m, L + 1, by omega, by simp, rfl, rfl, Lib.hid ⟨fun h => by have := HL.out.1 (by omega); omega, fun h => by have := HL.out.2 (by omega); omega⟩⟩
            case measure => simp [intOf]; omega
          · go_wp2
            go_roundw
            case rel => exact ⟨j + 1, m, L, by omega, by simp, rfl, rfl, Lib.hid ⟨fun h => by have := HL.out.1 (by omega); omega, fun h => by have := HL.out.2 (by omega); omega⟩⟩
            case measure => simp [intOf]; omega
      · have hL0 : L < 0 := by have := HL.out.2 (by omega); omega
        go_wp2_with fail
        refine (awake10_any _).mono ?_
        rintro e u3 ⟨rfl, ho9⟩
        go_wp2_with fail
        go_ret
        exact ⟨rfl, ((HS2.out.adds.drewN m).thenF ho9).below (Nat.le_refl _) (fun _ _ h => h)⟩
  · omega
  · clear ht hc0
    have HNO := Lib.hid hno
    clear hno
    dsimp only
    go_wp2_with fail
    go_loopw [14, 15] (fun lg i wr => ∃ j : Nat, j ≤ s.xs.length ∧ i = .int .i64 j ∧ lg = .int .i64 0 ∧ wr = v2) (fun _ i _ => s.xs.length - (intOf i).toNat)
    case atStart => exact ⟨0, Nat.zero_le _, rfl, rfl, rfl⟩
    case round =>
      obtain ⟨j, hj, rfl, rfl, rfl⟩ := hrel
      by_cases hjn : j < s.xs.length
      · obtain ⟨y, hy⟩ : ∃ y, s.xs[j]? = some y := ⟨_, List.getElem?_eq_getElem hjn⟩
        obtain ⟨b, o, rfl, p1, p2⟩ := HV.out j y hy
        have hy2 : ¬ n ≤ y.2 := by have := HNO.out y (List.mem_of_getElem? hy); omega
        have hk4 : j < 1000000 := by omega
        have hwk := wrap_succ j hk4
        clear hy
        go_wp2
        go_roundw
        case rel => exact ⟨j + 1, by omega, by simp, rfl, by simp⟩
        case measure => simp [intOf]; omega
      · go_wp2_with fail
        refine (awake10_any _).mono ?_
        rintro e u3 ⟨rfl, ho9⟩
        go_wp2_with fail
        go_ret
        exact ⟨rfl, (HS2.out.adds.thenF ho9).below (Nat.le_refl _) (fun _ _ h => h)⟩
end Go.Proofs.Ytbijbpnhakbeeaa

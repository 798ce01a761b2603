/- RunsBack: its walk. By an AI agent. -/
import Derived.Test.YtbijbpnhakbeeaaRunsSome
namespace Go.Proofs.Ytbijbpnhakbeeaa
open Go.RowKit
/-- What is taken, and put back, leaves the runs. -/
theorem back_law {P n : Int} {xs : List (Int × Int)} (h : RunsOk P xs) {x : Int × Int} (hn : 1 ≤ n) (hb : IsBest n xs x) :
    (0 ≤ x.1 ∧ 1 ≤ n ∧ x.1 + n ≤ P) ∧ (∀ y ∈ nearL (takeL x n xs) x.1 (x.1 + n), ¬ Hits y x.1 n) ∧ freeL x.1 n (takeL x n xs) = xs ∧ tot (takeL x n xs) = tot xs - n ∧ ∃ y ∈ nearL xs x.1 (x.1 + 1), Hits y x.1 1 := by
  have hk := took h hn hb.mem hb.long
  have hx := h.bd x hb.mem
  have hl := hb.long
  have hno : ∀ y ∈ nearL (takeL x n xs) x.1 (x.1 + n), ¬ Hits y x.1 n := fun y hy hh => by
    obtain ⟨p, p1, p2, p3⟩ := (hits_pg hk.ok hn).1 ⟨y, hy, hh⟩
    exact ((hk.pages p).1 p3).2 ⟨p1, p2⟩
  have hf := freed hk.ok (a := x.1) (n := n) (by omega) hn (by omega) hno
  refine ⟨by omega, hno, pg_uniq hf.ok h (fun p => ?_), hk.tots, (hits_pg h (by omega)).2 ⟨x.1, by omega, by omega, x, hb.mem, by omega, by omega⟩⟩
  rw [hf.pages, hk.pages]
  constructor
  · rintro (h1 | h1)
    · exact h1.1
    · exact ⟨x, hb.mem, by omega, by omega⟩
  · intro h1
    by_cases h2 : x.1 ≤ p ∧ p < x.1 + n
    · exact .inr h2
    · exact .inl ⟨h1, h2⟩
set_option maxRecDepth 100000 in
set_option maxHeartbeats 4000000 in
theorem runsBack_law (p : Int) (w0 : (Lit.int .u8 p).wf = true) (a1 : Option Addr) (l1 c1 : Nat) (z1 : List Int) (a2 : Option Addr) (l2 c2 : Nat) (z2 : List Int) (k : Int) (w3 : (Lit.int .u8 k).wf = true) (w : World) (h1 : IsRow .u8 w a1 l1 c1 z1) (h2 : IsRow .u8 w a2 l2 c2 z2) :
    Calls Try.prog 7 #[.int .u8 p, .slice a1 l1 c1, .slice a2 l2 c2, .int .u8 k] w fun e w' => e = .returned (.bool true) ∧ Below w.heap.size w w' := by
  obtain ⟨k0, k1⟩ := bd_u8 w3
  have HSO := Lib.hid (some_any w0 h1 h2)
  obtain ⟨n, hn⟩ : ∃ n, 1 + k % 9 = n := ⟨_, rfl⟩
  have hn1 : 1 ≤ n := by omega
  have hn2 : n ≤ 9 := by omega
  clear h1 h2 w0 w3
  go_enter Try.func7, Try.ntmps7
  go_wp2_with fail
  refine HSO.out.mono ?_
  rintro e v0 ⟨s, rfl, hs, hdn⟩
  have HS := Lib.hid hs
  clear hs
  go_wp2_with fail
  refine (list_any HS.out.is).mono ?_
  rintro e v1 ⟨lv, rfl, hrow, ho1⟩
  have HS1 := Lib.hid (HS.out.keep ho1); have HROW := Lib.hid hrow; have HO1 := Lib.hid ho1
  have htb := tot_le (a := 0) HS.out.is.ok.list (by have := HS.out.is.ok.P1; omega) (by have := HS.out.is.ok.P1; omega) (fun y hy => (HS.out.is.ok.list.bd y hy).1)
  have htb0 := tot_nonneg HS.out.is.ok.list
  have hP2 := HS.out.is.ok.P2
  clear hrow ho1
  go_wp2_with fail
  refine (total_any HS1.out.is).mono ?_
  rintro e v1' ⟨rfl, rfl⟩
  go_wp2_with fail
  refine (take_any HS1.out.is n (by omega)).mono ?_
  rintro e v2 ⟨at_, c, s1, rfl, ht, h2, m2⟩
  have HS2 := Lib.hid (HS1.out.moves h2 m2); have M2 := Lib.hid m2; have hr1 := m2.rb
  clear h2 m2
  rcases ht.cases with ⟨rfl, _, x, hb, rfl, hx1, hd1, _⟩ | ⟨hc0, _, e1, _⟩
  · clear ht
    obtain ⟨hv, hno, hfx, htt, hy⟩ := back_law HS.out.is.ok.list hn1 hb
    rw [← hx1] at hno hfx htt
    have HY := Lib.hid hy; have HNO := Lib.hid hno; have HFX := Lib.hid hfx; have HTT := Lib.hid htt; have HV := Lib.hid hv
    have hwt : wrap64 (tot s.xs - n) = tot s.xs - n := wrap64_ok _ (by omega) (by omega)
    clear hy hno hfx htt hv hb
    go_wp2_with fail
    rw [← hr1]
    refine (total_any HS2.out.is).mono ?_
    rintro e v2' ⟨rfl, rfl⟩
    rw [HTT.out]
    go_wp2_with fail
    rw [← hr1]
    refine (free_any HS2.out.is x.1 n (by omega)).mono ?_
    rintro e v3 ⟨c3, s3, rfl, hf, h3, m3⟩
    have HS3 := Lib.hid (HS2.out.moves h3 m3); have M3 := Lib.hid m3; have hr3 := m3.rb.trans hr1
    rcases hf.cases with ⟨rfl, _, _, hx3, hd3⟩ | ⟨_, _, ⟨h9, _⟩ | ⟨_, ⟨y, hy, hh⟩, _⟩⟩
    rotate_left
    · have := HV.out; have := HS2.out.P; have := HS.out.P; omega
    · exact absurd hh (HNO.out y hy)
    rw [HFX.out] at hx3
    clear hf h3 m3
    go_wp2_with fail
    rw [← hr3]
    refine (drawn_any HS3.out.is).mono ?_
    rintro e v3' ⟨rfl, rfl⟩
    go_wp2_with fail
    rw [← hr3]
    refine (shape_any HS3.out.is).mono ?_
    rintro e v4 ⟨sv, rfl, hrs, ho4⟩
    have hsl : s3.t.size = (s3.t.shape 0).length := (Tr.shape_len 0 s3.t).symm
    rw [hsl] at hrs
    have HRS := Lib.hid hrs; have HO4 := Lib.hid ho4; have HS4 := Lib.hid (HS3.out.keep ho4)
    clear hrs ho4
    go_wp2_with fail
    rw [← hr3]
    refine (free_any HS4.out.is x.1 1 (by omega)).mono ?_
    rintro e v5 ⟨c5, s5, rfl, hf, h5, m5⟩
    have hf' : s5 = s3 ∧ c5 = 4 := by
      rcases hf.cases with ⟨_, _, hno, _⟩ | ⟨_, rfl, ⟨h9, _⟩ | ⟨_, _, rfl⟩⟩
      · obtain ⟨y, hy, hh⟩ := HY.out
        rw [hx3] at hno
        exact absurd hh (hno y hy)
      · have := HV.out; have := HS4.out.P; have := HS.out.P; omega
      · exact ⟨rfl, rfl⟩
    obtain ⟨e5, rfl⟩ := hf'
    rw [e5] at h5 m5
    have HS5 := Lib.hid (HS4.out.moves h5 m5); have M5 := Lib.hid m5
    clear hf h5 m5
    have hsz : (s3.t.shape 0).length < 1000000 := by
      rw [← hsl, HS3.out.is.ok.size]
      have := HS3.out.is.ok.list.len (by have := HS3.out.is.ok.P1; omega); have := HS3.out.is.ok.P2; omega
    have hlz : s.xs.length < 1000000 := by have := HS.out.is.ok.list.len (by have := HS.out.is.ok.P1; omega); omega
    go_wp2_with fail
    rw [← hr3]
    refine (drawn_any HS5.out.is).mono ?_
    rintro e v5' ⟨rfl, rfl⟩
    go_wp2_with fail
    rw [← hr3]
    refine (shape_any HS5.out.is).mono ?_
    rintro e v6 ⟨sv6, rfl, hrs6, ho6⟩
    rw [hsl] at hrs6
    have hn1' := NodesAt.of_owns hrs6
    have hn2' := NodesAt.of_owns (told_kept HS3.out.is HRS.out HO4.out (M5.out.behind ho6))
    have HSN := Lib.hid (sameNodes_any sv6 sv _ _ v6 hn1' hn2' hsz hsz)
    have HO6 := Lib.hid ho6
    clear hrs6 hn1' hn2' ho6
    go_wp2_with fail
    refine HSN.out.mono ?_
    rintro e v7 ⟨rfl, q, rfl⟩
    have HS7 := Lib.hid (HS5.out.keep (HO6.out.drewN q))
    have M7 := Lib.hid (Moves.behind (Moves.trans M2.out (Moves.trans M3.out (Moves.ahead HO4.out M5.out))) (HO6.out.drewN q))
    go_wp2_with fail
    rw [← hr3]
    refine (list_any HS7.out.is).mono ?_
    rintro e v8 ⟨lv8, rfl, hr8, ho8⟩
    rw [hx3] at hr8
    have hn1' := NodesAt.of_owns hr8
    have hn2' := NodesAt.of_owns (told_kept HS.out.is HROW.out HO1.out (M7.out.behind ho8))
    have HSR := Lib.hid (sameRuns_any lv8 lv _ _ v8 hn1' hn2' hlz hlz)
    have HS8 := Lib.hid (HS7.out.keep ho8)
    clear hr8 hn1' hn2' ho8
    go_wp2_with fail
    refine HSR.out.mono ?_
    rintro e v9 ⟨rfl, q9, rfl⟩
    have HS9 := Lib.hid (HS8.out.keep ((Only.refl (fun _ => False) v8).drewN q9))
    go_wp2_with fail
    rw [← hr3]
    refine (total_any HS9.out.is).mono ?_
    rintro e v9' ⟨rfl, rfl⟩
    rw [hx3]
    go_wp2_with fail
    refine (awake10_any _).mono ?_
    rintro e v10 ⟨rfl, ho10⟩
    go_wp2_with fail
    go_ret
    exact ⟨rfl, (HS9.out.adds.thenF ho10).below (Nat.le_refl _) (fun _ _ h => h)⟩
  · have hc : (c == 0) = false := by simpa using hc0
    have hc2 : (c != 0) = true := by simpa using hc0
    have hlz : s.xs.length < 1000000 := by have := HS.out.is.ok.list.len (by have := HS.out.is.ok.P1; omega); omega
    clear ht
    dsimp only
    go_wp2_with fail
    rw [e1] at HS2 M2
    refine (list_any HS2.out.is).mono ?_
    rintro e v8 ⟨lv8, rfl, hr8, ho8⟩
    have hn1' := NodesAt.of_owns hr8
    have hn2' := NodesAt.of_owns (told_kept HS.out.is HROW.out HO1.out (M2.out.behind ho8))
    have HSR := Lib.hid (sameRuns_any lv8 lv _ _ v8 hn1' hn2' hlz hlz)
    have HS8 := Lib.hid (HS2.out.keep ho8)
    clear hr8 hn1' hn2' ho8
    go_wp2_with fail
    refine HSR.out.mono ?_
    rintro e v9 ⟨rfl, q9, rfl⟩
    go_wp2_with fail
    refine (awake10_any _).mono ?_
    rintro e v10 ⟨rfl, ho10⟩
    go_wp2_with fail
    go_ret
    exact ⟨rfl, ((HS8.out.adds.drewN q9).thenF ho10).below (Nat.le_refl _) (fun _ _ h => h)⟩
end Go.Proofs.Ytbijbpnhakbeeaa

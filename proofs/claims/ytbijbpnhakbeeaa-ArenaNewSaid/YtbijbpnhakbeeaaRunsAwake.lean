/- Package runs: the document's example. By an AI agent. -/
import Derived.Test.YtbijbpnhakbeeaaRunsFree
import Derived.Test.YtbijbpnhakbeeaaRunsSame
namespace Go.Proofs.Ytbijbpnhakbeeaa
open Go.RowKit

theorem TakeOf.cases {s s' : RS} {n at_ e : Int} (h : TakeOf s n at_ e s') : (e = 0 ∧ 1 ≤ n ∧ ∃ x, IsBest n s.xs x ∧ at_ = x.1 ∧ s'.xs = takeL x n s.xs ∧ s'.dn ≤ s.dn + 1 ∧ s.dn ≤ s'.dn) ∨
    (e ≠ 0 ∧ at_ = 0 ∧ s' = s ∧ ((n < 1 ∧ e = 1) ∨ (1 ≤ n ∧ e = 3 ∧ ∀ y ∈ s.xs, y.2 < n))) := by
  rcases h with ⟨h1, rfl, rfl, rfl⟩ | ⟨h1, h2, rfl, rfl, rfl⟩ | ⟨h1, x, hx, rfl, rfl, lv, hh⟩
  · exact .inr ⟨by decide, rfl, rfl, .inl ⟨h1, rfl⟩⟩
  · exact .inr ⟨by decide, rfl, rfl, .inr ⟨h1, rfl, h2⟩⟩
  · refine .inl ⟨rfl, h1, x, hx, rfl, ?_⟩
    rcases hh with ⟨h3, rfl⟩ | ⟨h3, nb, lv', rfl⟩
    · refine ⟨?_, Nat.le_succ _, Nat.le_refl _⟩
      unfold takeL; rw [if_neg (by omega)]; rfl
    · refine ⟨?_, Nat.le_refl _, Nat.le_succ _⟩
      unfold takeL; rw [if_pos h3]; rfl
theorem FreeOf.cases {s s' : RS} {a n c : Int} (h : FreeOf s a n c s') : (c = 0 ∧ (0 ≤ a ∧ 1 ≤ n ∧ a + n ≤ s.P) ∧ (∀ y ∈ nearL s.xs a (a + n), ¬ Hits y a n) ∧ s'.xs = freeL a n s.xs ∧ s'.dn = s.dn + 1) ∨
    (c ≠ 0 ∧ s' = s ∧ (((a < 0 ∨ n < 1 ∨ s.P < a ∨ s.P - a < n) ∧ c = 1) ∨ ((0 ≤ a ∧ 1 ≤ n ∧ a + n ≤ s.P) ∧ (∃ y ∈ nearL s.xs a (a + n), Hits y a n) ∧ c = 4))) := by
  rcases h with ⟨h1, rfl, rfl⟩ | ⟨h1, h2, rfl, rfl⟩ | ⟨h1, h2, rfl, s1, nb, lv, hd, rfl⟩
  · exact .inr ⟨by decide, rfl, .inl ⟨h1, rfl⟩⟩
  · exact .inr ⟨by decide, rfl, .inr ⟨h1, h2, rfl⟩⟩
  · refine .inl ⟨rfl, h1, h2, ?_, ?_⟩
    · show insL _ s1.xs = _
      rw [hd.xs]; rfl
    · show s1.dn + 1 = _
      rw [hd.same.1]
theorem best_one {n : Int} {y x : Int × Int} (h : IsBest n [y] x) : x = y := by simpa using h.mem
/-- A row that a call has told, behind calls that turn the runs' own blocks. -/
theorem told_kept {w w1 w2 : World} {s s' : RS} {v : Value} {xs : List (Int × Int)} {e : TypeId} (h : IsRuns w s) (hr : w1.ownsRow w.heap.size e 2 v xs.length (shCells xs)) (ho : Adds w w1) (hm : Moves s s' w1 w2) : w2.ownsRow w.heap.size e 2 v xs.length (shCells xs) :=
  row_only2 hr hm.only (fun g eg hs => by
    have h1 := h.lt g (.inl hs)
    rcases hr.2 with ⟨rfl, _⟩ | ⟨g', cap, cur, rfl, hb, _⟩
    · simp [Value.ownBlock] at eg
    · simp [Value.ownBlock] at eg; omega)
set_option maxRecDepth 100000 in
set_option maxHeartbeats 4000000 in
theorem awake10_any (w : World) : Calls Try.prog 30 #[] w fun e w' => e = .returned (.bool true) ∧ Adds w w' := by
  go_enter Try.func30, Try.ntmps30
  go_wp2_with fail
  refine (new_any 8 (by omega) (by omega) (.inl ⟨rfl, rfl⟩) (by simp)).mono ?_
  rintro e w1 ⟨s0, rfl, h0, hn, ho1, hfr⟩
  have hP0 : s0.P = 8 := hn.eP
  have hd0 : s0.dn = 1 := hn.edn
  have hx0 : s0.xs = [(0, 8)] := hn.exs
  have H0 := Lib.hid h0; have HO1 := Lib.hid ho1; have HFR := Lib.hid hfr
  clear hn h0 ho1 hfr
  go_wp2_with fail
  refine (take_any H0.out 3 (by omega)).mono ?_
  rintro e w2 ⟨a1, c1, s1, rfl, ht, h1, m1⟩
  obtain ⟨rfl, _, x, hb, rfl, hx1, hd1, _⟩ | ⟨_, _, _, h9 | ⟨_, _, h9⟩⟩ := ht.cases
  rotate_left
  · omega
  · have := h9 (0, 8) (by rw [hx0]; simp); simp at this
  rw [hx0] at hb
  obtain rfl := best_one hb
  rw [hx0, show takeL (0, 8) 3 [(0, 8)] = [(3, 5)] by decide] at hx1
  have H1 := Lib.hid h1; have M1 := Lib.hid m1; have hr1 := m1.rb; have hP1 := m1.P
  clear ht h1 m1 hb
  go_wp2_with fail
  rw [← hr1]
  refine (take_any H1.out 2 (by omega)).mono ?_
  rintro e w3 ⟨a2, c2, s2, rfl, ht, h2, m2⟩
  obtain ⟨rfl, _, x, hb, rfl, hx2, hd2, _⟩ | ⟨_, _, _, h9 | ⟨_, _, h9⟩⟩ := ht.cases
  rotate_left
  · omega
  · have := h9 (3, 5) (by rw [hx1]; simp); simp at this
  rw [hx1] at hb
  obtain rfl := best_one hb
  rw [hx1, show takeL (3, 5) 2 [(3, 5)] = [(5, 3)] by decide] at hx2
  have H2 := Lib.hid h2; have M2 := Lib.hid m2; have hr2 := m2.rb.trans hr1; have hP2 := m2.P
  clear ht h2 m2 hb
  go_wp2_with fail
  rw [← hr2]
  refine (free_any H2.out 0 3 (by omega)).mono ?_
  rintro e w4 ⟨c3, s3, rfl, hf, h3, m3⟩
  obtain ⟨rfl, _, _, hx3, hd3⟩ | ⟨_, _, ⟨h9, _⟩ | ⟨_, ⟨y, hy, _⟩, _⟩⟩ := hf.cases
  rotate_left
  · omega
  · rw [hx2, show nearL [(5, 3)] 0 (0 + 3) = [] by decide] at hy; cases hy
  rw [hx2, show freeL 0 3 [(5, 3)] = [(0, 3), (5, 3)] by decide] at hx3
  have H3 := Lib.hid h3; have M3 := Lib.hid m3; have hr3 := m3.rb.trans hr2
  clear hf h3 m3
  go_wp2_with fail
  rw [← hr3]
  refine (list_any H3.out).mono ?_
  rintro e w5 ⟨lv, rfl, hrow, ho5⟩
  have H5 := Lib.hid (H3.out.adds ho5)
  have HO5 := Lib.hid ho5
  rw [hx3] at hrow
  have HROW := Lib.hid hrow
  clear hrow ho5
  go_wp2_with fail
  rw [← hr3]
  refine (take_any H5.out 3 (by omega)).mono ?_
  rintro e w6 ⟨a4, c4, s4, rfl, ht, h4, m4⟩
  obtain ⟨rfl, _, x, hb, rfl, hx4, hd4, _⟩ | ⟨_, _, _, h9 | ⟨_, _, h9⟩⟩ := ht.cases
  rotate_left
  · omega
  · have := h9 (0, 3) (by rw [hx3]; simp); simp at this
  have hx : x = (0, 3) := by
    have h5 := hb.mem
    rw [hx3] at h5
    rcases List.mem_cons.1 h5 with rfl | h5
    · rfl
    · have h6 : x = (5, 3) := by simpa using h5
      have h7 := hb.least (0, 3) (by rw [hx3]; simp) (by simp)
      rw [h6] at h7; simp at h7
  subst hx
  have hna := NodesAt.of_owns (told_kept (xs := [(0, 3), (5, 3)]) H3.out HROW.out HO5.out m4)
  have hal := (Only.refl (fun _ => False) w6).alloc (.cells #[.int .i64 0, .int .i64 3, .int .i64 5, .int .i64 3] 63)
  have hna2 := hna.adds hal
  have hbl := Blk.new w6 #[.int .i64 0, .int .i64 3, .int .i64 5, .int .i64 3] 63
  have hnb : NodesAt (w6.alloc (.cells #[.int .i64 0, .int .i64 3, .int .i64 5, .int .i64 3] 63)) (.slice (some ⟨w6.heap.size, 0, none⟩) 2 2) [(0, 3), (5, 3)] := by
    refine ⟨_, 2, rfl, fun i x hx => ⟨w6.heap.size, 0, rfl, ?_⟩⟩
    match i, hx with
    | 0, hx => simp at hx; subst hx; exact ⟨hbl.cell 0, hbl.cell 1⟩
    | 1, hx => simp at hx; subst hx; exact ⟨hbl.cell 2, hbl.cell 3⟩
  have hsame := sameRuns_any lv _ _ _ _ hna2 hnb (by simp) (by simp)
  have HS := Lib.hid hsame; have M4 := Lib.hid m4; have HAL := Lib.hid hal
  clear hna hna2 hbl hnb hsame hb ht h4 m4 hal
  go_wp2_with (go_at_call 21; refine HS.out.mono ?_; rintro e w7 ⟨rfl, q, rfl⟩)
  go_ret
  have hall : Moves s0 s4 w1 w6 := Moves.trans M1.out (Moves.trans M2.out (Moves.trans M3.out (Moves.ahead HO5.out M4.out)))
  have hA : Adds w w6 := HO1.out.andThen hall.only (fun i hi hy => by have := HFR.out i (.inl hy); omega)
  exact ⟨rfl, (hA.thenF HAL.out).drewN q⟩
end Go.Proofs.Ytbijbpnhakbeeaa

/- The document's free runs: Total, best, Find, at whatever state. By an AI agent. -/
import Derived.Test.YtbijbpnhakbeeaaDocRuns
import Derived.Test.YtbijbpnhakbeeaaRunsOps
import Derived.Test.YtbijbpnhakbeeaaRunsSame
namespace Go.Proofs.Ytbijbpnhakbeeaa
open Go.RowKit
theorem tot_lstN (fr : List Bool) : ∀ i : Nat, tot (lstN fr (i + 1)) = tot (lstN fr i) + (if fr.getD i false then 1 else 0) := fun i => by
  rw [lstN]
  cases hb : fr.getD i false with
  | false => simp [stepL]
  | true =>
    rcases list_snoc (lstN fr i) with he | ⟨ys, x, he⟩
    · rw [he, stepL_nil]; simp [tot]
    · rw [he]
      by_cases hx : x.1 + x.2 = i
      · rw [stepL_join hx, tot_append, tot_append]; simp [tot]; omega
      · rw [stepL_new hx, tot_append (ys ++ [x])]; simp [tot]
theorem tot_lstN_le (fr : List Bool) : ∀ i : Nat, 0 ≤ tot (lstN fr i) ∧ tot (lstN fr i) ≤ i
  | 0 => by simp [lstN, tot]
  | i + 1 => by
    have := tot_lstN_le fr i
    rw [tot_lstN]
    split <;> omega
set_option maxHeartbeats 4000000 in
theorem total9_any {w : World} {s : DS} (h : IsDoc w s) : Calls Try.prog 68 #[.pointer (some ⟨s.rb, 0, none⟩)] w fun e w' => e = .returned (.int .i64 (tot (lstN s.fr s.fr.length))) ∧ w = w' := by
  obtain ⟨P, hP⟩ : ∃ P, s.fr.length = P := ⟨_, rfl⟩
  have hP2 : P ≤ 4096 := hP ▸ h.P2
  have c0 : w.cell? ⟨s.rb, 0, none⟩ = some (.slice (some ⟨s.fb, 0, none⟩) P P) := by rw [← hP]; exact h.blk.cell 0
  have HF := Lib.hid (fun (i : Nat) (hi : i < P) => h.freeCell (i := i) (hP ▸ hi))
  rw [hP]
  clear h hP
  go_enter Try.func68, Try.ntmps68
  go_wp2_with fail
  go_loopw [3, 4] (fun nv iv wr => ∃ k : Nat, ∃ z : Int, iv = .int .i64 k ∧ nv = .int .i64 z ∧ k ≤ P ∧ Hid (z = tot (lstN s.fr k)) ∧ wr = w) (fun _ i _ => P - (intOf i).toNat)
  case atStart => exact ⟨0, 0, rfl, rfl, Nat.zero_le _, Lib.hid rfl, rfl⟩
  case round =>
    obtain ⟨k, z, rfl, rfl, hk, HZ, rfl⟩ := hrel
    have hk4 : k < 1000000 := by omega
    have hwk := wrap_succ k hk4
    have hzb := tot_lstN_le s.fr k
    rw [← HZ.out] at hzb
    by_cases c1 : k < P
    · have d2 := HF.out k c1
      have hts := tot_lstN s.fr k
      rw [← HZ.out] at hts
      cases hb : s.fr.getD k false with
      | false =>
        rw [hb] at d2 hts
        have HTS := Lib.hid hts
        clear hts hb
        go_wp2_with fail
        go_roundw
        case rel => exact ⟨k + 1, z, by simp, by simp, by omega, Lib.hid (by rw [HTS.out]; simp), trivial⟩
        case measure => simp [intOf]; omega
      | true =>
        rw [hb] at d2 hts
        have HTS := Lib.hid hts
        clear hts hb
        have hwz := wrap_ok (z + 1) (by omega) (by omega)
        have hwz2 := wrap64_ok (z + 1) (by omega) (by omega)
        go_wp2_with fail
        go_roundw
        case rel => exact ⟨k + 1, z + 1, by simp, by simp, by omega, Lib.hid (by rw [HTS.out]; simp), trivial⟩
        case measure => simp [intOf]; omega
    · have hkP : k = P := by omega
      subst hkP
      go_wp2_with fail
      go_ret
      exact ⟨by rw [HZ.out]; rfl, rfl⟩
/-- What the document's best tells. -/
def BestL (xs : List (Int × Int)) (n : Int) (x : Int × Int) (ok : Bool) : Prop := (ok = true ∧ IsBest n xs x) ∨ (ok = false ∧ x = (0, 0) ∧ ∀ y ∈ xs, y.2 < n)
theorem bestL_nil (n : Int) : BestL [] n (0, 0) false := .inr ⟨rfl, rfl, fun y hy => by cases hy⟩
theorem bestL_short {ys : List (Int × Int)} {y : Int × Int} {n : Int} {x : Int × Int} {ok : Bool} (h : BestL ys n x ok) (hy : y.2 < n) : BestL (ys ++ [y]) n x ok := by
  rcases h with ⟨h1, h2⟩ | ⟨h1, h2, h3⟩
  · refine .inl ⟨h1, List.mem_append.2 (.inl h2.mem), h2.long, fun z hz hn => ?_⟩
    rcases List.mem_append.1 hz with hz | hz
    · exact h2.least z hz hn
    · rw [List.mem_singleton] at hz; subst hz; omega
  · refine .inr ⟨h1, h2, fun z hz => ?_⟩
    rcases List.mem_append.1 hz with hz | hz
    · exact h3 z hz
    · rw [List.mem_singleton] at hz; subst hz; exact hy
theorem bestL_first {ys : List (Int × Int)} {y : Int × Int} {n : Int} {x : Int × Int} (h : BestL ys n x false) (hy : n ≤ y.2) : BestL (ys ++ [y]) n y true := by
  rcases h with ⟨h1, _⟩ | ⟨_, _, h3⟩
  · cases h1
  · refine .inl ⟨rfl, by simp, hy, fun z hz hn => ?_⟩
    rcases List.mem_append.1 hz with hz | hz
    · have := h3 z hz; omega
    · rw [List.mem_singleton] at hz; subst hz; omega
theorem bestL_less {P : Int} {ys : List (Int × Int)} {y : Int × Int} {n : Int} {x : Int × Int} (hok : RunsOk P (ys ++ [y])) (hP : P ≤ 4096) (h : BestL ys n x true) (hy : n ≤ y.2) (hl : y.2 < x.2) : BestL (ys ++ [y]) n y true := by
  rcases h with ⟨_, h2⟩ | ⟨h1, _⟩
  · refine .inl ⟨rfl, by simp, hy, fun z hz hn => ?_⟩
    rcases List.mem_append.1 hz with hz | hz
    · have := h2.least z hz hn
      have b1 := hok.bd y (by simp)
      have b2 := hok.bd x (List.mem_append.2 (.inl h2.mem))
      omega
    · rw [List.mem_singleton] at hz; subst hz; omega
  · cases h1
theorem bestL_keep {P : Int} {ys : List (Int × Int)} {y : Int × Int} {n : Int} {x : Int × Int} (hok : RunsOk P (ys ++ [y])) (hP : P ≤ 4096) (h : BestL ys n x true) (hl : ¬ y.2 < x.2) : BestL (ys ++ [y]) n x true := by
  rcases h with ⟨_, h2⟩ | ⟨h1, _⟩
  · refine .inl ⟨rfl, List.mem_append.2 (.inl h2.mem), h2.long, fun z hz hn => ?_⟩
    rcases List.mem_append.1 hz with hz | hz
    · exact h2.least z hz hn
    · rw [List.mem_singleton] at hz; subst hz
      have b1 := hok.bd z (by simp)
      have b2 := hok.bd x (List.mem_append.2 (.inl h2.mem))
      have b3 := (List.pairwise_append.1 hok.gap).2.2 x h2.mem z (by simp)
      omega
  · cases h1
def Best9 (xs : List (Int × Int)) (n : Int) (x : Int × Int) (ok : Bool) : Prop := (n < 1 ∧ x = (0, 0) ∧ ok = false) ∨ (1 ≤ n ∧ BestL xs n x ok)
def Best9Post (s : DS) (n : Int) (w : World) (e : Ending) (w' : World) : Prop := (∃ x ok, e = .returned (.tuple #[.agg #[.int .i64 x.1, .int .i64 x.2], .bool ok]) ∧ Best9 (lstN s.fr s.fr.length) n x ok) ∧ Adds w w'
set_option maxRecDepth 100000 in
set_option maxHeartbeats 8000000 in
theorem best9_any {w : World} {s : DS} (h : IsDoc w s) (n : Int) :
    Calls Try.prog 66 #[.pointer (some ⟨s.rb, 0, none⟩), .int .i64 n] w (Best9Post s n w) := by
  obtain ⟨xs, hxs⟩ : ∃ xs, lstN s.fr s.fr.length = xs := ⟨_, rfl⟩
  have hok := (lstN_ok s.fr s.fr.length).1
  have hlen := lstN_len s.fr s.fr.length
  have hP2 := h.P2
  rw [hxs] at hok hlen
  obtain ⟨Z, hZ⟩ : ∃ Z, w.heap.size = Z := ⟨_, rfl⟩
  obtain ⟨W, hW⟩ : ∃ W, w.alloc (.cells #[.int .i64 0, .int .i64 0] 63) = W := ⟨_, rfl⟩
  have hO0 : Adds w W := by rw [← hW]; exact (Only.refl _ w).alloc _
  have hZB : Blk W Z #[.int .i64 0, .int .i64 0] 63 := by rw [← hW, ← hZ]; exact Blk.new w _ _
  have HXS := Lib.hid hxs
  have HLI := Lib.hid (list9_any (h.adds hO0))
  rw [hxs] at HLI
  have HO := Lib.hid hO0; have HZB := Lib.hid hZB; have HOK := Lib.hid hok
  have hZle : w.heap.size ≤ Z := by omega
  have p0 : Value.pointer (some ⟨s.rb, 0, none⟩) ≠ .pointer none := by simp
  clear hO0 hZB h hok hxs
  go_enter Try.func66, Try.ntmps66
  go_wp2_with fail
  refine HLI.out.mono ?_
  rintro e V ⟨v, rfl, hr, ho⟩
  have hl := NodesAt.of_owns hr
  have HV := Lib.hid ho
  have hZV := HZB.out.only ho id
  have HZV := Lib.hid hZV
  obtain ⟨la, lc, rfl, hl⟩ := hl
  have HL := Lib.hid hl
  obtain ⟨m, hm⟩ : ∃ m, xs.length = m := ⟨_, rfl⟩
  have hlen' : m ≤ 4096 := by omega
  have HM := Lib.hid hm
  rw [hm]
  clear hr hl ho hZV hm hlen
  go_wp2_with fail
  obtain ⟨B, hB⟩ : ∃ B, V.heap.size = B := ⟨_, rfl⟩
  obtain ⟨U, hU⟩ : ∃ U, V.alloc (.cells #[.int .i64 0, .int .i64 0] 63) = U := ⟨_, rfl⟩
  have hUB : Blk U B #[.int .i64 0, .int .i64 0] 63 := by rw [← hU, ← hB]; exact Blk.new V _ _
  have hUO : Adds V U := by rw [← hU]; exact (Only.refl _ V).alloc _
  have HUB := Lib.hid hUB; have HUO := Lib.hid hUO; have HBV := Lib.hid hB
  rw [hU, hB]
  clear hUB hUO hU hB
  go_loopw [8, 9] (fun ov iv wr => ∃ (k : Nat) (x1 x2 : Int) (ok : Bool), iv = .int .i64 k ∧ ov = .bool ok ∧ k ≤ m ∧ Hid (BestL (xs.take k) n (x1, x2) ok) ∧ Hid (n < 1 → (x1, x2) = ((0 : Int), (0 : Int)) ∧ ok = false) ∧ Hid (Blk wr B #[.int .i64 x1, .int .i64 x2] 63) ∧ Hid (Only (· = B) U wr)) (fun _ i _ => m - (intOf i).toNat)
  case atStart => exact ⟨0, 0, 0, false, rfl, rfl, Nat.zero_le _, Lib.hid (bestL_nil n), Lib.hid (fun _ => ⟨rfl, rfl⟩), HUB, Lib.hid (Only.refl _ _)⟩
  case round =>
    obtain ⟨k, x1, x2, ok, rfl, rfl, hk, HBS, HKZ, HX, HOW⟩ := hrel
    have hk4 : k < 1000000 := by omega
    have hwk := wrap_succ k hk4
    have b0 := HX.out.cell 0; have b1 := HX.out.cell 1; have f0 := HX.out.frozen 0; have f1 := HX.out.frozen 1
    have hAV : Adds V wr := HUO.out.andThen HOW.out (fun i hi e => by have := HBV.out; omega)
    have hZw := HZV.out.only hAV id
    have z0 := hZw.cell 0; have z1 := hZw.cell 1; have fz0 := hZw.frozen 0; have fz1 := hZw.frozen 1
    clear hZw
    by_cases hn : 1 ≤ n
    · by_cases hkm : k < m
      · obtain ⟨y, hy⟩ : ∃ y, xs[k]? = some y := ⟨_, List.getElem?_eq_getElem (HM.out ▸ hkm)⟩
        obtain ⟨b, off, rfl, e0, e1⟩ := HL.out k y hy
        have hbB : b ≠ B := by
          have h9 := cell_lt e0
          have h8 := HBV.out
          intro e
          have h7 : b < V.heap.size := h9
          omega
        have e0 := (HOW.out.cellF (p := ⟨b, _, none⟩) (cell_lt (cell_al e0 HUO.out)) hbB).trans (cell_al e0 HUO.out)
        have e1 := (HOW.out.cellF (p := ⟨b, _, none⟩) (cell_lt (cell_al e1 HUO.out)) hbB).trans (cell_al e1 HUO.out)
        have htk : xs.take (k + 1) = xs.take k ++ [y] := by rw [List.take_add_one, hy]; rfl
        have hokk : RunsOk s.fr.length (xs.take k ++ [y]) := by rw [← htk]; exact HOK.out.sub (List.take_sublist _ _)
        have HTK := Lib.hid htk; have HKK := Lib.hid hokk
        clear htk hokk hy
        obtain ⟨y1, y2⟩ := y
        simp only at e0 e1
        by_cases h1 : n ≤ y2
        · cases ok with
          | false =>
            go_wp2_with fail
            go_quiet ((fail))
            go_wp2_with fail
            go_roundw
            case rel => exact ⟨k + 1, y1, y2, true, by simp, rfl, by omega, Lib.hid (by rw [HTK.out]; exact bestL_first HBS.out h1), Lib.hid (fun h => absurd hn (by omega)), Lib.hid (((HX.out.only ((Only.refl (fun _ => False) _).drewN nq) id).setCell 0 (.int .i64 y1)).setCell 1 (.int .i64 y2)), Lib.hid (((HOW.out.drewN nq).setCell (p := ⟨B, 0, none⟩) (.inl rfl) _).setCell (p := ⟨B, 1, none⟩) (.inl rfl) _)⟩
            case measure => simp [intOf]; omega
          | true =>
            by_cases h2 : y2 < x2
            · go_wp2_with fail
              go_quiet ((fail))
              go_wp2_with fail
              go_roundw
              case rel => exact ⟨k + 1, y1, y2, true, by simp, rfl, by omega, Lib.hid (by rw [HTK.out]; exact bestL_less HKK.out (by omega) HBS.out h1 h2), Lib.hid (fun h => absurd hn (by omega)), Lib.hid (((HX.out.only ((Only.refl (fun _ => False) _).drewN nq) id).setCell 0 (.int .i64 y1)).setCell 1 (.int .i64 y2)), Lib.hid (((HOW.out.drewN nq).setCell (p := ⟨B, 0, none⟩) (.inl rfl) _).setCell (p := ⟨B, 1, none⟩) (.inl rfl) _)⟩
              case measure => simp [intOf]; omega
            · have t2 : decide (y2 < x2) = false := by simpa using h2
              go_wp2_with fail
              go_quiet ((fail))
              go_wp2_with fail
              go_roundw
              case rel => exact ⟨k + 1, x1, x2, true, by simp, rfl, by omega, Lib.hid (by rw [HTK.out]; exact bestL_keep HKK.out (by omega) HBS.out (by simp only; omega)), Lib.hid (fun h => absurd hn (by omega)), Lib.hid (HX.out.only ((Only.refl (fun _ => False) _).drewN nq) id), Lib.hid (HOW.out.drewN nq)⟩
              case measure => simp [intOf]; omega
        · have t1 : decide (n ≤ y2) = false := by simpa using h1
          go_wp2_with fail
          go_quiet ((fail))
          go_wp2_with fail
          go_roundw
          case rel => exact ⟨k + 1, x1, x2, ok, by simp, rfl, by omega, Lib.hid (by rw [HTK.out]; exact bestL_short HBS.out (by simp only; omega)), Lib.hid (fun h => absurd hn (by omega)), Lib.hid (HX.out.only ((Only.refl (fun _ => False) _).drewN nq) id), Lib.hid (HOW.out.drewN nq)⟩
          case measure => simp [intOf]; omega
      · have hbl : Best9 xs n (x1, x2) ok := .inr ⟨hn, by have h9 := HBS.out; rwa [List.take_of_length_le (by have := HM.out; omega)] at h9⟩
        go_wp2_with fail
        obtain ⟨e0, e1, hA⟩ := set2_end (p := x1) (q := x2) HO.out HZB.out hZle (HV.out.thenF hAV)
        exact bodyPost_ret (v := .tuple #[.agg #[.int .i64 x1, .int .i64 x2], .bool ok]) (by simp [e0, e1, results, Try.results66, go_sem]) rfl ⟨⟨(x1, x2), ok, rfl, by rw [HXS.out]; exact hbl⟩, hA⟩
    · have hbl : Best9 xs n (x1, x2) ok := .inl ⟨by omega, HKZ.out (by omega)⟩
      go_wp2_with fail
      all_goals
        obtain ⟨e0, e1, hA⟩ := set2_end (p := x1) (q := x2) HO.out HZB.out hZle (HV.out.thenF hAV)
        exact bodyPost_ret (v := .tuple #[.agg #[.int .i64 x1, .int .i64 x2], .bool ok]) (by simp [e0, e1, results, Try.results66, go_sem]) rfl ⟨⟨(x1, x2), ok, rfl, by rw [HXS.out]; exact hbl⟩, hA⟩
set_option maxHeartbeats 1000000 in
theorem find9_any {w : World} {s : DS} (h : IsDoc w s) (n : Int) :
    Calls Try.prog 43 #[.pointer (some ⟨s.rb, 0, none⟩), .int .i64 n] w fun e w' => (∃ x ok, e = .returned (.tuple #[.int .i64 x.1, .bool ok]) ∧ Best9 (lstN s.fr s.fr.length) n x ok) ∧ Adds w w' := by
  have HB := Lib.hid (best9_any h n)
  clear h
  go_enter Try.func43, Try.ntmps43
  go_wp2_with (go_at_call 66; refine HB.out.mono ?_; rintro e w1 ⟨⟨x, ok, rfl, hb⟩, ho⟩)
  go_ret2
  exact ⟨⟨x, ok, rfl, hb⟩, ho.thenF ((Only.refl _ w1).alloc _)⟩
end Go.Proofs.Ytbijbpnhakbeeaa

/- Some: runs by numbers. By an AI agent. -/
import Derived.Test.YtbijbpnhakbeeaaRunsDraws
namespace Go.Proofs.Ytbijbpnhakbeeaa
open Go.RowKit
theorem wrap_two (k : Nat) (h : k < 1000000) : IntKind.i64.wrap ((k : Int) + 2) = (k : Int) + 2 := by rw [IntKind.wrap_i64]; omega
/-- Runs that a call has made: new since w. -/
structure SomeRuns (w w' : World) (P : Int) (s : RS) : Prop where
  is : IsRuns w' s
  P : s.P = P
  adds : Adds w w'
  new : ∀ y, s.all y → w.heap.size ≤ y
theorem SomeRuns.moves {w w1 w2 : World} {P : Int} {s s' : RS} (h : SomeRuns w w1 P s) (hi : IsRuns w2 s') (m : Moves s s' w1 w2) : SomeRuns w w2 P s' :=
  ⟨hi, m.P.trans h.P, h.adds.andThen m.only (fun i hi hy => by have := h.new i (.inl hy); omega), fun y hy => (m.all y hy).elim (h.new y) (fun h2 => Nat.le_trans h.adds.size h2)⟩
theorem SomeRuns.keep {w w1 w2 : World} {P : Int} {s : RS} (h : SomeRuns w w1 P s) (ho : Adds w1 w2) : SomeRuns w w2 P s := ⟨h.is.adds ho, h.P, h.adds.thenF ho, h.new⟩
set_option maxRecDepth 100000 in
set_option maxHeartbeats 1000000 in
theorem some_any {w : World} {p : Int} (hp : (Lit.int .u8 p).wf = true) {a1 : Option Addr} {l1 c1 : Nat} {z1 : List Int} (h1 : IsRow .u8 w a1 l1 c1 z1) {a2 : Option Addr} {l2 c2 : Nat} {z2 : List Int} (h2 : IsRow .u8 w a2 l2 c2 z2) :
    Calls Try.prog 28 #[.int .u8 p, .slice a1 l1 c1, .slice a2 l2 c2] w fun e w' => ∃ s, e = .returned (.pointer (some ⟨s.rb, 0, none⟩)) ∧ SomeRuns w w' (1 + p % 100) s ∧ s.dn ≤ 110 := by
  obtain ⟨p0, p1⟩ := bd_u8 hp
  have HD := Lib.hid (draws_any h1)
  have HZ := Lib.hid h2
  obtain ⟨hlc, hc63⟩ := rows_len h2
  have hpm : p.tmod 100 = p % 100 := Int.tmod_eq_emod_of_nonneg p0
  obtain ⟨P, hP⟩ : ∃ P, 1 + p % 100 = P := ⟨_, rfl⟩
  have hP1 : 1 ≤ P := by omega
  have hP2 : P ≤ 100 := by omega
  have hPz : P ≠ 0 := by omega
  clear h1 h2 hp
  rw [hP]
  go_enter Try.func28, Try.ntmps28
  go_wp2_with (go_at_call 35; refine HD.out.mono ?_; rintro e w1 ⟨dv, rfl, ⟨n, hn, hrow⟩, ho1⟩)
  obtain ⟨ds, hds⟩ : ∃ ds, (List.range (min l1 60)).map (fun i => drawZ (z1.getD i 0)) = ds := ⟨_, rfl⟩
  rw [hds] at hrow
  have hdl : ds.length ≤ 60 := by have := hrow.1; simp at this; omega
  refine (new_any P hP1 (by omega) (Draws.row hrow) (by omega)).mono ?_
  rintro e w2 ⟨s0, rfl, h0, hn0, ho2, hfr⟩
  have hd0 : s0.dn = 1 := hn0.edn
  have HS0 := Lib.hid (show SomeRuns w w2 P s0 from ⟨h0, hn0.eP, ho1.thenF ho2, fun y hy => Nat.le_trans ho1.size (hfr y hy)⟩)
  clear hrow h0 hn0 ho2 hfr ho1 hds hdl hn
  go_wp2_with fail
  go_loopg [9] 102 (fun kx v wr => ∃ (k : Nat) (s : RS), v = .int .i64 k ∧ k ≤ 101 ∧ 101 - k ≤ kx ∧ Hid (SomeRuns w wr P s) ∧ s.rb = s0.rb ∧ s.dn ≤ 1 + k)
  case atStart => exact ⟨0, s0, rfl, by omega, by omega, HS0, rfl, by omega⟩
  case round =>
    obtain ⟨k, s, rfl, hk, hkx, HS, hrb, hdn⟩ := hrel
    have hk4 : k < 1000000 := by omega
    have hw1 := wrap_succ k hk4
    have hw3 := wrap_two k hk4
    rw [← hrb]
    by_cases g1 : k + 1 < l2
    · by_cases g2 : k < 100
      · obtain ⟨b, off, rfl, hb, hc, hcw⟩ := rows_at HZ.out (show k < l2 by omega)
        obtain ⟨b', off', hbb, hb', hc', hcw'⟩ := rows_at HZ.out g1
        cases hbb
        obtain ⟨z, hx⟩ : ∃ z, z = z2.getD k 0 := ⟨_, rfl⟩
        obtain ⟨y, hy⟩ : ∃ y, y = z2.getD (k + 1) 0 := ⟨_, rfl⟩
        rw [← hx] at hc hcw
        rw [← hy] at hc' hcw'
        have d0 := cell_al hc HS.out.adds
        have d1 := cell_al hc' HS.out.adds
        obtain ⟨hz1', hz2'⟩ := bd_u8 hcw
        obtain ⟨hy1', hy2'⟩ := bd_u8 hcw'
        have hi4 : (k : Int) < (l2 : Int) := by omega
        have hi5 : k < l2 := by omega
        have hi1 : (0 : Int) ≤ (k : Int) + 1 := by omega
        have hi2 : (k : Int) + 1 < (l2 : Int) := by omega
        have hi3 : ((k : Int) + 1).toNat = k + 1 := by omega
        clear hx hy hcw hcw'
        by_cases g3 : 0 < z % 3
        · go_wp2_with fail
          rw [← hrb]
          refine (take_any HS.out.is _ (by omega)).mono ?_
          rintro e w3 ⟨at_, c, s', rfl, ht, h3, m3⟩
          have hd3 : s'.dn ≤ s.dn + 1 := by
            rcases ht.cases with ⟨_, _, x, _, _, _, h, _⟩ | ⟨_, _, rfl, _⟩
            · exact h
            · omega
          have HS3 := Lib.hid (HS.out.moves h3 m3)
          have hr3 := m3.rb.trans hrb
          clear h3 m3 ht
          go_wp2_with fail
          go_roundg (101 - (k + 2))
          case measure => omega
          case rel => exact ⟨k + 2, s', by simp, by omega, Nat.le_refl _, HS3, hr3, by omega⟩
        · go_wp2_with fail
          refine wp_region_held_drew (S := (fun W' => W'.cell? ⟨b, off + k, none⟩ = some (.int .u8 z) ∧ W'.cell? ⟨b, off + (k + 1), none⟩ = some (.int .u8 y))) (by kernel_rfl) ⟨d0, d1⟩ (fun hHeld => ?_)
          refine wpAnyH_take (i := 0) (v := (.pointer (some ⟨s0.rb, 0, none⟩))) rfl (by kernel_rfl) (by kernel_rfl) (by kernel_rfl) (fun _ _ _ h => h) (Or.inl ⟨by rfl, fun W hS => by first | rfl | (go_simp; done)⟩) hHeld ?_
          try simp only [Act.put, List.getElem_toArray, List.getElem_cons_succ, List.getElem_cons_zero, List.setIfInBounds_toArray, List.set_cons_zero, List.set_cons_succ]
          refine wpAnyH_take (i := 1) (v := (.slice (some ⟨b, off, none⟩) l2 c2)) rfl (by kernel_rfl) (by kernel_rfl) (by kernel_rfl) (fun _ _ _ h => h) (Or.inl ⟨by rfl, fun W hS => by first | rfl | (go_simp; done)⟩) hHeld ?_
          try simp only [Act.put, List.getElem_toArray, List.getElem_cons_succ, List.getElem_cons_zero, List.setIfInBounds_toArray, List.set_cons_zero, List.set_cons_succ]
          refine wpAnyH_take (i := 2) (v := ?v2) rfl (by kernel_rfl) (by kernel_rfl) (by kernel_rfl) (fun _ _ _ h => h) (Or.inl ⟨by rfl, ?y2⟩) hHeld ?r2
          case y2 => (intro W hS; go_simp; try with_reducible rfl)
          try simp only [Act.put, List.getElem_toArray, List.getElem_cons_succ, List.getElem_cons_zero, List.setIfInBounds_toArray, List.set_cons_zero, List.set_cons_succ]
          refine wpAnyH_take (i := 3) (v := ?v3) rfl (by kernel_rfl) (by kernel_rfl) (by kernel_rfl) (fun _ _ _ h => h) (Or.inl ⟨by rfl, ?y3⟩) hHeld ?r3
          case y3 => (intro W hS; go_simp; try with_reducible rfl)
          try simp only [Act.put, List.getElem_toArray, List.getElem_cons_succ, List.getElem_cons_zero, List.setIfInBounds_toArray, List.set_cons_zero, List.set_cons_succ]
          refine wpAnyH_take (i := 4) (v := (.pointer (some ⟨b, off + (k + 1), none⟩))) rfl (by kernel_rfl) (by kernel_rfl) (by kernel_rfl) (fun _ _ _ h => h) (Or.inl ⟨by rfl, fun W hS => by (go_simp; done)⟩) hHeld ?_
          try simp only [Act.put, List.getElem_toArray, List.getElem_cons_succ, List.getElem_cons_zero, List.setIfInBounds_toArray, List.set_cons_zero, List.set_cons_succ]
          refine wpAnyH_take (i := 5) (v := (.int .u8 y)) rfl (by kernel_rfl) (by kernel_rfl) (by kernel_rfl) (fun _ _ _ h => h) (Or.inl ⟨by rfl, fun W hS => by (obtain ⟨q1, q2⟩ := hS; go_simp; done)⟩) hHeld ?_
          try simp only [Act.put, List.getElem_toArray, List.getElem_cons_succ, List.getElem_cons_zero, List.setIfInBounds_toArray, List.set_cons_zero, List.set_cons_succ]
          refine wpAnyH_take (i := 6) (v := ?v6) rfl (by kernel_rfl) (by kernel_rfl) (by kernel_rfl) (fun _ _ _ h => h) (Or.inl ⟨by rfl, ?y6⟩) hHeld ?r6
          case y6 => (intro W hS; go_simp; try with_reducible rfl)
          try simp only [Act.put, List.getElem_toArray, List.getElem_cons_succ, List.getElem_cons_zero, List.setIfInBounds_toArray, List.set_cons_zero, List.set_cons_succ]
          refine wpAnyH_take (i := 7) (v := (.int .i64 P)) rfl (by kernel_rfl) (by kernel_rfl) (by kernel_rfl) (fun _ _ _ h => h) (Or.inl ⟨by rfl, fun W hS => by first | rfl | (go_simp; done)⟩) hHeld ?_
          try simp only [Act.put, List.getElem_toArray, List.getElem_cons_succ, List.getElem_cons_zero, List.setIfInBounds_toArray, List.set_cons_zero, List.set_cons_succ]
          refine wpAnyH_take (i := 8) (v := ?v8) rfl (by kernel_rfl) (by kernel_rfl) (by kernel_rfl) (fun _ _ _ h => h) (Or.inl ⟨by rfl, ?y8⟩) hHeld ?r8
          case y8 => (intro W hS; go_simp; try with_reducible rfl)
          try simp only [Act.put, List.getElem_toArray, List.getElem_cons_succ, List.getElem_cons_zero, List.setIfInBounds_toArray, List.set_cons_zero, List.set_cons_succ]
          refine wpAnyH_take (i := 9) (v := (.slice (some ⟨b, off, none⟩) l2 c2)) rfl (by kernel_rfl) (by kernel_rfl) (by kernel_rfl) (fun _ _ _ h => h) (Or.inl ⟨by rfl, fun W hS => by first | rfl | (go_simp; done)⟩) hHeld ?_
          try simp only [Act.put, List.getElem_toArray, List.getElem_cons_succ, List.getElem_cons_zero, List.setIfInBounds_toArray, List.set_cons_zero, List.set_cons_succ]
          refine wpAnyH_take (i := 10) (v := ?v10) rfl (by kernel_rfl) (by kernel_rfl) (by kernel_rfl) (fun _ _ _ h => h) (Or.inl ⟨by rfl, ?y10⟩) hHeld ?r10
          case y10 => (intro W hS; go_simp; try with_reducible rfl)
          try simp only [Act.put, List.getElem_toArray, List.getElem_cons_succ, List.getElem_cons_zero, List.setIfInBounds_toArray, List.set_cons_zero, List.set_cons_succ]
          refine wpAnyH_take (i := 11) (v := (.pointer (some ⟨b, off + k, none⟩))) rfl (by kernel_rfl) (by kernel_rfl) (by kernel_rfl) (fun _ _ _ h => h) (Or.inl ⟨by rfl, fun W hS => by (go_simp; done)⟩) hHeld ?_
          try simp only [Act.put, List.getElem_toArray, List.getElem_cons_succ, List.getElem_cons_zero, List.setIfInBounds_toArray, List.set_cons_zero, List.set_cons_succ]
          refine wpAnyH_take (i := 12) (v := (.int .u8 z)) rfl (by kernel_rfl) (by kernel_rfl) (by kernel_rfl) (fun _ _ _ h => h) (Or.inl ⟨by rfl, fun W hS => by (obtain ⟨q1, q2⟩ := hS; go_simp; done)⟩) hHeld ?_
          try simp only [Act.put, List.getElem_toArray, List.getElem_cons_succ, List.getElem_cons_zero, List.setIfInBounds_toArray, List.set_cons_zero, List.set_cons_succ]
          refine wpAnyH_take (i := 13) (v := ?v13) rfl (by kernel_rfl) (by kernel_rfl) (by kernel_rfl) (fun _ _ _ h => h) (Or.inl ⟨by rfl, ?y13⟩) hHeld ?r13
          case y13 => (intro W hS; go_simp; try with_reducible rfl)
          try simp only [Act.put, List.getElem_toArray, List.getElem_cons_succ, List.getElem_cons_zero, List.setIfInBounds_toArray, List.set_cons_zero, List.set_cons_succ]
          refine wpAnyH_take (i := 14) (v := ?v14) rfl (by kernel_rfl) (by kernel_rfl) (by kernel_rfl) (fun _ _ _ h => h) (Or.inl ⟨by rfl, ?y14⟩) hHeld ?r14
          case y14 => (intro W hS; go_simp; try with_reducible rfl)
          try simp only [Act.put, List.getElem_toArray, List.getElem_cons_succ, List.getElem_cons_zero, List.setIfInBounds_toArray, List.set_cons_zero, List.set_cons_succ]
          refine wpAnyH_take (i := 15) (v := ?v15) rfl (by kernel_rfl) (by kernel_rfl) (by kernel_rfl) (fun _ _ _ h => h) (Or.inl ⟨by rfl, ?y15⟩) hHeld ?r15
          case y15 => (intro W hS; go_simp; try with_reducible rfl)
          try simp only [Act.put, List.getElem_toArray, List.getElem_cons_succ, List.getElem_cons_zero, List.setIfInBounds_toArray, List.set_cons_zero, List.set_cons_succ]
          refine wpAnyH_ready (rs := [16]) (by kernel_rfl) (by simp) (AllReadyH.cons rfl (fun K hK => ?_) AllReadyH.nil)
          simp only [List.getElem_toArray, List.getElem_cons_succ, List.getElem_cons_zero]
          go_simp
          rw [← hrb]
          refine (free_any (HS.out.is.adds ((Only.refl (fun _ => False) wr).drew)) _ _ (by omega)).mono ?_
          rintro e w3 ⟨c, s', rfl, ht, h3, m3⟩
          have hmm : Moves s s' wr w3 := Moves.ahead (show Adds wr wr.drew from (Only.refl _ wr).drew) m3
          have hss := HS.out.moves h3 hmm
          refine hK.out _ _ ⟨cell_al hc hss.adds, cell_al hc' hss.adds⟩ (fun hHeld => ?_)
          clear hK K
          try simp only [Act.put, List.getElem_toArray, List.getElem_cons_succ, List.getElem_cons_zero, List.setIfInBounds_toArray, List.set_cons_zero, List.set_cons_succ]
          refine wpAnyH_done (by kernel_rfl) ?_ _
          have hd3 : s'.dn ≤ s.dn + 1 := by
            rcases ht.cases with ⟨_, _, _, _, h⟩ | ⟨_, rfl, _⟩
            · omega
            · omega
          have HS3 := Lib.hid hss
          have hr3 := m3.rb.trans hrb
          clear h3 m3 ht hmm hss
          go_wp2_with fail
          rw [hrb]
          go_roundg (101 - (k + 2))
          case measure => omega
          case rel => exact ⟨k + 2, s', by simp, by omega, Nat.le_refl _, HS3, hr3, by omega⟩
      · go_wp2_with fail
        go_ret
        exact ⟨s, by rw [hrb]; rfl, HS.out, by omega⟩
    · go_wp2_with fail
      go_ret
      exact ⟨s, by rw [hrb]; rfl, HS.out, by omega⟩
end Go.Proofs.Ytbijbpnhakbeeaa

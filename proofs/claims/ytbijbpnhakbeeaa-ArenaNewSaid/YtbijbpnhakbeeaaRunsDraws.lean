/- draws: by numbers. By an AI agent. -/
import Derived.Deep.LoopGhost
import Derived.Test.YtbijbpnhakbeeaaRunsAwake
import Derived.Test.YtbijbpnhakbeeaaRowAt
namespace Go.Proofs.Ytbijbpnhakbeeaa
open Go.RowKit
def drawZ (z : Int) : Int := IntKind.u32.wrap (IntKind.u32.wrap (z.tmod 9) * 2 ^ min (z.tmod 25).toNat 32)
theorem row_snoc {w w1 : World} {base n : Nat} {v : Value} {e : TypeId} {xs : List Value} (hr : w.ownsRow base e 1 v n xs) (hb : base ≤ w.heap.size) (o : Obj) (hg : (w.alloc o).grownBy w1 v.ownBlock) : ∀ {u : World}, Adds u w → base = u.heap.size → Adds u w1 := fun {u} hu hbe => by
  have h1 : Adds u (w.alloc o) := hu.alloc o
  refine ⟨hg.os.trans h1.os, hg.tape.trans h1.tape, hg.output.trans h1.output, Nat.le_trans h1.size hg.size, fun k hk _ => (hg.block k (Nat.lt_of_lt_of_le hk h1.size) (fun e => ?_)).trans (h1.block k hk id)⟩
  rcases hr.2 with ⟨rfl, _⟩ | ⟨g, cap, cur, rfl, hbg, _⟩
  · simp [Value.ownBlock] at e
  · simp [Value.ownBlock] at e; omega
set_option maxRecDepth 100000 in
set_option maxHeartbeats 4000000 in
theorem draws_any {w : World} {a0 : Option Addr} {len cap : Nat} {zs : List Int} (hz : IsRow .u8 w a0 len cap zs) :
    Calls Try.prog 35 #[.slice a0 len cap] w fun e w' => ∃ v, e = .returned v ∧ (∃ n, n ≤ 60 ∧ w'.ownsRow w.heap.size 113 1 v n ((((List.range (min len 60)).map fun i => drawZ (zs.getD i 0))).map (.int .u32))) ∧ Adds w w' := by
  obtain ⟨i0, hi, hz0, hz1, hz2⟩ := info_parts infoU32R
  have HZ := Lib.hid hz
  obtain ⟨hlc, hc63⟩ := rows_len hz
  clear hz
  go_enter Try.func35, Try.ntmps35
  go_wp2_with fail
  go_loopg [3, 4] 60 (fun kx lv iv wr => ∃ k : Nat, iv = .int .i64 k ∧ k ≤ len ∧ k ≤ 60 ∧ 60 - k ≤ kx ∧ Hid (wr.ownsRow w.heap.size 113 1 lv k ((((List.range k).map fun i => drawZ (zs.getD i 0))).map (.int .u32))) ∧ Hid (Adds w wr))
  case atStart => exact ⟨0, rfl, by omega, by omega, by omega, Lib.hid (World.ownsRow_nil _ _ _ _), Lib.hid (Only.refl _ _)⟩
  case round =>
    obtain ⟨k, rfl, hk1, hk2, hkx, HR, HA⟩ := hrel
    obtain ⟨la, ll, lc, rfl⟩ := ownsRow_slice HR.out
    by_cases c1 : k < len
    · by_cases c2 : k < 60
      · obtain ⟨b, off, rfl, hb, hc, hcw⟩ := rows_at HZ.out c1
        obtain ⟨z, hx⟩ : ∃ z, z = zs.getD k 0 := ⟨_, rfl⟩
        rw [← hx] at hc hcw
        have d0 := cell_al hc HA.out
        have HX := Lib.hid hx
        obtain ⟨hz1', hz2'⟩ := bd_u8 hcw
        have hk4 : k < 1000000 := by omega
        have hwk := wrap_succ k hk4
        have hm : 0 ≤ z.tmod 25 ∧ z.tmod 25 ≤ IntKind.u32.bits := by
          rw [Int.tmod_eq_emod_of_nonneg hz1', show ((IntKind.u32.bits : Nat) : Int) = 32 by rfl]; omega
        clear hx hcw
        go_wp2_with fail
        refine wp_region_held_drew (S := (fun W' => W'.cell? ⟨b, off + k, none⟩ = some (.int .u8 z))) (by kernel_rfl) d0 (fun hHeld => ?_)
        refine wpAnyH_take (i := 0) (v := (.slice la ll lc)) rfl (by kernel_rfl) (by kernel_rfl) (by kernel_rfl) (fun _ _ _ h => h) (Or.inl ⟨by rfl, fun W hS => by first | rfl | (go_simp; done)⟩) hHeld ?_
        try simp only [Act.put, List.getElem_toArray, List.getElem_cons_succ, List.getElem_cons_zero, List.setIfInBounds_toArray, List.set_cons_zero, List.set_cons_succ]
        refine wpAnyH_take (i := 1) (v := (.slice (some ⟨b, off, none⟩) len cap)) rfl (by kernel_rfl) (by kernel_rfl) (by kernel_rfl) (fun _ _ _ h => h) (Or.inl ⟨by rfl, fun W hS => by first | rfl | (go_simp; done)⟩) hHeld ?_
        try simp only [Act.put, List.getElem_toArray, List.getElem_cons_succ, List.getElem_cons_zero, List.setIfInBounds_toArray, List.set_cons_zero, List.set_cons_succ]
        refine wpAnyH_take (i := 2) (v := (.int .i64 k)) rfl (by kernel_rfl) (by kernel_rfl) (by kernel_rfl) (fun _ _ _ h => h) (Or.inl ⟨by rfl, fun W hS => by first | rfl | (go_simp; done)⟩) hHeld ?_
        try simp only [Act.put, List.getElem_toArray, List.getElem_cons_succ, List.getElem_cons_zero, List.setIfInBounds_toArray, List.set_cons_zero, List.set_cons_succ]
        refine wpAnyH_take (i := 3) (v := (.pointer (some ⟨b, off + k, none⟩))) rfl (by kernel_rfl) (by kernel_rfl) (by kernel_rfl) (fun _ _ _ h => h) (Or.inl ⟨by rfl, fun W hS => by (go_simp; done)⟩) hHeld ?_
        try simp only [Act.put, List.getElem_toArray, List.getElem_cons_succ, List.getElem_cons_zero, List.setIfInBounds_toArray, List.set_cons_zero, List.set_cons_succ]
        refine wpAnyH_take (i := 4) (v := (.int .u8 z)) rfl (by kernel_rfl) (by kernel_rfl) (by kernel_rfl) (fun _ _ _ h => h) (Or.inl ⟨by rfl, fun W hS => by (obtain q1 := hS; go_simp; done)⟩) hHeld ?_
        try simp only [Act.put, List.getElem_toArray, List.getElem_cons_succ, List.getElem_cons_zero, List.setIfInBounds_toArray, List.set_cons_zero, List.set_cons_succ]
        refine wpAnyH_take (i := 5) (v := ?v5) rfl (by kernel_rfl) (by kernel_rfl) (by kernel_rfl) (fun _ _ _ h => h) (Or.inl ⟨by rfl, ?y5⟩) hHeld ?r5
        case y5 => (intro W hS; go_simp; try with_reducible rfl)
        try simp only [Act.put, List.getElem_toArray, List.getElem_cons_succ, List.getElem_cons_zero, List.setIfInBounds_toArray, List.set_cons_zero, List.set_cons_succ]
        refine wpAnyH_take (i := 6) (v := ?v6) rfl (by kernel_rfl) (by kernel_rfl) (by kernel_rfl) (fun _ _ _ h => h) (Or.inl ⟨by rfl, ?y6⟩) hHeld ?r6
        case y6 => (intro W hS; go_simp; try with_reducible rfl)
        try simp only [Act.put, List.getElem_toArray, List.getElem_cons_succ, List.getElem_cons_zero, List.setIfInBounds_toArray, List.set_cons_zero, List.set_cons_succ]
        refine wpAnyH_take (i := 7) (v := (.slice (some ⟨b, off, none⟩) len cap)) rfl (by kernel_rfl) (by kernel_rfl) (by kernel_rfl) (fun _ _ _ h => h) (Or.inl ⟨by rfl, fun W hS => by first | rfl | (go_simp; done)⟩) hHeld ?_
        try simp only [Act.put, List.getElem_toArray, List.getElem_cons_succ, List.getElem_cons_zero, List.setIfInBounds_toArray, List.set_cons_zero, List.set_cons_succ]
        refine wpAnyH_take (i := 8) (v := (.int .i64 k)) rfl (by kernel_rfl) (by kernel_rfl) (by kernel_rfl) (fun _ _ _ h => h) (Or.inl ⟨by rfl, fun W hS => by first | rfl | (go_simp; done)⟩) hHeld ?_
        try simp only [Act.put, List.getElem_toArray, List.getElem_cons_succ, List.getElem_cons_zero, List.setIfInBounds_toArray, List.set_cons_zero, List.set_cons_succ]
        refine wpAnyH_take (i := 9) (v := (.pointer (some ⟨b, off + k, none⟩))) rfl (by kernel_rfl) (by kernel_rfl) (by kernel_rfl) (fun _ _ _ h => h) (Or.inl ⟨by rfl, fun W hS => by (go_simp; done)⟩) hHeld ?_
        try simp only [Act.put, List.getElem_toArray, List.getElem_cons_succ, List.getElem_cons_zero, List.setIfInBounds_toArray, List.set_cons_zero, List.set_cons_succ]
        refine wpAnyH_take (i := 10) (v := (.int .u8 z)) rfl (by kernel_rfl) (by kernel_rfl) (by kernel_rfl) (fun _ _ _ h => h) (Or.inl ⟨by rfl, fun W hS => by (obtain q1 := hS; go_simp; done)⟩) hHeld ?_
        try simp only [Act.put, List.getElem_toArray, List.getElem_cons_succ, List.getElem_cons_zero, List.setIfInBounds_toArray, List.set_cons_zero, List.set_cons_succ]
        refine wpAnyH_take (i := 11) (v := ?v11) rfl (by kernel_rfl) (by kernel_rfl) (by kernel_rfl) (fun _ _ _ h => h) (Or.inl ⟨by rfl, ?y11⟩) hHeld ?r11
        case y11 => (intro W hS; go_simp; try with_reducible rfl)
        try simp only [Act.put, List.getElem_toArray, List.getElem_cons_succ, List.getElem_cons_zero, List.setIfInBounds_toArray, List.set_cons_zero, List.set_cons_succ]
        refine wpAnyH_take (i := 12) (v := .int .u32 (drawZ z)) rfl (by kernel_rfl) (by kernel_rfl) (by kernel_rfl) (fun _ _ _ h => h) (Or.inl ⟨by rfl, fun W hS => by (go_simp; rfl)⟩) hHeld ?_
        try simp only [Act.put, List.getElem_toArray, List.getElem_cons_succ, List.getElem_cons_zero, List.setIfInBounds_toArray, List.set_cons_zero, List.set_cons_succ]
        have HK0 := Lib.hid hHeld
        refine wpAnyH_ready (rs := [13]) (by kernel_rfl) (by simp) (AllReadyH.cons rfl (fun K hK => ?_) AllReadyH.nil)
        simp only [List.getElem_toArray, List.getElem_cons_succ, List.getElem_cons_zero]
        go_simp
        refine hK.out _ _ (cell_al hHeld ((Only.refl (fun _ => False) wr.drew).alloc _)) (fun hHeld => ?_)
        clear hK K
        try simp only [Act.put, List.getElem_toArray, List.getElem_cons_succ, List.getElem_cons_zero, List.setIfInBounds_toArray, List.set_cons_zero, List.set_cons_succ]
        refine wpAnyH_ready (rs := [14]) (by kernel_rfl) (by simp) (AllReadyH.cons rfl (fun K hK => ?_) AllReadyH.nil)
        simp only [List.getElem_toArray, List.getElem_cons_succ, List.getElem_cons_zero]
        rw [if_pos (by rfl)]
        refine wp_append_own _ _ _ 22 rfl w.heap.size 113 i0 (.int .u32 0) 1 4 Try.underlying22 hi hz0 hz1 hz2 rfl (by decide) _ k _ rfl ((show wr.drew.ownsRow _ _ _ _ _ _ from HR.out).alloc (.cells #[.int .u32 (drawZ z)] 113)) ⟨wr.heap.size, 0, none⟩ 1 1 [.int .u32 (drawZ z)] rfl rfl (cell_one_new _ _ _) (by simp [Value.oneCell']) (by unfold maxLen; omega) (by omega) (by have := HA.out.size; simp; omega) ?_
        intro v' w3 hown hgrow _
        have hA3 : Adds w w3 := row_snoc (show wr.drew.ownsRow _ _ _ _ _ _ from HR.out) (by have := HA.out.size; simpa using this) _ hgrow (HA.out.drew) rfl
        refine hK.out _ w3 (cell_al hc hA3) (fun hHeld => ?_)
        clear hK K
        try simp only [Act.put, List.getElem_toArray, List.getElem_cons_succ, List.getElem_cons_zero, List.setIfInBounds_toArray, List.set_cons_zero, List.set_cons_succ]
        refine wpAnyH_take (i := 15) (v := v') rfl (by kernel_rfl) (by kernel_rfl) (by kernel_rfl) (fun _ _ _ h => h) (Or.inl ⟨by rfl, fun W hS => by first | rfl | (go_simp; done)⟩) hHeld ?_
        try simp only [Act.put, List.getElem_toArray, List.getElem_cons_succ, List.getElem_cons_zero, List.setIfInBounds_toArray, List.set_cons_zero, List.set_cons_succ]
        refine wpAnyH_done (by kernel_rfl) ?_ _
        go_wp2_with fail
        go_roundg (60 - (k + 1))
        case measure => omega
        case rel =>
          refine ⟨k + 1, by simp, by omega, by omega, Nat.le_refl _, Lib.hid ?_, Lib.hid hA3⟩
          rw [List.range_succ, List.map_append, List.map_append]
          simp only [List.map_cons, List.map_nil]
          rw [← HX.out]
          exact hown
      · go_wp2_with fail
        go_ret
        have h60 : min len 60 = k := by omega
        exact ⟨_, rfl, ⟨k, by omega, by rw [h60]; exact HR.out⟩, HA.out⟩
    · go_wp2_with fail
      go_ret
      have h60 : min len 60 = k := by omega
      exact ⟨_, rfl, ⟨k, by omega, by rw [h60]; exact HR.out⟩, HA.out⟩
end Go.Proofs.Ytbijbpnhakbeeaa
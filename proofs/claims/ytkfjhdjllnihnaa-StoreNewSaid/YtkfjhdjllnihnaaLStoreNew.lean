/- StoreNew: its walk. By an AI agent. -/
import Derived.Test.YtkfjhdjllnihnaaStoreAwake
namespace Go.Proofs.Ytkfjhdjllnihnaa
open Go.RowKit
set_option maxRecDepth 100000 in
set_option maxHeartbeats 4000000 in
theorem storeNew_law (n : Int) (w0 : (Lit.int .i64 n).wf = true) (w : World) :
    Calls Try.prog 4 #[.int .i64 n] w fun e w' => e = .returned (.bool true) ∧ Below w.heap.size w w' := by
  obtain ⟨b0, b1⟩ := bd_i64 w0
  clear w0
  by_cases c1 : n < 1
  · go_enter Try.func4, Try.ntmps4
    go_wp2_with (first
      | (go_at_call 8; refine (storeNew_no _ _ (.inl c1)).mono ?_; rintro e w1 ⟨rfl, rfl⟩)
      | (go_at_call 13; refine (awake2_any _).mono ?_; rintro e w7 ⟨rfl, ho7⟩))
    go_ret
    exact ⟨rfl, Only.below (by assumption) (Nat.le_refl _) (fun _ _ h => h)⟩
  by_cases c2 : 65536 < n
  · go_enter Try.func4, Try.ntmps4
    go_wp2_with (first
      | (go_at_call 8; refine (storeNew_no _ _ (.inr c2)).mono ?_; rintro e w1 ⟨rfl, rfl⟩)
      | (go_at_call 13; refine (awake2_any _).mono ?_; rintro e w7 ⟨rfl, ho7⟩))
    go_ret
    exact ⟨rfl, Only.below (by assumption) (Nat.le_refl _) (fun _ _ h => h)⟩
  obtain ⟨m, rfl⟩ := Int.eq_ofNat_of_zero_le (show 0 ≤ n by omega)
  have c3 : 1 ≤ (m : Int) := by omega
  have c4 : (m : Int) ≤ 65536 := by omega
  clear c1 c2 b0 b1
  go_enter Try.func4, Try.ntmps4
  go_wp2_with fail
  refine (storeNew_ok _ _ c3 c4).mono ?_; rintro e w1 ⟨rfl, hs1, ho1, hz1⟩
  rw [Int.toNat_natCast] at hs1
  have hl : (StoreS.fresh m).ws.length = m := by simp [StoreS.fresh]
  go_wp2_with fail
  refine (storeLen_any _ _ _ _ hs1).mono ?_; rintro e w2 ⟨rfl, rfl⟩
  go_wp2_with fail
  refine (count_any _ _ _ _ hs1).mono ?_; rintro e w2 ⟨rfl, rfl⟩
  go_wp2_with fail
  refine (last_any _ _ _ _ hs1).mono ?_; rintro e w2 ⟨rfl, ho2⟩
  go_wp2_with fail
  refine (words_any _ _ _ _ (hs1.only ho2 (fun h => h) (fun h => h))).mono ?_; rintro e w3 ⟨v, rfl, hv, ho3⟩
  rw [hl] at hv
  obtain ⟨g, cap, rfl⟩ : ∃ g cap, v = .slice (some ⟨g, 0, none⟩) m cap := by
    rcases hv.2 with ⟨_, h0⟩ | ⟨g, cap, cur, h, _⟩
    · omega
    · exact ⟨g, cap, h⟩
  have hcell : ∀ k, k < m → w3.cell? ⟨g, k, none⟩ = some (.int .u64 0) := fun k hk => by
    rw [hv.cellAt k (by omega)]
    simp [StoreS.fresh, hk]
  have HC := Lib.hid hcell
  have HO := Lib.hid ((ho1.thenF ho2).thenF ho3)
  clear hcell ho1 ho2 ho3 hv hs1 hl
  go_wp2_with fail
  go_loop [5] (fun i => ∃ k : Nat, k ≤ m ∧ i = .int .i64 k) (fun i => m - (intOf i).toNat)
  case atStart => exact ⟨0, Nat.zero_le _, rfl⟩
  case round =>
    obtain ⟨k, hk, rfl⟩ := hrel
    by_cases hlt : k < m
    · have hc := HC.out k hlt
      go_wp2
      go_round
      case rel => exact ⟨k + 1, by omega, by go_num⟩
      case measure => simp [intOf]; omega
    · go_wp2_with (go_at_call 13; refine (awake2_any _).mono ?_; rintro e w7 ⟨rfl, ho7⟩)
      go_ret
      exact ⟨rfl, (HO.out.thenF (by assumption)).below (Nat.le_refl _) (fun _ _ h => h)⟩
end Go.Proofs.Ytkfjhdjllnihnaa

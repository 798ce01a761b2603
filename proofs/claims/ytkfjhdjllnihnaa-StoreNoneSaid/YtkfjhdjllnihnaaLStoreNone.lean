/- StoreNone: its walk. By an AI agent. -/
import Derived.Test.YtkfjhdjllnihnaaStoreAwake
namespace Go.Proofs.Ytkfjhdjllnihnaa
open Go.RowKit
theorem StoreS.fresh_out {i : Int} (h : i < 0 ∨ 3 ≤ i) : ¬ (StoreS.fresh (3 : Int).toNat).inR i := by
  rintro ⟨a, b⟩
  simp [fresh] at b
  omega
set_option maxRecDepth 100000 in
set_option maxHeartbeats 4000000 in
theorem storeNone_law (a : Int) (w0 : (Lit.int .i64 a).wf = true) (v : Int) (_w1 : (Lit.int .u64 v).wf = true) (old : Int) (_w2 : (Lit.int .u64 old).wf = true) (w : World) :
    Calls Try.prog 7 #[.int .i64 a, .int .u64 v, .int .u64 old] w fun e w' => e = .returned (.bool true) ∧ Below w.heap.size w w' := by
  obtain ⟨b0, b1⟩ := bd_i64 w0
  clear w0 _w1 _w2
  have hcase : (0 ≤ a ∧ a < 3) ∨ a < 0 ∨ 3 ≤ a := by omega
  rcases hcase with ⟨c1, c2⟩ | c1 | c1
  · have hi := StoreS.fresh_out (i := a - 3) (by omega)
    go_enter Try.func7, Try.ntmps7
    go_wp2_with fail
    refine (load_nil _ _).mono ?_; rintro e w1 ⟨rfl, rfl⟩
    go_wp2_with fail
    refine (cas_nil _ _ _ _).mono ?_; rintro e w1 ⟨rfl, rfl⟩
    go_wp2_with fail
    refine (add_nil _ _ _).mono ?_; rintro e w1 ⟨rfl, rfl⟩
    go_wp2_with fail
    refine (put_nil _ _ _).mono ?_; rintro e w1 ⟨rfl, rfl⟩
    go_wp2_with fail
    refine (last_nil _).mono ?_; rintro e w1 ⟨rfl, ho1⟩
    go_wp2_with fail
    refine (count_nil _).mono ?_; rintro e w2 ⟨rfl, rfl⟩
    go_wp2_with fail
    refine (storeLen_nil _).mono ?_; rintro e w2 ⟨rfl, rfl⟩
    go_wp2_with fail
    refine (words_nil _).mono ?_; rintro e w2 ⟨rfl, rfl⟩
    go_wp2_with fail
    refine (storeNew_ok 3 _ (by omega) (by omega)).mono ?_; rintro e w2 ⟨rfl, hs, ho2, hz⟩
    have HO := Lib.hid (ho1.thenF ho2)
    clear ho1 ho2
    go_wp2_with fail
    refine (load_out _ _ _ _ _ hs hi).mono ?_; rintro e w3 ⟨rfl, rfl⟩
    go_wp2_with fail
    refine (cas_out _ _ _ _ _ _ _ hs hi).mono ?_; rintro e w3 ⟨rfl, rfl⟩
    go_wp2_with fail
    refine (add_out _ _ _ _ _ _ hs hi).mono ?_; rintro e w3 ⟨rfl, rfl⟩
    go_wp2_with fail
    refine (put_out _ _ _ _ _ _ hs hi).mono ?_; rintro e w3 ⟨rfl, rfl⟩
    go_wp2_with fail
    refine (count_any _ _ _ _ hs).mono ?_; rintro e w3 ⟨rfl, rfl⟩
    go_wp2_with fail
    refine (last_any _ _ _ _ hs).mono ?_; rintro e w3 ⟨rfl, ho3⟩
    go_wp2_with (go_at_call 13; refine (awake2_any _).mono ?_; rintro e w7 ⟨rfl, ho7⟩)
    go_ret
    exact ⟨rfl, ((HO.out.thenF ho3).thenF (by assumption)).below (Nat.le_refl _) (fun _ _ h => h)⟩
  all_goals
    have hi := StoreS.fresh_out (i := a) (by omega)
    go_enter Try.func7, Try.ntmps7
    go_wp2_with fail
    refine (load_nil _ _).mono ?_; rintro e w1 ⟨rfl, rfl⟩
    go_wp2_with fail
    refine (cas_nil _ _ _ _).mono ?_; rintro e w1 ⟨rfl, rfl⟩
    go_wp2_with fail
    refine (add_nil _ _ _).mono ?_; rintro e w1 ⟨rfl, rfl⟩
    go_wp2_with fail
    refine (put_nil _ _ _).mono ?_; rintro e w1 ⟨rfl, rfl⟩
    go_wp2_with fail
    refine (last_nil _).mono ?_; rintro e w1 ⟨rfl, ho1⟩
    go_wp2_with fail
    refine (count_nil _).mono ?_; rintro e w2 ⟨rfl, rfl⟩
    go_wp2_with fail
    refine (storeLen_nil _).mono ?_; rintro e w2 ⟨rfl, rfl⟩
    go_wp2_with fail
    refine (words_nil _).mono ?_; rintro e w2 ⟨rfl, rfl⟩
    go_wp2_with fail
    refine (storeNew_ok 3 _ (by omega) (by omega)).mono ?_; rintro e w2 ⟨rfl, hs, ho2, hz⟩
    have HO := Lib.hid (ho1.thenF ho2)
    clear ho1 ho2
    go_wp2_with fail
    refine (load_out _ _ _ _ _ hs hi).mono ?_; rintro e w3 ⟨rfl, rfl⟩
    go_wp2_with fail
    refine (cas_out _ _ _ _ _ _ _ hs hi).mono ?_; rintro e w3 ⟨rfl, rfl⟩
    go_wp2_with fail
    refine (add_out _ _ _ _ _ _ hs hi).mono ?_; rintro e w3 ⟨rfl, rfl⟩
    go_wp2_with fail
    refine (put_out _ _ _ _ _ _ hs hi).mono ?_; rintro e w3 ⟨rfl, rfl⟩
    go_wp2_with fail
    refine (count_any _ _ _ _ hs).mono ?_; rintro e w3 ⟨rfl, rfl⟩
    go_wp2_with fail
    refine (last_any _ _ _ _ hs).mono ?_; rintro e w3 ⟨rfl, ho3⟩
    go_wp2_with (go_at_call 13; refine (awake2_any _).mono ?_; rintro e w7 ⟨rfl, ho7⟩)
    go_ret
    exact ⟨rfl, ((HO.out.thenF ho3).thenF (by assumption)).below (Nat.le_refl _) (fun _ _ h => h)⟩
end Go.Proofs.Ytkfjhdjllnihnaa

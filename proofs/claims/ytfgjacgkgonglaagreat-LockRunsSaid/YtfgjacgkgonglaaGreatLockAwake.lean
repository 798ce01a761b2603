/- The example of chapter 13 holds. By an AI agent. -/
import Derived.Test.YtfgjacgkgonglaaGreatLock3
import Derived.Test.YtfgjacgkgonglaaGreatYardNew
namespace Go.Proofs.YtfgjacgkgonglaaGreat
open Go.RowKit
set_option maxRecDepth 100000 in
set_option maxHeartbeats 4000000 in
theorem awake13_any (w : World) : Calls Tryz.prog 30 #[] w fun e w' => e = .returned (.bool true) ∧ Adds w w' := by
  have hd : ∀ W, Sem.run Tryz.prog (binOp .eql 48 (.agg #[.int .i64 3, .int .i64 2, .int .u64 0, .int .u64 3]) (.agg #[.int .i64 3, .int .i64 2, .int .u64 0, .int .u64 3])) W = .ok (.bool true) W := fun W => did_eql W 3 2 0 3 3 2 0 3
  have h2 := Lib.hid (begun_inR (n := 118) (k := 0) (v := 1) (i := 2) (by omega) (by omega))
  have h0 := Lib.hid (begun_other 118 1 2 (by omega))
  have hl := Lib.hid (begun_len 118 0 1)
  have hB := Blk.new w #[.int .i64 1, .int .i64 3] 40
  have x0 : (w.alloc (.cells #[.int .i64 1, .int .i64 3] 40)).cell? ⟨w.heap.size, 0, none⟩ = some (.int .i64 1) := hB.cell 0
  have x1 : (w.alloc (.cells #[.int .i64 1, .int .i64 3] 40)).cell? ⟨w.heap.size, 1, none⟩ = some (.int .i64 3) := hB.cell 1
  clear hB
  go_enter Tryz.func30, Tryz.ntmps30
  go_wp2_with fail
  go_region_held3 (fun w' => w'.cell? ⟨w.heap.size, 0, none⟩ = some (.int .i64 1) ∧ w'.cell? ⟨w.heap.size, 1, none⟩ = some (.int .i64 3) ∧ Adds w w')
    (first | (exact ⟨x0, x1, ((Only.refl _ _).alloc _).drew⟩) | (exact heldM2 (by assumption) (by assumption)))
    (first
    | (go_at_call 58; refine (arenaNew_yard 1 3 _ (by decide)).mono ?_; rintro e w1 ⟨ab, sb, sm, rb, rfl, hy, ho, hnew⟩; rw [show (Lay.words 1 3).toNat = 118 from by decide] at hy)
    | (go_at_call 22; refine (newTake_ok 1 3 2 _ (by decide) (by decide)).mono ?_; rintro e w2 ⟨mb, rfl, ht, ho2⟩))
  rename_i hH
  have HO := Lib.hid hH.2.2
  have hY := Lib.hid (hy.adds ho2)
  have HT := Lib.hid ht
  have HN := Lib.hid (And.intro hnew (And.intro ht.low (And.intro HO.out.size ho.size)))
  clear hH hy ht ho ho2 x0 x1 hnew
  go_wp2_with (first
    | (go_at_call 24; refine (takeStep_win HT.out hY.out h2.out (by rw [hl.out]; omega) h0.out (by omega)).mono ?_; rintro e w3 ⟨rfl, ⟨hb3, hy3⟩, ho3⟩; have HB3 := Lib.hid hb3; have HY3 := Lib.hid hy3; have HO3 := Lib.hid ho3; clear hb3 hy3 ho3; rw [show ((2 : Int) + 1) = 3 from rfl])
    | (go_at_call 25; refine (lockTakeDone_yes ((HB3.out.alloc _).cell 2)).mono ?_; rintro e w4 ⟨rfl, rfl⟩)
    | (go_at_call 28; refine (held_any (HY3.out.adds ((Only.refl _ _).alloc _)) (StoreS.acc_inR h2.out _ _ _) (by rw [StoreS.acc_word h2.out]; omega)).mono ?_; rintro e w5 ⟨rfl, rfl⟩; rw [StoreS.acc_word h2.out]))
  go_ret
  refine ⟨rfl, Only.alloc ?_ _⟩
  obtain ⟨⟨n1, n2, n3⟩, n4, n5, n6⟩ := HN.out
  simp only [World.size_alloc, World.size_drew] at n1 n2 n3 n6
  exact HO.out.andThen HO3.out (fun i hi e => by rcases e with (rfl | rfl) | rfl <;> omega)
end Go.Proofs.YtfgjacgkgonglaaGreat

/- Package arena: the document's example, over arenas with draws. By an AI agent. -/
import Derived.Test.YtbijbpnhakbeeaaArenaD
namespace Go.Proofs.Ytbijbpnhakbeeaa
open Go.RowKit
set_option maxHeartbeats 400000 in
theorem arenaGenD_any {w : World} {ab sb rb sm : Nat} {P T : Int} {s : StoreS} (h : IsArena w ab sb rb P T) (hs : IsStore w sb sm s) (hi : s.inR 0) (hb : s.word 0 < 9223372036854775808) : Calls Try.prog 16 #[.pointer (some ⟨ab, 0, none⟩)] w fun e w' => e = .returned (.int .i64 (s.word 0)) ∧ w = w' := by
  have c2 := h.head.cell 2
  have hw := StoreS.word_bd hs.fit 0
  clear h
  go_enter Try.func16, Try.ntmps16
  go_wp2_with (go_at_call 53; refine (peek_in _ _ 0 _ _ hs hi).mono ?_; rintro e w1 ⟨rfl, rfl⟩)
  go_ret
  exact ⟨by first | rfl | simp, rfl⟩
theorem begun_first (n : Nat) (h : 1 ≤ n) : (StoreS.begun n 0 1).word 0 = 1 := by
  simp only [StoreS.word, StoreS.begun, StoreS.fresh]
  rw [List.getD_eq_getElem?_getD, show (0 : Int).toNat = 0 from rfl, List.getElem?_set_self (by simp; omega)]
  rfl
set_option maxRecDepth 100000 in
set_option maxHeartbeats 4000000 in
theorem awake11D_any (w : World) : Calls Try.prog 14 #[] w fun e w' => e = .returned (.bool true) ∧ Adds w w' := by
  have hw : Lay.words 1 1 = 90 := by decide
  have hl : (StoreS.begun 90 0 1).ws.length = 90 := by simp [StoreS.begun, StoreS.fresh]
  have hi : (StoreS.begun 90 0 1).inR 0 := ⟨by omega, by rw [hl]; omega⟩
  have hwd : (StoreS.begun 90 0 1).word 0 = 1 := by decide
  have HL := Lib.hid hl; have HI := Lib.hid hi; have HW := Lib.hid hwd; have HWW := Lib.hid hw
  clear hw hl hi hwd
  go_enter Try.func14, Try.ntmps14
  go_wp2_with fail
  refine (arenaNewD_ok 1 1 none 0 0 [] _ (.inl ⟨rfl, rfl⟩) (by simp) (by decide)).mono ?_
  rintro e w1 ⟨ab, sb, sm, s, rfl, ha, hs, hr, hn, ho, -, -⟩
  rw [HWW.out, show (90 : Int).toNat = 90 from rfl] at hs
  have hxs : s.xs = [(0, 1)] := hn.exs
  have HAr := Lib.hid ha; have HS := Lib.hid hs; have HR := Lib.hid hr; have HO := Lib.hid ho
  clear ha hs hr ho hn
  go_wp2_with fail
  refine (arenaGenD_any HAr.out HS.out HI.out (by rw [HW.out]; omega)).mono ?_
  rintro e w2 ⟨rfl, rfl⟩
  rw [HW.out]
  go_wp2_with fail
  refine (arenaStore_any HAr.out).mono ?_
  rintro e w2 ⟨rfl, rfl⟩
  go_wp2_with fail
  refine (storeLen_any _ _ _ _ HS.out).mono ?_
  rintro e w2 ⟨rfl, rfl⟩
  rw [HL.out]
  go_wp2_with fail
  refine (arenaRuns_any HAr.out).mono ?_
  rintro e w2 ⟨rfl, rfl⟩
  go_wp2_with fail
  refine (list_any HR.out).mono ?_
  rintro e w3 ⟨lv, rfl, hrow, ho3⟩
  rw [hxs] at hrow
  have hna := (NodesAt.of_owns (xs := [(0, 1)]) hrow).adds ((Only.refl (fun _ => False) w3).alloc (.cells #[.int .i64 0, .int .i64 1] 63))
  have hbl := Blk.new w3 #[.int .i64 0, .int .i64 1] 63
  have hnb : NodesAt (w3.alloc (.cells #[.int .i64 0, .int .i64 1] 63)) (.slice (some ⟨w3.heap.size, 0, none⟩) 1 1) [(0, 1)] := by
    refine ⟨_, 1, rfl, fun i x hx => ⟨w3.heap.size, 0, rfl, ?_⟩⟩
    match i, hx with
    | 0, hx => simp at hx; subst hx; exact ⟨hbl.cell 0, hbl.cell 1⟩
  have HSR := Lib.hid (sameRuns_any lv _ _ _ _ hna hnb (by simp) (by simp))
  have HO3 := Lib.hid (HO.out.thenF ho3)
  clear hna hbl hnb hrow ho3
  go_wp2_with fail
  refine HSR.out.mono ?_
  rintro e w4 ⟨rfl, q, rfl⟩
  go_wp2_with fail
  go_ret
  exact ⟨rfl, (HO3.out.alloc _).drewN q⟩
end Go.Proofs.Ytbijbpnhakbeeaa

/- LockAlone: its walk. By an AI agent. -/
import Derived.Test.YtipeijkpiglbfaaLockAlone
namespace Go.Proofs.Ytipeijkpiglbfaa
open Go.RowKit
theorem infoTakeP : (Try.prog.info? 39).map (fun i => (i.zero, i.size, i.bytes)) = some (some (.pointer none), 1, 8) := by kernel_rfl
theorem madeCells_ptr (n : Nat) : madeCells #[Value.pointer none] n = ((List.replicate n (none : Option Nat)).map ptrV).toArray := by
  apply Array.ext'
  rw [toList_madeCells_one]
  simp [ptrV]
set_option maxRecDepth 100000 in
set_option maxHeartbeats 8000000 in
theorem lockAlone_law (th : Int) (w0 : (Lit.int .u8 th).wf = true) (a0 : Option Addr) (len cap : Nat) (zs : List Int) (w : World) (w1 : IsRow .u8 w a0 len cap zs) :
    Calls Try.prog 3 #[.int .u8 th, .slice a0 len cap] w fun e w' => e = .returned (.bool true) ∧ Below w.heap.size w w' := by
  have HZ := Lib.hid w1
  obtain ⟨hl, hcap⟩ := rows_len w1
  have hth := bd_u8 w0
  obtain ⟨n, hn⟩ : ∃ n : Nat, 1 + th % 8 = (n : Int) := ⟨(1 + th % 8).toNat, by omega⟩
  have n1 : 1 ≤ n := by omega
  have n8 : n ≤ 8 := by omega
  have hn' : 1 + Int.tmod th 8 = (n : Int) := by rw [Int.tmod_eq_emod_of_nonneg hth.1]; exact hn
  have hmay : Lay.may 2 n = true := Lay.may_iff.2 ⟨by omega, by omega, by omega, by omega⟩
  have hwd := words_bd hmay
  obtain ⟨i0, hi, hz0, hz1, hz2⟩ := info_parts infoTakeP
  have hmk := fun W => run_make (P := Try.prog) W 30 39 i0 (.pointer none) Try.underlying30 hi hz0 .i64 .i64 (n : Int) (n : Int) (by omega) (by omega) (by rw [hz2]; omega) (by omega)
  simp only [Int.toNat_natCast, hz1] at hmk
  have hBL := Blk.new w #[.int .i64 2, .int .i64 n] 24
  have HBL := Lib.hid hBL; have HMAY := Lib.hid hmay; have HWD := Lib.hid hwd
  clear w0 w1 hBL hmay hwd
  have hkd := fun W a b c d => did_kind W a b c d
  go_enter Try.func3, Try.ntmps3
  go_wp2_with (go_at_call 9; refine (arenaNew_yard 2 n _ HMAY.out).mono ?_; rintro e w2 ⟨ab, sb, sm, rb, rfl, hy, ho, hlow⟩; have HY := Lib.hid hy; have HO := Lib.hid ho; have HLOW := Lib.hid hlow; clear hy ho hlow)
  go_wp2_with fail
  have hlb : Blk w2 w.heap.size #[.int .i64 2, .int .i64 n] 24 := HBL.out.only HO.out id
  have hI0 : LInv w n w2.heap.size w.heap.size ab sb sm rb (w2.alloc (.cells (madeCells #[Value.pointer none] n) 39)) (-1) (StoreS.begun (Lay.words 2 n).toNat 0 1) (List.replicate n none) := by
    have hz := HO.out.size
    simp only [World.size_alloc] at hz
    have hlow := HLOW.out
    simp only [World.size_alloc] at hlow
    have hb : (StoreS.begun (Lay.words 2 n).toNat 0 1).ws.length = (Lay.words 2 n).toNat := begun_len _ _ _
    have hwd := HWD.out
    refine ⟨HY.out.adds ((Only.refl _ _).alloc _), by rw [hb]; omega, by rw [begun_other _ _ _ (by omega)]; rfl, ⟨by omega, by omega⟩, by simp, ?_, fun j mb e => ?_, hlb.alloc _, ⟨by omega, by omega, by omega, by omega, by omega⟩, (((Only.refl _ w).alloc _).thenF HO.out).alloc _⟩
    · have := Blk.new w2 (madeCells #[Value.pointer none] n) 39
      rw [madeCells_ptr] at this ⊢
      exact this
    · rw [List.getElem?_replicate] at e
      split at e <;> simp at e
  have HI0 := Lib.hid hI0
  clear hlb hI0
  obtain ⟨tb, htb⟩ : ∃ tb, tb = w2.heap.size := ⟨_, rfl⟩
  obtain ⟨lb, hlb⟩ : ∃ lb, lb = w.heap.size := ⟨_, rfl⟩
  obtain ⟨wi, hwi⟩ : ∃ wi, wi = w2.alloc (.cells (madeCells #[Value.pointer none] n) 39) := ⟨_, rfl⟩
  have HLB := Lib.hid hlb
  rw [← hwi, ← htb] at HI0
  rw [← hwi, ← htb]
  rw [← hlb] at HI0 ⊢
  clear hwi htb hlb HBL HO HLOW HY
  go_loopw [9, 10] (fun x i wr => ∃ (k : Nat) (who : Int) (s : StoreS) (L : List (Option Nat)), k ≤ len ∧ k ≤ 300 ∧ x = .int .i64 who ∧ i = .int .i64 k ∧ LInv w n tb lb ab sb sm rb wr who s L) (fun _ i _ => len - (intOf i).toNat)
  case atStart => exact ⟨0, -1, _, _, Nat.zero_le _, Nat.zero_le _, rfl, rfl, HI0.out⟩
  case round =>
    obtain ⟨k, who, s, L, hk, hk3, rfl, rfl, hI⟩ := hrel
    have HI := Lib.hid hI
    clear HI0
    by_cases c1 : k < len
    · by_cases c3 : k < 300
      · obtain ⟨b, off, rfl, hb, hc, hcw⟩ := rows_at HZ.out c1
        obtain ⟨x, hx⟩ : ∃ x, x = zs.getD k 0 := ⟨_, rfl⟩
        rw [← hx] at hc hcw
        have hxb := bd_u8 hcw
        have d0 := (hI.adds.cellF (p := ⟨b, off + k, none⟩) hb id).trans hc
        obtain ⟨t, ht⟩ : ∃ t : Nat, x % (n : Int) = (t : Int) := ⟨(x % (n : Int)).toNat, by have := Int.emod_nonneg x (show (n : Int) ≠ 0 by omega); omega⟩
        have ht' : Int.tmod x (n : Int) = (t : Int) := by rw [Int.tmod_eq_emod_of_nonneg hxb.1]; exact ht
        have htn : t < n := by have := Int.emod_lt_of_pos x (show (0 : Int) < n by omega); omega
        have hww := hI.who
        obtain ⟨l0, l1⟩ := hI.layCells
        clear hx hcw hc hI
        by_cases hwt : who = (t : Int)
        · subst hwt
          go_wp2_with (first
            | (go_at_call 10; refine (newLeave_ok 2 n _ HMAY.out).mono ?_; rintro e w3 ⟨mb, rfl, hl3, ho3, hlow3⟩; have hI3 := HI.out.add ho3)
            | (go_at_call 11; refine (leaveStep_any hl3 hI3.yard hI3.inR (by have := hI3.big; omega)).mono ?_; rintro e w4 ⟨rfl, ⟨hb4, hy4⟩, ho4⟩; have HI4 := Lib.hid (show LInv w n tb lb ab sb sm rb w4 (-1) _ L by obtain ⟨q, hq, _⟩ := hl3; exact hI3.left hq rfl (Nat.le_trans HI.out.adds.size hlow3) ho4 hy4); have HB4 := Lib.hid hb4; clear hl3 ho3 hb4 hy4 ho4)
            | (go_at_call 12; refine (lockLeaveDone_yes (HB4.out.cell 2)).mono ?_; rintro e w5 ⟨rfl, rfl⟩)
            | (go_at_call 13; refine (held_any HI4.out.yard HI4.out.inR (by rw [HI4.out.word]; omega)).mono ?_; rintro e w6 ⟨rfl, rfl⟩; rw [HI4.out.word]))
          go_roundw
          case rel => exact ⟨k + 1, -1, _, _, by omega, by omega, rfl, by go_num, HI4.out⟩
          case measure => simp [intOf]; omega
        · have hwt' : (who == (t : Int)) = false := by simpa using hwt
          obtain ⟨o, hLt⟩ : ∃ o, L[t]? = some o := ⟨_, List.getElem?_eq_getElem (by rw [HI.out.len]; exact htn)⟩
          rcases o with _ | mb
          · obtain ⟨r0, rf0⟩ := HI.out.rowCell hLt
            replace r0 : _ = some (Value.pointer none) := r0
            have htb : tb < _ := cell_lt r0
            have hti : decide (0 ≤ (t : Int) ∧ (t : Int) < n) = true := by simp; omega
            go_wp2_with (go_at_call 14; refine (newTake_ok 2 n t _ HMAY.out hti).mono ?_; rintro e w3 ⟨mb, rfl, ht3, ho3⟩; have hI3 := HI.out.add ho3; obtain ⟨r3, rf3⟩ := hI3.rowCell hLt; replace r3 : _ = some (Value.pointer none) := r3; have hI4 : LInv w n tb lb ab sb sm rb (w3.setCell ⟨tb, t, none⟩ (.pointer (some ⟨mb, 0, none⟩))) who s (L.set t (some mb)) := hI3.put (k := t) (o := some mb) (fun m e => by cases e; exact ht3.mono htb); have HI4 := Lib.hid hI4; have hL4 : (L.set t (some mb))[t]? = some (some mb) := List.getElem?_set_self (by rw [HI.out.len]; exact htn); clear hI3 hI4 ht3 ho3 r0 rf0)
            clear HI hLt
            have hIv := HI4.out
            have hlv := hIv.live t mb hL4
            obtain ⟨r0, rf0⟩ := hIv.rowCell hL4
            obtain ⟨lc0, lc1⟩ := hIv.layCells
            replace r0 : _ = some (Value.pointer (some ⟨mb, 0, none⟩)) := r0
            by_cases hw0 : who = -1
            · subst hw0
              have hz0 : s.word 2 = 0 := by rw [hIv.word]; rfl
              go_wp2_with (first
                | (go_at_call 15; refine (takeStep_win hlv hIv.yard hIv.inR (by have := hIv.big; omega) hz0 (by omega)).mono ?_; rintro e w5 ⟨rfl, ⟨hb5, hy5⟩, ho5⟩; obtain ⟨b1, hI2⟩ := hIv.won htn hL4 ho5 hy5 ((Only.refl (fun _ => False) w5).alloc (.cells #[.int .i64 3, .int .i64 2, .int .u64 0, .int .u64 (t + 1)] 35)); obtain ⟨r5, rf5⟩ := row_ptr b1 hL4; replace r5 : _ = some (Value.pointer (some ⟨mb, 0, none⟩)) := r5; have d5 : (w5.alloc (.cells #[.int .i64 3, .int .i64 2, .int .u64 0, .int .u64 (t + 1)] 35)).cell? ⟨mb, 2, none⟩ = some .nilFunc := (hb5.alloc _).cell 2; have HI2 := Lib.hid hI2; have D5 := Lib.hid d5; clear b1 hI2 hy5 hb5 d5)
                | (go_at_call 16; refine (lockTakeDone_yes D5.out).mono ?_; rintro e w6 ⟨rfl, rfl⟩)
                | (go_at_call 13; refine (held_any HI2.out.yard HI2.out.inR (by have := HI2.out.who; rw [HI2.out.word]; omega)).mono ?_; rintro e w7 ⟨rfl, rfl⟩; rw [HI2.out.word]))
              go_roundw
              case rel => exact ⟨k + 1, t, _, _, by omega, by omega, rfl, by go_num, HI2.out⟩
              case measure => simp [intOf]; omega
            · have hz0 : s.word 2 ≠ 0 := by rw [hIv.word]; omega
              have hwm : (who == -1) = false := by simpa using hw0
              go_wp2_with (first
                | (go_at_call 15; refine (takeStep_lost hlv hIv.yard hIv.inR (by have := hIv.big; omega) hz0).mono ?_; rintro e w5 ⟨rfl, ⟨hi5, hy5⟩, ho5⟩; have hI2 := (hIv.lost ho5 hy5 hL4 hi5).add ((Only.refl (fun _ => False) w5).alloc (.cells #[.int .i64 4, .int .i64 2, .int .u64 (s.word 2), .int .u64 (s.word 2)] 35)); obtain ⟨r5, rf5⟩ := hI2.rowCell hL4; replace r5 : _ = some (Value.pointer (some ⟨mb, 0, none⟩)) := r5; have HT5 := Lib.hid (hi5.adds ((Only.refl (fun _ => False) w5).alloc (.cells #[.int .i64 4, .int .i64 2, .int .u64 (s.word 2), .int .u64 (s.word 2)] 35))); have HI2 := Lib.hid hI2; clear hI2 hy5 hi5)
                | (go_at_call 16; refine (takeDone_no HT5.out).mono ?_; rintro e w6 ⟨rfl, rfl⟩)
                | (go_at_call 13; refine (held_any HI2.out.yard HI2.out.inR (by have := HI2.out.who; rw [HI2.out.word]; omega)).mono ?_; rintro e w7 ⟨rfl, rfl⟩; rw [HI2.out.word]))
              go_roundw
              case rel => exact ⟨k + 1, who, _, _, by omega, by omega, rfl, by go_num, HI2.out⟩
              case measure => simp [intOf]; omega
          · replace hLt : L[t]? = some (some mb) := hLt
            have hIv := HI.out
            have hlv := hIv.live t mb hLt
            obtain ⟨r0, rf0⟩ := hIv.rowCell hLt
            obtain ⟨lc0, lc1⟩ := hIv.layCells
            replace r0 : _ = some (Value.pointer (some ⟨mb, 0, none⟩)) := r0
            by_cases hw0 : who = -1
            · subst hw0
              have hz0 : s.word 2 = 0 := by rw [hIv.word]; rfl
              go_wp2_with (first
                | (go_at_call 15; refine (takeStep_win hlv hIv.yard hIv.inR (by have := hIv.big; omega) hz0 (by omega)).mono ?_; rintro e w5 ⟨rfl, ⟨hb5, hy5⟩, ho5⟩; obtain ⟨b1, hI2⟩ := hIv.won htn hLt ho5 hy5 ((Only.refl (fun _ => False) w5).alloc (.cells #[.int .i64 3, .int .i64 2, .int .u64 0, .int .u64 (t + 1)] 35)); obtain ⟨r5, rf5⟩ := row_ptr b1 hLt; replace r5 : _ = some (Value.pointer (some ⟨mb, 0, none⟩)) := r5; have d5 : (w5.alloc (.cells #[.int .i64 3, .int .i64 2, .int .u64 0, .int .u64 (t + 1)] 35)).cell? ⟨mb, 2, none⟩ = some .nilFunc := (hb5.alloc _).cell 2; have HI2 := Lib.hid hI2; have D5 := Lib.hid d5; clear b1 hI2 hy5 hb5 d5)
                | (go_at_call 16; refine (lockTakeDone_yes D5.out).mono ?_; rintro e w6 ⟨rfl, rfl⟩)
                | (go_at_call 13; refine (held_any HI2.out.yard HI2.out.inR (by have := HI2.out.who; rw [HI2.out.word]; omega)).mono ?_; rintro e w7 ⟨rfl, rfl⟩; rw [HI2.out.word]))
              go_roundw
              case rel => exact ⟨k + 1, t, _, _, by omega, by omega, rfl, by go_num, HI2.out⟩
              case measure => simp [intOf]; omega
            · have hz0 : s.word 2 ≠ 0 := by rw [hIv.word]; omega
              have hwm : (who == -1) = false := by simpa using hw0
              go_wp2_with (first
                | (go_at_call 15; refine (takeStep_lost hlv hIv.yard hIv.inR (by have := hIv.big; omega) hz0).mono ?_; rintro e w5 ⟨rfl, ⟨hi5, hy5⟩, ho5⟩; have hI2 := (hIv.lost ho5 hy5 hLt hi5).add ((Only.refl (fun _ => False) w5).alloc (.cells #[.int .i64 4, .int .i64 2, .int .u64 (s.word 2), .int .u64 (s.word 2)] 35)); obtain ⟨r5, rf5⟩ := hI2.rowCell hLt; replace r5 : _ = some (Value.pointer (some ⟨mb, 0, none⟩)) := r5; have HT5 := Lib.hid (hi5.adds ((Only.refl (fun _ => False) w5).alloc (.cells #[.int .i64 4, .int .i64 2, .int .u64 (s.word 2), .int .u64 (s.word 2)] 35))); have HI2 := Lib.hid hI2; clear hI2 hy5 hi5)
                | (go_at_call 16; refine (takeDone_no HT5.out).mono ?_; rintro e w6 ⟨rfl, rfl⟩)
                | (go_at_call 13; refine (held_any HI2.out.yard HI2.out.inR (by have := HI2.out.who; rw [HI2.out.word]; omega)).mono ?_; rintro e w7 ⟨rfl, rfl⟩; rw [HI2.out.word]))
              go_roundw
              case rel => exact ⟨k + 1, who, _, _, by omega, by omega, rfl, by go_num, HI2.out⟩
              case measure => simp [intOf]; omega
      · go_wp2_with (go_at_call 17; refine (awake13_any _).mono ?_; rintro e w3 ⟨rfl, ho3⟩)
        go_ret
        exact ⟨rfl, (HI.out.adds.thenF ho3).below (Nat.le_refl _) (fun _ _ h => h)⟩
    · go_wp2_with (go_at_call 17; refine (awake13_any _).mono ?_; rintro e w3 ⟨rfl, ho3⟩)
      go_ret
      exact ⟨rfl, (HI.out.adds.thenF ho3).below (Nat.le_refl _) (fun _ _ h => h)⟩
end Go.Proofs.Ytipeijkpiglbfaa

/- WorldAlone: Who, Read, a machine made, a step. By an AI agent. -/
import Derived.Test.YtbepbcjklgfmjaaZWAHold
import Derived.Test.YtbepbcjklgfmjaaZD
import Derived.Test.YtbepbcjklgfmjaaZ1
namespace Go.Proofs.Ytbepbcjklgfmjaa
open Go.RowKit
set_option linter.unusedSimpArgs false
set_option linter.unusedVariables false
set_option maxHeartbeats 1000000 in
theorem who_at {a : Option Addr} {len cap : Nat} {zs : List Int} {w0 : World} (hz : IsRow .u8 w0 a len cap zs) (i n : Nat) (hn : 1 ≤ n ∧ n ≤ 1000) (hi : i < 1000000) :
    ∃ t : Nat, t < n ∧ ∀ w, Adds w0 w → Calls Try.prog 5 #[.slice a len cap, .int .i64 (i : Int), .int .i64 (n : Int)] w fun e w' => e = .returned (.int .i64 (t : Int)) ∧ w = w' := by
  obtain ⟨hl, hcap⟩ := rows_len hz
  have hn0 : ¬ (n : Int) = 0 := by omega
  have hn1 : 1 ≤ n := hn.1
  by_cases c : i < len
  · obtain ⟨b, off, rfl, hb, hc, hcw⟩ := rows_at hz c
    obtain ⟨x, hx⟩ : ∃ x, x = zs.getD i 0 := ⟨_, rfl⟩
    rw [← hx] at hc hcw
    have hxb := bd_u8 hcw
    obtain ⟨t, ht⟩ : ∃ t : Nat, x % (n : Int) = (t : Int) := ⟨(x % (n : Int)).toNat, by have := Int.emod_nonneg x hn0; omega⟩
    have q1 : Int.tmod x (n : Int) = (t : Int) := by rw [Int.tmod_eq_emod_of_nonneg hxb.1]; exact ht
    have htn : t < n := by have := Int.emod_lt_of_pos x (show (0 : Int) < n by omega); omega
    refine ⟨t, htn, fun w ho => ?_⟩
    have d0 := (ho.cellF (p := ⟨b, off + i, none⟩) hb id).trans hc
    have q2 : x % (n : Int) = (t : Int) := ht
    have g1 : (i : Int) < len := by omega
    clear hz ho hb hc hcw hx ht
    go_enter Try.func5, Try.ntmps5
    go_wp2_with fail
    go_ret
    exact ⟨rfl, rfl⟩
  · obtain ⟨t, ht⟩ : ∃ t : Nat, (i : Int) % (n : Int) = (t : Int) := ⟨((i : Int) % (n : Int)).toNat, by have := Int.emod_nonneg (i : Int) hn0; omega⟩
    have q1 : Int.tmod (i : Int) (n : Int) = (t : Int) := by rw [Int.tmod_eq_emod_of_nonneg (by omega)]; exact ht
    have q2 : (i : Int) % (n : Int) = (t : Int) := ht
    have htn : t < n := by have := Int.emod_lt_of_pos (i : Int) (show (0 : Int) < n by omega); omega
    have g1 : ¬ (i : Int) < len := by omega
    refine ⟨t, htn, fun w ho => ?_⟩
    clear hz ho ht
    go_enter Try.func5, Try.ntmps5
    go_wp2_with fail
    go_ret
    exact ⟨rfl, rfl⟩
theorem row_at {w : World} {base : Nat} {e : TypeId} {v : Value} {n : Nat} {xs : List Value} (h : w.ownsRow base e 1 v n xs) {k : Nat} {x : Value} (hk : k < n) (hx : xs[k]? = some x) :
    ∃ g cp, v = .slice (some ⟨g, 0, none⟩) n cp ∧ w.cell? ⟨g, k, none⟩ = some x := by
  obtain ⟨_, ⟨_, h1⟩ | ⟨g, cap, cur, h1, h2, h3, _, _, _, h5⟩⟩ := h
  · omega
  · have e1 : (cur.toList.take (n * 1))[k]? = some x := by rw [h5]; exact hx
    rw [List.getElem?_take_of_lt (by omega)] at e1
    exact ⟨g, cap, h1, by simpa [World.cell?, h3] using e1⟩
set_option maxHeartbeats 1000000 in
theorem playRead_any {w : World} {ab sb sm rb : Nat} {P T i : Int} {s : StoreS} (hY : Yard w ab sb sm rb P T s) (hi : s.inR i) :
    Calls Try.prog 8 #[.pointer (some ⟨ab, 0, none⟩), .int .i64 i] w fun e w' => e = .returned (.int .u64 (s.word i)) ∧ Adds w w' := by
  obtain ⟨hi0, hi1⟩ := id hi
  have hn := hY.st.fit.1
  have hpos : s.ws.length ≠ 0 := by omega
  have hx : s.ws[i.toNat]? = some (s.word i) := by
    have hlt : i.toNat < s.ws.length := by omega
    simp [StoreS.word, List.getElem?_eq_getElem hlt]
  obtain ⟨x, hxx⟩ : ∃ x, x = s.word i := ⟨_, rfl⟩
  rw [← hxx] at hx ⊢
  obtain ⟨k, rfl⟩ := Int.eq_ofNat_of_zero_le hi0
  rw [Int.toNat_natCast] at hx
  have HY := Lib.hid hY; have HX := Lib.hid hx
  obtain ⟨n, hnn⟩ : ∃ n, n = s.ws.length := ⟨_, rfl⟩
  have HN := Lib.hid hnn
  rw [← hnn] at hi1 hn hpos
  clear hY hi hx hxx hnn
  go_enter Try.func8, Try.ntmps8
  go_wp2_with (first
    | (go_at_call 29; refine (arenaStore_any HY.out.ar).mono ?_; rintro e w1 ⟨rfl, rfl⟩)
    | (go_at_call 30; refine (words_any _ _ _ _ HY.out.st).mono ?_; rintro e w2 ⟨v, rfl, hv, ho⟩; rw [← HN.out] at hv; obtain ⟨g, cp, rfl, hg⟩ := row_at hv (k := k) (x := .int .u64 x) (by omega) (by simp [HX.out]); have HO := Lib.hid ho; clear ho hv))
  go_ret
  exact ⟨rfl, HO.out⟩
theorem do_any {w : World} {m p b ab sb sm rb : Nat} {P T : Int} {s : StoreS} {k : WdS} (hm : Blk w m (machC k.sort p b) 46) (h : WdA P T w p k) (hY : Yard w ab sb sm rb P T s) (hbig : 4 < s.ws.length) (hz : s.word 0 < 9223372036854775808) (hf : k.fits) (hk : k.got = false) :
    Calls Try.prog 7 #[.pointer (some ⟨m, 0, none⟩), .pointer (some ⟨ab, 0, none⟩)] w (DoQ P T p ab sb sm rb s k w) := by
  cases k with
  | enter k => exact doEnter_any hm h hY hbig hz hf
  | exit => exact doExit_any hm h hY hbig hz hf
  | stop k => exact doStop_any hm h hY hbig hz hf
  | go => exact doGo_any hm h hY hbig hz hf
  | entered g => cases hk
  | exited => cases hk
  | stopped g => cases hk
  | gone => cases hk
theorem machP_none (W : World) (q : Option Addr) : Sem.run Try.prog (binOp .eql 33 (.pointer q) (.pointer none)) W = .ok (.bool q.isNone) W := by cases q <;> kernel_rfl
theorem machP_some (W : World) (q : Option Addr) : Sem.run Try.prog (binOp .neq 33 (.pointer q) (.pointer none)) W = .ok (.bool q.isSome) W := by cases q <;> kernel_rfl
theorem enterP_some (W : World) (q : Option Addr) : Sem.run Try.prog (binOp .neq 40 (.pointer q) (.pointer none)) W = .ok (.bool q.isSome) W := by cases q <;> kernel_rfl
theorem stopP_some (W : World) (q : Option Addr) : Sem.run Try.prog (binOp .neq 42 (.pointer q) (.pointer none)) W = .ok (.bool q.isSome) W := by cases q <;> kernel_rfl
theorem mk_fits {n t : Nat} (hn : n ≤ 6) (ht : t < n) (x : TS) : (x.mk t).fits ∧ (x.mk t).got = false := by
  cases x <;> first | exact ⟨trivial, rfl⟩ | exact ⟨⟨by omega, by omega⟩, rfl⟩
end Go.Proofs.Ytbepbcjklgfmjaa

/- WorldRuns: its walk. By an AI agent. -/
import Derived.Test.YtffhoaimcjpjhaaGreatWorldMade
import Derived.Test.YtffhoaimcjpjhaaGreatWorldMay
import Derived.Test.YtffhoaimcjpjhaaGreatPlay2
import Derived.Test.YtffhoaimcjpjhaaGreatRowAt
import Derived.Deep.DeepCutAuto
import Derived.Deep.RegionHeld3
namespace Go.Proofs.YtffhoaimcjpjhaaGreat
open Go.RowKit
theorem infoMachP : (Tryz.prog.info? 35).map (fun i => (i.zero, i.size, i.bytes)) = some (some (.pointer none), 1, 8) := by kernel_rfl
theorem machP_none (W : World) (q : Option Addr) : Sem.run Tryz.prog (binOp .eql 35 (.pointer q) (.pointer none)) W = .ok (.bool q.isNone) W := by cases q <;> kernel_rfl
theorem stAt_try (t : Int) : ∀ (l : List Int) (k : StSt), (∀ u, k = .try_ u → u = t) → ∀ u, l.foldl StSt.next k = .try_ u → u = t
  | [], k, h, u, e => h u e
  | v :: r, k, h, u, e => stAt_try t r (k.next v) (fun u2 e2 => by
      cases k with
      | try_ a =>
        have ha := h a rfl
        simp only [StSt.next] at e2
        split at e2
        · cases e2
        · cases e2; exact ha
      | busy => simp only [StSt.next] at e2; split at e2 <;> cases e2
      | gen => simp only [StSt.next] at e2; cases e2) u e
theorem WdM.fits {x : MS} {P T t : Int} {i : Nat} {k : WdS} (h : WdM x P T t i k) (ht : 0 ≤ t ∧ t < 64) : k.fits := by
  cases k with
  | stop k =>
    cases k with
    | try_ u =>
      have := stAt_try t x.log (.try_ t) (fun u e => by cases e; rfl) u (h.2.2.2.2.2.1).symm
      subst this; exact ht
    | busy => trivial
    | gen => trivial
  | _ => trivial
theorem wrap_succ (k : Nat) (h : k < 1000000) : IntKind.i64.wrap ((k : Int) + 1) = (k : Int) + 1 := by rw [IntKind.wrap_i64]; omega
theorem wrapU_succ (k : Nat) (h : k < 1000000) : IntKind.u64.wrap ((k : Int) + 1) = (k : Int) + 1 := by rw [IntKind.wrap_u64]; omega
theorem WdM.from0 {x : MS} {P T t : Int} {k : WdS} (h : WdM x P T t 0 k) : ∀ i, WdM x P T t i k
  | 0 => h
  | i + 1 => (h.from0 i).mono
theorem wd_word0 {s : StoreS} {k : WdS} (hi : s.inR 0) (hk : k.got = false) : (k.ac.act s).word 0 = s.word 0 := by
  have h1 : ∀ (q i v : Int), 1 ≤ i → (s.acc q i v).word 0 = s.word 0 := fun q i v h => StoreS.acc_word_other (by omega) (by omega) (by omega) q v
  have h2 : ∀ q, (s.acc q 0 (s.word 0)).word 0 = s.word 0 := fun q => StoreS.acc_word hi q _
  cases k with
  | enter k => cases k <;> first | exact h1 _ _ _ (by omega) | exact h2 _
  | exit => exact h1 _ _ _ (by omega)
  | stop k =>
    cases k with
    | try_ t =>
      show (Ac.act (.cas 1 0 (t + 1)) s).word 0 = _
      simp only [Ac.act]
      split <;> exact h1 _ _ _ (by omega)
    | busy => exact h1 _ _ _ (by omega)
    | gen => exact h2 _
  | go => exact h1 _ _ _ (by omega)
  | entered g => cases hk
  | exited => cases hk
  | stopped g => cases hk
  | gone => cases hk
theorem do_any {w : World} {m p b ab sb sm rb : Nat} {P T : Int} {s : StoreS} {k : WdS} (hm : Blk w m (machC k.sort p b) 54) (h : WdA P T w p k) (hY : Yard w ab sb sm rb P T s) (hbig : 4 < s.ws.length) (hz : s.word 0 < 9223372036854775808) (hf : k.fits) (hk : k.got = false) :
    Calls Tryz.prog 13 #[.pointer (some ⟨m, 0, none⟩), .pointer (some ⟨ab, 0, none⟩)] w (DoQ P T p ab sb sm rb s k w) := by
  cases k with
  | enter k => exact doEnter_any hm h hY hbig hz hf
  | exit => exact doExit_any hm h hY hbig hz hf
  | stop k => exact doStop_any hm h hY hbig hz hf
  | go => exact doGo_any hm h hY hbig hz hf
  | entered g => cases hk
  | exited => cases hk
  | stopped g => cases hk
  | gone => cases hk
theorem made_any {P t : Int} {n : Nat} (hm : Lay.may P n = true) (ht : decide (0 ≤ t ∧ t < (n : Int)) = true) (q : Nat) (hq : q < 4) (w : World) :
    Calls Tryz.prog 12 #[.agg #[.int .i64 P, .int .i64 n], .int .i64 ((13 + q : Nat) : Int), .int .i64 t] w (MadeQ P n t w) := by
  match q, hq with
  | 0, _ => exact madeEnter_any hm ht w
  | 1, _ => exact madeExit_any hm ht w
  | 2, _ => exact madeStop_any hm ht w
  | 3, _ => exact madeGo_any hm ht w
theorem four_at (w : World) (q : Nat) (hq : q < 4) (t : TypeId) : (w.alloc (.cells #[.int .i64 13, .int .i64 14, .int .i64 15, .int .i64 16] t)).cell? ⟨w.heap.size, q, none⟩ = some (.int .i64 ((13 + q : Nat) : Int)) := by
  rw [World.cell?_alloc_new]
  match q, hq with
  | 0, _ => rfl
  | 1, _ => rfl
  | 2, _ => rfl
  | 3, _ => rfl
theorem WH.cells {w wr : World} {ab sb sm rb rg bb tb tm ub fb onb stb n t : Nat} {P : Int} {s s' : StoreS} {L : List (Option WdL)} {Ms : List (Option Nat)} (h : WH w ab sb sm rb rg bb tb tm ub fb onb stb n P wr s s' L Ms) {om : Option Nat} (ho : Ms[t]? = some om) : wr.cell? ⟨onb, t, none⟩ = some (ptrV om) ∧ wr.frozen? ⟨onb, t, none⟩ = false := by
  refine ⟨?_, h.row.frozen t⟩
  rw [h.row.cell]; simp [ho]
/-- A block of a result is turned, or made. -/
theorem WH.did {w wr w' : World} {ab sb sm rb rg bb tb tm ub fb onb stb n db : Nat} {P : Int} {s s' : StoreS} {L : List (Option WdL)} {Ms : List (Option Nat)} (h : WH w ab sb sm rb rg bb tb tm ub fb onb stb n P wr s s' L Ms) {c : Array Value} (hb : Blk wr db c 45) (hc : c.size ≠ 1) (hl : w.heap.size ≤ db) (ho : Only (· = db) wr w') : WH w ab sb sm rb rg bb tb tm ub fb onb stb n P w' s s' L Ms := by
  have hn : ∀ {r : Nat} {c2 : Array Value} {u : TypeId}, Blk wr r c2 u → u ≠ 45 → ¬ r = db := fun hx hu e => by subst e; exact hu (hx.uniq hb).2
  exact ⟨h.sc.row (wdO P n) hb (by unfold RowOk; decide) (by decide) hc hl ho, h.ll, h.lm, h.row.only ho (hn h.row (by decide)), fun t z e => by obtain ⟨m, a1, a2⟩ := h.mach t z e; exact ⟨m, a1, a2.only ho (hn a2 (by decide))⟩, h.empty, h.set.only ho (hn h.set (by decide)), h.low⟩
abbrev didA (s : StoreS) : Array Value := #[.int .i64 s.k, .int .i64 s.pos, .int .u64 s.old, .int .u64 s.new]
/-- A step of the document's machine of thread t, behind one of ours. -/
theorem docStepW {w W : World} {ab sb sm rb rg bb tb tm ub fb onb stb n i t : Nat} {P : Int} {s s' s1 : StoreS} {L : List (Option WdL)} {Ms : List (Option Nat)} {z : WdL} {k1 : WdS} (h : WH w ab sb sm rb rg bb tb tm ub fb onb stb n P W s1 s' L Ms) (hz : L[t]? = some (some { z with k := k1 })) (hm : Lay.may P n = true) (hk : k1 = z.k.nx s) (hx : WdM z.x P n t i z.k) (he : s.ws = s'.ws) (hi : s'.inR 4) (hw0 : 0 ≤ s.word 0 ∧ s.word 0 < 9223372036854775808) (ht : t < 64) (hil : i < 90000) :
    Calls Tryz.prog 14 #[.pointer (some ⟨z.b, 0, none⟩), .pointer (some ⟨bb, 0, none⟩)] W fun e w' => e = .returned (.agg (didA (z.k.ac.act s))) ∧ ∃ z2 : WdL, (z2.a = z.a ∧ z2.b = z.b ∧ z2.k = k1) ∧ (z2.x.done = k1.got ∧ z2.x.gens = k1.gen ∧ (k1.got = false → WdM z2.x P n t (i + 1) k1)) ∧ WH w ab sb sm rb rg bb tb tm ub fb onb stb n P w' s1 (z.k.ac.act s') (L.set t (some z2)) Ms ∧ IsM w' z.b z2.x z2.lg z2.mr z2.mem ∧ W.heap.size ≤ w'.heap.size ∧ (∀ r x u, Blk W r x u → RowOk wdTy u → Blk w' r x u) := by
  have hw : ∀ j, s.word j = s'.word j := fun j => by unfold StoreS.word; rw [he]
  have hB := h.sc.lanes.B t _ hz
  have hN := (h.sc.lanes.nl t _ hz).2
  have e2 := (act_same z.k.ac he)
  have e3 : z.k.nx s = z.k.nx s' := by
    cases hzk : z.k <;> simp only [WdS.nx, hw]
  refine (worldM_step (t := (t : Int)) hB h.sc.both.mem hN hx hil hi (by rw [← hw 0]; exact hw0) (by omega)).mono (fun e w' q => ?_)
  obtain ⟨q1, y, y1, y2, y3, q3⟩ := q
  rw [← e3, ← hk] at y1 y2 y3
  have hsz : W.heap.size ≤ w'.heap.size := by obtain ⟨_, _, _, ho, _⟩ := q3; exact ho.size
  have hlen : (z.k.ac.act s').ws.length = s'.ws.length := Ac.act_len _ _
  obtain ⟨lg1, mk1, h1, h2⟩ := h.sc.stepB (wdO P n) hm hz q3 hlen
  obtain ⟨a, b⟩ := set_same (z' := { ({ z with k := k1 } : WdL) with x := y, lg := lg1, mr := mk1, mem := .pointer (some ⟨bb, 0, none⟩) }) hz rfl rfl rfl
  have h3 := h.kept h1 h2 (by simpa using h.ll) a b
  refine ⟨by show e = .returned (didV (z.k.ac.act s)); rw [e2.2]; exact q1, (⟨z.a, k1, z.b, y, lg1, mk1, .pointer (some ⟨bb, 0, none⟩)⟩ : WdL), ⟨rfl, rfl, rfl⟩, ⟨y1, y2, y3⟩, h3, ?_, hsz, h2⟩
  exact h1.lanes.B t _ (List.getElem?_set_self (by have := (List.getElem?_eq_some_iff.1 hz).1; exact this))
set_option maxRecDepth 100000 in
set_option maxHeartbeats 8000000 in
theorem worldRuns_law (c0 : Int) (f0 : (Lit.int .u8 c0).wf = true) (c1 : Int) (f1 : (Lit.int .u8 c1).wf = true) (a0 : Option Addr) (len0 cap0 : Nat) (zs0 : List Int) (a1 : Option Addr) (len1 cap1 : Nat) (zs1 : List Int) (w : World) (w0 : IsRow .u8 w a0 len0 cap0 zs0) (w1 : IsRow .u8 w a1 len1 cap1 zs1) :
    Calls Tryz.prog 3 #[.int .u8 c0, .int .u8 c1, .slice a0 len0 cap0, .slice a1 len1 cap1] w fun e w' => e = .returned (.bool true) ∧ Below w.heap.size w w' := by
  have HZ := Lib.hid w0; have HV := Lib.hid w1
  obtain ⟨hl0, hcap0⟩ := rows_len w0
  obtain ⟨hl1, hcap1⟩ := rows_len w1
  have b0 := bd_u8 f0; have b1 := bd_u8 f1
  obtain ⟨P, hP⟩ : ∃ P : Int, 1 + c0 % 9 = P := ⟨_, rfl⟩
  obtain ⟨n, hn⟩ : ∃ n : Nat, 1 + c1 % 6 = (n : Int) := ⟨(1 + c1 % 6).toNat, by omega⟩
  have p1 : 1 ≤ P := by omega
  have p2 : P ≤ 20 := by omega
  have n1 : 1 ≤ n := by omega
  have n6 : n ≤ 6 := by omega
  have hmay : Lay.may P n = true := Lay.may_iff.2 ⟨by omega, by omega, by omega, by omega⟩
  have HSET := fun W => setup_nil c0 c1 9 W b0 b1 (by omega)
  rw [hP, hn] at HSET
  replace HSET := Lib.hid HSET
  have HMAY := Lib.hid hmay
  obtain ⟨i0, hi0, hz00, hz01, hz02⟩ := info_parts infoMachP
  have mk1 := fun W => run_make (P := Tryz.prog) W 31 35 i0 (.pointer none) Tryz.underlying31 hi0 hz00 .i64 .i64 (n : Int) (n : Int) (by omega) (by omega) (by rw [hz02]; omega) (by omega)
  have hcs : (Value.pointer none).cells = #[Value.pointer none] := rfl
  simp only [Int.toNat_natCast, hz01, Nat.mul_one, hcs] at mk1
  clear hcs w0 w1 hmay f0 f1 b0 b1 hP hn hi0 hz00 hz01 hz02
  go_enter Tryz.func3, Tryz.ntmps3
  go_upto_region 5 with (first
    | (go_at_call 8; refine (HSET.out _).mono ?_; rintro e w2 ⟨rfl, ho⟩; have HO0 := Lib.hid ho; clear ho)
    | (go_at_call 9; refine (arenas_ok P n _ HMAY.out).mono ?_; rintro e w3 ⟨ab, sb, sm, rb, rg, bb, tb, tm, ub, fb, rfl, hB, ho, hlow⟩; have HB := Lib.hid hB; have HO := Lib.hid ho; have HLOW := Lib.hid hlow; clear hB ho hlow))
  obtain ⟨stb, hstb⟩ : ∃ stb, stb = w2.heap.size := ⟨_, rfl⟩
  have hset : Blk w3 w2.heap.size #[.int .i64 P, .int .i64 n, .slice none 0 0] 25 := (Blk.new w2 _ _).only HO.out id
  have s1 : w3.cell? ⟨w2.heap.size, 1, none⟩ = some (.int .i64 n) := hset.cell 1
  rw [← hstb] at hset s1 ⊢
  have HST := Lib.hid hset
  have hz3 := HO.out.size
  have hlow := HLOW.out
  simp only [World.size_alloc] at hz3 hlow
  have hz2 := HO0.out.size
  have HA3 := Lib.hid ((HO0.out.alloc (.cells #[.int .i64 P, .int .i64 n, .slice none 0 0] 25)).thenF HO.out)
  have HLO := Lib.hid (show w.heap.size ≤ ab ∧ w.heap.size ≤ sb ∧ w.heap.size ≤ sm ∧ w.heap.size ≤ bb ∧ w.heap.size ≤ tb ∧ w.heap.size ≤ tm by omega)
  clear hset hlow HLOW HO HO0 HSET hstb
  obtain ⟨onb, honb⟩ : ∃ onb, w3.heap.size = onb := ⟨_, rfl⟩
  obtain ⟨wi, hwi⟩ : ∃ wi, w3.alloc (.cells (madeCells #[Value.pointer none] n) 35) = wi := ⟨_, rfl⟩
  have hA : Adds w3 wi := by rw [← hwi]; exact (Only.refl (fun _ => False) w3).alloc _
  have hrow : Blk wi onb (madeCells #[Value.pointer none] n) 35 := by rw [← hwi, ← honb]; exact Blk.new w3 _ _
  have hlen : (StoreS.begun (Lay.words P n).toNat 0 1).ws.length = (Lay.words P n).toNat := begun_len _ _ _
  have hI0 : WH w ab sb sm rb rg bb tb tm ub fb onb stb n P wi (StoreS.begun (Lay.words P n).toNat 0 1) (StoreS.begun (Lay.words P n).toNat 0 1) (List.replicate n none) (List.replicate n none) := by
    have hno : ∀ (t : Nat) (z : WdL), (List.replicate n (none : Option WdL))[t]? = some (some z) → False := fun t z e => by
      rw [List.getElem?_replicate] at e; split at e <;> simp at e
    refine ⟨⟨HB.out.adds hA, hlen, hlen, Lanes.empty n, fun t z e => (hno t z e).elim, HLO.out, HA3.out.thenF hA⟩, by simp, by simp, ?_, fun t z e => (hno t z e).elim, fun t e => ?_, HST.out.only hA id, by have := HA3.out.size; omega⟩
    · rw [madeCells_ptr] at hrow; exact hrow
    · rw [List.getElem?_replicate] at e ⊢
      split at e
      · rename_i h; rw [if_pos h]
      · cases e
  have HI0 := Lib.hid hI0
  have hmw := (mem_words_bd HMAY.out).1
  have HW0 := Lib.hid (show 0 ≤ (StoreS.begun (Lay.words P n).toNat 0 1).word 0 ∧ (StoreS.begun (Lay.words P n).toNat 0 1).word 0 ≤ 1000 by
    rw [begun_first (by omega)]; omega)
  clear hI0 hrow hA hlen hmw HB HST HA3 HLO hz3 hz2
  go_wp2_with fail
  clear mk1 s1 hwi honb
  go_loopw [13] (fun i wr => ∃ (k : Nat) (s s' : StoreS) (L : List (Option WdL)) (Ms : List (Option Nat)), k ≤ len0 ∧ k ≤ 400 ∧ i = .int .i64 k ∧ Hid (WH w ab sb sm rb rg bb tb tm ub fb onb stb n P wr s s' L Ms) ∧ Hid (s.ws = s'.ws ∧ 0 ≤ s.word 0 ∧ s.word 0 ≤ 1000) ∧ Hid (∀ (t : Nat) (z : WdL), L[t]? = some (some z) → WdM z.x P n t k z.k)) (fun i _ => len0 - (intOf i).toNat)
  case atStart => exact ⟨0, _, _, _, _, Nat.zero_le _, Nat.zero_le _, rfl, HI0, Lib.hid ⟨rfl, HW0.out.1, HW0.out.2⟩, Lib.hid (fun t z e => by rw [List.getElem?_replicate] at e; split at e <;> simp at e)⟩
  case round =>
    obtain ⟨k, s, s', L, Ms, hk, hk3, rfl, HI, HE, HL⟩ := hrel
    clear HI0 HW0
    by_cases c1 : k < len0
    · by_cases c3 : k < 400
      · obtain ⟨b, off, rfl, hb, hc, hcw⟩ := rows_at HZ.out c1
        obtain ⟨x, hx⟩ : ∃ x, x = zs0.getD k 0 := ⟨_, rfl⟩
        rw [← hx] at hc hcw
        have hxb := bd_u8 hcw
        have HD0 : Hid (∀ W, Adds w W → W.cell? ⟨b, off + k, none⟩ = some (.int .u8 x)) := Lib.hid (fun W hA => (hA.cellF (p := ⟨b, off + k, none⟩) hb id).trans hc)
        have d0 := HD0.out wr HI.out.sc.adds
        have hR : s.inR 0 ∧ s'.inR 0 := by
          have := (mem_words_bd HMAY.out).1
          have h1 := HI.out.sc.len; have h2 := HI.out.sc.len'
          exact ⟨⟨by omega, by omega⟩, ⟨by omega, by omega⟩⟩
        have HR := Lib.hid hR
        have hk4 : k < 1000000 := by omega
        have hwk := wrap_succ k hk4
        have hwu : IntKind.u64.wrap ((k : Int) + 1) = (k : Int) + 1 := wrapU_succ k hk4
        have HBL := Lib.hid hb
        clear hx hc hcw hb hR
        go_upto_region 9 with fail
        go_cut [54] (fun y wd => y = .bool false ∧ ∃ (s1 s1' : StoreS), Hid (WH w ab sb sm rb rg bb tb tm ub fb onb stb n P wd s1 s1' L Ms) ∧ Hid (s1.ws = s1'.ws ∧ 0 ≤ s1.word 0 ∧ s1.word 0 ≤ 1000))
        case first =>
          by_cases hx2 : 250 < x
          · go_wp2_with (go_at_call 10; refine (playPut_any HI.out.sc.both HR.out.1 HR.out.2 (by omega)).mono ?_; rintro e v1 ⟨rfl, hB1, ho1⟩; have HI1 := Lib.hid (HI.out.put HMAY.out hB1 ho1); clear hB1 ho1)
            go_meet
            refine ⟨rfl, _, _, HI1, Lib.hid ⟨?_, ?_, ?_⟩⟩
            · show s.ws.set _ _ = s'.ws.set _ _
              rw [HE.out.1]
            · rw [StoreS.acc_word HR.out.1]; omega
            · rw [StoreS.acc_word HR.out.1]; omega
          · go_wp2_with fail
            go_meet
            exact ⟨rfl, s, s', HI, HE⟩
        case rest =>
          obtain ⟨rfl, s1, s1', HI1, HE1⟩ := hcut
          clear HI HE hwu
          have n5 : wc.cell? ⟨stb, 1, none⟩ = some (.int .i64 n) := HI1.out.set.cell 1
          go_upto_region 12 with (go_at_call 11; refine (who_any HV.out HI1.out.sc.adds k n ⟨by omega, by omega⟩ (by omega)).mono ?_; rintro e v1 ⟨t, rfl, ht, rfl⟩)
          have HSC := Lib.hid HI1.out.sc.lanes
          obtain ⟨oz, hLt⟩ : ∃ oz, L[t]? = some oz := ⟨_, List.getElem?_eq_getElem (by rw [HI1.out.ll]; exact ht)⟩
          obtain ⟨om, hMt⟩ : ∃ om, Ms[t]? = some om := ⟨_, List.getElem?_eq_getElem (by rw [HI1.out.lm]; exact ht)⟩
          have o1 := (HI1.out.cells hMt).1
          have hone : (∃ z m, oz = some z ∧ om = some m) ∨ (oz = none ∧ om = none) := by
            rcases oz with _ | z
            · have h1 := HI1.out.empty t hLt
              rw [hMt] at h1; injection h1 with h1
              exact .inr ⟨rfl, h1⟩
            · obtain ⟨m, h1, _⟩ := HI1.out.mach t z hLt
              rw [hMt] at h1; injection h1 with h1
              exact .inl ⟨z, m, rfl, h1⟩
          have HLt := Lib.hid hLt; have HMt := Lib.hid hMt; have HONE := Lib.hid hone
          obtain ⟨qa, hqa⟩ : ∃ qa : Option Addr, ptrV om = .pointer qa := ⟨_, rfl⟩
          rw [hqa] at o1
          have HQA := Lib.hid hqa
          clear hLt hMt hone hqa n5
          have hq := fun W => machP_none W qa
          have g1 : (0 : Int) ≤ (t : Int) := by omega
          have g2 : (t : Int) < n := by omega
          go_upto_if 64 with fail
          go_cut [14] (fun y wd => y = .int .i64 (t : Int) ∧ ∃ (z : WdL) (m : Nat) (L' : List (Option WdL)) (Ms' : List (Option Nat)), Hid (WH w ab sb sm rb rg bb tb tm ub fb onb stb n P wd s1 s1' L' Ms') ∧ Hid (L'[t]? = some (some z) ∧ Ms'[t]? = some (some m)) ∧ Hid (∀ (j : Nat) (y : WdL), L'[j]? = some (some y) → WdM y.x P n j k y.k))
          case first =>
            rcases HONE.out with ⟨z, m, hz1, hz2⟩ | ⟨hz1, hz2⟩
            · obtain rfl : qa = some ⟨m, 0, none⟩ := by have := HQA.out; rw [hz2] at this; simpa [ptrV] using this.symm
              subst hz1 hz2
              go_wp2_with fail
              go_meet
              exact ⟨rfl, z, m, L, Ms, HI1, Lib.hid ⟨HLt.out, HMt.out⟩, HL⟩
            · obtain rfl : qa = none := by have := HQA.out; rw [hz2] at this; simpa [ptrV] using this.symm
              subst hz1 hz2
              clear hq
              have m2 : wc.cell? ⟨bb, 2, none⟩ = some (.int .i64 P) := HI1.out.sc.both.mem.head.cell 2
              have m3 : wc.cell? ⟨bb, 3, none⟩ = some (.int .i64 n) := HI1.out.sc.both.mem.head.cell 3
              have d1 := HD0.out wc HI1.out.sc.adds
              obtain ⟨q, hq4, hqx⟩ : ∃ q : Nat, q < 4 ∧ x % 4 = (q : Int) := ⟨(x % 4).toNat, by omega, by omega⟩
              have q1 : Int.tmod x 4 = (q : Int) := by rw [Int.tmod_eq_emod_of_nonneg hxb.1]; exact hqx
              obtain ⟨wQ, hwQ⟩ : ∃ W, (wc.alloc (.cells #[.int .i64 13, .int .i64 14, .int .i64 15, .int .i64 16] 3)).drew = W := ⟨_, rfl⟩
              have hAQ : Adds wc wQ := by rw [← hwQ]; exact ((Only.refl (fun _ => False) wc).alloc _).drew
              have c5 : wQ.cell? ⟨wc.heap.size, q, none⟩ = some (.int .i64 ((13 + q : Nat) : Int)) := by rw [← hwQ]; exact four_at wc q hq4 _
              have hsQ : wQ.heap.size = wc.heap.size + 1 := by rw [← hwQ]; simp
              have HIQ := Lib.hid (HI1.out.add hAQ)
              have k2 := cell_al m2 hAQ; have k3 := cell_al m3 hAQ; have k4 := cell_al d1 hAQ
              have HMD := Lib.hid (made_any (t := (t : Int)) HMAY.out (by simp; omega) q hq4)
              have HWQ := Lib.hid hwQ
              have g4 : (q : Int) < 4 := by omega
              have g5 : (0 : Int) ≤ (q : Int) := by omega
              have HSQ := Lib.hid hsQ; have HAQ := Lib.hid hAQ
              clear hAQ hwQ hsQ
              go_upto_region 13 with fail
              refine wp_region_held_drew (S := (fun W => W.cell? ⟨bb, 2, none⟩ = some (.int .i64 P) ∧ W.cell? ⟨bb, 3, none⟩ = some (.int .i64 n) ∧ W.cell? ⟨b, off + k, none⟩ = some (.int .u8 x))) (by kernel_rfl) ⟨m2, m3, d1⟩ (fun hHeld => ?_)
              refine wpAnyH_take (i := 0) (v := (.slice (some ⟨onb, 0, none⟩) n n)) rfl (by kernel_rfl) (by kernel_rfl) (by kernel_rfl) (fun _ _ _ h => h) (Or.inl ⟨by rfl, fun W hS => by first | rfl | (go_simp; done)⟩) hHeld ?_
              try simp only [Act.put, List.getElem_toArray, List.getElem_cons_succ, List.getElem_cons_zero, List.setIfInBounds_toArray, List.set_cons_zero, List.set_cons_succ]
              refine wpAnyH_take (i := 1) (v := (.int .i64 (t : Int))) rfl (by kernel_rfl) (by kernel_rfl) (by kernel_rfl) (fun _ _ _ h => h) (Or.inl ⟨by rfl, fun W hS => by first | rfl | (go_simp; done)⟩) hHeld ?_
              try simp only [Act.put, List.getElem_toArray, List.getElem_cons_succ, List.getElem_cons_zero, List.setIfInBounds_toArray, List.set_cons_zero, List.set_cons_succ]
              refine wpAnyH_take (i := 2) (v := (.pointer (some ⟨bb, 0, none⟩))) rfl (by kernel_rfl) (by kernel_rfl) (by kernel_rfl) (fun _ _ _ h => h) (Or.inl ⟨by rfl, fun W hS => by first | rfl | (go_simp; done)⟩) hHeld ?_
              try simp only [Act.put, List.getElem_toArray, List.getElem_cons_succ, List.getElem_cons_zero, List.setIfInBounds_toArray, List.set_cons_zero, List.set_cons_succ]
              refine wpAnyH_take (i := 3) (v := (.pointer (some ⟨bb, 0, none⟩))) rfl (by kernel_rfl) (by kernel_rfl) (by kernel_rfl) (fun _ _ _ h => h) (Or.inl ⟨by rfl, fun W hS => by first | rfl | (go_simp; done)⟩) hHeld ?_
              try simp only [Act.put, List.getElem_toArray, List.getElem_cons_succ, List.getElem_cons_zero, List.setIfInBounds_toArray, List.set_cons_zero, List.set_cons_succ]
              refine wpAnyH_take (i := 4) (v := (.pointer (some ⟨bb, 2, none⟩))) rfl (by kernel_rfl) (by kernel_rfl) (by kernel_rfl) (fun _ _ _ h => h) (Or.inl ⟨by rfl, fun W hS => by first | rfl | (go_simp; done)⟩) hHeld ?_
              try simp only [Act.put, List.getElem_toArray, List.getElem_cons_succ, List.getElem_cons_zero, List.setIfInBounds_toArray, List.set_cons_zero, List.set_cons_succ]
              refine wpAnyH_take (i := 5) (v := (.agg #[.int .i64 P, .int .i64 n])) rfl (by kernel_rfl) (by kernel_rfl) (by kernel_rfl) (fun _ _ _ h => h) (Or.inl ⟨by rfl, fun W hS => by (obtain ⟨q1, q2, q3⟩ := hS; go_simp; done)⟩) hHeld ?_
              try simp only [Act.put, List.getElem_toArray, List.getElem_cons_succ, List.getElem_cons_zero, List.setIfInBounds_toArray, List.set_cons_zero, List.set_cons_succ]
              refine wpAnyH_take (i := 7) (v := (.slice (some ⟨b, off, none⟩) len0 cap0)) rfl (by kernel_rfl) (by kernel_rfl) (by kernel_rfl) (fun _ _ _ h => h) (Or.inl ⟨by rfl, fun W hS => by first | rfl | (go_simp; done)⟩) hHeld ?_
              try simp only [Act.put, List.getElem_toArray, List.getElem_cons_succ, List.getElem_cons_zero, List.setIfInBounds_toArray, List.set_cons_zero, List.set_cons_succ]
              refine wpAnyH_take (i := 8) (v := (.int .i64 (k : Int))) rfl (by kernel_rfl) (by kernel_rfl) (by kernel_rfl) (fun _ _ _ h => h) (Or.inl ⟨by rfl, fun W hS => by first | rfl | (go_simp; done)⟩) hHeld ?_
              try simp only [Act.put, List.getElem_toArray, List.getElem_cons_succ, List.getElem_cons_zero, List.setIfInBounds_toArray, List.set_cons_zero, List.set_cons_succ]
              refine wpAnyH_take (i := 9) (v := (.pointer (some ⟨b, off + k, none⟩))) rfl (by kernel_rfl) (by kernel_rfl) (by kernel_rfl) (fun _ _ _ h => h) (Or.inl ⟨by rfl, fun W hS => by first | rfl | (go_simp; done)⟩) hHeld ?_
              try simp only [Act.put, List.getElem_toArray, List.getElem_cons_succ, List.getElem_cons_zero, List.setIfInBounds_toArray, List.set_cons_zero, List.set_cons_succ]
              refine wpAnyH_take (i := 10) (v := (.int .u8 x)) rfl (by kernel_rfl) (by kernel_rfl) (by kernel_rfl) (fun _ _ _ h => h) (Or.inl ⟨by rfl, fun W hS => by (obtain ⟨q1, q2, q3⟩ := hS; go_simp; done)⟩) hHeld ?_
              try simp only [Act.put, List.getElem_toArray, List.getElem_cons_succ, List.getElem_cons_zero, List.setIfInBounds_toArray, List.set_cons_zero, List.set_cons_succ]
              refine wpAnyH_take (i := 11) (v := (.int .u8 (q : Int))) rfl (by kernel_rfl) (by kernel_rfl) (by kernel_rfl) (fun _ _ _ h => h) (Or.inl ⟨by rfl, fun W hS => by first | rfl | (go_simp; done)⟩) hHeld ?_
              try simp only [Act.put, List.getElem_toArray, List.getElem_cons_succ, List.getElem_cons_zero, List.setIfInBounds_toArray, List.set_cons_zero, List.set_cons_succ]
              refine wpAnyH_take (i := 14) (v := (.int .i64 (t : Int))) rfl (by kernel_rfl) (by kernel_rfl) (by kernel_rfl) (fun _ _ _ h => h) (Or.inl ⟨by rfl, fun W hS => by first | rfl | (go_simp; done)⟩) hHeld ?_
              try simp only [Act.put, List.getElem_toArray, List.getElem_cons_succ, List.getElem_cons_zero, List.setIfInBounds_toArray, List.set_cons_zero, List.set_cons_succ]
              refine wpAnyH_ready (rs := [6]) (by kernel_rfl) (by simp) (AllReadyH.cons rfl (fun K hK => ?_) AllReadyH.nil)
              simp only [List.getElem_toArray, List.getElem_cons_succ, List.getElem_cons_zero]
              go_simp
              rw [HWQ.out]
              refine hK.out _ _ ⟨k2, k3, k4⟩ (fun hHeld => ?_)
              clear hK K
              try simp only [Act.put, List.getElem_toArray, List.getElem_cons_succ, List.getElem_cons_zero, List.setIfInBounds_toArray, List.set_cons_zero, List.set_cons_succ]
              refine wpAnyH_mono (S2 := fun W => W.cell? ⟨bb, 2, none⟩ = some (.int .i64 P) ∧ W.cell? ⟨bb, 3, none⟩ = some (.int .i64 n) ∧ W.cell? ⟨b, off + k, none⟩ = some (.int .u8 x) ∧ W.cell? ⟨wc.heap.size, q, none⟩ = some (.int .i64 ((13 + q : Nat) : Int))) (fun W h => ⟨h.1, h.2.1, h.2.2.1⟩) ?_
              replace hHeld := And.intro k2 (And.intro k3 (And.intro k4 c5))
              refine wpAnyH_take (i := 12) (v := (.pointer (some ⟨wc.heap.size, q, none⟩))) rfl (by kernel_rfl) (by kernel_rfl) (by kernel_rfl) (fun _ _ _ h => h) (Or.inl ⟨by rfl, fun W hS => by first | rfl | (go_simp; done)⟩) hHeld ?_
              try simp only [Act.put, List.getElem_toArray, List.getElem_cons_succ, List.getElem_cons_zero, List.setIfInBounds_toArray, List.set_cons_zero, List.set_cons_succ]
              refine wpAnyH_take (i := 13) (v := (.int .i64 ((13 + q : Nat) : Int))) rfl (by kernel_rfl) (by kernel_rfl) (by kernel_rfl) (fun _ _ _ h => h) (Or.inl ⟨by rfl, fun W hS => by (obtain ⟨q1, q2, q3, q4⟩ := hS; go_simp; done)⟩) hHeld ?_
              try simp only [Act.put, List.getElem_toArray, List.getElem_cons_succ, List.getElem_cons_zero, List.setIfInBounds_toArray, List.set_cons_zero, List.set_cons_succ]
              refine wpAnyH_ready (rs := [15]) (by kernel_rfl) (by simp) (AllReadyH.cons rfl (fun K hK => ?_) AllReadyH.nil)
              simp only [List.getElem_toArray, List.getElem_cons_succ, List.getElem_cons_zero]
              go_simp
              refine (HMD.out _).mono ?_
              rintro e v2 ⟨m, p, b2, kk, xx, rfl, hmB, hA2, hM2, hX2, ho2, l1, l2, l3⟩
              have r2 := cell_al k2 ho2; have r3 := cell_al k3 ho2; have r4 := cell_al k4 ho2; have r5 := cell_al c5 ho2
              have HI4 := Lib.hid (HIQ.out.add ho2)
              obtain ⟨s9, f9⟩ := HI4.out.cells HMt.out
              have HB4 := Lib.hid hmB; have HA4 := Lib.hid hA2; have HM4 := Lib.hid hM2; have HX4 := Lib.hid hX2; have HS4 := Lib.hid (And.intro l1 (And.intro l2 l3))
              clear hmB hA2 hM2 hX2 l1 l2 l3
              refine hK.out _ _ ⟨r2, r3, r4, r5⟩ (fun hHeld => ?_)
              clear hK K
              try simp only [Act.put, List.getElem_toArray, List.getElem_cons_succ, List.getElem_cons_zero, List.setIfInBounds_toArray, List.set_cons_zero, List.set_cons_succ]
              have hob : ¬ onb = b := fun e => by have h1 := HI1.out.low; have h2 := HBL.out; omega
              have hoq : ¬ onb = wc.heap.size := fun e => by have h1 := HI1.out.row.lt; omega
              have hon : ¬ onb = bb := fun e => by have h1 := HI4.out.row; rw [e] at h1; have := (h1.uniq HI4.out.sc.both.mem.head).2; revert this; decide
              refine wpAnyH_take (i := 16) (v := (.pointer (some ⟨onb, t, none⟩))) rfl (by kernel_rfl) (by kernel_rfl) (by kernel_rfl) (fun _ _ _ h => h) (Or.inl ⟨by rfl, fun W hS => by first | rfl | (go_simp; done)⟩) hHeld ?_
              try simp only [Act.put, List.getElem_toArray, List.getElem_cons_succ, List.getElem_cons_zero, List.setIfInBounds_toArray, List.set_cons_zero, List.set_cons_succ]
              refine wpAnyH_ready (rs := [17]) (by kernel_rfl) (by simp) (AllReadyH.cons rfl (fun K hK => ?_) AllReadyH.nil)
              simp only [List.getElem_toArray, List.getElem_cons_succ, List.getElem_cons_zero]
              go_simp
              have u9 := hon
              refine hK.out _ _ ⟨(World.cell?_setCell_far _ _ _ _ hon).trans r2, (World.cell?_setCell_far _ _ _ _ hon).trans r3, (World.cell?_setCell_far _ _ _ _ hob).trans r4, (World.cell?_setCell_far _ _ _ _ hoq).trans r5⟩ (fun hHeld => ?_)
              clear hK K
              try simp only [Act.put, List.getElem_toArray, List.getElem_cons_succ, List.getElem_cons_zero, List.setIfInBounds_toArray, List.set_cons_zero, List.set_cons_succ]
              refine wpAnyH_done (by kernel_rfl) ?_ _
              go_wp2_with fail
              go_meet
              have hsw := HI1.out.sc.adds.size
              have hF := HI4.out.begin (t := t) (z := (⟨p, kk, b2, xx, .slice none 0 0, .slice none 0 0, .pointer none⟩ : WdL)) HSC.out hsw HB4.out HA4.out HM4.out rfl (by have := HS4.out; have := HSQ.out; show wc.heap.size ≤ p; omega) (by have := HS4.out; have := HSQ.out; show wc.heap.size ≤ b2; omega) ht
              refine ⟨rfl, (⟨p, kk, b2, xx, .slice none 0 0, .slice none 0 0, .pointer none⟩ : WdL), m, _, _, Lib.hid hF, Lib.hid ⟨List.getElem?_set_self (by rw [HI1.out.ll]; exact ht), List.getElem?_set_self (by rw [HI1.out.lm]; exact ht)⟩, Lib.hid (fun j y e => ?_)⟩
              rcases set_cases e with ⟨rfl, e2⟩ | ⟨hj, e2⟩
              · injection e2 with e2; subst e2; exact HX4.out.from0 k
              · exact HL.out j y e2
          case rest =>
            obtain ⟨rfl, z, m, L', Ms', HI2, HLz, HL2⟩ := hcut
            clear HI1 HL HLt HMt HONE HQA HSC hq o1 HD0 hxb
            obtain ⟨m', e1, hmm⟩ := HI2.out.mach t z HLz.out.1
            obtain rfl : m' = m := by have := HLz.out.2; rw [e1] at this; simpa using this
            have o1 : wc.cell? ⟨onb, t, none⟩ = some (.pointer (some ⟨m', 0, none⟩)) := (HI2.out.cells HLz.out.2).1
            have hR2 : 4 < s1.ws.length ∧ s1'.inR 4 ∧ s1.inR 0 := by
              have := (mem_words_bd HMAY.out).1
              have h1 := HI2.out.sc.len; have h2 := HI2.out.sc.len'
              exact ⟨by omega, ⟨by omega, by omega⟩, ⟨by omega, by omega⟩⟩
            have HR2 := Lib.hid hR2
            obtain ⟨ka, hka⟩ : ∃ v, v = (z.k.ac.act s1).k := ⟨_, rfl⟩
            obtain ⟨kp, hkp⟩ : ∃ v, v = (z.k.ac.act s1).pos := ⟨_, rfl⟩
            obtain ⟨ko, hko⟩ : ∃ v, v = (z.k.ac.act s1).old := ⟨_, rfl⟩
            obtain ⟨kn, hkn⟩ : ∃ v, v = (z.k.ac.act s1).new := ⟨_, rfl⟩
            obtain ⟨dn, hdn0⟩ : ∃ v, v = (z.k.nx s1).got := ⟨_, rfl⟩
            obtain ⟨gn, hgn⟩ : ∃ v, v = (z.k.nx s1).gen := ⟨_, rfl⟩
            have HDO : Hid (Calls Tryz.prog 13 #[.pointer (some ⟨m', 0, none⟩), .pointer (some ⟨ab, 0, none⟩)] wc fun e w' => e = .returned (.tuple #[.agg #[.int .i64 ka, .int .i64 kp, .int .u64 ko, .int .u64 kn], .bool dn, .int .i64 gn]) ∧ Hid (WH w ab sb sm rb rg bb tb tm ub fb onb stb n P w' (z.k.ac.act s1) s1' (L'.set t (some { z with k := z.k.nx s1 })) Ms')) := Lib.hid (by
              have hx := HL2.out t z HLz.out.1
              refine (do_any hmm (HI2.out.sc.lanes.A t z HLz.out.1) HI2.out.sc.both.yard hR2.1 (by have := HE1.out; omega) (hx.fits ⟨by omega, by omega⟩) hx.got).mono (fun e w' q => ?_)
              obtain ⟨q1, q2, q3, q4⟩ := q
              exact ⟨by rw [q1, hka, hkp, hko, hkn, hdn0, hgn]; rfl, Lib.hid (HI2.out.stepA HMAY.out HLz.out.1 (WdS.nx_sort _ _) q4 q2 q3 (Ac.act_len _ _))⟩)
            have HKA := Lib.hid (And.intro hka (And.intro hkp (And.intro hko hkn)))
            have HDG := Lib.hid (And.intro hdn0 hgn)
            clear hR2 hka hkp hko hkn hdn0 hgn hmm e1
            go_upto_region 17 with (go_at_call 13; refine HDO.out.mono ?_; rintro e v2 ⟨rfl, HI3⟩)
            have hB0 := Blk.new v2 #[.int .i64 ka, .int .i64 kp, .int .u64 ko, .int .u64 kn] 45
            have hAb : Adds v2 (v2.alloc (.cells #[.int .i64 ka, .int .i64 kp, .int .u64 ko, .int .u64 kn] 45)) := (Only.refl (fun _ => False) v2).alloc _
            have hI4 := HI3.out.add hAb
            obtain ⟨wB, hwB⟩ : ∃ W, v2.alloc (.cells #[.int .i64 ka, .int .i64 kp, .int .u64 ko, .int .u64 kn] 45) = W := ⟨_, rfl⟩
            obtain ⟨db, hdb⟩ : ∃ db, v2.heap.size = db := ⟨_, rfl⟩
            rw [hwB, hdb] at hB0
            rw [hwB] at hI4
            rw [hwB, hdb]
            have hLt : (L'.set t (some { z with k := z.k.nx s1 }))[t]? = some (some { z with k := z.k.nx s1 }) := List.getElem?_set_self (by have := (List.getElem?_eq_some_iff.1 HLz.out.1).1; exact this)
            obtain ⟨m2, e1, hmm⟩ := hI4.mach t _ hLt
            obtain rfl : m2 = m' := by have := HLz.out.2; rw [e1] at this; simpa using this
            have hm4 : wB.cell? ⟨m2, 4, none⟩ = some (.pointer (some ⟨z.b, 0, none⟩)) := hmm.cell 4
            have hon : wB.cell? ⟨onb, t, none⟩ = some (.pointer (some ⟨m2, 0, none⟩)) := (hI4.cells HLz.out.2).1
            have HI4 := Lib.hid hI4; have HB0 := Lib.hid hB0; have HMM := Lib.hid hmm; have HLT := Lib.hid hLt
            obtain ⟨d0, d1, d2, d3, -⟩ := hB0.four
            have HDOC : Hid (∀ W, Adds wB W → Calls Tryz.prog 14 #[.pointer (some ⟨z.b, 0, none⟩), .pointer (some ⟨bb, 0, none⟩)] W fun e w' => e = .returned (.agg #[.int .i64 ka, .int .i64 kp, .int .u64 ko, .int .u64 kn]) ∧ ∃ z2 : WdL, Hid (dn = false → WdM z2.x P n t (k + 1) z2.k) ∧ Hid (w'.cell? ⟨z.b, 15, none⟩ = some (.bool dn) ∧ w'.cell? ⟨z.b, 26, none⟩ = some (.int .i64 gn)) ∧ Hid (WH w ab sb sm rb rg bb tb tm ub fb onb stb n P w' (z.k.ac.act s1) (z.k.ac.act s1') ((L'.set t (some { z with k := z.k.nx s1 })).set t (some z2)) Ms') ∧ Hid (w'.cell? ⟨db, 0, none⟩ = some (.int .i64 ka) ∧ w'.cell? ⟨db, 1, none⟩ = some (.int .i64 kp) ∧ w'.cell? ⟨db, 2, none⟩ = some (.int .u64 ko) ∧ w'.cell? ⟨db, 3, none⟩ = some (.int .u64 kn) ∧ w'.cell? ⟨onb, t, none⟩ = some (.pointer (some ⟨m2, 0, none⟩)) ∧ w'.cell? ⟨m2, 4, none⟩ = some (.pointer (some ⟨z.b, 0, none⟩)) ∧ w'.frozen? ⟨onb, t, none⟩ = false)) := Lib.hid (fun W hA => by
              refine (docStepW (HI4.out.add hA) HLT.out HMAY.out rfl (HL2.out t z HLz.out.1) HE1.out.1 HR2.out.2.1 ⟨HE1.out.2.1, by have := HE1.out.2.2; omega⟩ (by omega) (by omega)).mono (fun e w' q => ?_)
              obtain ⟨q1, z2, ⟨za, zb, zk⟩, ⟨x1, x2, x3⟩, q4, q5, q6, q7⟩ := q
              have b1 := q7 _ _ _ (HB0.out.only hA id) (by unfold RowOk; decide)
              have b2 := q7 _ _ _ (HI4.out.row.only hA id) (by unfold RowOk; decide)
              have b3 := q7 _ _ _ (HMM.out.only hA id) (by unfold RowOk; decide)
              obtain ⟨c0, c1, c2, c3, -⟩ := b1.four
              refine ⟨?_, z2, Lib.hid (fun h => ?_), Lib.hid ⟨?_, ?_⟩, Lib.hid q4, Lib.hid ⟨c0, c1, c2, c3, (q4.cells HLz.out.2).1, b3.cell 4, b2.frozen t⟩⟩
              · rw [q1, HKA.out.1, HKA.out.2.1, HKA.out.2.2.1, HKA.out.2.2.2]
              · rw [zk]; exact x3 (HDG.out.1.symm.trans h)
              · have := q5.blk.cell 15
                rw [this, HDG.out.1, ← x1]; rfl
              · have := q5.blk.cell 26
                rw [this, HDG.out.2, ← x2]; rfl)
            have hdn : ∀ W, Sem.run Tryz.prog (binOp .neq 45 (.agg #[.int .i64 ka, .int .i64 kp, .int .u64 ko, .int .u64 kn]) (.agg #[.int .i64 ka, .int .i64 kp, .int .u64 ko, .int .u64 kn])) W = .ok (.bool false) W := fun W => by rw [did_neq]; simp
            clear hwB hdb hB0 hI4 hLt hmm e1 hAb
            refine wp_region_held_drew (S := (fun W => W.cell? ⟨db, 0, none⟩ = some (.int .i64 ka) ∧ W.cell? ⟨db, 1, none⟩ = some (.int .i64 kp) ∧ W.cell? ⟨db, 2, none⟩ = some (.int .u64 ko) ∧ W.cell? ⟨db, 3, none⟩ = some (.int .u64 kn) ∧ W.cell? ⟨onb, t, none⟩ = some (.pointer (some ⟨m2, 0, none⟩)) ∧ W.cell? ⟨m2, 4, none⟩ = some (.pointer (some ⟨z.b, 0, none⟩)))) (by kernel_rfl) ⟨d0, d1, d2, d3, hon, hm4⟩ (fun hHeld => ?_)
            refine wpAnyH_take (i := 0) (v := (.agg #[.int .i64 ka, .int .i64 kp, .int .u64 ko, .int .u64 kn])) rfl (by kernel_rfl) (by kernel_rfl) (by kernel_rfl) (fun _ _ _ h => h) (Or.inl ⟨by rfl, fun W hS => by (obtain ⟨q1, q2, q3, q4, q5, q6⟩ := hS; go_simp; done)⟩) hHeld ?_
            try simp only [Act.put, List.getElem_toArray, List.getElem_cons_succ, List.getElem_cons_zero, List.setIfInBounds_toArray, List.set_cons_zero, List.set_cons_succ]
            refine wpAnyH_take (i := 1) (v := (.slice (some ⟨onb, 0, none⟩) n n)) rfl (by kernel_rfl) (by kernel_rfl) (by kernel_rfl) (fun _ _ _ h => h) (Or.inl ⟨by rfl, fun W hS => by first | rfl | (go_simp; done)⟩) hHeld ?_
            try simp only [Act.put, List.getElem_toArray, List.getElem_cons_succ, List.getElem_cons_zero, List.setIfInBounds_toArray, List.set_cons_zero, List.set_cons_succ]
            refine wpAnyH_take (i := 2) (v := (.int .i64 (t : Int))) rfl (by kernel_rfl) (by kernel_rfl) (by kernel_rfl) (fun _ _ _ h => h) (Or.inl ⟨by rfl, fun W hS => by first | rfl | (go_simp; done)⟩) hHeld ?_
            try simp only [Act.put, List.getElem_toArray, List.getElem_cons_succ, List.getElem_cons_zero, List.setIfInBounds_toArray, List.set_cons_zero, List.set_cons_succ]
            refine wpAnyH_take (i := 3) (v := (.pointer (some ⟨onb, t, none⟩))) rfl (by kernel_rfl) (by kernel_rfl) (by kernel_rfl) (fun _ _ _ h => h) (Or.inl ⟨by rfl, fun W hS => by first | rfl | (go_simp; done)⟩) hHeld ?_
            try simp only [Act.put, List.getElem_toArray, List.getElem_cons_succ, List.getElem_cons_zero, List.setIfInBounds_toArray, List.set_cons_zero, List.set_cons_succ]
            refine wpAnyH_take (i := 4) (v := (.pointer (some ⟨m2, 0, none⟩))) rfl (by kernel_rfl) (by kernel_rfl) (by kernel_rfl) (fun _ _ _ h => h) (Or.inl ⟨by rfl, fun W hS => by (obtain ⟨q1, q2, q3, q4, q5, q6⟩ := hS; go_simp; done)⟩) hHeld ?_
            try simp only [Act.put, List.getElem_toArray, List.getElem_cons_succ, List.getElem_cons_zero, List.setIfInBounds_toArray, List.set_cons_zero, List.set_cons_succ]
            refine wpAnyH_take (i := 5) (v := (.pointer (some ⟨m2, 0, none⟩))) rfl (by kernel_rfl) (by kernel_rfl) (by kernel_rfl) (fun _ _ _ h => h) (Or.inl ⟨by rfl, fun W hS => by first | rfl | (go_simp; done)⟩) hHeld ?_
            try simp only [Act.put, List.getElem_toArray, List.getElem_cons_succ, List.getElem_cons_zero, List.setIfInBounds_toArray, List.set_cons_zero, List.set_cons_succ]
            refine wpAnyH_take (i := 6) (v := (.pointer (some ⟨m2, 4, none⟩))) rfl (by kernel_rfl) (by kernel_rfl) (by kernel_rfl) (fun _ _ _ h => h) (Or.inl ⟨by rfl, fun W hS => by first | rfl | (go_simp; done)⟩) hHeld ?_
            try simp only [Act.put, List.getElem_toArray, List.getElem_cons_succ, List.getElem_cons_zero, List.setIfInBounds_toArray, List.set_cons_zero, List.set_cons_succ]
            refine wpAnyH_take (i := 7) (v := (.pointer (some ⟨z.b, 0, none⟩))) rfl (by kernel_rfl) (by kernel_rfl) (by kernel_rfl) (fun _ _ _ h => h) (Or.inl ⟨by rfl, fun W hS => by (obtain ⟨q1, q2, q3, q4, q5, q6⟩ := hS; go_simp; done)⟩) hHeld ?_
            try simp only [Act.put, List.getElem_toArray, List.getElem_cons_succ, List.getElem_cons_zero, List.setIfInBounds_toArray, List.set_cons_zero, List.set_cons_succ]
            refine wpAnyH_take (i := 8) (v := (.pointer (some ⟨bb, 0, none⟩))) rfl (by kernel_rfl) (by kernel_rfl) (by kernel_rfl) (fun _ _ _ h => h) (Or.inl ⟨by rfl, fun W hS => by first | rfl | (go_simp; done)⟩) hHeld ?_
            try simp only [Act.put, List.getElem_toArray, List.getElem_cons_succ, List.getElem_cons_zero, List.setIfInBounds_toArray, List.set_cons_zero, List.set_cons_succ]
            refine wpAnyH_ready (rs := [9]) (by kernel_rfl) (by simp) (AllReadyH.cons rfl (fun K hK => ?_) AllReadyH.nil)
            simp only [List.getElem_toArray, List.getElem_cons_succ, List.getElem_cons_zero]
            go_simp
            refine (HDOC.out _ ((Only.refl _ _).drew)).mono ?_
            rintro e v4 ⟨rfl, z2, HX2, HC2, HV2, HF2⟩
            obtain ⟨e0, e1, e2, e3, e4, e5, f4⟩ := HF2.out
            obtain ⟨g15, g26⟩ := HC2.out
            refine hK.out _ _ ⟨e0, e1, e2, e3, e4, e5⟩ (fun hHeld => ?_)
            clear hK K
            try simp only [Act.put, List.getElem_toArray, List.getElem_cons_succ, List.getElem_cons_zero, List.setIfInBounds_toArray, List.set_cons_zero, List.set_cons_succ]
            refine wpAnyH_mono (S2 := fun W => W.cell? ⟨db, 0, none⟩ = some (.int .i64 ka) ∧ W.cell? ⟨db, 1, none⟩ = some (.int .i64 kp) ∧ W.cell? ⟨db, 2, none⟩ = some (.int .u64 ko) ∧ W.cell? ⟨db, 3, none⟩ = some (.int .u64 kn) ∧ W.cell? ⟨onb, t, none⟩ = some (.pointer (some ⟨m2, 0, none⟩)) ∧ W.cell? ⟨m2, 4, none⟩ = some (.pointer (some ⟨z.b, 0, none⟩)) ∧ W.cell? ⟨z.b, 15, none⟩ = some (.bool dn) ∧ W.cell? ⟨z.b, 26, none⟩ = some (.int .i64 gn)) (fun W h => ⟨h.1, h.2.1, h.2.2.1, h.2.2.2.1, h.2.2.2.2.1, h.2.2.2.2.2.1⟩) ?_
            replace hHeld := And.intro e0 (And.intro e1 (And.intro e2 (And.intro e3 (And.intro e4 (And.intro e5 (And.intro g15 g26))))))
            clear e0 e1 e2 e3 e5 g15 g26
            refine wpAnyH_take (i := 10) (v := (.bool false)) rfl (by kernel_rfl) (by kernel_rfl) (by kernel_rfl) (fun _ _ _ h => h) (Or.inl ⟨by rfl, fun W hS => by first | rfl | (go_simp; done) | (simp [go_sem, hdn]; done)⟩) hHeld ?_
            try simp only [Act.put, List.getElem_toArray, List.getElem_cons_succ, List.getElem_cons_zero, List.setIfInBounds_toArray, List.set_cons_zero, List.set_cons_succ]
            refine wpAnyH_take (i := 11) (v := (.bool false)) rfl (by kernel_rfl) (by kernel_rfl) (by kernel_rfl) (fun _ _ _ h => h) (Or.inl ⟨by rfl, fun W hS => by first | rfl | (go_simp; done)⟩) hHeld ?_
            try simp only [Act.put, List.getElem_toArray, List.getElem_cons_succ, List.getElem_cons_zero, List.setIfInBounds_toArray, List.set_cons_zero, List.set_cons_succ]
            refine wpAnyH_take (i := 12) (v := (.bool dn)) rfl (by kernel_rfl) (by kernel_rfl) (by kernel_rfl) (fun _ _ _ h => h) (Or.inl ⟨by rfl, fun W hS => by first | rfl | (go_simp; done)⟩) hHeld ?_
            try simp only [Act.put, List.getElem_toArray, List.getElem_cons_succ, List.getElem_cons_zero, List.setIfInBounds_toArray, List.set_cons_zero, List.set_cons_succ]
            refine wpAnyH_take (i := 13) (v := (.slice (some ⟨onb, 0, none⟩) n n)) rfl (by kernel_rfl) (by kernel_rfl) (by kernel_rfl) (fun _ _ _ h => h) (Or.inl ⟨by rfl, fun W hS => by first | rfl | (go_simp; done)⟩) hHeld ?_
            try simp only [Act.put, List.getElem_toArray, List.getElem_cons_succ, List.getElem_cons_zero, List.setIfInBounds_toArray, List.set_cons_zero, List.set_cons_succ]
            refine wpAnyH_take (i := 14) (v := (.int .i64 (t : Int))) rfl (by kernel_rfl) (by kernel_rfl) (by kernel_rfl) (fun _ _ _ h => h) (Or.inl ⟨by rfl, fun W hS => by first | rfl | (go_simp; done)⟩) hHeld ?_
            try simp only [Act.put, List.getElem_toArray, List.getElem_cons_succ, List.getElem_cons_zero, List.setIfInBounds_toArray, List.set_cons_zero, List.set_cons_succ]
            refine wpAnyH_take (i := 15) (v := (.pointer (some ⟨onb, t, none⟩))) rfl (by kernel_rfl) (by kernel_rfl) (by kernel_rfl) (fun _ _ _ h => h) (Or.inl ⟨by rfl, fun W hS => by first | rfl | (go_simp; done)⟩) hHeld ?_
            try simp only [Act.put, List.getElem_toArray, List.getElem_cons_succ, List.getElem_cons_zero, List.setIfInBounds_toArray, List.set_cons_zero, List.set_cons_succ]
            refine wpAnyH_take (i := 16) (v := (.pointer (some ⟨m2, 0, none⟩))) rfl (by kernel_rfl) (by kernel_rfl) (by kernel_rfl) (fun _ _ _ h => h) (Or.inl ⟨by rfl, fun W hS => by (obtain ⟨q1, q2, q3, q4, q5, q6, q7, q8⟩ := hS; go_simp; done)⟩) hHeld ?_
            try simp only [Act.put, List.getElem_toArray, List.getElem_cons_succ, List.getElem_cons_zero, List.setIfInBounds_toArray, List.set_cons_zero, List.set_cons_succ]
            refine wpAnyH_take (i := 17) (v := (.pointer (some ⟨m2, 0, none⟩))) rfl (by kernel_rfl) (by kernel_rfl) (by kernel_rfl) (fun _ _ _ h => h) (Or.inl ⟨by rfl, fun W hS => by first | rfl | (go_simp; done)⟩) hHeld ?_
            try simp only [Act.put, List.getElem_toArray, List.getElem_cons_succ, List.getElem_cons_zero, List.setIfInBounds_toArray, List.set_cons_zero, List.set_cons_succ]
            refine wpAnyH_take (i := 18) (v := (.pointer (some ⟨m2, 4, none⟩))) rfl (by kernel_rfl) (by kernel_rfl) (by kernel_rfl) (fun _ _ _ h => h) (Or.inl ⟨by rfl, fun W hS => by first | rfl | (go_simp; done)⟩) hHeld ?_
            try simp only [Act.put, List.getElem_toArray, List.getElem_cons_succ, List.getElem_cons_zero, List.setIfInBounds_toArray, List.set_cons_zero, List.set_cons_succ]
            refine wpAnyH_take (i := 19) (v := (.pointer (some ⟨z.b, 0, none⟩))) rfl (by kernel_rfl) (by kernel_rfl) (by kernel_rfl) (fun _ _ _ h => h) (Or.inl ⟨by rfl, fun W hS => by (obtain ⟨q1, q2, q3, q4, q5, q6, q7, q8⟩ := hS; go_simp; done)⟩) hHeld ?_
            try simp only [Act.put, List.getElem_toArray, List.getElem_cons_succ, List.getElem_cons_zero, List.setIfInBounds_toArray, List.set_cons_zero, List.set_cons_succ]
            refine wpAnyH_take (i := 20) (v := (.pointer (some ⟨z.b, 0, none⟩))) rfl (by kernel_rfl) (by kernel_rfl) (by kernel_rfl) (fun _ _ _ h => h) (Or.inl ⟨by rfl, fun W hS => by first | rfl | (go_simp; done)⟩) hHeld ?_
            try simp only [Act.put, List.getElem_toArray, List.getElem_cons_succ, List.getElem_cons_zero, List.setIfInBounds_toArray, List.set_cons_zero, List.set_cons_succ]
            refine wpAnyH_take (i := 21) (v := (.pointer (some ⟨z.b, 15, none⟩))) rfl (by kernel_rfl) (by kernel_rfl) (by kernel_rfl) (fun _ _ _ h => h) (Or.inl ⟨by rfl, fun W hS => by first | rfl | (go_simp; done)⟩) hHeld ?_
            try simp only [Act.put, List.getElem_toArray, List.getElem_cons_succ, List.getElem_cons_zero, List.setIfInBounds_toArray, List.set_cons_zero, List.set_cons_succ]
            refine wpAnyH_take (i := 22) (v := (.bool dn)) rfl (by kernel_rfl) (by kernel_rfl) (by kernel_rfl) (fun _ _ _ h => h) (Or.inl ⟨by rfl, fun W hS => by (obtain ⟨q1, q2, q3, q4, q5, q6, q7, q8⟩ := hS; go_simp; done)⟩) hHeld ?_
            try simp only [Act.put, List.getElem_toArray, List.getElem_cons_succ, List.getElem_cons_zero, List.setIfInBounds_toArray, List.set_cons_zero, List.set_cons_succ]
            refine wpAnyH_take (i := 23) (v := (.bool false)) rfl (by kernel_rfl) (by kernel_rfl) (by kernel_rfl) (fun _ _ _ h => h) (Or.inl ⟨by rfl, fun W hS => by first | rfl | (go_simp; done)⟩) hHeld ?_
            try simp only [Act.put, List.getElem_toArray, List.getElem_cons_succ, List.getElem_cons_zero, List.setIfInBounds_toArray, List.set_cons_zero, List.set_cons_succ]
            refine wpAnyH_take (i := 24) (v := (.bool false)) rfl (by kernel_rfl) (by kernel_rfl) (by kernel_rfl) (fun _ _ _ h => h) (Or.inl ⟨by rfl, fun W hS => by first | rfl | (go_simp; done)⟩) hHeld ?_
            try simp only [Act.put, List.getElem_toArray, List.getElem_cons_succ, List.getElem_cons_zero, List.setIfInBounds_toArray, List.set_cons_zero, List.set_cons_succ]
            refine wpAnyH_take (i := 25) (v := (.bool false)) rfl (by kernel_rfl) (by kernel_rfl) (by kernel_rfl) (fun _ _ _ h => h) (Or.inl ⟨by rfl, fun W hS => by first | rfl | (go_simp; done)⟩) hHeld ?_
            try simp only [Act.put, List.getElem_toArray, List.getElem_cons_succ, List.getElem_cons_zero, List.setIfInBounds_toArray, List.set_cons_zero, List.set_cons_succ]
            refine wpAnyH_take (i := 26) (v := (.int .i64 gn)) rfl (by kernel_rfl) (by kernel_rfl) (by kernel_rfl) (fun _ _ _ h => h) (Or.inl ⟨by rfl, fun W hS => by first | rfl | (go_simp; done)⟩) hHeld ?_
            try simp only [Act.put, List.getElem_toArray, List.getElem_cons_succ, List.getElem_cons_zero, List.setIfInBounds_toArray, List.set_cons_zero, List.set_cons_succ]
            refine wpAnyH_take (i := 27) (v := (.slice (some ⟨onb, 0, none⟩) n n)) rfl (by kernel_rfl) (by kernel_rfl) (by kernel_rfl) (fun _ _ _ h => h) (Or.inl ⟨by rfl, fun W hS => by first | rfl | (go_simp; done)⟩) hHeld ?_
            try simp only [Act.put, List.getElem_toArray, List.getElem_cons_succ, List.getElem_cons_zero, List.setIfInBounds_toArray, List.set_cons_zero, List.set_cons_succ]
            refine wpAnyH_take (i := 28) (v := (.int .i64 (t : Int))) rfl (by kernel_rfl) (by kernel_rfl) (by kernel_rfl) (fun _ _ _ h => h) (Or.inl ⟨by rfl, fun W hS => by first | rfl | (go_simp; done)⟩) hHeld ?_
            try simp only [Act.put, List.getElem_toArray, List.getElem_cons_succ, List.getElem_cons_zero, List.setIfInBounds_toArray, List.set_cons_zero, List.set_cons_succ]
            refine wpAnyH_take (i := 29) (v := (.pointer (some ⟨onb, t, none⟩))) rfl (by kernel_rfl) (by kernel_rfl) (by kernel_rfl) (fun _ _ _ h => h) (Or.inl ⟨by rfl, fun W hS => by first | rfl | (go_simp; done)⟩) hHeld ?_
            try simp only [Act.put, List.getElem_toArray, List.getElem_cons_succ, List.getElem_cons_zero, List.setIfInBounds_toArray, List.set_cons_zero, List.set_cons_succ]
            refine wpAnyH_take (i := 30) (v := (.pointer (some ⟨m2, 0, none⟩))) rfl (by kernel_rfl) (by kernel_rfl) (by kernel_rfl) (fun _ _ _ h => h) (Or.inl ⟨by rfl, fun W hS => by (obtain ⟨q1, q2, q3, q4, q5, q6, q7, q8⟩ := hS; go_simp; done)⟩) hHeld ?_
            try simp only [Act.put, List.getElem_toArray, List.getElem_cons_succ, List.getElem_cons_zero, List.setIfInBounds_toArray, List.set_cons_zero, List.set_cons_succ]
            refine wpAnyH_take (i := 31) (v := (.pointer (some ⟨m2, 0, none⟩))) rfl (by kernel_rfl) (by kernel_rfl) (by kernel_rfl) (fun _ _ _ h => h) (Or.inl ⟨by rfl, fun W hS => by first | rfl | (go_simp; done)⟩) hHeld ?_
            try simp only [Act.put, List.getElem_toArray, List.getElem_cons_succ, List.getElem_cons_zero, List.setIfInBounds_toArray, List.set_cons_zero, List.set_cons_succ]
            refine wpAnyH_take (i := 32) (v := (.pointer (some ⟨m2, 4, none⟩))) rfl (by kernel_rfl) (by kernel_rfl) (by kernel_rfl) (fun _ _ _ h => h) (Or.inl ⟨by rfl, fun W hS => by first | rfl | (go_simp; done)⟩) hHeld ?_
            try simp only [Act.put, List.getElem_toArray, List.getElem_cons_succ, List.getElem_cons_zero, List.setIfInBounds_toArray, List.set_cons_zero, List.set_cons_succ]
            refine wpAnyH_take (i := 33) (v := (.pointer (some ⟨z.b, 0, none⟩))) rfl (by kernel_rfl) (by kernel_rfl) (by kernel_rfl) (fun _ _ _ h => h) (Or.inl ⟨by rfl, fun W hS => by (obtain ⟨q1, q2, q3, q4, q5, q6, q7, q8⟩ := hS; go_simp; done)⟩) hHeld ?_
            try simp only [Act.put, List.getElem_toArray, List.getElem_cons_succ, List.getElem_cons_zero, List.setIfInBounds_toArray, List.set_cons_zero, List.set_cons_succ]
            refine wpAnyH_take (i := 34) (v := (.pointer (some ⟨z.b, 0, none⟩))) rfl (by kernel_rfl) (by kernel_rfl) (by kernel_rfl) (fun _ _ _ h => h) (Or.inl ⟨by rfl, fun W hS => by first | rfl | (go_simp; done)⟩) hHeld ?_
            try simp only [Act.put, List.getElem_toArray, List.getElem_cons_succ, List.getElem_cons_zero, List.setIfInBounds_toArray, List.set_cons_zero, List.set_cons_succ]
            refine wpAnyH_take (i := 35) (v := (.pointer (some ⟨z.b, 26, none⟩))) rfl (by kernel_rfl) (by kernel_rfl) (by kernel_rfl) (fun _ _ _ h => h) (Or.inl ⟨by rfl, fun W hS => by first | rfl | (go_simp; done)⟩) hHeld ?_
            try simp only [Act.put, List.getElem_toArray, List.getElem_cons_succ, List.getElem_cons_zero, List.setIfInBounds_toArray, List.set_cons_zero, List.set_cons_succ]
            refine wpAnyH_take (i := 36) (v := (.int .i64 gn)) rfl (by kernel_rfl) (by kernel_rfl) (by kernel_rfl) (fun _ _ _ h => h) (Or.inl ⟨by rfl, fun W hS => by (obtain ⟨q1, q2, q3, q4, q5, q6, q7, q8⟩ := hS; go_simp; done)⟩) hHeld ?_
            try simp only [Act.put, List.getElem_toArray, List.getElem_cons_succ, List.getElem_cons_zero, List.setIfInBounds_toArray, List.set_cons_zero, List.set_cons_succ]
            refine wpAnyH_take (i := 37) (v := (.bool false)) rfl (by kernel_rfl) (by kernel_rfl) (by kernel_rfl) (fun _ _ _ h => h) (Or.inl ⟨by rfl, fun W hS => by first | rfl | (go_simp; done)⟩) hHeld ?_
            try simp only [Act.put, List.getElem_toArray, List.getElem_cons_succ, List.getElem_cons_zero, List.setIfInBounds_toArray, List.set_cons_zero, List.set_cons_succ]
            refine wpAnyH_take (i := 38) (v := (.bool false)) rfl (by kernel_rfl) (by kernel_rfl) (by kernel_rfl) (fun _ _ _ h => h) (Or.inl ⟨by rfl, fun W hS => by first | rfl | (go_simp; done)⟩) hHeld ?_
            try simp only [Act.put, List.getElem_toArray, List.getElem_cons_succ, List.getElem_cons_zero, List.setIfInBounds_toArray, List.set_cons_zero, List.set_cons_succ]
            refine wpAnyH_done (by kernel_rfl) ?_ _
            have HWB := Lib.hid (wd_word0 (s := s1) HR2.out.2.2 (HL2.out t z HLz.out.1).got)
            have HWS := Lib.hid (act_same z.k.ac HE1.out.1).1
            cases dn
            · go_wp2_with fail
              go_roundw
              case rel =>
                refine ⟨k + 1, _, _, _, Ms', by omega, by omega, by go_num, HV2, Lib.hid ⟨HWS.out, by rw [HWB.out]; exact HE1.out.2.1, by rw [HWB.out]; exact HE1.out.2.2⟩, Lib.hid (fun j y e => ?_)⟩
                rcases set_cases e with ⟨rfl, e2⟩ | ⟨hj, e2⟩
                · injection e2 with e2; subst e2; exact HX2.out rfl
                · rcases set_cases e2 with ⟨rfl, _⟩ | ⟨_, e3⟩
                  · exact absurd rfl hj
                  · exact (HL2.out j y e3).mono
              case measure => simp [intOf]; omega
            · go_wp2_with fail
              go_roundw
              case rel =>
                refine ⟨k + 1, _, _, _, _, by omega, by omega, by go_num, Lib.hid (HV2.out.drop (t := t)), Lib.hid ⟨HWS.out, by rw [HWB.out]; exact HE1.out.2.1, by rw [HWB.out]; exact HE1.out.2.2⟩, Lib.hid (fun j y e => ?_)⟩
                rcases set_cases e with ⟨_, e2⟩ | ⟨hj, e2⟩
                · cases e2
                · rcases set_cases e2 with ⟨rfl, _⟩ | ⟨_, e3⟩
                  · exact absurd rfl hj
                  · rcases set_cases e3 with ⟨rfl, _⟩ | ⟨_, e4⟩
                    · exact absurd rfl hj
                    · exact (HL2.out j y e4).mono
              case measure => simp [intOf]; omega
      · go_wp2_with (first
          | (go_at_call 15; refine (playSame_any HI.out.sc.both HE.out.1 (by have := HI.out.sc.big HMAY.out; omega) (by omega) (by omega)).mono ?_; rintro e w3 ⟨rfl, ho3⟩)
          | (go_at_call 16; refine (awake20_any _).mono ?_; rintro e w4 ⟨rfl, ho4⟩))
        go_ret
        exact ⟨rfl, ((HI.out.sc.adds.thenF ho3).thenF ho4).below (Nat.le_refl _) (fun _ _ h => h)⟩
    · go_wp2_with (first
        | (go_at_call 15; refine (playSame_any HI.out.sc.both HE.out.1 (by have := HI.out.sc.big HMAY.out; omega) (by omega) (by omega)).mono ?_; rintro e w3 ⟨rfl, ho3⟩)
        | (go_at_call 16; refine (awake20_any _).mono ?_; rintro e w4 ⟨rfl, ho4⟩))
      go_ret
      exact ⟨rfl, ((HI.out.sc.adds.thenF ho3).thenF ho4).below (Nat.le_refl _) (fun _ _ h => h)⟩
end Go.Proofs.YtffhoaimcjpjhaaGreat

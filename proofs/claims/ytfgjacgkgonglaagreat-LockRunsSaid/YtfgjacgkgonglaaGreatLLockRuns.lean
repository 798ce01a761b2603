/- LockRuns: its walk. By an AI agent. -/
import Derived.Test.YtfgjacgkgonglaaGreatLockInv
import Derived.Test.YtfgjacgkgonglaaGreatLockAwake
import Derived.Test.YtfgjacgkgonglaaGreatPlay
import Derived.Test.YtfgjacgkgonglaaGreatPlay2
import Derived.Deep.DeepCutAuto
import Derived.Test.YtfgjacgkgonglaaGreatLanes
import Derived.Test.YtfgjacgkgonglaaGreatRowAt
import Derived.Deep.RegionHeld3
import Derived.Deep.WholeRow
namespace Go.Proofs.YtfgjacgkgonglaaGreat
open Go.RowKit
theorem infoTakeP : (Tryz.prog.info? 64).map (fun i => (i.zero, i.size, i.bytes)) = some (some (.pointer none), 1, 8) := by kernel_rfl
theorem infoLeaveP : (Tryz.prog.info? 65).map (fun i => (i.zero, i.size, i.bytes)) = some (some (.pointer none), 1, 8) := by kernel_rfl
theorem infoMP : (Tryz.prog.info? 33).map (fun i => (i.zero, i.size, i.bytes)) = some (some (.pointer none), 1, 8) := by kernel_rfl
theorem madeCells_ptr (n : Nat) : madeCells #[Value.pointer none] n = ((List.replicate n (none : Option Nat)).map ptrV).toArray := by
  apply Array.ext'
  rw [toList_madeCells_one]
  simp [ptrV]
theorem blk_new1 (w : World) (o : Obj) (c : Array Value) (t : TypeId) : Blk ((w.alloc o).alloc (.cells c t)) (w.heap.size + 1) c t := by
  have := Blk.new (w.alloc o) c t
  rwa [World.size_alloc] at this
abbrev mCellsA (what P T th : Int) : Array Value := #[.int .i64 what, .int .i64 P, .int .i64 T, .int .i64 th, .int .i64 0, .int .i64 0, .int .i64 0, .int .i64 0, .int .i64 0, .int .i64 0, .int .i64 0, .int .u64 0, .bool false, .slice none 0 0, .slice none 0 0, .bool false, .int .i64 0, .bool false, .pointer none, .int .i64 0, .int .i64 0, .int .u64 0, .int .u64 0, .int .i64 0, .int .i64 0, .int .i64 0, .int .i64 0, .int .u64 0, .slice none 0 0, .slice none 0 0, .int .i64 0, .int .i64 0]
abbrev mZ : Array Value := #[.int .i64 0, .int .i64 0, .int .i64 0, .int .i64 0, .int .i64 0, .int .i64 0, .int .i64 0, .int .i64 0, .int .i64 0, .int .i64 0, .int .i64 0, .int .u64 0, .bool false, .slice none 0 0, .slice none 0 0, .bool false, .int .i64 0, .bool false, .pointer none, .int .i64 0, .int .i64 0, .int .u64 0, .int .u64 0, .int .i64 0, .int .i64 0, .int .i64 0, .int .i64 0, .int .u64 0, .slice none 0 0, .slice none 0 0, .int .i64 0, .int .i64 0]
theorem infoM : (Tryz.prog.info? 52).map (·.size) = some 32 := by kernel_rfl
theorem adds_setRow {w W : World} {g : Nat} (h : Adds w W) (hg : w.heap.size ≤ g) (cs : Array Value) : Adds w (W.setRow g cs) :=
  ⟨h.os, h.tape, h.output, by simpa [World.setRow] using h.size, fun k hk hS => (setRow_other W g k cs (by omega)).trans (h.block k hk hS)⟩
abbrev lkM (what P T t : Int) : MS := ⟨what, P, T, t, 0, 0, 0, 0, 0, 0, 0, 0, [], false, 0, false, 0, 0, 0, 0, 0, 0, 0, 0, 0⟩
theorem refP_none (W : World) (q : Option Addr) : Sem.run Tryz.prog (binOp .eql 33 (.pointer q) (.pointer none)) W = .ok (.bool q.isNone) W := by cases q <;> kernel_rfl
/-- What a thread's machine is. -/
def LnOk (P n : Int) (Tk Lv : List (Option Nat)) (k t : Nat) (z : LkL) : Prop :=
  (∃ l : List Int, z.k = .take t ∧ Tk[t]? = some (some z.a) ∧ TkM z.x P n t l false ∧ (∀ v ∈ l, v ≠ 0) ∧ l.length ≤ k) ∨
  (z.k = .leave ∧ Tk[t]? = some none ∧ Lv[t]? = some (some z.a) ∧ z.x.what = 4 ∧ z.x.P = P ∧ z.x.T = n ∧ z.x.log = [] ∧ z.x.done = false)
theorem LH.dne {w wr : World} {ab sb sm rb rg bb tb tm ub fb tkb lvb qb stb lo n db : Nat} {P : Int} {s s' : StoreS} {L : List (Option LkL)} {Tk Lv : List (Option Nat)} {c : Array Value} (h : LH w ab sb sm rb rg bb tb tm ub fb tkb lvb qb stb lo n P wr s s' L Tk Lv) (hb : Blk wr db c 48) : ¬ db = tkb ∧ ¬ db = lvb ∧ ¬ tkb = db ∧ ¬ lvb = db := by
  have h1 : ¬ db = tkb := fun e => by subst e; have := (hb.uniq h.trow).2; revert this; decide
  have h2 : ¬ db = lvb := fun e => by subst e; have := (hb.uniq h.lrow).2; revert this; decide
  exact ⟨h1, h2, fun e => h1 e.symm, fun e => h2 e.symm⟩
theorem keep4 {W : World} {db r t : Nat} {v a b c d : Value} (h : ¬ db = r) (e : W.cell? ⟨r, t, none⟩ = some v) : ((((W.setCell ⟨db, 0, none⟩ a).setCell ⟨db, 1, none⟩ b).setCell ⟨db, 2, none⟩ c).setCell ⟨db, 3, none⟩ d).cell? ⟨r, t, none⟩ = some v := by
  rw [World.cell?_setCell_far _ _ _ _ h, World.cell?_setCell_far _ _ _ _ h, World.cell?_setCell_far _ _ _ _ h, World.cell?_setCell_far _ _ _ _ h]
  exact e
theorem only4 (W : World) (db : Nat) (a b c d : Value) : Only (· = db) W ((((W.setCell ⟨db, 0, none⟩ a).setCell ⟨db, 1, none⟩ b).setCell ⟨db, 2, none⟩ c).setCell ⟨db, 3, none⟩ d) :=
  ((((Only.refl (fun j => j = db) W).setCell (p := ⟨db, 0, none⟩) (.inl rfl) a).setCell (p := ⟨db, 1, none⟩) (.inl rfl) b).setCell (p := ⟨db, 2, none⟩) (.inl rfl) c).setCell (p := ⟨db, 3, none⟩) (.inl rfl) d
theorem blk4 {W : World} {db : Nat} {ty : TypeId} {x0 x1 x2 x3 : Value} (h : Blk W db #[x0, x1, x2, x3] ty) (a b c d : Value) : Blk ((((W.setCell ⟨db, 0, none⟩ a).setCell ⟨db, 1, none⟩ b).setCell ⟨db, 2, none⟩ c).setCell ⟨db, 3, none⟩ d) db #[a, b, c, d] ty :=
  (((h.setCell 0 a).setCell 1 b).setCell 2 c).setCell 3 d
theorem LnOk.next {P n : Int} {Tk Lv : List (Option Nat)} {k j : Nat} {z : LkL} (h : LnOk P n Tk Lv k j z) : LnOk P n Tk Lv (k + 1) j z :=
  h.imp (fun ⟨l, a, b, c, d, e⟩ => ⟨l, a, b, c, d, by omega⟩) id
theorem LnOk.sets {P n : Int} {Tk Lv Tk' Lv' : List (Option Nat)} {k j t : Nat} {z : LkL} (h : LnOk P n Tk Lv k j z) (_hj : j ≠ t) (h1 : Tk'[j]? = Tk[j]?) (h2 : Lv'[j]? = Lv[j]?) : LnOk P n Tk' Lv' k j z := by
  unfold LnOk at h ⊢
  rw [h1, h2]
  exact h
abbrev didZ : Array Value := #[.int .i64 0, .int .i64 0, .int .u64 0, .int .u64 0]
abbrev didA (s : StoreS) : Array Value := #[.int .i64 s.k, .int .i64 s.pos, .int .u64 s.old, .int .u64 s.new]
/-- What the step of thread t's machine does, and what it leaves. -/
def StOk (P n : Int) (Tk : List (Option Nat)) (k t : Nat) (s : StoreS) (z : LkL) (c : Ac) (k1 : LkS) : Prop :=
  (∃ l : List Int, Tk[t]? = some (some z.a) ∧ TkM z.x P n t l false ∧ (∀ v ∈ l, v ≠ 0) ∧ l.length ≤ k ∧ c = .cas 2 0 (t + 1) ∧ k1 = if s.word 2 = 0 then .took else .take t) ∨
  (z.x.what = 4 ∧ z.x.P = P ∧ z.x.T = n ∧ z.x.log = [] ∧ z.x.done = false ∧ c = .put 2 0 ∧ k1 = .left)
/-- What the document's step leaves. -/
def YOk (P n : Int) (Tk : List (Option Nat)) (k t a : Nat) (y : MS) (k1 : LkS) : Prop :=
  y.done = k1.got ∧ (k1.got = true ∨ (k1 = .take t ∧ ∃ l' : List Int, Tk[t]? = some (some a) ∧ TkM y P n t l' false ∧ (∀ v ∈ l', v ≠ 0) ∧ l'.length ≤ k + 1))
theorem docStep {w W : World} {ab sb sm rb rg bb tb tm ub fb tkb lvb qb stb lo n k t : Nat} {P : Int} {s s' s1 : StoreS} {L : List (Option LkL)} {Tk Lv : List (Option Nat)} {z : LkL} {c : Ac} {k1 : LkS} (h : LH w ab sb sm rb rg bb tb tm ub fb tkb lvb qb stb lo n P W s1 s' (L.set t (some { z with k := k1 })) Tk Lv) (hm : Lay.may P n = true) (hst : StOk P n Tk k t s z c k1) (he : s.ws = s'.ws) (hi : s'.inR 2) (ht : t < n ∧ t < 64) (hk : k < 1000) :
    Calls Tryz.prog 15 #[.pointer (some ⟨z.b, 0, none⟩), .pointer (some ⟨bb, 0, none⟩)] W fun e w' => e = .returned (.agg (didA (c.act s))) ∧ ∃ z2 : LkL, (z2.a = z.a ∧ z2.b = z.b ∧ z2.k = k1) ∧ YOk P n Tk k t z.a z2.x k1 ∧ LH w ab sb sm rb rg bb tb tm ub fb tkb lvb qb stb lo n P w' s1 (c.act s') ((L.set t (some { z with k := k1 })).set t (some z2)) Tk Lv ∧ W.heap.size ≤ w'.heap.size ∧ (∀ r x u, Blk W r x u → RowOk lkTy u → Blk w' r x u) := by
  have hz := h.at ht.1
  have hw : s.word 2 = s'.word 2 := by unfold StoreS.word; rw [he]
  have hB := h.sc.lanes.B t _ hz
  have hN := (h.sc.lanes.nl t _ hz).2
  have hd : ∀ c : Ac, Value.agg (didA (c.act s)) = didV (c.act s') := fun c => (act_same c he).2
  rcases hst with ⟨l, hTz, hTM, hl0, hlk, rfl, rfl⟩ | ⟨hx4, hxP, hxT, hxl, hxd, rfl, rfl⟩
  · refine (takeM_step (t := (t : Int)) (l := l) hB h.sc.both.mem hN hTM hl0 (by omega) hi (by omega)).mono (fun e w' q => ?_)
    obtain ⟨q1, y, q2, q3⟩ := q
    have hsz : W.heap.size ≤ w'.heap.size := by obtain ⟨_, _, _, ho, _⟩ := q3; exact ho.size
    obtain ⟨lg1, mk1, h1, h2⟩ := h.stepB hm hz q3 (Ac.act_len _ _)
    refine ⟨by rw [hd]; exact q1, (⟨z.a, (if s.word 2 = 0 then .took else .take (t : Int)), z.b, y, lg1, mk1, .pointer (some ⟨bb, 0, none⟩)⟩ : LkL), ⟨rfl, rfl, rfl⟩, ?_, h1, hsz, h2⟩
    rw [hw]
    refine ⟨?_, ?_⟩
    · show y.done = _
      rw [q2.done]
      by_cases h0 : s'.word 2 = 0
      · simp [h0, LkS.got]
      · simp [h0, LkS.got]
    · by_cases h0 : s'.word 2 = 0
      · left; simp [h0, LkS.got]
      · right
        rw [if_neg h0]
        have hf : (s'.word 2 == 0) = false := by simpa using h0
        rw [hf] at q2
        exact ⟨rfl, _, hTz, q2, fun v hv => by
          rcases List.mem_append.1 hv with hv | hv
          · exact hl0 v hv
          · simp at hv; subst hv; exact h0, by simp; omega⟩
  · refine (leaveM_step hB h.sc.both.mem hN hx4 hxP hxT hxl hxd hi).mono (fun e w' q => ?_)
    obtain ⟨q1, y, q2, q3⟩ := q
    have hsz : W.heap.size ≤ w'.heap.size := by obtain ⟨_, _, _, ho, _⟩ := q3; exact ho.size
    obtain ⟨lg1, mk1, h1, h2⟩ := h.stepB hm hz q3 (Ac.act_len _ _)
    exact ⟨by rw [hd]; exact q1, (⟨z.a, .left, z.b, y, lg1, mk1, .pointer (some ⟨bb, 0, none⟩)⟩ : LkL), ⟨rfl, rfl, rfl⟩, ⟨q2, .inl rfl⟩, h1, hsz, h2⟩
theorem stOk_word {P : Int} {n k t : Nat} {s : StoreS} {Tk : List (Option Nat)} {z : LkL} {c : Ac} {k1 : LkS} (hst : StOk P n Tk k t s z c k1) (hi : s.inR 2) (hw : 0 ≤ s.word 2 ∧ s.word 2 ≤ n) (ht : t < n) : 0 ≤ (c.act s).word 2 ∧ (c.act s).word 2 ≤ n := by
  rcases hst with ⟨l, _, _, _, _, rfl, _⟩ | ⟨_, _, _, _, _, rfl, _⟩
  · simp only [Ac.act]
    split
    · rw [StoreS.acc_word hi]; omega
    · rw [StoreS.acc_word hi]; exact hw
  · simp only [Ac.act]
    rw [StoreS.acc_word hi]; omega
set_option maxRecDepth 100000 in
set_option maxHeartbeats 4000000 in
theorem lockRuns_law (c0 : Int) (f0 : (Lit.int .u8 c0).wf = true) (c1 : Int) (f1 : (Lit.int .u8 c1).wf = true) (a0 : Option Addr) (len0 cap0 : Nat) (zs0 : List Int) (a1 : Option Addr) (len1 cap1 : Nat) (zs1 : List Int) (w : World) (w0 : IsRow .u8 w a0 len0 cap0 zs0) (w1 : IsRow .u8 w a1 len1 cap1 zs1) :
    Calls Tryz.prog 4 #[.int .u8 c0, .int .u8 c1, .slice a0 len0 cap0, .slice a1 len1 cap1] w fun e w' => e = .returned (.bool true) ∧ Below w.heap.size w w' := by
  have HZ := Lib.hid w0; have HV := Lib.hid w1
  obtain ⟨hl0, hcap0⟩ := rows_len w0
  obtain ⟨hl1, hcap1⟩ := rows_len w1
  have b0 := bd_u8 f0; have b1 := bd_u8 f1
  obtain ⟨P, hP⟩ : ∃ P : Int, 1 + c0 % 20 = P := ⟨_, rfl⟩
  obtain ⟨n, hn⟩ : ∃ n : Nat, 1 + c1 % 6 = (n : Int) := ⟨(1 + c1 % 6).toNat, by omega⟩
  have p1 : 1 ≤ P := by omega
  have p2 : P ≤ 20 := by omega
  have n1 : 1 ≤ n := by omega
  have n6 : n ≤ 6 := by omega
  have hmay : Lay.may P n = true := Lay.may_iff.2 ⟨by omega, by omega, by omega, by omega⟩
  have HSET := fun W => setup_nil c0 c1 20 W b0 b1 (by omega)
  rw [hP, hn] at HSET
  replace HSET := Lib.hid HSET
  have HMAY := Lib.hid hmay
  obtain ⟨i0, hi0, hz00, hz01, hz02⟩ := info_parts infoTakeP
  have mk1 := fun W => run_make (P := Tryz.prog) W 60 64 i0 (.pointer none) Tryz.underlying60 hi0 hz00 .i64 .i64 (n : Int) (n : Int) (by omega) (by omega) (by rw [hz02]; omega) (by omega)
  obtain ⟨i1, hi1, hz10, hz11, hz12⟩ := info_parts infoLeaveP
  have mk2 := fun W => run_make (P := Tryz.prog) W 61 65 i1 (.pointer none) Tryz.underlying61 hi1 hz10 .i64 .i64 (n : Int) (n : Int) (by omega) (by omega) (by rw [hz12]; omega) (by omega)
  obtain ⟨i2, hi2, hz20, hz21, hz22⟩ := info_parts infoMP
  have mk3 := fun W => run_make (P := Tryz.prog) W 62 33 i2 (.pointer none) Tryz.underlying62 hi2 hz20 .i64 .i64 (n : Int) (n : Int) (by omega) (by omega) (by rw [hz22]; omega) (by omega)
  have hcs : (Value.pointer none).cells = #[Value.pointer none] := rfl
  simp only [Int.toNat_natCast, hz01, Nat.mul_one, hcs] at mk1
  simp only [Int.toNat_natCast, hz11, Nat.mul_one, hcs] at mk2
  simp only [Int.toNat_natCast, hz21, Nat.mul_one, hcs] at mk3
  clear hcs
  clear w0 w1 hmay f0 f1 b0 b1 hP hn hi0 hi1 hi2 hz00 hz01 hz02 hz10 hz11 hz12 hz20 hz21 hz22
  go_enter Tryz.func4, Tryz.ntmps4
  go_upto_region 5 with (first
    | (go_at_call 20; refine (HSET.out _).mono ?_; rintro e w2 ⟨rfl, ho⟩; have HO0 := Lib.hid ho; clear ho)
    | (go_at_call 9; refine (arenas_ok P n _ HMAY.out).mono ?_; rintro e w3 ⟨ab, sb, sm, rb, rg, bb, tb, tm, ub, fb, rfl, hB, ho, hlow⟩; have HB := Lib.hid hB; have HO := Lib.hid ho; have HLOW := Lib.hid hlow; clear hB ho hlow))
  obtain ⟨stb, hstb⟩ : ∃ stb, stb = w2.heap.size := ⟨_, rfl⟩
  have hset : Blk w3 w2.heap.size #[.int .i64 P, .int .i64 n, .slice none 0 0] 26 := (Blk.new w2 _ _).only HO.out id
  have s1 : w3.cell? ⟨w2.heap.size, 1, none⟩ = some (.int .i64 n) := hset.cell 1
  have s1a : ∀ o, (w3.alloc o).cell? ⟨w2.heap.size, 1, none⟩ = some (.int .i64 n) := fun o => (hset.alloc o).cell 1
  rw [← hstb] at hset
  have HST := Lib.hid hset
  have hz3 := HO.out.size
  have hlow := HLOW.out
  simp only [World.size_alloc] at hz3 hlow
  have hz2 := HO0.out.size
  have HA3 := Lib.hid ((HO0.out.alloc (.cells #[.int .i64 P, .int .i64 n, .slice none 0 0] 26)).thenF HO.out)
  have HLO := Lib.hid (show w.heap.size ≤ ab ∧ w.heap.size ≤ sb ∧ w.heap.size ≤ sm ∧ w.heap.size ≤ bb ∧ w.heap.size ≤ tb ∧ w.heap.size ≤ tm by omega)
  clear hset hlow HLOW HO HO0 HSET
  go_cut [9, 12, 13] (fun x y z wc => ∃ tkb lvb, x = .pointer (some ⟨stb, 0, none⟩) ∧ y = .slice (some ⟨tkb, 0, none⟩) n n ∧ z = .slice (some ⟨lvb, 0, none⟩) n n ∧ Hid (Adds w3 wc ∧ Blk wc tkb ((List.replicate n (none : Option Nat)).map ptrV).toArray 64 ∧ Blk wc lvb ((List.replicate n (none : Option Nat)).map ptrV).toArray 65 ∧ w3.heap.size ≤ tkb ∧ w3.heap.size ≤ lvb ∧ tkb < w3.heap.size + 2 ∧ lvb < w3.heap.size + 2 ∧ wc.heap.size = w3.heap.size + 2))
  case first =>
    go_region
    all_goals
      go_wp2_with fail
      go_meet
      first
        | exact ⟨w3.heap.size, w3.heap.size + 1, by rw [hstb], rfl, rfl, Lib.hid ⟨(((Only.refl _ w3).alloc _).alloc _).drew, by rw [← madeCells_ptr]; exact (Blk.new w3 _ _).alloc _, by rw [← madeCells_ptr]; exact blk_new1 _ _ _ _, by omega, by omega, by omega, by omega, by simp⟩⟩
        | exact ⟨w3.heap.size + 1, w3.heap.size, by rw [hstb], rfl, rfl, Lib.hid ⟨(((Only.refl _ w3).alloc _).alloc _).drew, by rw [← madeCells_ptr]; exact blk_new1 _ _ _ _, by rw [← madeCells_ptr]; exact (Blk.new w3 _ _).alloc _, by omega, by omega, by omega, by omega, by simp⟩⟩
  case rest =>
    obtain ⟨tkb, lvb, rfl, rfl, rfl, HC⟩ := hcut
    have s2 : wc.cell? ⟨stb, 1, none⟩ = some (.int .i64 n) := (HST.out.only HC.out.1 id).cell 1
    clear s1 s1a hstb mk1 mk2
    go_upto_region 7 with fail
    obtain ⟨qb, hqb⟩ : ∃ qb, qb = wc.heap.size := ⟨_, rfl⟩
    obtain ⟨wi, hwi⟩ : ∃ wi, wi = wc.alloc (.cells (madeCells #[Value.pointer none] n) 33) := ⟨_, rfl⟩
    have hI0 : LH w ab sb sm rb rg bb tb tm ub fb tkb lvb qb stb (wc.heap.size + 1) n P wi (StoreS.begun (Lay.words P n).toNat 0 1) (StoreS.begun (Lay.words P n).toNat 0 1) (List.replicate n none) (List.replicate n none) (List.replicate n none) := by
      obtain ⟨a1, a2, a3, a4, a5, a6, a7, a8⟩ := HC.out
      have hA : Adds wc wi := by rw [hwi]; exact (Only.refl _ _).alloc _
      have hz := HA3.out.size
      have hlen : (StoreS.begun (Lay.words P n).toNat 0 1).ws.length = (Lay.words P n).toNat := begun_len _ _ _
      refine ⟨⟨HB.out.adds (a1.thenF hA), hlen, hlen, Lanes.empty n, fun t z e => ?_, HLO.out, (HA3.out.thenF a1).thenF hA⟩, by simp, by simp, by simp, a2.only hA id, a3.only hA id, ?_, (HST.out.only a1 id).only hA id, ⟨by omega, by omega, by omega, by omega, by omega, by omega⟩⟩
      · rw [List.getElem?_replicate] at e; split at e <;> simp at e
      · rw [hwi, hqb]
        have := Blk.new wc (madeCells #[Value.pointer none] n) 33
        rw [madeCells_ptr] at this ⊢
        simpa using this
    have HI0 := Lib.hid hI0
    obtain ⟨lo, hlo⟩ : ∃ lo, lo = wc.heap.size + 1 := ⟨_, rfl⟩
    rw [← hlo] at HI0
    have hlz : lo ≤ wi.heap.size := by rw [hlo, hwi]; simp
    have HW0 := Lib.hid (show 0 ≤ (StoreS.begun (Lay.words P n).toNat 0 1).word 2 ∧ (StoreS.begun (Lay.words P n).toNat 0 1).word 2 ≤ n by
      rw [begun_other _ _ _ (by omega)]; exact ⟨Int.le_refl _, by omega⟩)
    rw [← hqb] at hlo
    go_wp2_with fail
    rw [← hwi, ← hqb]
    clear hI0 hwi HC HB HST HA3 HLO s2 mk3 hz3 hz2 hlo hqb
    go_loopw [15] (fun i wr => ∃ (k : Nat) (s s' : StoreS) (L : List (Option LkL)) (Tk Lv : List (Option Nat)), k ≤ len0 ∧ k ≤ 300 ∧ i = .int .i64 k ∧ Hid (LH w ab sb sm rb rg bb tb tm ub fb tkb lvb qb stb lo n P wr s s' L Tk Lv) ∧ Hid (s.ws = s'.ws ∧ 0 ≤ s.word 2 ∧ s.word 2 ≤ n ∧ lo ≤ wr.heap.size) ∧ Hid (∀ t z, L[t]? = some (some z) → LnOk P n Tk Lv k t z)) (fun i _ => len0 - (intOf i).toNat)
    case atStart => exact ⟨0, _, _, _, _, _, Nat.zero_le _, Nat.zero_le _, rfl, HI0, Lib.hid ⟨rfl, HW0.out.1, HW0.out.2, hlz⟩, Lib.hid (fun t z e => by rw [List.getElem?_replicate] at e; split at e <;> simp at e)⟩
    case round =>
      obtain ⟨k, s, s', L, Tk, Lv, hk, hk3, rfl, HI, HE, HL⟩ := hrel
      clear HI0 hlz HW0
      by_cases c1 : k < len0
      · by_cases c3 : k < 300
        · obtain ⟨b, off, rfl, hb, hc, hcw⟩ := rows_at HZ.out c1
          obtain ⟨x, hx⟩ : ∃ x, x = zs0.getD k 0 := ⟨_, rfl⟩
          rw [← hx] at hc hcw
          have hxb := bd_u8 hcw
          have HD0 : Hid (∀ W, Adds w W → W.cell? ⟨b, off + k, none⟩ = some (.int .u8 x)) := Lib.hid (fun W hA => (hA.cellF (p := ⟨b, off + k, none⟩) hb id).trans hc)
          have s1 : wr.cell? ⟨stb, 1, none⟩ = some (.int .i64 n) := HI.out.set.cell 1
          clear hx hc hcw hb
          go_upto_region 11 with (go_at_call 21; refine (who_any HV.out HI.out.sc.adds k n ⟨by omega, by omega⟩ (by omega)).mono ?_; rintro e v1 ⟨t, rfl, ht, rfl⟩)
          have HSC := Lib.hid HI.out.sc.lanes
          obtain ⟨oz, hLt⟩ : ∃ oz, L[t]? = some oz := ⟨_, List.getElem?_eq_getElem (by rw [HI.out.ll]; exact ht)⟩
          obtain ⟨oT, hTt⟩ : ∃ oT, Tk[t]? = some oT := ⟨_, List.getElem?_eq_getElem (by rw [HI.out.lt]; exact ht)⟩
          obtain ⟨oV, hVt⟩ : ∃ oV, Lv[t]? = some oV := ⟨_, List.getElem?_eq_getElem (by rw [HI.out.lv]; exact ht)⟩
          obtain ⟨-, -, o1, -⟩ := HI.out.cells hTt hVt hLt
          have HLt := Lib.hid hLt; have HTt := Lib.hid hTt; have HVt := Lib.hid hVt
          clear hLt hTt hVt
          obtain ⟨qa, hqa⟩ : ∃ qa : Option Addr, ptrV (oz.map Lane.b) = .pointer qa := ⟨_, rfl⟩
          rw [hqa] at o1
          have HQA := Lib.hid hqa
          clear hqa
          have hq := fun W => refP_none W qa
          have g1 : (0 : Int) ≤ (t : Int) := by omega
          have g2 : (t : Int) < n := by omega
          go_upto_if 58 with fail
          go_cut [16] (fun y wd => y = .int .i64 (t : Int) ∧ ∃ (z : LkL) (L' : List (Option LkL)) (Tk' Lv' : List (Option Nat)), Hid (LH w ab sb sm rb rg bb tb tm ub fb tkb lvb qb stb lo n P wd s s' L' Tk' Lv' ∧ lo ≤ wd.heap.size) ∧ Hid (L'[t]? = some (some z)) ∧ Hid (∀ j y, L'[j]? = some (some y) → LnOk P n Tk' Lv' k j y))
          case first =>
            rcases oz with _ | z
            · obtain rfl : qa = none := by have := HQA.out; simpa [ptrV] using this.symm
              clear hq
              have m2 : wr.cell? ⟨bb, 2, none⟩ = some (.int .i64 P) := HI.out.sc.both.mem.head.cell 2
              have m3 : wr.cell? ⟨bb, 3, none⟩ = some (.int .i64 n) := HI.out.sc.both.mem.head.cell 3
              go_upto_region 12 with fail
              iterate 22 go_step
              refine wpList_store_row rfl 52 _ _ rfl wr.heap.size (mCellsA 4 P n t) ?_ rfl 52 mZ ?_ infoM rfl (by simp [Value.oneCell']) ?_
              · simp [Act.eval]
              · simpa using heap_alloc_new wr _
              have hg : (wr.alloc (.cells mZ 52)).heap[wr.heap.size]? = some (.cells mZ 52 (0, 0)) := by simpa using heap_alloc_new wr _
              obtain ⟨wX, hX⟩ : ∃ wX, wX = (wr.alloc (.cells mZ 52)).setRow wr.heap.size (mCellsA 4 P n t) := ⟨_, rfl⟩
              rw [← hX]
              have HX := Lib.hid (show Blk wX wr.heap.size (mCellsA 4 P n t) 52 by rw [hX]; exact setRow_heap _ _ mZ _ _ _ hg)
              have HA := Lib.hid (show Adds wr wX by rw [hX]; exact adds_setRow ((Only.refl _ _).alloc _) (by omega) _)
              have HIX := Lib.hid (HI.out.add HA.out)
              have hww := HI.out.sc.adds.size
              obtain ⟨⟨p1', p2'⟩, ⟨p3', p4'⟩, -⟩ := HIX.out.cells HTt.out HVt.out HLt.out
              obtain ⟨hn1, hn2, hn3⟩ := HIX.out.nes
              clear hX hg m2 m3 s1 o1
              go_upto_region 14 with fail
              obtain ⟨wY, hwY⟩ : ∃ wY, wY = (wX.setCell ⟨tkb, t, none⟩ (.pointer none)).setCell ⟨lvb, t, none⟩ (.pointer none) := ⟨_, rfl⟩
              have hlow := HI.out.low; have hlw := HE.out.2.2.2
              have HIY := Lib.hid (show LH w ab sb sm rb rg bb tb tm ub fb tkb lvb qb stb lo n P wY s s' L (Tk.set t none) (Lv.set t none) by rw [hwY]; exact (HIX.out.setT (t := t) none).setL (t := t) none)
              have HXY := Lib.hid (show Blk wY wr.heap.size (mCellsA 4 P n t) 52 by rw [hwY]; exact (HX.out.setCell_other (by omega) t _).setCell_other (by omega) t _)
              rw [← hwY]
              have d0 := HD0.out wY HIY.out.sc.adds
              obtain ⟨r, hr⟩ : ∃ r, r = x % 2 := ⟨_, rfl⟩
              have q1 : Int.tmod x 2 = r := by rw [Int.tmod_eq_emod_of_nonneg hxb.1, hr]
              have q2 : x % 2 = r := hr.symm
              have HLEN := Lib.hid (show t < Tk.length ∧ t < Lv.length by rw [HI.out.lt, HI.out.lv]; exact ⟨ht, ht⟩)
              have HTS : Hid ((Tk.set t none)[t]? = some none) := Lib.hid (List.getElem?_set_self HLEN.out.1)
              have HVS : Hid ((Lv.set t none)[t]? = some none) := Lib.hid (List.getElem?_set_self HLEN.out.2)
              have HDT : Hid (decide (0 ≤ (t : Int) ∧ (t : Int) < (n : Int)) = true) := Lib.hid (by simp; omega)
              have HXO : Hid (∀ q, (lkM q P n t).Ok) := Lib.hid (fun q => ⟨Nat.le_refl _, fun e => by cases e⟩)
              clear hwY hr p1' p2' p3' p4' hn1 hn2 hn3 HIX HX HA
              by_cases hr0 : r = 0
              · have c4 : wY.cell? ⟨wr.heap.size, 0, none⟩ = some (.int .i64 4) := HXY.out.cell 0
                have f4 : wY.frozen? ⟨wr.heap.size, 0, none⟩ = false := HXY.out.frozen 0
                have hI3 := HIY.out.newM HSC.out HXY.out (by simp) (Nat.le_refl _) hww (only_at wY wr.heap.size 0 (.int .i64 3))
                have hX3 : Blk (wY.setCell ⟨wr.heap.size, 0, none⟩ (.int .i64 3)) wr.heap.size (mCellsA 3 P n t) 52 := HXY.out.setCell 0 (.int .i64 3)
                have HI3 := Lib.hid hI3; have HX3 := Lib.hid hX3
                clear hI3 hX3
                go_upto_region 16 with fail
                obtain ⟨wT, hwT⟩ : ∃ wT, wT = wY.setCell ⟨wr.heap.size, 0, none⟩ (.int .i64 3) := ⟨_, rfl⟩
                rw [← hwT] at HI3 HX3 ⊢
                clear hwT c4 f4
                have m2 : wT.cell? ⟨bb, 2, none⟩ = some (.int .i64 P) := HI3.out.sc.both.mem.head.cell 2
                have m3 : wT.cell? ⟨bb, 3, none⟩ = some (.int .i64 n) := HI3.out.sc.both.mem.head.cell 3
                go_upto_region 18 with (go_at_call 22; refine (newTake_ok P n t _ HMAY.out HDT.out).mono ?_; rintro e v2 ⟨ma, rfl, htk, hoA⟩; have hml := htk.low; have HTK := Lib.hid htk; have HI4 := Lib.hid (HI3.out.add hoA); have HX4 := Lib.hid (HX3.out.only hoA id); obtain ⟨⟨r1, r2⟩, -⟩ := HI4.out.cells HTS.out HVS.out HLt.out; clear htk hoA)
                have hlx := HX3.out.lt
                have hk4 : LkA P n lo v2 ma (.take t) := HTK.out.mono (by omega)
                have hk5 := hk4.row HI4.out.trow (by simp) HI4.out.low.2.2.2.1 (only_at v2 tkb t (.pointer (some ⟨ma, 0, none⟩)))
                have hI5 := HI4.out.setT (t := t) (some ma)
                have hX5 := HX4.out.setCell_other (show wr.heap.size ≠ tkb by omega) t (.pointer (some ⟨ma, 0, none⟩))
                have HI5 := Lib.hid hI5; have HX5 := Lib.hid hX5; have HK5 := Lib.hid hk5
                clear hI5 hX5 hk5 hk4
                obtain ⟨wZ, hwZ⟩ : ∃ wZ, wZ = v2.setCell ⟨tkb, t, none⟩ (.pointer (some ⟨ma, 0, none⟩)) := ⟨_, rfl⟩
                change Hid (LH w ab sb sm rb rg bb tb tm ub fb tkb lvb qb stb lo n P (v2.setCell ⟨tkb, t, none⟩ (.pointer (some ⟨ma, 0, none⟩))) s s' L _ _) at HI5
                rw [← hwZ] at HI5 HX5 HK5 ⊢
                clear hwZ r1 r2 m2 m3
                iterate 7 go_step
                refine wpList_load_row rfl 52 _ rfl wr.heap.size rfl 52 (mCellsA 3 P n t) (0, 0) _ HX5.out Tryz.underlying52 rfl infoM ?_
                have HTS2 : Hid (((Tk.set t none).set t (some ma))[t]? = some (some ma)) := Lib.hid (List.getElem?_set_self (by simpa using HLEN.out.1))
                go_wp2_with (go_at_call 13; refine (mNew_any (x := lkM 3 P n t) rfl rfl (HXO.out _) _).mono ?_; rintro e v3 ⟨mq, rfl, hmq, hoQ, hlQ⟩; have HMQ := Lib.hid hmq; have HI6 := Lib.hid (HI5.out.add hoQ); have HX6 := Lib.hid (HX5.out.only hoQ id); have HK6 := Lib.hid ((lkO P n lo).keep HK5.out hoQ id (fun _ _ _ _ => id)); obtain ⟨-, -, ⟨r3, r4⟩⟩ := HI6.out.cells HTS2.out HVS.out HLt.out; replace r3 : _ = some (Value.pointer none) := r3; clear hmq hoQ)
                go_meet
                have hlz := HX5.out.lt
                have hF := HI6.out.begin (t := t) (z := (⟨ma, .take t, mq, (lkM 3 P n t).fresh, .slice none 0 0, .slice none 0 0, .pointer none⟩ : LkL)) HSC.out hww HK6.out HMQ.out rfl (by show wr.heap.size ≤ ma; omega) (by show wr.heap.size ≤ mq; omega)
                have hsz := (HX6.out.setCell_other (show wr.heap.size ≠ qb by omega) t (.pointer (some ⟨mq, 0, none⟩))).lt
                refine ⟨rfl, (⟨ma, .take t, mq, (lkM 3 P n t).fresh, .slice none 0 0, .slice none 0 0, .pointer none⟩ : LkL), _, _, _, Lib.hid ⟨hF, by omega⟩, Lib.hid (hF.at ht), Lib.hid (fun j y e => ?_)⟩
                rcases set_cases e with ⟨rfl, e2⟩ | ⟨hj, e2⟩
                · injection e2 with e2; subst e2; exact .inl ⟨[], rfl, HTS2.out, ⟨rfl, rfl, rfl, rfl, rfl, rfl⟩, by simp, by simp⟩
                · exact (HL.out j y e2).sets hj (by simp [List.getElem?_set_ne (Ne.symm hj)]) (by simp [List.getElem?_set_ne (Ne.symm hj)])
              · have HI3 := HIY; have HX3 := HXY
                obtain ⟨wT, hwT⟩ : ∃ wT, wT = wY := ⟨_, rfl⟩
                go_upto_region 17 with fail
                rw [← hwT] at HI3 HX3 ⊢
                clear hwT
                have m2 : wT.cell? ⟨bb, 2, none⟩ = some (.int .i64 P) := HI3.out.sc.both.mem.head.cell 2
                have m3 : wT.cell? ⟨bb, 3, none⟩ = some (.int .i64 n) := HI3.out.sc.both.mem.head.cell 3
                go_upto_region 18 with (go_at_call 23; refine (newLeave_ok P n _ HMAY.out).mono ?_; rintro e v2 ⟨ma, rfl, htk, hoA, hml⟩; have HTK := Lib.hid htk; have HI4 := Lib.hid (HI3.out.add hoA); have HX4 := Lib.hid (HX3.out.only hoA id); obtain ⟨-, ⟨r1, r2⟩, -⟩ := HI4.out.cells HTS.out HVS.out HLt.out; clear htk hoA)
                have hlx := HX3.out.lt
                have hk4 : LkA P n lo v2 ma .leave := HTK.out
                have hk5 := hk4.row HI4.out.lrow (by simp) HI4.out.low.2.2.2.2.1 (only_at v2 lvb t (.pointer (some ⟨ma, 0, none⟩)))
                have hI5 := HI4.out.setL (t := t) (some ma)
                have hX5 := HX4.out.setCell_other (show wr.heap.size ≠ lvb by omega) t (.pointer (some ⟨ma, 0, none⟩))
                have HI5 := Lib.hid hI5; have HX5 := Lib.hid hX5; have HK5 := Lib.hid hk5
                clear hI5 hX5 hk5 hk4
                obtain ⟨wZ, hwZ⟩ : ∃ wZ, wZ = v2.setCell ⟨lvb, t, none⟩ (.pointer (some ⟨ma, 0, none⟩)) := ⟨_, rfl⟩
                change Hid (LH w ab sb sm rb rg bb tb tm ub fb tkb lvb qb stb lo n P (v2.setCell ⟨lvb, t, none⟩ (.pointer (some ⟨ma, 0, none⟩))) s s' L _ _) at HI5
                rw [← hwZ] at HI5 HX5 HK5 ⊢
                clear hwZ r1 r2 m2 m3
                iterate 7 go_step
                refine wpList_load_row rfl 52 _ rfl wr.heap.size rfl 52 (mCellsA 4 P n t) (0, 0) _ HX5.out Tryz.underlying52 rfl infoM ?_
                have HVS2 : Hid (((Lv.set t none).set t (some ma))[t]? = some (some ma)) := Lib.hid (List.getElem?_set_self (by simpa using HLEN.out.2))
                go_wp2_with (go_at_call 13; refine (mNew_any (x := lkM 4 P n t) rfl rfl (HXO.out _) _).mono ?_; rintro e v3 ⟨mq, rfl, hmq, hoQ, hlQ⟩; have HMQ := Lib.hid hmq; have HI6 := Lib.hid (HI5.out.add hoQ); have HX6 := Lib.hid (HX5.out.only hoQ id); have HK6 := Lib.hid ((lkO P n lo).keep HK5.out hoQ id (fun _ _ _ _ => id)); obtain ⟨-, -, ⟨r3, r4⟩⟩ := HI6.out.cells HTS.out HVS2.out HLt.out; replace r3 : _ = some (Value.pointer none) := r3; clear hmq hoQ)
                go_meet
                have hlz := HX5.out.lt
                have hF := HI6.out.begin (t := t) (z := (⟨ma, .leave, mq, (lkM 4 P n t).fresh, .slice none 0 0, .slice none 0 0, .pointer none⟩ : LkL)) HSC.out hww HK6.out HMQ.out rfl (by show wr.heap.size ≤ ma; omega) (by show wr.heap.size ≤ mq; omega)
                have hsz := (HX6.out.setCell_other (show wr.heap.size ≠ qb by omega) t (.pointer (some ⟨mq, 0, none⟩))).lt
                refine ⟨rfl, (⟨ma, .leave, mq, (lkM 4 P n t).fresh, .slice none 0 0, .slice none 0 0, .pointer none⟩ : LkL), _, _, _, Lib.hid ⟨hF, by omega⟩, Lib.hid (hF.at ht), Lib.hid (fun j y e => ?_)⟩
                rcases set_cases e with ⟨rfl, e2⟩ | ⟨hj, e2⟩
                · injection e2 with e2; subst e2; exact .inr ⟨rfl, HTS.out, HVS2.out, rfl, rfl, rfl, rfl, rfl⟩
                · exact (HL.out j y e2).sets hj (by simp [List.getElem?_set_ne (Ne.symm hj)]) (by simp [List.getElem?_set_ne (Ne.symm hj)])
            · obtain rfl : qa = some ⟨z.b, 0, none⟩ := by have := HQA.out; simpa [ptrV] using this.symm
              go_wp2_with fail
              go_meet
              exact ⟨rfl, z, L, Tk, Lv, Lib.hid ⟨HI.out, HE.out.2.2.2⟩, HLt, HL⟩
          -- REST
          case rest =>
            obtain ⟨rfl, z, L', Tk', Lv', HI2, HLz, HL2⟩ := hcut
            clear HI HL HLt HTt HVt HQA HSC hq o1 s1 HD0 hxb
            go_upto_region 20 with fail
            obtain ⟨oT, hTt⟩ : ∃ oT, Tk'[t]? = some oT := ⟨_, List.getElem?_eq_getElem (by rw [HI2.out.1.lt]; exact ht)⟩
            obtain ⟨oV, hVt⟩ : ∃ oV, Lv'[t]? = some oV := ⟨_, List.getElem?_eq_getElem (by rw [HI2.out.1.lv]; exact ht)⟩
            have hIA := HI2.out.1.add ((Only.refl (fun _ => False) wc).alloc (.cells didZ 48))
            have hdb := Blk.new wc didZ 48
            have hsz := HI2.out.2
            have hsw := HI2.out.1.sc.adds.size
            obtain ⟨wA, hwA⟩ : ∃ wA, wA = wc.alloc (.cells didZ 48) := ⟨_, rfl⟩
            rw [← hwA] at hIA hdb ⊢
            have HIA := Lib.hid hIA; have HDB := Lib.hid hdb
            have HSZ := Lib.hid (show lo ≤ wA.heap.size by rw [hwA]; simp; omega)
            have hR2 : s.inR 2 ∧ s'.inR 2 ∧ 1 < s.ws.length := by
              have := (mem_words_bd HMAY.out).1
              have h1 := hIA.sc.len; have h2 := hIA.sc.len'
              refine ⟨⟨by omega, by omega⟩, ⟨by omega, by omega⟩, by omega⟩
            have HR2 := Lib.hid hR2
            obtain ⟨⟨t1, -⟩, ⟨t2, -⟩, -⟩ := hIA.cells hTt hVt HLz.out
            obtain ⟨qt, hqt⟩ : ∃ qt : Option Addr, ptrV oT = .pointer qt := ⟨_, rfl⟩
            obtain ⟨qv, hqv⟩ : ∃ qv : Option Addr, ptrV oV = .pointer qv := ⟨_, rfl⟩
            rw [hqt] at t1; rw [hqv] at t2
            have hnn := fun W => take_nonnil qt W
            have HTt := Lib.hid hTt; have HVt := Lib.hid hVt; have HQT := Lib.hid hqt; have HQV := Lib.hid hqv
            clear hIA hdb hR2 hTt hVt hqt hqv hwA
            go_upto_if 105 with fail
            go_cut [18, 19] (fun d g wd => ∃ (c : Ac) (k1 : LkS) (db : Nat), d = .pointer (some ⟨db, 0, none⟩) ∧ g = .bool k1.got ∧ Hid (LH w ab sb sm rb rg bb tb tm ub fb tkb lvb qb stb lo n P wd (c.act s) s' (L'.set t (some { z with k := k1 })) Tk' Lv' ∧ lo ≤ wd.heap.size) ∧ Hid (Blk wd db (didA (c.act s)) 48) ∧ Hid (StOk P n Tk' k t s z c k1))
            case first =>
              have HL3 := HL2.out t z HLz.out
              rcases HL3 with ⟨l, hk0, hTz, hTM, hl0, hlk⟩ | ⟨hk0, hTz, hVz, hx4, hxP, hxT, hxl, hxd⟩
              · obtain ⟨sA, hsA⟩ : ∃ sA, sA = (Ac.cas 2 0 ((t : Int) + 1)).act s := ⟨_, rfl⟩
                obtain ⟨k1, hk1⟩ : ∃ k1 : LkS, k1 = if s.word 2 = 0 then .took else .take (t : Int) := ⟨_, rfl⟩
                have hkk : k1 = .take (t : Int) ∨ k1 = .took := by rw [hk1]; split <;> simp
                have HSTEP : Hid (∀ W, Adds wA W → Calls Tryz.prog 24 #[.pointer (some ⟨z.a, 0, none⟩), .pointer (some ⟨ab, 0, none⟩)] W fun e w2 => e = .returned (.agg (didA sA)) ∧ Hid (LH w ab sb sm rb rg bb tb tm ub fb tkb lvb qb stb lo n P w2 sA s' (L'.set t (some { z with k := k1 })) Tk' Lv' ∧ Blk w2 wc.heap.size didZ 48)) := Lib.hid (fun W hA => by
                  have hI := HIA.out.add hA
                  refine (takeA (j := (t : Int)) (by rw [← hk0]; exact hI.sc.lanes.A t z HLz.out) hI.sc.both.yard HR2.out.1 HR2.out.2.2 (by omega)).mono (fun e w2 q => ?_)
                  rw [← hsA, ← hk1] at q
                  obtain ⟨q1, q2, q3, q4⟩ := q
                  obtain ⟨h1, h2⟩ := hI.stepA HMAY.out HLz.out q4 q2 q3 (by rw [hsA]; exact Ac.act_len _ _)
                  exact ⟨q1, Lib.hid ⟨h1, h2 _ _ _ (HDB.out.only hA id) (by unfold RowOk; decide)⟩⟩)
                have HST := Lib.hid (show StOk P n Tk' k t s z (.cas 2 0 (t + 1)) k1 from .inl ⟨l, hTz, hTM, hl0, hlk, rfl, hk1⟩)
                have HKK := Lib.hid hkk; have HSA := Lib.hid hsA
                obtain rfl : qt = some ⟨z.a, 0, none⟩ := by
                  have h1 := HTt.out; rw [hTz] at h1; injection h1 with h1
                  have h2 := HQT.out; rw [← h1] at h2; simpa [ptrV] using h2.symm
                clear hnn hk0 hTz hTM hl0 hlk hsA hk1 hkk t2
                go_wp2_with fail
                go_region_held3 (fun W => W.cell? ⟨tkb, t, none⟩ = some (.pointer (some ⟨z.a, 0, none⟩)))
                  (first | (exact t1) | (exact u1) | (exact keep4 hne.1 u1))
                  (first
                  | (go_at_call 24; refine (HSTEP.out _ ((Only.refl _ _).drew)).mono ?_; rintro e v1 ⟨rfl, HV1⟩; obtain ⟨⟨u1, -⟩, -⟩ := HV1.out.1.cells HTt.out HVt.out (HV1.out.1.at ht); rw [HQT.out] at u1; obtain ⟨d0, d1, d2, d3, -⟩ := HV1.out.2.four; have e0 := HV1.out.2.frozen 0; have e1 := HV1.out.2.frozen 1; have e2 := HV1.out.2.frozen 2; have e3 := HV1.out.2.frozen 3; have hne := HV1.out.1.dne HV1.out.2)
                  | (go_at_call 25; refine (takeA_done (HV1.out.1.sc.lanes.A t _ (HV1.out.1.at ht)) HKK.out).mono ?_; rintro e v2 ⟨rfl, rfl⟩))
                all_goals
                  go_wp2_with fail
                  go_meet
                  have h4 := only4 v1 wc.heap.size (.int .i64 sA.k) (.int .i64 sA.pos) (.int .u64 sA.old) (.int .u64 sA.new)
                  have h5 := HV1.out.1.did HV1.out.2 (by simp) hsw h4
                  have h6 := blk4 HV1.out.2 (.int .i64 sA.k) (.int .i64 sA.pos) (.int .u64 sA.old) (.int .u64 sA.new)
                  have h7 := h6.lt
                  refine ⟨.cas 2 0 ((t : Int) + 1), k1, _, rfl, rfl, ?_, ?_, HST⟩
                  · rw [← HSA.out]; exact Lib.hid ⟨h5, by omega⟩
                  · rw [← HSA.out]; exact Lib.hid h6
              · obtain ⟨sA, hsA⟩ : ∃ sA, sA = (Ac.put 2 0).act s := ⟨_, rfl⟩
                have HSTEP : Hid (∀ W, Adds wA W → Calls Tryz.prog 26 #[.pointer (some ⟨z.a, 0, none⟩), .pointer (some ⟨ab, 0, none⟩)] W fun e w2 => e = .returned (.agg (didA sA)) ∧ Hid (LH w ab sb sm rb rg bb tb tm ub fb tkb lvb qb stb lo n P w2 sA s' (L'.set t (some { z with k := .left })) Tk' Lv' ∧ Blk w2 wc.heap.size didZ 48)) := Lib.hid (fun W hA => by
                  have hI := HIA.out.add hA
                  refine (leaveA (by rw [← hk0]; exact hI.sc.lanes.A t z HLz.out) hI.sc.both.yard HR2.out.1 HR2.out.2.2).mono (fun e w2 q => ?_)
                  rw [← hsA] at q
                  obtain ⟨q1, q2, q3, q4⟩ := q
                  obtain ⟨h1, h2⟩ := hI.stepA HMAY.out HLz.out q4 q2 q3 (by rw [hsA]; exact Ac.act_len _ _)
                  exact ⟨q1, Lib.hid ⟨h1, h2 _ _ _ (HDB.out.only hA id) (by unfold RowOk; decide)⟩⟩)
                have HST := Lib.hid (show StOk P n Tk' k t s z (.put 2 0) .left from .inr ⟨hx4, hxP, hxT, hxl, hxd, rfl, rfl⟩)
                have HSA := Lib.hid hsA
                obtain rfl : qt = none := by
                  have h1 := HTt.out; rw [hTz] at h1; injection h1 with h1
                  have h2 := HQT.out; rw [← h1] at h2; simpa [ptrV] using h2.symm
                obtain rfl : qv = some ⟨z.a, 0, none⟩ := by
                  have h1 := HVt.out; rw [hVz] at h1; injection h1 with h1
                  have h2 := HQV.out; rw [← h1] at h2; simpa [ptrV] using h2.symm
                clear hnn hk0 hTz hVz hx4 hxP hxT hxl hxd hsA t1
                go_wp2_with fail
                go_region_held3 (fun W => W.cell? ⟨lvb, t, none⟩ = some (.pointer (some ⟨z.a, 0, none⟩)))
                  (first | (exact t2) | (exact u2) | (exact keep4 hne.2.1 u2))
                  (first
                  | (go_at_call 26; refine (HSTEP.out _ ((Only.refl _ _).drew)).mono ?_; rintro e v1 ⟨rfl, HV1⟩; obtain ⟨-, ⟨u2, -⟩, -⟩ := HV1.out.1.cells HTt.out HVt.out (HV1.out.1.at ht); rw [HQV.out] at u2; obtain ⟨d0, d1, d2, d3, -⟩ := HV1.out.2.four; have e0 := HV1.out.2.frozen 0; have e1 := HV1.out.2.frozen 1; have e2 := HV1.out.2.frozen 2; have e3 := HV1.out.2.frozen 3; have hne := HV1.out.1.dne HV1.out.2)
                  | (go_at_call 27; refine (leaveA_done (HV1.out.1.sc.lanes.A t _ (HV1.out.1.at ht))).mono ?_; rintro e v2 ⟨rfl, rfl⟩))
                all_goals
                  go_wp2_with fail
                  go_meet
                  have h4 := only4 v1 wc.heap.size (.int .i64 sA.k) (.int .i64 sA.pos) (.int .u64 sA.old) (.int .u64 sA.new)
                  have h5 := HV1.out.1.did HV1.out.2 (by simp) hsw h4
                  have h6 := blk4 HV1.out.2 (.int .i64 sA.k) (.int .i64 sA.pos) (.int .u64 sA.old) (.int .u64 sA.new)
                  have h7 := h6.lt
                  refine ⟨.put 2 0, .left, _, rfl, rfl, ?_, ?_, HST⟩
                  · rw [← HSA.out]; exact Lib.hid ⟨h5, by omega⟩
                  · rw [← HSA.out]; exact Lib.hid h6
            case rest =>
              obtain ⟨c, k1, db, rfl, rfl, HI3, HD, HST⟩ := hcut
              obtain ⟨ka, hka⟩ : ∃ v, v = (c.act s).k := ⟨_, rfl⟩
              obtain ⟨kp, hkp⟩ : ∃ v, v = (c.act s).pos := ⟨_, rfl⟩
              obtain ⟨ko, hko⟩ : ∃ v, v = (c.act s).old := ⟨_, rfl⟩
              obtain ⟨kn, hkn⟩ : ∃ v, v = (c.act s).new := ⟨_, rfl⟩
              have hD := HD.out
              have hdo := fun W hA => docStep (W := W) (HI3.out.1.add hA) HMAY.out HST.out HE.out.1 HR2.out.2.1 ⟨ht, by omega⟩ (by omega)
              simp only [didA] at hD hdo
              rw [← hka, ← hkp, ← hko, ← hkn] at hD hdo
              have HB0 := Lib.hid hD
              obtain ⟨d0, d1, d2, d3, -⟩ := hD.four
              have o2 := (HI3.out.1.cells HTt.out HVt.out (HI3.out.1.at ht)).2.2.1
              replace o2 : wc.cell? ⟨qb, t, none⟩ = some (.pointer (some ⟨z.b, 0, none⟩)) := o2
              obtain ⟨dn, hdn0⟩ : ∃ d, d = k1.got := ⟨_, rfl⟩
              rw [← hdn0]
              have HDOC : Hid (∀ W, Adds wc W → Calls Tryz.prog 15 #[.pointer (some ⟨z.b, 0, none⟩), .pointer (some ⟨bb, 0, none⟩)] W fun e w' => e = .returned (.agg #[.int .i64 ka, .int .i64 kp, .int .u64 ko, .int .u64 kn]) ∧ ∃ z2 : LkL, Hid (z2.a = z.a ∧ z2.b = z.b ∧ z2.k = k1) ∧ Hid (YOk P n Tk' k t z.a z2.x k1 ∧ w'.cell? ⟨z.b, 15, none⟩ = some (.bool dn)) ∧ Hid (Blk w' db #[.int .i64 ka, .int .i64 kp, .int .u64 ko, .int .u64 kn] 48) ∧ Hid (LH w ab sb sm rb rg bb tb tm ub fb tkb lvb qb stb lo n P w' (c.act s) (c.act s') ((L'.set t (some { z with k := k1 })).set t (some z2)) Tk' Lv' ∧ lo ≤ w'.heap.size)) := Lib.hid (fun W hA => by
                refine (hdo W hA).mono (fun e w' q => ?_)
                obtain ⟨q1, z2, ⟨za, zb, zk⟩, q3, q4, q5, q6⟩ := q
                have hz2 := q4.at ht
                have hc := (q4.sc.lanes.B t z2 hz2).blk.cell 15
                rw [zb] at hc
                refine ⟨q1, z2, Lib.hid ⟨za, zb, zk⟩, Lib.hid ⟨q3, ?_⟩, Lib.hid (q6 _ _ _ (HB0.out.only hA id) (by unfold RowOk; decide)), Lib.hid ⟨q4, by have := hA.size; have := HI3.out.2; omega⟩⟩
                have h15 : w'.cell? ⟨z.b, 15, none⟩ = some (.bool z2.x.done) := hc
                rw [h15, q3.1, ← hdn0])
              have hdn : ∀ W, Sem.run Tryz.prog (binOp .neq 48 (.agg #[.int .i64 ka, .int .i64 kp, .int .u64 ko, .int .u64 kn]) (.agg #[.int .i64 ka, .int .i64 kp, .int .u64 ko, .int .u64 kn])) W = .ok (.bool false) W := fun W => by rw [did_neq]; simp
              have HR3 : Hid ((c.act s).inR 2 ∧ (c.act s').inR 2 ∧ (c.act s).word 2 < 2147483648 ∧ (c.act s).word 2 = (c.act s').word 2) := Lib.hid (by
                have h1 := stOk_word HST.out HR2.out.1 ⟨HE.out.2.1, HE.out.2.2.1⟩ ht
                refine ⟨inR_of HR2.out.1 (Ac.act_len _ _), inR_of HR2.out.2.1 (Ac.act_len _ _), by omega, ?_⟩
                unfold StoreS.word
                rw [(act_same c HE.out.1).1])
              have HDN := Lib.hid hdn0
              clear hka hkp hko hkn hD hdo hdn0 t1 t2 hnn
              go_wp2_with fail
              -- GREAT
              refine wp_region_held_drew (S := (fun W => W.cell? ⟨db, 0, none⟩ = some (.int .i64 ka) ∧ W.cell? ⟨db, 1, none⟩ = some (.int .i64 kp) ∧ W.cell? ⟨db, 2, none⟩ = some (.int .u64 ko) ∧ W.cell? ⟨db, 3, none⟩ = some (.int .u64 kn) ∧ W.cell? ⟨qb, t, none⟩ = some (.pointer (some ⟨z.b, 0, none⟩)))) (by kernel_rfl) ⟨d0, d1, d2, d3, o2⟩ (fun hHeld => ?_)
              refine wpAnyH_take (i := 0) (v := (.agg #[.int .i64 ka, .int .i64 kp, .int .u64 ko, .int .u64 kn])) rfl (by kernel_rfl) (by kernel_rfl) (by kernel_rfl) (fun _ _ _ h => h) (Or.inl ⟨by rfl, fun W hS => by (obtain ⟨q1, q2, q3, q4, q5⟩ := hS; go_simp; done)⟩) hHeld ?_
              try simp only [Act.put, List.getElem_toArray, List.getElem_cons_succ, List.getElem_cons_zero, List.setIfInBounds_toArray, List.set_cons_zero, List.set_cons_succ]
              refine wpAnyH_take (i := 1) (v := (.slice (some ⟨qb, 0, none⟩) n n)) rfl (by kernel_rfl) (by kernel_rfl) (by kernel_rfl) (fun _ _ _ h => h) (Or.inl ⟨by rfl, fun W hS => by first | rfl | (go_simp; done)⟩) hHeld ?_
              try simp only [Act.put, List.getElem_toArray, List.getElem_cons_succ, List.getElem_cons_zero, List.setIfInBounds_toArray, List.set_cons_zero, List.set_cons_succ]
              refine wpAnyH_take (i := 2) (v := (.int .i64 (t : Int))) rfl (by kernel_rfl) (by kernel_rfl) (by kernel_rfl) (fun _ _ _ h => h) (Or.inl ⟨by rfl, fun W hS => by first | rfl | (go_simp; done)⟩) hHeld ?_
              try simp only [Act.put, List.getElem_toArray, List.getElem_cons_succ, List.getElem_cons_zero, List.setIfInBounds_toArray, List.set_cons_zero, List.set_cons_succ]
              refine wpAnyH_take (i := 3) (v := (.pointer (some ⟨qb, t, none⟩))) rfl (by kernel_rfl) (by kernel_rfl) (by kernel_rfl) (fun _ _ _ h => h) (Or.inl ⟨by rfl, fun W hS => by first | rfl | (go_simp; done)⟩) hHeld ?_
              try simp only [Act.put, List.getElem_toArray, List.getElem_cons_succ, List.getElem_cons_zero, List.setIfInBounds_toArray, List.set_cons_zero, List.set_cons_succ]
              refine wpAnyH_take (i := 4) (v := (.pointer (some ⟨z.b, 0, none⟩))) rfl (by kernel_rfl) (by kernel_rfl) (by kernel_rfl) (fun _ _ _ h => h) (Or.inl ⟨by rfl, fun W hS => by (obtain ⟨q1, q2, q3, q4, q5⟩ := hS; go_simp; done)⟩) hHeld ?_
              try simp only [Act.put, List.getElem_toArray, List.getElem_cons_succ, List.getElem_cons_zero, List.setIfInBounds_toArray, List.set_cons_zero, List.set_cons_succ]
              refine wpAnyH_take (i := 5) (v := (.pointer (some ⟨bb, 0, none⟩))) rfl (by kernel_rfl) (by kernel_rfl) (by kernel_rfl) (fun _ _ _ h => h) (Or.inl ⟨by rfl, fun W hS => by first | rfl | (go_simp; done)⟩) hHeld ?_
              try simp only [Act.put, List.getElem_toArray, List.getElem_cons_succ, List.getElem_cons_zero, List.setIfInBounds_toArray, List.set_cons_zero, List.set_cons_succ]
              refine wpAnyH_ready (rs := [6]) (by kernel_rfl) (by simp) (AllReadyH.cons rfl (fun K hK => ?_) AllReadyH.nil)
              simp only [List.getElem_toArray, List.getElem_cons_succ, List.getElem_cons_zero]
              go_simp
              refine (HDOC.out _ ((Only.refl _ _).drew)).mono ?_
              rintro e v2 ⟨rfl, z2, HZ2, HY, HB2, HV2⟩
              obtain ⟨e0, e1, e2, e3, -⟩ := HB2.out.four
              have e4 := (HV2.out.1.cells HTt.out HVt.out (HV2.out.1.at ht)).2.2.1
              have f4 := (HV2.out.1.cells HTt.out HVt.out (HV2.out.1.at ht)).2.2.2
              replace e4 : _ = some (Value.pointer (some ⟨z2.b, 0, none⟩)) := e4
              rw [HZ2.out.2.1] at e4
              have g15 := HY.out.2
              refine hK.out _ _ ⟨e0, e1, e2, e3, e4⟩ (fun hHeld => ?_)
              clear hK K
              try simp only [Act.put, List.getElem_toArray, List.getElem_cons_succ, List.getElem_cons_zero, List.setIfInBounds_toArray, List.set_cons_zero, List.set_cons_succ]
              refine wpAnyH_mono (S2 := fun W => W.cell? ⟨db, 0, none⟩ = some (.int .i64 ka) ∧ W.cell? ⟨db, 1, none⟩ = some (.int .i64 kp) ∧ W.cell? ⟨db, 2, none⟩ = some (.int .u64 ko) ∧ W.cell? ⟨db, 3, none⟩ = some (.int .u64 kn) ∧ W.cell? ⟨qb, t, none⟩ = some (.pointer (some ⟨z.b, 0, none⟩)) ∧ W.cell? ⟨z.b, 15, none⟩ = some (.bool dn)) (fun W h => ⟨h.1, h.2.1, h.2.2.1, h.2.2.2.1, h.2.2.2.2.1⟩) ?_
              replace hHeld := And.intro e0 (And.intro e1 (And.intro e2 (And.intro e3 (And.intro e4 g15))))
              clear e0 e1 e2 e3 g15
              refine wpAnyH_take (i := 7) (v := (.bool false)) rfl (by kernel_rfl) (by kernel_rfl) (by kernel_rfl) (fun _ _ _ h => h) (Or.inl ⟨by rfl, fun W hS => by first | rfl | (go_simp; done) | (simp [go_sem, hdn]; done)⟩) hHeld ?_
              try simp only [Act.put, List.getElem_toArray, List.getElem_cons_succ, List.getElem_cons_zero, List.setIfInBounds_toArray, List.set_cons_zero, List.set_cons_succ]
              refine wpAnyH_take (i := 8) (v := (.bool false)) rfl (by kernel_rfl) (by kernel_rfl) (by kernel_rfl) (fun _ _ _ h => h) (Or.inl ⟨by rfl, fun W hS => by first | rfl | (go_simp; done)⟩) hHeld ?_
              try simp only [Act.put, List.getElem_toArray, List.getElem_cons_succ, List.getElem_cons_zero, List.setIfInBounds_toArray, List.set_cons_zero, List.set_cons_succ]
              refine wpAnyH_take (i := 9) (v := (.bool dn)) rfl (by kernel_rfl) (by kernel_rfl) (by kernel_rfl) (fun _ _ _ h => h) (Or.inl ⟨by rfl, fun W hS => by first | rfl | (go_simp; done)⟩) hHeld ?_
              try simp only [Act.put, List.getElem_toArray, List.getElem_cons_succ, List.getElem_cons_zero, List.setIfInBounds_toArray, List.set_cons_zero, List.set_cons_succ]
              refine wpAnyH_take (i := 10) (v := (.slice (some ⟨qb, 0, none⟩) n n)) rfl (by kernel_rfl) (by kernel_rfl) (by kernel_rfl) (fun _ _ _ h => h) (Or.inl ⟨by rfl, fun W hS => by first | rfl | (go_simp; done)⟩) hHeld ?_
              try simp only [Act.put, List.getElem_toArray, List.getElem_cons_succ, List.getElem_cons_zero, List.setIfInBounds_toArray, List.set_cons_zero, List.set_cons_succ]
              refine wpAnyH_take (i := 11) (v := (.int .i64 (t : Int))) rfl (by kernel_rfl) (by kernel_rfl) (by kernel_rfl) (fun _ _ _ h => h) (Or.inl ⟨by rfl, fun W hS => by first | rfl | (go_simp; done)⟩) hHeld ?_
              try simp only [Act.put, List.getElem_toArray, List.getElem_cons_succ, List.getElem_cons_zero, List.setIfInBounds_toArray, List.set_cons_zero, List.set_cons_succ]
              refine wpAnyH_take (i := 12) (v := (.pointer (some ⟨qb, t, none⟩))) rfl (by kernel_rfl) (by kernel_rfl) (by kernel_rfl) (fun _ _ _ h => h) (Or.inl ⟨by rfl, fun W hS => by first | rfl | (go_simp; done)⟩) hHeld ?_
              try simp only [Act.put, List.getElem_toArray, List.getElem_cons_succ, List.getElem_cons_zero, List.setIfInBounds_toArray, List.set_cons_zero, List.set_cons_succ]
              refine wpAnyH_take (i := 13) (v := (.pointer (some ⟨z.b, 0, none⟩))) rfl (by kernel_rfl) (by kernel_rfl) (by kernel_rfl) (fun _ _ _ h => h) (Or.inl ⟨by rfl, fun W hS => by (obtain ⟨q1, q2, q3, q4, q5, q6⟩ := hS; go_simp; done)⟩) hHeld ?_
              try simp only [Act.put, List.getElem_toArray, List.getElem_cons_succ, List.getElem_cons_zero, List.setIfInBounds_toArray, List.set_cons_zero, List.set_cons_succ]
              refine wpAnyH_take (i := 14) (v := (.pointer (some ⟨z.b, 0, none⟩))) rfl (by kernel_rfl) (by kernel_rfl) (by kernel_rfl) (fun _ _ _ h => h) (Or.inl ⟨by rfl, fun W hS => by first | rfl | (go_simp; done)⟩) hHeld ?_
              try simp only [Act.put, List.getElem_toArray, List.getElem_cons_succ, List.getElem_cons_zero, List.setIfInBounds_toArray, List.set_cons_zero, List.set_cons_succ]
              refine wpAnyH_take (i := 15) (v := (.pointer (some ⟨z.b, 15, none⟩))) rfl (by kernel_rfl) (by kernel_rfl) (by kernel_rfl) (fun _ _ _ h => h) (Or.inl ⟨by rfl, fun W hS => by first | rfl | (go_simp; done)⟩) hHeld ?_
              try simp only [Act.put, List.getElem_toArray, List.getElem_cons_succ, List.getElem_cons_zero, List.setIfInBounds_toArray, List.set_cons_zero, List.set_cons_succ]
              refine wpAnyH_take (i := 16) (v := (.bool dn)) rfl (by kernel_rfl) (by kernel_rfl) (by kernel_rfl) (fun _ _ _ h => h) (Or.inl ⟨by rfl, fun W hS => by (obtain ⟨q1, q2, q3, q4, q5, q6⟩ := hS; go_simp; done)⟩) hHeld ?_
              try simp only [Act.put, List.getElem_toArray, List.getElem_cons_succ, List.getElem_cons_zero, List.setIfInBounds_toArray, List.set_cons_zero, List.set_cons_succ]
              refine wpAnyH_take (i := 17) (v := (.bool false)) rfl (by kernel_rfl) (by kernel_rfl) (by kernel_rfl) (fun _ _ _ h => h) (Or.inl ⟨by rfl, fun W hS => by first | rfl | (go_simp; done)⟩) hHeld ?_
              try simp only [Act.put, List.getElem_toArray, List.getElem_cons_succ, List.getElem_cons_zero, List.setIfInBounds_toArray, List.set_cons_zero, List.set_cons_succ]
              refine wpAnyH_take (i := 18) (v := (.bool false)) rfl (by kernel_rfl) (by kernel_rfl) (by kernel_rfl) (fun _ _ _ h => h) (Or.inl ⟨by rfl, fun W hS => by first | rfl | (go_simp; done)⟩) hHeld ?_
              try simp only [Act.put, List.getElem_toArray, List.getElem_cons_succ, List.getElem_cons_zero, List.setIfInBounds_toArray, List.set_cons_zero, List.set_cons_succ]
              refine wpAnyH_take (i := 19) (v := (.bool false)) rfl (by kernel_rfl) (by kernel_rfl) (by kernel_rfl) (fun _ _ _ h => h) (Or.inl ⟨by rfl, fun W hS => by first | rfl | (go_simp; done)⟩) hHeld ?_
              try simp only [Act.put, List.getElem_toArray, List.getElem_cons_succ, List.getElem_cons_zero, List.setIfInBounds_toArray, List.set_cons_zero, List.set_cons_succ]
              refine wpAnyH_take (i := 20) (v := (.pointer (some ⟨ab, 0, none⟩))) rfl (by kernel_rfl) (by kernel_rfl) (by kernel_rfl) (fun _ _ _ h => h) (Or.inl ⟨by rfl, fun W hS => by first | rfl | (go_simp; done)⟩) hHeld ?_
              try simp only [Act.put, List.getElem_toArray, List.getElem_cons_succ, List.getElem_cons_zero, List.setIfInBounds_toArray, List.set_cons_zero, List.set_cons_succ]
              refine wpAnyH_take (i := 22) (v := (.pointer (some ⟨bb, 0, none⟩))) rfl (by kernel_rfl) (by kernel_rfl) (by kernel_rfl) (fun _ _ _ h => h) (Or.inl ⟨by rfl, fun W hS => by first | rfl | (go_simp; done)⟩) hHeld ?_
              try simp only [Act.put, List.getElem_toArray, List.getElem_cons_succ, List.getElem_cons_zero, List.setIfInBounds_toArray, List.set_cons_zero, List.set_cons_succ]
              refine wpAnyH_ready (rs := [21]) (by kernel_rfl) (by simp) (AllReadyH.cons rfl (fun K hK => ?_) AllReadyH.nil)
              simp only [List.getElem_toArray, List.getElem_cons_succ, List.getElem_cons_zero]
              go_simp
              refine (held_any HV2.out.1.sc.both.yard HR3.out.1 HR3.out.2.2.1).mono ?_
              rintro e v3 ⟨rfl, rfl⟩
              rw [HR3.out.2.2.2]
              refine hK.out _ _ hHeld (fun hHeld => ?_)
              clear hK K
              try simp only [Act.put, List.getElem_toArray, List.getElem_cons_succ, List.getElem_cons_zero, List.setIfInBounds_toArray, List.set_cons_zero, List.set_cons_succ]
              refine wpAnyH_ready (rs := [23]) (by kernel_rfl) (by simp) (AllReadyH.cons rfl (fun K hK => ?_) AllReadyH.nil)
              simp only [List.getElem_toArray, List.getElem_cons_succ, List.getElem_cons_zero]
              go_simp
              refine (docHeld_any HV2.out.1.sc.both.mem HR3.out.2.1 (by rw [← HR3.out.2.2.2]; exact HR3.out.2.2.1)).mono ?_
              rintro e v4 ⟨rfl, rfl⟩
              refine hK.out _ _ hHeld (fun hHeld => ?_)
              clear hK K
              try simp only [Act.put, List.getElem_toArray, List.getElem_cons_succ, List.getElem_cons_zero, List.setIfInBounds_toArray, List.set_cons_zero, List.set_cons_succ]
              refine wpAnyH_take (i := 24) (v := (.bool false)) rfl (by kernel_rfl) (by kernel_rfl) (by kernel_rfl) (fun _ _ _ h => h) (Or.inl ⟨by rfl, fun W hS => by first | rfl | (go_simp; done)⟩) hHeld ?_
              try simp only [Act.put, List.getElem_toArray, List.getElem_cons_succ, List.getElem_cons_zero, List.setIfInBounds_toArray, List.set_cons_zero, List.set_cons_succ]
              refine wpAnyH_take (i := 25) (v := (.bool false)) rfl (by kernel_rfl) (by kernel_rfl) (by kernel_rfl) (fun _ _ _ h => h) (Or.inl ⟨by rfl, fun W hS => by first | rfl | (go_simp; done)⟩) hHeld ?_
              try simp only [Act.put, List.getElem_toArray, List.getElem_cons_succ, List.getElem_cons_zero, List.setIfInBounds_toArray, List.set_cons_zero, List.set_cons_succ]
              refine wpAnyH_done (by kernel_rfl) ?_ _
              -- END
              have HWB := Lib.hid (stOk_word HST.out HR2.out.1 ⟨HE.out.2.1, HE.out.2.2.1⟩ ht)
              have HWS := Lib.hid (act_same c HE.out.1).1
              cases dn
              · go_wp2_with fail
                go_roundw
                case rel =>
                  refine ⟨k + 1, c.act s, c.act s', _, Tk', Lv', by omega, by omega, by go_num, Lib.hid HV2.out.1, Lib.hid ⟨HWS.out, HWB.out.1, HWB.out.2, HV2.out.2⟩, Lib.hid (fun j y e => ?_)⟩
                  rcases set_cases e with ⟨rfl, e2⟩ | ⟨hj, e2⟩
                  · injection e2 with e2; subst e2
                    obtain ⟨y1, y2⟩ := HY.out.1
                    rcases y2 with y2 | ⟨y2, l', y3, y4, y5, y6⟩
                    · exact absurd (HDN.out.trans y2) (by simp)
                    · exact .inl ⟨l', HZ2.out.2.2.trans y2, by rw [HZ2.out.1]; exact y3, y4, y5, y6⟩
                  · rcases set_cases e2 with ⟨rfl, _⟩ | ⟨_, e3⟩
                    · exact absurd rfl hj
                    · exact (HL2.out j y e3).next
                case measure => simp [intOf]; omega
              · go_wp2_with fail
                go_roundw
                case rel =>
                  refine ⟨k + 1, c.act s, c.act s', _, Tk', Lv', by omega, by omega, by go_num, Lib.hid (HV2.out.1.drop (t := t)), Lib.hid ⟨HWS.out, HWB.out.1, HWB.out.2, by simp; exact HV2.out.2⟩, Lib.hid (fun j y e => ?_)⟩
                  rcases set_cases e with ⟨_, e2⟩ | ⟨hj, e2⟩
                  · cases e2
                  · rcases set_cases e2 with ⟨rfl, _⟩ | ⟨_, e3⟩
                    · exact absurd rfl hj
                    · rcases set_cases e3 with ⟨rfl, _⟩ | ⟨_, e4⟩
                      · exact absurd rfl hj
                      · exact (HL2.out j y e4).next
                case measure => simp [intOf]; omega
        -- ENDS
        · go_wp2_with (first
            | (go_at_call 18; refine (playSame_any HI.out.sc.both HE.out.1 (by have := HI.out.sc.big HMAY.out; omega) (by omega) (by omega)).mono ?_; rintro e w3 ⟨rfl, ho3⟩)
            | (go_at_call 30; refine (awake13_any _).mono ?_; rintro e w4 ⟨rfl, ho4⟩))
          go_ret
          exact ⟨rfl, ((HI.out.sc.adds.thenF ho3).thenF ho4).below (Nat.le_refl _) (fun _ _ h => h)⟩
      · go_wp2_with (first
          | (go_at_call 18; refine (playSame_any HI.out.sc.both HE.out.1 (by have := HI.out.sc.big HMAY.out; omega) (by omega) (by omega)).mono ?_; rintro e w3 ⟨rfl, ho3⟩)
          | (go_at_call 30; refine (awake13_any _).mono ?_; rintro e w4 ⟨rfl, ho4⟩))
        go_ret
        exact ⟨rfl, ((HI.out.sc.adds.thenF ho3).thenF ho4).below (Nat.le_refl _) (fun _ _ h => h)⟩
-- LAST
end Go.Proofs.YtfgjacgkgonglaaGreat

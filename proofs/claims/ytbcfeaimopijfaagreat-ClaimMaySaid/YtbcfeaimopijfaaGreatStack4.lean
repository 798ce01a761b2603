/- Package stack: a pop that wins; steps of pushes and pops over what lies in a stack. By an AI agent. -/
import Derived.Test.YtbcfeaimopijfaaGreatStack3
namespace Go.Proofs.YtbcfeaimopijfaaGreat
open Go.RowKit
section
variable {w : World} {mb jm : Nat} {P T hd was pg x : Int} {nx : Value}
set_option maxRecDepth 100000 in
set_option maxHeartbeats 2000000 in
theorem pop_won (hw : 0 ≤ was ∧ was < 18446744073709551616) (hm : Blk w jm #[.pointer (some ⟨mb, 0, none⟩)] 102) (h : Blk w mb (poC P T hd was pg nx) 127) :
    Calls Tryz.prog 115 #[.bool true, .pointer (some ⟨jm, 0, none⟩)] w fun e w' => e = .returned (.tuple #[]) ∧ Desk w' mb (poC P T hd was (Tag.pg was)) 127 .done ∧ Only (· = mb) w w' := by
  have HB := Lib.hid h; have HM := Lib.hid hm
  have c0 := hm.one
  have c4 : w.cell? ⟨mb, 4, none⟩ = some (.int .u64 was) := h.cell 4
  have c5 : w.cell? ⟨mb, 5, none⟩ = some (.int .i64 pg) := h.cell 5
  have f5 := h.frozen 5
  have hl := h.lt
  have nM := Lib.hid (h.multi' (by simp) hm)
  have nJ : jm ≠ mb := nM.out
  obtain ⟨y, hy⟩ : ∃ y, y = Tag.pg was := ⟨_, rfl⟩
  have HY := Lib.hid hy; have HW := Lib.hid hw
  clear h hm hy hw
  go_enter Tryz.func115, Tryz.ntmps115
  go_wp2_with fail
  go_region_with ((first
    | (go_at_call 91; refine (tagPage_any was _ HW.out.1 HW.out.2).mono ?_; rintro e w4 ⟨rfl, k2, rfl⟩; rw [← HY.out])))
  all_goals
    have HB2 := Lib.hid (show Blk ((w.drewN (1 + k2)).setCell ⟨mb, 5, none⟩ (.int .i64 y)) mb (poC P T hd was y nx) 127 from (HB.out.drewN (1 + k2)).setCell 5 _)
    go_wp2_with (go_at_call 53; refine (deskEnd_any HB2.out (by simp)).mono ?_; rintro e w1 ⟨rfl, rfl⟩)
    go_end0
    rw [← HY.out]
    exact ⟨rfl, HB2.out.setCell 2 _, (((Only.refl (fun x => x = mb) w).drewN _).setCell (.inl rfl) _).setCell (.inl rfl) _⟩
end
/-- What the words of a stack hold: the head, and below each page. -/
structure SW (s : StoreS) (P T hd H : Int) (f : Int → Int) : Prop where
  len : s.ws.length = (Lay.words P T).toNat
  top : s.word hd = H
  nx : ∀ q, 0 ≤ q → q < P → s.word (Lay.nextAt P T q) = f q
/-- A head. -/
structure HD (P T hd : Int) : Prop where
  may : Lay.may P T = true
  lo : 8 ≤ hd
  hi : hd < 68
theorem HD.of {P T hd : Int} (h : Lay.isHead P T hd = true) : HD P T hd := by
  unfold Lay.isHead at h; rw [Bool.and_eq_true, decide_eq_true_eq] at h; exact ⟨h.1, h.2.1, h.2.2⟩
theorem HD.to {P T hd : Int} (h : HD P T hd) : Lay.isHead P T hd = true := by
  unfold Lay.isHead; rw [Bool.and_eq_true, decide_eq_true_eq]; exact ⟨h.may, h.lo, h.hi⟩
theorem Lay.nextAt_eq {P T q : Int} (hm : Lay.may P T = true) (h0 : 0 ≤ q) (h1 : q < P) : Lay.nextAt P T q = 70 + 14 * T + 5 * q := by
  have hok : Lay.pageOk P T 11 q = true := by unfold Lay.pageOk; rw [hm, Bool.true_and, decide_eq_true_eq]; omega
  unfold Lay.nextAt atV Lay.pageAt
  rw [hok, if_pos rfl, if_neg (by decide)]
  omega
section
variable {s : StoreS} {P T hd H : Int} {f : Int → Int}
theorem HD.words (h : HD P T hd) : (Lay.words P T) = 68 + 14 * T + 6 * P + 2 * Lay.many P ∧ 1 ≤ Lay.many P ∧ 1 ≤ P ∧ P ≤ 4096 ∧ 1 ≤ T ∧ T ≤ 64 := by
  have hb := Lay.may_iff.1 h.may
  have hmb := Lay.many_bd hb.1 hb.2.1
  exact ⟨by simp [Lay.words, h.may], hmb.1, hb.1, hb.2.1, hb.2.2.1, hb.2.2.2⟩
theorem SW.big (h : SW s P T hd H f) (hh : HD P T hd) : 1 < s.ws.length := by
  rw [h.len]; have := hh.words; omega
theorem SW.inH (h : SW s P T hd H f) (hh : HD P T hd) : s.inR hd := by
  have := hh.words; have := hh.lo; have := hh.hi
  exact ⟨by omega, by rw [h.len]; omega⟩
theorem SW.inN (h : SW s P T hd H f) (hh : HD P T hd) (q : Int) : s.inR (Lay.nextAt P T q) :=
  ⟨(Lay.nextAt_bd hh.may).1, by have := (Lay.nextAt_bd (p := q) hh.may).2; rw [h.len]; omega⟩
theorem SW.load (h : SW s P T hd H f) (hh : HD P T hd) {i : Int} (hi : s.inR i) (k : Int) : SW (s.acc k i (s.word i)) P T hd H f := by
  have e : ∀ j, 0 ≤ j → (s.acc k i (s.word i)).word j = s.word j := fun j hj => by
    by_cases e : j = i
    · subst e; exact StoreS.acc_word hi _ _
    · exact StoreS.acc_word_other hi.1 hj e _ _
  refine ⟨by have := h.len; simpa [StoreS.acc] using this, by rw [e _ (by have := hh.lo; omega)]; exact h.top, fun q h0 h1 => by rw [e _ (Lay.nextAt_bd hh.may).1]; exact h.nx q h0 h1⟩
theorem SW.put (h : SW s P T hd H f) (hh : HD P T hd) {p : Int} (h0 : 0 ≤ p) (h1 : p < P) (v : Int) : SW (s.acc 2 (Lay.nextAt P T p) v) P T hd H (fun q => if q = p then v else f q) := by
  have hw := hh.words; have hl := hh.lo; have hu := hh.hi
  have ep := Lay.nextAt_eq hh.may h0 h1
  refine ⟨by have := h.len; simpa [StoreS.acc] using this, ?_, fun q g0 g1 => ?_⟩
  · rw [StoreS.acc_word_other (by omega) (by omega) (by omega)]; exact h.top
  · by_cases e : q = p
    · rw [if_pos e, e]; exact StoreS.acc_word (h.inN hh p) _ _
    · have eq := Lay.nextAt_eq hh.may g0 g1
      rw [if_neg e, StoreS.acc_word_other (by omega) (by omega) (by omega)]; exact h.nx q g0 g1
theorem SW.cas (h : SW s P T hd H f) (hh : HD P T hd) (v : Int) : SW (s.acc 3 hd v) P T hd v f := by
  have hw := hh.words; have hl := hh.lo; have hu := hh.hi
  refine ⟨by have := h.len; simpa [StoreS.acc] using this, StoreS.acc_word (h.inH hh) _ _, fun q g0 g1 => ?_⟩
  have eq := Lay.nextAt_eq hh.may g0 g1
  rw [StoreS.acc_word_other (by omega) (by omega) (by omega)]; exact h.nx q g0 g1
end
/-- An arena of which a stack's words are known. -/
def YS (w : World) (ab sb sm rb : Nat) (P T hd H : Int) (f : Int → Int) : Prop := ∃ s, Yard w ab sb sm rb P T s ∧ SW s P T hd H f
section
variable {w w' : World} {ab sb sm rb mb m2 : Nat} {P T hd H : Int} {f : Int → Int}
theorem YS.adds (h : YS w ab sb sm rb P T hd H f) (ho : Adds w w') : YS w' ab sb sm rb P T hd H f := by
  obtain ⟨s, h1, h2⟩ := h; exact ⟨s, h1.adds ho, h2⟩
theorem YS.beside (h : YS w ab sb sm rb P T hd H f) (hh : HD P T hd) {c2 : Value → Array Value} {t2 : TypeId} {k2 : DK} {c : Array Value} {t : TypeId} (h2 : Desk w m2 c2 t2 k2) (ht : MachT t2) (hm : Blk w mb c t) (hc : c.size ≠ 1) (hne : m2 ≠ mb) (ho : Only (fun j => SB sb sm j ∨ j = mb) w w') : Desk w' m2 c2 t2 k2 := by
  obtain ⟨s, hY, hS⟩ := h
  obtain ⟨nx, hb, _⟩ := h2.blk
  have hmb := hY.mach hb ht.1 ht.2.1 ht.2.2.1
  exact h2.only ho (fun e => e.elim (fun e => e.elim hmb.2.1 hmb.2.2) hne) (fun b x t h e => e.elim (hY.multi (hS.big hh) h) (hm.multi' hc h))
theorem YS.cell (h : YS w ab sb sm rb P T hd H f) (hh : HD P T hd) {c : Array Value} {t : TypeId} (hm : Blk w mb c t) (hc : c.size ≠ 1) {b : Nat} {x : Value} {u : TypeId} (hb : Blk w b #[x] u) (ho : Only (fun j => SB sb sm j ∨ j = mb) w w') : Blk w' b #[x] u := by
  obtain ⟨s, hY, hS⟩ := h
  exact hb.only ho (fun e => e.elim (hY.multi (hS.big hh) hb) (hm.multi' hc hb))
end
section
variable {w : World} {ab sb sm rb mb : Nat} {P T hd H was pg x : Int} {f : Int → Int}
theorem popLoadNone (h : Pop1 w mb P T hd was pg) (hY : YS w ab sb sm rb P T hd H f) (hh : HD P T hd) (hp : Tag.pg H < 0) :
    Calls Tryz.prog 152 #[.pointer (some ⟨mb, 0, none⟩), .pointer (some ⟨ab, 0, none⟩)] w fun e w' => e = .returned (.agg #[.int .i64 1, .int .i64 hd, .int .u64 H, .int .u64 H]) ∧ (Desk w' mb (poC P T hd H pg) 127 .done ∧ YS w' ab sb sm rb P T hd H f) ∧ Only (fun j => SB sb sm j ∨ j = mb) w w' := by
  obtain ⟨s, hY, hS⟩ := hY
  have hlt := hY.st.head.lt; have hlt2 := hY.st.row.lt
  have hml : mb < w.heap.size := by obtain ⟨_, hb, _⟩ := Desk.blk h; exact hb.lt
  have hw := StoreS.word_bd hY.st.fit hd
  have ew := hS.top
  rw [ew] at hw
  have st : Stays (fun w => Desk w mb (poC P T hd H pg) 127 .done) := Desk.stays _ _ _ _ (by decide)
  have key := stackPopStep_some (mb := mb) (a := some ⟨ab, 0, none⟩) (Q := fun w' => Desk w' mb (poC P T hd H pg) 127 .done ∧ Yard w' ab sb sm rb P T (s.acc 1 hd (s.word hd))) (S := fun j => SB sb sm j ∨ j = mb) (st.and (fun _ _ ho h => Yard.dids h ho)) (fun j hj => hj.elim (fun e => e.elim (· ▸ hlt) (· ▸ hlt2)) (· ▸ hml)) (fun w1 ho => Desk.stepLoad (poCells P T hd was pg) (by decide) (Desk.adds h ho) (hY.adds ho) (hS.big hh) (hS.inH hh) st (enters_of Tryz.func79 (by kernel_rfl) rfl) (fun w2 nx _ hb _ => by rw [ew]; exact pop_top_none hw.1 hw.2 hp hb))
  refine key.mono ?_
  rintro e w2 ⟨rfl, ⟨h1, h2⟩, h3⟩
  exact ⟨by simp only [ew], ⟨h1, _, h2, hS.load hh (hS.inH hh) 1⟩, h3⟩
theorem popLoadSome (h : Pop1 w mb P T hd was pg) (hY : YS w ab sb sm rb P T hd H f) (hh : HD P T hd) (hp : 0 ≤ Tag.pg H) :
    Calls Tryz.prog 152 #[.pointer (some ⟨mb, 0, none⟩), .pointer (some ⟨ab, 0, none⟩)] w fun e w' => e = .returned (.agg #[.int .i64 1, .int .i64 hd, .int .u64 H, .int .u64 H]) ∧ (Pop2 w' mb P T hd H pg ∧ YS w' ab sb sm rb P T hd H f) ∧ Only (fun j => SB sb sm j ∨ j = mb) w w' := by
  obtain ⟨s, hY, hS⟩ := hY
  have hlt := hY.st.head.lt; have hlt2 := hY.st.row.lt
  have hml : mb < w.heap.size := by obtain ⟨_, hb, _⟩ := Desk.blk h; exact hb.lt
  have hw := StoreS.word_bd hY.st.fit hd
  have ew := hS.top
  rw [ew] at hw
  have st : Stays (fun w => Pop2 w mb P T hd H pg) := Desk.stays _ _ _ _ (by decide)
  have key := stackPopStep_some (mb := mb) (a := some ⟨ab, 0, none⟩) (Q := fun w' => Pop2 w' mb P T hd H pg ∧ Yard w' ab sb sm rb P T (s.acc 1 hd (s.word hd))) (S := fun j => SB sb sm j ∨ j = mb) (st.and (fun _ _ ho h => Yard.dids h ho)) (fun j hj => hj.elim (fun e => e.elim (· ▸ hlt) (· ▸ hlt2)) (· ▸ hml)) (fun w1 ho => Desk.stepLoad (poCells P T hd was pg) (by decide) (Desk.adds h ho) (hY.adds ho) (hS.big hh) (hS.inH hh) st (enters_of Tryz.func79 (by kernel_rfl) rfl) (fun w2 nx _ hb _ => by rw [ew]; exact pop_top_some hw.1 hw.2 hp hb))
  refine key.mono ?_
  rintro e w2 ⟨rfl, ⟨h1, h2⟩, h3⟩
  exact ⟨by simp only [ew], ⟨h1, _, h2, hS.load hh (hS.inH hh) 1⟩, h3⟩
theorem popNext (h : Pop2 w mb P T hd was pg) (hY : YS w ab sb sm rb P T hd H f) (hh : HD P T hd) (hp : 0 ≤ Tag.pg was) (hp2 : Tag.pg was < P) (hwas : 0 ≤ was ∧ was < 18446744073709551616) :
    Calls Tryz.prog 152 #[.pointer (some ⟨mb, 0, none⟩), .pointer (some ⟨ab, 0, none⟩)] w fun e w' => e = .returned (.agg #[.int .i64 1, .int .i64 (Lay.nextAt P T (Tag.pg was)), .int .u64 (f (Tag.pg was)), .int .u64 (f (Tag.pg was))]) ∧ (Pop3 w' mb P T hd was pg (f (Tag.pg was)) ∧ YS w' ab sb sm rb P T hd H f) ∧ Only (fun j => SB sb sm j ∨ j = mb) w w' := by
  obtain ⟨s, hY, hS⟩ := hY
  have hlt := hY.st.head.lt; have hlt2 := hY.st.row.lt
  have hml : mb < w.heap.size := by obtain ⟨_, hb, _⟩ := Desk.blk h; exact hb.lt
  have hw := StoreS.word_bd hY.st.fit hd
  have ew := hS.top
  rw [ew] at hw
  have ex := hS.nx _ hp hp2
  have hx := StoreS.word_bd hY.st.fit (Lay.nextAt P T (Tag.pg was))
  rw [ex] at hx
  have st : Stays (fun w => Pop3 w mb P T hd was pg (f (Tag.pg was))) := fun a b ho => by
    rintro ⟨jm, h2, h3⟩
    exact ⟨jm, h2.dids ho (by decide), Desk.stays _ _ _ _ (by decide) a b ho h3⟩
  have key := stackPopStep_some (mb := mb) (a := some ⟨ab, 0, none⟩) (Q := fun w' => Pop3 w' mb P T hd was pg (f (Tag.pg was)) ∧ Yard w' ab sb sm rb P T (s.acc 1 (Lay.nextAt P T (Tag.pg was)) (s.word (Lay.nextAt P T (Tag.pg was))))) (S := fun j => SB sb sm j ∨ j = mb) (st.and (fun _ _ ho h => Yard.dids h ho)) (fun j hj => hj.elim (fun e => e.elim (· ▸ hlt) (· ▸ hlt2)) (· ▸ hml)) (fun w1 ho => Desk.stepLoad (poCells P T hd was pg) (by decide) (Desk.adds h ho) (hY.adds ho) (hS.big hh) (hS.inN hh _) st (enters_of Tryz.func93 (by kernel_rfl) rfl) (fun w2 nx _ hb _ => by rw [ex]; exact pop_next hwas hx.1 hx.2 hb))
  refine key.mono ?_
  rintro e w2 ⟨rfl, ⟨h1, h2⟩, h3⟩
  exact ⟨by simp only [ex], ⟨h1, _, h2, hS.load hh (hS.inN hh _) 1⟩, h3⟩
theorem popWin (h : Pop3 w mb P T hd was pg x) (hY : YS w ab sb sm rb P T hd H f) (hh : HD P T hd) (hH : H = was) :
    Calls Tryz.prog 152 #[.pointer (some ⟨mb, 0, none⟩), .pointer (some ⟨ab, 0, none⟩)] w fun e w' => e = .returned (.agg #[.int .i64 3, .int .i64 hd, .int .u64 H, .int .u64 (Tag.nx was (underV x))]) ∧ (Desk w' mb (poC P T hd was (Tag.pg was)) 127 .done ∧ YS w' ab sb sm rb P T hd (Tag.nx was (underV x)) f) ∧ Only (fun j => SB sb sm j ∨ j = mb) w w' := by
  obtain ⟨s, hY, hS⟩ := hY
  obtain ⟨jm, hjm, hd'⟩ := h
  have hlt := hY.st.head.lt; have hlt2 := hY.st.row.lt
  have hml : mb < w.heap.size := by obtain ⟨_, hb, _⟩ := Desk.blk hd'; exact hb.lt
  have hw := StoreS.word_bd hY.st.fit hd
  have ew := hS.top
  rw [ew] at hw
  have hb2 : 0 ≤ Tag.nx was (underV x) ∧ Tag.nx was (underV x) < 18446744073709551616 := Tag.mk_bd (by omega) (by omega)
  have st : Stays (fun w => Desk w mb (poC P T hd was (Tag.pg was)) 127 .done) := Desk.stays _ _ _ _ (by decide)
  have key := stackPopStep_some (mb := mb) (a := some ⟨ab, 0, none⟩) (Q := fun w' => Desk w' mb (poC P T hd was (Tag.pg was)) 127 .done ∧ Yard w' ab sb sm rb P T (s.acc 3 hd (Tag.nx was (underV x)))) (S := fun j => SB sb sm j ∨ j = mb) (st.and (fun _ _ ho h => Yard.dids h ho)) (fun j hj => hj.elim (fun e => e.elim (· ▸ hlt) (· ▸ hlt2)) (· ▸ hml)) (fun w1 ho => Desk.stepCasWin (poCells P T hd was pg) (by decide) (hd'.adds ho) (hY.adds ho) (hS.big hh) (hS.inH hh) (ew.trans hH) hb2 st (enters_of Tryz.func115 (by kernel_rfl) rfl) (fun w2 nx hk hb => pop_won (hH ▸ hw) (hk _ _ _ (hjm.only ho id)) hb))
  refine key.mono ?_
  rintro e w2 ⟨rfl, ⟨h1, h2⟩, h3⟩
  exact ⟨by simp only [ew], ⟨h1, _, h2, hS.cas hh _⟩, h3⟩
theorem popLost (h : Pop3 w mb P T hd was pg x) (hY : YS w ab sb sm rb P T hd H f) (hh : HD P T hd) (hH : H ≠ was) :
    Calls Tryz.prog 152 #[.pointer (some ⟨mb, 0, none⟩), .pointer (some ⟨ab, 0, none⟩)] w fun e w' => e = .returned (.agg #[.int .i64 4, .int .i64 hd, .int .u64 H, .int .u64 H]) ∧ (Pop1 w' mb P T hd was pg ∧ YS w' ab sb sm rb P T hd H f) ∧ Only (fun j => SB sb sm j ∨ j = mb) w w' := by
  obtain ⟨s, hY, hS⟩ := hY
  obtain ⟨jm, hjm, hd'⟩ := h
  have hlt := hY.st.head.lt; have hlt2 := hY.st.row.lt
  have hml : mb < w.heap.size := by obtain ⟨_, hb, _⟩ := Desk.blk hd'; exact hb.lt
  have hw := StoreS.word_bd hY.st.fit hd
  have ew := hS.top
  rw [ew] at hw
  have st : Stays (fun w => Pop1 w mb P T hd was pg) := Desk.stays _ _ _ _ (by decide)
  have key := stackPopStep_some (mb := mb) (a := some ⟨ab, 0, none⟩) (Q := fun w' => Pop1 w' mb P T hd was pg ∧ Yard w' ab sb sm rb P T (s.acc 4 hd (s.word hd))) (S := fun j => SB sb sm j ∨ j = mb) (st.and (fun _ _ ho h => Yard.dids h ho)) (fun j hj => hj.elim (fun e => e.elim (· ▸ hlt) (· ▸ hlt2)) (· ▸ hml)) (fun w1 ho => Desk.stepCasLost (poCells P T hd was pg) (by decide) (hd'.adds ho) (hY.adds ho) (hS.big hh) (hS.inH hh) (ew ▸ hH) st (enters_of Tryz.func115 (by kernel_rfl) rfl) (fun w2 nx hk hb _ => pop_lost (hk _ _ _ (hjm.only ho id)) hb))
  refine key.mono ?_
  rintro e w2 ⟨rfl, ⟨h1, h2⟩, h3⟩
  exact ⟨by simp only [ew], ⟨h1, _, h2, hS.load hh (hS.inH hh) 4⟩, h3⟩
end
section
variable {w : World} {mb : Nat} {P T hd was pg x : Int}
theorem popIdle {a : Option Addr} (h : Desk w mb (poC P T hd was pg) 127 .done) : Calls Tryz.prog 152 #[.pointer (some ⟨mb, 0, none⟩), .pointer a] w fun e w' => e = .returned (.agg #[.int .i64 0, .int .i64 0, .int .u64 0, .int .u64 0]) ∧ Adds w w' :=
  (stackPopStep_some (Q := fun _ => True) (S := fun _ => False) (fun _ _ _ _ => trivial) (fun _ e => e.elim) (fun _ ho => (deskStep_done ((Blk.only h ho id).cell 2)).mono (fun _ _ h => ⟨h.1, trivial, h.2⟩))).mono (fun _ _ h => ⟨h.1, h.2.2⟩)
theorem popPage_any {k : DK} (h : Desk w mb (poC P T hd was pg) 127 k) : Calls Tryz.prog 52 #[.pointer (some ⟨mb, 0, none⟩)] w fun e w' => e = .returned (.int .i64 pg) ∧ w = w' := by
  obtain ⟨nx, hb, _⟩ := h.blk
  have c5 : w.cell? ⟨mb, 5, none⟩ = some (.int .i64 pg) := hb.cell 5
  clear h hb
  go_enter Tryz.func52, Tryz.ntmps52
  go_wp2
  go_ret
  exact ⟨rfl, rfl⟩
theorem popDone_any {k : DK} (h : Desk w mb (poC P T hd was pg) 127 k) (hk : k ≠ .done) : Calls Tryz.prog 151 #[.pointer (some ⟨mb, 0, none⟩)] w fun e w' => e = .returned (.bool false) ∧ w = w' := by
  obtain ⟨nx, hb, hl⟩ := h.blk
  obtain ⟨fn, a, b, rfl⟩ := hl hk
  exact stackPopDone_no (hb.cell 2)
end
end Go.Proofs.YtbcfeaimopijfaaGreat

/- Package stack: a push, step by step. By an AI agent. -/
import Derived.Test.YtbcfeaimopijfaaDesk
import Derived.Test.YtbcfeaimopijfaaHead
import Derived.Test.YtbcfeaimopijfaaMach
import Derived.Deep.RegionHeld3
namespace Go.Proofs.Ytbcfeaimopijfaa
open Go.RowKit
theorem push_keep5 {W w' : World} {b1 o1 b2 o2 b3 o3 b4 o4 b5 o5 : Nat} {x1 x2 x3 x4 x5 : Value}
    (h : W.cell? ⟨b1, o1, none⟩ = some x1 ∧ W.cell? ⟨b2, o2, none⟩ = some x2 ∧ W.cell? ⟨b3, o3, none⟩ = some x3 ∧ W.cell? ⟨b4, o4, none⟩ = some x4 ∧ W.cell? ⟨b5, o5, none⟩ = some x5 ∧ True) (ho : Adds W w') :
    w'.cell? ⟨b1, o1, none⟩ = some x1 ∧ w'.cell? ⟨b2, o2, none⟩ = some x2 ∧ w'.cell? ⟨b3, o3, none⟩ = some x3 ∧ w'.cell? ⟨b4, o4, none⟩ = some x4 ∧ w'.cell? ⟨b5, o5, none⟩ = some x5 ∧ True :=
  ⟨(ho.cellF (p := ⟨b1, o1, none⟩) (cell_lt h.1) id).trans h.1, (ho.cellF (p := ⟨b2, o2, none⟩) (cell_lt h.2.1) id).trans h.2.1, (ho.cellF (p := ⟨b3, o3, none⟩) (cell_lt h.2.2.1) id).trans h.2.2.1, (ho.cellF (p := ⟨b4, o4, none⟩) (cell_lt h.2.2.2.1) id).trans h.2.2.2.1, (ho.cellF (p := ⟨b5, o5, none⟩) (cell_lt h.2.2.2.2.1) id).trans h.2.2.2.2.1, trivial⟩
abbrev puC (P T hd pg : Int) : Value → Array Value := fun nx => #[.int .i64 P, .int .i64 T, nx, .int .i64 hd, .int .i64 pg]
theorem puCells (P T hd pg : Int) : Cells (puC P T hd pg) P T := ⟨fun _ => rfl, fun _ => rfl, fun _ => rfl, fun _ _ => rfl⟩
abbrev puTop (mb : Nat) : Value := .func (.func 36) #[.pointer (some ⟨mb, 0, none⟩)] #[]
abbrev puMid (jw jm : Nat) : Value := .func (.func 77) #[] #[.pointer (some ⟨jw, 0, none⟩), .pointer (some ⟨jm, 0, none⟩)]
abbrev puEnd (jm : Nat) : Value := .func (.func 80) #[] #[.pointer (some ⟨jm, 0, none⟩)]
/-- A push ahead of its load; of its put; of its cas. -/
def Push1 (w : World) (mb : Nat) (P T hd pg : Int) : Prop := Desk w mb (puC P T hd pg) 86 (.load hd (puTop mb))
def Push2 (w : World) (mb : Nat) (P T hd pg x : Int) : Prop := ∃ jw jm, Blk w jw #[.int .u64 x] 36 ∧ Blk w jm #[.pointer (some ⟨mb, 0, none⟩)] 33 ∧ Desk w mb (puC P T hd pg) 86 (.put (Lay.nextAt P T pg) (Tag.pg x + 1) (puMid jw jm))
def Push3 (w : World) (mb : Nat) (P T hd pg x : Int) : Prop := ∃ jm, Blk w jm #[.pointer (some ⟨mb, 0, none⟩)] 33 ∧ Desk w mb (puC P T hd pg) 86 (.cas hd x (Tag.nx x pg) (puEnd jm))
theorem Tag.pg_bd (x : Int) : -1 ≤ Tag.pg x ∧ Tag.pg x < 4096 := by unfold Tag.pg; split <;> omega
section
variable {w : World} {mb jw jm : Nat} {P T hd pg x : Int} {nx : Value}
set_option maxRecDepth 100000 in
set_option maxHeartbeats 2000000 in
theorem push_top (h0 : 0 ≤ x) (h1 : x < 18446744073709551616) (h : Blk w mb (puC P T hd pg nx) 86) :
    Calls Try.prog 36 #[.pointer (some ⟨mb, 0, none⟩), .int .u64 x] w fun e w' => e = .returned (.tuple #[]) ∧ Push2 w' mb P T hd pg x ∧ Only (· = mb) w w' := by
  have hl := h.lt
  obtain ⟨wB, hW⟩ : ∃ wB, wB = (w.alloc (.cells #[.pointer (some ⟨mb, 0, none⟩)] 33)).alloc (.cells #[.int .u64 x] 36) := ⟨_, rfl⟩
  have HM : Hid (Blk wB w.heap.size #[.pointer (some ⟨mb, 0, none⟩)] 33) := by rw [hW]; exact Lib.hid ((Blk.new w _ _).alloc _)
  have HX : Hid (Blk wB (w.heap.size + 1) #[.int .u64 x] 36) := by rw [hW]; exact Lib.hid (by simpa using Blk.new (w.alloc (.cells #[.pointer (some ⟨mb, 0, none⟩)] 33)) #[.int .u64 x] 36)
  have HB : Hid (Blk wB mb (puC P T hd pg nx) 86) := by rw [hW]; exact Lib.hid ((h.alloc _).alloc _)
  have HA : Hid (Adds w wB) := by rw [hW]; exact Lib.hid (((Only.refl _ _).alloc _).alloc _)
  have HW := Lib.hid hW
  obtain ⟨y, hy⟩ : ∃ y, y = Tag.pg x := ⟨_, rfl⟩
  have hyb := Tag.pg_bd x
  rw [← hy] at hyb
  have e1 : IntKind.i64.wrap (y + 1) = y + 1 := by simp [IntKind.wrap_i64]; omega
  have e2 : IntKind.u64.wrap (y + 1) = y + 1 := by rw [IntKind.wrap_u64]; omega
  have hy1 : 0 ≤ y + 1 := by omega
  have HY := Lib.hid hy; have H01 := Lib.hid (And.intro h0 h1)
  have c0 := HM.out.one; have c1 := HX.out.one
  have c2 : wB.cell? ⟨mb, 0, none⟩ = some (.int .i64 P) := HB.out.cell 0
  have c3 : wB.cell? ⟨mb, 1, none⟩ = some (.int .i64 T) := HB.out.cell 1
  have c4 : wB.cell? ⟨mb, 4, none⟩ = some (.int .i64 pg) := HB.out.cell 4
  have nM := Lib.hid (HB.out.multi' (by simp) HM.out); have nX := Lib.hid (HB.out.multi' (by simp) HX.out)
  clear h hW hy h0 h1
  go_enter Try.func36, Try.ntmps36
  go_wp2
  rw [← HW.out]
  go_region_held3 (fun W => W.cell? ⟨w.heap.size, 0, none⟩ = some (.pointer (some ⟨mb, 0, none⟩)) ∧ W.cell? ⟨w.heap.size + 1, 0, none⟩ = some (.int .u64 x) ∧ W.cell? ⟨mb, 0, none⟩ = some (.int .i64 P) ∧ W.cell? ⟨mb, 1, none⟩ = some (.int .i64 T) ∧ W.cell? ⟨mb, 4, none⟩ = some (.int .i64 pg) ∧ True)
    (first | assumption | (exact ⟨c0, c1, c2, c3, c4, trivial⟩) | (exact (push_keep5 (by assumption) (by first | assumption | exact (Only.refl _ _).drewN _))) | (exact ⟨(HM2.out.only ho3 nM.out).one, (HX2.out.only ho3 nX.out).one, hb3.cell 0, hb3.cell 1, hb3.cell 4, trivial⟩))
    (first
    | (go_at_call 42; refine (below_any P T pg _).mono ?_; rintro e w2 ⟨rfl, ho2⟩)
    | (go_at_call 39; refine (tagPage_any x _ H01.out.1 H01.out.2).mono ?_; rintro e w3 ⟨rfl, k, rfl⟩; rw [← HY.out]; have hO2 : Adds wB (w2.drewN k) := (((Only.refl (fun _ => False) wB).drew).thenF ho2).drewN k; have HM2 := Lib.hid (HM.out.only hO2 id); have HX2 := Lib.hid (HX.out.only hO2 id); have HB2 := Lib.hid (HB.out.only hO2 id); have HO2 := Lib.hid (HA.out.thenF hO2))
    | (go_at_call 76; with_reducible refine (deskPut_any HB2.out (by simp) (Lay.nextAt P T pg) (y + 1) _ _ _).mono ?_; rintro e w4 ⟨rfl, hb3, hc3, ho3⟩; have HC := Lib.hid (And.intro hb3 (And.intro hc3 ho3))))
  all_goals
    go_wp2
    go_end0
    obtain ⟨b3, c3', o3⟩ := HC.out
    refine ⟨rfl, ⟨w.heap.size + 1, w.heap.size, HX2.out.only o3 nX.out, HM2.out.only o3 nM.out, ⟨_, b3, ?_⟩⟩, (HO2.out.mono (fun _ _ e => e.elim)).trans o3⟩
    rw [← HY.out]; exact c3'
set_option maxRecDepth 100000 in
set_option maxHeartbeats 2000000 in
theorem push_mid (h0 : 0 ≤ x) (h1 : x < 18446744073709551616) (h2 : 0 ≤ pg) (h3 : pg < 4096) (hw : Blk w jw #[.int .u64 x] 36) (hm : Blk w jm #[.pointer (some ⟨mb, 0, none⟩)] 33) (h : Blk w mb (puC P T hd pg nx) 86) :
    Calls Try.prog 77 #[.pointer (some ⟨jw, 0, none⟩), .pointer (some ⟨jm, 0, none⟩)] w fun e w' => e = .returned (.tuple #[]) ∧ Push3 w' mb P T hd pg x ∧ Only (· = mb) w w' := by
  have HB := Lib.hid h; have HM := Lib.hid hm; have HX := Lib.hid hw
  obtain ⟨f, hf⟩ : ∃ f, f = Tag.nx x pg := ⟨_, rfl⟩
  have HF := Lib.hid hf; have H01 := Lib.hid (And.intro h0 (And.intro h1 (And.intro h2 h3)))
  have c0 := hm.one; have c1 := hw.one
  have c2 : w.cell? ⟨mb, 3, none⟩ = some (.int .i64 hd) := h.cell 3
  have c3 : w.cell? ⟨mb, 4, none⟩ = some (.int .i64 pg) := h.cell 4
  have nM := Lib.hid (h.multi' (by simp) hm); have nX := Lib.hid (h.multi' (by simp) hw)
  clear h hm hw hf h0 h1 h2 h3
  go_enter Try.func77, Try.ntmps77
  go_wp2_with fail
  go_region_held3 (fun W => W.cell? ⟨jm, 0, none⟩ = some (.pointer (some ⟨mb, 0, none⟩)) ∧ W.cell? ⟨jw, 0, none⟩ = some (.int .u64 x) ∧ W.cell? ⟨mb, 3, none⟩ = some (.int .i64 hd) ∧ W.cell? ⟨mb, 4, none⟩ = some (.int .i64 pg) ∧ W.cell? ⟨mb, 4, none⟩ = some (.int .i64 pg) ∧ True)
    (first | assumption | (exact ⟨c0, c1, c2, c3, c3, trivial⟩) | (exact push_keep5 (by assumption) ((Only.refl _ _).drewN _)))
    (first
    | (go_at_call 78; refine (tagNext_any x pg _ H01.out.1 H01.out.2.1 (by have := H01.out; omega) (by have := H01.out; omega)).mono ?_; rintro e w3 ⟨rfl, k, rfl⟩; rw [← HF.out]))
  rename_i hH
  have hO2 : Adds w (w.drewN (1 + k)) := (Only.refl (fun _ => False) w).drewN _
  have HM2 := Lib.hid (HM.out.only hO2 id); have HX2 := Lib.hid (HX.out.only hO2 id); have HB2 := Lib.hid (HB.out.only hO2 id); have HO2 := Lib.hid hO2
  obtain ⟨d0, d1, d2, d3, -, -⟩ := hH
  obtain ⟨wk, hwk⟩ : ∃ wk, wk = w.drewN (1 + k) := ⟨_, rfl⟩
  rw [← hwk] at HM2 HX2 HB2 HO2 d0 d1 d2 d3 ⊢
  clear hwk hO2 c0 c1 c2 c3
  go_wp2_with fail
  go_region_held3 (fun W => W.cell? ⟨jm, 0, none⟩ = some (.pointer (some ⟨mb, 0, none⟩)) ∧ W.cell? ⟨jw, 0, none⟩ = some (.int .u64 x) ∧ W.cell? ⟨mb, 3, none⟩ = some (.int .i64 hd) ∧ W.cell? ⟨mb, 4, none⟩ = some (.int .i64 pg) ∧ W.cell? ⟨mb, 4, none⟩ = some (.int .i64 pg) ∧ True)
    (first | assumption | (exact ⟨d0, d1, d2, d3, d3, trivial⟩) | (exact ⟨(HM2.out.drew.only ho3 nM.out).one, (HX2.out.drew.only ho3 nX.out).one, hb3.cell 3, hb3.cell 4, hb3.cell 4, trivial⟩))
    (first
    | (go_at_call 79; with_reducible refine (deskCas_any HB2.out.drew (by simp) hd x f _ _ _).mono ?_; rintro e w4 ⟨rfl, hb3, hc3, ho3⟩; have HC := Lib.hid (And.intro hb3 (And.intro hc3 ho3))))
  all_goals
    go_wp2
    go_end0
    obtain ⟨b3, c3', o3⟩ := HC.out
    refine ⟨rfl, ⟨jm, HM2.out.drew.only o3 nM.out, ⟨_, b3, ?_⟩⟩, ((HO2.out.drew).mono (fun _ _ e => e.elim)).trans o3⟩
    rw [← HF.out]; exact c3'
set_option maxHeartbeats 400000 in
theorem push_won (hm : Blk w jm #[.pointer (some ⟨mb, 0, none⟩)] 33) (h : Blk w mb (puC P T hd pg nx) 86) :
    Calls Try.prog 80 #[.bool true, .pointer (some ⟨jm, 0, none⟩)] w fun e w' => e = .returned (.tuple #[]) ∧ Desk w' mb (puC P T hd pg) 86 .done ∧ Only (· = mb) w w' := by
  have c0 := hm.one
  have HB := Lib.hid h
  clear h hm
  go_enter Try.func80, Try.ntmps80
  go_wp2_with (go_at_call 81; refine (deskEnd_any HB.out (by simp)).mono ?_; rintro e w1 ⟨rfl, rfl⟩)
  refine bodyPost_ret (results_none rfl _ _ _) rfl ?_
  exact ⟨rfl, HB.out.setCell 2 _, (Only.refl (fun x => x = mb) w).setCell (.inl rfl) _⟩
end
section
variable {w : World} {mb ab sb sm rb : Nat} {P T hd pg x : Int} {s : StoreS}
theorem pushStep_one (h : Push1 w mb P T hd pg) (hY : Yard w ab sb sm rb P T s) (hbig : 1 < s.ws.length) (hi : s.inR hd) :
    Calls Try.prog 12 #[.pointer (some ⟨mb, 0, none⟩), .pointer (some ⟨ab, 0, none⟩)] w fun e w' => e = .returned (.agg #[.int .i64 1, .int .i64 hd, .int .u64 (s.word hd), .int .u64 (s.word hd)]) ∧ (Push2 w' mb P T hd pg (s.word hd) ∧ Yard w' ab sb sm rb P T (s.acc 1 hd (s.word hd))) ∧ Only (fun j => SB sb sm j ∨ j = mb) w w' := by
  have hlt := hY.st.head.lt; have hlt2 := hY.st.row.lt
  have hml : mb < w.heap.size := by obtain ⟨_, hb, _⟩ := Desk.blk h; exact hb.lt
  have hw := StoreS.word_bd hY.st.fit hd
  have st : Stays (fun w => Push2 w mb P T hd pg (s.word hd)) := fun a b ho => by
    rintro ⟨jw, jm, h1, h2, h3⟩
    exact ⟨jw, jm, h1.dids ho (by decide), h2.dids ho (by decide), Desk.stays _ _ _ _ (by decide) a b ho h3⟩
  refine stackPushStep_some (Q := fun w' => Push2 w' mb P T hd pg (s.word hd) ∧ Yard w' ab sb sm rb P T (s.acc 1 hd (s.word hd))) (S := fun j => SB sb sm j ∨ j = mb) (st.and (fun _ _ ho h => Yard.dids h ho)) (fun j hj => hj.elim (fun e => e.elim (· ▸ hlt) (· ▸ hlt2)) (· ▸ hml)) (fun w1 ho => ?_)
  exact Desk.stepLoad (puCells P T hd pg) (by decide) (Desk.adds h ho) (hY.adds ho) hbig hi st (enters_of Try.func36 (by kernel_rfl) rfl) (fun w2 nx _ hb _ => push_top hw.1 hw.2 hb)
theorem pushStep_two (h : Push2 w mb P T hd pg x) (hY : Yard w ab sb sm rb P T s) (hbig : 1 < s.ws.length) (hi : s.inR (Lay.nextAt P T pg)) (h0 : 0 ≤ x) (h1 : x < 18446744073709551616) (h2 : 0 ≤ pg) (h3 : pg < 4096) :
    Calls Try.prog 12 #[.pointer (some ⟨mb, 0, none⟩), .pointer (some ⟨ab, 0, none⟩)] w fun e w' => e = .returned (.agg #[.int .i64 2, .int .i64 (Lay.nextAt P T pg), .int .u64 (s.word (Lay.nextAt P T pg)), .int .u64 (Tag.pg x + 1)]) ∧ (Push3 w' mb P T hd pg x ∧ Yard w' ab sb sm rb P T (s.acc 2 (Lay.nextAt P T pg) (Tag.pg x + 1))) ∧ Only (fun j => SB sb sm j ∨ j = mb) w w' := by
  have hlt := hY.st.head.lt; have hlt2 := hY.st.row.lt
  obtain ⟨jw, jm, hjw, hjm, hd'⟩ := h
  have hml : mb < w.heap.size := by obtain ⟨_, hb, _⟩ := Desk.blk hd'; exact hb.lt
  have hpb := Tag.pg_bd x
  have st : Stays (fun w => Push3 w mb P T hd pg x) := fun a b ho => by
    rintro ⟨jm, h2, h3⟩
    exact ⟨jm, h2.dids ho (by decide), Desk.stays _ _ _ _ (by decide) a b ho h3⟩
  refine stackPushStep_some (Q := fun w' => Push3 w' mb P T hd pg x ∧ Yard w' ab sb sm rb P T (s.acc 2 (Lay.nextAt P T pg) (Tag.pg x + 1))) (S := fun j => SB sb sm j ∨ j = mb) (st.and (fun _ _ ho h => Yard.dids h ho)) (fun j hj => hj.elim (fun e => e.elim (· ▸ hlt) (· ▸ hlt2)) (· ▸ hml)) (fun w1 ho => ?_)
  exact Desk.stepPut (puCells P T hd pg) (by decide) (hd'.adds ho) (hY.adds ho) hbig hi ⟨by omega, by omega⟩ st (enters_of Try.func77 (by kernel_rfl) rfl) (fun w2 nx hk hb => push_mid h0 h1 h2 h3 (hk _ _ _ (hjw.only ho id)) (hk _ _ _ (hjm.only ho id)) hb)
theorem pushStep_win (h : Push3 w mb P T hd pg x) (hY : Yard w ab sb sm rb P T s) (hbig : 1 < s.ws.length) (hi : s.inR hd) (hx : s.word hd = x) (h2 : 0 ≤ Tag.nx x pg ∧ Tag.nx x pg < 18446744073709551616) :
    Calls Try.prog 12 #[.pointer (some ⟨mb, 0, none⟩), .pointer (some ⟨ab, 0, none⟩)] w fun e w' => e = .returned (.agg #[.int .i64 3, .int .i64 hd, .int .u64 (s.word hd), .int .u64 (Tag.nx x pg)]) ∧ (Desk w' mb (puC P T hd pg) 86 .done ∧ Yard w' ab sb sm rb P T (s.acc 3 hd (Tag.nx x pg))) ∧ Only (fun j => SB sb sm j ∨ j = mb) w w' := by
  have hlt := hY.st.head.lt; have hlt2 := hY.st.row.lt
  obtain ⟨jm, hjm, hd'⟩ := h
  have hml : mb < w.heap.size := by obtain ⟨_, hb, _⟩ := Desk.blk hd'; exact hb.lt
  have st := Desk.stays mb (puC P T hd pg) 86 .done (by decide)
  refine stackPushStep_some (Q := fun w' => Desk w' mb (puC P T hd pg) 86 .done ∧ Yard w' ab sb sm rb P T (s.acc 3 hd (Tag.nx x pg))) (S := fun j => SB sb sm j ∨ j = mb) (st.and (fun _ _ ho h => Yard.dids h ho)) (fun j hj => hj.elim (fun e => e.elim (· ▸ hlt) (· ▸ hlt2)) (· ▸ hml)) (fun w1 ho => ?_)
  exact Desk.stepCasWin (puCells P T hd pg) (by decide) (hd'.adds ho) (hY.adds ho) hbig hi hx h2 st (enters_of Try.func80 (by kernel_rfl) rfl) (fun w2 nx hk hb => push_won (hk _ _ _ (hjm.only ho id)) hb)
end
end Go.Proofs.Ytbcfeaimopijfaa

/- Package world: Enter, step by step. By an AI agent. -/
import Derived.Test.YtbepbcjklgfmjaaZ3
import Derived.Test.YtbepbcjklgfmjaaZ7
import Derived.Deep.RegionHeld3
namespace Go.Proofs.Ytbepbcjklgfmjaa
open Go.RowKit
set_option linter.unusedSimpArgs false
set_option linter.unusedVariables false

/-- Where an enter is. -/
inductive EnSt where
  | begin | look | undo | wait | gen
def EnSt.dk (j : Nat) : EnSt → DK
  | .begin => .add 4 1 (.func (.func 57) #[] #[.pointer (some ⟨j, 0, none⟩)])
  | .look => .load 1 (.func (.func 58) #[] #[.pointer (some ⟨j, 0, none⟩)])
  | .undo => .add 4 18446744073709551615 (.func (.func 59) #[] #[.pointer (some ⟨j, 0, none⟩)])
  | .wait => .load 1 (.func (.func 82) #[] #[.pointer (some ⟨j, 0, none⟩)])
  | .gen => .load 0 (.func (.func 61) #[] #[.pointer (some ⟨j, 0, none⟩)])
abbrev enC (P T g : Int) : Value → Array Value := fun nx => #[.int .i64 P, .int .i64 T, nx, .int .i64 g]
theorem enCells (P T g : Int) : Cells (enC P T g) P T := deskCells4 P T (.int .i64 g)
def IsEnter (w : World) (mb : Nat) (P T g : Int) (st : EnSt) : Prop := ∃ j, Blk w j #[.pointer (some ⟨mb, 0, none⟩)] 40 ∧ Desk w mb (enC P T g) 91 (st.dk j)
theorem EnSt.live (j : Nat) (st : EnSt) : st.dk j ≠ .done := by cases st <;> simp [EnSt.dk]
section
variable {w w' : World} {mb j : Nat} {P T g : Int} {st : EnSt} {nx : Value}
theorem IsEnter.only {S : Nat → Prop} (h : IsEnter w mb P T g st) (ho : Only S w w') (hm : ¬ S mb) (hs : ∀ b x t, Blk w b #[x] t → ¬ S b) : IsEnter w' mb P T g st := by
  obtain ⟨j, h1, h2⟩ := h
  exact ⟨j, h1.only ho (hs _ _ _ h1), h2.only ho hm hs⟩
theorem IsEnter.adds (h : IsEnter w mb P T g st) (ho : Adds w w') : IsEnter w' mb P T g st := h.only ho id (fun _ _ _ _ => id)
theorem IsEnter.stays (mb : Nat) (P T g : Int) (st : EnSt) : Stays (fun w => IsEnter w mb P T g st) := fun a b ho => by
  rintro ⟨j, h1, h2⟩
  exact ⟨j, h1.dids ho (by decide), Desk.stays _ _ _ _ (by decide) a b ho h2⟩
set_option maxHeartbeats 1000000 in
theorem enter_begin (h : Blk w mb (enC P T g nx) 91) :
    Calls Try.prog 39 #[.pointer (some ⟨mb, 0, none⟩)] w fun e w' => e = .returned (.tuple #[]) ∧ IsEnter w' mb P T g .begin ∧ Only (· = mb) w w' := by
  have hl := h.lt
  have HB := Lib.hid (h.alloc (.cells #[.pointer (some ⟨mb, 0, none⟩)] 40)); have HJ := Lib.hid (Blk.new w #[.pointer (some ⟨mb, 0, none⟩)] 40)
  have hs := Lib.hid (show ¬ (w.heap.size = mb) by omega)
  clear h
  go_enter Try.func39, Try.ntmps39
  go_wp2_with (go_at_call 40; refine (deskAdd_any HB.out (by simp) 4 1 _ _ _).mono ?_; rintro e w1 ⟨rfl, h1, h2, ho⟩)
  go_end0
  exact ⟨rfl, ⟨_, HJ.out.only ho hs.out, ⟨_, h1, h2⟩⟩, ((Only.refl (· = mb) w).alloc _).trans ho⟩
set_option maxHeartbeats 1000000 in
theorem enter_wait (h : Blk w mb (enC P T g nx) 91) :
    Calls Try.prog 60 #[.pointer (some ⟨mb, 0, none⟩)] w fun e w' => e = .returned (.tuple #[]) ∧ IsEnter w' mb P T g .wait ∧ Only (· = mb) w w' := by
  have hl := h.lt
  have HB := Lib.hid (h.alloc (.cells #[.pointer (some ⟨mb, 0, none⟩)] 40)); have HJ := Lib.hid (Blk.new w #[.pointer (some ⟨mb, 0, none⟩)] 40)
  have hs := Lib.hid (show ¬ (w.heap.size = mb) by omega)
  clear h
  go_enter Try.func60, Try.ntmps60
  go_wp2_with (go_at_call 46; refine (deskLoad_any HB.out (by simp) 1 _ _ _).mono ?_; rintro e w1 ⟨rfl, h1, h2, ho⟩)
  go_end0
  exact ⟨rfl, ⟨_, HJ.out.only ho hs.out, ⟨_, h1, h2⟩⟩, ((Only.refl (· = mb) w).alloc _).trans ho⟩
set_option maxHeartbeats 1000000 in
theorem enter_one (v : Int) (hj : Blk w j #[.pointer (some ⟨mb, 0, none⟩)] 40) (h : Blk w mb (enC P T g nx) 91) :
    Calls Try.prog 57 #[.int .u64 v, .pointer (some ⟨j, 0, none⟩)] w fun e w' => e = .returned (.tuple #[]) ∧ IsEnter w' mb P T g .look ∧ Only (· = mb) w w' := by
  have c0 := hj.one
  have HB := Lib.hid h; have HJ := Lib.hid hj
  have hs := Lib.hid (h.multi' (by simp) hj)
  clear h hj
  go_enter Try.func57, Try.ntmps57
  go_wp2_with (go_at_call 46; refine (deskLoad_any HB.out (by simp) 1 _ _ _).mono ?_; rintro e w1 ⟨rfl, h1, h2, ho⟩)
  go_end0
  exact ⟨rfl, ⟨_, HJ.out.only ho hs.out, ⟨_, h1, h2⟩⟩, ho⟩
set_option maxHeartbeats 1000000 in
theorem enter_look_no (v : Int) (hv : v ≠ 0) (hj : Blk w j #[.pointer (some ⟨mb, 0, none⟩)] 40) (h : Blk w mb (enC P T g nx) 91) :
    Calls Try.prog 58 #[.int .u64 v, .pointer (some ⟨j, 0, none⟩)] w fun e w' => e = .returned (.tuple #[]) ∧ IsEnter w' mb P T g .undo ∧ Only (· = mb) w w' := by
  have c0 := hj.one
  have HB := Lib.hid h; have HJ := Lib.hid hj
  have hs := Lib.hid (h.multi' (by simp) hj)
  have hv' : (v == 0) = false := by simpa using hv
  clear h hj
  go_enter Try.func58, Try.ntmps58
  go_wp2_with (go_at_call 40; refine (deskAdd_any HB.out (by simp) 4 18446744073709551615 _ _ _).mono ?_; rintro e w1 ⟨rfl, h1, h2, ho⟩)
  refine bodyPost_ret (results_none rfl _ _ _) rfl ?_
  exact ⟨rfl, ⟨_, HJ.out.only ho hs.out, ⟨_, h1, h2⟩⟩, ho⟩
set_option maxHeartbeats 1000000 in
theorem enter_look_yes (hj : Blk w j #[.pointer (some ⟨mb, 0, none⟩)] 40) (h : Blk w mb (enC P T g nx) 91) :
    Calls Try.prog 58 #[.int .u64 0, .pointer (some ⟨j, 0, none⟩)] w fun e w' => e = .returned (.tuple #[]) ∧ IsEnter w' mb P T g .gen ∧ Only (· = mb) w w' := by
  have c0 := hj.one
  have HB := Lib.hid h; have HJ := Lib.hid hj
  have hs := Lib.hid (h.multi' (by simp) hj)
  clear h hj
  go_enter Try.func58, Try.ntmps58
  go_wp2_with (go_at_call 46; refine (deskLoad_any HB.out (by simp) 0 _ _ _).mono ?_; rintro e w1 ⟨rfl, h1, h2, ho⟩)
  go_end0
  exact ⟨rfl, ⟨_, HJ.out.only ho hs.out, ⟨_, h1, h2⟩⟩, ho⟩
set_option maxHeartbeats 1000000 in
theorem enter_undo (v : Int) (hj : Blk w j #[.pointer (some ⟨mb, 0, none⟩)] 40) (h : Blk w mb (enC P T g nx) 91) :
    Calls Try.prog 59 #[.int .u64 v, .pointer (some ⟨j, 0, none⟩)] w fun e w' => e = .returned (.tuple #[]) ∧ IsEnter w' mb P T g .wait ∧ Only (· = mb) w w' := by
  have c0 := hj.one
  have HB := Lib.hid h
  clear h hj
  go_enter Try.func59, Try.ntmps59
  go_wp2_with (go_at_call 60; refine (enter_wait HB.out).mono ?_; rintro e w1 ⟨rfl, h1, ho⟩)
  go_end0
  exact ⟨rfl, h1, ho⟩
set_option maxHeartbeats 1000000 in
theorem enter_wait_yes (hj : Blk w j #[.pointer (some ⟨mb, 0, none⟩)] 40) (h : Blk w mb (enC P T g nx) 91) :
    Calls Try.prog 82 #[.int .u64 0, .pointer (some ⟨j, 0, none⟩)] w fun e w' => e = .returned (.tuple #[]) ∧ IsEnter w' mb P T g .begin ∧ Only (· = mb) w w' := by
  have c0 := hj.one
  have HB := Lib.hid h
  clear h hj
  go_enter Try.func82, Try.ntmps82
  go_wp2_with (go_at_call 39; refine (enter_begin HB.out).mono ?_; rintro e w1 ⟨rfl, h1, ho⟩)
  go_end0
  exact ⟨rfl, h1, ho⟩
set_option maxHeartbeats 1000000 in
theorem enter_wait_no (w : World) (j : Nat) (v : Int) (hv : v ≠ 0) :
    Calls Try.prog 82 #[.int .u64 v, .pointer (some ⟨j, 0, none⟩)] w fun e w' => e = .returned (.tuple #[]) ∧ w = w' := by
  have hv' : (v == 0) = false := by simpa using hv
  go_enter Try.func82, Try.ntmps82
  go_wp2
  go_end0
  exact ⟨rfl, rfl⟩
set_option maxHeartbeats 1000000 in
theorem enter_gen (v : Int) (h0 : 0 ≤ v) (h1 : v < 9223372036854775808) (hj : Blk w j #[.pointer (some ⟨mb, 0, none⟩)] 40) (h : Blk w mb (enC P T g nx) 91) :
    Calls Try.prog 61 #[.int .u64 v, .pointer (some ⟨j, 0, none⟩)] w fun e w' => e = .returned (.tuple #[]) ∧ Desk w' mb (enC P T v) 91 .done ∧ Only (· = mb) w w' := by
  have c0 := hj.one
  have hs : ¬ j = mb := h.multi' (by simp) hj
  have m3 : w.cell? ⟨mb, 3, none⟩ = some (.int .i64 g) := h.cell 3
  have f3 := h.frozen 3
  have e1 : IntKind.i64.wrap v = v := by simp [IntKind.wrap_i64]; omega
  have HB := Lib.hid (show Blk (w.setCell ⟨mb, 3, none⟩ (.int .i64 v)) mb (enC P T v nx) 91 from h.setCell 3 _)
  have hl := h.lt
  clear h hj
  go_enter Try.func61, Try.ntmps61
  go_wp2_with (go_at_call 42; refine (deskEnd_any HB.out (by simp)).mono ?_; rintro e w1 ⟨rfl, rfl⟩)
  go_end0
  exact ⟨rfl, HB.out.setCell 2 _, ((Only.refl (fun x => x = mb) w).setCell (.inl rfl) _).setCell (.inl rfl) _⟩
end

section
variable {w : World} {mb ab sb sm rb : Nat} {P T g : Int} {s : StoreS} {st : EnSt}
theorem enterStep_begin (h : IsEnter w mb P T g .begin) (hY : Yard w ab sb sm rb P T s) (hbig : 4 < s.ws.length) :
    Calls Try.prog 19 #[.pointer (some ⟨mb, 0, none⟩), .pointer (some ⟨ab, 0, none⟩)] w fun e w' => e = .returned (.agg #[.int .i64 5, .int .i64 4, .int .u64 (s.word 4), .int .u64 ((s.word 4 + 1) % 18446744073709551616)]) ∧ (IsEnter w' mb P T g .look ∧ Yard w' ab sb sm rb P T (s.acc 5 4 ((s.word 4 + 1) % 18446744073709551616))) ∧ Only (fun j => SB sb sm j ∨ j = mb) w w' := by
  have hlt := hY.st.head.lt; have hlt2 := hY.st.row.lt
  obtain ⟨j, hj, hd⟩ := h
  have hml : mb < w.heap.size := by obtain ⟨_, hb, _⟩ := hd.blk; exact hb.lt
  refine worldEnterStep_some (Q := fun w' => IsEnter w' mb P T g .look ∧ Yard w' ab sb sm rb P T (s.acc 5 4 ((s.word 4 + 1) % 18446744073709551616))) (S := fun j => SB sb sm j ∨ j = mb) ((IsEnter.stays mb P T g .look).and (fun _ _ ho h => Yard.dids h ho)) (fun j hj => hj.elim (fun e => e.elim (· ▸ hlt) (· ▸ hlt2)) (· ▸ hml)) (fun w1 ho => ?_)
  have hw := StoreS.word_bd hY.st.fit 4
  refine (Desk.stepAdd (enCells P T g) (by decide) (hd.adds ho) (hY.adds ho) (by omega) ⟨by omega, by omega⟩ (IsEnter.stays mb P T g .look) (enters_of Try.func57 (by kernel_rfl) rfl) ?_)
  exact fun w2 nx hk hb => enter_one _ (hk _ _ _ (hj.only ho id)) hb

theorem enterStep_look_no (h : IsEnter w mb P T g .look) (hY : Yard w ab sb sm rb P T s) (hbig : 4 < s.ws.length) (hz : s.word 1 ≠ 0) :
    Calls Try.prog 19 #[.pointer (some ⟨mb, 0, none⟩), .pointer (some ⟨ab, 0, none⟩)] w fun e w' => e = .returned (.agg #[.int .i64 1, .int .i64 1, .int .u64 (s.word 1), .int .u64 (s.word 1)]) ∧ (IsEnter w' mb P T g .undo ∧ Yard w' ab sb sm rb P T (s.acc 1 1 (s.word 1))) ∧ Only (fun j => SB sb sm j ∨ j = mb) w w' := by
  have hlt := hY.st.head.lt; have hlt2 := hY.st.row.lt
  obtain ⟨j, hj, hd⟩ := h
  have hml : mb < w.heap.size := by obtain ⟨_, hb, _⟩ := hd.blk; exact hb.lt
  refine worldEnterStep_some (Q := fun w' => IsEnter w' mb P T g .undo ∧ Yard w' ab sb sm rb P T (s.acc 1 1 (s.word 1))) (S := fun j => SB sb sm j ∨ j = mb) ((IsEnter.stays mb P T g .undo).and (fun _ _ ho h => Yard.dids h ho)) (fun j hj => hj.elim (fun e => e.elim (· ▸ hlt) (· ▸ hlt2)) (· ▸ hml)) (fun w1 ho => ?_)
  have hw := StoreS.word_bd hY.st.fit 1
  refine (Desk.stepLoad (enCells P T g) (by decide) (hd.adds ho) (hY.adds ho) (by omega) ⟨by omega, by omega⟩ (IsEnter.stays mb P T g .undo) (enters_of Try.func58 (by kernel_rfl) rfl) ?_)
  exact fun w2 nx hk hb _ => enter_look_no _ hz (hk _ _ _ (hj.only ho id)) hb

theorem enterStep_look_yes (h : IsEnter w mb P T g .look) (hY : Yard w ab sb sm rb P T s) (hbig : 4 < s.ws.length) (hz : s.word 1 = 0) :
    Calls Try.prog 19 #[.pointer (some ⟨mb, 0, none⟩), .pointer (some ⟨ab, 0, none⟩)] w fun e w' => e = .returned (.agg #[.int .i64 1, .int .i64 1, .int .u64 (s.word 1), .int .u64 (s.word 1)]) ∧ (IsEnter w' mb P T g .gen ∧ Yard w' ab sb sm rb P T (s.acc 1 1 (s.word 1))) ∧ Only (fun j => SB sb sm j ∨ j = mb) w w' := by
  have hlt := hY.st.head.lt; have hlt2 := hY.st.row.lt
  obtain ⟨j, hj, hd⟩ := h
  have hml : mb < w.heap.size := by obtain ⟨_, hb, _⟩ := hd.blk; exact hb.lt
  refine worldEnterStep_some (Q := fun w' => IsEnter w' mb P T g .gen ∧ Yard w' ab sb sm rb P T (s.acc 1 1 (s.word 1))) (S := fun j => SB sb sm j ∨ j = mb) ((IsEnter.stays mb P T g .gen).and (fun _ _ ho h => Yard.dids h ho)) (fun j hj => hj.elim (fun e => e.elim (· ▸ hlt) (· ▸ hlt2)) (· ▸ hml)) (fun w1 ho => ?_)
  have hw := StoreS.word_bd hY.st.fit 1
  refine (Desk.stepLoad (enCells P T g) (by decide) (hd.adds ho) (hY.adds ho) (by omega) ⟨by omega, by omega⟩ (IsEnter.stays mb P T g .gen) (enters_of Try.func58 (by kernel_rfl) rfl) ?_)
  rw [hz]; exact fun w2 nx hk hb _ => enter_look_yes (hk _ _ _ (hj.only ho id)) hb

theorem enterStep_undo (h : IsEnter w mb P T g .undo) (hY : Yard w ab sb sm rb P T s) (hbig : 4 < s.ws.length) :
    Calls Try.prog 19 #[.pointer (some ⟨mb, 0, none⟩), .pointer (some ⟨ab, 0, none⟩)] w fun e w' => e = .returned (.agg #[.int .i64 5, .int .i64 4, .int .u64 (s.word 4), .int .u64 ((s.word 4 + 18446744073709551615) % 18446744073709551616)]) ∧ (IsEnter w' mb P T g .wait ∧ Yard w' ab sb sm rb P T (s.acc 5 4 ((s.word 4 + 18446744073709551615) % 18446744073709551616))) ∧ Only (fun j => SB sb sm j ∨ j = mb) w w' := by
  have hlt := hY.st.head.lt; have hlt2 := hY.st.row.lt
  obtain ⟨j, hj, hd⟩ := h
  have hml : mb < w.heap.size := by obtain ⟨_, hb, _⟩ := hd.blk; exact hb.lt
  refine worldEnterStep_some (Q := fun w' => IsEnter w' mb P T g .wait ∧ Yard w' ab sb sm rb P T (s.acc 5 4 ((s.word 4 + 18446744073709551615) % 18446744073709551616))) (S := fun j => SB sb sm j ∨ j = mb) ((IsEnter.stays mb P T g .wait).and (fun _ _ ho h => Yard.dids h ho)) (fun j hj => hj.elim (fun e => e.elim (· ▸ hlt) (· ▸ hlt2)) (· ▸ hml)) (fun w1 ho => ?_)
  have hw := StoreS.word_bd hY.st.fit 4
  refine (Desk.stepAdd (enCells P T g) (by decide) (hd.adds ho) (hY.adds ho) (by omega) ⟨by omega, by omega⟩ (IsEnter.stays mb P T g .wait) (enters_of Try.func59 (by kernel_rfl) rfl) ?_)
  exact fun w2 nx hk hb => enter_undo _ (hk _ _ _ (hj.only ho id)) hb

theorem enterStep_wait_yes (h : IsEnter w mb P T g .wait) (hY : Yard w ab sb sm rb P T s) (hbig : 4 < s.ws.length) (hz : s.word 1 = 0) :
    Calls Try.prog 19 #[.pointer (some ⟨mb, 0, none⟩), .pointer (some ⟨ab, 0, none⟩)] w fun e w' => e = .returned (.agg #[.int .i64 1, .int .i64 1, .int .u64 (s.word 1), .int .u64 (s.word 1)]) ∧ (IsEnter w' mb P T g .begin ∧ Yard w' ab sb sm rb P T (s.acc 1 1 (s.word 1))) ∧ Only (fun j => SB sb sm j ∨ j = mb) w w' := by
  have hlt := hY.st.head.lt; have hlt2 := hY.st.row.lt
  obtain ⟨j, hj, hd⟩ := h
  have hml : mb < w.heap.size := by obtain ⟨_, hb, _⟩ := hd.blk; exact hb.lt
  refine worldEnterStep_some (Q := fun w' => IsEnter w' mb P T g .begin ∧ Yard w' ab sb sm rb P T (s.acc 1 1 (s.word 1))) (S := fun j => SB sb sm j ∨ j = mb) ((IsEnter.stays mb P T g .begin).and (fun _ _ ho h => Yard.dids h ho)) (fun j hj => hj.elim (fun e => e.elim (· ▸ hlt) (· ▸ hlt2)) (· ▸ hml)) (fun w1 ho => ?_)
  have hw := StoreS.word_bd hY.st.fit 1
  refine (Desk.stepLoad (enCells P T g) (by decide) (hd.adds ho) (hY.adds ho) (by omega) ⟨by omega, by omega⟩ (IsEnter.stays mb P T g .begin) (enters_of Try.func82 (by kernel_rfl) rfl) ?_)
  rw [hz]; exact fun w2 nx hk hb _ => enter_wait_yes (hk _ _ _ (hj.only ho id)) hb

theorem enterStep_wait_no (h : IsEnter w mb P T g .wait) (hY : Yard w ab sb sm rb P T s) (hbig : 4 < s.ws.length) (hz : s.word 1 ≠ 0) :
    Calls Try.prog 19 #[.pointer (some ⟨mb, 0, none⟩), .pointer (some ⟨ab, 0, none⟩)] w fun e w' => e = .returned (.agg #[.int .i64 1, .int .i64 1, .int .u64 (s.word 1), .int .u64 (s.word 1)]) ∧ (IsEnter w' mb P T g .wait ∧ Yard w' ab sb sm rb P T (s.acc 1 1 (s.word 1))) ∧ Only (fun j => SB sb sm j ∨ j = mb) w w' := by
  have hlt := hY.st.head.lt; have hlt2 := hY.st.row.lt
  obtain ⟨j, hj, hd⟩ := h
  have hml : mb < w.heap.size := by obtain ⟨_, hb, _⟩ := hd.blk; exact hb.lt
  refine worldEnterStep_some (Q := fun w' => IsEnter w' mb P T g .wait ∧ Yard w' ab sb sm rb P T (s.acc 1 1 (s.word 1))) (S := fun j => SB sb sm j ∨ j = mb) ((IsEnter.stays mb P T g .wait).and (fun _ _ ho h => Yard.dids h ho)) (fun j hj => hj.elim (fun e => e.elim (· ▸ hlt) (· ▸ hlt2)) (· ▸ hml)) (fun w1 ho => ?_)
  have hw := StoreS.word_bd hY.st.fit 1
  refine (Desk.stepLoad (enCells P T g) (by decide) (hd.adds ho) (hY.adds ho) (by omega) ⟨by omega, by omega⟩ (IsEnter.stays mb P T g .wait) (enters_of Try.func82 (by kernel_rfl) rfl) ?_)
  exact fun w2 nx hk hb hd2 => (enter_wait_no w2 j _ hz).mono (fun e w3 h => ⟨h.1, h.2 ▸ ⟨j, hk _ _ _ (hj.only ho id), hd2⟩, h.2 ▸ Only.refl _ _⟩)

theorem enterStep_gen (h : IsEnter w mb P T g .gen) (hY : Yard w ab sb sm rb P T s) (hbig : 4 < s.ws.length) (hz : s.word 0 < 9223372036854775808) :
    Calls Try.prog 19 #[.pointer (some ⟨mb, 0, none⟩), .pointer (some ⟨ab, 0, none⟩)] w fun e w' => e = .returned (.agg #[.int .i64 1, .int .i64 0, .int .u64 (s.word 0), .int .u64 (s.word 0)]) ∧ (Desk w' mb (enC P T (s.word 0)) 91 .done ∧ Yard w' ab sb sm rb P T (s.acc 1 0 (s.word 0))) ∧ Only (fun j => SB sb sm j ∨ j = mb) w w' := by
  have hlt := hY.st.head.lt; have hlt2 := hY.st.row.lt
  obtain ⟨j, hj, hd⟩ := h
  have hml : mb < w.heap.size := by obtain ⟨_, hb, _⟩ := hd.blk; exact hb.lt
  refine worldEnterStep_some (Q := fun w' => Desk w' mb (enC P T (s.word 0)) 91 .done ∧ Yard w' ab sb sm rb P T (s.acc 1 0 (s.word 0))) (S := fun j => SB sb sm j ∨ j = mb) ((Desk.stays mb (enC P T (s.word 0)) 91 .done (by decide)).and (fun _ _ ho h => Yard.dids h ho)) (fun j hj => hj.elim (fun e => e.elim (· ▸ hlt) (· ▸ hlt2)) (· ▸ hml)) (fun w1 ho => ?_)
  have hw := StoreS.word_bd hY.st.fit 0
  refine (Desk.stepLoad (enCells P T g) (by decide) (hd.adds ho) (hY.adds ho) (by omega) ⟨by omega, by omega⟩ (Desk.stays mb (enC P T (s.word 0)) 91 .done (by decide)) (enters_of Try.func61 (by kernel_rfl) rfl) ?_)
  exact fun w2 nx hk hb _ => enter_gen _ hw.1 hz (hk _ _ _ (hj.only ho id)) hb

theorem enterStep_none (h : IsEnter w mb P T g st) : Calls Try.prog 19 #[.pointer (some ⟨mb, 0, none⟩), .pointer none] w fun e w' => e = .returned (.agg #[.int .i64 0, .int .i64 0, .int .u64 0, .int .u64 0]) ∧ Adds w w' := by
  obtain ⟨j, _, hd⟩ := h
  exact (worldEnterStep_some (Q := fun _ => True) (S := fun _ => False) (fun _ _ _ _ => trivial) (fun _ e => e.elim) (fun w1 ho => (hd.adds ho).inNone (enCells P T g) (EnSt.live j st))).mono (fun _ _ h => ⟨h.1, h.2.2⟩)
theorem enterStep_other {P' T' : Int} (h : IsEnter w mb P T g st) (hA : IsArena w ab sb rb P' T') (hne : (P' == P && T' == T) = false) : Calls Try.prog 19 #[.pointer (some ⟨mb, 0, none⟩), .pointer (some ⟨ab, 0, none⟩)] w fun e w' => e = .returned (.agg #[.int .i64 0, .int .i64 0, .int .u64 0, .int .u64 0]) ∧ Adds w w' := by
  obtain ⟨j, _, hd⟩ := h
  exact (worldEnterStep_some (Q := fun _ => True) (S := fun _ => False) (fun _ _ _ _ => trivial) (fun _ e => e.elim) (fun w1 ho => (hd.adds ho).inOther (enCells P T g) (EnSt.live j st) (hA.only ho id) hne)).mono (fun _ _ h => ⟨h.1, h.2.2⟩)
theorem enterDone_no (h : IsEnter w mb P T g st) : Calls Try.prog 20 #[.pointer (some ⟨mb, 0, none⟩)] w fun e w' => e = .returned (.bool false) ∧ w = w' := by
  obtain ⟨j, _, hd⟩ := h
  obtain ⟨nx, hb, hl⟩ := hd.blk
  obtain ⟨_, _, _, rfl⟩ := hl (EnSt.live j st)
  exact worldEnterDone_no (hb.cell 2)
theorem enterDone_yes (h : Desk w mb (enC P T g) 91 .done) : Calls Try.prog 20 #[.pointer (some ⟨mb, 0, none⟩)] w fun e w' => e = .returned (.bool true) ∧ w = w' := worldEnterDone_yes (Blk.cell h 2)
set_option maxHeartbeats 400000 in
theorem enterGen_any {nx : Value} (h : Blk w mb (enC P T g nx) 91) : Calls Try.prog 21 #[.pointer (some ⟨mb, 0, none⟩)] w fun e w' => e = .returned (.int .i64 g) ∧ w = w' := by
  have c3 : w.cell? ⟨mb, 3, none⟩ = some (.int .i64 g) := h.cell 3
  clear h
  go_enter Try.func21, Try.ntmps21
  go_wp2
  go_ret
  exact ⟨rfl, rfl⟩
set_option maxHeartbeats 400000 in
theorem enterGen_nil (w : World) : Calls Try.prog 21 #[.pointer none] w fun e w' => e = .returned (.int .i64 0) ∧ w = w' := by
  go_enter Try.func21, Try.ntmps21
  go_wp2
  go_ret
  exact ⟨rfl, rfl⟩
set_option maxHeartbeats 400000 in
theorem newEnter_no (P T : Int) (w : World) (hm : Lay.may P T = false) : Calls Try.prog 15 #[.agg #[.int .i64 P, .int .i64 T]] w fun e w' => e = .returned (.pointer none) ∧ Adds w w' := by
  go_enter Try.func15, Try.ntmps15
  go_wp2_with (go_at_call 10; refine (layMay_any P T _).mono ?_; rintro e w1 ⟨rfl, ho1⟩; rw [hm])
  go_ret
  exact ⟨rfl, Adds.box ho1⟩
set_option maxHeartbeats 1000000 in
theorem newEnter_ok (P T : Int) (w : World) (hm : Lay.may P T = true) : Calls Try.prog 15 #[.agg #[.int .i64 P, .int .i64 T]] w fun e w' => ∃ mb, e = .returned (.pointer (some ⟨mb, 0, none⟩)) ∧ IsEnter w' mb P T 0 .begin ∧ Adds w w' ∧ w.heap.size ≤ mb := by
  go_enter Try.func15, Try.ntmps15
  go_wp2_with (first
    | (go_at_call 10; refine (layMay_any P T _).mono ?_; rintro e w1 ⟨rfl, ho1⟩; rw [hm]; obtain ⟨x0, x1, ho2⟩ := box2_cells ho1; have HO2 := Lib.hid ho2; clear ho1 ho2)
    | (go_at_call 39; refine (enter_begin (g := 0) (nx := .nilFunc) (Blk.new w1 (enC P T 0 .nilFunc) 91)).mono ?_; rintro e w2 ⟨rfl, h1, ho3⟩))
  go_ret
  have hz := HO2.out.size
  exact ⟨_, rfl, h1, (HO2.out.alloc _).andThen ho3 (fun i hi e => by omega), hz⟩
end
end Go.Proofs.Ytbepbcjklgfmjaa

/- Package world: Exit, Stop, Go. By an AI agent. -/
import Derived.Test.YtbepbcjklgfmjaaZ3
import Derived.Test.YtbepbcjklgfmjaaZ7
import Derived.Deep.RegionHeld3
namespace Go.Proofs.Ytbepbcjklgfmjaa
open Go.RowKit
set_option linter.unusedSimpArgs false
set_option linter.unusedVariables false
abbrev c3 (P T : Int) : Value → Array Value := fun nx => #[.int .i64 P, .int .i64 T, nx]
theorem c3Cells (P T : Int) : Cells (c3 P T) P T := deskCells3 P T
/-- Where a stop is. -/
inductive StSt where
  | try_ (t : Int) | busy | gen
def StSt.dk (mb j : Nat) : StSt → DK
  | .try_ t => .cas 1 0 (t + 1) (.func (.func 45) #[] #[.pointer (some ⟨j, 0, none⟩)])
  | .busy => .load 4 (.func (.func 47) #[.pointer (some ⟨mb, 0, none⟩)] #[])
  | .gen => .load 0 (.func (.func 69) #[] #[.pointer (some ⟨j, 0, none⟩)])
abbrev stC (P T g : Int) : Value → Array Value := fun nx => #[.int .i64 P, .int .i64 T, nx, .int .i64 g]
theorem stCells (P T g : Int) : Cells (stC P T g) P T := deskCells4 P T (.int .i64 g)
def IsStop (w : World) (mb : Nat) (P T g : Int) (st : StSt) : Prop := ∃ j, Blk w j #[.pointer (some ⟨mb, 0, none⟩)] 42 ∧ Desk w mb (stC P T g) 97 (st.dk mb j)
def IsExit (w : World) (mb : Nat) (P T : Int) : Prop := ∃ j, Blk w j #[.pointer (some ⟨mb, 0, none⟩)] 41 ∧ Desk w mb (c3 P T) 93 (.add 4 18446744073709551615 (.func (.func 41) #[] #[.pointer (some ⟨j, 0, none⟩)]))
def IsGo (w : World) (mb : Nat) (P T : Int) : Prop := Desk w mb (c3 P T) 101 (.put 1 0 (.func (.func 42) #[.pointer (some ⟨mb, 0, none⟩)] #[]))
theorem StSt.live (mb j : Nat) (st : StSt) : st.dk mb j ≠ .done := by cases st <;> simp [StSt.dk]
section
variable {w w' : World} {mb j : Nat} {P T g : Int} {st : StSt} {nx : Value}
theorem IsStop.only {S : Nat → Prop} (h : IsStop w mb P T g st) (ho : Only S w w') (hm : ¬ S mb) (hs : ∀ b x t, Blk w b #[x] t → ¬ S b) : IsStop w' mb P T g st := by
  obtain ⟨j, h1, h2⟩ := h
  exact ⟨j, h1.only ho (hs _ _ _ h1), h2.only ho hm hs⟩
theorem IsStop.adds (h : IsStop w mb P T g st) (ho : Adds w w') : IsStop w' mb P T g st := h.only ho id (fun _ _ _ _ => id)
theorem IsStop.stays (mb : Nat) (P T g : Int) (st : StSt) : Stays (fun w => IsStop w mb P T g st) := fun a b ho => by
  rintro ⟨j, h1, h2⟩
  exact ⟨j, h1.dids ho (by decide), Desk.stays _ _ _ _ (by decide) a b ho h2⟩
theorem IsExit.only {S : Nat → Prop} (h : IsExit w mb P T) (ho : Only S w w') (hm : ¬ S mb) (hs : ∀ b x t, Blk w b #[x] t → ¬ S b) : IsExit w' mb P T := by
  obtain ⟨j, h1, h2⟩ := h
  exact ⟨j, h1.only ho (hs _ _ _ h1), h2.only ho hm hs⟩
theorem IsExit.adds (h : IsExit w mb P T) (ho : Adds w w') : IsExit w' mb P T := h.only ho id (fun _ _ _ _ => id)
theorem IsGo.adds (h : IsGo w mb P T) (ho : Adds w w') : IsGo w' mb P T := Desk.adds h ho
set_option maxHeartbeats 400000 in
theorem exit_then (v : Int) (hj : Blk w j #[.pointer (some ⟨mb, 0, none⟩)] 41) (h : Blk w mb (c3 P T nx) 93) :
    Calls Try.prog 41 #[.int .u64 v, .pointer (some ⟨j, 0, none⟩)] w fun e w' => e = .returned (.tuple #[]) ∧ Desk w' mb (c3 P T) 93 .done ∧ Only (· = mb) w w' := by
  have c0 := hj.one
  have HB := Lib.hid h
  clear h hj
  go_enter Try.func41, Try.ntmps41
  go_wp2_with (go_at_call 42; refine (deskEnd_any HB.out (by simp)).mono ?_; rintro e w1 ⟨rfl, rfl⟩)
  go_end0
  exact ⟨rfl, HB.out.setCell 2 _, (Only.refl (fun x => x = mb) w).setCell (.inl rfl) _⟩
set_option maxHeartbeats 1000000 in
theorem stop_won (hj : Blk w j #[.pointer (some ⟨mb, 0, none⟩)] 42) (h : Blk w mb (stC P T g nx) 97) :
    Calls Try.prog 45 #[.bool true, .pointer (some ⟨j, 0, none⟩)] w fun e w' => e = .returned (.tuple #[]) ∧ IsStop w' mb P T g .busy ∧ Only (· = mb) w w' := by
  have c0 := hj.one
  have HB := Lib.hid h; have HJ := Lib.hid hj
  have hs := Lib.hid (h.multi' (by simp) hj)
  clear h hj
  go_enter Try.func45, Try.ntmps45
  go_wp2_with fail
  go_region_held3 (fun W => W.cell? ⟨j, 0, none⟩ = some (.pointer (some ⟨mb, 0, none⟩)))
    (first | (exact c0) | (exact (HJ.out.drew.only (by assumption) hs.out).one))
    (first | (go_at_call 46; refine (deskLoad_any HB.out.drew (by simp) 4 _ _ _).mono ?_; rintro e w1 ⟨rfl, h1, h2, ho⟩))
  go_wp2
  go_end0
  have hO := ((Only.refl (· = mb) w).drew).trans ho
  exact ⟨rfl, ⟨j, HJ.out.only hO hs.out, ⟨_, h1, h2⟩⟩, hO⟩
set_option maxHeartbeats 400000 in
theorem stop_lost (w : World) (j : Nat) : Calls Try.prog 45 #[.bool false, .pointer (some ⟨j, 0, none⟩)] w fun e w' => e = .returned (.tuple #[]) ∧ w = w' := by
  go_enter Try.func45, Try.ntmps45
  go_wp2
  go_end0
  exact ⟨rfl, rfl⟩
set_option maxHeartbeats 400000 in
theorem stop_busy_no (v : Int) (hv : v ≠ 0) (w : World) (mb : Nat) : Calls Try.prog 47 #[.pointer (some ⟨mb, 0, none⟩), .int .u64 v] w fun e w' => e = .returned (.tuple #[]) ∧ Adds w w' := by
  have hv' : (v == 0) = false := by simpa using hv
  go_enter Try.func47, Try.ntmps47
  go_wp2
  refine bodyPost_ret (results_none rfl _ _ _) rfl ?_
  exact ⟨rfl, (Only.refl _ _).alloc _⟩
set_option maxHeartbeats 1000000 in
theorem stop_busy_yes (h : Blk w mb (stC P T g nx) 97) :
    Calls Try.prog 47 #[.pointer (some ⟨mb, 0, none⟩), .int .u64 0] w fun e w' => e = .returned (.tuple #[]) ∧ IsStop w' mb P T g .gen ∧ Only (· = mb) w w' := by
  have hl := h.lt
  have HB := Lib.hid (h.alloc (.cells #[.pointer (some ⟨mb, 0, none⟩)] 42)); have HJ := Lib.hid (Blk.new w #[.pointer (some ⟨mb, 0, none⟩)] 42)
  have hs := Lib.hid (show ¬ (w.heap.size = mb) by omega)
  clear h
  go_enter Try.func47, Try.ntmps47
  go_wp2_with (go_at_call 46; refine (deskLoad_any HB.out (by simp) 0 _ _ _).mono ?_; rintro e w1 ⟨rfl, h1, h2, ho⟩)
  go_end0
  exact ⟨rfl, ⟨_, HJ.out.only ho hs.out, ⟨_, h1, h2⟩⟩, ((Only.refl (· = mb) w).alloc _).trans ho⟩
set_option maxHeartbeats 1000000 in
theorem stop_gen (v : Int) (h0 : 0 ≤ v) (h1 : v < 9223372036854775808) (hj : Blk w j #[.pointer (some ⟨mb, 0, none⟩)] 42) (h : Blk w mb (stC P T g nx) 97) :
    Calls Try.prog 69 #[.int .u64 v, .pointer (some ⟨j, 0, none⟩)] w fun e w' => e = .returned (.tuple #[]) ∧ Desk w' mb (stC P T v) 97 .done ∧ Only (· = mb) w w' := by
  have c0 := hj.one
  have hs : ¬ j = mb := h.multi' (by simp) hj
  have m3 : w.cell? ⟨mb, 3, none⟩ = some (.int .i64 g) := h.cell 3
  have f3 := h.frozen 3
  have e1 : IntKind.i64.wrap v = v := by simp [IntKind.wrap_i64]; omega
  have HB := Lib.hid (show Blk (w.setCell ⟨mb, 3, none⟩ (.int .i64 v)) mb (stC P T v nx) 97 from h.setCell 3 _)
  have hl := h.lt
  clear h hj
  go_enter Try.func69, Try.ntmps69
  go_wp2_with (go_at_call 42; refine (deskEnd_any HB.out (by simp)).mono ?_; rintro e w1 ⟨rfl, rfl⟩)
  go_end0
  exact ⟨rfl, HB.out.setCell 2 _, ((Only.refl (fun x => x = mb) w).setCell (.inl rfl) _).setCell (.inl rfl) _⟩
end
section
variable {w : World} {mb ab sb sm rb : Nat} {P T g : Int} {s : StoreS} {st : StSt}

theorem exitStep_any (h : IsExit w mb P T) (hY : Yard w ab sb sm rb P T s) (hbig : 4 < s.ws.length) :
    Calls Try.prog 22 #[.pointer (some ⟨mb, 0, none⟩), .pointer (some ⟨ab, 0, none⟩)] w fun e w' => e = .returned (.agg #[.int .i64 5, .int .i64 4, .int .u64 (s.word 4), .int .u64 ((s.word 4 + 18446744073709551615) % 18446744073709551616)]) ∧ (Desk w' mb (c3 P T) 93 .done ∧ Yard w' ab sb sm rb P T (s.acc 5 4 ((s.word 4 + 18446744073709551615) % 18446744073709551616))) ∧ Only (fun j => SB sb sm j ∨ j = mb) w w' := by
  have hlt := hY.st.head.lt; have hlt2 := hY.st.row.lt
  obtain ⟨j, hj, hd⟩ := h
  have hml : mb < w.heap.size := by obtain ⟨_, hb, _⟩ := Desk.blk hd; exact hb.lt
  refine worldExitStep_some (Q := fun w' => Desk w' mb (c3 P T) 93 .done ∧ Yard w' ab sb sm rb P T (s.acc 5 4 ((s.word 4 + 18446744073709551615) % 18446744073709551616))) (S := fun j => SB sb sm j ∨ j = mb) ((Desk.stays mb (c3 P T) 93 .done (by decide)).and (fun _ _ ho h => Yard.dids h ho)) (fun j hj => hj.elim (fun e => e.elim (· ▸ hlt) (· ▸ hlt2)) (· ▸ hml)) (fun w1 ho => ?_)
  have hw := StoreS.word_bd hY.st.fit 0
  exact Desk.stepAdd (c3Cells P T) (by decide) (hd.adds ho) (hY.adds ho) (by omega) ⟨by omega, by omega⟩ (Desk.stays mb (c3 P T) 93 .done (by decide)) (enters_of Try.func41 (by kernel_rfl) rfl) (fun w2 nx hk hb => exit_then _ (hk _ _ _ (hj.only ho id)) hb)

theorem goStep_any (h : IsGo w mb P T) (hY : Yard w ab sb sm rb P T s) (hbig : 4 < s.ws.length) :
    Calls Try.prog 27 #[.pointer (some ⟨mb, 0, none⟩), .pointer (some ⟨ab, 0, none⟩)] w fun e w' => e = .returned (.agg #[.int .i64 2, .int .i64 1, .int .u64 (s.word 1), .int .u64 0]) ∧ (Desk w' mb (c3 P T) 101 .done ∧ Yard w' ab sb sm rb P T (s.acc 2 1 0)) ∧ Only (fun j => SB sb sm j ∨ j = mb) w w' := by
  have hlt := hY.st.head.lt; have hlt2 := hY.st.row.lt
  have hd := h
  have hml : mb < w.heap.size := by obtain ⟨_, hb, _⟩ := Desk.blk hd; exact hb.lt
  refine worldGoStep_some (Q := fun w' => Desk w' mb (c3 P T) 101 .done ∧ Yard w' ab sb sm rb P T (s.acc 2 1 0)) (S := fun j => SB sb sm j ∨ j = mb) ((Desk.stays mb (c3 P T) 101 .done (by decide)).and (fun _ _ ho h => Yard.dids h ho)) (fun j hj => hj.elim (fun e => e.elim (· ▸ hlt) (· ▸ hlt2)) (· ▸ hml)) (fun w1 ho => ?_)
  have hw := StoreS.word_bd hY.st.fit 0
  exact Desk.stepPut (c3Cells P T) (by decide) (Desk.adds hd ho) (hY.adds ho) (by omega) ⟨by omega, by omega⟩ ⟨by omega, by omega⟩ (Desk.stays mb (c3 P T) 101 .done (by decide)) (enters_of Try.func42 (by kernel_rfl) rfl) (fun w2 nx _ hb => (deskEnd_any hb (by simp)).mono (fun e w3 h => ⟨h.1, h.2 ▸ hb.setCell 2 _, h.2 ▸ (Only.refl (fun x => x = mb) _).setCell (.inl rfl) _⟩))

theorem stopStep_try_win {t : Int} (ht : 0 ≤ t ∧ t < 64) (h : IsStop w mb P T g (.try_ t)) (hY : Yard w ab sb sm rb P T s) (hbig : 4 < s.ws.length) (hz : s.word 1 = 0) :
    Calls Try.prog 24 #[.pointer (some ⟨mb, 0, none⟩), .pointer (some ⟨ab, 0, none⟩)] w fun e w' => e = .returned (.agg #[.int .i64 3, .int .i64 1, .int .u64 (s.word 1), .int .u64 (t + 1)]) ∧ (IsStop w' mb P T g .busy ∧ Yard w' ab sb sm rb P T (s.acc 3 1 (t + 1))) ∧ Only (fun j => SB sb sm j ∨ j = mb) w w' := by
  have hlt := hY.st.head.lt; have hlt2 := hY.st.row.lt
  obtain ⟨j, hj, hd⟩ := h
  have hml : mb < w.heap.size := by obtain ⟨_, hb, _⟩ := Desk.blk hd; exact hb.lt
  refine worldStopStep_some (Q := fun w' => IsStop w' mb P T g .busy ∧ Yard w' ab sb sm rb P T (s.acc 3 1 (t + 1))) (S := fun j => SB sb sm j ∨ j = mb) ((IsStop.stays mb P T g .busy).and (fun _ _ ho h => Yard.dids h ho)) (fun j hj => hj.elim (fun e => e.elim (· ▸ hlt) (· ▸ hlt2)) (· ▸ hml)) (fun w1 ho => ?_)
  have hw := StoreS.word_bd hY.st.fit 0
  exact Desk.stepCasWin (stCells P T g) (by decide) (hd.adds ho) (hY.adds ho) (by omega) ⟨by omega, by omega⟩ hz ⟨by omega, by omega⟩ (IsStop.stays mb P T g .busy) (enters_of Try.func45 (by kernel_rfl) rfl) (fun w2 nx hk hb => stop_won (hk _ _ _ (hj.only ho id)) hb)

theorem stopStep_try_lost {t : Int} (h : IsStop w mb P T g (.try_ t)) (hY : Yard w ab sb sm rb P T s) (hbig : 4 < s.ws.length) (hz : s.word 1 ≠ 0) :
    Calls Try.prog 24 #[.pointer (some ⟨mb, 0, none⟩), .pointer (some ⟨ab, 0, none⟩)] w fun e w' => e = .returned (.agg #[.int .i64 4, .int .i64 1, .int .u64 (s.word 1), .int .u64 (s.word 1)]) ∧ (IsStop w' mb P T g (.try_ t) ∧ Yard w' ab sb sm rb P T (s.acc 4 1 (s.word 1))) ∧ Only (fun j => SB sb sm j ∨ j = mb) w w' := by
  have hlt := hY.st.head.lt; have hlt2 := hY.st.row.lt
  obtain ⟨j, hj, hd⟩ := h
  have hml : mb < w.heap.size := by obtain ⟨_, hb, _⟩ := Desk.blk hd; exact hb.lt
  refine worldStopStep_some (Q := fun w' => IsStop w' mb P T g (.try_ t) ∧ Yard w' ab sb sm rb P T (s.acc 4 1 (s.word 1))) (S := fun j => SB sb sm j ∨ j = mb) ((IsStop.stays mb P T g (.try_ t)).and (fun _ _ ho h => Yard.dids h ho)) (fun j hj => hj.elim (fun e => e.elim (· ▸ hlt) (· ▸ hlt2)) (· ▸ hml)) (fun w1 ho => ?_)
  have hw := StoreS.word_bd hY.st.fit 0
  exact Desk.stepCasLost (stCells P T g) (by decide) (hd.adds ho) (hY.adds ho) (by omega) ⟨by omega, by omega⟩ hz (IsStop.stays mb P T g (.try_ t)) (enters_of Try.func45 (by kernel_rfl) rfl) (fun w2 nx hk hb hd2 => (stop_lost w2 j).mono (fun e w3 h => ⟨h.1, h.2 ▸ ⟨j, hk _ _ _ (hj.only ho id), hd2⟩, h.2 ▸ Only.refl _ _⟩))

theorem stopStep_busy_no (h : IsStop w mb P T g .busy) (hY : Yard w ab sb sm rb P T s) (hbig : 4 < s.ws.length) (hz : s.word 4 ≠ 0) :
    Calls Try.prog 24 #[.pointer (some ⟨mb, 0, none⟩), .pointer (some ⟨ab, 0, none⟩)] w fun e w' => e = .returned (.agg #[.int .i64 1, .int .i64 4, .int .u64 (s.word 4), .int .u64 (s.word 4)]) ∧ (IsStop w' mb P T g .busy ∧ Yard w' ab sb sm rb P T (s.acc 1 4 (s.word 4))) ∧ Only (fun j => SB sb sm j ∨ j = mb) w w' := by
  have hlt := hY.st.head.lt; have hlt2 := hY.st.row.lt
  obtain ⟨j, hj, hd⟩ := h
  have hml : mb < w.heap.size := by obtain ⟨_, hb, _⟩ := Desk.blk hd; exact hb.lt
  refine worldStopStep_some (Q := fun w' => IsStop w' mb P T g .busy ∧ Yard w' ab sb sm rb P T (s.acc 1 4 (s.word 4))) (S := fun j => SB sb sm j ∨ j = mb) ((IsStop.stays mb P T g .busy).and (fun _ _ ho h => Yard.dids h ho)) (fun j hj => hj.elim (fun e => e.elim (· ▸ hlt) (· ▸ hlt2)) (· ▸ hml)) (fun w1 ho => ?_)
  have hw := StoreS.word_bd hY.st.fit 0
  exact Desk.stepLoad (stCells P T g) (by decide) (hd.adds ho) (hY.adds ho) (by omega) ⟨by omega, by omega⟩ (IsStop.stays mb P T g .busy) (enters_of Try.func47 (by kernel_rfl) rfl) (fun w2 nx hk hb hd2 => (stop_busy_no _ hz w2 mb).mono (fun e w3 h => ⟨h.1, ⟨j, (hk _ _ _ (hj.only ho id)).only h.2 id, hd2.adds h.2⟩, h.2.mono (fun _ _ e => e.elim)⟩))

theorem stopStep_busy_yes (h : IsStop w mb P T g .busy) (hY : Yard w ab sb sm rb P T s) (hbig : 4 < s.ws.length) (hz : s.word 4 = 0) :
    Calls Try.prog 24 #[.pointer (some ⟨mb, 0, none⟩), .pointer (some ⟨ab, 0, none⟩)] w fun e w' => e = .returned (.agg #[.int .i64 1, .int .i64 4, .int .u64 (s.word 4), .int .u64 (s.word 4)]) ∧ (IsStop w' mb P T g .gen ∧ Yard w' ab sb sm rb P T (s.acc 1 4 (s.word 4))) ∧ Only (fun j => SB sb sm j ∨ j = mb) w w' := by
  have hlt := hY.st.head.lt; have hlt2 := hY.st.row.lt
  obtain ⟨j, hj, hd⟩ := h
  have hml : mb < w.heap.size := by obtain ⟨_, hb, _⟩ := Desk.blk hd; exact hb.lt
  refine worldStopStep_some (Q := fun w' => IsStop w' mb P T g .gen ∧ Yard w' ab sb sm rb P T (s.acc 1 4 (s.word 4))) (S := fun j => SB sb sm j ∨ j = mb) ((IsStop.stays mb P T g .gen).and (fun _ _ ho h => Yard.dids h ho)) (fun j hj => hj.elim (fun e => e.elim (· ▸ hlt) (· ▸ hlt2)) (· ▸ hml)) (fun w1 ho => ?_)
  have hw := StoreS.word_bd hY.st.fit 0
  exact Desk.stepLoad (stCells P T g) (by decide) (hd.adds ho) (hY.adds ho) (by omega) ⟨by omega, by omega⟩ (IsStop.stays mb P T g .gen) (enters_of Try.func47 (by kernel_rfl) rfl) (fun w2 nx hk hb _ => by rw [hz]; exact stop_busy_yes hb)

theorem stopStep_gen (h : IsStop w mb P T g .gen) (hY : Yard w ab sb sm rb P T s) (hbig : 4 < s.ws.length) (hz : s.word 0 < 9223372036854775808) :
    Calls Try.prog 24 #[.pointer (some ⟨mb, 0, none⟩), .pointer (some ⟨ab, 0, none⟩)] w fun e w' => e = .returned (.agg #[.int .i64 1, .int .i64 0, .int .u64 (s.word 0), .int .u64 (s.word 0)]) ∧ (Desk w' mb (stC P T (s.word 0)) 97 .done ∧ Yard w' ab sb sm rb P T (s.acc 1 0 (s.word 0))) ∧ Only (fun j => SB sb sm j ∨ j = mb) w w' := by
  have hlt := hY.st.head.lt; have hlt2 := hY.st.row.lt
  obtain ⟨j, hj, hd⟩ := h
  have hml : mb < w.heap.size := by obtain ⟨_, hb, _⟩ := Desk.blk hd; exact hb.lt
  refine worldStopStep_some (Q := fun w' => Desk w' mb (stC P T (s.word 0)) 97 .done ∧ Yard w' ab sb sm rb P T (s.acc 1 0 (s.word 0))) (S := fun j => SB sb sm j ∨ j = mb) ((Desk.stays mb (stC P T (s.word 0)) 97 .done (by decide)).and (fun _ _ ho h => Yard.dids h ho)) (fun j hj => hj.elim (fun e => e.elim (· ▸ hlt) (· ▸ hlt2)) (· ▸ hml)) (fun w1 ho => ?_)
  have hw := StoreS.word_bd hY.st.fit 0
  exact Desk.stepLoad (stCells P T g) (by decide) (hd.adds ho) (hY.adds ho) (by omega) ⟨by omega, by omega⟩ (Desk.stays mb (stC P T (s.word 0)) 97 .done (by decide)) (enters_of Try.func69 (by kernel_rfl) rfl) (fun w2 nx hk hb _ => stop_gen _ hw.1 hz (hk _ _ _ (hj.only ho id)) hb)

theorem exitStep_none (h : IsExit w mb P T) : Calls Try.prog 22 #[.pointer (some ⟨mb, 0, none⟩), .pointer none] w fun e w' => e = .returned (.agg #[.int .i64 0, .int .i64 0, .int .u64 0, .int .u64 0]) ∧ Adds w w' := by
  obtain ⟨j, hj, hd⟩ := h
  exact (worldExitStep_some (Q := fun _ => True) (S := fun _ => False) (fun _ _ _ _ => trivial) (fun _ e => e.elim) (fun w1 ho => (Desk.adds hd ho).inNone (c3Cells P T) (by simp))).mono (fun _ _ h => ⟨h.1, h.2.2⟩)
theorem exitStep_other {P' T' : Int} (h : IsExit w mb P T) (hA : IsArena w ab sb rb P' T') (hne : (P' == P && T' == T) = false) : Calls Try.prog 22 #[.pointer (some ⟨mb, 0, none⟩), .pointer (some ⟨ab, 0, none⟩)] w fun e w' => e = .returned (.agg #[.int .i64 0, .int .i64 0, .int .u64 0, .int .u64 0]) ∧ Adds w w' := by
  obtain ⟨j, hj, hd⟩ := h
  exact (worldExitStep_some (Q := fun _ => True) (S := fun _ => False) (fun _ _ _ _ => trivial) (fun _ e => e.elim) (fun w1 ho => (Desk.adds hd ho).inOther (c3Cells P T) (by simp) (hA.only ho id) hne)).mono (fun _ _ h => ⟨h.1, h.2.2⟩)
theorem exitDone_no (h : IsExit w mb P T) : Calls Try.prog 23 #[.pointer (some ⟨mb, 0, none⟩)] w fun e w' => e = .returned (.bool false) ∧ w = w' := by
  obtain ⟨j, hj, hd⟩ := h
  obtain ⟨nx, hb, hl⟩ := Desk.blk hd
  obtain ⟨_, _, _, rfl⟩ := hl (by simp)
  exact worldExitDone_no (hb.cell 2)

theorem goStep_none (h : IsGo w mb P T) : Calls Try.prog 27 #[.pointer (some ⟨mb, 0, none⟩), .pointer none] w fun e w' => e = .returned (.agg #[.int .i64 0, .int .i64 0, .int .u64 0, .int .u64 0]) ∧ Adds w w' := by
  have hd := h
  exact (worldGoStep_some (Q := fun _ => True) (S := fun _ => False) (fun _ _ _ _ => trivial) (fun _ e => e.elim) (fun w1 ho => (Desk.adds hd ho).inNone (c3Cells P T) (by simp))).mono (fun _ _ h => ⟨h.1, h.2.2⟩)
theorem goStep_other {P' T' : Int} (h : IsGo w mb P T) (hA : IsArena w ab sb rb P' T') (hne : (P' == P && T' == T) = false) : Calls Try.prog 27 #[.pointer (some ⟨mb, 0, none⟩), .pointer (some ⟨ab, 0, none⟩)] w fun e w' => e = .returned (.agg #[.int .i64 0, .int .i64 0, .int .u64 0, .int .u64 0]) ∧ Adds w w' := by
  have hd := h
  exact (worldGoStep_some (Q := fun _ => True) (S := fun _ => False) (fun _ _ _ _ => trivial) (fun _ e => e.elim) (fun w1 ho => (Desk.adds hd ho).inOther (c3Cells P T) (by simp) (hA.only ho id) hne)).mono (fun _ _ h => ⟨h.1, h.2.2⟩)
theorem goDone_no (h : IsGo w mb P T) : Calls Try.prog 28 #[.pointer (some ⟨mb, 0, none⟩)] w fun e w' => e = .returned (.bool false) ∧ w = w' := by
  have hd := h
  obtain ⟨nx, hb, hl⟩ := Desk.blk hd
  obtain ⟨_, _, _, rfl⟩ := hl (by simp)
  exact worldGoDone_no (hb.cell 2)

theorem stopStep_none (h : IsStop w mb P T g st) : Calls Try.prog 24 #[.pointer (some ⟨mb, 0, none⟩), .pointer none] w fun e w' => e = .returned (.agg #[.int .i64 0, .int .i64 0, .int .u64 0, .int .u64 0]) ∧ Adds w w' := by
  obtain ⟨j, hj, hd⟩ := h
  exact (worldStopStep_some (Q := fun _ => True) (S := fun _ => False) (fun _ _ _ _ => trivial) (fun _ e => e.elim) (fun w1 ho => (Desk.adds hd ho).inNone (stCells P T g) (StSt.live mb j st))).mono (fun _ _ h => ⟨h.1, h.2.2⟩)
theorem stopStep_other {P' T' : Int} (h : IsStop w mb P T g st) (hA : IsArena w ab sb rb P' T') (hne : (P' == P && T' == T) = false) : Calls Try.prog 24 #[.pointer (some ⟨mb, 0, none⟩), .pointer (some ⟨ab, 0, none⟩)] w fun e w' => e = .returned (.agg #[.int .i64 0, .int .i64 0, .int .u64 0, .int .u64 0]) ∧ Adds w w' := by
  obtain ⟨j, hj, hd⟩ := h
  exact (worldStopStep_some (Q := fun _ => True) (S := fun _ => False) (fun _ _ _ _ => trivial) (fun _ e => e.elim) (fun w1 ho => (Desk.adds hd ho).inOther (stCells P T g) (StSt.live mb j st) (hA.only ho id) hne)).mono (fun _ _ h => ⟨h.1, h.2.2⟩)
theorem stopDone_no (h : IsStop w mb P T g st) : Calls Try.prog 25 #[.pointer (some ⟨mb, 0, none⟩)] w fun e w' => e = .returned (.bool false) ∧ w = w' := by
  obtain ⟨j, hj, hd⟩ := h
  obtain ⟨nx, hb, hl⟩ := Desk.blk hd
  obtain ⟨_, _, _, rfl⟩ := hl (StSt.live mb j st)
  exact worldStopDone_no (hb.cell 2)

set_option maxHeartbeats 400000 in
theorem stopGen_any {nx : Value} (h : Blk w mb (stC P T g nx) 97) : Calls Try.prog 26 #[.pointer (some ⟨mb, 0, none⟩)] w fun e w' => e = .returned (.int .i64 g) ∧ w = w' := by
  have c3 : w.cell? ⟨mb, 3, none⟩ = some (.int .i64 g) := h.cell 3
  clear h
  go_enter Try.func26, Try.ntmps26
  go_wp2
  go_ret
  exact ⟨rfl, rfl⟩
set_option maxHeartbeats 400000 in
theorem stopGen_nil (w : World) : Calls Try.prog 26 #[.pointer none] w fun e w' => e = .returned (.int .i64 0) ∧ w = w' := by
  go_enter Try.func26, Try.ntmps26
  go_wp2
  go_ret
  exact ⟨rfl, rfl⟩
end
set_option maxHeartbeats 400000 in
theorem newExit_no (P T : Int) (w : World) (hm : Lay.may P T = false) : Calls Try.prog 16 #[.agg #[.int .i64 P, .int .i64 T]] w fun e w' => e = .returned (.pointer none) ∧ Adds w w' := by
  go_enter Try.func16, Try.ntmps16
  go_wp2_with (go_at_call 10; refine (layMay_any P T _).mono ?_; rintro e w1 ⟨rfl, ho1⟩; rw [hm])
  go_ret
  exact ⟨rfl, Adds.box ho1⟩
set_option maxHeartbeats 1000000 in
theorem newExit_ok (P T : Int) (w : World) (hm : Lay.may P T = true) : Calls Try.prog 16 #[.agg #[.int .i64 P, .int .i64 T]] w fun e w' => ∃ mb, e = .returned (.pointer (some ⟨mb, 0, none⟩)) ∧ IsExit w' mb P T ∧ Adds w w' ∧ w.heap.size ≤ mb := by
  go_enter Try.func16, Try.ntmps16
  go_wp2_with (first
    | (go_at_call 10; refine (layMay_any P T _).mono ?_; rintro e w1 ⟨rfl, ho1⟩; rw [hm]; obtain ⟨x0, x1, ho2⟩ := box2_cells ho1; have HO2 := Lib.hid ho2; clear ho1 ho2)
    | (go_at_call 40; refine (deskAdd_any (c := c3 P T .nilFunc) ((Blk.new w1 _ _).alloc _) (by simp) 4 18446744073709551615 _ _ _).mono ?_; rintro e w3 ⟨rfl, hb3, hc3, ho4⟩; have hj := (show Blk _ (w1.heap.size + 1) #[.pointer (some ⟨w1.heap.size, 0, none⟩)] 41 by simpa using Blk.new (w1.alloc (.cells (c3 P T .nilFunc) 93)) #[.pointer (some ⟨w1.heap.size, 0, none⟩)] 41).only ho4 (by omega); have j0 := hj.one; have HC3 := Lib.hid (And.intro hb3 (And.intro hc3 (And.intro hj ho4))); clear hb3 hc3 hj ho4))
  go_ret
  obtain ⟨b3, c3', j3, o4⟩ := HC3.out
  have hz := HO2.out.size
  exact ⟨_, rfl, ⟨_, j3, ⟨_, b3, c3'⟩⟩, (HO2.out.thenF (((Only.refl _ w1).alloc _).alloc _)).andThen o4 (fun i hi e => by omega), by omega⟩
set_option maxHeartbeats 400000 in
theorem newGo_no (P T : Int) (w : World) (hm : Lay.may P T = false) : Calls Try.prog 18 #[.agg #[.int .i64 P, .int .i64 T]] w fun e w' => e = .returned (.pointer none) ∧ Adds w w' := by
  go_enter Try.func18, Try.ntmps18
  go_wp2_with (go_at_call 10; refine (layMay_any P T _).mono ?_; rintro e w1 ⟨rfl, ho1⟩; rw [hm])
  go_ret
  exact ⟨rfl, Adds.box ho1⟩
set_option maxHeartbeats 2000000 in
theorem newGo_ok (P T : Int) (w : World) (hm : Lay.may P T = true) : Calls Try.prog 18 #[.agg #[.int .i64 P, .int .i64 T]] w fun e w' => ∃ mb, e = .returned (.pointer (some ⟨mb, 0, none⟩)) ∧ IsGo w' mb P T ∧ Adds w w' ∧ w.heap.size ≤ mb := by
  go_enter Try.func18, Try.ntmps18
  go_wp2_with (go_at_call 10; refine (layMay_any P T _).mono ?_; rintro e w1 ⟨rfl, ho1⟩; rw [hm]; obtain ⟨x0, x1, ho2⟩ := box2_cells ho1; have HO2 := Lib.hid ho2; clear ho1 ho2)
  go_region_held3 (fun _ => True) (trivial)
    (first | (go_at_call 48; refine (deskPut_any (c := c3 P T .nilFunc) (Blk.new w1 (c3 P T .nilFunc) 101).drew (by simp) 1 0 _ _ _).mono ?_; rintro e w3 ⟨rfl, hb3, hc3, ho4⟩; have HC3 := Lib.hid (And.intro hb3 (And.intro hc3 ho4)); clear hb3 hc3 ho4))
  go_wp2
  go_ret
  obtain ⟨b3, c3', o4⟩ := HC3.out
  have hz := HO2.out.size
  exact ⟨_, rfl, ⟨_, b3, c3'⟩, (HO2.out.thenF ((Only.refl _ w1).alloc _).drew).andThen o4 (fun i hi e => by omega), hz⟩
set_option maxHeartbeats 1000000 in
theorem newStop_no (P T t : Int) (w : World) (h : (Lay.may P T && decide (0 ≤ t ∧ t < T)) = false) :
    Calls Try.prog 17 #[.agg #[.int .i64 P, .int .i64 T], .int .i64 t] w fun e w' => e = .returned (.pointer none) ∧ Adds w w' := by
  cases hm : Lay.may P T
  · go_enter Try.func17, Try.ntmps17
    go_wp2_with (go_at_call 10; refine (layMay_any P T _).mono ?_; rintro e w1 ⟨rfl, ho1⟩; rw [hm])
    go_ret
    exact ⟨rfl, Adds.box ho1⟩
  · have ht : decide (0 ≤ t ∧ t < T) = false := by simpa [hm] using h
    clear h
    go_enter Try.func17, Try.ntmps17
    go_wp2_with (first
      | (go_at_call 10; refine (layMay_any P T _).mono ?_; rintro e w1 ⟨rfl, ho1⟩; rw [hm]; obtain ⟨x0, x1, ho2⟩ := box2_cells ho1; have HO2 := Lib.hid ho2; clear ho1 ho2)
      | (go_at_call 43; refine (thread_any P T t _).mono ?_; rintro e w2 ⟨rfl, ho3⟩; rw [ht]))
    go_ret
    exact ⟨rfl, HO2.out.thenF ho3⟩
set_option maxHeartbeats 2000000 in
theorem newStop_ok (P T t : Int) (w : World) (hm : Lay.may P T = true) (ht : decide (0 ≤ t ∧ t < T) = true) :
    Calls Try.prog 17 #[.agg #[.int .i64 P, .int .i64 T], .int .i64 t] w fun e w' => ∃ mb, e = .returned (.pointer (some ⟨mb, 0, none⟩)) ∧ IsStop w' mb P T 0 (.try_ t) ∧ Adds w w' ∧ w.heap.size ≤ mb := by
  have hb : 0 ≤ t ∧ t < T := by simpa using ht
  have hT := (Lay.may_iff.1 hm).2.2.2
  have e1 : IntKind.i64.wrap (t + 1) = t + 1 := by simp [IntKind.wrap_i64]; omega
  go_enter Try.func17, Try.ntmps17
  go_wp2_with (first
    | (go_at_call 10; refine (layMay_any P T _).mono ?_; rintro e w1 ⟨rfl, ho1⟩; rw [hm]; obtain ⟨x0, x1, ho2⟩ := box2_cells ho1; have HO2 := Lib.hid ho2; clear ho1 ho2)
    | (go_at_call 43; refine (thread_any P T t _).mono ?_; rintro e w2 ⟨rfl, ho3⟩; rw [ht]; have x0' := (ho3.cellF (p := ⟨w.heap.size, 0, none⟩) (cell_lt x0) id).trans x0; have x1' := (ho3.cellF (p := ⟨w.heap.size, 1, none⟩) (cell_lt x0) id).trans x1; have HO3 := Lib.hid (HO2.out.thenF ho3); clear ho3)
    | (go_at_call 44; refine (deskCas_any (c := stC P T 0 .nilFunc) ((Blk.new w2 _ _).alloc _) (by simp) 1 0 (t + 1) _ _ _).mono ?_; rintro e w3 ⟨rfl, hb3, hc3, ho4⟩; have hj := (show Blk _ (w2.heap.size + 1) #[.pointer (some ⟨w2.heap.size, 0, none⟩)] 42 by simpa using Blk.new (w2.alloc (.cells (stC P T 0 .nilFunc) 97)) #[.pointer (some ⟨w2.heap.size, 0, none⟩)] 42).only ho4 (by omega); have j0 := hj.one; have HC3 := Lib.hid (And.intro hb3 (And.intro hc3 (And.intro hj ho4))); clear hb3 hc3 hj ho4))
  go_ret
  obtain ⟨b3, c3', j3, o4⟩ := HC3.out
  have hz := HO3.out.size
  exact ⟨_, rfl, ⟨_, j3, ⟨_, b3, c3'⟩⟩, (HO3.out.thenF (((Only.refl _ w2).alloc _).alloc _)).andThen o4 (fun i hi e => by omega), by omega⟩
end Go.Proofs.Ytbepbcjklgfmjaa

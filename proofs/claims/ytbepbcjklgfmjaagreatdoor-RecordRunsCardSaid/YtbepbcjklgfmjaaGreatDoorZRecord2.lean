/- Package record: steps of lays and gones over an arena's words. By an AI agent. -/
import Derived.Test.YtbepbcjklgfmjaaGreatDoorZRecord
namespace Go.Proofs.YtbepbcjklgfmjaaGreatDoor
open Go.RowKit
set_option linter.unusedSimpArgs false
set_option linter.unusedVariables false
/-- An arena of which all words are known. -/
def YW (w : World) (ab sb sm rb : Nat) (P T : Int) (g : Int → Int) : Prop := ∃ s, Yard w ab sb sm rb P T s ∧ s.ws.length = (Lay.words P T).toNat ∧ ∀ i, 0 ≤ i → i < Lay.words P T → s.word i = g i
def upd (g : Int → Int) (i v : Int) : Int → Int := fun j => if j = i then v else g j
section
variable {w w' : World} {mb jm ji ab sb sm rb K : Nat} {P T pg cl ps al st i : Int} {nx : Value} {g : Int → Int} {Q : World → Prop} {f1 cap : Array Value}
theorem YW.adds (h : YW w ab sb sm rb P T g) (ho : Adds w w') : YW w' ab sb sm rb P T g := by
  obtain ⟨s, h1, h2⟩ := h; exact ⟨s, h1.adds ho, h2⟩
theorem YW.low (h : YW w ab sb sm rb P T g) : sb < w.heap.size ∧ sm < w.heap.size := by
  obtain ⟨s, h1, _⟩ := h; exact ⟨h1.st.head.lt, h1.st.row.lt⟩
theorem words_big (hm : Lay.may P T = true) : Lay.words P T = 68 + 14 * T + 6 * P + 2 * Lay.many P ∧ 1 ≤ Lay.many P ∧ 1 ≤ P ∧ P ≤ 4096 ∧ 1 ≤ T ∧ T ≤ 64 := by
  have hb := Lay.may_iff.1 hm
  have hmb := Lay.many_bd hb.1 hb.2.1
  exact ⟨by simp [Lay.words, hm], hmb.1, hb.1, hb.2.1, hb.2.2.1, hb.2.2.2⟩
/-- Where the words of a page are. -/
theorem recAt_eq {k p : Int} (hm : Lay.may P T = true) (h0 : 0 ≤ p) (h1 : p < P) (k0 : 9 ≤ k) (k1 : k < 15) : recAt P T k p = if k = 14 then 68 + 14 * T + 5 * P + p else 68 + 14 * T + 5 * p + k - 9 := by
  have hok : Lay.pageOk P T k p = true := by unfold Lay.pageOk; rw [hm, Bool.true_and, decide_eq_true_eq]; omega
  unfold recAt atV; rw [hok]; rfl
theorem recAt_bd {k p : Int} (hm : Lay.may P T = true) (h0 : 0 ≤ p) (h1 : p < P) (k0 : 9 ≤ k) (k1 : k < 15) : 0 ≤ recAt P T k p ∧ recAt P T k p < Lay.words P T := by
  have hw := words_big hm
  rw [recAt_eq hm h0 h1 k0 k1]
  split <;> omega
/-- A put, of whatever machine. -/
theorem YW.put {c : Value → Array Value} {t : TypeId} {at_ v : Int} (hc : Cells c P T) (ht : MachT t) (hm : Lay.may P T = true) (h : Desk w mb c t (.put at_ v (.func (.func K) f1 cap))) (hY : YW w ab sb sm rb P T g) (h0 : 0 ≤ at_ ∧ at_ < Lay.words P T) (hv : 0 ≤ v ∧ v < 18446744073709551616) (hst : Stays Q) (eg : Enters Tryz.prog K)
    (hT : ∀ w1 nx, (∀ (b : Nat) (x : Value) (u : TypeId), Blk w b #[x] u → Blk w1 b #[x] u) → Blk w1 mb (c nx) t → Calls Tryz.prog K (f1 ++ #[] ++ cap) w1 fun e w2 => e = .returned (.tuple #[]) ∧ Q w2 ∧ Only (· = mb) w1 w2) :
    ∃ old, Calls Tryz.prog 75 #[.pointer (some ⟨mb, 0, none⟩), .pointer (some ⟨ab, 0, none⟩)] w fun e w' => e = .returned (.agg #[.int .i64 2, .int .i64 at_, .int .u64 old, .int .u64 v]) ∧ (Q w' ∧ YW w' ab sb sm rb P T (upd g at_ v)) ∧ Only (fun j => SB sb sm j ∨ j = mb) w w' := by
  obtain ⟨s, hy, hl, hg⟩ := hY
  have hw := words_big hm
  have hi : s.inR at_ := ⟨h0.1, by rw [hl]; omega⟩
  refine ⟨s.word at_, (Desk.stepPut hc ht h hy (by rw [hl]; omega) hi hv hst eg hT).mono ?_⟩
  rintro e w2 ⟨he, ⟨hq, hy2⟩, ho⟩
  refine ⟨he, ⟨hq, _, hy2, by simpa [StoreS.acc] using hl, fun j j0 j1 => ?_⟩, ho⟩
  unfold upd
  by_cases e : j = at_
  · rw [if_pos e, e]; exact StoreS.acc_word hi _ _
  · rw [if_neg e, StoreS.acc_word_other h0.1 j0 e]; exact hg j j0 j1
theorem YW.stays (ab sb sm rb : Nat) (P T : Int) (g : Int → Int) : Stays (fun w => YW w ab sb sm rb P T g) := fun _ _ ho ⟨s, h1, h2⟩ => ⟨s, Yard.dids h1 ho, h2⟩

theorem LayI.adds (h : LayI w mb P T pg cl ps al st i) (ho : Adds w w') : LayI w' mb P T pg cl ps al st i := by
  obtain ⟨jm, ji, h1, h2, h3⟩ := h; exact ⟨jm, ji, h1.only ho id, h2.only ho id, h3.adds ho⟩
theorem LayI.stays (mb : Nat) (P T pg cl ps al st i : Int) : Stays (fun w => LayI w mb P T pg cl ps al st i) := fun a b ho => by
  rintro ⟨jm, ji, h1, h2, h3⟩; exact ⟨jm, ji, h1.dids ho (by decide), h2.dids ho (by decide), Desk.stays _ _ _ _ (by decide) a b ho h3⟩
theorem LayI.live (h : LayI w mb P T pg cl ps al st i) : ∃ fn f q, Blk w mb (laC P T pg cl ps al st (.func fn f q)) 122 := by
  obtain ⟨jm, ji, h1, h2, h3⟩ := h; obtain ⟨n, hb, _⟩ := h3; exact ⟨_, _, _, hb⟩
theorem LayB.adds (h : LayB w mb P T pg cl ps al st) (ho : Adds w w') : LayB w' mb P T pg cl ps al st := by
  obtain ⟨jm, h1, h3⟩ := h; exact ⟨jm, h1.only ho id, h3.adds ho⟩
theorem LayB.stays (mb : Nat) (P T pg cl ps al st : Int) : Stays (fun w => LayB w mb P T pg cl ps al st) := fun a b ho => by
  rintro ⟨jm, h1, h3⟩; exact ⟨jm, h1.dids ho (by decide), Desk.stays _ _ _ _ (by decide) a b ho h3⟩
theorem LayB.live (h : LayB w mb P T pg cl ps al st) : ∃ fn f q, Blk w mb (laC P T pg cl ps al st (.func fn f q)) 122 := by
  obtain ⟨jm, h1, h3⟩ := h; obtain ⟨n, hb, _⟩ := h3; exact ⟨_, _, _, hb⟩
theorem LayA.adds (h : LayA w mb P T pg cl ps al st) (ho : Adds w w') : LayA w' mb P T pg cl ps al st := by
  obtain ⟨jm, h1, h3⟩ := h; exact ⟨jm, h1.only ho id, h3.adds ho⟩
theorem LayA.stays (mb : Nat) (P T pg cl ps al st : Int) : Stays (fun w => LayA w mb P T pg cl ps al st) := fun a b ho => by
  rintro ⟨jm, h1, h3⟩; exact ⟨jm, h1.dids ho (by decide), Desk.stays _ _ _ _ (by decide) a b ho h3⟩
theorem LayA.live (h : LayA w mb P T pg cl ps al st) : ∃ fn f q, Blk w mb (laC P T pg cl ps al st (.func fn f q)) 122 := by
  obtain ⟨jm, h1, h3⟩ := h; obtain ⟨n, hb, _⟩ := h3; exact ⟨_, _, _, hb⟩
theorem LayM.adds (h : LayM w mb P T pg cl ps al st) (ho : Adds w w') : LayM w' mb P T pg cl ps al st := by
  obtain ⟨jm, h1, h3⟩ := h; exact ⟨jm, h1.only ho id, h3.adds ho⟩
theorem LayM.stays (mb : Nat) (P T pg cl ps al st : Int) : Stays (fun w => LayM w mb P T pg cl ps al st) := fun a b ho => by
  rintro ⟨jm, h1, h3⟩; exact ⟨jm, h1.dids ho (by decide), Desk.stays _ _ _ _ (by decide) a b ho h3⟩
theorem LayM.live (h : LayM w mb P T pg cl ps al st) : ∃ fn f q, Blk w mb (laC P T pg cl ps al st (.func fn f q)) 122 := by
  obtain ⟨jm, h1, h3⟩ := h; obtain ⟨n, hb, _⟩ := h3; exact ⟨_, _, _, hb⟩
theorem LayS.adds (h : LayS w mb P T pg cl ps al st) (ho : Adds w w') : LayS w' mb P T pg cl ps al st := Desk.adds h ho
theorem LayS.stays (mb : Nat) (P T pg cl ps al st : Int) : Stays (fun w => LayS w mb P T pg cl ps al st) := Desk.stays _ _ _ _ (by decide)
theorem LayS.live (h : LayS w mb P T pg cl ps al st) : ∃ fn f q, Blk w mb (laC P T pg cl ps al st (.func fn f q)) 122 := by
  obtain ⟨n, hb, _⟩ := h; exact ⟨_, _, _, hb⟩
theorem GoneI.adds (h : GoneI w mb P T pg ps i) (ho : Adds w w') : GoneI w' mb P T pg ps i := by
  obtain ⟨jm, ji, h1, h2, h3⟩ := h; exact ⟨jm, ji, h1.only ho id, h2.only ho id, h3.adds ho⟩
theorem GoneI.stays (mb : Nat) (P T pg ps i : Int) : Stays (fun w => GoneI w mb P T pg ps i) := fun a b ho => by
  rintro ⟨jm, ji, h1, h2, h3⟩; exact ⟨jm, ji, h1.dids ho (by decide), h2.dids ho (by decide), Desk.stays _ _ _ _ (by decide) a b ho h3⟩
theorem GoneI.live (h : GoneI w mb P T pg ps i) : ∃ fn f q, Blk w mb (goC P T pg ps (.func fn f q)) 128 := by
  obtain ⟨jm, ji, h1, h2, h3⟩ := h; obtain ⟨n, hb, _⟩ := h3; exact ⟨_, _, _, hb⟩
theorem GoneS.adds (h : GoneS w mb P T pg ps) (ho : Adds w w') : GoneS w' mb P T pg ps := Desk.adds h ho
theorem GoneS.stays (mb : Nat) (P T pg ps : Int) : Stays (fun w => GoneS w mb P T pg ps) := Desk.stays _ _ _ _ (by decide)
theorem GoneS.live (h : GoneS w mb P T pg ps) : ∃ fn f q, Blk w mb (goC P T pg ps (.func fn f q)) 128 := by
  obtain ⟨n, hb, _⟩ := h; exact ⟨_, _, _, hb⟩
set_option maxRecDepth 100000 in
set_option maxHeartbeats 4000000 in
theorem layNext_lt (hjm : Blk w jm #[ptr mb] 65) (hji : Blk w ji #[.int .i64 i] 3) (h : Blk w mb (laC P T pg cl ps al st nx) 122) (h0 : 0 ≤ pg) (h1 : 1 ≤ ps) (h2 : pg + ps ≤ 4096) (hc : 0 ≤ cl ∧ cl < 256) (hi : 0 ≤ i) (hlt : i + 1 < ps) :
    Calls Tryz.prog 98 #[ptr jm, ptr ji] w fun e w' => e = .returned (.tuple #[]) ∧ LayI w' mb P T pg cl ps al st (i + 1) ∧ Only (· = mb) w w' := by
  have k0 := hjm.one; have k1 := hji.one
  have HB := Lib.hid h
  have e1 : IntKind.i64.wrap (i + 1) = i + 1 := by rw [IntKind.wrap_i64]; omega
  clear h hjm hji
  go_enter Tryz.func98, Tryz.ntmps98
  go_wp2_with (go_at_call 73; have HB2 := HB; refine (layIndex_lt HB2.out h0 h1 h2 (by omega) hlt).mono ?_; rintro e w1 ⟨rfl, hs, ho⟩)
  go_end0
  exact ⟨rfl, hs, ho⟩
set_option maxRecDepth 100000 in
set_option maxHeartbeats 4000000 in
theorem layNext_ge (hjm : Blk w jm #[ptr mb] 65) (hji : Blk w ji #[.int .i64 i] 3) (h : Blk w mb (laC P T pg cl ps al st nx) 122) (h0 : 0 ≤ pg) (h1 : 1 ≤ ps) (h2 : pg + ps ≤ 4096) (hc : 0 ≤ cl ∧ cl < 256) (hi : 0 ≤ i) (hge : ps ≤ i + 1) (hi2 : i < 4096) :
    Calls Tryz.prog 98 #[ptr jm, ptr ji] w fun e w' => e = .returned (.tuple #[]) ∧ LayB w' mb P T pg cl ps al st ∧ Only (· = mb) w w' := by
  have k0 := hjm.one; have k1 := hji.one
  have HB := Lib.hid h
  have e1 : IntKind.i64.wrap (i + 1) = i + 1 := by rw [IntKind.wrap_i64]; omega
  clear h hjm hji
  go_enter Tryz.func98, Tryz.ntmps98
  go_wp2_with (go_at_call 73; have HB2 := HB; refine (layIndex_ge HB2.out h0 h1 h2 hc (by omega) hge).mono ?_; rintro e w1 ⟨rfl, hs, ho⟩)
  go_end0
  exact ⟨rfl, hs, ho⟩
set_option maxRecDepth 100000 in
set_option maxHeartbeats 4000000 in
theorem goneNext_lt (hjm : Blk w jm #[ptr mb] 66) (hji : Blk w ji #[.int .i64 i] 3) (h : Blk w mb (goC P T pg ps nx) 128) (h0 : 0 ≤ pg) (h1 : 1 ≤ ps) (h2 : pg + ps ≤ 4096) (hi : 0 ≤ i) (hlt : i + 1 < ps) :
    Calls Tryz.prog 103 #[ptr jm, ptr ji] w fun e w' => e = .returned (.tuple #[]) ∧ GoneI w' mb P T pg ps (i + 1) ∧ Only (· = mb) w w' := by
  have k0 := hjm.one; have k1 := hji.one
  have HB := Lib.hid h
  have e1 : IntKind.i64.wrap (i + 1) = i + 1 := by rw [IntKind.wrap_i64]; omega
  clear h hjm hji
  go_enter Tryz.func103, Tryz.ntmps103
  go_wp2_with (go_at_call 79; have HB2 := HB; refine (goneIndex_lt HB2.out h0 h1 h2 (by omega) hlt).mono ?_; rintro e w1 ⟨rfl, hs, ho⟩)
  go_end0
  exact ⟨rfl, hs, ho⟩
set_option maxRecDepth 100000 in
set_option maxHeartbeats 4000000 in
theorem goneNext_ge (hjm : Blk w jm #[ptr mb] 66) (hji : Blk w ji #[.int .i64 i] 3) (h : Blk w mb (goC P T pg ps nx) 128) (h0 : 0 ≤ pg) (h1 : 1 ≤ ps) (h2 : pg + ps ≤ 4096) (hi : 0 ≤ i) (hge : ps ≤ i + 1) (hi2 : i < 4096) :
    Calls Tryz.prog 103 #[ptr jm, ptr ji] w fun e w' => e = .returned (.tuple #[]) ∧ GoneS w' mb P T pg ps ∧ Only (· = mb) w w' := by
  have k0 := hjm.one; have k1 := hji.one
  have HB := Lib.hid h
  have e1 : IntKind.i64.wrap (i + 1) = i + 1 := by rw [IntKind.wrap_i64]; omega
  clear h hjm hji
  go_enter Tryz.func103, Tryz.ntmps103
  go_wp2_with (go_at_call 79; have HB2 := HB; refine (goneIndex_ge HB2.out h0 h1 h2 (by omega) hge).mono ?_; rintro e w1 ⟨rfl, hs, ho⟩)
  go_end0
  exact ⟨rfl, hs, ho⟩
theorem layStep_lt (h : LayI w mb P T pg cl ps al st i) (hY : YW w ab sb sm rb P T g) (hm : Lay.may P T = true) (h0 : 0 ≤ pg) (h1 : 1 ≤ ps) (h2 : pg + ps ≤ P) (hc : 0 ≤ cl ∧ cl < 256) (hi : 0 ≤ i) (hlt : i + 1 < ps) :
    ∃ old, Calls Tryz.prog 39 #[ptr mb, ptr ab] w fun e w' => e = .returned (.agg #[.int .i64 2, .int .i64 (recAt P T 14 (pg + i)), .int .u64 old, .int .u64 (pg + 1)]) ∧ (LayI w' mb P T pg cl ps al st (i + 1) ∧ YW w' ab sb sm rb P T (upd g (recAt P T 14 (pg + i)) (pg + 1))) ∧ Only (fun j => SB sb sm j ∨ j = mb) w w' := by
  have hlow := hY.low
  have hml : mb < w.heap.size := by obtain ⟨_, _, _, hb⟩ := h.live; exact hb.lt
  obtain ⟨jm, ji, hjm, hji, hd⟩ := h
  have hold : ∃ old, ∀ w1, Adds w w1 → Calls Tryz.prog 75 #[ptr mb, ptr ab] w1 fun e w' => e = .returned (.agg #[.int .i64 2, .int .i64 (recAt P T 14 (pg + i)), .int .u64 old, .int .u64 (pg + 1)]) ∧ (LayI w' mb P T pg cl ps al st (i + 1) ∧ YW w' ab sb sm rb P T (upd g (recAt P T 14 (pg + i)) (pg + 1))) ∧ Only (fun j => SB sb sm j ∨ j = mb) w1 w' := by
    obtain ⟨s, hy, hl, hg⟩ := hY
    refine ⟨s.word (recAt P T 14 (pg + i)), fun w1 ho => ?_⟩
    have hw := words_big hm
    have hb0 : 0 ≤ recAt P T 14 (pg + i) ∧ recAt P T 14 (pg + i) < Lay.words P T := recAt_bd hm (by omega) (by omega) (by omega) (by omega)
    have hi : s.inR (recAt P T 14 (pg + i)) := ⟨hb0.1, by rw [hl]; omega⟩
    refine (Desk.stepPut (laCells ..) (by decide) (Desk.adds hd ho) (hy.adds ho) (by rw [hl]; omega) hi (by omega) (LayI.stays mb P T pg cl ps al st (i + 1)) (enters_of Tryz.func98 (by kernel_rfl) rfl) (fun w2 nx hs hb => layNext_lt (hs _ _ _ (hjm.only ho id)) (hs _ _ _ (hji.only ho id)) hb h0 h1 (by omega) hc (by omega) hlt)).mono ?_
    rintro e w2 ⟨he, ⟨hq, hy2⟩, ho2⟩
    refine ⟨he, ⟨hq, _, hy2, by simpa [StoreS.acc] using hl, fun j j0 j1 => ?_⟩, ho2⟩
    unfold upd
    by_cases e : j = recAt P T 14 (pg + i)
    · rw [if_pos e, e]; exact StoreS.acc_word hi _ _
    · rw [if_neg e, StoreS.acc_word_other hb0.1 j0 e]; exact hg j j0 j1
  obtain ⟨old, hold⟩ := hold
  exact ⟨old, recordLayStep_some (Q := fun w' => LayI w' mb P T pg cl ps al st (i + 1) ∧ YW w' ab sb sm rb P T (upd g (recAt P T 14 (pg + i)) (pg + 1))) (S := fun j => SB sb sm j ∨ j = mb) ((LayI.stays mb P T pg cl ps al st (i + 1)).and (YW.stays _ _ _ _ _ _ _)) (fun j hj => hj.elim (fun e => e.elim (· ▸ hlow.1) (· ▸ hlow.2)) (· ▸ hml)) hold⟩
theorem layStep_ge (h : LayI w mb P T pg cl ps al st i) (hY : YW w ab sb sm rb P T g) (hm : Lay.may P T = true) (h0 : 0 ≤ pg) (h1 : 1 ≤ ps) (h2 : pg + ps ≤ P) (hc : 0 ≤ cl ∧ cl < 256) (hi : 0 ≤ i) (hlt : i < ps) (hge : ps ≤ i + 1) :
    ∃ old, Calls Tryz.prog 39 #[ptr mb, ptr ab] w fun e w' => e = .returned (.agg #[.int .i64 2, .int .i64 (recAt P T 14 (pg + i)), .int .u64 old, .int .u64 (pg + 1)]) ∧ (LayB w' mb P T pg cl ps al st ∧ YW w' ab sb sm rb P T (upd g (recAt P T 14 (pg + i)) (pg + 1))) ∧ Only (fun j => SB sb sm j ∨ j = mb) w w' := by
  have hlow := hY.low
  have hml : mb < w.heap.size := by obtain ⟨_, _, _, hb⟩ := h.live; exact hb.lt
  obtain ⟨jm, ji, hjm, hji, hd⟩ := h
  have hold : ∃ old, ∀ w1, Adds w w1 → Calls Tryz.prog 75 #[ptr mb, ptr ab] w1 fun e w' => e = .returned (.agg #[.int .i64 2, .int .i64 (recAt P T 14 (pg + i)), .int .u64 old, .int .u64 (pg + 1)]) ∧ (LayB w' mb P T pg cl ps al st ∧ YW w' ab sb sm rb P T (upd g (recAt P T 14 (pg + i)) (pg + 1))) ∧ Only (fun j => SB sb sm j ∨ j = mb) w1 w' := by
    obtain ⟨s, hy, hl, hg⟩ := hY
    refine ⟨s.word (recAt P T 14 (pg + i)), fun w1 ho => ?_⟩
    have hw := words_big hm
    have hb0 : 0 ≤ recAt P T 14 (pg + i) ∧ recAt P T 14 (pg + i) < Lay.words P T := recAt_bd hm (by omega) (by omega) (by omega) (by omega)
    have hi : s.inR (recAt P T 14 (pg + i)) := ⟨hb0.1, by rw [hl]; omega⟩
    refine (Desk.stepPut (laCells ..) (by decide) (Desk.adds hd ho) (hy.adds ho) (by rw [hl]; omega) hi (by omega) (LayB.stays mb P T pg cl ps al st) (enters_of Tryz.func98 (by kernel_rfl) rfl) (fun w2 nx hs hb => layNext_ge (hs _ _ _ (hjm.only ho id)) (hs _ _ _ (hji.only ho id)) hb h0 h1 (by omega) hc (by omega) hge (by omega))).mono ?_
    rintro e w2 ⟨he, ⟨hq, hy2⟩, ho2⟩
    refine ⟨he, ⟨hq, _, hy2, by simpa [StoreS.acc] using hl, fun j j0 j1 => ?_⟩, ho2⟩
    unfold upd
    by_cases e : j = recAt P T 14 (pg + i)
    · rw [if_pos e, e]; exact StoreS.acc_word hi _ _
    · rw [if_neg e, StoreS.acc_word_other hb0.1 j0 e]; exact hg j j0 j1
  obtain ⟨old, hold⟩ := hold
  exact ⟨old, recordLayStep_some (Q := fun w' => LayB w' mb P T pg cl ps al st ∧ YW w' ab sb sm rb P T (upd g (recAt P T 14 (pg + i)) (pg + 1))) (S := fun j => SB sb sm j ∨ j = mb) ((LayB.stays mb P T pg cl ps al st).and (YW.stays _ _ _ _ _ _ _)) (fun j hj => hj.elim (fun e => e.elim (· ▸ hlow.1) (· ▸ hlow.2)) (· ▸ hml)) hold⟩
theorem goneStep_lt (h : GoneI w mb P T pg ps i) (hY : YW w ab sb sm rb P T g) (hm : Lay.may P T = true) (h0 : 0 ≤ pg) (h1 : 1 ≤ ps) (h2 : pg + ps ≤ P) (hi : 0 ≤ i) (hlt : i + 1 < ps) :
    ∃ old, Calls Tryz.prog 46 #[ptr mb, ptr ab] w fun e w' => e = .returned (.agg #[.int .i64 2, .int .i64 (recAt P T 14 (pg + i)), .int .u64 old, .int .u64 (0)]) ∧ (GoneI w' mb P T pg ps (i + 1) ∧ YW w' ab sb sm rb P T (upd g (recAt P T 14 (pg + i)) (0))) ∧ Only (fun j => SB sb sm j ∨ j = mb) w w' := by
  have hlow := hY.low
  have hml : mb < w.heap.size := by obtain ⟨_, _, _, hb⟩ := h.live; exact hb.lt
  obtain ⟨jm, ji, hjm, hji, hd⟩ := h
  have hold : ∃ old, ∀ w1, Adds w w1 → Calls Tryz.prog 75 #[ptr mb, ptr ab] w1 fun e w' => e = .returned (.agg #[.int .i64 2, .int .i64 (recAt P T 14 (pg + i)), .int .u64 old, .int .u64 (0)]) ∧ (GoneI w' mb P T pg ps (i + 1) ∧ YW w' ab sb sm rb P T (upd g (recAt P T 14 (pg + i)) (0))) ∧ Only (fun j => SB sb sm j ∨ j = mb) w1 w' := by
    obtain ⟨s, hy, hl, hg⟩ := hY
    refine ⟨s.word (recAt P T 14 (pg + i)), fun w1 ho => ?_⟩
    have hw := words_big hm
    have hb0 : 0 ≤ recAt P T 14 (pg + i) ∧ recAt P T 14 (pg + i) < Lay.words P T := recAt_bd hm (by omega) (by omega) (by omega) (by omega)
    have hi : s.inR (recAt P T 14 (pg + i)) := ⟨hb0.1, by rw [hl]; omega⟩
    refine (Desk.stepPut (goCells ..) (by decide) (Desk.adds hd ho) (hy.adds ho) (by rw [hl]; omega) hi (by omega) (GoneI.stays mb P T pg ps (i + 1)) (enters_of Tryz.func103 (by kernel_rfl) rfl) (fun w2 nx hs hb => goneNext_lt (hs _ _ _ (hjm.only ho id)) (hs _ _ _ (hji.only ho id)) hb h0 h1 (by omega) (by omega) hlt)).mono ?_
    rintro e w2 ⟨he, ⟨hq, hy2⟩, ho2⟩
    refine ⟨he, ⟨hq, _, hy2, by simpa [StoreS.acc] using hl, fun j j0 j1 => ?_⟩, ho2⟩
    unfold upd
    by_cases e : j = recAt P T 14 (pg + i)
    · rw [if_pos e, e]; exact StoreS.acc_word hi _ _
    · rw [if_neg e, StoreS.acc_word_other hb0.1 j0 e]; exact hg j j0 j1
  obtain ⟨old, hold⟩ := hold
  exact ⟨old, recordGoneStep_some (Q := fun w' => GoneI w' mb P T pg ps (i + 1) ∧ YW w' ab sb sm rb P T (upd g (recAt P T 14 (pg + i)) (0))) (S := fun j => SB sb sm j ∨ j = mb) ((GoneI.stays mb P T pg ps (i + 1)).and (YW.stays _ _ _ _ _ _ _)) (fun j hj => hj.elim (fun e => e.elim (· ▸ hlow.1) (· ▸ hlow.2)) (· ▸ hml)) hold⟩
theorem goneStep_ge (h : GoneI w mb P T pg ps i) (hY : YW w ab sb sm rb P T g) (hm : Lay.may P T = true) (h0 : 0 ≤ pg) (h1 : 1 ≤ ps) (h2 : pg + ps ≤ P) (hi : 0 ≤ i) (hlt : i < ps) (hge : ps ≤ i + 1) :
    ∃ old, Calls Tryz.prog 46 #[ptr mb, ptr ab] w fun e w' => e = .returned (.agg #[.int .i64 2, .int .i64 (recAt P T 14 (pg + i)), .int .u64 old, .int .u64 (0)]) ∧ (GoneS w' mb P T pg ps ∧ YW w' ab sb sm rb P T (upd g (recAt P T 14 (pg + i)) (0))) ∧ Only (fun j => SB sb sm j ∨ j = mb) w w' := by
  have hlow := hY.low
  have hml : mb < w.heap.size := by obtain ⟨_, _, _, hb⟩ := h.live; exact hb.lt
  obtain ⟨jm, ji, hjm, hji, hd⟩ := h
  have hold : ∃ old, ∀ w1, Adds w w1 → Calls Tryz.prog 75 #[ptr mb, ptr ab] w1 fun e w' => e = .returned (.agg #[.int .i64 2, .int .i64 (recAt P T 14 (pg + i)), .int .u64 old, .int .u64 (0)]) ∧ (GoneS w' mb P T pg ps ∧ YW w' ab sb sm rb P T (upd g (recAt P T 14 (pg + i)) (0))) ∧ Only (fun j => SB sb sm j ∨ j = mb) w1 w' := by
    obtain ⟨s, hy, hl, hg⟩ := hY
    refine ⟨s.word (recAt P T 14 (pg + i)), fun w1 ho => ?_⟩
    have hw := words_big hm
    have hb0 : 0 ≤ recAt P T 14 (pg + i) ∧ recAt P T 14 (pg + i) < Lay.words P T := recAt_bd hm (by omega) (by omega) (by omega) (by omega)
    have hi : s.inR (recAt P T 14 (pg + i)) := ⟨hb0.1, by rw [hl]; omega⟩
    refine (Desk.stepPut (goCells ..) (by decide) (Desk.adds hd ho) (hy.adds ho) (by rw [hl]; omega) hi (by omega) (GoneS.stays mb P T pg ps) (enters_of Tryz.func103 (by kernel_rfl) rfl) (fun w2 nx hs hb => goneNext_ge (hs _ _ _ (hjm.only ho id)) (hs _ _ _ (hji.only ho id)) hb h0 h1 (by omega) (by omega) hge (by omega))).mono ?_
    rintro e w2 ⟨he, ⟨hq, hy2⟩, ho2⟩
    refine ⟨he, ⟨hq, _, hy2, by simpa [StoreS.acc] using hl, fun j j0 j1 => ?_⟩, ho2⟩
    unfold upd
    by_cases e : j = recAt P T 14 (pg + i)
    · rw [if_pos e, e]; exact StoreS.acc_word hi _ _
    · rw [if_neg e, StoreS.acc_word_other hb0.1 j0 e]; exact hg j j0 j1
  obtain ⟨old, hold⟩ := hold
  exact ⟨old, recordGoneStep_some (Q := fun w' => GoneS w' mb P T pg ps ∧ YW w' ab sb sm rb P T (upd g (recAt P T 14 (pg + i)) (0))) (S := fun j => SB sb sm j ∨ j = mb) ((GoneS.stays mb P T pg ps).and (YW.stays _ _ _ _ _ _ _)) (fun j hj => hj.elim (fun e => e.elim (· ▸ hlow.1) (· ▸ hlow.2)) (· ▸ hml)) hold⟩
theorem layStep_base (h : LayB w mb P T pg cl ps al st) (hY : YW w ab sb sm rb P T g) (hm : Lay.may P T = true) (h0 : 0 ≤ pg) (h1 : 1 ≤ ps) (h2 : pg + ps ≤ P) (hc : 0 ≤ cl ∧ cl < 256) :
    ∃ old, Calls Tryz.prog 39 #[ptr mb, ptr ab] w fun e w' => e = .returned (.agg #[.int .i64 2, .int .i64 (recAt P T 10 pg), .int .u64 old, .int .u64 (256 * ps + cl)]) ∧ (LayA w' mb P T pg cl ps al st ∧ YW w' ab sb sm rb P T (upd g (recAt P T 10 pg) (256 * ps + cl))) ∧ Only (fun j => SB sb sm j ∨ j = mb) w w' := by
  have hlow := hY.low
  have hml : mb < w.heap.size := by obtain ⟨_, _, _, hb⟩ := h.live; exact hb.lt
  obtain ⟨jm, hjm, hd⟩ := h
  have hold : ∃ old, ∀ w1, Adds w w1 → Calls Tryz.prog 75 #[ptr mb, ptr ab] w1 fun e w' => e = .returned (.agg #[.int .i64 2, .int .i64 (recAt P T 10 pg), .int .u64 old, .int .u64 (256 * ps + cl)]) ∧ (LayA w' mb P T pg cl ps al st ∧ YW w' ab sb sm rb P T (upd g (recAt P T 10 pg) (256 * ps + cl))) ∧ Only (fun j => SB sb sm j ∨ j = mb) w1 w' := by
    obtain ⟨s, hy, hl, hg⟩ := hY
    refine ⟨s.word (recAt P T 10 pg), fun w1 ho => ?_⟩
    have hw := words_big hm
    have hb0 : 0 ≤ recAt P T 10 pg ∧ recAt P T 10 pg < Lay.words P T := recAt_bd hm (by omega) (by omega) (by omega) (by omega)
    have hi : s.inR (recAt P T 10 pg) := ⟨hb0.1, by rw [hl]; omega⟩
    refine (Desk.stepPut (laCells ..) (by decide) (Desk.adds hd ho) (hy.adds ho) (by rw [hl]; omega) hi (by omega) (LayA.stays mb P T pg cl ps al st) (enters_of Tryz.func99 (by kernel_rfl) rfl) (fun w2 nx hs hb => layBase_then (hs _ _ _ (hjm.only ho id)) hb)).mono ?_
    rintro e w2 ⟨he, ⟨hq, hy2⟩, ho2⟩
    refine ⟨he, ⟨hq, _, hy2, by simpa [StoreS.acc] using hl, fun j j0 j1 => ?_⟩, ho2⟩
    unfold upd
    by_cases e : j = recAt P T 10 pg
    · rw [if_pos e, e]; exact StoreS.acc_word hi _ _
    · rw [if_neg e, StoreS.acc_word_other hb0.1 j0 e]; exact hg j j0 j1
  obtain ⟨old, hold⟩ := hold
  exact ⟨old, recordLayStep_some (Q := fun w' => LayA w' mb P T pg cl ps al st ∧ YW w' ab sb sm rb P T (upd g (recAt P T 10 pg) (256 * ps + cl))) (S := fun j => SB sb sm j ∨ j = mb) ((LayA.stays mb P T pg cl ps al st).and (YW.stays _ _ _ _ _ _ _)) (fun j hj => hj.elim (fun e => e.elim (· ▸ hlow.1) (· ▸ hlow.2)) (· ▸ hml)) hold⟩
theorem layStep_alloc (h : LayA w mb P T pg cl ps al st) (hY : YW w ab sb sm rb P T g) (hm : Lay.may P T = true) (h0 : 0 ≤ pg) (h1 : 1 ≤ ps) (h2 : pg + ps ≤ P) (ha : 0 ≤ al ∧ al < 18446744073709551616) :
    ∃ old, Calls Tryz.prog 39 #[ptr mb, ptr ab] w fun e w' => e = .returned (.agg #[.int .i64 2, .int .i64 (recAt P T 12 pg), .int .u64 old, .int .u64 (al)]) ∧ (LayM w' mb P T pg cl ps al st ∧ YW w' ab sb sm rb P T (upd g (recAt P T 12 pg) (al))) ∧ Only (fun j => SB sb sm j ∨ j = mb) w w' := by
  have hlow := hY.low
  have hml : mb < w.heap.size := by obtain ⟨_, _, _, hb⟩ := h.live; exact hb.lt
  obtain ⟨jm, hjm, hd⟩ := h
  have hold : ∃ old, ∀ w1, Adds w w1 → Calls Tryz.prog 75 #[ptr mb, ptr ab] w1 fun e w' => e = .returned (.agg #[.int .i64 2, .int .i64 (recAt P T 12 pg), .int .u64 old, .int .u64 (al)]) ∧ (LayM w' mb P T pg cl ps al st ∧ YW w' ab sb sm rb P T (upd g (recAt P T 12 pg) (al))) ∧ Only (fun j => SB sb sm j ∨ j = mb) w1 w' := by
    obtain ⟨s, hy, hl, hg⟩ := hY
    refine ⟨s.word (recAt P T 12 pg), fun w1 ho => ?_⟩
    have hw := words_big hm
    have hb0 : 0 ≤ recAt P T 12 pg ∧ recAt P T 12 pg < Lay.words P T := recAt_bd hm (by omega) (by omega) (by omega) (by omega)
    have hi : s.inR (recAt P T 12 pg) := ⟨hb0.1, by rw [hl]; omega⟩
    refine (Desk.stepPut (laCells ..) (by decide) (Desk.adds hd ho) (hy.adds ho) (by rw [hl]; omega) hi ha (LayM.stays mb P T pg cl ps al st) (enters_of Tryz.func100 (by kernel_rfl) rfl) (fun w2 nx hs hb => layAlloc_then (hs _ _ _ (hjm.only ho id)) hb)).mono ?_
    rintro e w2 ⟨he, ⟨hq, hy2⟩, ho2⟩
    refine ⟨he, ⟨hq, _, hy2, by simpa [StoreS.acc] using hl, fun j j0 j1 => ?_⟩, ho2⟩
    unfold upd
    by_cases e : j = recAt P T 12 pg
    · rw [if_pos e, e]; exact StoreS.acc_word hi _ _
    · rw [if_neg e, StoreS.acc_word_other hb0.1 j0 e]; exact hg j j0 j1
  obtain ⟨old, hold⟩ := hold
  exact ⟨old, recordLayStep_some (Q := fun w' => LayM w' mb P T pg cl ps al st ∧ YW w' ab sb sm rb P T (upd g (recAt P T 12 pg) (al))) (S := fun j => SB sb sm j ∨ j = mb) ((LayM.stays mb P T pg cl ps al st).and (YW.stays _ _ _ _ _ _ _)) (fun j hj => hj.elim (fun e => e.elim (· ▸ hlow.1) (· ▸ hlow.2)) (· ▸ hml)) hold⟩
theorem layStep_mark (h : LayM w mb P T pg cl ps al st) (hY : YW w ab sb sm rb P T g) (hm : Lay.may P T = true) (h0 : 0 ≤ pg) (h1 : 1 ≤ ps) (h2 : pg + ps ≤ P) :
    ∃ old, Calls Tryz.prog 39 #[ptr mb, ptr ab] w fun e w' => e = .returned (.agg #[.int .i64 2, .int .i64 (recAt P T 13 pg), .int .u64 old, .int .u64 (0)]) ∧ (LayS w' mb P T pg cl ps al st ∧ YW w' ab sb sm rb P T (upd g (recAt P T 13 pg) (0))) ∧ Only (fun j => SB sb sm j ∨ j = mb) w w' := by
  have hlow := hY.low
  have hml : mb < w.heap.size := by obtain ⟨_, _, _, hb⟩ := h.live; exact hb.lt
  obtain ⟨jm, hjm, hd⟩ := h
  have hold : ∃ old, ∀ w1, Adds w w1 → Calls Tryz.prog 75 #[ptr mb, ptr ab] w1 fun e w' => e = .returned (.agg #[.int .i64 2, .int .i64 (recAt P T 13 pg), .int .u64 old, .int .u64 (0)]) ∧ (LayS w' mb P T pg cl ps al st ∧ YW w' ab sb sm rb P T (upd g (recAt P T 13 pg) (0))) ∧ Only (fun j => SB sb sm j ∨ j = mb) w1 w' := by
    obtain ⟨s, hy, hl, hg⟩ := hY
    refine ⟨s.word (recAt P T 13 pg), fun w1 ho => ?_⟩
    have hw := words_big hm
    have hb0 : 0 ≤ recAt P T 13 pg ∧ recAt P T 13 pg < Lay.words P T := recAt_bd hm (by omega) (by omega) (by omega) (by omega)
    have hi : s.inR (recAt P T 13 pg) := ⟨hb0.1, by rw [hl]; omega⟩
    refine (Desk.stepPut (laCells ..) (by decide) (Desk.adds hd ho) (hy.adds ho) (by rw [hl]; omega) hi (by omega) (LayS.stays mb P T pg cl ps al st) (enters_of Tryz.func101 (by kernel_rfl) rfl) (fun w2 nx hs hb => layMark_then (hs _ _ _ (hjm.only ho id)) hb)).mono ?_
    rintro e w2 ⟨he, ⟨hq, hy2⟩, ho2⟩
    refine ⟨he, ⟨hq, _, hy2, by simpa [StoreS.acc] using hl, fun j j0 j1 => ?_⟩, ho2⟩
    unfold upd
    by_cases e : j = recAt P T 13 pg
    · rw [if_pos e, e]; exact StoreS.acc_word hi _ _
    · rw [if_neg e, StoreS.acc_word_other hb0.1 j0 e]; exact hg j j0 j1
  obtain ⟨old, hold⟩ := hold
  exact ⟨old, recordLayStep_some (Q := fun w' => LayS w' mb P T pg cl ps al st ∧ YW w' ab sb sm rb P T (upd g (recAt P T 13 pg) (0))) (S := fun j => SB sb sm j ∨ j = mb) ((LayS.stays mb P T pg cl ps al st).and (YW.stays _ _ _ _ _ _ _)) (fun j hj => hj.elim (fun e => e.elim (· ▸ hlow.1) (· ▸ hlow.2)) (· ▸ hml)) hold⟩
theorem layStep_state (h : LayS w mb P T pg cl ps al st) (hY : YW w ab sb sm rb P T g) (hm : Lay.may P T = true) (h0 : 0 ≤ pg) (h1 : 1 ≤ ps) (h2 : pg + ps ≤ P) (ha : 0 ≤ st ∧ st < 18446744073709551616) :
    ∃ old, Calls Tryz.prog 39 #[ptr mb, ptr ab] w fun e w' => e = .returned (.agg #[.int .i64 2, .int .i64 (recAt P T 9 pg), .int .u64 old, .int .u64 (st)]) ∧ (Desk w' mb (laC P T pg cl ps al st) 122 .done ∧ YW w' ab sb sm rb P T (upd g (recAt P T 9 pg) (st))) ∧ Only (fun j => SB sb sm j ∨ j = mb) w w' := by
  have hlow := hY.low
  have hml : mb < w.heap.size := by obtain ⟨_, _, _, hb⟩ := h.live; exact hb.lt
  have hd := h
  have hold : ∃ old, ∀ w1, Adds w w1 → Calls Tryz.prog 75 #[ptr mb, ptr ab] w1 fun e w' => e = .returned (.agg #[.int .i64 2, .int .i64 (recAt P T 9 pg), .int .u64 old, .int .u64 (st)]) ∧ (Desk w' mb (laC P T pg cl ps al st) 122 .done ∧ YW w' ab sb sm rb P T (upd g (recAt P T 9 pg) (st))) ∧ Only (fun j => SB sb sm j ∨ j = mb) w1 w' := by
    obtain ⟨s, hy, hl, hg⟩ := hY
    refine ⟨s.word (recAt P T 9 pg), fun w1 ho => ?_⟩
    have hw := words_big hm
    have hb0 : 0 ≤ recAt P T 9 pg ∧ recAt P T 9 pg < Lay.words P T := recAt_bd hm (by omega) (by omega) (by omega) (by omega)
    have hi : s.inR (recAt P T 9 pg) := ⟨hb0.1, by rw [hl]; omega⟩
    refine (Desk.stepPut (laCells ..) (by decide) (Desk.adds hd ho) (hy.adds ho) (by rw [hl]; omega) hi ha (Desk.stays mb (laC P T pg cl ps al st) 122 .done (by decide)) (enters_of Tryz.func102 (by kernel_rfl) rfl) (fun w2 nx hs hb => (deskEnd_any hb (by simp)).mono (fun _ _ he => ⟨he.1, by rw [he.2]; exact hb.setCell 2 _, by rw [he.2]; exact (Only.refl (fun x => x = mb) _).setCell (.inl rfl) _⟩))).mono ?_
    rintro e w2 ⟨he, ⟨hq, hy2⟩, ho2⟩
    refine ⟨he, ⟨hq, _, hy2, by simpa [StoreS.acc] using hl, fun j j0 j1 => ?_⟩, ho2⟩
    unfold upd
    by_cases e : j = recAt P T 9 pg
    · rw [if_pos e, e]; exact StoreS.acc_word hi _ _
    · rw [if_neg e, StoreS.acc_word_other hb0.1 j0 e]; exact hg j j0 j1
  obtain ⟨old, hold⟩ := hold
  exact ⟨old, recordLayStep_some (Q := fun w' => Desk w' mb (laC P T pg cl ps al st) 122 .done ∧ YW w' ab sb sm rb P T (upd g (recAt P T 9 pg) (st))) (S := fun j => SB sb sm j ∨ j = mb) ((Desk.stays mb (laC P T pg cl ps al st) 122 .done (by decide)).and (YW.stays _ _ _ _ _ _ _)) (fun j hj => hj.elim (fun e => e.elim (· ▸ hlow.1) (· ▸ hlow.2)) (· ▸ hml)) hold⟩
theorem goneStep_state (h : GoneS w mb P T pg ps) (hY : YW w ab sb sm rb P T g) (hm : Lay.may P T = true) (h0 : 0 ≤ pg) (h1 : 1 ≤ ps) (h2 : pg + ps ≤ P) :
    ∃ old, Calls Tryz.prog 46 #[ptr mb, ptr ab] w fun e w' => e = .returned (.agg #[.int .i64 2, .int .i64 (recAt P T 9 pg), .int .u64 old, .int .u64 (0)]) ∧ (Desk w' mb (goC P T pg ps) 128 .done ∧ YW w' ab sb sm rb P T (upd g (recAt P T 9 pg) (0))) ∧ Only (fun j => SB sb sm j ∨ j = mb) w w' := by
  have hlow := hY.low
  have hml : mb < w.heap.size := by obtain ⟨_, _, _, hb⟩ := h.live; exact hb.lt
  have hd := h
  have hold : ∃ old, ∀ w1, Adds w w1 → Calls Tryz.prog 75 #[ptr mb, ptr ab] w1 fun e w' => e = .returned (.agg #[.int .i64 2, .int .i64 (recAt P T 9 pg), .int .u64 old, .int .u64 (0)]) ∧ (Desk w' mb (goC P T pg ps) 128 .done ∧ YW w' ab sb sm rb P T (upd g (recAt P T 9 pg) (0))) ∧ Only (fun j => SB sb sm j ∨ j = mb) w1 w' := by
    obtain ⟨s, hy, hl, hg⟩ := hY
    refine ⟨s.word (recAt P T 9 pg), fun w1 ho => ?_⟩
    have hw := words_big hm
    have hb0 : 0 ≤ recAt P T 9 pg ∧ recAt P T 9 pg < Lay.words P T := recAt_bd hm (by omega) (by omega) (by omega) (by omega)
    have hi : s.inR (recAt P T 9 pg) := ⟨hb0.1, by rw [hl]; omega⟩
    refine (Desk.stepPut (goCells ..) (by decide) (Desk.adds hd ho) (hy.adds ho) (by rw [hl]; omega) hi (by omega) (Desk.stays mb (goC P T pg ps) 128 .done (by decide)) (enters_of Tryz.func102 (by kernel_rfl) rfl) (fun w2 nx hs hb => (deskEnd_any hb (by simp)).mono (fun _ _ he => ⟨he.1, by rw [he.2]; exact hb.setCell 2 _, by rw [he.2]; exact (Only.refl (fun x => x = mb) _).setCell (.inl rfl) _⟩))).mono ?_
    rintro e w2 ⟨he, ⟨hq, hy2⟩, ho2⟩
    refine ⟨he, ⟨hq, _, hy2, by simpa [StoreS.acc] using hl, fun j j0 j1 => ?_⟩, ho2⟩
    unfold upd
    by_cases e : j = recAt P T 9 pg
    · rw [if_pos e, e]; exact StoreS.acc_word hi _ _
    · rw [if_neg e, StoreS.acc_word_other hb0.1 j0 e]; exact hg j j0 j1
  obtain ⟨old, hold⟩ := hold
  exact ⟨old, recordGoneStep_some (Q := fun w' => Desk w' mb (goC P T pg ps) 128 .done ∧ YW w' ab sb sm rb P T (upd g (recAt P T 9 pg) (0))) (S := fun j => SB sb sm j ∨ j = mb) ((Desk.stays mb (goC P T pg ps) 128 .done (by decide)).and (YW.stays _ _ _ _ _ _ _)) (fun j hj => hj.elim (fun e => e.elim (· ▸ hlow.1) (· ▸ hlow.2)) (· ▸ hml)) hold⟩
end
end Go.Proofs.YtbepbcjklgfmjaaGreatDoor

/- Package act: a cas that is laid, and what it does. Package act: a load that is laid, and what it does. Package act: a put that is laid, and what it does. A machine's desk: what it has next. By an AI agent. -/
import Derived.Test.YthhnpcniijpfeaaGreatZ2
namespace Go.Proofs.YthhnpcniijpfeaaGreat
open Go.RowKit
set_option linter.unusedSimpArgs false
set_option linter.unusedVariables false
/-- What is laid. -/
structure HasCas (w : World) (n : Nat) (at_ o v : Int) (thn : Value) : Prop where
  b0 : Blk w n #[.int .i64 at_] 3
  b1 : Blk w (n + 1) #[.int .u64 o] 48
  b2 : Blk w (n + 2) #[.int .u64 v] 48
  b3 : Blk w (n + 3) #[thn] 152
abbrev casF (n : Nat) : Value := .func (.func 104) #[] #[.pointer (some ⟨n, 0, none⟩), .pointer (some ⟨n + 1, 0, none⟩), .pointer (some ⟨n + 2, 0, none⟩), .pointer (some ⟨n + 3, 0, none⟩)]
theorem HasCas.only {S : Nat → Prop} {w w' : World} {n : Nat} {at_ o v : Int} {thn : Value} (h : HasCas w n at_ o v thn) (ho : Only S w w') (hS : ∀ j, n ≤ j → j < n + 4 → ¬ S j) : HasCas w' n at_ o v thn :=
  ⟨h.b0.only ho (hS _ (by omega) (by omega)), h.b1.only ho (hS _ (by omega) (by omega)), h.b2.only ho (hS _ (by omega) (by omega)), h.b3.only ho (hS _ (by omega) (by omega))⟩
theorem HasCas.dids {w w' : World} {n : Nat} {at_ o v : Int} {thn : Value} (h : HasCas w n at_ o v thn) (ho : Only (Dids w) w w') : HasCas w' n at_ o v thn :=
  ⟨h.b0.dids ho (by decide), h.b1.dids ho (by decide), h.b2.dids ho (by decide), h.b3.dids ho (by decide)⟩
theorem HasCas.lt {w : World} {n : Nat} {at_ o v : Int} {thn : Value} (h : HasCas w n at_ o v thn) : n + 3 < w.heap.size := h.b3.lt
theorem casBoxes (w W : World) (at_ o v : Int) (thn : Value) (hz : W.heap.size = w.heap.size) :
    HasCas ((((W.alloc (.cells #[.int .i64 at_] 3)).alloc (.cells #[.int .u64 o] 48)).alloc (.cells #[.int .u64 v] 48)).alloc (.cells #[thn] 152)) w.heap.size at_ o v thn := by
  have n1 := ((Blk.new (W.alloc (.cells #[.int .i64 at_] 3)) #[.int .u64 o] 48).alloc (.cells #[.int .u64 v] 48)).alloc (.cells #[thn] 152)
  have n2 := (Blk.new ((W.alloc (.cells #[.int .i64 at_] 3)).alloc (.cells #[.int .u64 o] 48)) #[.int .u64 v] 48).alloc (.cells #[thn] 152)
  have n3 := Blk.new (((W.alloc (.cells #[.int .i64 at_] 3)).alloc (.cells #[.int .u64 o] 48)).alloc (.cells #[.int .u64 v] 48)) #[thn] 152
  simp only [World.size_alloc] at n1 n2 n3
  rw [← hz]
  exact ⟨(((Blk.new W #[.int .i64 at_] 3).alloc _).alloc _).alloc _, n1, n2, n3⟩
set_option maxHeartbeats 1000000 in
theorem deskCas_any {w : World} {mb : Nat} {c : Array Value} {t : TypeId} (h : Blk w mb c t) (h2 : 2 < c.size) (at_ o v : Int) (fn : Fn) (f1 cap : Array Value) :
    Calls Tryz.prog 90 #[.pointer (some ⟨mb, 0, none⟩), .int .i64 at_, .int .u64 o, .int .u64 v, .func fn f1 cap] w fun e w' => e = .returned (.tuple #[]) ∧ Blk w' mb (c.setIfInBounds 2 (casF w.heap.size)) t ∧ HasCas w' w.heap.size at_ o v (.func fn f1 cap) ∧ Only (· = mb) w w' := by
  have f2 := h.frozen 2
  have c2 := h.cell 2
  obtain ⟨v2, hv2⟩ : ∃ v2, c[2]? = some v2 := ⟨_, Array.getElem?_eq_getElem h2⟩
  rw [hv2] at c2
  have hl := h.lt
  have hl1 : mb < w.heap.size + 1 := by omega
  have hl2 : mb < w.heap.size + 1 + 1 := by omega
  have hl3 : mb < w.heap.size + 1 + 1 + 1 := by omega
  have HB := Lib.hid h
  clear h hv2
  go_enter Tryz.func90, Tryz.ntmps90
  go_wp2
  go_end0
  exact ⟨rfl, ((((HB.out.setCell 2 _).alloc _).alloc _).alloc _).alloc _, casBoxes w _ at_ o v _ (by simp [World.setCell]), (((((Only.refl (fun x => x = mb) w).setCell (.inl rfl) _).alloc _).alloc _).alloc _).alloc _⟩
set_option maxRecDepth 100000 in
set_option maxHeartbeats 2000000 in
/-- What it does. -/
theorem cas1_any {w : World} {ab sb sm rb n : Nat} {P T : Int} {s s' : StoreS} {at_ o v er : Int} {won : Bool} {K : Nat} {f1 cap : Array Value}
    (hY : Yard w ab sb sm rb P T s) (hC : HasCas w n at_ o v (.func (.func K) f1 cap)) (hbig : 1 < s.ws.length)
    (hc : ∀ W, IsStore W sb sm s → Calls Tryz.prog 105 #[.pointer (some ⟨sb, 0, none⟩), .int .i64 at_, .int .u64 o, .int .u64 v] W fun e w' => e = .returned (.tuple #[.int .u64 (s.word at_), .int .i64 er]) ∧ IsStore w' sb sm s' ∧ Only (SB sb sm) W w')
    (her : (er == 0) = won)
    {Q : World → Prop} (hst : Stays Q) {M : Nat → Prop} (hM : ∀ j, M j → j < w.heap.size ∧ j ≠ ab ∧ j ≠ sb ∧ j ≠ sm) (eg : Enters Tryz.prog K)
    (hT : ∀ w1, Only (SB sb sm) w w1 → Yard w1 ab sb sm rb P T s' → Calls Tryz.prog K (f1 ++ #[.bool won] ++ cap) w1 fun e w2 => e = .returned (.tuple #[]) ∧ Q w2 ∧ Only M w1 w2) :
    Calls Tryz.prog 104 #[.pointer (some ⟨ab, 0, none⟩), .pointer (some ⟨n, 0, none⟩), .pointer (some ⟨n + 1, 0, none⟩), .pointer (some ⟨n + 2, 0, none⟩), .pointer (some ⟨n + 3, 0, none⟩)] w fun e w' =>
      e = .returned (.agg #[.int .i64 s'.k, .int .i64 s'.pos, .int .u64 s'.old, .int .u64 s'.new]) ∧ (Q w' ∧ Yard w' ab sb sm rb P T s') ∧ Only (fun j => SB sb sm j ∨ M j) w w' := by
  have HT := Lib.hid hT; have HM := Lib.hid hM; have HST := Lib.hid hst; have HC := Lib.hid hc
  obtain ⟨wR, hR⟩ : ∃ wR, wR = w.alloc (.cells #[.int .i64 0, .int .i64 0, .int .u64 0, .int .u64 0] 50) := ⟨_, rfl⟩
  have hBR : Hid (Blk wR w.heap.size #[.int .i64 0, .int .i64 0, .int .u64 0, .int .u64 0] 50) := by rw [hR]; exact Lib.hid (Blk.new _ _ _)
  have hAR : Hid (Adds w wR) := by rw [hR]; exact Lib.hid ((Only.refl _ _).alloc _)
  have hYR := hY.adds hAR.out
  have hCR := hC.only hAR.out (fun _ _ _ => id)
  have i0 := Lib.hid (hYR.not hCR.b0 (by decide) (.inl (by decide))); have i1 := Lib.hid (hYR.not hCR.b1 (by decide) (.inr (by simp; omega))); have i2 := Lib.hid (hYR.not hCR.b2 (by decide) (.inr (by simp; omega))); have i3 := Lib.hid (hYR.not hCR.b3 (by decide) (.inl (by decide)))
  have iR := Lib.hid (hYR.not hBR.out (by decide) (.inl (by decide)))
  have k0 := hCR.b0.one; have k1 := hCR.b1.one; have k2 := hCR.b2.one
  have HCR := Lib.hid hCR; have HYR := Lib.hid hYR
  have HW := Lib.hid hR
  clear hT hM hst hc hC hY hCR hYR hbig
  have eg' : ∀ args W, (callFunc K args).run Tryz.prog W = .ok (.enter K args) W := eg
  go_enter Tryz.func104, Tryz.ntmps104
  go_wp2
  rw [← HW.out]
  clear hR
  go_region_held3 (fun w' => w'.cell? ⟨n, 0, none⟩ = some (.int .i64 at_) ∧ w'.cell? ⟨n + 1, 0, none⟩ = some (.int .u64 o) ∧ w'.cell? ⟨n + 2, 0, none⟩ = some (.int .u64 v) ∧ Only (SB sb sm) wR w')
    (first | (exact ⟨k0, k1, k2, (Only.refl _ _).drew⟩) | (exact heldS3 i0.out i1.out i2.out (by assumption) (by first | assumption | exact Only.refl _ _)))
    (first
    | (go_at_call 32; refine (arenaStore_any (HYR.out.ar.only ((Only.refl (fun _ => False) _).drew) id)).mono ?_; rintro e w3 ⟨rfl, rfl⟩)
    | (go_at_call 105; refine (HC.out _ (HYR.out.st.only ((Only.refl (fun _ => False) _).drew) id id)).mono ?_; rintro e w4 ⟨rfl, hs4, ho4⟩))
  rename_i hH
  have HH := Lib.hid hH.2.2.2
  have HY4 := Lib.hid (HYR.out.acc HH.out hs4)
  have HC4 := Lib.hid (HCR.out.only HH.out (fun j h1 h2 => by
    have e : j = n ∨ j = n + 1 ∨ j = n + 2 ∨ j = n + 3 := by omega
    rcases e with rfl | rfl | rfl | rfl
    · exact i0.out
    · exact i1.out
    · exact i2.out
    · exact i3.out))
  have HB4 := Lib.hid (hBR.out.only HH.out iR.out)
  have k3 := HC4.out.b3.one
  have hO4 : Only (SB sb sm) w w4 := (hAR.out.mono (fun _ _ e => e.elim)).trans HH.out
  have hk := Lib.hid (HT.out _ hO4 HY4.out)
  have HO4 := Lib.hid hO4
  clear hH hs4 ho4 hO4 k0 k1 k2
  go_wp2_with (first
    | (go_at_fn K; refine hk.out.mono ?_; rintro e w5 ⟨rfl, hQ5, ho5⟩; have HY5 := Lib.hid (HY4.out.only ho5 (fun e => (HM.out _ e).2.1 rfl) (fun e => (HM.out _ e).2.2.1 rfl) (fun e => (HM.out _ e).2.2.2 rfl)); have HB5 := Lib.hid (HB4.out.only ho5 (fun e => Nat.lt_irrefl _ (HM.out _ e).1)); have HQ5 := Lib.hid hQ5; have HO5 := Lib.hid ((HO4.out.mono (T := fun j => SB sb sm j ∨ M j) (fun _ _ => .inl)).trans (ho5.mono (fun _ _ => .inr))); clear hQ5 ho5)
    | (go_at_call 32; refine (arenaStore_any HY5.out.ar).mono ?_; rintro e w6 ⟨rfl, rfl⟩)
    | (go_at_call 86; refine (last_any _ _ _ _ HY5.out.st).mono ?_; rintro e w7 ⟨rfl, ho7⟩; have hB := HB5.out.only ho7 id; obtain ⟨q0, q1, q2, q3, f0, f1', f2, f3⟩ := hB.four; have HB := Lib.hid hB; have HF := Lib.hid (And.intro (HST.out.adds ho7 HQ5.out) (And.intro (HY5.out.adds ho7) (HO5.out.trans (ho7.mono (fun _ _ e => e.elim))))); clear hB ho7))
  exact bodyPost_ret (v := .agg #[.int .i64 s'.k, .int .i64 s'.pos, .int .u64 s'.old, .int .u64 s'.new]) (by simp [q0, q1, q2, q3, results, Tryz.results104, go_sem]) rfl
    ⟨rfl, (HST.out.and (fun _ _ ho h => Yard.dids h ho)).box HB.out ⟨HF.out.1, HF.out.2.1⟩ _ _ _ _, only_box4 HF.out.2.2 (.inr (Nat.le_refl _)) _ _ _ _⟩
/-- A step of a desk that has it next. -/
theorem stepCas {w : World} {mb ab sb sm rb n : Nat} {P T : Int} {s s' : StoreS} {at_ o v er : Int} {won : Bool} {K : Nat} {f1 cap : Array Value}
    (h : w.cell? ⟨mb, 2, none⟩ = some (casF n)) (h0 : w.cell? ⟨mb, 0, none⟩ = some (.int .i64 P)) (h1 : w.cell? ⟨mb, 1, none⟩ = some (.int .i64 T))
    (hY : Yard w ab sb sm rb P T s) (hC : HasCas w n at_ o v (.func (.func K) f1 cap)) (hbig : 1 < s.ws.length)
    (hc : ∀ W, IsStore W sb sm s → Calls Tryz.prog 105 #[.pointer (some ⟨sb, 0, none⟩), .int .i64 at_, .int .u64 o, .int .u64 v] W fun e w' => e = .returned (.tuple #[.int .u64 (s.word at_), .int .i64 er]) ∧ IsStore w' sb sm s' ∧ Only (SB sb sm) W w')
    (her : (er == 0) = won)
    {Q : World → Prop} (hst : Stays Q) {M : Nat → Prop} (hM : ∀ j, M j → j < w.heap.size ∧ j ≠ ab ∧ j ≠ sb ∧ j ≠ sm) (eg : Enters Tryz.prog K)
    (hT : ∀ w1, Only (SB sb sm) w w1 → Yard w1 ab sb sm rb P T s' → Calls Tryz.prog K (f1 ++ #[.bool won] ++ cap) w1 fun e w2 => e = .returned (.tuple #[]) ∧ Q w2 ∧ Only M w1 w2) :
    Calls Tryz.prog 27 #[.pointer (some ⟨mb, 0, none⟩), .pointer (some ⟨ab, 0, none⟩)] w fun e w' =>
      e = .returned (.agg #[.int .i64 s'.k, .int .i64 s'.pos, .int .u64 s'.old, .int .u64 s'.new]) ∧ (Q w' ∧ Yard w' ab sb sm rb P T s') ∧ Only (fun j => SB sb sm j ∨ M j) w w' :=
  deskStep_live h h0 h1 hY.ar (hst.and (fun _ _ ho h => Yard.dids h ho)) (fun j hj => hj.elim (fun e => e.elim (fun e => e ▸ hY.st.head.lt) (fun e => e ▸ hY.st.row.lt)) (fun e => (hM j e).1)) (enters_of Tryz.func104 (by kernel_rfl) rfl)
    (fun w1 ho => cas1_any (hY.adds ho) (hC.only ho (fun _ _ _ => id)) hbig hc her hst (fun j e => ⟨Nat.lt_of_lt_of_le (hM j e).1 ho.size, (hM j e).2⟩) eg (fun w2 ho2 hy2 => hT w2 ((ho.mono (fun _ _ e => e.elim)).trans ho2) hy2))
/-- What is laid. -/
structure HasLoad (w : World) (n : Nat) (at_ : Int) (thn : Value) : Prop where
  b0 : Blk w n #[.int .i64 at_] 3
  b1 : Blk w (n + 1) #[thn] 125
abbrev loadF (n : Nat) : Value := .func (.func 84) #[] #[.pointer (some ⟨n, 0, none⟩), .pointer (some ⟨n + 1, 0, none⟩)]
theorem HasLoad.only {S : Nat → Prop} {w w' : World} {n : Nat} {at_ : Int} {thn : Value} (h : HasLoad w n at_ thn) (ho : Only S w w') (hS : ∀ j, n ≤ j → j < n + 2 → ¬ S j) : HasLoad w' n at_ thn :=
  ⟨h.b0.only ho (hS _ (by omega) (by omega)), h.b1.only ho (hS _ (by omega) (by omega))⟩
theorem HasLoad.dids {w w' : World} {n : Nat} {at_ : Int} {thn : Value} (h : HasLoad w n at_ thn) (ho : Only (Dids w) w w') : HasLoad w' n at_ thn :=
  ⟨h.b0.dids ho (by decide), h.b1.dids ho (by decide)⟩
theorem HasLoad.lt {w : World} {n : Nat} {at_ : Int} {thn : Value} (h : HasLoad w n at_ thn) : n + 1 < w.heap.size := h.b1.lt
theorem loadBoxes (w W : World) (at_ : Int) (thn : Value) (hz : W.heap.size = w.heap.size) :
    HasLoad ((W.alloc (.cells #[.int .i64 at_] 3)).alloc (.cells #[thn] 125)) w.heap.size at_ thn := by
  have n1 := Blk.new (W.alloc (.cells #[.int .i64 at_] 3)) #[thn] 125
  simp only [World.size_alloc] at n1
  rw [← hz]
  exact ⟨(Blk.new W #[.int .i64 at_] 3).alloc _, n1⟩
set_option maxHeartbeats 1000000 in
theorem deskLoad_any {w : World} {mb : Nat} {c : Array Value} {t : TypeId} (h : Blk w mb c t) (h2 : 2 < c.size) (at_ : Int) (fn : Fn) (f1 cap : Array Value) :
    Calls Tryz.prog 62 #[.pointer (some ⟨mb, 0, none⟩), .int .i64 at_, .func fn f1 cap] w fun e w' => e = .returned (.tuple #[]) ∧ Blk w' mb (c.setIfInBounds 2 (loadF w.heap.size)) t ∧ HasLoad w' w.heap.size at_ (.func fn f1 cap) ∧ Only (· = mb) w w' := by
  have f2 := h.frozen 2
  have c2 := h.cell 2
  obtain ⟨v2, hv2⟩ : ∃ v2, c[2]? = some v2 := ⟨_, Array.getElem?_eq_getElem h2⟩
  rw [hv2] at c2
  have hl := h.lt
  have hl1 : mb < w.heap.size + 1 := by omega
  have HB := Lib.hid h
  clear h hv2
  go_enter Tryz.func62, Tryz.ntmps62
  go_wp2
  go_end0
  exact ⟨rfl, ((HB.out.setCell 2 _).alloc _).alloc _, loadBoxes w _ at_ _ (by simp [World.setCell]), (((Only.refl (fun x => x = mb) w).setCell (.inl rfl) _).alloc _).alloc _⟩
set_option maxRecDepth 100000 in
set_option maxHeartbeats 2000000 in
/-- What it does. -/
theorem load1_any {w : World} {ab sb sm rb n : Nat} {P T : Int} {s s' : StoreS} {at_ : Int} {K : Nat} {f1 cap : Array Value}
    (hY : Yard w ab sb sm rb P T s) (hC : HasLoad w n at_ (.func (.func K) f1 cap)) (_hbig : 1 < s.ws.length)
    (hc : ∀ W, IsStore W sb sm s → Calls Tryz.prog 85 #[.pointer (some ⟨sb, 0, none⟩), .int .i64 at_] W fun e w' => e = .returned (.tuple #[.int .u64 (s.word at_), .int .i64 0]) ∧ IsStore w' sb sm s' ∧ Only (SB sb sm) W w')
    {Q : World → Prop} (hst : Stays Q) {M : Nat → Prop} (hM : ∀ j, M j → j < w.heap.size ∧ j ≠ ab ∧ j ≠ sb ∧ j ≠ sm) (eg : Enters Tryz.prog K)
    (hT : ∀ w1, Only (SB sb sm) w w1 → Yard w1 ab sb sm rb P T s' → Calls Tryz.prog K (f1 ++ #[.int .u64 (s.word at_)] ++ cap) w1 fun e w2 => e = .returned (.tuple #[]) ∧ Q w2 ∧ Only M w1 w2) :
    Calls Tryz.prog 84 #[.pointer (some ⟨ab, 0, none⟩), .pointer (some ⟨n, 0, none⟩), .pointer (some ⟨n + 1, 0, none⟩)] w fun e w' =>
      e = .returned (.agg #[.int .i64 s'.k, .int .i64 s'.pos, .int .u64 s'.old, .int .u64 s'.new]) ∧ (Q w' ∧ Yard w' ab sb sm rb P T s') ∧ Only (fun j => SB sb sm j ∨ M j) w w' := by
  have HT := Lib.hid hT; have HM := Lib.hid hM; have HST := Lib.hid hst; have HC := Lib.hid hc
  obtain ⟨wR, hR⟩ : ∃ wR, wR = w.alloc (.cells #[.int .i64 0, .int .i64 0, .int .u64 0, .int .u64 0] 50) := ⟨_, rfl⟩
  have hBR : Hid (Blk wR w.heap.size #[.int .i64 0, .int .i64 0, .int .u64 0, .int .u64 0] 50) := by rw [hR]; exact Lib.hid (Blk.new _ _ _)
  have hAR : Hid (Adds w wR) := by rw [hR]; exact Lib.hid ((Only.refl _ _).alloc _)
  have hYR := hY.adds hAR.out
  have hCR := hC.only hAR.out (fun _ _ _ => id)
  have i0 := Lib.hid (hYR.not hCR.b0 (by decide) (.inl (by decide))); have i1 := Lib.hid (hYR.not hCR.b1 (by decide) (.inl (by decide)))
  have iR := Lib.hid (hYR.not hBR.out (by decide) (.inl (by decide)))
  have k0 := hCR.b0.one
  have HCR := Lib.hid hCR; have HYR := Lib.hid hYR
  have HW := Lib.hid hR
  clear hT hM hst hc hC hY hCR hYR
  have eg' : ∀ args W, (callFunc K args).run Tryz.prog W = .ok (.enter K args) W := eg
  go_enter Tryz.func84, Tryz.ntmps84
  go_wp2
  rw [← HW.out]
  clear hR
  go_region_held3 (fun w' => w'.cell? ⟨n, 0, none⟩ = some (.int .i64 at_) ∧ Only (SB sb sm) wR w')
    (first | (exact ⟨k0, (Only.refl _ _).drew⟩) | (exact heldS1 i0.out (by assumption) (by first | assumption | exact Only.refl _ _)))
    (first
    | (go_at_call 32; refine (arenaStore_any (HYR.out.ar.only ((Only.refl (fun _ => False) _).drew) id)).mono ?_; rintro e w3 ⟨rfl, rfl⟩)
    | (go_at_call 85; refine (HC.out _ (HYR.out.st.only ((Only.refl (fun _ => False) _).drew) id id)).mono ?_; rintro e w4 ⟨rfl, hs4, ho4⟩))
  rename_i hH
  have HH := Lib.hid hH.2
  have HY4 := Lib.hid (HYR.out.acc HH.out hs4)
  have HC4 := Lib.hid (HCR.out.only HH.out (fun j h1 h2 => by
    have e : j = n ∨ j = n + 1 := by omega
    rcases e with rfl | rfl
    · exact i0.out
    · exact i1.out))
  have HB4 := Lib.hid (hBR.out.only HH.out iR.out)
  have k1 := HC4.out.b1.one
  have hO4 : Only (SB sb sm) w w4 := (hAR.out.mono (fun _ _ e => e.elim)).trans HH.out
  have hk := Lib.hid (HT.out _ hO4 HY4.out)
  have HO4 := Lib.hid hO4
  clear hH hs4 ho4 hO4 k0
  go_wp2_with (first
    | (go_at_fn K; refine hk.out.mono ?_; rintro e w5 ⟨rfl, hQ5, ho5⟩; have HY5 := Lib.hid (HY4.out.only ho5 (fun e => (HM.out _ e).2.1 rfl) (fun e => (HM.out _ e).2.2.1 rfl) (fun e => (HM.out _ e).2.2.2 rfl)); have HB5 := Lib.hid (HB4.out.only ho5 (fun e => Nat.lt_irrefl _ (HM.out _ e).1)); have HQ5 := Lib.hid hQ5; have HO5 := Lib.hid ((HO4.out.mono (T := fun j => SB sb sm j ∨ M j) (fun _ _ => .inl)).trans (ho5.mono (fun _ _ => .inr))); clear hQ5 ho5)
    | (go_at_call 32; refine (arenaStore_any HY5.out.ar).mono ?_; rintro e w6 ⟨rfl, rfl⟩)
    | (go_at_call 86; refine (last_any _ _ _ _ HY5.out.st).mono ?_; rintro e w7 ⟨rfl, ho7⟩; have hB := HB5.out.only ho7 id; obtain ⟨q0, q1, q2, q3, f0, f1', f2, f3⟩ := hB.four; have HB := Lib.hid hB; have HF := Lib.hid (And.intro (HST.out.adds ho7 HQ5.out) (And.intro (HY5.out.adds ho7) (HO5.out.trans (ho7.mono (fun _ _ e => e.elim))))); clear hB ho7))
  exact bodyPost_ret (v := .agg #[.int .i64 s'.k, .int .i64 s'.pos, .int .u64 s'.old, .int .u64 s'.new]) (by simp [q0, q1, q2, q3, results, Tryz.results84, go_sem]) rfl
    ⟨rfl, (HST.out.and (fun _ _ ho h => Yard.dids h ho)).box HB.out ⟨HF.out.1, HF.out.2.1⟩ _ _ _ _, only_box4 HF.out.2.2 (.inr (Nat.le_refl _)) _ _ _ _⟩
/-- A step of a desk that has it next. -/
theorem stepLoad {w : World} {mb ab sb sm rb n : Nat} {P T : Int} {s s' : StoreS} {at_ : Int} {K : Nat} {f1 cap : Array Value}
    (h : w.cell? ⟨mb, 2, none⟩ = some (loadF n)) (h0 : w.cell? ⟨mb, 0, none⟩ = some (.int .i64 P)) (h1 : w.cell? ⟨mb, 1, none⟩ = some (.int .i64 T))
    (hY : Yard w ab sb sm rb P T s) (hC : HasLoad w n at_ (.func (.func K) f1 cap)) (hbig : 1 < s.ws.length)
    (hc : ∀ W, IsStore W sb sm s → Calls Tryz.prog 85 #[.pointer (some ⟨sb, 0, none⟩), .int .i64 at_] W fun e w' => e = .returned (.tuple #[.int .u64 (s.word at_), .int .i64 0]) ∧ IsStore w' sb sm s' ∧ Only (SB sb sm) W w')
    {Q : World → Prop} (hst : Stays Q) {M : Nat → Prop} (hM : ∀ j, M j → j < w.heap.size ∧ j ≠ ab ∧ j ≠ sb ∧ j ≠ sm) (eg : Enters Tryz.prog K)
    (hT : ∀ w1, Only (SB sb sm) w w1 → Yard w1 ab sb sm rb P T s' → Calls Tryz.prog K (f1 ++ #[.int .u64 (s.word at_)] ++ cap) w1 fun e w2 => e = .returned (.tuple #[]) ∧ Q w2 ∧ Only M w1 w2) :
    Calls Tryz.prog 27 #[.pointer (some ⟨mb, 0, none⟩), .pointer (some ⟨ab, 0, none⟩)] w fun e w' =>
      e = .returned (.agg #[.int .i64 s'.k, .int .i64 s'.pos, .int .u64 s'.old, .int .u64 s'.new]) ∧ (Q w' ∧ Yard w' ab sb sm rb P T s') ∧ Only (fun j => SB sb sm j ∨ M j) w w' :=
  deskStep_live h h0 h1 hY.ar (hst.and (fun _ _ ho h => Yard.dids h ho)) (fun j hj => hj.elim (fun e => e.elim (fun e => e ▸ hY.st.head.lt) (fun e => e ▸ hY.st.row.lt)) (fun e => (hM j e).1)) (enters_of Tryz.func84 (by kernel_rfl) rfl)
    (fun w1 ho => load1_any (hY.adds ho) (hC.only ho (fun _ _ _ => id)) hbig hc hst (fun j e => ⟨Nat.lt_of_lt_of_le (hM j e).1 ho.size, (hM j e).2⟩) eg (fun w2 ho2 hy2 => hT w2 ((ho.mono (fun _ _ e => e.elim)).trans ho2) hy2))
/-- What is laid. -/
structure HasPut (w : World) (n : Nat) (at_ v : Int) (thn : Value) : Prop where
  b0 : Blk w n #[.int .i64 at_] 3
  b1 : Blk w (n + 1) #[.int .u64 v] 48
  b2 : Blk w (n + 2) #[thn] 1
abbrev putF (n : Nat) : Value := .func (.func 101) #[] #[.pointer (some ⟨n, 0, none⟩), .pointer (some ⟨n + 1, 0, none⟩), .pointer (some ⟨n + 2, 0, none⟩)]
theorem HasPut.only {S : Nat → Prop} {w w' : World} {n : Nat} {at_ v : Int} {thn : Value} (h : HasPut w n at_ v thn) (ho : Only S w w') (hS : ∀ j, n ≤ j → j < n + 3 → ¬ S j) : HasPut w' n at_ v thn :=
  ⟨h.b0.only ho (hS _ (by omega) (by omega)), h.b1.only ho (hS _ (by omega) (by omega)), h.b2.only ho (hS _ (by omega) (by omega))⟩
theorem HasPut.dids {w w' : World} {n : Nat} {at_ v : Int} {thn : Value} (h : HasPut w n at_ v thn) (ho : Only (Dids w) w w') : HasPut w' n at_ v thn :=
  ⟨h.b0.dids ho (by decide), h.b1.dids ho (by decide), h.b2.dids ho (by decide)⟩
theorem HasPut.lt {w : World} {n : Nat} {at_ v : Int} {thn : Value} (h : HasPut w n at_ v thn) : n + 2 < w.heap.size := h.b2.lt
theorem putBoxes (w W : World) (at_ v : Int) (thn : Value) (hz : W.heap.size = w.heap.size) :
    HasPut (((W.alloc (.cells #[.int .i64 at_] 3)).alloc (.cells #[.int .u64 v] 48)).alloc (.cells #[thn] 1)) w.heap.size at_ v thn := by
  have n1 := (Blk.new (W.alloc (.cells #[.int .i64 at_] 3)) #[.int .u64 v] 48).alloc (.cells #[thn] 1)
  have n2 := Blk.new ((W.alloc (.cells #[.int .i64 at_] 3)).alloc (.cells #[.int .u64 v] 48)) #[thn] 1
  simp only [World.size_alloc] at n1 n2
  rw [← hz]
  exact ⟨((Blk.new W #[.int .i64 at_] 3).alloc _).alloc _, n1, n2⟩
set_option maxHeartbeats 1000000 in
theorem deskPut_any {w : World} {mb : Nat} {c : Array Value} {t : TypeId} (h : Blk w mb c t) (h2 : 2 < c.size) (at_ v : Int) (fn : Fn) (f1 cap : Array Value) :
    Calls Tryz.prog 87 #[.pointer (some ⟨mb, 0, none⟩), .int .i64 at_, .int .u64 v, .func fn f1 cap] w fun e w' => e = .returned (.tuple #[]) ∧ Blk w' mb (c.setIfInBounds 2 (putF w.heap.size)) t ∧ HasPut w' w.heap.size at_ v (.func fn f1 cap) ∧ Only (· = mb) w w' := by
  have f2 := h.frozen 2
  have c2 := h.cell 2
  obtain ⟨v2, hv2⟩ : ∃ v2, c[2]? = some v2 := ⟨_, Array.getElem?_eq_getElem h2⟩
  rw [hv2] at c2
  have hl := h.lt
  have hl1 : mb < w.heap.size + 1 := by omega
  have hl2 : mb < w.heap.size + 1 + 1 := by omega
  have HB := Lib.hid h
  clear h hv2
  go_enter Tryz.func87, Tryz.ntmps87
  go_wp2
  go_end0
  exact ⟨rfl, (((HB.out.setCell 2 _).alloc _).alloc _).alloc _, putBoxes w _ at_ v _ (by simp [World.setCell]), ((((Only.refl (fun x => x = mb) w).setCell (.inl rfl) _).alloc _).alloc _).alloc _⟩
set_option maxRecDepth 100000 in
set_option maxHeartbeats 2000000 in
/-- What it does. -/
theorem put1_any {w : World} {ab sb sm rb n : Nat} {P T : Int} {s s' : StoreS} {at_ v : Int} {K : Nat} {f1 cap : Array Value}
    (hY : Yard w ab sb sm rb P T s) (hC : HasPut w n at_ v (.func (.func K) f1 cap)) (hbig : 1 < s.ws.length)
    (hc : ∀ W, IsStore W sb sm s → Calls Tryz.prog 102 #[.pointer (some ⟨sb, 0, none⟩), .int .i64 at_, .int .u64 v] W fun e w' => e = .returned (.int .i64 0) ∧ IsStore w' sb sm s' ∧ Only (SB sb sm) W w')
    {Q : World → Prop} (hst : Stays Q) {M : Nat → Prop} (hM : ∀ j, M j → j < w.heap.size ∧ j ≠ ab ∧ j ≠ sb ∧ j ≠ sm) (eg : Enters Tryz.prog K)
    (hT : ∀ w1, Only (SB sb sm) w w1 → Yard w1 ab sb sm rb P T s' → Calls Tryz.prog K (f1 ++ #[] ++ cap) w1 fun e w2 => e = .returned (.tuple #[]) ∧ Q w2 ∧ Only M w1 w2) :
    Calls Tryz.prog 101 #[.pointer (some ⟨ab, 0, none⟩), .pointer (some ⟨n, 0, none⟩), .pointer (some ⟨n + 1, 0, none⟩), .pointer (some ⟨n + 2, 0, none⟩)] w fun e w' =>
      e = .returned (.agg #[.int .i64 s'.k, .int .i64 s'.pos, .int .u64 s'.old, .int .u64 s'.new]) ∧ (Q w' ∧ Yard w' ab sb sm rb P T s') ∧ Only (fun j => SB sb sm j ∨ M j) w w' := by
  have HT := Lib.hid hT; have HM := Lib.hid hM; have HST := Lib.hid hst; have HC := Lib.hid hc
  obtain ⟨wR, hR⟩ : ∃ wR, wR = w.alloc (.cells #[.int .i64 0, .int .i64 0, .int .u64 0, .int .u64 0] 50) := ⟨_, rfl⟩
  have hBR : Hid (Blk wR w.heap.size #[.int .i64 0, .int .i64 0, .int .u64 0, .int .u64 0] 50) := by rw [hR]; exact Lib.hid (Blk.new _ _ _)
  have hAR : Hid (Adds w wR) := by rw [hR]; exact Lib.hid ((Only.refl _ _).alloc _)
  have hYR := hY.adds hAR.out
  have hCR := hC.only hAR.out (fun _ _ _ => id)
  have i0 := Lib.hid (hYR.not hCR.b0 (by decide) (.inl (by decide))); have i1 := Lib.hid (hYR.not hCR.b1 (by decide) (.inr (by simp; omega))); have i2 := Lib.hid (hYR.not hCR.b2 (by decide) (.inl (by decide)))
  have iR := Lib.hid (hYR.not hBR.out (by decide) (.inl (by decide)))
  have k0 := hCR.b0.one; have k1 := hCR.b1.one
  have HCR := Lib.hid hCR; have HYR := Lib.hid hYR
  have HW := Lib.hid hR
  clear hT hM hst hc hC hY hCR hYR hbig
  have eg' : ∀ args W, (callFunc K args).run Tryz.prog W = .ok (.enter K args) W := eg
  go_enter Tryz.func101, Tryz.ntmps101
  go_wp2
  rw [← HW.out]
  clear hR
  go_region_held3 (fun w' => w'.cell? ⟨n, 0, none⟩ = some (.int .i64 at_) ∧ w'.cell? ⟨n + 1, 0, none⟩ = some (.int .u64 v) ∧ Only (SB sb sm) wR w')
    (first | (exact ⟨k0, k1, (Only.refl _ _).drew⟩) | (exact heldS2 i0.out i1.out (by assumption) (by first | assumption | exact Only.refl _ _)))
    (first
    | (go_at_call 32; refine (arenaStore_any (HYR.out.ar.only ((Only.refl (fun _ => False) _).drew) id)).mono ?_; rintro e w3 ⟨rfl, rfl⟩)
    | (go_at_call 102; refine (HC.out _ (HYR.out.st.only ((Only.refl (fun _ => False) _).drew) id id)).mono ?_; rintro e w4 ⟨rfl, hs4, ho4⟩))
  rename_i hH
  have HH := Lib.hid hH.2.2
  have HY4 := Lib.hid (HYR.out.acc HH.out hs4)
  have HC4 := Lib.hid (HCR.out.only HH.out (fun j h1 h2 => by
    have e : j = n ∨ j = n + 1 ∨ j = n + 2 := by omega
    rcases e with rfl | rfl | rfl
    · exact i0.out
    · exact i1.out
    · exact i2.out))
  have HB4 := Lib.hid (hBR.out.only HH.out iR.out)
  have k2 := HC4.out.b2.one
  have hO4 : Only (SB sb sm) w w4 := (hAR.out.mono (fun _ _ e => e.elim)).trans HH.out
  have hk := Lib.hid (HT.out _ hO4 HY4.out)
  have HO4 := Lib.hid hO4
  clear hH hs4 ho4 hO4 k0 k1
  go_wp2_with (first
    | (go_at_fn K; refine hk.out.mono ?_; rintro e w5 ⟨rfl, hQ5, ho5⟩; have HY5 := Lib.hid (HY4.out.only ho5 (fun e => (HM.out _ e).2.1 rfl) (fun e => (HM.out _ e).2.2.1 rfl) (fun e => (HM.out _ e).2.2.2 rfl)); have HB5 := Lib.hid (HB4.out.only ho5 (fun e => Nat.lt_irrefl _ (HM.out _ e).1)); have HQ5 := Lib.hid hQ5; have HO5 := Lib.hid ((HO4.out.mono (T := fun j => SB sb sm j ∨ M j) (fun _ _ => .inl)).trans (ho5.mono (fun _ _ => .inr))); clear hQ5 ho5)
    | (go_at_call 32; refine (arenaStore_any HY5.out.ar).mono ?_; rintro e w6 ⟨rfl, rfl⟩)
    | (go_at_call 86; refine (last_any _ _ _ _ HY5.out.st).mono ?_; rintro e w7 ⟨rfl, ho7⟩; have hB := HB5.out.only ho7 id; obtain ⟨q0, q1, q2, q3, f0, f1', f2, f3⟩ := hB.four; have HB := Lib.hid hB; have HF := Lib.hid (And.intro (HST.out.adds ho7 HQ5.out) (And.intro (HY5.out.adds ho7) (HO5.out.trans (ho7.mono (fun _ _ e => e.elim))))); clear hB ho7))
  exact bodyPost_ret (v := .agg #[.int .i64 s'.k, .int .i64 s'.pos, .int .u64 s'.old, .int .u64 s'.new]) (by simp [q0, q1, q2, q3, results, Tryz.results101, go_sem]) rfl
    ⟨rfl, (HST.out.and (fun _ _ ho h => Yard.dids h ho)).box HB.out ⟨HF.out.1, HF.out.2.1⟩ _ _ _ _, only_box4 HF.out.2.2 (.inr (Nat.le_refl _)) _ _ _ _⟩
/-- A step of a desk that has it next. -/
theorem stepPut {w : World} {mb ab sb sm rb n : Nat} {P T : Int} {s s' : StoreS} {at_ v : Int} {K : Nat} {f1 cap : Array Value}
    (h : w.cell? ⟨mb, 2, none⟩ = some (putF n)) (h0 : w.cell? ⟨mb, 0, none⟩ = some (.int .i64 P)) (h1 : w.cell? ⟨mb, 1, none⟩ = some (.int .i64 T))
    (hY : Yard w ab sb sm rb P T s) (hC : HasPut w n at_ v (.func (.func K) f1 cap)) (hbig : 1 < s.ws.length)
    (hc : ∀ W, IsStore W sb sm s → Calls Tryz.prog 102 #[.pointer (some ⟨sb, 0, none⟩), .int .i64 at_, .int .u64 v] W fun e w' => e = .returned (.int .i64 0) ∧ IsStore w' sb sm s' ∧ Only (SB sb sm) W w')
    {Q : World → Prop} (hst : Stays Q) {M : Nat → Prop} (hM : ∀ j, M j → j < w.heap.size ∧ j ≠ ab ∧ j ≠ sb ∧ j ≠ sm) (eg : Enters Tryz.prog K)
    (hT : ∀ w1, Only (SB sb sm) w w1 → Yard w1 ab sb sm rb P T s' → Calls Tryz.prog K (f1 ++ #[] ++ cap) w1 fun e w2 => e = .returned (.tuple #[]) ∧ Q w2 ∧ Only M w1 w2) :
    Calls Tryz.prog 27 #[.pointer (some ⟨mb, 0, none⟩), .pointer (some ⟨ab, 0, none⟩)] w fun e w' =>
      e = .returned (.agg #[.int .i64 s'.k, .int .i64 s'.pos, .int .u64 s'.old, .int .u64 s'.new]) ∧ (Q w' ∧ Yard w' ab sb sm rb P T s') ∧ Only (fun j => SB sb sm j ∨ M j) w w' :=
  deskStep_live h h0 h1 hY.ar (hst.and (fun _ _ ho h => Yard.dids h ho)) (fun j hj => hj.elim (fun e => e.elim (fun e => e ▸ hY.st.head.lt) (fun e => e ▸ hY.st.row.lt)) (fun e => (hM j e).1)) (enters_of Tryz.func101 (by kernel_rfl) rfl)
    (fun w1 ho => put1_any (hY.adds ho) (hC.only ho (fun _ _ _ => id)) hbig hc hst (fun j e => ⟨Nat.lt_of_lt_of_le (hM j e).1 ho.size, (hM j e).2⟩) eg (fun w2 ho2 hy2 => hT w2 ((ho.mono (fun _ _ e => e.elim)).trans ho2) hy2))
theorem Blk.multi' {w : World} {m b : Nat} {c : Array Value} {x : Value} {t u : TypeId} (h : Blk w m c t) (hc : c.size ≠ 1) (hb : Blk w b #[x] u) : ¬ b = m := by
  rintro rfl
  exact hc (by rw [← (hb.uniq h).1]; rfl)
/-- What comes next: an access, and what then; or nothing. -/
inductive DK where
  | load (at_ : Int) (thn : Value)
  | put (at_ v : Int) (thn : Value)
  | add (at_ v : Int) (thn : Value)
  | cas (at_ o v : Int) (thn : Value)
  | done
/-- Block mb is a machine whose desk has k next; c: its cells, but for the third. -/
def Desk (w : World) (mb : Nat) (c : Value → Array Value) (t : TypeId) : DK → Prop
  | .load at_ thn => ∃ n, Blk w mb (c (loadF n)) t ∧ HasLoad w n at_ thn
  | .put at_ v thn => ∃ n, Blk w mb (c (putF n)) t ∧ HasPut w n at_ v thn
  | .add _ _ _ => False
  | .cas at_ o v thn => ∃ n, Blk w mb (c (casF n)) t ∧ HasCas w n at_ o v thn
  | .done => Blk w mb (c .nilFunc) t
section
variable {w w' : World} {mb : Nat} {c : Value → Array Value} {t : TypeId} {k : DK}
theorem Desk.only {S : Nat → Prop} (h : Desk w mb c t k) (ho : Only S w w') (hm : ¬ S mb) (hs : ∀ b x t, Blk w b #[x] t → ¬ S b) : Desk w' mb c t k := by
  cases k with
  | load at_ thn => obtain ⟨n, h1, h2⟩ := h; exact ⟨n, h1.only ho hm, h2.b0.only ho (hs _ _ _ h2.b0), h2.b1.only ho (hs _ _ _ h2.b1)⟩
  | put at_ v thn => obtain ⟨n, h1, h2⟩ := h; exact ⟨n, h1.only ho hm, h2.b0.only ho (hs _ _ _ h2.b0), h2.b1.only ho (hs _ _ _ h2.b1), h2.b2.only ho (hs _ _ _ h2.b2)⟩
  | add at_ v thn => exact False.elim h
  | cas at_ o v thn => obtain ⟨n, h1, h2⟩ := h; exact ⟨n, h1.only ho hm, h2.b0.only ho (hs _ _ _ h2.b0), h2.b1.only ho (hs _ _ _ h2.b1), h2.b2.only ho (hs _ _ _ h2.b2), h2.b3.only ho (hs _ _ _ h2.b3)⟩
  | done => exact Blk.only h ho hm
theorem Desk.adds (h : Desk w mb c t k) (ho : Adds w w') : Desk w' mb c t k := h.only ho id (fun _ _ _ _ => id)
theorem Desk.stays (mb : Nat) (c : Value → Array Value) (t : TypeId) (k : DK) (ht : t ≠ 50) : Stays (fun w => Desk w mb c t k) := fun _ _ ho h => by
  cases k with
  | load at_ thn => obtain ⟨n, h1, h2⟩ := h; exact ⟨n, h1.dids ho ht, h2.dids ho⟩
  | put at_ v thn => obtain ⟨n, h1, h2⟩ := h; exact ⟨n, h1.dids ho ht, h2.dids ho⟩
  | add at_ v thn => exact False.elim h
  | cas at_ o v thn => obtain ⟨n, h1, h2⟩ := h; exact ⟨n, h1.dids ho ht, h2.dids ho⟩
  | done => exact Blk.dids h ho ht
theorem Desk.blk (h : Desk w mb c t k) : ∃ nx, Blk w mb (c nx) t ∧ (k ≠ .done → ∃ fn f q, nx = .func fn f q) := by
  cases k with
  | load at_ thn => obtain ⟨n, h1, h2⟩ := h; exact ⟨_, h1, fun _ => ⟨_, _, _, rfl⟩⟩
  | put at_ v thn => obtain ⟨n, h1, h2⟩ := h; exact ⟨_, h1, fun _ => ⟨_, _, _, rfl⟩⟩
  | add at_ v thn => exact False.elim h
  | cas at_ o v thn => obtain ⟨n, h1, h2⟩ := h; exact ⟨_, h1, fun _ => ⟨_, _, _, rfl⟩⟩
  | done => exact ⟨_, h, fun e => absurd rfl e⟩
end
/-- The cells of a machine: its layout, what it has next, the others. -/
structure Cells (c : Value → Array Value) (P T : Int) : Prop where
  c0 : ∀ nx, (c nx)[0]? = some (.int .i64 P)
  c1 : ∀ nx, (c nx)[1]? = some (.int .i64 T)
  c2 : ∀ nx, (c nx)[2]? = some nx
  set2 : ∀ nx v, (c nx).setIfInBounds 2 v = c v
theorem Cells.big {c : Value → Array Value} {P T : Int} (h : Cells c P T) (nx : Value) : 2 < (c nx).size := by
  have := h.c2 nx
  rcases Nat.lt_or_ge 2 (c nx).size with h1 | h1
  · exact h1
  · rw [Array.getElem?_eq_none h1] at this; cases this
theorem deskCells3 (P T : Int) : Cells (fun nx => #[.int .i64 P, .int .i64 T, nx]) P T := ⟨fun _ => rfl, fun _ => rfl, fun _ => rfl, fun _ _ => rfl⟩
theorem deskCells4 (P T : Int) (x : Value) : Cells (fun nx => #[.int .i64 P, .int .i64 T, nx, x]) P T := ⟨fun _ => rfl, fun _ => rfl, fun _ => rfl, fun _ _ => rfl⟩
section
variable {w : World} {mb ab sb sm rb : Nat} {P T : Int} {c : Value → Array Value} {t : TypeId} {k : DK}
/-- Not in an arena: nothing. -/
theorem Desk.inNone (hc : Cells c P T) (h : Desk w mb c t k) (hk : k ≠ .done) :
    Calls Tryz.prog 27 #[.pointer (some ⟨mb, 0, none⟩), .pointer none] w fun e w' => e = .returned (.agg #[.int .i64 0, .int .i64 0, .int .u64 0, .int .u64 0]) ∧ True ∧ Only (fun _ => False) w w' := by
  obtain ⟨nx, hb, hl⟩ := h.blk
  obtain ⟨fn, f, q, rfl⟩ := hl hk
  exact (deskStep_nilA ((hb.cell 2).trans (hc.c2 _))).mono (fun _ _ h => ⟨h.1, trivial, h.2⟩)
theorem Desk.inOther {P' T' : Int} (hc : Cells c P T) (h : Desk w mb c t k) (hk : k ≠ .done) (hA : IsArena w ab sb rb P' T') (hne : (P' == P && T' == T) = false) :
    Calls Tryz.prog 27 #[.pointer (some ⟨mb, 0, none⟩), .pointer (some ⟨ab, 0, none⟩)] w fun e w' => e = .returned (.agg #[.int .i64 0, .int .i64 0, .int .u64 0, .int .u64 0]) ∧ True ∧ Only (fun _ => False) w w' := by
  obtain ⟨nx, hb, hl⟩ := h.blk
  obtain ⟨fn, f, q, rfl⟩ := hl hk
  exact (deskStep_other ((hb.cell 2).trans (hc.c2 _)) ((hb.cell 0).trans (hc.c0 _)) ((hb.cell 1).trans (hc.c1 _)) hA hne).mono (fun _ _ h => ⟨h.1, trivial, h.2⟩)
end
/-- The type of a machine is none of the arena's. -/
def MachT (t : TypeId) : Prop := t ≠ 118 ∧ t ≠ 48 ∧ t ≠ 115 ∧ t ≠ 50
instance (t : TypeId) : Decidable (MachT t) := inferInstanceAs (Decidable (_ ∧ _))
section
variable {w : World} {mb ab sb sm rb : Nat} {P T : Int} {s : StoreS} {c : Value → Array Value} {t : TypeId} {K : Nat} {f1 cap : Array Value} {Q : World → Prop}
/-- A step that is a load: what then turns nothing but the machine. -/
theorem Desk.stepLoad {at_ : Int} (hc : Cells c P T) (ht : MachT t) (h : Desk w mb c t (.load at_ (.func (.func K) f1 cap))) (hY : Yard w ab sb sm rb P T s) (hbig : 1 < s.ws.length) (hi : s.inR at_) (hst : Stays Q) (eg : Enters Tryz.prog K)
    (hT : ∀ w1 nx, (∀ (b : Nat) (x : Value) (u : TypeId), Blk w b #[x] u → Blk w1 b #[x] u) → Blk w1 mb (c nx) t → Desk w1 mb c t (.load at_ (.func (.func K) f1 cap)) → Calls Tryz.prog K (f1 ++ #[.int .u64 (s.word at_)] ++ cap) w1 fun e w2 => e = .returned (.tuple #[]) ∧ Q w2 ∧ Only (· = mb) w1 w2) :
    Calls Tryz.prog 27 #[.pointer (some ⟨mb, 0, none⟩), .pointer (some ⟨ab, 0, none⟩)] w fun e w' =>
      e = .returned (.agg #[.int .i64 1, .int .i64 at_, .int .u64 (s.word at_), .int .u64 (s.word at_)]) ∧ (Q w' ∧ Yard w' ab sb sm rb P T (s.acc 1 at_ (s.word at_))) ∧ Only (fun j => SB sb sm j ∨ j = mb) w w' := by
  have H := h
  obtain ⟨n, h1, h2⟩ := h
  have hmb := hY.mach h1 ht.1 ht.2.1 ht.2.2.1
  exact Go.Proofs.YthhnpcniijpfeaaGreat.stepLoad (s' := s.acc 1 at_ (s.word at_)) (n := n) ((h1.cell 2).trans (hc.c2 _)) ((h1.cell 0).trans (hc.c0 _)) ((h1.cell 1).trans (hc.c1 _)) hY h2 hbig
    (fun W hs => load_in sb sm at_ s W hs hi) hst (M := (· = mb)) (fun j e => by subst e; exact ⟨h1.lt, hmb⟩) eg
    (fun w1 ho _ => hT w1 _ (fun b x u hb => hb.only ho (hY.multi hbig hb)) (h1.only ho (fun e => e.elim hmb.2.1 hmb.2.2)) (H.only ho (fun e => e.elim hmb.2.1 hmb.2.2) (fun b x u hb => hY.multi hbig hb)))
theorem Desk.stepPut {at_ v : Int} (hc : Cells c P T) (ht : MachT t) (h : Desk w mb c t (.put at_ v (.func (.func K) f1 cap))) (hY : Yard w ab sb sm rb P T s) (hbig : 1 < s.ws.length) (hi : s.inR at_) (hv : 0 ≤ v ∧ v < 18446744073709551616) (hst : Stays Q) (eg : Enters Tryz.prog K)
    (hT : ∀ w1 nx, (∀ (b : Nat) (x : Value) (u : TypeId), Blk w b #[x] u → Blk w1 b #[x] u) → Blk w1 mb (c nx) t → Calls Tryz.prog K (f1 ++ #[] ++ cap) w1 fun e w2 => e = .returned (.tuple #[]) ∧ Q w2 ∧ Only (· = mb) w1 w2) :
    Calls Tryz.prog 27 #[.pointer (some ⟨mb, 0, none⟩), .pointer (some ⟨ab, 0, none⟩)] w fun e w' =>
      e = .returned (.agg #[.int .i64 2, .int .i64 at_, .int .u64 (s.word at_), .int .u64 v]) ∧ (Q w' ∧ Yard w' ab sb sm rb P T (s.acc 2 at_ v)) ∧ Only (fun j => SB sb sm j ∨ j = mb) w w' := by
  obtain ⟨n, h1, h2⟩ := h
  have hmb := hY.mach h1 ht.1 ht.2.1 ht.2.2.1
  exact Go.Proofs.YthhnpcniijpfeaaGreat.stepPut (s' := s.acc 2 at_ v) (n := n) ((h1.cell 2).trans (hc.c2 _)) ((h1.cell 0).trans (hc.c0 _)) ((h1.cell 1).trans (hc.c1 _)) hY h2 hbig
    (fun W hs => put_in sb sm at_ v s W hs hi hv.1 hv.2) hst (M := (· = mb)) (fun j e => by subst e; exact ⟨h1.lt, hmb⟩) eg
    (fun w1 ho _ => hT w1 _ (fun b x u hb => hb.only ho (hY.multi hbig hb)) (h1.only ho (fun e => e.elim hmb.2.1 hmb.2.2)))
theorem Desk.stepCasWin {at_ o v : Int} (hc : Cells c P T) (ht : MachT t) (h : Desk w mb c t (.cas at_ o v (.func (.func K) f1 cap))) (hY : Yard w ab sb sm rb P T s) (hbig : 1 < s.ws.length) (hi : s.inR at_) (hw : s.word at_ = o) (hv : 0 ≤ v ∧ v < 18446744073709551616) (hst : Stays Q) (eg : Enters Tryz.prog K)
    (hT : ∀ w1 nx, (∀ (b : Nat) (x : Value) (u : TypeId), Blk w b #[x] u → Blk w1 b #[x] u) → Blk w1 mb (c nx) t → Calls Tryz.prog K (f1 ++ #[.bool true] ++ cap) w1 fun e w2 => e = .returned (.tuple #[]) ∧ Q w2 ∧ Only (· = mb) w1 w2) :
    Calls Tryz.prog 27 #[.pointer (some ⟨mb, 0, none⟩), .pointer (some ⟨ab, 0, none⟩)] w fun e w' =>
      e = .returned (.agg #[.int .i64 3, .int .i64 at_, .int .u64 (s.word at_), .int .u64 v]) ∧ (Q w' ∧ Yard w' ab sb sm rb P T (s.acc 3 at_ v)) ∧ Only (fun j => SB sb sm j ∨ j = mb) w w' := by
  obtain ⟨n, h1, h2⟩ := h
  have hmb := hY.mach h1 ht.1 ht.2.1 ht.2.2.1
  exact Go.Proofs.YthhnpcniijpfeaaGreat.stepCas (s' := s.acc 3 at_ v) (er := 0) (won := true) (n := n) ((h1.cell 2).trans (hc.c2 _)) ((h1.cell 0).trans (hc.c0 _)) ((h1.cell 1).trans (hc.c1 _)) hY h2 hbig
    (fun W hs => cas_win sb sm at_ o v s W hs hi (by simp [hw]) hv.1 hv.2) rfl hst (M := (· = mb)) (fun j e => by subst e; exact ⟨h1.lt, hmb⟩) eg
    (fun w1 ho _ => hT w1 _ (fun b x u hb => hb.only ho (hY.multi hbig hb)) (h1.only ho (fun e => e.elim hmb.2.1 hmb.2.2)))
theorem Desk.stepCasLost {at_ o v : Int} (hc : Cells c P T) (ht : MachT t) (h : Desk w mb c t (.cas at_ o v (.func (.func K) f1 cap))) (hY : Yard w ab sb sm rb P T s) (hbig : 1 < s.ws.length) (hi : s.inR at_) (hw : s.word at_ ≠ o) (hst : Stays Q) (eg : Enters Tryz.prog K)
    (hT : ∀ w1 nx, (∀ (b : Nat) (x : Value) (u : TypeId), Blk w b #[x] u → Blk w1 b #[x] u) → Blk w1 mb (c nx) t → Desk w1 mb c t (.cas at_ o v (.func (.func K) f1 cap)) → Calls Tryz.prog K (f1 ++ #[.bool false] ++ cap) w1 fun e w2 => e = .returned (.tuple #[]) ∧ Q w2 ∧ Only (· = mb) w1 w2) :
    Calls Tryz.prog 27 #[.pointer (some ⟨mb, 0, none⟩), .pointer (some ⟨ab, 0, none⟩)] w fun e w' =>
      e = .returned (.agg #[.int .i64 4, .int .i64 at_, .int .u64 (s.word at_), .int .u64 (s.word at_)]) ∧ (Q w' ∧ Yard w' ab sb sm rb P T (s.acc 4 at_ (s.word at_))) ∧ Only (fun j => SB sb sm j ∨ j = mb) w w' := by
  have H := h
  obtain ⟨n, h1, h2⟩ := h
  have hmb := hY.mach h1 ht.1 ht.2.1 ht.2.2.1
  exact Go.Proofs.YthhnpcniijpfeaaGreat.stepCas (s' := s.acc 4 at_ (s.word at_)) (er := 5) (won := false) (n := n) ((h1.cell 2).trans (hc.c2 _)) ((h1.cell 0).trans (hc.c0 _)) ((h1.cell 1).trans (hc.c1 _)) hY h2 hbig
    (fun W hs => cas_lost sb sm at_ o v s W hs hi (by simpa using hw)) rfl hst (M := (· = mb)) (fun j e => by subst e; exact ⟨h1.lt, hmb⟩) eg
    (fun w1 ho _ => hT w1 _ (fun b x u hb => hb.only ho (hY.multi hbig hb)) (h1.only ho (fun e => e.elim hmb.2.1 hmb.2.2)) (H.only ho (fun e => e.elim hmb.2.1 hmb.2.2) (fun b x u hb => hY.multi hbig hb)))
end
end Go.Proofs.YthhnpcniijpfeaaGreat

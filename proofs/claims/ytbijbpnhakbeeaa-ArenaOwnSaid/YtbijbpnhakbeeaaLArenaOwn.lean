/- ArenaOwn: its walk. By an AI agent. -/
import Derived.Test.YtbijbpnhakbeeaaArenaD
namespace Go.Proofs.Ytbijbpnhakbeeaa
open Go.RowKit
set_option maxHeartbeats 400000 in
theorem arenaGenD_any {w : World} {ab sb rb sm : Nat} {P T : Int} {s : StoreS} (h : IsArena w ab sb rb P T) (hs : IsStore w sb sm s) (hi : s.inR 0) (hb : s.word 0 < 9223372036854775808) : Calls Try.prog 16 #[.pointer (some ⟨ab, 0, none⟩)] w fun e w' => e = .returned (.int .i64 (s.word 0)) ∧ w = w' := by
  have c2 := h.head.cell 2
  have hw := StoreS.word_bd hs.fit 0
  clear h
  go_enter Try.func16, Try.ntmps16
  go_wp2_with (go_at_call 53; refine (peek_in _ _ 0 _ _ hs hi).mono ?_; rintro e w1 ⟨rfl, rfl⟩)
  go_ret
  exact ⟨by first | rfl | simp, rfl⟩
theorem begun_last (n : Nat) (h : 2 ≤ n) : (StoreS.begun n 0 1).word ((n : Int) - 1) = 0 := by
  simp only [StoreS.word, StoreS.begun, StoreS.fresh]
  have h1 : ((n : Int) - 1).toNat = n - 1 := by omega
  rw [h1, List.getD_eq_getElem?_getD, List.getElem?_set_ne (by omega)]
  simp only [List.getElem?_replicate]
  split <;> rfl
theorem begun_first (n : Nat) (h : 1 ≤ n) : (StoreS.begun n 0 1).word 0 = 1 := by
  simp only [StoreS.word, StoreS.begun, StoreS.fresh]
  rw [List.getD_eq_getElem?_getD, show (0 : Int).toNat = 0 from rfl, List.getElem?_set_self (by simp; omega)]
  rfl
/-- An arena: its head, its store, its runs, apart. -/
structure AR (w : World) (ab sb sm : Nat) (S : StoreS) (s : RS) (P T : Int) : Prop where
  ar : IsArena w ab sb s.rb P T
  st : IsStore w sb sm S
  rs : IsRuns w s
  ap : ¬ s.all ab ∧ ¬ s.all sb ∧ ¬ s.all sm ∧ ab ≠ sb ∧ ab ≠ sm
def AB (ab sb sm : Nat) (s : RS) (y : Nat) : Prop := y = ab ∨ y = sb ∨ y = sm ∨ s.all y
section
variable {w w' : World} {ab sb sm : Nat} {S S' : StoreS} {s s' : RS} {P T : Int}
theorem AR.only {X : Nat → Prop} (h : AR w ab sb sm S s P T) (ho : Only X w w') (hs : ∀ y, AB ab sb sm s y → ¬ X y) : AR w' ab sb sm S s P T :=
  ⟨h.ar.only ho (hs _ (.inl rfl)), h.st.only ho (hs _ (.inr (.inl rfl))) (hs _ (.inr (.inr (.inl rfl)))), h.rs.only ho (fun y hy => hs y (.inr (.inr (.inr hy)))), h.ap⟩
theorem AR.adds (h : AR w ab sb sm S s P T) (ho : Adds w w') : AR w' ab sb sm S s P T := h.only ho (fun _ _ => id)
theorem AR.store (h : AR w ab sb sm S s P T) (hs : IsStore w' sb sm S') (ho : Only (SB sb sm) w w') : AR w' ab sb sm S' s P T :=
  ⟨h.ar.only ho (fun e => e.elim h.ap.2.2.2.1 h.ap.2.2.2.2), hs, h.rs.only ho (fun y hy e => e.elim (fun e => h.ap.2.1 (e ▸ hy)) (fun e => h.ap.2.2.1 (e ▸ hy))), h.ap⟩
theorem AR.lt (h : AR w ab sb sm S s P T) : ∀ y, AB ab sb sm s y → y < w.heap.size := by
  rintro y (rfl | rfl | rfl | hy)
  · exact h.ar.head.lt
  · exact h.st.head.lt
  · exact h.st.row.lt
  · exact h.rs.lt y hy
theorem AR.runs (h : AR w ab sb sm S s P T) (hi : IsRuns w' s') (m : Moves s s' w w') : AR w' ab sb sm S s' P T := by
  have hn : ∀ y, y < w.heap.size → ¬ s.all y → ¬ s'.all y := fun y hy h1 h2 => (m.all y h2).elim h1 (fun h3 => by omega)
  have l1 := h.lt _ (.inl rfl); have l2 := h.lt _ (.inr (.inl rfl)); have l3 := h.lt _ (.inr (.inr (.inl rfl)))
  refine ⟨?_, h.st.only m.only (fun e => h.ap.2.1 (.inl e)) (fun e => h.ap.2.2.1 (.inl e)), hi, hn _ l1 h.ap.1, hn _ l2 h.ap.2.1, hn _ l3 h.ap.2.2.1, h.ap.2.2.2⟩
  have := h.ar.only m.only (fun e => h.ap.1 (.inl e))
  exact ⟨by rw [m.rb]; exact this.head⟩
end
set_option maxRecDepth 100000 in
set_option maxHeartbeats 4000000 in
theorem awake11D_any (w : World) : Calls Try.prog 14 #[] w fun e w' => e = .returned (.bool true) ∧ Adds w w' := by
  have hw : Lay.words 1 1 = 90 := by decide
  have hl : (StoreS.begun 90 0 1).ws.length = 90 := by simp [StoreS.begun, StoreS.fresh]
  have hi : (StoreS.begun 90 0 1).inR 0 := ⟨by omega, by rw [hl]; omega⟩
  have hwd : (StoreS.begun 90 0 1).word 0 = 1 := by decide
  have HL := Lib.hid hl; have HI := Lib.hid hi; have HW := Lib.hid hwd; have HWW := Lib.hid hw
  clear hw hl hi hwd
  go_enter Try.func14, Try.ntmps14
  go_wp2_with fail
  refine (arenaNewD_ok 1 1 none 0 0 [] _ (.inl ⟨rfl, rfl⟩) (by simp) (by decide)).mono ?_
  rintro e w1 ⟨ab, sb, sm, s, rfl, ha, hs, hr, hn, ho, -, -⟩
  rw [HWW.out, show (90 : Int).toNat = 90 from rfl] at hs
  have hxs : s.xs = [(0, 1)] := hn.exs
  have HAr := Lib.hid ha; have HS := Lib.hid hs; have HR := Lib.hid hr; have HO := Lib.hid ho
  clear ha hs hr ho hn
  go_wp2_with fail
  refine (arenaGenD_any HAr.out HS.out HI.out (by rw [HW.out]; omega)).mono ?_
  rintro e w2 ⟨rfl, rfl⟩
  rw [HW.out]
  go_wp2_with fail
  refine (arenaStore_any HAr.out).mono ?_
  rintro e w2 ⟨rfl, rfl⟩
  go_wp2_with fail
  refine (storeLen_any _ _ _ _ HS.out).mono ?_
  rintro e w2 ⟨rfl, rfl⟩
  rw [HL.out]
  go_wp2_with fail
  refine (arenaRuns_any HAr.out).mono ?_
  rintro e w2 ⟨rfl, rfl⟩
  go_wp2_with fail
  refine (list_any HR.out).mono ?_
  rintro e w3 ⟨lv, rfl, hrow, ho3⟩
  rw [hxs] at hrow
  have hna := (NodesAt.of_owns (xs := [(0, 1)]) hrow).adds ((Only.refl (fun _ => False) w3).alloc (.cells #[.int .i64 0, .int .i64 1] 63))
  have hbl := Blk.new w3 #[.int .i64 0, .int .i64 1] 63
  have hnb : NodesAt (w3.alloc (.cells #[.int .i64 0, .int .i64 1] 63)) (.slice (some ⟨w3.heap.size, 0, none⟩) 1 1) [(0, 1)] := by
    refine ⟨_, 1, rfl, fun i x hx => ⟨w3.heap.size, 0, rfl, ?_⟩⟩
    match i, hx with
    | 0, hx => simp at hx; subst hx; exact ⟨hbl.cell 0, hbl.cell 1⟩
  have HSR := Lib.hid (sameRuns_any lv _ _ _ _ hna hnb (by simp) (by simp))
  have HO3 := Lib.hid (HO.out.thenF ho3)
  clear hna hbl hnb hrow ho3
  go_wp2_with fail
  refine HSR.out.mono ?_
  rintro e w4 ⟨rfl, q, rfl⟩
  go_wp2_with fail
  go_ret
  exact ⟨rfl, (HO3.out.alloc _).drewN q⟩
set_option maxRecDepth 100000 in
set_option maxHeartbeats 8000000 in
theorem arenaOwn_law (p : Int) (w0 : (Lit.int .u8 p).wf = true) (t : Int) (w1 : (Lit.int .u8 t).wf = true) (g : Int) (w2 : (Lit.int .u64 g).wf = true) (v : Int) (w3 : (Lit.int .u64 v).wf = true) (k : Int) (w4 : (Lit.int .u8 k).wf = true) (w : World) :
    Calls Try.prog 11 #[.int .u8 p, .int .u8 t, .int .u64 g, .int .u64 v, .int .u8 k] w fun e w' => e = .returned (.bool true) ∧ Below w.heap.size w w' := by
  obtain ⟨p0, p1⟩ := bd_u8 w0
  obtain ⟨t0, t1⟩ := bd_u8 w1
  obtain ⟨g0, g1⟩ := bd_u64 w2
  obtain ⟨v0, v1⟩ := bd_u64 w3
  obtain ⟨k0, k1⟩ := bd_u8 w4
  obtain ⟨P, hP⟩ : ∃ P, 1 + p % 100 = P := ⟨_, rfl⟩
  obtain ⟨T, hT⟩ : ∃ T, 1 + t % 8 = T := ⟨_, rfl⟩
  have hP1 : 1 ≤ P ∧ P ≤ 100 := by omega
  have hT1 : 1 ≤ T ∧ T ≤ 8 := by omega
  have hmay : Lay.may P T = true := Lay.may_iff.2 ⟨by omega, by omega, by omega, by omega⟩
  obtain ⟨d1, d2⟩ := words_bd hmay
  have HM := Lib.hid hmay
  clear w0 w1 w2 w3 w4 hmay
  obtain ⟨N, hN⟩ : ∃ N, (Lay.words P T).toNat = N := ⟨_, rfl⟩
  have hNb : 90 ≤ N ∧ N ≤ 65536 := by omega
  obtain ⟨G, hG⟩ : ∃ G, 1 + g % 2147483648 = G := ⟨_, rfl⟩
  have hG1 : 1 ≤ G ∧ G ≤ 2147483648 := by omega
  obtain ⟨q, hq⟩ : ∃ q, k % P = q := ⟨_, rfl⟩
  have hq1 : 0 ≤ q ∧ q < P := by have := Int.emod_nonneg k (show P ≠ 0 by omega); have := Int.emod_lt_of_pos k (show 0 < P by omega); omega
  go_enter Try.func11, Try.ntmps11
  go_wp2_with fail
  obtain ⟨B, hB⟩ : ∃ B, w.heap.size = B := ⟨_, rfl⟩
  obtain ⟨W, hW⟩ : ∃ W, w.alloc (.cells #[.int .i64 P, .int .i64 T, .slice none 0 0] 24) = W := ⟨_, rfl⟩
  have hbx : Blk W B #[.int .i64 P, .int .i64 T, .slice none 0 0] 24 := by rw [← hW, ← hB]; exact Blk.new w _ _
  have hO0 : Adds w W := by rw [← hW]; exact (Only.refl _ w).alloc _
  have HBX := Lib.hid hbx; have HO := Lib.hid hO0
  have y0 : W.cell? ⟨B, 0, none⟩ = some (.int .i64 P) := hbx.cell 0
  have y1 : W.cell? ⟨B, 1, none⟩ = some (.int .i64 T) := hbx.cell 1
  have y2 : W.cell? ⟨B, 2, none⟩ = some (.slice none 0 0) := hbx.cell 2
  clear hbx hO0
  rw [hW, hB]
  clear hW hB
  refine wp_region_held_drew (S := (fun W' => W'.cell? ⟨B, 0, none⟩ = some (.int .i64 P) ∧ W'.cell? ⟨B, 1, none⟩ = some (.int .i64 T) ∧ W'.cell? ⟨B, 2, none⟩ = some (.slice none 0 0))) (by kernel_rfl) ⟨y0, y1, y2⟩ (fun hHeld => ?_)
  refine wpAnyH_take (i := 0) (v := (.agg #[.int .i64 P, .int .i64 T, .slice none 0 0])) rfl (by kernel_rfl) (by kernel_rfl) (by kernel_rfl) (fun _ _ _ h => h) (Or.inl ⟨by rfl, fun W hS => by (obtain ⟨z1, z2, z3⟩ := hS; go_simp; done)⟩) hHeld ?_
  try simp only [Act.put, List.getElem_toArray, List.getElem_cons_succ, List.getElem_cons_zero, List.setIfInBounds_toArray, List.set_cons_zero, List.set_cons_succ]
  refine wpAnyH_take (i := 2) (v := (.agg #[.int .i64 P, .int .i64 T, .slice none 0 0])) rfl (by kernel_rfl) (by kernel_rfl) (by kernel_rfl) (fun _ _ _ h => h) (Or.inl ⟨by rfl, fun W hS => by (obtain ⟨z1, z2, z3⟩ := hS; go_simp; done)⟩) hHeld ?_
  try simp only [Act.put, List.getElem_toArray, List.getElem_cons_succ, List.getElem_cons_zero, List.setIfInBounds_toArray, List.set_cons_zero, List.set_cons_succ]
  refine wpAnyH_ready (rs := [1]) (by kernel_rfl) (by simp) (AllReadyH.cons rfl (fun K hK => ?_) AllReadyH.nil)
  simp only [List.getElem_toArray, List.getElem_cons_succ, List.getElem_cons_zero]
  go_simp
  refine (arenaNewD_ok P T none 0 0 [] _ (.inl ⟨rfl, rfl⟩) (by simp) HM.out).mono ?_
  rintro e w1 ⟨aa, sa, ma, s, rfl, ha, hsa, hra, hna, hoa, hfa, hpa⟩
  refine hK.out _ _ ⟨cell_al hHeld.1 hoa, cell_al hHeld.2.1 hoa, cell_al hHeld.2.2 hoa⟩ (fun hHeld => ?_)
  clear hK K
  try simp only [Act.put, List.getElem_toArray, List.getElem_cons_succ, List.getElem_cons_zero, List.setIfInBounds_toArray, List.set_cons_zero, List.set_cons_succ]
  refine wpAnyH_ready (rs := [3]) (by kernel_rfl) (by simp) (AllReadyH.cons rfl (fun K hK => ?_) AllReadyH.nil)
  simp only [List.getElem_toArray, List.getElem_cons_succ, List.getElem_cons_zero]
  go_simp
  refine (arenaNewD_ok P T none 0 0 [] _ (.inl ⟨rfl, rfl⟩) (by simp) HM.out).mono ?_
  rintro e w2 ⟨ab, sb, mb, s', rfl, hb, hsb, hrb, hnb, hob, hfb, hpb⟩
  refine hK.out _ _ ⟨cell_al hHeld.1 hob, cell_al hHeld.2.1 hob, cell_al hHeld.2.2 hob⟩ (fun hHeld => ?_)
  clear hK K
  try simp only [Act.put, List.getElem_toArray, List.getElem_cons_succ, List.getElem_cons_zero, List.setIfInBounds_toArray, List.set_cons_zero, List.set_cons_succ]
  refine wpAnyH_take (i := 4) (v := (.pointer (some ⟨aa, 0, none⟩))) rfl (by kernel_rfl) (by kernel_rfl) (by kernel_rfl) (fun _ _ _ h => h) (Or.inl ⟨by rfl, fun W hS => by first | rfl | (go_simp; done)⟩) hHeld ?_
  try simp only [Act.put, List.getElem_toArray, List.getElem_cons_succ, List.getElem_cons_zero, List.setIfInBounds_toArray, List.set_cons_zero, List.set_cons_succ]
  refine wpAnyH_take (i := 5) (v := (.pointer (some ⟨ab, 0, none⟩))) rfl (by kernel_rfl) (by kernel_rfl) (by kernel_rfl) (fun _ _ _ h => h) (Or.inl ⟨by rfl, fun W hS => by first | rfl | (go_simp; done)⟩) hHeld ?_
  try simp only [Act.put, List.getElem_toArray, List.getElem_cons_succ, List.getElem_cons_zero, List.setIfInBounds_toArray, List.set_cons_zero, List.set_cons_succ]
  refine wpAnyH_done (by kernel_rfl) ?_ _
  rw [hN] at hsa hsb
  have hA1 : AR w1 aa sa ma (StoreS.begun N 0 1) s P T := ⟨ha, hsa, hra, hpa⟩
  have hA := hA1.adds hob
  have hBB : AR w2 ab sb mb (StoreS.begun N 0 1) s' P T := ⟨hb, hsb, hrb, hpb⟩
  have hd : ∀ y, AB aa sa ma s y → ¬ AB ab sb mb s' y := fun y hy hy2 => by
    have h5 := hA1.lt y hy
    rcases hy2 with rfl | rfl | rfl | hy2
    · omega
    · omega
    · omega
    · have := hfb.2.2.2 y hy2; omega
  have hnw : ∀ y, AB aa sa ma s y → w.heap.size ≤ y := fun y hy => by
    have h5 := HO.out.size
    have h6 : W.drew.heap.size = W.heap.size := rfl
    rcases hy with rfl | rfl | rfl | hy
    · omega
    · omega
    · omega
    · have := hfa.2.2.2 y hy; omega
  have hnwb : ∀ y, AB ab sb mb s' y → w.heap.size ≤ y := fun y hy => by
    have h5 := HO.out.size
    have h7 := hoa.size
    have h6 : W.drew.heap.size = W.heap.size := rfl
    rcases hy with rfl | rfl | rfl | hy
    · omega
    · omega
    · omega
    · have := hfb.2.2.2 y hy; omega
  have HNB := Lib.hid hnwb
  have hO2 : Adds w w2 := (HO.out.thenF ((show Adds W W.drew from (Only.refl _ W).drew).thenF hoa)).thenF hob
  have hBX2 := HBX.out.only (((show Adds W W.drew from (Only.refl _ W).drew).thenF hoa).thenF hob) id
  have hBn : ¬ AB aa sa ma s B := fun hy => by
    have h5 := HBX.out.lt
    have h6 : W.drew.heap.size = W.heap.size := rfl
    rcases hy with e | e | e | hy
    · omega
    · omega
    · omega
    · have := hfa.2.2.2 _ hy; omega
  have hBn2 : ¬ AB ab sb mb s' B := fun hy => by
    have h5 := HBX.out.lt
    have h6 : W.drew.heap.size = W.heap.size := rfl
    have h7 := hoa.size
    rcases hy with e | e | e | hy
    · omega
    · omega
    · omega
    · have := hfb.2.2.2 _ hy; omega
  have hxa : s.xs = [(0, P)] := hna.exs
  have hda : s.dn = 1 := hna.edn
  have hxb : s'.xs = [(0, P)] := hnb.exs
  have hl : (StoreS.begun N 0 1).ws.length = N := by simp [StoreS.begun, StoreS.fresh]
  have hi0 : (StoreS.begun N 0 1).inR 0 := ⟨by omega, by rw [hl]; omega⟩
  have hin : (StoreS.begun N 0 1).inR ((N : Int) - 1) := ⟨by omega, by rw [hl]; omega⟩
  have HA := Lib.hid hA; have HB := Lib.hid hBB; have HD := Lib.hid hd; have HNW := Lib.hid hnw; have HO2 := Lib.hid hO2; have HBX2 := Lib.hid hBX2; have HBN := Lib.hid (And.intro hBn hBn2)
  have HL := Lib.hid hl; have HI0 := Lib.hid hi0; have HIN := Lib.hid hin
  clear hnwb ha hsa hra hna hoa hfa hpa hb hsb hrb hnb hob hfb hpb hA1 hA hBB hd hnw hO2 hBX2 hBn hBn2 hl hi0 hin y0 y1 y2 hHeld
  go_wp2_with (first
    | (go_at_call 18; refine (arenaStore_any HA.out.ar).mono ?_; rintro e w3 ⟨rfl, rfl⟩)
    | (go_at_call 22; refine (arenaRuns_any HA.out.ar).mono ?_; rintro e w3 ⟨rfl, rfl⟩)
    | (go_at_call 44; refine (storeLen_any _ _ _ _ HA.out.st).mono ?_; rintro e w3 ⟨rfl, rfl⟩; rw [HL.out]))
  refine (put_in sa ma 0 G _ w2 HA.out.st HI0.out (by omega) (by omega)).mono ?_
  rintro e w3 ⟨rfl, hs3, ho3⟩
  have HA3 := Lib.hid (HA.out.store hs3 ho3)
  have HM3 := Lib.hid (ho3.mono (T := AB aa sa ma s) (fun y _ hy => by rcases hy with e | e; exact .inr (.inl e); exact .inr (.inr (.inl e))))
  clear hs3 ho3
  have hw1 : wrap64 ((N : Int) - 1) = (N : Int) - 1 := wrap64_ok _ (by omega) (by omega)
  have hw1' : IntKind.i64.wrap ((N : Int) - 1) = (N : Int) - 1 := wrap_ok _ (by omega) (by omega)
  go_wp2_with (go_at_call 18; refine (arenaStore_any HA3.out.ar).mono ?_; rintro e w3' ⟨rfl, rfl⟩)
  refine (put_in sa ma ((N : Int) - 1) v _ w3 HA3.out.st (StoreS.acc_inR HIN.out ..) v0 v1).mono ?_
  rintro e w4 ⟨rfl, hs4, ho4⟩
  have HA4 := Lib.hid (HA3.out.store hs4 ho4)
  have HM4 := Lib.hid (HM3.out.andThen ho4 (fun y _ hy => by rcases hy with e | e; exact .inr (.inl e); exact .inr (.inr (.inl e))))
  obtain ⟨S2, hS2⟩ : ∃ S2, ((StoreS.begun N 0 1).acc 2 0 G).acc 2 ((N : Int) - 1) v = S2 := ⟨_, rfl⟩
  have hi2 : S2.inR 0 := by rw [← hS2]; exact StoreS.acc_inR (StoreS.acc_inR HI0.out ..) ..
  have hin2 : S2.inR ((N : Int) - 1) := by rw [← hS2]; exact StoreS.acc_inR (StoreS.acc_inR HIN.out ..) ..
  have hwd0 : S2.word 0 = G := by
    rw [← hS2, StoreS.acc_word_other (by omega) (by omega) (by omega), StoreS.acc_word HI0.out]
  have hwdn : S2.word ((N : Int) - 1) = v := by rw [← hS2, StoreS.acc_word (StoreS.acc_inR HIN.out ..)]
  rw [hS2] at HA4
  have HI2 := Lib.hid hi2; have HIN2 := Lib.hid hin2; have HW0 := Lib.hid hwd0; have HWN := Lib.hid hwdn
  clear hs4 ho4 hS2 hi2 hin2 hwd0 hwdn
  go_wp2_with fail
  have hbx4 := HBX2.out.only HM4.out HBN.out.1
  have y0 : w4.cell? ⟨B, 0, none⟩ = some (.int .i64 P) := hbx4.cell 0
  have hqt : k.tmod P = q := by rw [Int.tmod_eq_emod_of_nonneg k0]; exact hq
  have hPz : P ≠ 0 := by omega
  have hwq : wrap64 (1 + q) = 1 + q := wrap64_ok _ (by omega) (by omega)
  have hwq' : IntKind.i64.wrap (1 + q) = 1 + q := wrap_ok _ (by omega) (by omega)
  clear hbx4

  refine wp_region_held_drew (S := (fun W' => W'.cell? ⟨B, 0, none⟩ = some (.int .i64 P))) (by kernel_rfl) y0 (fun hHeld => ?_)
  refine wpAnyH_take (i := 0) (v := (.pointer (some ⟨aa, 0, none⟩))) rfl (by kernel_rfl) (by kernel_rfl) (by kernel_rfl) (fun _ _ _ h => h) (Or.inl ⟨by rfl, fun W hS => by first | rfl | (go_simp; done)⟩) hHeld ?_
  try simp only [Act.put, List.getElem_toArray, List.getElem_cons_succ, List.getElem_cons_zero, List.setIfInBounds_toArray, List.set_cons_zero, List.set_cons_succ]
  refine wpAnyH_take (i := 2) (v := (.int .u8 k)) rfl (by kernel_rfl) (by kernel_rfl) (by kernel_rfl) (fun _ _ _ h => h) (Or.inl ⟨by rfl, fun W hS => by first | rfl | (go_simp; done)⟩) hHeld ?_
  try simp only [Act.put, List.getElem_toArray, List.getElem_cons_succ, List.getElem_cons_zero, List.setIfInBounds_toArray, List.set_cons_zero, List.set_cons_succ]
  refine wpAnyH_take (i := 3) (v := (.int .i64 k)) rfl (by kernel_rfl) (by kernel_rfl) (by kernel_rfl) (fun _ _ _ h => h) (Or.inl ⟨by rfl, fun W hS => by (go_simp; exact wrap_ok _ (by omega) (by omega))⟩) hHeld ?_
  try simp only [Act.put, List.getElem_toArray, List.getElem_cons_succ, List.getElem_cons_zero, List.setIfInBounds_toArray, List.set_cons_zero, List.set_cons_succ]
  refine wpAnyH_take (i := 4) (v := (.pointer (some ⟨B, 0, none⟩))) rfl (by kernel_rfl) (by kernel_rfl) (by kernel_rfl) (fun _ _ _ h => h) (Or.inl ⟨by rfl, fun W hS => by first | rfl | (go_simp; done)⟩) hHeld ?_
  try simp only [Act.put, List.getElem_toArray, List.getElem_cons_succ, List.getElem_cons_zero, List.setIfInBounds_toArray, List.set_cons_zero, List.set_cons_succ]
  refine wpAnyH_take (i := 5) (v := (.int .i64 P)) rfl (by kernel_rfl) (by kernel_rfl) (by kernel_rfl) (fun _ _ _ h => h) (Or.inl ⟨by rfl, fun W hS => by (obtain z1 := hS; go_simp; done)⟩) hHeld ?_
  try simp only [Act.put, List.getElem_toArray, List.getElem_cons_succ, List.getElem_cons_zero, List.setIfInBounds_toArray, List.set_cons_zero, List.set_cons_succ]
  refine wpAnyH_take (i := 6) (v := (.int .i64 q)) rfl (by kernel_rfl) (by kernel_rfl) (by kernel_rfl) (fun _ _ _ h => h) (Or.inl ⟨by rfl, fun W hS => by (go_simp; done)⟩) hHeld ?_
  try simp only [Act.put, List.getElem_toArray, List.getElem_cons_succ, List.getElem_cons_zero, List.setIfInBounds_toArray, List.set_cons_zero, List.set_cons_succ]
  refine wpAnyH_take (i := 7) (v := (.int .i64 (1 + q))) rfl (by kernel_rfl) (by kernel_rfl) (by kernel_rfl) (fun _ _ _ h => h) (Or.inl ⟨by rfl, fun W hS => by (go_simp; done)⟩) hHeld ?_
  try simp only [Act.put, List.getElem_toArray, List.getElem_cons_succ, List.getElem_cons_zero, List.setIfInBounds_toArray, List.set_cons_zero, List.set_cons_succ]
  refine wpAnyH_ready (rs := [1]) (by kernel_rfl) (by simp) (AllReadyH.cons rfl (fun K hK => ?_) AllReadyH.nil)
  simp only [List.getElem_toArray, List.getElem_cons_succ, List.getElem_cons_zero]
  go_simp
  refine (arenaRuns_any (HA4.out.adds ((Only.refl (fun _ => False) w4).drew)).ar).mono ?_
  rintro e u1 ⟨rfl, rfl⟩
  refine hK.out _ _ hHeld (fun hHeld => ?_)
  clear hK K
  try simp only [Act.put, List.getElem_toArray, List.getElem_cons_succ, List.getElem_cons_zero, List.setIfInBounds_toArray, List.set_cons_zero, List.set_cons_succ]
  refine wpAnyH_ready (rs := [8]) (by kernel_rfl) (by simp) (AllReadyH.cons rfl (fun K hK => ?_) AllReadyH.nil)
  simp only [List.getElem_toArray, List.getElem_cons_succ, List.getElem_cons_zero]
  go_simp
  refine (take_any (HA4.out.adds ((Only.refl (fun _ => False) w4).drew)).rs (1 + q) (by omega)).mono ?_
  rintro e w5 ⟨at_, c, s1, rfl, ht, h5, m5⟩
  have hbx5 := (HBX2.out.only HM4.out HBN.out.1).only ((show Adds w4 w4.drew from (Only.refl _ w4).drew).mono (T := s.own) (fun _ _ h => h.elim) |>.andThen m5.only (fun _ _ h => h)) (fun hy => HBN.out.1 (.inr (.inr (.inr (.inl hy)))))
  have y5 : w5.cell? ⟨B, 0, none⟩ = some (.int .i64 P) := hbx5.cell 0
  refine hK.out _ _ y5 (fun hHeld => ?_)
  clear hK K
  try simp only [Act.put, List.getElem_toArray, List.getElem_cons_succ, List.getElem_cons_zero, List.setIfInBounds_toArray, List.set_cons_zero, List.set_cons_succ]
  refine wpAnyH_take (i := 9) (v := (.tuple #[.int .i64 at_, .int .i64 c])) rfl (by kernel_rfl) (by kernel_rfl) (by kernel_rfl) (fun _ _ _ h => h) (Or.inl ⟨by rfl, fun W hS => by first | rfl | (go_simp; done)⟩) hHeld ?_
  try simp only [Act.put, List.getElem_toArray, List.getElem_cons_succ, List.getElem_cons_zero, List.setIfInBounds_toArray, List.set_cons_zero, List.set_cons_succ]
  refine wpAnyH_take (i := 10) (v := (.int .i64 at_)) rfl (by kernel_rfl) (by kernel_rfl) (by kernel_rfl) (fun _ _ _ h => h) (Or.inl ⟨by rfl, fun W hS => by first | rfl | (go_simp; done)⟩) hHeld ?_
  try simp only [Act.put, List.getElem_toArray, List.getElem_cons_succ, List.getElem_cons_zero, List.setIfInBounds_toArray, List.set_cons_zero, List.set_cons_succ]
  refine wpAnyH_take (i := 11) (v := (.int .i64 c)) rfl (by kernel_rfl) (by kernel_rfl) (by kernel_rfl) (fun _ _ _ h => h) (Or.inl ⟨by rfl, fun W hS => by first | rfl | (go_simp; done)⟩) hHeld ?_
  try simp only [Act.put, List.getElem_toArray, List.getElem_cons_succ, List.getElem_cons_zero, List.setIfInBounds_toArray, List.set_cons_zero, List.set_cons_succ]
  refine wpAnyH_take (i := 12) (v := (.int .i64 at_)) rfl (by kernel_rfl) (by kernel_rfl) (by kernel_rfl) (fun _ _ _ h => h) (Or.inl ⟨by rfl, fun W hS => by first | rfl | (go_simp; done)⟩) hHeld ?_
  try simp only [Act.put, List.getElem_toArray, List.getElem_cons_succ, List.getElem_cons_zero, List.setIfInBounds_toArray, List.set_cons_zero, List.set_cons_succ]
  refine wpAnyH_take (i := 13) (v := (.int .i64 c)) rfl (by kernel_rfl) (by kernel_rfl) (by kernel_rfl) (fun _ _ _ h => h) (Or.inl ⟨by rfl, fun W hS => by first | rfl | (go_simp; done)⟩) hHeld ?_
  try simp only [Act.put, List.getElem_toArray, List.getElem_cons_succ, List.getElem_cons_zero, List.setIfInBounds_toArray, List.set_cons_zero, List.set_cons_succ]
  refine wpAnyH_done (by kernel_rfl) ?_ _
  have m5' : Moves s s1 w4 w5 := Moves.ahead (show Adds w4 w4.drew from (Only.refl _ w4).drew) m5
  have HA5 := Lib.hid (HA4.out.runs h5 m5')
  have HM5 := Lib.hid (HM4.out.andThen m5'.only (fun y _ hy => .inr (.inr (.inr (.inl hy)))))
  have hdd : ∀ y, AB aa sa ma s1 y → ¬ AB ab sb mb s' y := fun y hy hx => by
    have h1 := HB.out.lt y hx
    have h2 := HM4.out.size
    rcases hy with e | e | e | hy
    · exact HD.out y (.inl e) hx
    · exact HD.out y (.inr (.inl e)) hx
    · exact HD.out y (.inr (.inr (.inl e))) hx
    · rcases m5'.all y hy with h3 | h3
      · exact HD.out y (.inr (.inr (.inr h3))) hx
      · omega
  have HDD := Lib.hid hdd
  clear hdd
  have hres : at_ = 0 ∧ c = 0 ∧ tot s1.xs = P - 1 - q := by
    rcases ht.cases with ⟨rfl, _, x, hb, rfl, hx1, _⟩ | ⟨_, _, _, ⟨h9, _⟩ | ⟨_, _, h9⟩⟩
    · have h8 := (took HA.out.rs.ok.list (n := 1 + q) (by omega) hb.mem hb.long).tots
      rw [← hx1] at h8
      have hm := hb.mem
      rw [hxa] at hm h8
      obtain rfl : x = (0, P) := by simpa using hm
      refine ⟨rfl, rfl, ?_⟩
      rw [h8]; simp only [tot]; omega
    · omega
    · have := h9 (0, P) (by rw [hxa]; simp); simp only at this; omega
  obtain ⟨rfl, rfl, htt⟩ := hres
  have HTT := Lib.hid htt
  clear ht h5 m5 m5' htt hbx5 y5 y0 hHeld
  go_wp2_with (first
    | (go_at_call 16; refine (arenaGenD_any HA5.out.ar HA5.out.st HI2.out (by rw [HW0.out]; omega)).mono ?_; rintro e w5' ⟨rfl, rfl⟩; rw [HW0.out])
    | (go_at_call 18; refine (arenaStore_any HA5.out.ar).mono ?_; rintro e w5' ⟨rfl, rfl⟩))
  refine (load_in sa ma ((N : Int) - 1) S2 w5 HA5.out.st HIN2.out).mono ?_
  rintro e w6 ⟨rfl, hs6, ho6⟩
  rw [HWN.out]
  have HA6 := Lib.hid (HA5.out.store hs6 ho6)
  have HM6 := Lib.hid (HM5.out.andThen ho6 (fun y _ hy => by rcases hy with e | e; exact .inr (.inl e); exact .inr (.inr (.inl e))))
  clear hs6 ho6
  have HB6 := Lib.hid (HB.out.only HM6.out (fun y hy hx => HD.out y hx hy))
  go_wp2_with (go_at_call 18; refine (arenaStore_any HB6.out.ar).mono ?_; rintro e w6' ⟨rfl, rfl⟩)
  refine (load_in sb mb ((N : Int) - 1) (StoreS.begun N 0 1) w6 HB6.out.st HIN.out).mono ?_
  rintro e w7 ⟨rfl, hs7, ho7⟩
  have hwb0 : (StoreS.begun N 0 1).word ((N : Int) - 1) = 0 := begun_last N (by omega)
  rw [hwb0] at hs7 ⊢
  have hwb1 : ((StoreS.begun N 0 1).acc 1 ((N : Int) - 1) 0).word 0 = 1 := by rw [StoreS.acc_word_other (by omega) (by omega) (by omega)]; exact begun_first N (by omega)
  have hib : ((StoreS.begun N 0 1).acc 1 ((N : Int) - 1) 0).inR 0 := StoreS.acc_inR HI0.out ..
  have HB7 := Lib.hid (HB6.out.store hs7 ho7)
  have HA7 := Lib.hid (HA6.out.only ho7 (fun y hy hx => HDD.out y hy (by rcases hx with e | e; exact .inr (.inl e); exact .inr (.inr (.inl e)))))
  have HM7 := Lib.hid ((HM6.out.mono (T := fun y => AB aa sa ma s y ∨ AB ab sb mb s' y) (fun y _ hy => .inl hy)).andThen ho7 (fun y _ hy => by rcases hy with e | e; exact .inr (.inr (.inl e)); exact .inr (.inr (.inr (.inl e)))))
  have HWB1 := Lib.hid hwb1; have HIB := Lib.hid hib
  clear hs7 ho7 hwb1 hib hwb0
  go_wp2_with fail
  have hbx7 := HBX2.out.only HM7.out (fun hy => hy.elim HBN.out.1 HBN.out.2)
  have y7 : w7.cell? ⟨B, 0, none⟩ = some (.int .i64 P) := hbx7.cell 0
  have hwp : wrap64 (P - 1) = P - 1 := wrap64_ok _ (by omega) (by omega)
  have hwp' : IntKind.i64.wrap (P - 1) = P - 1 := wrap_ok _ (by omega) (by omega)
  have hwr : wrap64 (P - 1 - q) = P - 1 - q := wrap64_ok _ (by omega) (by omega)
  have hwr' : IntKind.i64.wrap (P - 1 - q) = P - 1 - q := wrap_ok _ (by omega) (by omega)
  have HT0 := Lib.hid HTT.out
  clear hbx7

  refine wp_region_held_drew (S := (fun W' => W'.cell? ⟨B, 0, none⟩ = some (.int .i64 P))) (by kernel_rfl) y7 (fun hHeld => ?_)
  refine wpAnyH_take (i := 0) (v := (.int .u64 v)) rfl (by kernel_rfl) (by kernel_rfl) (by kernel_rfl) (fun _ _ _ h => h) (Or.inl ⟨by rfl, fun W hS => by first | rfl | (go_simp; done)⟩) hHeld ?_
  try simp only [Act.put, List.getElem_toArray, List.getElem_cons_succ, List.getElem_cons_zero, List.setIfInBounds_toArray, List.set_cons_zero, List.set_cons_succ]
  refine wpAnyH_take (i := 1) (v := (.int .u64 v)) rfl (by kernel_rfl) (by kernel_rfl) (by kernel_rfl) (fun _ _ _ h => h) (Or.inl ⟨by rfl, fun W hS => by first | rfl | (go_simp; done)⟩) hHeld ?_
  try simp only [Act.put, List.getElem_toArray, List.getElem_cons_succ, List.getElem_cons_zero, List.setIfInBounds_toArray, List.set_cons_zero, List.set_cons_succ]
  refine wpAnyH_take (i := 2) (v := (.bool true)) rfl (by kernel_rfl) (by kernel_rfl) (by kernel_rfl) (fun _ _ _ h => h) (Or.inl ⟨by rfl, fun W hS => by (go_simp; done)⟩) hHeld ?_
  try simp only [Act.put, List.getElem_toArray, List.getElem_cons_succ, List.getElem_cons_zero, List.setIfInBounds_toArray, List.set_cons_zero, List.set_cons_succ]
  refine wpAnyH_take (i := 3) (v := (.bool true)) rfl (by kernel_rfl) (by kernel_rfl) (by kernel_rfl) (fun _ _ _ h => h) (Or.inl ⟨by rfl, fun W hS => by (go_simp; done)⟩) hHeld ?_
  try simp only [Act.put, List.getElem_toArray, List.getElem_cons_succ, List.getElem_cons_zero, List.setIfInBounds_toArray, List.set_cons_zero, List.set_cons_succ]
  refine wpAnyH_take (i := 4) (v := (.int .i64 0)) rfl (by kernel_rfl) (by kernel_rfl) (by kernel_rfl) (fun _ _ _ h => h) (Or.inl ⟨by rfl, fun W hS => by first | rfl | (go_simp; done)⟩) hHeld ?_
  try simp only [Act.put, List.getElem_toArray, List.getElem_cons_succ, List.getElem_cons_zero, List.setIfInBounds_toArray, List.set_cons_zero, List.set_cons_succ]
  refine wpAnyH_take (i := 5) (v := (.bool true)) rfl (by kernel_rfl) (by kernel_rfl) (by kernel_rfl) (fun _ _ _ h => h) (Or.inl ⟨by rfl, fun W hS => by (go_simp; done)⟩) hHeld ?_
  try simp only [Act.put, List.getElem_toArray, List.getElem_cons_succ, List.getElem_cons_zero, List.setIfInBounds_toArray, List.set_cons_zero, List.set_cons_succ]
  refine wpAnyH_take (i := 6) (v := (.bool true)) rfl (by kernel_rfl) (by kernel_rfl) (by kernel_rfl) (fun _ _ _ h => h) (Or.inl ⟨by rfl, fun W hS => by (go_simp; done)⟩) hHeld ?_
  try simp only [Act.put, List.getElem_toArray, List.getElem_cons_succ, List.getElem_cons_zero, List.setIfInBounds_toArray, List.set_cons_zero, List.set_cons_succ]
  refine wpAnyH_take (i := 7) (v := (.bool true)) rfl (by kernel_rfl) (by kernel_rfl) (by kernel_rfl) (fun _ _ _ h => h) (Or.inl ⟨by rfl, fun W hS => by (go_simp; done)⟩) hHeld ?_
  try simp only [Act.put, List.getElem_toArray, List.getElem_cons_succ, List.getElem_cons_zero, List.setIfInBounds_toArray, List.set_cons_zero, List.set_cons_succ]
  refine wpAnyH_take (i := 8) (v := (.int .u64 0)) rfl (by kernel_rfl) (by kernel_rfl) (by kernel_rfl) (fun _ _ _ h => h) (Or.inl ⟨by rfl, fun W hS => by first | rfl | (go_simp; done)⟩) hHeld ?_
  try simp only [Act.put, List.getElem_toArray, List.getElem_cons_succ, List.getElem_cons_zero, List.setIfInBounds_toArray, List.set_cons_zero, List.set_cons_succ]
  refine wpAnyH_take (i := 9) (v := (.bool true)) rfl (by kernel_rfl) (by kernel_rfl) (by kernel_rfl) (fun _ _ _ h => h) (Or.inl ⟨by rfl, fun W hS => by (go_simp; done)⟩) hHeld ?_
  try simp only [Act.put, List.getElem_toArray, List.getElem_cons_succ, List.getElem_cons_zero, List.setIfInBounds_toArray, List.set_cons_zero, List.set_cons_succ]
  refine wpAnyH_take (i := 10) (v := (.bool true)) rfl (by kernel_rfl) (by kernel_rfl) (by kernel_rfl) (fun _ _ _ h => h) (Or.inl ⟨by rfl, fun W hS => by (go_simp; done)⟩) hHeld ?_
  try simp only [Act.put, List.getElem_toArray, List.getElem_cons_succ, List.getElem_cons_zero, List.setIfInBounds_toArray, List.set_cons_zero, List.set_cons_succ]
  refine wpAnyH_take (i := 11) (v := (.bool true)) rfl (by kernel_rfl) (by kernel_rfl) (by kernel_rfl) (fun _ _ _ h => h) (Or.inl ⟨by rfl, fun W hS => by (go_simp; done)⟩) hHeld ?_
  try simp only [Act.put, List.getElem_toArray, List.getElem_cons_succ, List.getElem_cons_zero, List.setIfInBounds_toArray, List.set_cons_zero, List.set_cons_succ]
  refine wpAnyH_take (i := 12) (v := (.int .i64 0)) rfl (by kernel_rfl) (by kernel_rfl) (by kernel_rfl) (fun _ _ _ h => h) (Or.inl ⟨by rfl, fun W hS => by first | rfl | (go_simp; done)⟩) hHeld ?_
  try simp only [Act.put, List.getElem_toArray, List.getElem_cons_succ, List.getElem_cons_zero, List.setIfInBounds_toArray, List.set_cons_zero, List.set_cons_succ]
  refine wpAnyH_take (i := 13) (v := (.bool true)) rfl (by kernel_rfl) (by kernel_rfl) (by kernel_rfl) (fun _ _ _ h => h) (Or.inl ⟨by rfl, fun W hS => by (go_simp; done)⟩) hHeld ?_
  try simp only [Act.put, List.getElem_toArray, List.getElem_cons_succ, List.getElem_cons_zero, List.setIfInBounds_toArray, List.set_cons_zero, List.set_cons_succ]
  refine wpAnyH_take (i := 14) (v := (.bool true)) rfl (by kernel_rfl) (by kernel_rfl) (by kernel_rfl) (fun _ _ _ h => h) (Or.inl ⟨by rfl, fun W hS => by (go_simp; done)⟩) hHeld ?_
  try simp only [Act.put, List.getElem_toArray, List.getElem_cons_succ, List.getElem_cons_zero, List.setIfInBounds_toArray, List.set_cons_zero, List.set_cons_succ]
  refine wpAnyH_take (i := 15) (v := (.bool true)) rfl (by kernel_rfl) (by kernel_rfl) (by kernel_rfl) (fun _ _ _ h => h) (Or.inl ⟨by rfl, fun W hS => by (go_simp; done)⟩) hHeld ?_
  try simp only [Act.put, List.getElem_toArray, List.getElem_cons_succ, List.getElem_cons_zero, List.setIfInBounds_toArray, List.set_cons_zero, List.set_cons_succ]
  refine wpAnyH_take (i := 16) (v := (.pointer (some ⟨ab, 0, none⟩))) rfl (by kernel_rfl) (by kernel_rfl) (by kernel_rfl) (fun _ _ _ h => h) (Or.inl ⟨by rfl, fun W hS => by first | rfl | (go_simp; done)⟩) hHeld ?_
  try simp only [Act.put, List.getElem_toArray, List.getElem_cons_succ, List.getElem_cons_zero, List.setIfInBounds_toArray, List.set_cons_zero, List.set_cons_succ]
  refine wpAnyH_ready (rs := [17]) (by kernel_rfl) (by simp) (AllReadyH.cons rfl (fun K hK => ?_) AllReadyH.nil)
  simp only [List.getElem_toArray, List.getElem_cons_succ, List.getElem_cons_zero]
  go_simp
  refine (arenaGenD_any (HB7.out.adds ((Only.refl (fun _ => False) w7).drew)).ar (HB7.out.adds ((Only.refl (fun _ => False) w7).drew)).st HIB.out (by rw [HWB1.out]; omega)).mono ?_
  rintro e w8 ⟨rfl, rfl⟩
  rw [HWB1.out]
  refine hK.out _ _ hHeld (fun hHeld => ?_)
  clear hK K
  try simp only [Act.put, List.getElem_toArray, List.getElem_cons_succ, List.getElem_cons_zero, List.setIfInBounds_toArray, List.set_cons_zero, List.set_cons_succ]
  refine wpAnyH_take (i := 18) (v := (.bool true)) rfl (by kernel_rfl) (by kernel_rfl) (by kernel_rfl) (fun _ _ _ h => h) (Or.inl ⟨by rfl, fun W hS => by (go_simp; done)⟩) hHeld ?_
  try simp only [Act.put, List.getElem_toArray, List.getElem_cons_succ, List.getElem_cons_zero, List.setIfInBounds_toArray, List.set_cons_zero, List.set_cons_succ]
  refine wpAnyH_take (i := 19) (v := (.bool true)) rfl (by kernel_rfl) (by kernel_rfl) (by kernel_rfl) (fun _ _ _ h => h) (Or.inl ⟨by rfl, fun W hS => by (go_simp; done)⟩) hHeld ?_
  try simp only [Act.put, List.getElem_toArray, List.getElem_cons_succ, List.getElem_cons_zero, List.setIfInBounds_toArray, List.set_cons_zero, List.set_cons_succ]
  refine wpAnyH_take (i := 20) (v := (.bool true)) rfl (by kernel_rfl) (by kernel_rfl) (by kernel_rfl) (fun _ _ _ h => h) (Or.inl ⟨by rfl, fun W hS => by (go_simp; done)⟩) hHeld ?_
  try simp only [Act.put, List.getElem_toArray, List.getElem_cons_succ, List.getElem_cons_zero, List.setIfInBounds_toArray, List.set_cons_zero, List.set_cons_succ]
  refine wpAnyH_take (i := 21) (v := (.pointer (some ⟨aa, 0, none⟩))) rfl (by kernel_rfl) (by kernel_rfl) (by kernel_rfl) (fun _ _ _ h => h) (Or.inl ⟨by rfl, fun W hS => by first | rfl | (go_simp; done)⟩) hHeld ?_
  try simp only [Act.put, List.getElem_toArray, List.getElem_cons_succ, List.getElem_cons_zero, List.setIfInBounds_toArray, List.set_cons_zero, List.set_cons_succ]
  refine wpAnyH_take (i := 24) (v := (.pointer (some ⟨B, 0, none⟩))) rfl (by kernel_rfl) (by kernel_rfl) (by kernel_rfl) (fun _ _ _ h => h) (Or.inl ⟨by rfl, fun W hS => by first | rfl | (go_simp; done)⟩) hHeld ?_
  try simp only [Act.put, List.getElem_toArray, List.getElem_cons_succ, List.getElem_cons_zero, List.setIfInBounds_toArray, List.set_cons_zero, List.set_cons_succ]
  refine wpAnyH_take (i := 25) (v := (.int .i64 P)) rfl (by kernel_rfl) (by kernel_rfl) (by kernel_rfl) (fun _ _ _ h => h) (Or.inl ⟨by rfl, fun W hS => by (obtain z1 := hS; go_simp; done)⟩) hHeld ?_
  try simp only [Act.put, List.getElem_toArray, List.getElem_cons_succ, List.getElem_cons_zero, List.setIfInBounds_toArray, List.set_cons_zero, List.set_cons_succ]
  refine wpAnyH_take (i := 26) (v := (.int .i64 (P - 1))) rfl (by kernel_rfl) (by kernel_rfl) (by kernel_rfl) (fun _ _ _ h => h) (Or.inl ⟨by rfl, fun W hS => by (go_simp; done)⟩) hHeld ?_
  try simp only [Act.put, List.getElem_toArray, List.getElem_cons_succ, List.getElem_cons_zero, List.setIfInBounds_toArray, List.set_cons_zero, List.set_cons_succ]
  refine wpAnyH_take (i := 27) (v := (.int .u8 k)) rfl (by kernel_rfl) (by kernel_rfl) (by kernel_rfl) (fun _ _ _ h => h) (Or.inl ⟨by rfl, fun W hS => by first | rfl | (go_simp; done)⟩) hHeld ?_
  try simp only [Act.put, List.getElem_toArray, List.getElem_cons_succ, List.getElem_cons_zero, List.setIfInBounds_toArray, List.set_cons_zero, List.set_cons_succ]
  refine wpAnyH_take (i := 28) (v := (.int .i64 k)) rfl (by kernel_rfl) (by kernel_rfl) (by kernel_rfl) (fun _ _ _ h => h) (Or.inl ⟨by rfl, fun W hS => by (go_simp; exact wrap_ok _ (by omega) (by omega))⟩) hHeld ?_
  try simp only [Act.put, List.getElem_toArray, List.getElem_cons_succ, List.getElem_cons_zero, List.setIfInBounds_toArray, List.set_cons_zero, List.set_cons_succ]
  refine wpAnyH_take (i := 29) (v := (.pointer (some ⟨B, 0, none⟩))) rfl (by kernel_rfl) (by kernel_rfl) (by kernel_rfl) (fun _ _ _ h => h) (Or.inl ⟨by rfl, fun W hS => by first | rfl | (go_simp; done)⟩) hHeld ?_
  try simp only [Act.put, List.getElem_toArray, List.getElem_cons_succ, List.getElem_cons_zero, List.setIfInBounds_toArray, List.set_cons_zero, List.set_cons_succ]
  refine wpAnyH_take (i := 30) (v := (.int .i64 P)) rfl (by kernel_rfl) (by kernel_rfl) (by kernel_rfl) (fun _ _ _ h => h) (Or.inl ⟨by rfl, fun W hS => by (obtain z1 := hS; go_simp; done)⟩) hHeld ?_
  try simp only [Act.put, List.getElem_toArray, List.getElem_cons_succ, List.getElem_cons_zero, List.setIfInBounds_toArray, List.set_cons_zero, List.set_cons_succ]
  refine wpAnyH_take (i := 31) (v := (.int .i64 q)) rfl (by kernel_rfl) (by kernel_rfl) (by kernel_rfl) (fun _ _ _ h => h) (Or.inl ⟨by rfl, fun W hS => by (go_simp; done)⟩) hHeld ?_
  try simp only [Act.put, List.getElem_toArray, List.getElem_cons_succ, List.getElem_cons_zero, List.setIfInBounds_toArray, List.set_cons_zero, List.set_cons_succ]
  refine wpAnyH_take (i := 32) (v := (.int .i64 (P - 1 - q))) rfl (by kernel_rfl) (by kernel_rfl) (by kernel_rfl) (fun _ _ _ h => h) (Or.inl ⟨by rfl, fun W hS => by (go_simp; done)⟩) hHeld ?_
  try simp only [Act.put, List.getElem_toArray, List.getElem_cons_succ, List.getElem_cons_zero, List.setIfInBounds_toArray, List.set_cons_zero, List.set_cons_succ]
  refine wpAnyH_ready (rs := [22]) (by kernel_rfl) (by simp) (AllReadyH.cons rfl (fun K hK => ?_) AllReadyH.nil)
  simp only [List.getElem_toArray, List.getElem_cons_succ, List.getElem_cons_zero]
  go_simp
  refine (arenaRuns_any (HA7.out.adds ((Only.refl (fun _ => False) w7).drew)).ar).mono ?_
  rintro e w8 ⟨rfl, rfl⟩
  refine hK.out _ _ hHeld (fun hHeld => ?_)
  clear hK K
  try simp only [Act.put, List.getElem_toArray, List.getElem_cons_succ, List.getElem_cons_zero, List.setIfInBounds_toArray, List.set_cons_zero, List.set_cons_succ]
  refine wpAnyH_ready (rs := [23]) (by kernel_rfl) (by simp) (AllReadyH.cons rfl (fun K hK => ?_) AllReadyH.nil)
  simp only [List.getElem_toArray, List.getElem_cons_succ, List.getElem_cons_zero]
  go_simp
  refine (total_any (HA7.out.adds ((Only.refl (fun _ => False) w7).drew)).rs).mono ?_
  rintro e w8 ⟨rfl, rfl⟩
  rw [HT0.out]
  refine hK.out _ _ hHeld (fun hHeld => ?_)
  clear hK K
  try simp only [Act.put, List.getElem_toArray, List.getElem_cons_succ, List.getElem_cons_zero, List.setIfInBounds_toArray, List.set_cons_zero, List.set_cons_succ]
  refine wpAnyH_take (i := 33) (v := (.bool true)) rfl (by kernel_rfl) (by kernel_rfl) (by kernel_rfl) (fun _ _ _ h => h) (Or.inl ⟨by rfl, fun W hS => by (go_simp; done)⟩) hHeld ?_
  try simp only [Act.put, List.getElem_toArray, List.getElem_cons_succ, List.getElem_cons_zero, List.setIfInBounds_toArray, List.set_cons_zero, List.set_cons_succ]
  refine wpAnyH_take (i := 34) (v := (.bool true)) rfl (by kernel_rfl) (by kernel_rfl) (by kernel_rfl) (fun _ _ _ h => h) (Or.inl ⟨by rfl, fun W hS => by (go_simp; done)⟩) hHeld ?_
  try simp only [Act.put, List.getElem_toArray, List.getElem_cons_succ, List.getElem_cons_zero, List.setIfInBounds_toArray, List.set_cons_zero, List.set_cons_succ]
  refine wpAnyH_take (i := 35) (v := (.bool true)) rfl (by kernel_rfl) (by kernel_rfl) (by kernel_rfl) (fun _ _ _ h => h) (Or.inl ⟨by rfl, fun W hS => by (go_simp; done)⟩) hHeld ?_
  try simp only [Act.put, List.getElem_toArray, List.getElem_cons_succ, List.getElem_cons_zero, List.setIfInBounds_toArray, List.set_cons_zero, List.set_cons_succ]
  refine wpAnyH_take (i := 36) (v := (.pointer (some ⟨ab, 0, none⟩))) rfl (by kernel_rfl) (by kernel_rfl) (by kernel_rfl) (fun _ _ _ h => h) (Or.inl ⟨by rfl, fun W hS => by first | rfl | (go_simp; done)⟩) hHeld ?_
  try simp only [Act.put, List.getElem_toArray, List.getElem_cons_succ, List.getElem_cons_zero, List.setIfInBounds_toArray, List.set_cons_zero, List.set_cons_succ]
  refine wpAnyH_take (i := 39) (v := (.pointer (some ⟨B, 0, none⟩))) rfl (by kernel_rfl) (by kernel_rfl) (by kernel_rfl) (fun _ _ _ h => h) (Or.inl ⟨by rfl, fun W hS => by first | rfl | (go_simp; done)⟩) hHeld ?_
  try simp only [Act.put, List.getElem_toArray, List.getElem_cons_succ, List.getElem_cons_zero, List.setIfInBounds_toArray, List.set_cons_zero, List.set_cons_succ]
  refine wpAnyH_take (i := 40) (v := (.int .i64 P)) rfl (by kernel_rfl) (by kernel_rfl) (by kernel_rfl) (fun _ _ _ h => h) (Or.inl ⟨by rfl, fun W hS => by (obtain z1 := hS; go_simp; done)⟩) hHeld ?_
  try simp only [Act.put, List.getElem_toArray, List.getElem_cons_succ, List.getElem_cons_zero, List.setIfInBounds_toArray, List.set_cons_zero, List.set_cons_succ]
  refine wpAnyH_ready (rs := [37]) (by kernel_rfl) (by simp) (AllReadyH.cons rfl (fun K hK => ?_) AllReadyH.nil)
  simp only [List.getElem_toArray, List.getElem_cons_succ, List.getElem_cons_zero]
  go_simp
  refine (arenaRuns_any (HB7.out.adds ((Only.refl (fun _ => False) w7).drew)).ar).mono ?_
  rintro e w8 ⟨rfl, rfl⟩
  refine hK.out _ _ hHeld (fun hHeld => ?_)
  clear hK K
  try simp only [Act.put, List.getElem_toArray, List.getElem_cons_succ, List.getElem_cons_zero, List.setIfInBounds_toArray, List.set_cons_zero, List.set_cons_succ]
  refine wpAnyH_ready (rs := [38]) (by kernel_rfl) (by simp) (AllReadyH.cons rfl (fun K hK => ?_) AllReadyH.nil)
  simp only [List.getElem_toArray, List.getElem_cons_succ, List.getElem_cons_zero]
  go_simp
  refine (total_any (HB7.out.adds ((Only.refl (fun _ => False) w7).drew)).rs).mono ?_
  rintro e w8 ⟨rfl, rfl⟩
  rw [hxb, show tot [((0 : Int), P)] = P by simp [tot]]
  refine hK.out _ _ hHeld (fun hHeld => ?_)
  clear hK K
  try simp only [Act.put, List.getElem_toArray, List.getElem_cons_succ, List.getElem_cons_zero, List.setIfInBounds_toArray, List.set_cons_zero, List.set_cons_succ]
  refine wpAnyH_take (i := 41) (v := (.bool true)) rfl (by kernel_rfl) (by kernel_rfl) (by kernel_rfl) (fun _ _ _ h => h) (Or.inl ⟨by rfl, fun W hS => by (go_simp; done)⟩) hHeld ?_
  try simp only [Act.put, List.getElem_toArray, List.getElem_cons_succ, List.getElem_cons_zero, List.setIfInBounds_toArray, List.set_cons_zero, List.set_cons_succ]
  refine wpAnyH_take (i := 42) (v := (.bool true)) rfl (by kernel_rfl) (by kernel_rfl) (by kernel_rfl) (fun _ _ _ h => h) (Or.inl ⟨by rfl, fun W hS => by (go_simp; done)⟩) hHeld ?_
  try simp only [Act.put, List.getElem_toArray, List.getElem_cons_succ, List.getElem_cons_zero, List.setIfInBounds_toArray, List.set_cons_zero, List.set_cons_succ]
  refine wpAnyH_take (i := 43) (v := (.bool true)) rfl (by kernel_rfl) (by kernel_rfl) (by kernel_rfl) (fun _ _ _ h => h) (Or.inl ⟨by rfl, fun W hS => by (go_simp; done)⟩) hHeld ?_
  try simp only [Act.put, List.getElem_toArray, List.getElem_cons_succ, List.getElem_cons_zero, List.setIfInBounds_toArray, List.set_cons_zero, List.set_cons_succ]
  refine wpAnyH_ready (rs := [44]) (by kernel_rfl) (by simp) (AllReadyH.cons rfl (fun K hK => ?_) AllReadyH.nil)
  simp only [List.getElem_toArray, List.getElem_cons_succ, List.getElem_cons_zero]
  go_simp
  refine (awake11D_any w7.drew).mono ?_
  rintro e w8 ⟨rfl, ho8⟩
  refine hK.out _ _ (cell_al hHeld ho8) (fun hHeld => ?_)
  clear hK K
  try simp only [Act.put, List.getElem_toArray, List.getElem_cons_succ, List.getElem_cons_zero, List.setIfInBounds_toArray, List.set_cons_zero, List.set_cons_succ]
  refine wpAnyH_take (i := 45) (v := (.bool true)) rfl (by kernel_rfl) (by kernel_rfl) (by kernel_rfl) (fun _ _ _ h => h) (Or.inl ⟨by rfl, fun W hS => by (go_simp; done)⟩) hHeld ?_
  try simp only [Act.put, List.getElem_toArray, List.getElem_cons_succ, List.getElem_cons_zero, List.setIfInBounds_toArray, List.set_cons_zero, List.set_cons_succ]
  refine wpAnyH_take (i := 46) (v := (.bool true)) rfl (by kernel_rfl) (by kernel_rfl) (by kernel_rfl) (fun _ _ _ h => h) (Or.inl ⟨by rfl, fun W hS => by (go_simp; done)⟩) hHeld ?_
  try simp only [Act.put, List.getElem_toArray, List.getElem_cons_succ, List.getElem_cons_zero, List.setIfInBounds_toArray, List.set_cons_zero, List.set_cons_succ]
  refine wpAnyH_done (by kernel_rfl) ?_ _
  go_wp2_with fail
  go_ret
  refine ⟨rfl, ?_⟩
  have h9 : Only (fun y => AB aa sa ma s y ∨ AB ab sb mb s' y) w2 w8 := HM7.out.andThen ((show Adds w7 w7.drew from (Only.refl _ w7).drew).thenF ho8) (fun _ _ h => h.elim)
  refine Only.below (S := fun y => w.heap.size ≤ y) ((HO2.out.mono (fun _ _ h => h.elim)).andThen h9 (fun y _ hy => hy.elim (HNW.out y) (HNB.out y))) (Nat.le_refl _) (fun k hk hk2 => by omega)
end Go.Proofs.Ytbijbpnhakbeeaa

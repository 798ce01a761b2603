/- The document's record: what a page's words say; all spans, where there is none, or one. By an AI agent. -/
import Derived.Test.YtbepbcjklgfmjaaGreatDoorZRecBack
import Derived.Test.YtbepbcjklgfmjaaGreatDoorZMemIs
import Derived.Test.YtbepbcjklgfmjaaGreatDoorZ8
import Derived.Test.YtbepbcjklgfmjaaGreatDoorZA
import Derived.Test.YtbepbcjklgfmjaaGreatDoorZRecSeq
namespace Go.Proofs.YtbepbcjklgfmjaaGreatDoor
open Go.RowKit
set_option linter.unusedSimpArgs false
set_option linter.unusedVariables false
section
variable {w : World} {bb sb sm rb fb : Nat} {P T pg : Int} {s : StoreS}
set_option maxRecDepth 100000 in
set_option maxHeartbeats 4000000 in
theorem docRead_out (h : IsMem w bb sb sm rb fb P T s) (ho : Lay.pageOk P T 9 pg = false) : Calls Tryz.prog 9 #[.pointer (some ⟨bb, 0, none⟩), .int .i64 pg] w fun e w' => e = .returned (.tuple #[.agg spanZ, .bool false]) ∧ Adds w w' := by
  obtain ⟨wE, hE⟩ : ∃ wE, wE = w.alloc (.cells spanZ 39) := ⟨_, rfl⟩
  have HR0 : Hid (Blk wE w.heap.size spanZ 39) := by rw [hE]; exact Lib.hid (Blk.new w _ _)
  have HAd : Hid (Adds w wE) := by rw [hE]; exact Lib.hid ((Only.refl _ _).alloc _)
  have HE := Lib.hid hE
  clear hE
  have m2 : wE.cell? ⟨bb, 2, none⟩ = some (.int .i64 P) := (h.adds HAd.out).head.cell 2
  have m3 : wE.cell? ⟨bb, 3, none⟩ = some (.int .i64 T) := (h.adds HAd.out).head.cell 3
  rw [HE.out] at m2 m3
  have HO := Lib.hid ho
  clear h ho
  go_enter Tryz.func9, Tryz.ntmps9
  go_wp2_with (go_at_call 26; refine (r6PageWord_any P T 9 pg _).mono ?_; rintro e w1 ⟨rfl, ho1⟩; rw [atOf_no HO.out]; rw [← HE.out] at ho1; have HO1 := Lib.hid (HAd.out.thenF ho1); have hr1 := HR0.out.only ho1 id; have lr1 := hr1.lt; obtain ⟨q0, q1, q2, q3, q4, q5, q6, f0, f1, f2, f3, f4, f5, f6⟩ := hr1.seven; have HR1 := Lib.hid hr1; clear ho1 hr1)
  have hbf : Blk _ w.heap.size spanZ 39 := ((((((HR1.out.setCell 0 (.int .i64 0)).setCell 1 (.int .i64 0)).setCell 2 (.int .i64 0)).setCell 3 (.int .i64 0)).setCell 4 (.int .i64 0)).setCell 5 (.int .u64 0)).setCell 6 (.int .u64 0)
  obtain ⟨z0, z1, z2, z3, z4, z5, z6, -⟩ := hbf.seven
  exact bodyPost_ret (v := .tuple #[.agg spanZ, .bool false]) (by simp [z0, z1, z2, z3, z4, z5, z6, results, Tryz.results9, go_sem]) rfl ⟨rfl, only_box7 HO1.out (.inr (by omega)) _ _ _ _ _ _ _⟩
set_option maxRecDepth 100000 in
set_option maxHeartbeats 4000000 in
theorem docRead_zero (h : IsMem w bb sb sm rb fb P T s) (hk : Lay.pageOk P T 9 pg = true) (hi : s.inR (Lay.pageAt P T 9 pg)) (hz : s.word (Lay.pageAt P T 9 pg) = 0) : Calls Tryz.prog 9 #[.pointer (some ⟨bb, 0, none⟩), .int .i64 pg] w fun e w' => e = .returned (.tuple #[.agg spanZ, .bool false]) ∧ Adds w w' := by
  obtain ⟨wE, hE⟩ : ∃ wE, wE = w.alloc (.cells spanZ 39) := ⟨_, rfl⟩
  have HR0 : Hid (Blk wE w.heap.size spanZ 39) := by rw [hE]; exact Lib.hid (Blk.new w _ _)
  have HAd : Hid (Adds w wE) := by rw [hE]; exact Lib.hid ((Only.refl _ _).alloc _)
  have HE := Lib.hid hE
  clear hE
  have m2 : wE.cell? ⟨bb, 2, none⟩ = some (.int .i64 P) := (h.adds HAd.out).head.cell 2
  have m3 : wE.cell? ⟨bb, 3, none⟩ = some (.int .i64 T) := (h.adds HAd.out).head.cell 3
  rw [HE.out] at m2 m3
  have HK := Lib.hid hk
  obtain ⟨at_, hat⟩ : ∃ a, Lay.pageAt P T 9 pg = a := ⟨_, rfl⟩
  have HAT := Lib.hid hat
  rw [hat] at hi hz
  have HN : Hid (∀ W, Adds w W → W.cell? ⟨bb, 0, none⟩ = some (.pointer (some ⟨sb, 0, none⟩)) ∧ W.cell? ⟨sb, 0, none⟩ = some (.slice (some ⟨sm, 0, none⟩) s.ws.length s.ws.length) ∧ W.cell? ⟨sm, at_.toNat, none⟩ = some (.int .u64 0)) := Lib.hid (fun W hA => by
    have h2 := h.adds hA
    refine ⟨h2.head.cell 0, h2.st.cells.1, ?_⟩
    rw [← hz]; exact h2.st.wordCell hi)
  obtain ⟨n, hn⟩ : ∃ n, n = s.ws.length := ⟨_, rfl⟩
  rw [← hn] at HN
  have g1 : 0 ≤ at_ := hi.1
  have g2 : at_ < n := by rw [hn]; exact hi.2
  clear h hk hi hz hat hn
  go_enter Tryz.func9, Tryz.ntmps9
  go_wp2_with (go_at_call 26; refine (r6PageWord_any P T 9 pg _).mono ?_; rintro e w1 ⟨rfl, ho1⟩; rw [atOf_yes HK.out, HAT.out]; rw [← HE.out] at ho1; have HO1 := Lib.hid (HAd.out.thenF ho1); have hr1 := HR0.out.only ho1 id; have lr1 := hr1.lt; obtain ⟨q0, q1, q2, q3, q4, q5, q6, f0, f1, f2, f3, f4, f5, f6⟩ := hr1.seven; have HR1 := Lib.hid hr1; obtain ⟨y0, y1, y2⟩ := HN.out _ HO1.out; clear ho1 hr1)
  have hbf : Blk _ w.heap.size spanZ 39 := ((((((HR1.out.setCell 0 (.int .i64 0)).setCell 1 (.int .i64 0)).setCell 2 (.int .i64 0)).setCell 3 (.int .i64 0)).setCell 4 (.int .i64 0)).setCell 5 (.int .u64 0)).setCell 6 (.int .u64 0)
  obtain ⟨z0, z1, z2, z3, z4, z5, z6, -⟩ := hbf.seven
  exact bodyPost_ret (v := .tuple #[.agg spanZ, .bool false]) (by simp [z0, z1, z2, z3, z4, z5, z6, results, Tryz.results9, go_sem]) rfl ⟨rfl, only_box7 HO1.out (.inr (by omega)) _ _ _ _ _ _ _⟩
set_option maxRecDepth 100000 in
set_option maxHeartbeats 8000000 in
theorem docRead_some {A : Nat} {st bs al mk : Int} (h : IsMem w bb sb sm rb fb P T s) (hk : Lay.pageOk P T 9 pg = true) (hA : Lay.pageAt P T 9 pg = A) (hi : A + 4 < s.ws.length) (hst : s.word A = st) (hz : st ≠ 0) (hbs : s.word ((A + 1 : Nat) : Int) = bs) (hal : s.word ((A + 3 : Nat) : Int) = al) (hmk : s.word ((A + 4 : Nat) : Int) = mk) (b0 : 0 ≤ st ∧ st < 18446744073709551616) (b1 : 0 ≤ bs ∧ bs < 18446744073709551616) : Calls Tryz.prog 9 #[.pointer (some ⟨bb, 0, none⟩), .int .i64 pg] w fun e w' => e = .returned (.tuple #[spanV pg (bs / 256) (bs % 256) (Ph.gen st) (Ph.ph st) al mk, .bool true]) ∧ Adds w w' := by
  obtain ⟨wE, hE⟩ : ∃ wE, wE = w.alloc (.cells spanZ 39) := ⟨_, rfl⟩
  have HR0 : Hid (Blk wE w.heap.size spanZ 39) := by rw [hE]; exact Lib.hid (Blk.new w _ _)
  have HAd : Hid (Adds w wE) := by rw [hE]; exact Lib.hid ((Only.refl _ _).alloc _)
  have HE := Lib.hid hE
  clear hE
  have m2 : wE.cell? ⟨bb, 2, none⟩ = some (.int .i64 P) := (h.adds HAd.out).head.cell 2
  have m3 : wE.cell? ⟨bb, 3, none⟩ = some (.int .i64 T) := (h.adds HAd.out).head.cell 3
  rw [HE.out] at m2 m3
  have HK := Lib.hid hk; have HAT := Lib.hid hA; have HB0 := Lib.hid b0
  obtain ⟨BQ, hbq⟩ : ∃ B, bs / 256 = B := ⟨_, rfl⟩
  obtain ⟨BR, hbr⟩ : ∃ B, bs % 256 = B := ⟨_, rfl⟩
  obtain ⟨GN, hgn⟩ : ∃ B, Ph.gen st = B := ⟨_, rfl⟩
  obtain ⟨PH, hph⟩ : ∃ B, Ph.ph st = B := ⟨_, rfl⟩
  rw [hbq, hbr, hgn, hph]
  have HGN := Lib.hid hgn; have HPH := Lib.hid hph
  have e1 : Int.tdiv bs 256 = BQ := by rw [Int.tdiv_eq_ediv_of_nonneg b1.1]; exact hbq
  have e2 : Int.tmod bs 256 = BR := by rw [Int.tmod_eq_emod_of_nonneg b1.1]; exact hbr
  have e3 : IntKind.i64.wrap BQ = BQ := by rw [IntKind.wrap_i64]; omega
  have e4 : IntKind.i64.wrap BR = BR := by rw [IntKind.wrap_i64]; omega
  have e5 : IntKind.u64.wrap BQ = BQ := by rw [IntKind.wrap_u64]; omega
  have e6 : IntKind.u64.wrap BR = BR := by rw [IntKind.wrap_u64]; omega
  have z1 : (st == 0) = false := by simpa using hz
  have HN : Hid (∀ W, Adds w W → W.cell? ⟨bb, 0, none⟩ = some (.pointer (some ⟨sb, 0, none⟩)) ∧ W.cell? ⟨sb, 0, none⟩ = some (.slice (some ⟨sm, 0, none⟩) s.ws.length s.ws.length) ∧ W.cell? ⟨sm, A, none⟩ = some (.int .u64 st) ∧ W.cell? ⟨sm, A + 1, none⟩ = some (.int .u64 bs) ∧ W.cell? ⟨sm, A + 3, none⟩ = some (.int .u64 al) ∧ W.cell? ⟨sm, A + 4, none⟩ = some (.int .u64 mk)) := Lib.hid (fun W hA => by
    have h2 := h.adds hA
    have k : ∀ i : Nat, i < s.ws.length → W.cell? ⟨sm, i, none⟩ = some (.int .u64 (s.word (i : Int))) := fun i hi => by
      have := h2.st.wordCell (i := (i : Int)) ⟨by omega, by omega⟩
      rwa [Int.toNat_natCast] at this
    refine ⟨h2.head.cell 0, h2.st.cells.1, ?_, ?_, ?_, ?_⟩
    · rw [← hst]; exact k A (by omega)
    · rw [← hbs]; exact k (A + 1) (by omega)
    · rw [← hal]; exact k (A + 3) (by omega)
    · rw [← hmk]; exact k (A + 4) hi)
  obtain ⟨n, hn⟩ : ∃ n, n = s.ws.length := ⟨_, rfl⟩
  rw [← hn] at HN hi
  have g1 : (0 : Int) ≤ (A : Int) := by omega
  have g2 : (A : Int) < n := by omega
  have HSM := Lib.hid (show ¬ w.heap.size = sm by have := h.st.row.lt; omega)
  clear h hk hA hst hz hbs hal hmk b0 b1 hbq hbr hgn hph hn
  go_enter Tryz.func9, Tryz.ntmps9
  go_upto_region 7 with (go_at_call 26; refine (r6PageWord_any P T 9 pg _).mono ?_; rintro e w1 ⟨rfl, ho1⟩; rw [atOf_yes HK.out, HAT.out]; rw [← HE.out] at ho1; have HO1 := Lib.hid (HAd.out.thenF ho1); have hr1 := HR0.out.only ho1 id; have lr1 := hr1.lt; obtain ⟨q0, q1, q2, q3, q4, q5, q6, f0, f1, f2, f3, f4, f5, f6⟩ := hr1.seven; have HR1 := Lib.hid hr1; obtain ⟨y0, y1, y2, y4, y5, y6⟩ := HN.out _ HO1.out; clear ho1 hr1)
  obtain ⟨rr, hrr⟩ : ∃ r, n - A = r := ⟨_, rfl⟩
  rw [hrr]
  have r0 : (0 : Int) < (rr : Int) := by omega
  have r0n : 0 < rr := by omega
  have r1 : (1 : Int) < (rr : Int) := by omega
  have r3 : (3 : Int) < (rr : Int) := by omega
  have r4 : (4 : Int) < (rr : Int) := by omega
  clear hrr
  refine wp_region_held_drew (S := (fun W => W.cell? ⟨sm, A + 1, none⟩ = some (.int .u64 bs) ∧ W.cell? ⟨sm, A, none⟩ = some (.int .u64 st) ∧ W.cell? ⟨sm, A + 3, none⟩ = some (.int .u64 al) ∧ W.cell? ⟨sm, A + 4, none⟩ = some (.int .u64 mk))) (by kernel_rfl) ⟨y4, y2, y5, y6⟩ (fun hHeld => ?_)
  refine wpAnyH_take (i := 0) (v := (.int .i64 pg)) rfl (by kernel_rfl) (by kernel_rfl) (by kernel_rfl) (fun _ _ _ h => h) (Or.inl ⟨by rfl, fun W hS => by first | rfl | (go_simp; done)⟩) hHeld ?_
  try simp only [Act.put, List.getElem_toArray, List.getElem_cons_succ, List.getElem_cons_zero, List.setIfInBounds_toArray, List.set_cons_zero, List.set_cons_succ]
  refine wpAnyH_take (i := 1) (v := (.slice (some ⟨sm, A, none⟩) rr rr)) rfl (by kernel_rfl) (by kernel_rfl) (by kernel_rfl) (fun _ _ _ h => h) (Or.inl ⟨by rfl, fun W hS => by first | rfl | (go_simp; done)⟩) hHeld ?_
  try simp only [Act.put, List.getElem_toArray, List.getElem_cons_succ, List.getElem_cons_zero, List.setIfInBounds_toArray, List.set_cons_zero, List.set_cons_succ]
  refine wpAnyH_take (i := 2) (v := (.pointer (some ⟨sm, A + 1, none⟩))) rfl (by kernel_rfl) (by kernel_rfl) (by kernel_rfl) (fun _ _ _ h => h) (Or.inl ⟨by rfl, fun W hS => by first | rfl | (go_simp; done)⟩) hHeld ?_
  try simp only [Act.put, List.getElem_toArray, List.getElem_cons_succ, List.getElem_cons_zero, List.setIfInBounds_toArray, List.set_cons_zero, List.set_cons_succ]
  refine wpAnyH_take (i := 3) (v := (.int .u64 bs)) rfl (by kernel_rfl) (by kernel_rfl) (by kernel_rfl) (fun _ _ _ h => h) (Or.inl ⟨by rfl, fun W hS => by (obtain ⟨q1, q2, q3, q4⟩ := hS; go_simp; done)⟩) hHeld ?_
  try simp only [Act.put, List.getElem_toArray, List.getElem_cons_succ, List.getElem_cons_zero, List.setIfInBounds_toArray, List.set_cons_zero, List.set_cons_succ]
  refine wpAnyH_take (i := 4) (v := (.int .u64 BQ)) rfl (by kernel_rfl) (by kernel_rfl) (by kernel_rfl) (fun _ _ _ h => h) (Or.inl ⟨by rfl, fun W hS => by first | rfl | (go_simp; done)⟩) hHeld ?_
  try simp only [Act.put, List.getElem_toArray, List.getElem_cons_succ, List.getElem_cons_zero, List.setIfInBounds_toArray, List.set_cons_zero, List.set_cons_succ]
  refine wpAnyH_take (i := 5) (v := (.int .i64 BQ)) rfl (by kernel_rfl) (by kernel_rfl) (by kernel_rfl) (fun _ _ _ h => h) (Or.inl ⟨by rfl, fun W hS => by first | rfl | (go_simp; done)⟩) hHeld ?_
  try simp only [Act.put, List.getElem_toArray, List.getElem_cons_succ, List.getElem_cons_zero, List.setIfInBounds_toArray, List.set_cons_zero, List.set_cons_succ]
  refine wpAnyH_take (i := 6) (v := (.slice (some ⟨sm, A, none⟩) rr rr)) rfl (by kernel_rfl) (by kernel_rfl) (by kernel_rfl) (fun _ _ _ h => h) (Or.inl ⟨by rfl, fun W hS => by first | rfl | (go_simp; done)⟩) hHeld ?_
  try simp only [Act.put, List.getElem_toArray, List.getElem_cons_succ, List.getElem_cons_zero, List.setIfInBounds_toArray, List.set_cons_zero, List.set_cons_succ]
  refine wpAnyH_take (i := 7) (v := (.pointer (some ⟨sm, A + 1, none⟩))) rfl (by kernel_rfl) (by kernel_rfl) (by kernel_rfl) (fun _ _ _ h => h) (Or.inl ⟨by rfl, fun W hS => by first | rfl | (go_simp; done)⟩) hHeld ?_
  try simp only [Act.put, List.getElem_toArray, List.getElem_cons_succ, List.getElem_cons_zero, List.setIfInBounds_toArray, List.set_cons_zero, List.set_cons_succ]
  refine wpAnyH_take (i := 8) (v := (.int .u64 bs)) rfl (by kernel_rfl) (by kernel_rfl) (by kernel_rfl) (fun _ _ _ h => h) (Or.inl ⟨by rfl, fun W hS => by (obtain ⟨q1, q2, q3, q4⟩ := hS; go_simp; done)⟩) hHeld ?_
  try simp only [Act.put, List.getElem_toArray, List.getElem_cons_succ, List.getElem_cons_zero, List.setIfInBounds_toArray, List.set_cons_zero, List.set_cons_succ]
  refine wpAnyH_take (i := 9) (v := (.int .u64 BR)) rfl (by kernel_rfl) (by kernel_rfl) (by kernel_rfl) (fun _ _ _ h => h) (Or.inl ⟨by rfl, fun W hS => by first | rfl | (go_simp; done)⟩) hHeld ?_
  try simp only [Act.put, List.getElem_toArray, List.getElem_cons_succ, List.getElem_cons_zero, List.setIfInBounds_toArray, List.set_cons_zero, List.set_cons_succ]
  refine wpAnyH_take (i := 10) (v := (.int .i64 BR)) rfl (by kernel_rfl) (by kernel_rfl) (by kernel_rfl) (fun _ _ _ h => h) (Or.inl ⟨by rfl, fun W hS => by first | rfl | (go_simp; done)⟩) hHeld ?_
  try simp only [Act.put, List.getElem_toArray, List.getElem_cons_succ, List.getElem_cons_zero, List.setIfInBounds_toArray, List.set_cons_zero, List.set_cons_succ]
  refine wpAnyH_take (i := 11) (v := (.slice (some ⟨sm, A, none⟩) rr rr)) rfl (by kernel_rfl) (by kernel_rfl) (by kernel_rfl) (fun _ _ _ h => h) (Or.inl ⟨by rfl, fun W hS => by first | rfl | (go_simp; done)⟩) hHeld ?_
  try simp only [Act.put, List.getElem_toArray, List.getElem_cons_succ, List.getElem_cons_zero, List.setIfInBounds_toArray, List.set_cons_zero, List.set_cons_succ]
  refine wpAnyH_take (i := 12) (v := (.pointer (some ⟨sm, A, none⟩))) rfl (by kernel_rfl) (by kernel_rfl) (by kernel_rfl) (fun _ _ _ h => h) (Or.inl ⟨by rfl, fun W hS => by first | rfl | (go_simp; done) | (go_simp; simp [r0n]; done) | (simp [go_sem, r0n]; done)⟩) hHeld ?_
  try simp only [Act.put, List.getElem_toArray, List.getElem_cons_succ, List.getElem_cons_zero, List.setIfInBounds_toArray, List.set_cons_zero, List.set_cons_succ]
  refine wpAnyH_take (i := 13) (v := (.int .u64 st)) rfl (by kernel_rfl) (by kernel_rfl) (by kernel_rfl) (fun _ _ _ h => h) (Or.inl ⟨by rfl, fun W hS => by (obtain ⟨q1, q2, q3, q4⟩ := hS; go_simp; done)⟩) hHeld ?_
  try simp only [Act.put, List.getElem_toArray, List.getElem_cons_succ, List.getElem_cons_zero, List.setIfInBounds_toArray, List.set_cons_zero, List.set_cons_succ]
  refine wpAnyH_take (i := 15) (v := (.slice (some ⟨sm, A, none⟩) rr rr)) rfl (by kernel_rfl) (by kernel_rfl) (by kernel_rfl) (fun _ _ _ h => h) (Or.inl ⟨by rfl, fun W hS => by first | rfl | (go_simp; done)⟩) hHeld ?_
  try simp only [Act.put, List.getElem_toArray, List.getElem_cons_succ, List.getElem_cons_zero, List.setIfInBounds_toArray, List.set_cons_zero, List.set_cons_succ]
  refine wpAnyH_take (i := 16) (v := (.pointer (some ⟨sm, A, none⟩))) rfl (by kernel_rfl) (by kernel_rfl) (by kernel_rfl) (fun _ _ _ h => h) (Or.inl ⟨by rfl, fun W hS => by first | rfl | (go_simp; done) | (go_simp; simp [r0n]; done) | (simp [go_sem, r0n]; done)⟩) hHeld ?_
  try simp only [Act.put, List.getElem_toArray, List.getElem_cons_succ, List.getElem_cons_zero, List.setIfInBounds_toArray, List.set_cons_zero, List.set_cons_succ]
  refine wpAnyH_take (i := 17) (v := (.int .u64 st)) rfl (by kernel_rfl) (by kernel_rfl) (by kernel_rfl) (fun _ _ _ h => h) (Or.inl ⟨by rfl, fun W hS => by (obtain ⟨q1, q2, q3, q4⟩ := hS; go_simp; done)⟩) hHeld ?_
  try simp only [Act.put, List.getElem_toArray, List.getElem_cons_succ, List.getElem_cons_zero, List.setIfInBounds_toArray, List.set_cons_zero, List.set_cons_succ]
  refine wpAnyH_take (i := 19) (v := (.slice (some ⟨sm, A, none⟩) rr rr)) rfl (by kernel_rfl) (by kernel_rfl) (by kernel_rfl) (fun _ _ _ h => h) (Or.inl ⟨by rfl, fun W hS => by first | rfl | (go_simp; done)⟩) hHeld ?_
  try simp only [Act.put, List.getElem_toArray, List.getElem_cons_succ, List.getElem_cons_zero, List.setIfInBounds_toArray, List.set_cons_zero, List.set_cons_succ]
  refine wpAnyH_take (i := 20) (v := (.pointer (some ⟨sm, A + 3, none⟩))) rfl (by kernel_rfl) (by kernel_rfl) (by kernel_rfl) (fun _ _ _ h => h) (Or.inl ⟨by rfl, fun W hS => by first | rfl | (go_simp; done)⟩) hHeld ?_
  try simp only [Act.put, List.getElem_toArray, List.getElem_cons_succ, List.getElem_cons_zero, List.setIfInBounds_toArray, List.set_cons_zero, List.set_cons_succ]
  refine wpAnyH_take (i := 21) (v := (.int .u64 al)) rfl (by kernel_rfl) (by kernel_rfl) (by kernel_rfl) (fun _ _ _ h => h) (Or.inl ⟨by rfl, fun W hS => by (obtain ⟨q1, q2, q3, q4⟩ := hS; go_simp; done)⟩) hHeld ?_
  try simp only [Act.put, List.getElem_toArray, List.getElem_cons_succ, List.getElem_cons_zero, List.setIfInBounds_toArray, List.set_cons_zero, List.set_cons_succ]
  refine wpAnyH_take (i := 22) (v := (.slice (some ⟨sm, A, none⟩) rr rr)) rfl (by kernel_rfl) (by kernel_rfl) (by kernel_rfl) (fun _ _ _ h => h) (Or.inl ⟨by rfl, fun W hS => by first | rfl | (go_simp; done)⟩) hHeld ?_
  try simp only [Act.put, List.getElem_toArray, List.getElem_cons_succ, List.getElem_cons_zero, List.setIfInBounds_toArray, List.set_cons_zero, List.set_cons_succ]
  refine wpAnyH_take (i := 23) (v := (.pointer (some ⟨sm, A + 4, none⟩))) rfl (by kernel_rfl) (by kernel_rfl) (by kernel_rfl) (fun _ _ _ h => h) (Or.inl ⟨by rfl, fun W hS => by first | rfl | (go_simp; done)⟩) hHeld ?_
  try simp only [Act.put, List.getElem_toArray, List.getElem_cons_succ, List.getElem_cons_zero, List.setIfInBounds_toArray, List.set_cons_zero, List.set_cons_succ]
  refine wpAnyH_take (i := 24) (v := (.int .u64 mk)) rfl (by kernel_rfl) (by kernel_rfl) (by kernel_rfl) (fun _ _ _ h => h) (Or.inl ⟨by rfl, fun W hS => by (obtain ⟨q1, q2, q3, q4⟩ := hS; go_simp; done)⟩) hHeld ?_
  try simp only [Act.put, List.getElem_toArray, List.getElem_cons_succ, List.getElem_cons_zero, List.setIfInBounds_toArray, List.set_cons_zero, List.set_cons_succ]
  refine wpAnyH_ready (rs := [14]) (by kernel_rfl) (by simp) (AllReadyH.cons rfl (fun K hK => ?_) AllReadyH.nil)
  simp only [List.getElem_toArray, List.getElem_cons_succ, List.getElem_cons_zero]
  go_simp
  refine (r6Gen_any st _ HB0.out.1 HB0.out.2).mono ?_
  rintro e u1 ⟨rfl, rfl⟩
  rw [HGN.out]
  refine hK.out _ _ hHeld (fun hHeld => ?_)
  clear hK K
  try simp only [Act.put, List.getElem_toArray, List.getElem_cons_succ, List.getElem_cons_zero, List.setIfInBounds_toArray, List.set_cons_zero, List.set_cons_succ]
  refine wpAnyH_ready (rs := [18]) (by kernel_rfl) (by simp) (AllReadyH.cons rfl (fun K hK => ?_) AllReadyH.nil)
  simp only [List.getElem_toArray, List.getElem_cons_succ, List.getElem_cons_zero]
  go_simp
  refine (r6Phase_any st _ HB0.out.1 HB0.out.2).mono ?_
  rintro e u1 ⟨rfl, rfl⟩
  rw [HPH.out]
  refine hK.out _ _ hHeld (fun hHeld => ?_)
  clear hK K
  try simp only [Act.put, List.getElem_toArray, List.getElem_cons_succ, List.getElem_cons_zero, List.setIfInBounds_toArray, List.set_cons_zero, List.set_cons_succ]
  refine wpAnyH_take (i := 25) (v := (spanV pg BQ BR GN PH al mk)) rfl (by kernel_rfl) (by kernel_rfl) (by kernel_rfl) (fun _ _ _ h => h) (Or.inl ⟨by rfl, fun W hS => by first | rfl | (go_simp; done)⟩) hHeld ?_
  try simp only [Act.put, List.getElem_toArray, List.getElem_cons_succ, List.getElem_cons_zero, List.setIfInBounds_toArray, List.set_cons_zero, List.set_cons_succ]
  refine wpAnyH_ready (rs := [26]) (by kernel_rfl) (by simp) (AllReadyH.cons rfl (fun K hK => ?_) AllReadyH.nil)
  simp only [List.getElem_toArray, List.getElem_cons_succ, List.getElem_cons_zero]
  go_simp
  obtain ⟨k1, k2, k3, k4⟩ := hHeld
  have hsm : ¬ w.heap.size = sm := HSM.out
  have hd : ∀ (W : World) (a : Addr), W.drew.cell? a = W.cell? a := fun _ _ => rfl
  refine hK.out _ _ ⟨?_, ?_, ?_, ?_⟩ (fun hHeld => ?_)
  · rw [hd, World.cell?_setCell_far _ _ _ _ hsm, World.cell?_setCell_far _ _ _ _ hsm, World.cell?_setCell_far _ _ _ _ hsm, World.cell?_setCell_far _ _ _ _ hsm, World.cell?_setCell_far _ _ _ _ hsm, World.cell?_setCell_far _ _ _ _ hsm, World.cell?_setCell_far _ _ _ _ hsm]; exact k1
  · rw [hd, World.cell?_setCell_far _ _ _ _ hsm, World.cell?_setCell_far _ _ _ _ hsm, World.cell?_setCell_far _ _ _ _ hsm, World.cell?_setCell_far _ _ _ _ hsm, World.cell?_setCell_far _ _ _ _ hsm, World.cell?_setCell_far _ _ _ _ hsm, World.cell?_setCell_far _ _ _ _ hsm]; exact k2
  · rw [hd, World.cell?_setCell_far _ _ _ _ hsm, World.cell?_setCell_far _ _ _ _ hsm, World.cell?_setCell_far _ _ _ _ hsm, World.cell?_setCell_far _ _ _ _ hsm, World.cell?_setCell_far _ _ _ _ hsm, World.cell?_setCell_far _ _ _ _ hsm, World.cell?_setCell_far _ _ _ _ hsm]; exact k3
  · rw [hd, World.cell?_setCell_far _ _ _ _ hsm, World.cell?_setCell_far _ _ _ _ hsm, World.cell?_setCell_far _ _ _ _ hsm, World.cell?_setCell_far _ _ _ _ hsm, World.cell?_setCell_far _ _ _ _ hsm, World.cell?_setCell_far _ _ _ _ hsm, World.cell?_setCell_far _ _ _ _ hsm]; exact k4
  clear hK
  try simp only [Act.put, List.getElem_toArray, List.getElem_cons_succ, List.getElem_cons_zero, List.setIfInBounds_toArray, List.set_cons_zero, List.set_cons_succ]
  refine wpAnyH_take (i := 27) (v := (.bool true)) rfl (by kernel_rfl) (by kernel_rfl) (by kernel_rfl) (fun _ _ _ h => h) (Or.inl ⟨by rfl, fun W hS => by first | rfl | (go_simp; done)⟩) hHeld ?_
  try simp only [Act.put, List.getElem_toArray, List.getElem_cons_succ, List.getElem_cons_zero, List.setIfInBounds_toArray, List.set_cons_zero, List.set_cons_succ]
  refine wpAnyH_done (by kernel_rfl) ?_ _
  go_wp2_with fail
  have hbf : Blk _ w.heap.size #[.int .i64 pg, .int .i64 BQ, .int .i64 BR, .int .i64 GN, .int .i64 PH, .int .u64 al, .int .u64 mk] 39 := ((((((HR1.out.setCell 0 (.int .i64 pg)).setCell 1 (.int .i64 BQ)).setCell 2 (.int .i64 BR)).setCell 3 (.int .i64 GN)).setCell 4 (.int .i64 PH)).setCell 5 (.int .u64 al)).setCell 6 (.int .u64 mk)
  obtain ⟨z0, z1, z2, z3, z4, z5, z6, -⟩ := hbf.seven
  exact bodyPost_ret (v := .tuple #[spanV pg BQ BR GN PH al mk, .bool true]) (by simp [z0, z1, z2, z3, z4, z5, z6, results, Tryz.results9, go_sem]) rfl ⟨rfl, (only_box7 HO1.out (.inr (by omega)) _ _ _ _ _ _ _).drew⟩
end
end Go.Proofs.YtbepbcjklgfmjaaGreatDoor

/- An access of both stores: the answers are alike. By an AI agent. -/
import Derived.Deep.RegionHeld3
import Derived.Test.YtkfjhdjllnihnaaStoreRef
import Derived.Test.YtkfjhdjllnihnaaRow
namespace Go.Proofs.Ytkfjhdjllnihnaa
open Go.RowKit
/-- The blocks of both. -/
def SB4 (b m c d : Nat) : Nat → Prop := fun j => SB b m j ∨ SB c d j
/-- Both stores stand apart, and are alike. -/
structure Twin (w : World) (b m c d : Nat) (s : StoreS) : Prop where
  one : IsStore w b m s
  two : IsRef w c d s
  apart : b ≠ c ∧ b ≠ d ∧ m ≠ c ∧ m ≠ d
theorem Twin.adds {w w' : World} {b m c d : Nat} {s : StoreS} (h : Twin w b m c d s) (ho : Adds w w') : Twin w' b m c d s := ⟨h.one.only ho id id, h.two.only ho id id, h.apart⟩
theorem Twin.drewN {w : World} {b m c d : Nat} {s : StoreS} (h : Twin w b m c d s) (n : Nat) : Twin (w.drewN n) b m c d s := h.adds ((Only.refl _ _).drewN n)
theorem Twin.lt {w : World} {b m c d : Nat} {s : StoreS} (h : Twin w b m c d s) : ∀ j, SB4 b m c d j → j < w.heap.size := by
  rintro j ((rfl | rfl) | (rfl | rfl))
  · exact h.one.head.lt
  · exact h.one.row.lt
  · exact h.two.head.lt
  · exact h.two.row.lt
/-- One has gone on. -/
theorem Twin.first {w w' : World} {b m c d : Nat} {s : StoreS} (h : Twin w b m c d s) (ho : Only (SB b m) w w') : IsRef w' c d s :=
  h.two.only ho (fun e => e.elim (fun e => h.apart.1 e.symm) (fun e => h.apart.2.2.1 e.symm)) (fun e => e.elim (fun e => h.apart.2.1 e.symm) (fun e => h.apart.2.2.2 e.symm))
/-- Both have gone on. -/
theorem Twin.both {w w1 w2 : World} {b m c d : Nat} {s s' : StoreS} (h : Twin w b m c d s) (h1 : IsStore w1 b m s') (h2 : IsRef w2 c d s') (ho1 : Only (SB b m) w w1) (ho2 : Only (SB c d) w1 w2) :
    Twin w2 b m c d s' ∧ Only (SB4 b m c d) w w2 :=
  ⟨⟨h1.only ho2 (fun e => e.elim h.apart.1 h.apart.2.1) (fun e => e.elim h.apart.2.2.1 h.apart.2.2.2), h2, h.apart⟩,
   (ho1.mono (fun _ _ => .inl)).andThen ho2 (fun _ _ => .inr)⟩
set_option maxRecDepth 100000 in
set_option maxHeartbeats 4000000 in
theorem do_any (b m c d : Nat) (s : StoreS) (w : World) (k i v o : Int) (h : Twin w b m c d s) (hk : 0 ≤ k ∧ k < 256) (hv : 0 ≤ v ∧ v < 18446744073709551616) (ho : 0 ≤ o ∧ o < 18446744073709551616) :
    Calls Try.prog 19 #[.pointer (some ⟨b, 0, none⟩), .pointer (some ⟨c, 0, none⟩), .agg #[.int .u8 k, .int .i64 i, .int .u64 v, .int .u64 o]] w fun e w' => e = .returned (.bool true) ∧ ∃ s', s'.ws.length = s.ws.length ∧ Twin w' b m c d s' ∧ Only (SB4 b m c d) w w' := by
  have hB := Blk.new w #[.int .u8 k, .int .i64 i, .int .u64 v, .int .u64 o] 42
  have HT := Lib.hid (h.adds ((Only.refl _ w).alloc (.cells #[.int .u8 k, .int .i64 i, .int .u64 v, .int .u64 o] 42)))
  have HA := Lib.hid ((Only.refl (SB4 b m c d) w).alloc (.cells #[.int .u8 k, .int .i64 i, .int .u64 v, .int .u64 o] 42))
  have HLT := Lib.hid h.lt
  have hfit := Lib.hid h.one.fit
  have o1 := hB.cell 1; have o2 := hB.cell 2; have o3 := hB.cell 3
  have hlen := h.two.fit.1
  have hrc := HT.out.two.cells.1
  obtain ⟨n, hn⟩ : ∃ n, n = s.ws.length := ⟨_, rfl⟩
  have HN := Lib.hid hn
  rw [← hn] at hrc hlen
  have hz : w.heap.size < (w.alloc (.cells #[.int .u8 k, .int .i64 i, .int .u64 v, .int .u64 o] 42)).heap.size := hB.lt
  have hk4 : k % 4 = 0 ∨ k % 4 = 1 ∨ k % 4 = 2 ∨ k % 4 = 3 := by omega
  have hnb : w.heap.size ≠ b ∧ w.heap.size ≠ m ∧ w.heap.size ≠ c ∧ w.heap.size ≠ d := by
    refine ⟨?_, ?_, ?_, ?_⟩ <;> intro e
    · have := HLT.out b (.inl (.inl rfl)); omega
    · have := HLT.out m (.inl (.inr rfl)); omega
    · have := HLT.out c (.inr (.inl rfl)); omega
    · have := HLT.out d (.inr (.inr rfl)); omega
  have HNB := Lib.hid hnb
  clear h hB hnb hn
  obtain ⟨v0, v1⟩ := hv; obtain ⟨y0, y1⟩ := ho
  by_cases hi : s.inR i
  · have hw := StoreS.word_bd hfit.out i
    have ha0 : 0 ≤ (s.word i + v) % 18446744073709551616 := by omega
    have hx := HT.out.two.wordCell hi
    have HI := Lib.hid hi
    have hi' := hi
    obtain ⟨i0, i1⟩ := hi'
    rw [← HN.out] at i1
    obtain ⟨x, hxe⟩ : ∃ x, x = s.word i := ⟨_, rfl⟩
    have HX := Lib.hid hxe
    clear hxe
    rcases hk4 with e | e | e | e
    · go_enter Try.func19, Try.ntmps19
      go_wp2_with (first
        | (go_at_call 12; refine (load_in b m i s _ HT.out.one HI.out).mono ?_; rintro e w1 ⟨rfl, h1, ho1⟩; have H1 := Lib.hid h1; have HO1 := Lib.hid ho1; have o1' := (ho1.cellF (p := ⟨w.heap.size, 1, none⟩) hz (fun e => e.elim HNB.out.1 HNB.out.2.1)).trans o1; clear h1 ho1)
        | (go_at_call 24; refine (refLoad_in c d i s _ (HT.out.first HO1.out) HI.out).mono ?_; rintro e w2 ⟨rfl, h2, ho2⟩; have H2 := Lib.hid (HT.out.both H1.out h2 HO1.out ho2); clear h2 ho2))
      go_ret
      exact ⟨by simp, _, by simp [StoreS.acc], H2.out.1, HA.out.trans H2.out.2⟩
    · go_enter Try.func19, Try.ntmps19
      go_wp2_with fail
      go_region_held3 (fun w' => w'.cell? ⟨w.heap.size, 1, none⟩ = some (.int .i64 i) ∧ w'.cell? ⟨w.heap.size, 2, none⟩ = some (.int .u64 v))
        (first | (exact ⟨by simp [*], by simp [*]⟩) | (exact ⟨by assumption, by assumption⟩))
        (first
        | (go_at_call 9; refine (put_in b m i v s _ (HT.out.adds (Only.refl _ _).drew).one HI.out v0 v1).mono ?_; rintro e w1 ⟨rfl, h1, ho1⟩; have H1 := Lib.hid h1; have HO1 := Lib.hid ho1; have o1' := (ho1.cellF (p := ⟨w.heap.size, 1, none⟩) hz (fun e => e.elim HNB.out.1 HNB.out.2.1)).trans o1; have o2' := (ho1.cellF (p := ⟨w.heap.size, 2, none⟩) hz (fun e => e.elim HNB.out.1 HNB.out.2.1)).trans o2; clear h1 ho1)
        | (go_at_call 25; refine (refPut_in c d i v s _ ((HT.out.adds (Only.refl _ _).drew).first HO1.out) HI.out v0 v1).mono ?_; rintro e w2 ⟨rfl, h2, ho2⟩; have H2 := Lib.hid ((HT.out.adds (Only.refl _ _).drew).both H1.out h2 HO1.out ho2); have o1'' := (ho2.cellF (p := ⟨w.heap.size, 1, none⟩) (Nat.lt_of_lt_of_le hz HO1.out.size) (fun e => e.elim HNB.out.2.2.1 HNB.out.2.2.2)).trans o1'; have o2'' := (ho2.cellF (p := ⟨w.heap.size, 2, none⟩) (Nat.lt_of_lt_of_le hz HO1.out.size) (fun e => e.elim HNB.out.2.2.1 HNB.out.2.2.2)).trans o2'; clear h2 ho2))
      all_goals go_wp2
      all_goals go_ret
      all_goals exact ⟨by simp, _, by simp [StoreS.acc], H2.out.1, HA.out.drew.trans H2.out.2⟩
    · by_cases h8 : 3 < k % 8
      · have hne : (s.word i != s.word i) = false := by simp
        go_enter Try.func19, Try.ntmps19
        go_wp2_with fail
        go_quiet ((fail))
        have HTA := Lib.hid (HT.out.drewN nq)
        go_wp2_with fail
        go_quiet ((fail))
        have HTQ := Lib.hid (HTA.out.drewN nq)
        rw [World.drewN_drewN] at HTQ
        go_wp2_with (first
        | (go_at_call 10; refine (cas_win b m i _ v s _ HTQ.out.one HI.out hne v0 v1).mono ?_; rintro e w1 ⟨rfl, h1, ho1⟩; have H1 := Lib.hid h1; have HO1 := Lib.hid ho1; have o1' := (ho1.cellF (p := ⟨w.heap.size, 1, none⟩) hz (fun e => e.elim HNB.out.1 HNB.out.2.1)).trans o1; have o2' := (ho1.cellF (p := ⟨w.heap.size, 2, none⟩) hz (fun e => e.elim HNB.out.1 HNB.out.2.1)).trans o2; clear h1 ho1)
        | (go_at_call 26; refine (refCas_win c d i _ v s _ (HTQ.out.first HO1.out) HI.out hne v0 v1).mono ?_; rintro e w2 ⟨rfl, h2, ho2⟩; have H2 := Lib.hid (HTQ.out.both H1.out h2 HO1.out ho2); clear h2 ho2))
        go_ret
        exact ⟨by simp, _, by simp [StoreS.acc], H2.out.1, (HA.out.drewN _).trans H2.out.2⟩
      · have h8' : decide (3 < k % 8) = false := by simpa using h8
        cases hne : (s.word i != o)
        · go_enter Try.func19, Try.ntmps19
          go_wp2_with fail
          go_quiet ((fail))
          have HTQ := Lib.hid (HT.out.drewN nq)
          go_wp2_with (first
        | (go_at_call 10; refine (cas_win b m i _ v s _ HTQ.out.one HI.out hne v0 v1).mono ?_; rintro e w1 ⟨rfl, h1, ho1⟩; have H1 := Lib.hid h1; have HO1 := Lib.hid ho1; have o1' := (ho1.cellF (p := ⟨w.heap.size, 1, none⟩) hz (fun e => e.elim HNB.out.1 HNB.out.2.1)).trans o1; have o2' := (ho1.cellF (p := ⟨w.heap.size, 2, none⟩) hz (fun e => e.elim HNB.out.1 HNB.out.2.1)).trans o2; clear h1 ho1)
        | (go_at_call 26; refine (refCas_win c d i _ v s _ (HTQ.out.first HO1.out) HI.out hne v0 v1).mono ?_; rintro e w2 ⟨rfl, h2, ho2⟩; have H2 := Lib.hid (HTQ.out.both H1.out h2 HO1.out ho2); clear h2 ho2))
          go_ret
          exact ⟨by simp, _, by simp [StoreS.acc], H2.out.1, (HA.out.drewN _).trans H2.out.2⟩
        · go_enter Try.func19, Try.ntmps19
          go_wp2_with fail
          go_quiet ((fail))
          have HTQ := Lib.hid (HT.out.drewN nq)
          go_wp2_with (first
        | (go_at_call 10; refine (cas_lost b m i _ v s _ HTQ.out.one HI.out hne).mono ?_; rintro e w1 ⟨rfl, h1, ho1⟩; have H1 := Lib.hid h1; have HO1 := Lib.hid ho1; have o1' := (ho1.cellF (p := ⟨w.heap.size, 1, none⟩) hz (fun e => e.elim HNB.out.1 HNB.out.2.1)).trans o1; have o2' := (ho1.cellF (p := ⟨w.heap.size, 2, none⟩) hz (fun e => e.elim HNB.out.1 HNB.out.2.1)).trans o2; clear h1 ho1)
        | (go_at_call 26; refine (refCas_lost c d i _ v s _ (HTQ.out.first HO1.out) HI.out hne).mono ?_; rintro e w2 ⟨rfl, h2, ho2⟩; have H2 := Lib.hid (HTQ.out.both H1.out h2 HO1.out ho2); clear h2 ho2))
          go_ret
          exact ⟨by simp, _, by simp [StoreS.acc], H2.out.1, (HA.out.drewN _).trans H2.out.2⟩
    · go_enter Try.func19, Try.ntmps19
      go_wp2_with (first
        | (go_at_call 11; refine (add_in b m i v s _ HT.out.one HI.out).mono ?_; rintro e w1 ⟨rfl, h1, ho1⟩; have H1 := Lib.hid h1; have HO1 := Lib.hid ho1; have o1' := (ho1.cellF (p := ⟨w.heap.size, 1, none⟩) hz (fun e => e.elim HNB.out.1 HNB.out.2.1)).trans o1; have o2' := (ho1.cellF (p := ⟨w.heap.size, 2, none⟩) hz (fun e => e.elim HNB.out.1 HNB.out.2.1)).trans o2; clear h1 ho1)
        | (go_at_call 27; refine (refAdd_in c d i v s _ (HT.out.first HO1.out) HI.out).mono ?_; rintro e w2 ⟨rfl, h2, ho2⟩; have H2 := Lib.hid (HT.out.both H1.out h2 HO1.out ho2); clear h2 ho2))
      go_ret
      exact ⟨by simp, _, by simp [StoreS.acc], H2.out.1, HA.out.trans H2.out.2⟩
  · have HI := Lib.hid hi
    have hw : i < 0 ∨ (0 ≤ i ∧ (n : Int) ≤ i) := by
      rcases Int.lt_or_le i 0 with h | h
      · exact .inl h
      · refine .inr ⟨h, ?_⟩
        have h2 := HN.out
        rcases Int.lt_or_le i n with h3 | h3
        · exact absurd ⟨h, by omega⟩ hi
        · exact h3
    clear hi
    rcases hk4 with e | e | e | e
    · go_enter Try.func19, Try.ntmps19
      go_wp2_with (first
        | (go_at_call 12; refine (load_out b m i s _ HT.out.one HI.out).mono ?_; rintro e w1 ⟨rfl, rfl⟩)
        | (go_at_call 24; refine (refLoad_out c d i s _ HT.out.two HI.out).mono ?_; rintro e w2 ⟨rfl, rfl⟩))
      go_ret
      exact ⟨by simp, s, rfl, HT.out, HA.out⟩
    · go_enter Try.func19, Try.ntmps19
      go_wp2_with fail
      go_quiet ((first
        | (go_at_call 9; exact Calls.quiet_of ((put_out b m i v s _ (HT.out.drewN _).one HI.out).mono (fun e w' h => ⟨h.1, 0, h.2.symm⟩)))
        | (go_at_call 25; exact Calls.quiet_of ((refPut_out c d i v s _ (HT.out.drewN _).two HI.out).mono (fun e w' h => ⟨h.1, 0, h.2.symm⟩)))))
      go_wp2
      go_ret
      exact ⟨by simp, s, rfl, HT.out.drewN _, HA.out.drewN _⟩
    · rcases hw with hw | ⟨hw0, hw1⟩
      · have g1 : decide (0 ≤ i) = false := by simp; omega
        go_enter Try.func19, Try.ntmps19
        go_wp2_with fail
        go_quiet ((fail))
        have HTQ := Lib.hid (HT.out.drewN nq)
        go_wp2_with (first
          | (go_at_call 10; refine (cas_out b m i _ v s _ HTQ.out.one HI.out).mono ?_; rintro e w1 ⟨rfl, rfl⟩)
          | (go_at_call 26; refine (refCas_out c d i _ v s _ HTQ.out.two HI.out).mono ?_; rintro e w2 ⟨rfl, rfl⟩))
        go_ret
        exact ⟨by simp, s, rfl, HTQ.out, HA.out.drewN _⟩
      · have g1 : decide (i < (n : Int)) = false := by simp; omega
        go_enter Try.func19, Try.ntmps19
        go_wp2_with fail
        go_quiet ((fail))
        have HTQ := Lib.hid (HT.out.drewN nq)
        go_wp2_with (first
          | (go_at_call 10; refine (cas_out b m i _ v s _ HTQ.out.one HI.out).mono ?_; rintro e w1 ⟨rfl, rfl⟩)
          | (go_at_call 26; refine (refCas_out c d i _ v s _ HTQ.out.two HI.out).mono ?_; rintro e w2 ⟨rfl, rfl⟩))
        go_ret
        exact ⟨by simp, s, rfl, HTQ.out, HA.out.drewN _⟩
    · go_enter Try.func19, Try.ntmps19
      go_wp2_with (first
        | (go_at_call 11; refine (add_out b m i v s _ HT.out.one HI.out).mono ?_; rintro e w1 ⟨rfl, rfl⟩)
        | (go_at_call 27; refine (refAdd_out c d i v s _ HT.out.two HI.out).mono ?_; rintro e w2 ⟨rfl, rfl⟩))
      go_ret
      exact ⟨by simp, s, rfl, HT.out, HA.out⟩
end Go.Proofs.Ytkfjhdjllnihnaa

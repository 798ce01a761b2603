/- LayoutNames: its walk. By an AI agent. -/
import Derived.Test.YtiohlcejkcccpaaLayFind
namespace Go.Proofs.Ytiohlcejkcccpaa
open Go.RowKit
theorem Blk.set3 {w : World} {b : Nat} {x y z : Value} {t : TypeId} (h : Blk w b #[x, y, z] t) (x' y' z' : Value) :
    Blk (((w.setCell ⟨b, 0, none⟩ x').setCell ⟨b, 1, none⟩ y').setCell ⟨b, 2, none⟩ z') b #[x', y', z'] t := by
  simpa using ((h.setCell 0 x').setCell 1 y').setCell 2 z'
theorem Blk.set3_other {w : World} {b d : Nat} {c : Array Value} {t : TypeId} (h : Blk w b c t) (hd : b ≠ d) (x' y' z' : Value) :
    Blk (((w.setCell ⟨d, 0, none⟩ x').setCell ⟨d, 1, none⟩ y').setCell ⟨d, 2, none⟩ z') b c t :=
  ((h.setCell_other hd 0 x').setCell_other hd 1 y').setCell_other hd 2 z'
set_option maxRecDepth 100000 in
set_option maxHeartbeats 8000000 in
theorem layoutNames_law (g : Int) (w0 : (Lit.int .u16 g).wf = true) (t : Int) (w1 : (Lit.int .u8 t).wf = true) (a : Int) (w2 : (Lit.int .u16 a).wf = true) (b : Int) (w3 : (Lit.int .u8 b).wf = true)
    (full : Bool) (w : World) :
    Calls Try.prog 5 #[.int .u16 g, .int .u8 t, .int .u16 a, .int .u8 b, .bool full] w fun e w' => e = .returned (.bool true) ∧ Below w.heap.size w w' := by
  obtain ⟨g0, g1⟩ := bd_u16 w0
  obtain ⟨t0, t1⟩ := bd_u8 w1
  obtain ⟨a0, a1⟩ := bd_u16 w2
  obtain ⟨b0, b1⟩ := bd_u8 w3
  clear w0 w1 w2 w3
  obtain ⟨P, hP⟩ : ∃ P : Int, P = 1 + g % 4096 := ⟨_, rfl⟩
  obtain ⟨T, hT⟩ : ∃ T : Int, T = 1 + t % 64 := ⟨_, rfl⟩
  have hl := lay_any g t w g0 g1 t0 t1
  rw [← hP, ← hT] at hl
  have P0 : 1 ≤ P := by omega
  have P1 : P ≤ 4096 := by omega
  have T0 : 1 ≤ T := by omega
  have T1 : T ≤ 64 := by omega
  have hm : Lay.may P T = true := Lay.may_iff.2 ⟨P0, P1, T0, T1⟩
  have o1 : Lay.headOk P T (a % 15) (b % 2) = true := by simp only [Lay.headOk, hm, Bool.true_and, decide_eq_true_eq]; omega
  have hmod : 0 ≤ a % T ∧ a % T < T := ⟨Int.emod_nonneg _ (by omega), Int.emod_lt_of_pos _ (by omega)⟩
  have hmod2 : 0 ≤ a % P ∧ a % P < P := ⟨Int.emod_nonneg _ (by omega), Int.emod_lt_of_pos _ (by omega)⟩
  have o2 : Lay.cacheOk P T (a % T) (b % 14) = true := by simp only [Lay.cacheOk, hm, Bool.true_and, decide_eq_true_eq]; omega
  have o3 : Lay.pageOk P T (9 + b % 6) (a % P) = true := by simp only [Lay.pageOk, hm, Bool.true_and, decide_eq_true_eq]; omega
  have q64 : 0 ≤ a % P / 64 ∧ a % P / 64 < (P + 63) / 64 := by
    generalize a % P = y at *
    omega
  have o4 : Lay.mapOk P T (15 + b % 2) (a % P / 64) = true := by
    simp only [Lay.mapOk, hm, Bool.true_and, decide_eq_true_eq]; unfold Lay.many; exact ⟨q64.1, q64.2, by omega⟩
  have N1 := fun (full : Bool) => Lay.name_head (full := full) o1
  have N2 := Lay.name_cache o2
  have N3 := Lay.name_page o3
  have N4 := Lay.name_map o4
  clear hm hP hT
  have n1 : Lay.nameOk P T (Lay.headAt (a % 15) full (b % 2)) = true ∧ ∃ d : Int, d = (if full = true then b % 2 + 2 else b % 2) ∧ Lay.nameAt P T (Lay.headAt (a % 15) full (b % 2)) = (7, a % 15, d) := by
    obtain ⟨x, y⟩ := N1 full
    refine ⟨x, _, rfl, ?_⟩
    rw [y]
    cases full <;> simp
  obtain ⟨n1, d, hd, n2⟩ := n1
  clear N1
  cases full
  all_goals
    simp at hd
    subst hd
    go_enter Try.func5, Try.ntmps5
    go_wp2_with fail
    refine hl.mono ?_; rintro e w1 ⟨rfl, ho⟩
    have B1 := Blk.new w1 #[.int .i64 P, .int .i64 T] 26
    have HA := Lib.hid (ho.alloc (.cells #[.int .i64 P, .int .i64 T] 26))
    have l1 := ho.size
    clear ho hl
    go_wp2_with fail
    refine (layHead_any _ _ _ _ _ _).mono ?_; rintro e w2 ⟨rfl, ho⟩; rw [atOf_yes o1]; (first | replace B1 := B1.only ho id | replace B1 := (B1.alloc _).only ho id | replace B1 := ((B1.alloc _).alloc _).only ho id | replace B1 := (((B1.alloc _).alloc _).setCell_other (by omega) 2 _).only ho id | replace B1 := (B1.set3_other hne _ _ _).only ho id); (first | replace HA := Lib.hid (HA.out.thenF ho) | replace HA := Lib.hid ((HA.out.alloc _).thenF ho) | replace HA := Lib.hid (((HA.out.alloc _).alloc _).thenF ho) | replace HA := Lib.hid ((((HA.out.alloc _).alloc _).setCell (.inr (by simp; omega)) _).thenF ho) | replace HA := Lib.hid ((Only.set3 HA.out hx _ _ _).thenF ho)); clear ho; obtain ⟨q0, q1⟩ := cells2 B1; have hz := B1.lt
    go_wp2_with fail
    refine (layName_any _ _ _ _).mono ?_; rintro e w3 ⟨rfl, ho⟩; rw [nameOf_yes n1 n2]; (first | replace B1 := B1.only ho id | replace B1 := (B1.alloc _).only ho id | replace B1 := ((B1.alloc _).alloc _).only ho id | replace B1 := (((B1.alloc _).alloc _).setCell_other (by omega) 2 _).only ho id | replace B1 := (B1.set3_other hne _ _ _).only ho id); (first | replace HA := Lib.hid (HA.out.thenF ho) | replace HA := Lib.hid ((HA.out.alloc _).thenF ho) | replace HA := Lib.hid (((HA.out.alloc _).alloc _).thenF ho) | replace HA := Lib.hid ((((HA.out.alloc _).alloc _).setCell (.inr (by simp; omega)) _).thenF ho) | replace HA := Lib.hid ((Only.set3 HA.out hx _ _ _).thenF ho)); clear ho; obtain ⟨q0, q1⟩ := cells2 B1; have hz := B1.lt
    have hne : w1.heap.size ≠ w3.heap.size := by omega
    have hx : w.heap.size ≤ w3.heap.size := by omega
    go_wp2_with fail
    refine (layCache_any _ _ _ _ _).mono ?_; rintro e w4 ⟨rfl, ho⟩; rw [atOf_yes o2]
    have BX := ((Blk.new w3 _ _).alloc _).only ho id; (first | replace B1 := B1.only ho id | replace B1 := (B1.alloc _).only ho id | replace B1 := ((B1.alloc _).alloc _).only ho id | replace B1 := (B1.set3_other hne _ _ _).only ho id | replace B1 := ((B1.set3_other hne _ _ _).drewN _).only ho id | replace B1 := ((B1.set3_other hne _ _ _).alloc _).only ho id); (first | replace HA := Lib.hid (HA.out.thenF ho) | replace HA := Lib.hid ((HA.out.alloc _).thenF ho) | replace HA := Lib.hid (((HA.out.alloc _).alloc _).thenF ho) | replace HA := Lib.hid ((Only.set3 HA.out hx _ _ _).thenF ho) | replace HA := Lib.hid (((Only.set3 HA.out hx _ _ _).drewN _).thenF ho) | replace HA := Lib.hid (((Only.set3 HA.out hx _ _ _).alloc _).thenF ho)); clear ho; obtain ⟨q0, q1⟩ := cells2 B1; have hz := B1.lt; obtain ⟨x0, x1, x2, g0, g1, g2⟩ := cells3 BX
    go_wp2_with (first
      | (go_at_call 19; refine (layPage_any _ _ _ _ _).mono ?_; rintro e w2 ⟨rfl, ho⟩; rw [atOf_yes o3]; (first | replace B1 := B1.only ho id | replace B1 := (B1.alloc _).only ho id | replace B1 := ((B1.alloc _).alloc _).only ho id | replace B1 := (B1.set3_other hne _ _ _).only ho id | replace B1 := ((B1.set3_other hne _ _ _).drewN _).only ho id | replace B1 := ((B1.set3_other hne _ _ _).alloc _).only ho id); (first | replace BX := BX.only ho id | replace BX := (BX.alloc _).only ho id | replace BX := (BX.set3 _ _ _).only ho id | replace BX := ((BX.set3 _ _ _).drewN _).only ho id | replace BX := ((BX.set3 _ _ _).alloc _).only ho id); (first | replace HA := Lib.hid (HA.out.thenF ho) | replace HA := Lib.hid ((HA.out.alloc _).thenF ho) | replace HA := Lib.hid (((HA.out.alloc _).alloc _).thenF ho) | replace HA := Lib.hid ((Only.set3 HA.out hx _ _ _).thenF ho) | replace HA := Lib.hid (((Only.set3 HA.out hx _ _ _).drewN _).thenF ho) | replace HA := Lib.hid (((Only.set3 HA.out hx _ _ _).alloc _).thenF ho)); clear ho; obtain ⟨q0, q1⟩ := cells2 B1; have hz := B1.lt; obtain ⟨x0, x1, x2, g0, g1, g2⟩ := cells3 BX)
      | (go_at_call 21; refine (layMap_any _ _ _ _ _).mono ?_; rintro e w2 ⟨rfl, ho⟩; rw [atOf_yes o4]; (first | replace B1 := B1.only ho id | replace B1 := (B1.alloc _).only ho id | replace B1 := ((B1.alloc _).alloc _).only ho id | replace B1 := (B1.set3_other hne _ _ _).only ho id | replace B1 := ((B1.set3_other hne _ _ _).drewN _).only ho id | replace B1 := ((B1.set3_other hne _ _ _).alloc _).only ho id); (first | replace BX := BX.only ho id | replace BX := (BX.alloc _).only ho id | replace BX := (BX.set3 _ _ _).only ho id | replace BX := ((BX.set3 _ _ _).drewN _).only ho id | replace BX := ((BX.set3 _ _ _).alloc _).only ho id); (first | replace HA := Lib.hid (HA.out.thenF ho) | replace HA := Lib.hid ((HA.out.alloc _).thenF ho) | replace HA := Lib.hid (((HA.out.alloc _).alloc _).thenF ho) | replace HA := Lib.hid ((Only.set3 HA.out hx _ _ _).thenF ho) | replace HA := Lib.hid (((Only.set3 HA.out hx _ _ _).drewN _).thenF ho) | replace HA := Lib.hid (((Only.set3 HA.out hx _ _ _).alloc _).thenF ho)); clear ho; obtain ⟨q0, q1⟩ := cells2 B1; have hz := B1.lt; obtain ⟨x0, x1, x2, g0, g1, g2⟩ := cells3 BX)
      | (go_at_call 23; refine (layName_any _ _ _ _).mono ?_; rintro e w2 ⟨rfl, ho⟩; (first | rw [nameOf_yes N2.1 N2.2] | rw [nameOf_yes N3.1 N3.2] | rw [nameOf_yes N4.1 N4.2]); (first | replace B1 := B1.only ho id | replace B1 := (B1.alloc _).only ho id | replace B1 := ((B1.alloc _).alloc _).only ho id | replace B1 := (B1.set3_other hne _ _ _).only ho id | replace B1 := ((B1.set3_other hne _ _ _).drewN _).only ho id | replace B1 := ((B1.set3_other hne _ _ _).alloc _).only ho id); (first | replace BX := BX.only ho id | replace BX := (BX.alloc _).only ho id | replace BX := (BX.set3 _ _ _).only ho id | replace BX := ((BX.set3 _ _ _).drewN _).only ho id | replace BX := ((BX.set3 _ _ _).alloc _).only ho id); (first | replace HA := Lib.hid (HA.out.thenF ho) | replace HA := Lib.hid ((HA.out.alloc _).thenF ho) | replace HA := Lib.hid (((HA.out.alloc _).alloc _).thenF ho) | replace HA := Lib.hid ((Only.set3 HA.out hx _ _ _).thenF ho) | replace HA := Lib.hid (((Only.set3 HA.out hx _ _ _).drewN _).thenF ho) | replace HA := Lib.hid (((Only.set3 HA.out hx _ _ _).alloc _).thenF ho)); clear ho; obtain ⟨q0, q1⟩ := cells2 B1; have hz := B1.lt; obtain ⟨x0, x1, x2, g0, g1, g2⟩ := cells3 BX)
      | (go_at_call 9; refine (awake8_any _).mono ?_; rintro e w1 ⟨rfl, ho⟩; (first | replace B1 := B1.only ho id | replace B1 := (B1.alloc _).only ho id | replace B1 := ((B1.alloc _).alloc _).only ho id | replace B1 := (B1.set3_other hne _ _ _).only ho id | replace B1 := ((B1.set3_other hne _ _ _).drewN _).only ho id | replace B1 := ((B1.set3_other hne _ _ _).alloc _).only ho id); (first | replace BX := BX.only ho id | replace BX := (BX.alloc _).only ho id | replace BX := (BX.set3 _ _ _).only ho id | replace BX := ((BX.set3 _ _ _).drewN _).only ho id | replace BX := ((BX.set3 _ _ _).alloc _).only ho id); (first | replace HA := Lib.hid (HA.out.thenF ho) | replace HA := Lib.hid ((HA.out.alloc _).thenF ho) | replace HA := Lib.hid (((HA.out.alloc _).alloc _).thenF ho) | replace HA := Lib.hid ((Only.set3 HA.out hx _ _ _).thenF ho) | replace HA := Lib.hid (((Only.set3 HA.out hx _ _ _).drewN _).thenF ho) | replace HA := Lib.hid (((Only.set3 HA.out hx _ _ _).alloc _).thenF ho)); clear ho; obtain ⟨q0, q1⟩ := cells2 B1; have hz := B1.lt; obtain ⟨x0, x1, x2, g0, g1, g2⟩ := cells3 BX))
    go_quiet ((fail))
    go_wp2_with (first
      | (go_at_call 19; refine (layPage_any _ _ _ _ _).mono ?_; rintro e w2 ⟨rfl, ho⟩; rw [atOf_yes o3]; (first | replace B1 := B1.only ho id | replace B1 := (B1.alloc _).only ho id | replace B1 := ((B1.alloc _).alloc _).only ho id | replace B1 := (B1.set3_other hne _ _ _).only ho id | replace B1 := ((B1.set3_other hne _ _ _).drewN _).only ho id | replace B1 := ((B1.set3_other hne _ _ _).alloc _).only ho id); (first | replace BX := BX.only ho id | replace BX := (BX.alloc _).only ho id | replace BX := (BX.set3 _ _ _).only ho id | replace BX := ((BX.set3 _ _ _).drewN _).only ho id | replace BX := ((BX.set3 _ _ _).alloc _).only ho id); (first | replace HA := Lib.hid (HA.out.thenF ho) | replace HA := Lib.hid ((HA.out.alloc _).thenF ho) | replace HA := Lib.hid (((HA.out.alloc _).alloc _).thenF ho) | replace HA := Lib.hid ((Only.set3 HA.out hx _ _ _).thenF ho) | replace HA := Lib.hid (((Only.set3 HA.out hx _ _ _).drewN _).thenF ho) | replace HA := Lib.hid (((Only.set3 HA.out hx _ _ _).alloc _).thenF ho)); clear ho; obtain ⟨q0, q1⟩ := cells2 B1; have hz := B1.lt; obtain ⟨x0, x1, x2, g0, g1, g2⟩ := cells3 BX)
      | (go_at_call 21; refine (layMap_any _ _ _ _ _).mono ?_; rintro e w2 ⟨rfl, ho⟩; rw [atOf_yes o4]; (first | replace B1 := B1.only ho id | replace B1 := (B1.alloc _).only ho id | replace B1 := ((B1.alloc _).alloc _).only ho id | replace B1 := (B1.set3_other hne _ _ _).only ho id | replace B1 := ((B1.set3_other hne _ _ _).drewN _).only ho id | replace B1 := ((B1.set3_other hne _ _ _).alloc _).only ho id); (first | replace BX := BX.only ho id | replace BX := (BX.alloc _).only ho id | replace BX := (BX.set3 _ _ _).only ho id | replace BX := ((BX.set3 _ _ _).drewN _).only ho id | replace BX := ((BX.set3 _ _ _).alloc _).only ho id); (first | replace HA := Lib.hid (HA.out.thenF ho) | replace HA := Lib.hid ((HA.out.alloc _).thenF ho) | replace HA := Lib.hid (((HA.out.alloc _).alloc _).thenF ho) | replace HA := Lib.hid ((Only.set3 HA.out hx _ _ _).thenF ho) | replace HA := Lib.hid (((Only.set3 HA.out hx _ _ _).drewN _).thenF ho) | replace HA := Lib.hid (((Only.set3 HA.out hx _ _ _).alloc _).thenF ho)); clear ho; obtain ⟨q0, q1⟩ := cells2 B1; have hz := B1.lt; obtain ⟨x0, x1, x2, g0, g1, g2⟩ := cells3 BX)
      | (go_at_call 23; refine (layName_any _ _ _ _).mono ?_; rintro e w2 ⟨rfl, ho⟩; (first | rw [nameOf_yes N2.1 N2.2] | rw [nameOf_yes N3.1 N3.2] | rw [nameOf_yes N4.1 N4.2]); (first | replace B1 := B1.only ho id | replace B1 := (B1.alloc _).only ho id | replace B1 := ((B1.alloc _).alloc _).only ho id | replace B1 := (B1.set3_other hne _ _ _).only ho id | replace B1 := ((B1.set3_other hne _ _ _).drewN _).only ho id | replace B1 := ((B1.set3_other hne _ _ _).alloc _).only ho id); (first | replace BX := BX.only ho id | replace BX := (BX.alloc _).only ho id | replace BX := (BX.set3 _ _ _).only ho id | replace BX := ((BX.set3 _ _ _).drewN _).only ho id | replace BX := ((BX.set3 _ _ _).alloc _).only ho id); (first | replace HA := Lib.hid (HA.out.thenF ho) | replace HA := Lib.hid ((HA.out.alloc _).thenF ho) | replace HA := Lib.hid (((HA.out.alloc _).alloc _).thenF ho) | replace HA := Lib.hid ((Only.set3 HA.out hx _ _ _).thenF ho) | replace HA := Lib.hid (((Only.set3 HA.out hx _ _ _).drewN _).thenF ho) | replace HA := Lib.hid (((Only.set3 HA.out hx _ _ _).alloc _).thenF ho)); clear ho; obtain ⟨q0, q1⟩ := cells2 B1; have hz := B1.lt; obtain ⟨x0, x1, x2, g0, g1, g2⟩ := cells3 BX)
      | (go_at_call 9; refine (awake8_any _).mono ?_; rintro e w1 ⟨rfl, ho⟩; (first | replace B1 := B1.only ho id | replace B1 := (B1.alloc _).only ho id | replace B1 := ((B1.alloc _).alloc _).only ho id | replace B1 := (B1.set3_other hne _ _ _).only ho id | replace B1 := ((B1.set3_other hne _ _ _).drewN _).only ho id | replace B1 := ((B1.set3_other hne _ _ _).alloc _).only ho id); (first | replace BX := BX.only ho id | replace BX := (BX.alloc _).only ho id | replace BX := (BX.set3 _ _ _).only ho id | replace BX := ((BX.set3 _ _ _).drewN _).only ho id | replace BX := ((BX.set3 _ _ _).alloc _).only ho id); (first | replace HA := Lib.hid (HA.out.thenF ho) | replace HA := Lib.hid ((HA.out.alloc _).thenF ho) | replace HA := Lib.hid (((HA.out.alloc _).alloc _).thenF ho) | replace HA := Lib.hid ((Only.set3 HA.out hx _ _ _).thenF ho) | replace HA := Lib.hid (((Only.set3 HA.out hx _ _ _).drewN _).thenF ho) | replace HA := Lib.hid (((Only.set3 HA.out hx _ _ _).alloc _).thenF ho)); clear ho; obtain ⟨q0, q1⟩ := cells2 B1; have hz := B1.lt; obtain ⟨x0, x1, x2, g0, g1, g2⟩ := cells3 BX))
    go_ret
    exact ⟨rfl, HA.out.below (Nat.le_refl _) (fun _ _ h => h)⟩
end Go.Proofs.Ytiohlcejkcccpaa

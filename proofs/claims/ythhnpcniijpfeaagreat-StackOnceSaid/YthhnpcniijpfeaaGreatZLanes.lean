/- Package dustpanplay: Arenas, Put, Same. Lists of runs, words compared: both sides. Machines of both sides, in lanes: what a step of one leaves of the others. By an AI agent. -/
import Derived.Test.YthhnpcniijpfeaaGreatZDoc
import Derived.Test.YthhnpcniijpfeaaGreatZ6
import Derived.Test.YthhnpcniijpfeaaGreatZ1
import Derived.Deep.LoopGhost
import Derived.Maps.AppendAt
namespace Go.Proofs.YthhnpcniijpfeaaGreat
open Go.RowKit
set_option linter.unusedSimpArgs false
set_option linter.unusedVariables false
/-- Block rb is runs of one run, of P pages; rg its list's row. -/
structure OneRun (w : World) (rb rg : Nat) (P : Int) : Prop where
  head : ∃ tb cp, Blk w rb #[.int .i64 P, .slice none 0 0, .int .i64 1, .pointer (some ⟨tb, 0, none⟩), .slice (some ⟨rg, 0, none⟩) 1 cp, .int .i64 P] 132
  row : ∃ cap c, 1 ≤ cap ∧ cap ≤ maxLen ∧ c.size = cap * 2 ∧ Blk w rg c 128 ∧ c[0]? = some (.int .i64 0) ∧ c[1]? = some (.int .i64 P)
theorem OneRun.of {w0 w : World} {rb : Nat} {P : Int} (h : RunsOne w0 w rb P 0 P) : ∃ rg, OneRun w rb rg P := by
  obtain ⟨⟨tb, nb, v, h1, h2, h3, h4⟩, h5⟩ := h
  obtain ⟨_, ⟨_, hbad⟩ | ⟨g, cap, cur, rfl, hb, hg, hn, hc, hs, ht⟩⟩ := h3
  · omega
  · have e1 : (cur.toList.take (1 * 2))[0]? = some (.int .i64 0) := by rw [ht]; rfl
    have e2 : (cur.toList.take (1 * 2))[1]? = some (.int .i64 P) := by rw [ht]; rfl
    rw [List.getElem?_take_of_lt (by omega)] at e1 e2
    exact ⟨g, ⟨tb, cap, h1⟩, cap, cur, hn, hc, hs, hg, by simpa using e1, by simpa using e2⟩
/-- The types of blocks that no machine turns. -/
def BT (t : TypeId) : Prop := t = 115 ∨ t = 132 ∨ t = 128 ∨ t = 30 ∨ t = 137
instance (t : TypeId) : Decidable (BT t) := inferInstanceAs (Decidable (_ ∨ _))
/-- An arena of each side. -/
structure Both (w : World) (ab sb sm rb rg bb tb tm ub fb : Nat) (P T : Int) (s s' : StoreS) : Prop where
  yard : Yard w ab sb sm rb P T s
  run : OneRun w rb rg P
  mem : IsMem w bb tb tm ub fb P T s'
  ne : sm ≠ tm
section
variable {w w' : World} {ab sb sm rb rg bb tb tm ub fb mb : Nat} {P T : Int} {s s' s2 : StoreS} {lg : Value}
theorem Both.keep {S : Nat → Prop} (h : Both w ab sb sm rb rg bb tb tm ub fb P T s s') (ho : Only S w w') (q : ∀ b c t, Blk w b c t → BT t → ¬ S b) (h1 : ¬ S sb) (h2 : ¬ S sm) (h3 : ¬ S tb) (h4 : ¬ S tm) (h5 : ¬ S fb) : Both w' ab sb sm rb rg bb tb tm ub fb P T s s' := by
  obtain ⟨tl, db, hr⟩ := h.mem.ru
  obtain ⟨t1, cp, hh⟩ := h.run.head
  obtain ⟨cap, c, a1, a2, a3, hc, a4, a5⟩ := h.run.row
  exact ⟨h.yard.only ho (q _ _ _ h.yard.ar.head (by decide)) h1 h2, ⟨⟨t1, cp, hh.only ho (q _ _ _ hh (by decide))⟩, cap, c, a1, a2, a3, hc.only ho (q _ _ _ hc (by decide)), a4, a5⟩,
    h.mem.only ho (q _ _ _ h.mem.head (by decide)) h3 h4 (q _ _ _ hr (by decide)) h5, h.ne⟩
theorem Both.adds (h : Both w ab sb sm rb rg bb tb tm ub fb P T s s') (ho : Adds w w') : Both w' ab sb sm rb rg bb tb tm ub fb P T s s' := h.keep ho (fun _ _ _ _ _ => id) id id id id id
/-- What a step of the program's side turns. -/
theorem Both.accA (h : Both w ab sb sm rb rg bb tb tm ub fb P T s s') {M : Nat → Prop} (hM : ∀ b c t, Blk w b c t → M b → ¬ BT t ∧ t ≠ 101 ∧ t ≠ 48 ∧ t ≠ 4) (ho : Only (fun j => SB sb sm j ∨ M j) w w') (hy : Yard w' ab sb sm rb P T s2) : Both w' ab sb sm rb rg bb tb tm ub fb P T s2 s' := by
  have q : ∀ b c t, Blk w b c t → (t ≠ 118 ∧ (t ≠ 48 ∨ b ≠ sm) ∧ (BT t ∨ t = 101 ∨ t = 48 ∨ t = 4)) → ¬ (SB sb sm b ∨ M b) := fun b c t hb ht e => by
    rcases e with (e | e) | e
    · subst e; exact ht.1 (hb.uniq h.yard.st.head).2
    · rcases ht.2.1 with e1 | e1
      · subst e; exact e1 (hb.uniq h.yard.st.row).2
      · exact e1 e
    · obtain ⟨m1, m2, m3, m4⟩ := hM b c t hb e
      rcases ht.2.2 with e1 | e1 | e1 | e1
      · exact m1 e1
      · exact m2 e1
      · exact m3 e1
      · exact m4 e1
  obtain ⟨tl, db, hr⟩ := h.mem.ru
  obtain ⟨t1, cp, hh⟩ := h.run.head
  obtain ⟨cap, c, a1, a2, a3, hc, a4, a5⟩ := h.run.row
  refine ⟨hy, ⟨⟨t1, cp, hh.only ho (q _ _ _ hh ⟨by decide, .inl (by decide), by decide⟩)⟩, cap, c, a1, a2, a3, hc.only ho (q _ _ _ hc ⟨by decide, .inl (by decide), by decide⟩), a4, a5⟩,
    h.mem.only ho (q _ _ _ h.mem.head ⟨by decide, .inl (by decide), by decide⟩) (q _ _ _ h.mem.st.head ⟨by decide, .inl (by decide), by decide⟩) (q _ _ _ h.mem.st.row ⟨by decide, .inr h.ne.symm, by decide⟩) (q _ _ _ hr ⟨by decide, .inl (by decide), by decide⟩) (q _ _ _ h.mem.fr ⟨by decide, .inl (by decide), by decide⟩), h.ne⟩
/-- What a step of the document's side turns. -/
theorem Both.accB (h : Both w ab sb sm rb rg bb tb tm ub fb P T s s') {M : Nat → Prop} (hM : ∀ b c t, Blk w b c t → M b → ¬ BT t ∧ t ≠ 118 ∧ (t ≠ 48 ∨ b ≠ sm) ∧ t ≠ 4) (ho : Only (fun j => SB tb tm j ∨ M j) w w') (hy : IsMem w' bb tb tm ub fb P T s2) : Both w' ab sb sm rb rg bb tb tm ub fb P T s s2 := by
  have q : ∀ b c t, Blk w b c t → (t ≠ 101 ∧ (t ≠ 48 ∨ b = sm) ∧ (BT t ∨ t = 118 ∨ (t = 48 ∧ b = sm))) → ¬ (SB tb tm b ∨ M b) := fun b c t hb ht e => by
    rcases e with (e | e) | e
    · subst e; exact ht.1 (hb.uniq h.mem.st.head).2
    · rcases ht.2.1 with e1 | e1
      · subst e; exact e1 (hb.uniq h.mem.st.row).2
      · exact h.ne (e1.symm.trans e)
    · obtain ⟨m1, m2, m3, m4⟩ := hM b c t hb e
      rcases ht.2.2 with e1 | e1 | e1
      · exact m1 e1
      · exact m2 e1
      · rcases m3 with e2 | e2
        · exact e2 e1.1
        · exact e2 e1.2
  obtain ⟨t1, cp, hh⟩ := h.run.head
  obtain ⟨cap, c, a1, a2, a3, hc, a4, a5⟩ := h.run.row
  exact ⟨h.yard.only ho (q _ _ _ h.yard.ar.head ⟨by decide, .inl (by decide), .inl (by decide)⟩) (q _ _ _ h.yard.st.head ⟨by decide, .inl (by decide), .inr (.inl rfl)⟩) (q _ _ _ h.yard.st.row ⟨by decide, .inr rfl, .inr (.inr ⟨rfl, rfl⟩)⟩), ⟨⟨t1, cp, hh.only ho (q _ _ _ hh ⟨by decide, .inl (by decide), .inl (by decide)⟩)⟩, cap, c, a1, a2, a3, hc.only ho (q _ _ _ hc ⟨by decide, .inl (by decide), .inl (by decide)⟩), a4, a5⟩, hy, h.ne⟩
end
set_option maxRecDepth 100000 in
set_option maxHeartbeats 2000000 in
theorem arenas_ok (P T : Int) (w : World) (hm : Lay.may P T = true) :
    Calls Tryz.prog 25 #[.agg #[.int .i64 P, .int .i64 T, .slice none 0 0]] w fun e w' => ∃ ab sb sm rb rg bb tb tm ub fb, e = .returned (.tuple #[.pointer (some ⟨ab, 0, none⟩), .pointer (some ⟨bb, 0, none⟩)]) ∧
      Both w' ab sb sm rb rg bb tb tm ub fb P T (StoreS.begun (Lay.words P T).toNat 0 1) (StoreS.begun (Lay.words P T).toNat 0 1) ∧ Adds w w' ∧ (w.heap.size ≤ ab ∧ w.heap.size ≤ sb ∧ w.heap.size ≤ sm ∧ w.heap.size ≤ bb ∧ w.heap.size ≤ tb ∧ w.heap.size ≤ tm) := by
  have HM := Lib.hid hm
  have hx := Blk.new w #[.int .i64 P, .int .i64 T, .slice none 0 0] 67
  obtain ⟨wx, hwx⟩ : ∃ wx, wx = w.alloc (.cells #[.int .i64 P, .int .i64 T, .slice none 0 0] 67) := ⟨_, rfl⟩
  obtain ⟨xb, hxb⟩ : ∃ xb, xb = w.heap.size := ⟨_, rfl⟩
  have hAx : Adds w wx := by rw [hwx]; exact (Only.refl _ _).alloc _
  rw [← hwx, ← hxb] at hx
  have s0 : wx.cell? ⟨xb, 0, none⟩ = some (.int .i64 P) := hx.cell 0
  have s1 : wx.cell? ⟨xb, 1, none⟩ = some (.int .i64 T) := hx.cell 1
  have s2 : wx.cell? ⟨xb, 2, none⟩ = some (.slice none 0 0) := hx.cell 2
  have HA := Lib.hid hAx; have HWX := Lib.hid hwx; have HXB := Lib.hid hxb
  have HK : Hid (∀ W W', (W.cell? ⟨xb, 0, none⟩ = some (.int .i64 P) ∧ W.cell? ⟨xb, 1, none⟩ = some (.int .i64 T) ∧ W.cell? ⟨xb, 2, none⟩ = some (.slice none 0 0)) → Adds W W' → (W'.cell? ⟨xb, 0, none⟩ = some (.int .i64 P) ∧ W'.cell? ⟨xb, 1, none⟩ = some (.int .i64 T) ∧ W'.cell? ⟨xb, 2, none⟩ = some (.slice none 0 0))) := Lib.hid (fun W W' h ho => by
    obtain ⟨q0, q1, q2⟩ := h
    exact ⟨(ho.cellF (p := ⟨xb, 0, none⟩) (cell_lt q0) id).trans q0, (ho.cellF (p := ⟨xb, 1, none⟩) (cell_lt q1) id).trans q1, (ho.cellF (p := ⟨xb, 2, none⟩) (cell_lt q2) id).trans q2⟩)
  clear hm hx hwx hxb hAx
  go_enter Tryz.func25, Tryz.ntmps25
  go_upto_region 1 with fail
  rw [← HWX.out, ← HXB.out]
  go_cut [4, 5] (fun x y wc => ∃ ab sb sm rb rg bb tb tm ub fb, x = .pointer (some ⟨ab, 0, none⟩) ∧ y = .pointer (some ⟨bb, 0, none⟩) ∧ Hid (Both wc ab sb sm rb rg bb tb tm ub fb P T (StoreS.begun (Lay.words P T).toNat 0 1) (StoreS.begun (Lay.words P T).toNat 0 1) ∧ Adds wx wc) ∧ wx.heap.size ≤ ab ∧ wx.heap.size ≤ sb ∧ wx.heap.size ≤ sm ∧ wx.heap.size ≤ bb ∧ wx.heap.size ≤ tb ∧ wx.heap.size ≤ tm)
  case first =>
    go_region_held3 (fun W => W.cell? ⟨xb, 0, none⟩ = some (.int .i64 P) ∧ W.cell? ⟨xb, 1, none⟩ = some (.int .i64 T) ∧ W.cell? ⟨xb, 2, none⟩ = some (.slice none 0 0))
      (first | (exact ⟨s0, s1, s2⟩) | (exact HK.out _ _ (by assumption) (by assumption)))
      (first
      | (go_at_call 38; refine (arenaNew_ok P T _ HM.out).mono ?_; rintro e w1 ⟨ab, sb, sm, rb, rfl, ha, hs, hr, ho1, hl1⟩)
      | (go_at_call 49; refine (newMem_ok P T _ HM.out).mono ?_; rintro e w2 ⟨bb, tb, tm, ub, fb, rfl, hmem, ho2, hl2⟩))
    all_goals
      go_wp2_with fail
      go_meet
      obtain ⟨rg, hrun⟩ := OneRun.of hr
      have hrun2 := hrun
      obtain ⟨t1, cp, hh⟩ := hrun.head
      obtain ⟨cap, c, a1, a2, a3, hc, a4, a5⟩ := hrun.row
      have z0 : wx.drew.heap.size = wx.heap.size := rfl
      have z1 := ho1.size; have z2 := ho2.size
      have k1 := hs.row.lt; have k2 := hmem.st.row.lt
      first
        | exact ⟨ab, sb, sm, rb, rg, bb, tb, tm, ub, fb, rfl, rfl, Lib.hid ⟨⟨⟨ha.only ho2 id, hs.only ho2 id id⟩, ⟨⟨t1, cp, hh.only ho2 id⟩, cap, c, a1, a2, a3, hc.only ho2 id, a4, a5⟩, hmem, by omega⟩, ((Only.refl (fun _ => False) wx).drew.thenF ho1).thenF ho2⟩, by omega, by omega, by omega, by omega, by omega, by omega⟩
        | exact ⟨ab, sb, sm, rb, rg, bb, tb, tm, ub, fb, rfl, rfl, Lib.hid ⟨⟨⟨ha, hs⟩, hrun2, hmem.adds ho1, by omega⟩, ((Only.refl (fun _ => False) wx).drew.thenF ho2).thenF ho1⟩, by omega, by omega, by omega, by omega, by omega, by omega⟩
  case rest =>
    obtain ⟨ab, sb, sm, rb, rg, bb, tb, tm, ub, fb, rfl, rfl, HC, b1, b2, b3, b4, b5, b6⟩ := hcut
    have HAr := Lib.hid HC.out.1.yard.ar
    go_wp2_with (first
      | (go_at_call 32; refine (arenaStore_any HAr.out).mono ?_; rintro e w5 ⟨rfl, rfl⟩)
      | (go_at_call 46; refine (arenaRuns_any HAr.out).mono ?_; rintro e w5 ⟨rfl, rfl⟩))
    go_ret2
    have hz := HA.out.size
    exact ⟨ab, sb, sm, rb, rg, bb, tb, tm, ub, fb, rfl, HC.out.1, HA.out.thenF HC.out.2, by omega, by omega, by omega, by omega, by omega, by omega⟩
section
variable {w : World} {ab sb sm rb rg bb tb tm ub fb : Nat} {P T i v : Int} {s s' : StoreS}
end
set_option maxRecDepth 100000 in
set_option maxHeartbeats 1000000 in
theorem cloneRun_one (g cp : Nat) (a n : Int) (w : World) (h0 : w.cell? ⟨g, 0, none⟩ = some (.int .i64 a)) (h1 : w.cell? ⟨g, 1, none⟩ = some (.int .i64 n)) :
    Calls Tryz.prog 68 #[.slice (some ⟨g, 0, none⟩) 1 cp] w fun e w' => ∃ v, e = .returned v ∧ w'.ownsRow w.heap.size 128 2 v 1 [.int .i64 a, .int .i64 n] ∧ Adds w w' := by
  have he := fun W => Lib.run_eql_slice_nil (P := Tryz.prog) W 106 128 (some ⟨g, 0, none⟩) 1 cp 0 0 Tryz.underlying106
  obtain ⟨i0, hi, hz0, hz1, hz2⟩ := info_parts infoRun
  have hown := World.ownsRow_made (base := w.heap.size) (e := 128) (size := 2) w #[] 0 (Nat.le_refl _) (by unfold maxLen; omega) rfl
  have hc' : ∀ j u, [Value.int .i64 a, Value.int .i64 n][j]? = some u → (w.alloc (Obj.cells #[] 128)).cell? ((⟨g, 0, none⟩ : Addr).add j) = some u := fun j u hj => by
    rw [World.cell?_alloc_lt _ _ _ (by unfold Addr.add; split <;> exact cell_lt h0)]
    match j, hj with
    | 0, hj => simp at hj; subst hj; simpa [Addr.add] using h0
    | 1, hj => simp at hj; subst hj; simpa [Addr.add] using h1
  have HC := Lib.hid hc'
  clear hc' h0 h1
  go_enter Tryz.func68, Tryz.ntmps68
  go_wp2_with (at_builtin; refine wpList_append_own _ rfl _ _ 106 rfl w.heap.size 128 i0 (.agg #[.int .i64 0, .int .i64 0]) 2 16 Tryz.underlying106 hi hz0 hz1 hz2 rfl (by decide) _ _ _ rfl hown ⟨g, 0, none⟩ 1 cp [.int .i64 a, .int .i64 n] rfl rfl HC.out (by simp [Value.oneCell']) (by unfold maxLen; omega) (by omega) (by simp) ?_; intro v' w1 hown' hgrow _)
  simp only [Nat.zero_add, List.nil_append] at hown'
  go_ret
  have hb := ((Below.refl w.heap.size w).alloc (Nat.le_refl _) (Obj.cells #[] 128)).grown hgrow (by simp) (fun k hk => by cases hk; exact Nat.le_refl _)
  exact ⟨_, rfl, hown', ⟨hb.os, hb.tape, hb.output, hb.size, fun k hk _ => hb.block k hk⟩⟩
theorem ownOne {w : World} {base : Nat} {v : Value} {a n : Int} (h : w.ownsRow base 128 2 v 1 [.int .i64 a, .int .i64 n]) : ∃ g cp, v = .slice (some ⟨g, 0, none⟩) 1 cp ∧ w.cell? ⟨g, 0, none⟩ = some (.int .i64 a) ∧ w.cell? ⟨g, 1, none⟩ = some (.int .i64 n) := by
  obtain ⟨_, ⟨_, h1⟩ | ⟨g, cap, cur, h1, h2, h3, _, _, _, h5⟩⟩ := h
  · cases h1
  · have e1 : (cur.toList.take (1 * 2))[0]? = some (.int .i64 a) := by rw [h5]; rfl
    have e2 : (cur.toList.take (1 * 2))[1]? = some (.int .i64 n) := by rw [h5]; rfl
    rw [List.getElem?_take_of_lt (by omega)] at e1 e2
    exact ⟨g, cap, h1, by simpa [World.cell?, h3] using e1, by simpa [World.cell?, h3] using e2⟩
set_option maxHeartbeats 2000000 in
theorem sameRuns_one (g h c1 c2 : Nat) (a n : Int) (w : World) (q0 : w.cell? ⟨g, 0, none⟩ = some (.int .i64 a)) (q1 : w.cell? ⟨g, 1, none⟩ = some (.int .i64 n)) (r0 : w.cell? ⟨h, 0, none⟩ = some (.int .i64 a)) (r1 : w.cell? ⟨h, 1, none⟩ = some (.int .i64 n)) :
    Calls Tryz.prog 45 #[.slice (some ⟨g, 0, none⟩) 1 c1, .slice (some ⟨h, 0, none⟩) 1 c2] w fun e w' => e = .returned (.bool true) ∧ ∃ k, w' = w.drewN k := by
  go_enter Tryz.func45, Tryz.ntmps45
  go_wp2
  go_loopw [5] (fun i wr => ∃ k m : Nat, k ≤ 1 ∧ i = .int .i64 k ∧ wr = w.drewN m) (fun i _ => 1 - (intOf i).toNat)
  case atStart => exact ⟨0, 0, Nat.zero_le _, rfl, rfl⟩
  case round =>
    obtain ⟨k, m, hk, rfl, rfl⟩ := hrel
    have hk2 : k = 0 ∨ k = 1 := by omega
    rcases hk2 with rfl | rfl
    · have s1 : (a != a) = false := by simp
      have s2 : (n != n) = false := by simp
      go_wp2
      go_quiet ((fail))
      go_wp2
      go_roundw
      case rel => exact ⟨1, _, by omega, by go_num, rfl⟩
      case measure => simp [intOf]
    · go_wp2
      go_ret
      exact ⟨rfl, m, rfl⟩
set_option maxRecDepth 100000 in
set_option maxHeartbeats 2000000 in
theorem sameWords_eq (g d n c1 c2 : Nat) (f : Nat → Int) (w : World) (q1 : ∀ j : Nat, j < n → w.cell? ⟨g, j, none⟩ = some (.int .u64 (f j))) (q2 : ∀ j : Nat, j < n → w.cell? ⟨d, j, none⟩ = some (.int .u64 (f j))) (hn : n < 1000000) :
    Calls Tryz.prog 44 #[.slice (some ⟨g, 0, none⟩) n c1, .slice (some ⟨d, 0, none⟩) n c2] w fun e w' => e = .returned (.bool true) ∧ ∃ k, w' = w.drewN k := by
  have Q1 := Lib.hid q1; have Q2 := Lib.hid q2
  clear q1 q2
  go_enter Tryz.func44, Tryz.ntmps44
  go_wp2
  go_loopw [5] (fun i wr => ∃ k m : Nat, k ≤ n ∧ i = .int .i64 k ∧ wr = w.drewN m) (fun i _ => n - (intOf i).toNat)
  case atStart => exact ⟨0, 0, Nat.zero_le _, rfl, rfl⟩
  case round =>
    obtain ⟨k, m, hk, rfl, rfl⟩ := hrel
    by_cases hkn : k < n
    · have p1 := Q1.out k hkn; have p2 := Q2.out k hkn
      obtain ⟨x, hx⟩ : ∃ x, x = f k := ⟨_, rfl⟩
      rw [← hx] at p1 p2
      clear hx
      have t1 : (x != x) = false := by simp
      go_wp2
      go_quiet ((fail))
      go_wp2
      go_roundw
      case rel => exact ⟨k + 1, _, by omega, by go_num, rfl⟩
      case measure => simp [intOf]; omega
    · go_wp2
      go_ret
      exact ⟨rfl, m, rfl⟩
set_option maxHeartbeats 1000000 in
theorem runsList_run {w : World} {rb rg : Nat} {P : Int} (h : OneRun w rb rg P) :
    Calls Tryz.prog 47 #[.pointer (some ⟨rb, 0, none⟩)] w fun e w' => ∃ g cp, e = .returned (.slice (some ⟨g, 0, none⟩) 1 cp) ∧ w'.cell? ⟨g, 0, none⟩ = some (.int .i64 0) ∧ w'.cell? ⟨g, 1, none⟩ = some (.int .i64 P) ∧ Adds w w' := by
  obtain ⟨tb, cp, h1⟩ := h.head
  obtain ⟨cap, c, a1, a2, a3, hc, a4, a5⟩ := h.row
  have q0 : w.cell? ⟨rg, 0, none⟩ = some (.int .i64 0) := (hc.cell 0).trans a4
  have q1 : w.cell? ⟨rg, 1, none⟩ = some (.int .i64 P) := (hc.cell 1).trans a5
  have c4 : w.cell? ⟨rb, 4, none⟩ = some (.slice (some ⟨rg, 0, none⟩) 1 cp) := h1.cell 4
  clear h h1 hc a1 a2 a3 a4 a5
  go_enter Tryz.func47, Tryz.ntmps47
  go_wp2_with (go_at_call 68; refine (cloneRun_one rg cp 0 P _ q0 q1).mono ?_; rintro e w1 ⟨v, rfl, hv, ho⟩; obtain ⟨g2, cp2, rfl, r0, r1⟩ := ownOne hv; have HO := Lib.hid ho; clear ho hv)
  go_ret
  exact ⟨_, _, rfl, r0, r1, HO.out⟩
set_option maxRecDepth 100000 in
set_option maxHeartbeats 2000000 in
theorem refRunsList {w : World} {bb tb tm ub fb : Nat} {P T : Int} {s : StoreS} (h : IsMem w bb tb tm ub fb P T s) (p1 : 1 ≤ P) (p2 : P ≤ 4096) :
    Calls Tryz.prog 48 #[.pointer (some ⟨ub, 0, none⟩)] w fun e w' => ∃ g cp, e = .returned (.slice (some ⟨g, 0, none⟩) 1 cp) ∧ w'.cell? ⟨g, 0, none⟩ = some (.int .i64 0) ∧ w'.cell? ⟨g, 1, none⟩ = some (.int .i64 P) ∧ Adds w w' := by
  obtain ⟨tl, db, hr⟩ := h.ru
  obtain ⟨n, rfl⟩ : ∃ n : Nat, P = (n : Int) := ⟨P.toNat, by omega⟩
  obtain ⟨i0, hi, hz0, hz1, hz2⟩ := info_parts infoRun
  have hfr := h.fr
  rw [Int.toNat_natCast] at hr hfr
  have HR := Lib.hid hr; have HF := Lib.hid hfr
  clear h hr hfr
  go_enter Tryz.func48, Tryz.ntmps48
  go_wp2_with fail
  go_loopw [3, 4] (fun o i wr => ∃ k : Nat, k ≤ n ∧ i = .int .i64 (k : Int) ∧ Hid (Adds w wr) ∧ ((k = 0 ∧ o = .slice none 0 0) ∨ (1 ≤ k ∧ ∃ gb cp, o = .slice (some ⟨gb, 0, none⟩) 1 cp ∧ w.heap.size ≤ gb ∧ ∃ c, Hid (Blk wr gb c 128) ∧ c[0]? = some (.int .i64 0) ∧ c[1]? = some (.int .i64 (k : Int))))) (fun _ i _ => ((n : Int) - intOf i).toNat)
  case atStart => exact ⟨0, by omega, rfl, Lib.hid (Only.refl _ _), .inl ⟨rfl, rfl⟩⟩
  case round =>
    obtain ⟨k, hk, rfl, HA, hcase⟩ := hrel
    have c0 : wr.cell? ⟨ub, 0, none⟩ = some (.slice (some ⟨fb, 0, none⟩) n n) := (HR.out.only HA.out id).cell 0
    by_cases hk2 : k < n
    · have cf : wr.cell? ⟨fb, k, none⟩ = some (.bool true) := ((HF.out.only HA.out id).cell k).trans (by unfold fillB; simp [hk2])
      have g5 : (k : Int) < n := by omega
      have g6 : (0 : Int) ≤ k := by omega
      have e5 : IntKind.i64.wrap ((k : Int) + 1) = (k : Int) + 1 := by rw [IntKind.wrap_i64]; omega
      obtain ⟨rfl, rfl⟩ | ⟨hk1, gb, cp, rfl, hgb, c, HC, y0, y1⟩ := hcase
      · clear hk g6 e5
        have g5 : (0 : Int) < n := by omega
        go_upto_region 6 with fail
        go_upto_region 7 with fail
        go_quiet (fail)
        go_wp2_with (at_builtin; go_loud (refine wpList_append_own _ rfl _ _ 106 rfl w.heap.size 128 i0 (.agg #[.int .i64 0, .int .i64 0]) 2 16 Tryz.underlying106 hi hz0 hz1 hz2 rfl (by decide) (.slice none 0 0) 0 [] rfl (World.ownsRow_nil _ _ _ _) ⟨_, 0, none⟩ 1 1 [.int .i64 0, .int .i64 1] rfl rfl (cells_newL _ _ _) (by simp [Value.oneCell']) (by unfold maxLen; omega) (by omega) (by have := HA.out.size; simp; omega) ?_); intro v' w3 hown3 hgrow3 hnil3)
        go_roundw
        case rel =>
          have hA3 : Adds w w3 := ((HA.out.drewN _).alloc _).thenF (adds_grownN hgrow3)
          obtain ⟨_, ⟨_, hbad⟩ | ⟨g, cap, cur, rfl, hb, hg, hn, hc, hs, ht⟩⟩ := hown3
          · omega
          · have e1 : (cur.toList.take ((0 + 1) * 2))[0]? = some (.int .i64 0) := by rw [ht]; rfl
            have e2 : (cur.toList.take ((0 + 1) * 2))[1]? = some (.int .i64 1) := by rw [ht]; rfl
            rw [List.getElem?_take_of_lt (by omega)] at e1 e2
            exact ⟨1, by omega, rfl, Lib.hid hA3, .inr ⟨by omega, g, cap, rfl, hb, cur, Lib.hid hg, by simpa using e1, by simpa using e2⟩⟩
        case measure => simp [intOf]; omega
      · have e6 : IntKind.i64.wrap (0 + (k : Int)) = (k : Int) := by rw [IntKind.wrap_i64]; omega
        have r0 : wr.cell? ⟨gb, 0, none⟩ = some (.int .i64 0) := (HC.out.cell 0).trans y0
        have r1 : wr.cell? ⟨gb, 1, none⟩ = some (.int .i64 (k : Int)) := (HC.out.cell 1).trans y1
        have f1 := HC.out.frozen 1
        go_upto_region 7 with fail
        go_quiet (fail)
        go_wp2_with fail
        go_roundw
        case rel =>
          have hlen : 1 < c.size := by
            rcases Nat.lt_or_ge 1 c.size with h1 | h1
            · exact h1
            · rw [Array.getElem?_eq_none h1] at y1; cases y1
          exact ⟨k + 1, by omega, by go_num, Lib.hid ((HA.out.drewN _).setCell (p := ⟨gb, 1, none⟩) (.inr hgb) _), .inr ⟨by omega, gb, cp, rfl, hgb, _, Lib.hid ((HC.out.drewN _).setCell 1 _), by simpa using y0, by simp [hlen]⟩⟩
        case measure => simp [intOf]; omega
    · obtain ⟨rfl, rfl⟩ | ⟨hk1, gb, cp, rfl, hgb, c, HC, y0, y1⟩ := hcase
      · omega
      · obtain rfl : k = n := by omega
        go_wp2_with fail
        go_ret
        exact ⟨gb, cp, rfl, (HC.out.cell 0).trans y0, (HC.out.cell 1).trans y1, HA.out⟩
theorem rowU_cells {w : World} {base n : Nat} {v : Value} {xs : List Int} (h : w.ownsRow base 48 1 v n (xs.map (Value.int .u64))) (hn : xs.length = n) (h0 : 0 < n) : ∃ g c, v = .slice (some ⟨g, 0, none⟩) n c ∧ ∀ j : Nat, j < n → w.cell? ⟨g, j, none⟩ = some (.int .u64 (xs.getD j 0)) := by
  obtain ⟨_, ⟨_, h1⟩ | ⟨g, cap, cur, h1, h2, h3, _, _, _, h5⟩⟩ := h
  · omega
  · refine ⟨g, cap, h1, fun j hj => ?_⟩
    have e : (cur.toList.take (n * 1))[j]? = some (.int .u64 (xs.getD j 0)) := by
      rw [h5]
      have hj2 : j < xs.length := by omega
      simp [List.getElem?_map, List.getElem?_eq_getElem hj2]
    rw [List.getElem?_take_of_lt (by omega)] at e
    simpa [World.cell?, h3] using e
set_option maxRecDepth 100000 in
set_option maxHeartbeats 4000000 in
theorem playSame_any {w : World} {ab sb sm rb rg bb tb tm ub fb : Nat} {P T : Int} {s s' : StoreS} (h : Both w ab sb sm rb rg bb tb tm ub fb P T s s') (hw : s.ws = s'.ws) (hbig : 0 < s.ws.length) (p1 : 1 ≤ P) (p2 : P ≤ 4096) :
    Calls Tryz.prog 23 #[.pointer (some ⟨ab, 0, none⟩), .pointer (some ⟨bb, 0, none⟩)] w fun e w' => e = .returned (.bool true) ∧ Adds w w' := by
  have m0 : w.cell? ⟨bb, 0, none⟩ = some (.pointer (some ⟨tb, 0, none⟩)) := h.mem.head.cell 0
  have m1 : w.cell? ⟨bb, 1, none⟩ = some (.pointer (some ⟨ub, 0, none⟩)) := h.mem.head.cell 1
  have d0 := h.mem.st.cells.1
  obtain ⟨n, hn⟩ : ∃ n, n = s'.ws.length := ⟨_, rfl⟩
  rw [← hn] at d0
  have hn2 : n ≤ 65536 := by rw [hn]; exact h.mem.st.fit.1
  have hn3 : s.ws.length = n := by rw [hw, hn]
  have HQ : Hid (∀ W, Both W ab sb sm rb rg bb tb tm ub fb P T s s' → ∀ j : Nat, j < n → W.cell? ⟨tm, j, none⟩ = some (.int .u64 (s.word j))) := Lib.hid (fun W hW j hj => by
    have h9 : W.cell? ⟨tm, j, none⟩ = some (.int .u64 (s'.word j)) := by
      have := hW.mem.st.wordCell (i := (j : Int)) ⟨by omega, by rw [← hn]; omega⟩
      rwa [Int.toNat_natCast] at this
    rw [h9]
    simp only [StoreS.word, hw])
  have hn4 : 0 < n := by omega
  have HN := Lib.hid hn3
  have HB := Lib.hid (h.adds (Only.refl (fun _ => False) w).drew)
  have HO : Hid (Adds w w.drew) := Lib.hid (Only.refl _ _).drew
  have HK : Hid (∀ W, Both W ab sb sm rb rg bb tb tm ub fb P T s s' → W.cell? ⟨bb, 0, none⟩ = some (.pointer (some ⟨tb, 0, none⟩)) ∧ W.cell? ⟨bb, 1, none⟩ = some (.pointer (some ⟨ub, 0, none⟩)) ∧ W.cell? ⟨tb, 0, none⟩ = some (.slice (some ⟨tm, 0, none⟩) n n)) := Lib.hid (fun W hW => ⟨hW.mem.head.cell 0, hW.mem.head.cell 1, by rw [hn]; exact hW.mem.st.cells.1⟩)
  clear h hw hn hn3 hbig
  go_enter Tryz.func23, Tryz.ntmps23
  go_wp2_with fail
  go_region_held3 (fun W => W.cell? ⟨bb, 0, none⟩ = some (.pointer (some ⟨tb, 0, none⟩)) ∧ W.cell? ⟨bb, 1, none⟩ = some (.pointer (some ⟨ub, 0, none⟩)) ∧ W.cell? ⟨tb, 0, none⟩ = some (.slice (some ⟨tm, 0, none⟩) n n))
    (first | (exact ⟨m0, m1, d0⟩) | (exact HK.out _ HB.out))
    (first
    | (go_at_call 32; refine (arenaStore_any HB.out.yard.ar).mono ?_; rintro e w1 ⟨rfl, rfl⟩)
    | (go_at_call 46; refine (arenaRuns_any HB.out.yard.ar).mono ?_; rintro e w1 ⟨rfl, rfl⟩)
    | (go_at_call 37; refine (words_any _ _ _ _ HB.out.yard.st).mono ?_; rintro e w2 ⟨v2, rfl, hv2, ho2⟩; have HO := Lib.hid (HO.out.thenF ho2); have HB := Lib.hid (HB.out.adds ho2); rw [HN.out] at hv2; obtain ⟨g2, c2, rfl, hq2⟩ := rowU_cells hv2 HN.out hn4; have HV := Lib.hid hq2; clear hv2 ho2 hq2)
    | (go_at_call 44; refine (sameWords_eq g2 tm n c2 n (fun j => s.word j) _ (fun j hj => HV.out j hj) (HQ.out _ HB.out) (by omega)).mono ?_; rintro e w3 ⟨rfl, k3, rfl⟩; have HO := Lib.hid (HO.out.drewN k3); have HB := Lib.hid (HB.out.adds ((Only.refl (fun _ => False) _).drewN k3)))
    | (go_at_call 47; refine (runsList_run HB.out.run).mono ?_; rintro e w4 ⟨g4, c4, rfl, q0, q1, ho4⟩; have HO := Lib.hid (HO.out.thenF ho4); have HB := Lib.hid (HB.out.adds ho4); have L4 := Lib.hid (And.intro q0 q1); clear q0 q1)
    | (go_at_call 48; refine (refRunsList HB.out.mem p1 p2).mono ?_; rintro e w5 ⟨g5, c5, rfl, r0, r1, ho5⟩; have HO := Lib.hid (HO.out.thenF ho5); have HB := Lib.hid (HB.out.adds ho5); have L5 := Lib.hid (And.intro r0 r1); clear r0 r1)
    | (go_at_call 45; first
        | (with_reducible refine (sameRuns_one g4 g5 c4 c5 0 P _ ((ho5.cellF (p := ⟨g4, 0, none⟩) (cell_lt L4.out.1) id).trans L4.out.1) ((ho5.cellF (p := ⟨g4, 1, none⟩) (cell_lt L4.out.1) id).trans L4.out.2) L5.out.1 L5.out.2).mono ?_)
        | (with_reducible refine (sameRuns_one g4 g5 c4 c5 0 P _ L4.out.1 L4.out.2 ((ho4.cellF (p := ⟨g5, 0, none⟩) (cell_lt L5.out.1) id).trans L5.out.1) ((ho4.cellF (p := ⟨g5, 1, none⟩) (cell_lt L5.out.1) id).trans L5.out.2)).mono ?_)
       rintro e w6 ⟨rfl, k6, rfl⟩; have HO := Lib.hid (HO.out.drewN k6); have HB := Lib.hid (HB.out.adds ((Only.refl (fun _ => False) _).drewN k6))))
  all_goals
    go_wp2_with fail
    go_ret
    exact ⟨rfl, HO.out⟩
/-- More is known from here on. -/
theorem wpAnyH_mono {P : Program} {md : Region.Mode} {ops : Array Oper} {Q : Exit → Act → World → Prop} {S S2 : World → Prop} (hST : ∀ w, S2 w → S w) : ∀ {fuel : Nat} {listed : Array Bool} {a : Act} {w : World}, wpAnyH P md ops Q S2 fuel listed a w → wpAnyH P md ops Q S fuel listed a w
  | 0, _, _, _, h => h
  | _ + 1, _, _, _, h => ⟨h.1, fun i hi => wpOp_mono (fun _ _ h' => ⟨hST _ h'.1, wpAnyH_mono hST h'.2⟩) (h.2 i hi)⟩
/-- A type of a program's machine. -/
def MTy (t : TypeId) : Prop := ¬ BT t ∧ t ≠ 118 ∧ t ≠ 101 ∧ t ≠ 48 ∧ t ≠ 4 ∧ t ≠ 50 ∧ t ≠ 95
instance (t : TypeId) : Decidable (MTy t) := inferInstanceAs (Decidable (_ ∧ _))
/-- What is asked of the states of the program's machines. -/
structure LOps {κ : Type} (LA : World → Nat → κ → Prop) (ty : TypeId → Prop) : Prop where
  keep : ∀ {S : Nat → Prop} {w w' : World} {m : Nat} {k : κ}, LA w m k → Only S w w' → ¬ S m → (∀ b x t, Blk w b #[x] t → ¬ S b) → LA w' m k
  blk : ∀ {w : World} {m : Nat} {k : κ}, LA w m k → ∃ c t, Blk w m c t ∧ c.size ≠ 1 ∧ ty t
  ty : ∀ t, ty t → MTy t
/-- A lane: the program's machine, its state; the document's. -/
structure Lane (κ : Type) where
  a : Nat
  k : κ
  b : Nat
  x : MS
  lg : Value
  mr : Value
  mem : Value
structure Lanes {κ : Type} (LA : World → Nat → κ → Prop) (w : World) (sm tm : Nat) (L : List (Option (Lane κ))) : Prop where
  A : ∀ (t : Nat) (z : Lane κ), L[t]? = some (some z) → LA w z.a z.k
  B : ∀ (t : Nat) (z : Lane κ), L[t]? = some (some z) → IsM w z.b z.x z.lg z.mr z.mem
  ne : ∀ (t t' : Nat) (z z' : Lane κ), t ≠ t' → L[t]? = some (some z) → L[t']? = some (some z') → z.a ≠ z'.a ∧ z.b ≠ z'.b ∧ ∀ g, z.lg.ownBlock = some g → z'.lg.ownBlock ≠ some g
  nl : ∀ (t : Nat) (z : Lane κ), L[t]? = some (some z) → z.lg.ownBlock ≠ some sm ∧ z.lg.ownBlock ≠ some tm
section
variable {κ : Type} {LA : World → Nat → κ → Prop} {ty : TypeId → Prop} {w w' : World} {ab sb sm rb rg bb tb tm ub fb : Nat} {P T : Int} {s s' s2 : StoreS} {L : List (Option (Lane κ))} {z : Lane κ} {t : Nat}
theorem set_cases {L : List (Option (Lane κ))} {t j : Nat} {o : Option (Lane κ)} {z : Lane κ} (h : (L.set t o)[j]? = some (some z)) : (j = t ∧ o = some z) ∨ (j ≠ t ∧ L[j]? = some (some z)) := by
  rw [List.getElem?_set] at h
  by_cases e : t = j
  · subst e
    rw [if_pos rfl] at h
    split at h
    · exact .inl ⟨rfl, by simpa using h⟩
    · cases h
  · rw [if_neg e] at h
    exact .inr ⟨fun e2 => e e2.symm, h⟩
theorem Lanes.empty (n : Nat) : Lanes LA w sm tm (List.replicate n none) := by
  have k : ∀ (t : Nat) (z : Lane κ), (List.replicate n (none : Option (Lane κ)))[t]? = some (some z) → False := fun t z h => by
    rw [List.getElem?_replicate] at h; split at h <;> simp at h
  exact ⟨fun t z h => (k t z h).elim, fun t z h => (k t z h).elim, fun t _ z _ _ h _ => (k t z h).elim, fun t z h => (k t z h).elim⟩
theorem Lanes.keep (O : LOps LA ty) (h : Lanes LA w sm tm L) {S : Nat → Prop} (ho : Only S w w') (h1 : ∀ (t : Nat) (z : Lane κ), L[t]? = some (some z) → ¬ S z.a ∧ ¬ S z.b ∧ ∀ g, z.lg.ownBlock = some g → ¬ S g) (hs : ∀ b x t, Blk w b #[x] t → ¬ S b) : Lanes LA w' sm tm L :=
  ⟨fun t z e => O.keep (h.A t z e) ho (h1 t z e).1 hs, fun t z e => (h.B t z e).only ho (h1 t z e).2.1 (h1 t z e).2.2, h.ne, h.nl⟩
theorem Lanes.adds (O : LOps LA ty) (h : Lanes LA w sm tm L) (ho : Adds w w') : Lanes LA w' sm tm L := h.keep O ho (fun _ _ _ => ⟨id, id, fun _ _ => id⟩) (fun _ _ _ _ => id)
/-- A block of a type that no lane has is turned: a row's, of two cells or more. -/
theorem Lanes.row (O : LOps LA ty) (h : Lanes LA w sm tm L) {r : Nat} {c : Array Value} {u : TypeId} (hr : Blk w r c u) (hu : ¬ ty u) (h1 : u ≠ 95) (h2 : u ≠ 48) (hc : c.size ≠ 1) (ho : Only (· = r) w w') : Lanes LA w' sm tm L :=
  h.keep O ho (fun t z e => ⟨fun e2 => by
      obtain ⟨c2, t2, hb, _, ht⟩ := O.blk (h.A t z e)
      rw [e2] at hb
      exact hu ((hr.uniq hb).2 ▸ ht), fun e2 => by
      have := (h.B t z e).blk
      rw [e2] at this
      exact h1 (hr.uniq this).2, fun g hg e2 => by
      obtain ⟨c2, hc2⟩ := ownsRow_blk (h.B t z e).row hg
      rw [e2] at hc2
      exact h2 (hr.uniq hc2).2⟩) (fun b x t hb e => by
    subst e
    exact hc (by rw [(hr.uniq hb).1]; rfl))
/-- A step of the program's machine of lane t. -/
theorem Lanes.stepA (O : LOps LA ty) (h : Lanes LA w sm tm L) (hY : Yard w ab sb sm rb P T s) (hbig : 1 < s.ws.length) (hz : L[t]? = some (some z)) {k' : κ} (ho : Only (fun j => SB sb sm j ∨ j = z.a) w w') (ha : LA w' z.a k') : Lanes LA w' sm tm (L.set t (some { z with k := k' })) := by
  obtain ⟨c, u, hb, hc, hty⟩ := O.blk (h.A t z hz)
  obtain ⟨hu1, hu2, hu3, hu4, hu5, hu6, hu7⟩ := O.ty u hty
  have hs : ∀ (b : Nat) (x : Value) (t : TypeId), Blk w b #[x] t → ¬ (SB sb sm b ∨ b = z.a) := fun b x t hx e => e.elim (hY.multi hbig hx) (fun e => by subst e; exact hc (by rw [(hb.uniq hx).1]; rfl))
  have kB : ∀ (j : Nat) (y : Lane κ), L[j]? = some (some y) → IsM w' y.b y.x y.lg y.mr y.mem := fun j y e => (h.B j y e).only ho (fun q => by
      rcases q with (q | q) | q
      · have := (h.B j y e).blk; rw [q] at this; have := (this.uniq hY.st.head).2; revert this; decide
      · have := (h.B j y e).blk; rw [q] at this; have := (this.uniq hY.st.row).2; revert this; decide
      · have := (h.B j y e).blk; rw [q] at this; exact hu7 (hb.uniq this).2) (fun g hg q => by
      obtain ⟨c2, hc2⟩ := ownsRow_blk (h.B j y e).row hg
      rcases q with (q | q) | q
      · rw [q] at hc2; have := (hc2.uniq hY.st.head).2; revert this; decide
      · exact (h.nl j y e).1 (q ▸ hg)
      · rw [q] at hc2; exact hu4 (hb.uniq hc2).2)
  refine ⟨fun j y e => ?_, fun j y e => ?_, fun j j' y y' hj e e' => ?_, fun j y e => ?_⟩
  · rcases set_cases e with ⟨rfl, e2⟩ | ⟨hj, e2⟩
    · injection e2 with e2; subst e2; exact ha
    · refine O.keep (h.A j y e2) ho (fun q => ?_) hs
      rcases q with (q | q) | q
      · obtain ⟨c2, t2, h2, _, mt⟩ := O.blk (h.A j y e2); obtain ⟨m1, m2, _⟩ := O.ty _ mt; rw [q] at h2; exact m2 (h2.uniq hY.st.head).2
      · obtain ⟨c2, t2, h2, _, mt⟩ := O.blk (h.A j y e2); obtain ⟨m1, m2, m3, m4, _⟩ := O.ty _ mt; rw [q] at h2; exact m4 (h2.uniq hY.st.row).2
      · exact (h.ne j t y z hj e2 hz).1 q
  · rcases set_cases e with ⟨rfl, e2⟩ | ⟨hj, e2⟩
    · injection e2 with e2; subst e2; exact kB _ z hz
    · exact kB j y e2
  · rcases set_cases e with ⟨rfl, e2⟩ | ⟨hj1, e2⟩
    · rcases set_cases e' with ⟨rfl, e3⟩ | ⟨hj2, e3⟩
      · exact absurd rfl hj
      · injection e2 with e2; subst e2; exact h.ne j j' z y' hj hz e3
    · rcases set_cases e' with ⟨rfl, e3⟩ | ⟨hj2, e3⟩
      · injection e3 with e3; subst e3; exact h.ne j j' y z hj e2 hz
      · exact h.ne j j' y y' hj e2 e3
  · rcases set_cases e with ⟨rfl, e2⟩ | ⟨hj, e2⟩
    · injection e2 with e2; subst e2; exact h.nl j z hz
    · exact h.nl j y e2
/-- A step of the document's machine of lane t. -/
theorem Lanes.stepB (O : LOps LA ty) (h : Lanes LA w sm tm L) (hM : IsMem w bb tb tm ub fb P T s) (hbig : 1 < s.ws.length) (hsm : sm < w.heap.size) (hz : L[t]? = some (some z)) {x1 : MS} {s1 : StoreS} (hst : Steps w w' z.b bb tb tm ub fb P T s1 x1 z.lg) :
    ∃ lg1 mk1, Lanes LA w' sm tm (L.set t (some { z with x := x1, lg := lg1, mr := mk1, mem := .pointer (some ⟨bb, 0, none⟩) })) ∧ IsMem w' bb tb tm ub fb P T s1 ∧ Only (MT w z.b z.lg tb tm) w w' ∧ Lg w z.lg lg1 := by
  obtain ⟨lg1, mk1, hmm, ho, hl⟩ := hst
  have zb := (h.B t z hz).blk
  have hlt := fun j y e => (h.B j y e).lt
  have hs : ∀ (b : Nat) (x : Value) (u : TypeId), Blk w b #[x] u → ¬ MT w z.b z.lg tb tm b := fun b x u hx e => by
    rcases e with (e | e) | e | ⟨e1, e2⟩
    · subst e; have := congrArg Array.size (hx.uniq hM.st.head).1; simp [StoreS.arr] at this
    · subst e; have := congrArg Array.size (hx.uniq hM.st.row).1; simp at this; omega
    · subst e; have := congrArg Array.size (hx.uniq zb).1; simp [MS.arr] at this
    · exact e2.not hx
  have kA : ∀ (j : Nat) (y : Lane κ), L[j]? = some (some y) → LA w' y.a y.k := fun j y e => by
    obtain ⟨c, u, hb, hc, hty⟩ := O.blk (h.A j y e)
    obtain ⟨hu1, hu2, hu3, hu4, hu5, hu6, hu7⟩ := O.ty u hty
    refine O.keep (h.A j y e) ho (fun q => ?_) hs
    rcases q with (q | q) | q | ⟨q, _⟩
    · rw [q] at hb; exact hu3 (hb.uniq hM.st.head).2
    · rw [q] at hb; exact hu4 (hb.uniq hM.st.row).2
    · rw [q] at hb; exact hu7 (hb.uniq zb).2
    · obtain ⟨c2, hc2⟩ := ownsRow_blk (h.B t z hz).row q; exact hu4 (hb.uniq hc2).2
  refine ⟨lg1, mk1, ⟨fun j y e => ?_, fun j y e => ?_, fun j j' y y' hj e e' => ?_, fun j y e => ?_⟩, hmm.mem, ho, hl⟩
  · rcases set_cases e with ⟨rfl, e2⟩ | ⟨hj, e2⟩
    · injection e2 with e2; subst e2; exact kA _ z hz
    · exact kA j y e2
  · rcases set_cases e with ⟨rfl, e2⟩ | ⟨hj, e2⟩
    · injection e2 with e2; subst e2; exact hmm.m
    · refine (h.B j y e2).only ho (fun q => ?_) (fun g hg q => ?_)
      · have yb := (h.B j y e2).blk
        rcases q with (q | q) | q | ⟨q, _⟩
        · rw [q] at yb; have := (yb.uniq hM.st.head).2; revert this; decide
        · rw [q] at yb; have := (yb.uniq hM.st.row).2; revert this; decide
        · exact (h.ne j t y z hj e2 hz).2.1 q
        · obtain ⟨c2, hc2⟩ := ownsRow_blk (h.B t z hz).row q; have := (yb.uniq hc2).2; revert this; decide
      · obtain ⟨c2, hc2⟩ := ownsRow_blk (h.B j y e2).row hg
        rcases q with (q | q) | q | ⟨q, _⟩
        · rw [q] at hc2; have := (hc2.uniq hM.st.head).2; revert this; decide
        · exact (h.nl j y e2).2 (q ▸ hg)
        · rw [q] at hc2; have := (hc2.uniq zb).2; revert this; decide
        · exact (h.ne j t y z hj e2 hz).2.2 g hg q
  · have kk : ∀ (j : Nat) (y : Lane κ), j ≠ t → L[j]? = some (some y) → ∀ g, lg1.ownBlock = some g → y.lg.ownBlock ≠ some g := fun j y hj e2 g hg q => by
      rcases hl g hg with h1 | h1
      · exact (h.ne j t y z hj e2 hz).2.2 g q h1
      · have := hlt j y e2 g q; omega
    rcases set_cases e with ⟨rfl, e2⟩ | ⟨hj1, e2⟩
    · rcases set_cases e' with ⟨rfl, e3⟩ | ⟨hj2, e3⟩
      · exact absurd rfl hj
      · injection e2 with e2; subst e2
        exact ⟨(h.ne j j' z y' hj hz e3).1, (h.ne j j' z y' hj hz e3).2.1, kk j' y' hj2 e3⟩
    · rcases set_cases e' with ⟨rfl, e3⟩ | ⟨hj2, e3⟩
      · injection e3 with e3; subst e3
        exact ⟨(h.ne j j' y z hj e2 hz).1, (h.ne j j' y z hj e2 hz).2.1, fun g hg q => kk j y hj1 e2 g q hg⟩
      · exact h.ne j j' y y' hj e2 e3
  · rcases set_cases e with ⟨rfl, e2⟩ | ⟨hj, e2⟩
    · injection e2 with e2; subst e2
      exact ⟨fun q => by
        rcases hl sm q with h1 | h1
        · exact (h.nl j z hz).1 h1
        · omega, hmm.ne⟩
    · exact h.nl j y e2
/-- A lane is given up. -/
theorem Lanes.drop (h : Lanes LA w sm tm L) (t : Nat) : Lanes LA w sm tm (L.set t none) := by
  have k : ∀ (j : Nat) (y : Lane κ), (L.set t none)[j]? = some (some y) → L[j]? = some (some y) := fun j y e => by
    rcases set_cases e with ⟨_, e2⟩ | ⟨_, e2⟩
    · cases e2
    · exact e2
  exact ⟨fun j y e => h.A j y (k j y e), fun j y e => h.B j y (k j y e), fun j j' y y' hj e e' => h.ne j j' y y' hj (k j y e) (k j' y' e'), fun j y e => h.nl j y (k j y e)⟩
/-- A new lane: its blocks are new. -/
theorem Lanes.add (h : Lanes LA w sm tm L) (O : LOps LA ty) {w0 : World} (h0 : Lanes LA w0 sm tm L) (ha : LA w z.a z.k) (hb : IsM w z.b z.x z.lg z.mr z.mem) (hl : z.lg = .slice none 0 0) (na : w0.heap.size ≤ z.a) (nb : w0.heap.size ≤ z.b) : Lanes LA w sm tm (L.set t (some z)) := by
  have k : ∀ (j : Nat) (y : Lane κ), L[j]? = some (some y) → y.a < w0.heap.size ∧ y.b < w0.heap.size := fun j y e => by
    obtain ⟨c, u, hb, _⟩ := O.blk (h0.A j y e)
    exact ⟨hb.lt, (h0.B j y e).blk.lt⟩
  have hn : ∀ g, z.lg.ownBlock ≠ some g := fun g e => by rw [hl] at e; cases e
  refine ⟨fun j y e => ?_, fun j y e => ?_, fun j j' y y' hj e e' => ?_, fun j y e => ?_⟩
  · rcases set_cases e with ⟨rfl, e2⟩ | ⟨hj, e2⟩
    · injection e2 with e2; subst e2; exact ha
    · exact h.A j y e2
  · rcases set_cases e with ⟨rfl, e2⟩ | ⟨hj, e2⟩
    · injection e2 with e2; subst e2; exact hb
    · exact h.B j y e2
  · rcases set_cases e with ⟨rfl, e2⟩ | ⟨hj1, e2⟩
    · rcases set_cases e' with ⟨rfl, e3⟩ | ⟨hj2, e3⟩
      · exact absurd rfl hj
      · injection e2 with e2; subst e2
        have := k j' y' e3
        exact ⟨by omega, by omega, fun g hg => absurd hg (hn g)⟩
    · rcases set_cases e' with ⟨rfl, e3⟩ | ⟨hj2, e3⟩
      · injection e3 with e3; subst e3
        have := k j y e2
        exact ⟨by omega, by omega, fun g _ q => hn g q⟩
      · exact h.ne j j' y y' hj e2 e3
  · rcases set_cases e with ⟨rfl, e2⟩ | ⟨hj, e2⟩
    · injection e2 with e2; subst e2; exact ⟨hn _, hn _⟩
    · exact h.nl j y e2
/-- The two arenas and the machines of both sides; nothing that lay in w has turned. -/
structure SC {κ : Type} (LA : World → Nat → κ → Prop) (w : World) (ab sb sm rb rg bb tb tm ub fb : Nat) (P T : Int) (wr : World) (s s' : StoreS) (L : List (Option (Lane κ))) : Prop where
  both : Both wr ab sb sm rb rg bb tb tm ub fb P T s s'
  len : s.ws.length = (Lay.words P T).toNat
  len' : s'.ws.length = (Lay.words P T).toNat
  lanes : Lanes LA wr sm tm L
  lowL : ∀ (t : Nat) (z : Lane κ), L[t]? = some (some z) → w.heap.size ≤ z.a ∧ w.heap.size ≤ z.b ∧ ∀ g, z.lg.ownBlock = some g → w.heap.size ≤ g
  low : w.heap.size ≤ ab ∧ w.heap.size ≤ sb ∧ w.heap.size ≤ sm ∧ w.heap.size ≤ bb ∧ w.heap.size ≤ tb ∧ w.heap.size ≤ tm
  adds : Adds w wr
/-- A row's type: none that a step turns. -/
def RowOk (ty : TypeId → Prop) (u : TypeId) : Prop := ¬ ty u ∧ u ≠ 118 ∧ u ≠ 101 ∧ u ≠ 48 ∧ u ≠ 95
variable {wr : World} {k' : κ}
theorem SC.add (O : LOps LA ty) (h : SC LA w ab sb sm rb rg bb tb tm ub fb P T wr s s' L) (ho : Adds wr w') : SC LA w ab sb sm rb rg bb tb tm ub fb P T w' s s' L :=
  ⟨h.both.adds ho, h.len, h.len', h.lanes.adds O ho, h.lowL, h.low, h.adds.thenF ho⟩
theorem SC.big (h : SC LA w ab sb sm rb rg bb tb tm ub fb P T wr s s' L) (hm : Lay.may P T = true) : 1 < s.ws.length ∧ 1 < s'.ws.length := by
  have := (mem_words_bd hm).1
  rw [h.len, h.len']
  omega
/-- A word of both sides. -/
theorem SC.put (O : LOps LA ty) (h : SC LA w ab sb sm rb rg bb tb tm ub fb P T wr s s' L) (hm : Lay.may P T = true) {i v : Int} (hB : Both w' ab sb sm rb rg bb tb tm ub fb P T (s.acc 2 i v) (s'.acc 2 i v)) (ho : Only (fun j => SB sb sm j ∨ SB tb tm j) wr w') :
    SC LA w ab sb sm rb rg bb tb tm ub fb P T w' (s.acc 2 i v) (s'.acc 2 i v) L ∧ (∀ r c u, Blk wr r c u → RowOk ty u → Blk w' r c u) := by
  have hb := h.big hm
  have hY := h.both.yard; have hM := h.both.mem
  have ks : ∀ {b : Nat} {c : Array Value} {u : TypeId}, Blk wr b c u → u ≠ 118 → u ≠ 101 → (u ≠ 48 ∨ (b ≠ sm ∧ b ≠ tm)) → ¬ (SB sb sm b ∨ SB tb tm b) := fun hx h1 h2 h3 e => by
    rcases e with (e | e) | (e | e)
    · subst e; exact h1 (hx.uniq hY.st.head).2
    · rcases h3 with h3 | h3
      · subst e; exact h3 (hx.uniq hY.st.row).2
      · exact h3.1 e
    · subst e; exact h2 (hx.uniq hM.st.head).2
    · rcases h3 with h3 | h3
      · subst e; exact h3 (hx.uniq hM.st.row).2
      · exact h3.2 e
  refine ⟨⟨hB, by simpa [StoreS.acc] using h.len, by simpa [StoreS.acc] using h.len', h.lanes.keep O ho (fun t z e => ⟨?_, ?_, fun g hg => ?_⟩) (fun b x u hx e => ?_), h.lowL, h.low, ?_⟩, fun r c u hx hu => hx.only ho (ks hx hu.2.1 hu.2.2.1 (.inl hu.2.2.2.1))⟩
  · obtain ⟨c, u, hx, _, hty⟩ := O.blk (h.lanes.A t z e)
    obtain ⟨hu1, hu2, hu3, hu4, _⟩ := O.ty u hty
    exact ks hx hu2 hu3 (.inl hu4)
  · exact ks (h.lanes.B t z e).blk (by decide) (by decide) (.inl (by decide))
  · obtain ⟨c, hx⟩ := ownsRow_blk (h.lanes.B t z e).row hg
    exact ks hx (by decide) (by decide) (.inr ⟨fun q => (h.lanes.nl t z e).1 (q ▸ hg), fun q => (h.lanes.nl t z e).2 (q ▸ hg)⟩)
  · rcases e with e | (e | e)
    · exact hY.multi hb.1 hx e
    · subst e; have := congrArg Array.size (hx.uniq hM.st.head).1; simp [StoreS.arr] at this
    · subst e; have := congrArg Array.size (hx.uniq hM.st.row).1; simp at this; omega
  · exact h.adds.andThen ho (fun i hi e => by
      have := h.low
      rcases e with (rfl | rfl) | (rfl | rfl) <;> omega)
theorem SC.stepA (O : LOps LA ty) (h : SC LA w ab sb sm rb rg bb tb tm ub fb P T wr s s' L) (hm : Lay.may P T = true) (hz : L[t]? = some (some z)) (ho : Only (fun j => SB sb sm j ∨ j = z.a) wr w') (ha : LA w' z.a k') (hy : Yard w' ab sb sm rb P T s2) (hl : s2.ws.length = s.ws.length) :
    SC LA w ab sb sm rb rg bb tb tm ub fb P T w' s2 s' (L.set t (some { z with k := k' })) ∧ (∀ r c u, Blk wr r c u → RowOk ty u → Blk w' r c u) := by
  obtain ⟨c, u, hb, hc, hty⟩ := O.blk (h.lanes.A t z hz)
  obtain ⟨hu1, hu2, hu3, hu4, hu5, hu6, hu7⟩ := O.ty u hty
  have hY := h.both.yard
  refine ⟨⟨h.both.accA (M := (· = z.a)) (fun b c2 u2 hx e => by subst e; rw [(hx.uniq hb).2]; exact ⟨hu1, hu3, hu4, hu5⟩) ho hy, hl.trans h.len, h.len', h.lanes.stepA O hY (h.big hm).1 hz ho ha, fun j y e => ?_, h.low, ?_⟩, fun r c2 u2 hx hu => hx.only ho (fun e => ?_)⟩
  · rcases set_cases e with ⟨rfl, e2⟩ | ⟨hj, e2⟩
    · injection e2 with e2; subst e2; exact h.lowL _ z hz
    · exact h.lowL j y e2
  · have := h.low; have := h.lowL t z hz
    exact h.adds.andThen ho (fun i hi e => by rcases e with (rfl | rfl) | rfl <;> omega)
  · rcases e with (e | e) | e
    · subst e; exact hu.2.1 (hx.uniq hY.st.head).2
    · subst e; exact hu.2.2.2.1 (hx.uniq hY.st.row).2
    · subst e; exact hu.1 ((hx.uniq hb).2 ▸ hty)
theorem SC.stepB (O : LOps LA ty) (h : SC LA w ab sb sm rb rg bb tb tm ub fb P T wr s s' L) (hm : Lay.may P T = true) (hz : L[t]? = some (some z)) {x1 : MS} {s1 : StoreS} (hst : Steps wr w' z.b bb tb tm ub fb P T s1 x1 z.lg) (hl : s1.ws.length = s'.ws.length) :
    ∃ lg1 mk1, SC LA w ab sb sm rb rg bb tb tm ub fb P T w' s s1 (L.set t (some { z with x := x1, lg := lg1, mr := mk1, mem := .pointer (some ⟨bb, 0, none⟩) })) ∧ (∀ r c u, Blk wr r c u → RowOk ty u → Blk w' r c u) := by
  have hM := h.both.mem
  obtain ⟨lg1, mk1, hLs, hmem, ho, hLgs⟩ := h.lanes.stepB O hM (h.big hm).2 h.both.yard.st.row.lt hz hst
  have zb := (h.lanes.B t z hz).blk
  have hlow := h.low; have hlz := h.lowL t z hz
  have hLg : ∀ g, lg1.ownBlock = some g → w.heap.size ≤ g := fun g hg => by
    rcases hLgs g hg with h3 | h3
    · exact hlz.2.2 g h3
    · have := h.adds.size; omega
  refine ⟨lg1, mk1, ⟨h.both.accB (M := fun j => j = z.b ∨ (z.lg.ownBlock = some j ∧ Big wr j)) (fun b c2 u2 hx e => ?_) (ho.mono (fun _ _ e => e)) hmem, h.len, hl.trans h.len', hLs, fun j y e => ?_, h.low, ?_⟩, fun r c2 u2 hx hu => hx.only ho (fun e => ?_)⟩
  · rcases e with e | ⟨e, _⟩
    · subst e; rw [(hx.uniq zb).2]; exact ⟨by decide, by decide, .inl (by decide), by decide⟩
    · obtain ⟨c3, h3⟩ := ownsRow_blk (h.lanes.B t z hz).row e
      rw [(hx.uniq h3).2]
      exact ⟨by decide, by decide, .inr (fun q => (h.lanes.nl t z hz).1 (q ▸ e)), by decide⟩
  · rcases set_cases e with ⟨rfl, e2⟩ | ⟨hj, e2⟩
    · injection e2 with e2; subst e2; exact ⟨hlz.1, hlz.2.1, hLg⟩
    · exact h.lowL j y e2
  · exact h.adds.andThen ho (fun i hi e => by
      rcases e with (e | e) | e | ⟨e, _⟩
      · omega
      · omega
      · omega
      · have := hlz.2.2 i e; omega)
  · rcases e with (e | e) | e | ⟨e, _⟩
    · subst e; exact hu.2.2.1 (hx.uniq hM.st.head).2
    · subst e; exact hu.2.2.2.1 (hx.uniq hM.st.row).2
    · subst e; exact hu.2.2.2.2 (hx.uniq zb).2
    · obtain ⟨c3, h3⟩ := ownsRow_blk (h.lanes.B t z hz).row e; exact hu.2.2.2.1 (hx.uniq h3).2
theorem SC.drop (h : SC LA w ab sb sm rb rg bb tb tm ub fb P T wr s s' L) (t : Nat) : SC LA w ab sb sm rb rg bb tb tm ub fb P T wr s s' (L.set t none) :=
  ⟨h.both, h.len, h.len', h.lanes.drop t, fun j y e => by
    rcases set_cases e with ⟨_, e2⟩ | ⟨_, e2⟩
    · cases e2
    · exact h.lowL j y e2, h.low, h.adds⟩
/-- A row is turned. -/
theorem SC.row (O : LOps LA ty) (h : SC LA w ab sb sm rb rg bb tb tm ub fb P T wr s s' L) {r : Nat} {c : Array Value} {u : TypeId} (hr : Blk wr r c u) (hu : RowOk ty u) (hbt : ¬ BT u ∧ u ≠ 4) (hc : c.size ≠ 1) (hlow : w.heap.size ≤ r) (ho : Only (· = r) wr w') : SC LA w ab sb sm rb rg bb tb tm ub fb P T w' s s' L :=
  ⟨h.both.keep ho (fun b c2 u2 hx hb e => by subst e; exact hbt.1 ((hr.uniq hx).2 ▸ hb)) (fun e => by subst e; exact hu.2.1 (hr.uniq h.both.yard.st.head).2) (fun e => by subst e; exact hu.2.2.2.1 (hr.uniq h.both.yard.st.row).2) (fun e => by subst e; exact hu.2.2.1 (hr.uniq h.both.mem.st.head).2) (fun e => by subst e; exact hu.2.2.2.1 (hr.uniq h.both.mem.st.row).2) (fun e => by subst e; exact hbt.2 (hr.uniq h.both.mem.fr).2),
   h.len, h.len', h.lanes.row O hr hu.1 hu.2.2.2.2 hu.2.2.2.1 hc ho, h.lowL, h.low, h.adds.andThen ho (fun i hi e => by omega)⟩
/-- A lane begins. -/
theorem SC.begin (O : LOps LA ty) {w1 : World} (h : SC LA w ab sb sm rb rg bb tb tm ub fb P T w1 s s' L) (ho : Adds w1 wr) (ha : LA wr z.a z.k) (hb : IsM wr z.b z.x z.lg z.mr z.mem) (hl : z.lg = .slice none 0 0) (na : w1.heap.size ≤ z.a) (nb : w1.heap.size ≤ z.b) : SC LA w ab sb sm rb rg bb tb tm ub fb P T wr s s' (L.set t (some z)) := by
  have h2 := h.add O ho
  have hz := h.adds.size
  exact ⟨h2.both, h2.len, h2.len', h2.lanes.add O h.lanes ha hb hl na nb, fun j y e => by
    rcases set_cases e with ⟨_, e2⟩ | ⟨_, e2⟩
    · injection e2 with e2; subst e2; exact ⟨by omega, by omega, fun g hg => by rw [hl] at hg; cases hg⟩
    · exact h2.lowL j y e2, h2.low, h2.adds⟩
end
end Go.Proofs.YthhnpcniijpfeaaGreat

/- The document's free runs in memory: what they are, at whatever state; List, Total. By an AI agent. -/
import Derived.Deep.LoopGhost
import Derived.Laws.OwnMore
import Derived.Test.YtbijbpnhakbeeaaDocTree2
import Derived.Test.YtbijbpnhakbeeaaDocLst
namespace Go.Proofs.Ytbijbpnhakbeeaa
open Go.RowKit
/-- The document's free runs: its blocks, which pages are free, its items, its draws, how many were taken. -/
structure DS where
  rb : Nat
  fb : Nat
  fr : List Bool
  lv : Value
  its : List It
  dv : Value
  ds : List Int
  n : Nat
def DS.own (s : DS) (y : Nat) : Prop := y = s.rb ∨ y = s.fb
def DS.all (s : DS) (y : Nat) : Prop := s.own y ∨ some y = s.lv.ownBlock ∨ some y = s.dv.ownBlock
abbrev DS.fv (s : DS) : Value := .slice (some ⟨s.fb, 0, none⟩) s.fr.length s.fr.length
structure IsDoc (w : World) (s : DS) : Prop where
  blk : Blk w s.rb (rCells s.fv s.lv s.dv s.n) 104
  fre : Blk w s.fb (s.fr.map .bool).toArray 4
  drs : w.ownsRow 0 113 1 s.dv s.ds.length (s.ds.map (.int .u32))
  row : w.ownsRow 0 140 3 s.lv s.its.length (itCells s.its)
  ne : s.rb ≠ s.fb
  P1 : 1 ≤ s.fr.length
  P2 : s.fr.length ≤ 4096
  il : s.its.length < 900000
  dl : s.ds.length < 1000000
section
variable {w w' : World} {s : DS}
theorem IsDoc.only {S : Nat → Prop} (h : IsDoc w s) (ho : Only S w w') (hs : ∀ y, s.all y → ¬ S y) : IsDoc w' s :=
  ⟨h.blk.only ho (hs _ (.inl (.inl rfl))), h.fre.only ho (hs _ (.inl (.inr rfl))), row_only2 h.drs ho (fun g hg => hs g (.inr (.inr hg))), row_only2 h.row ho (fun g hg => hs g (.inr (.inl hg))), h.ne, h.P1, h.P2, h.il, h.dl⟩
theorem IsDoc.adds (h : IsDoc w s) (ho : Adds w w') : IsDoc w' s := h.only ho (fun _ _ => id)
theorem IsDoc.lt (h : IsDoc w s) : ∀ y, s.all y → y < w.heap.size := by
  rintro y ((rfl | rfl) | hy | hy)
  · exact h.blk.lt
  · exact h.fre.lt
  · exact row_lt h.row y hy
  · exact row_lt h.drs y hy
theorem IsDoc.freeCell (h : IsDoc w s) {i : Nat} (hi : i < s.fr.length) : w.cell? ⟨s.fb, i, none⟩ = some (.bool (s.fr.getD i false)) := by
  rw [h.fre.cell i, List.getD_eq_getElem?_getD, List.getElem?_eq_getElem hi]
  simp [hi]
end
theorem shCells_set (ys : List (Int × Int)) (x : Int × Int) (u : Int) : (shCells (ys ++ [x])).set (ys.length * 2 + 1) (.int .i64 u) = shCells (ys ++ [(x.1, u)]) := by
  induction ys with
  | nil => rfl
  | cons y r ih => rw [List.length_cons, show (r.length + 1) * 2 + 1 = r.length * 2 + 1 + 1 + 1 by omega]; simp only [List.cons_append, shCells, List.set_cons_succ, ih]
theorem row_snoc2 {w w1 : World} {base n size : Nat} {v : Value} {e : TypeId} {xs : List Value} (hr : w.ownsRow base e size v n xs) (hb : base ≤ w.heap.size) (o : Obj) (hg : (w.alloc o).grownBy w1 v.ownBlock) : ∀ {u : World}, Adds u w → base = u.heap.size → Adds u w1 := fun {u} hu hbe => by
  have h1 : Adds u (w.alloc o) := hu.alloc o
  refine ⟨hg.os.trans h1.os, hg.tape.trans h1.tape, hg.output.trans h1.output, Nat.le_trans h1.size hg.size, fun k hk _ => (hg.block k (Nat.lt_of_lt_of_le hk h1.size) (fun e => ?_)).trans (h1.block k hk id)⟩
  have := row_base hr k e
  omega
theorem cells_two_new (w : World) (a b : Value) (t : TypeId) : ∀ j u, [a, b][j]? = some u → (w.alloc (.cells #[a, b] t)).cell? ((⟨w.heap.size, 0, none⟩ : Addr).add j) = some u := fun j u h => by
  rw [Addr.add_lit, Nat.zero_add, (Blk.new w #[a, b] t).cell j]
  simpa using h
set_option maxRecDepth 100000 in
set_option maxHeartbeats 8000000 in
theorem list9_any {w : World} {s : DS} (h : IsDoc w s) : Calls Try.prog 24 #[.pointer (some ⟨s.rb, 0, none⟩)] w fun e w' => ∃ v, e = .returned v ∧ w'.ownsRow w.heap.size 63 2 v (lstN s.fr s.fr.length).length (shCells (lstN s.fr s.fr.length)) ∧ Adds w w' := by
  obtain ⟨i0, hi, hz0, hz1, hz2⟩ := info_parts infoRunI
  obtain ⟨P, hP⟩ : ∃ P, s.fr.length = P := ⟨_, rfl⟩
  have hP2 : P ≤ 4096 := hP ▸ h.P2
  have c0 : w.cell? ⟨s.rb, 0, none⟩ = some (.slice (some ⟨s.fb, 0, none⟩) P P) := by rw [← hP]; exact h.blk.cell 0
  have HF := Lib.hid (fun (i : Nat) (hi : i < P) => h.freeCell (i := i) (hP ▸ hi))
  rw [hP]
  clear h hP
  go_enter Try.func24, Try.ntmps24
  go_wp2_with fail
  go_loopg [3, 4] P (fun kx lv iv wr => ∃ k : Nat, iv = .int .i64 k ∧ k ≤ P ∧ P - k ≤ kx ∧ Hid (wr.ownsRow w.heap.size 63 2 lv (lstN s.fr k).length (shCells (lstN s.fr k))) ∧ Hid (Adds w wr))
  case atStart => exact ⟨0, rfl, by omega, by omega, Lib.hid (World.ownsRow_nil _ _ _ _), Lib.hid (Only.refl _ _)⟩
  case round =>
    obtain ⟨k, rfl, hk1, hkx, HR, HA⟩ := hrel
    have hk4 : k < 1000000 := by omega
    have hwk := wrap_succ k hk4
    have d1 := cell_al c0 HA.out
    by_cases c1 : k < P
    · obtain ⟨b, hb⟩ : ∃ b, s.fr.getD k false = b := ⟨_, rfl⟩
      have d2 := cell_al (HF.out k c1) HA.out
      rw [hb] at d2
      have HB := Lib.hid hb
      clear hb
      cases b with
      | false =>
        go_wp2_with fail
        go_roundg (P - (k + 1))
        case measure => omega
        case rel =>
          refine ⟨k + 1, by simp, by omega, Nat.le_refl _, Lib.hid ?_, HA⟩
          rw [lstN, HB.out]
          exact HR.out
      | true =>
        have hstep : lstN s.fr (k + 1) = stepL (lstN s.fr k) k true := by rw [lstN, HB.out]
        have HS := Lib.hid hstep
        obtain ⟨out, ho⟩ : ∃ out, lstN s.fr k = out := ⟨_, rfl⟩
        have hok := (lstN_ok s.fr k).1
        have hlen := lstN_len s.fr k
        rw [ho] at HR HS hok hlen
        clear hstep ho
        rcases list_snoc out with rfl | ⟨ys, x, rfl⟩
        · obtain ⟨la, lc, hlv⟩ := ownsRow_opened HR.out
          subst hlv
          go_wp2_with fail
          go_quiet ((fail))
          have HR' := Lib.hid (show (wr.drewN nq).ownsRow _ _ _ _ _ _ from HR.out)
          go_wp2_with (at_builtin; refine wpList_append_own _ rfl _ _ 49 rfl w.heap.size 63 i0 (.agg #[.int .i64 0, .int .i64 0]) 2 16 Try.underlying49 hi hz0 hz1 hz2 rfl (by decide) _ 0 _ rfl (HR'.out.alloc (.cells #[.int .i64 k, .int .i64 1] 63)) ⟨wr.heap.size, 0, none⟩ 1 1 [.int .i64 k, .int .i64 1] rfl rfl (cells_two_new _ _ _ _) (by simp [Value.oneCell']) (by unfold maxLen; omega) (by omega) (by have := HA.out.size; simp; omega) ?_; intro v' w3 hown hgrow _)
          have hA3 : Adds w w3 := row_snoc2 HR'.out (by have := HA.out.size; simpa using this) _ hgrow (HA.out.drewN nq) rfl
          go_roundg (P - (k + 1))
          case measure => omega
          case rel =>
            refine ⟨k + 1, by simp, by omega, Nat.le_refl _, Lib.hid ?_, Lib.hid hA3⟩
            rw [HS.out, stepL_nil]
            exact hown
        · obtain ⟨x1, x2⟩ := x
          obtain ⟨m, hm⟩ : ∃ m, m = ys.length := ⟨_, rfl⟩
          have hml : (ys ++ [(x1, x2)]).length = m + 1 := by rw [hm]; simp
          rw [hml] at HR hlen
          rcases row_shape HR.out with ⟨_, h0⟩ | ⟨g, lc, hlv⟩
          · exact absurd h0 (by omega)
          subst hlv
          obtain ⟨-, -, g3⟩ := RunsOk.snoc.1 hok
          simp only at g3
          have y0 : wr.cell? ⟨g, m * 2, none⟩ = some (.int .i64 x1) := by
            rw [HR.out.cellAt _ (by omega), hm]; exact (shCells_at _ ys.length (x1, x2) (by simp)).1
          have y1 : wr.cell? ⟨g, m * 2 + 1, none⟩ = some (.int .i64 x2) := by
            rw [HR.out.cellAt _ (by omega), hm]; exact (shCells_at _ ys.length (x1, x2) (by simp)).2
          have f1 := HR.out.frozenAt (m * 2 + 1)
          have hwm := wrap_ok (((m + 1 : Nat) : Int) - 1) (by omega) (by omega)
          have hwm2 : IntKind.i64.wrap ((m : Int) + 1 - 1) = (m : Int) := by rw [wrap_ok _ (by omega) (by omega)]; omega
          have hwx := wrap_ok (x1 + x2) (by omega) (by omega)
          have hwx2 := wrap64_ok (x1 + x2) (by omega) (by omega)
          have hwy := wrap_ok (x2 + 1) (by omega) (by omega)
          have hwy2 := wrap64_ok (x2 + 1) (by omega) (by omega)
          have HM := Lib.hid hm; have HOK := Lib.hid hok; have HML := Lib.hid hml
          clear hm hok hml
          by_cases hx : x1 + x2 = k
          · go_wp2_with fail
            go_quiet ((fail))
            go_wp2_with fail
            go_roundg (P - (k + 1))
            case measure => omega
            case rel =>
              have hst := (show (wr.drewN nq).ownsRow _ _ _ _ _ _ from HR.out).stored (m * 2 + 1) (.int .i64 (x2 + 1))
              refine ⟨k + 1, by simp, by omega, Nat.le_refl _, Lib.hid ?_, Lib.hid ?_⟩
              · rw [HS.out, stepL_join hx]
                have e1 : (ys ++ [(x1, x2 + 1)]).length = m + 1 := by have := HM.out; simp; omega
                rw [e1]
                have := hst.1
                rw [HM.out, shCells_set] at this
                rw [HM.out]
                exact this
              · exact (HA.out.drewN nq).setCell (p := ⟨g, m * 2 + 1, none⟩) (.inr (row_base HR.out g rfl)) _
          · have hx' : decide (x1 + x2 = (k : Int)) = false := by simpa using hx
            go_wp2_with fail
            go_quiet ((fail))
            have HR' := Lib.hid (show (wr.drewN nq).ownsRow _ _ _ _ _ _ from HR.out)
            go_wp2_with (at_builtin; refine wpList_append_own _ rfl _ _ 49 rfl w.heap.size 63 i0 (.agg #[.int .i64 0, .int .i64 0]) 2 16 Try.underlying49 hi hz0 hz1 hz2 rfl (by decide) _ (m + 1) _ rfl (HR'.out.alloc (.cells #[.int .i64 k, .int .i64 1] 63)) ⟨wr.heap.size, 0, none⟩ 1 1 [.int .i64 k, .int .i64 1] rfl rfl (cells_two_new _ _ _ _) (by simp [Value.oneCell']) (by unfold maxLen; omega) (by omega) (by have := HA.out.size; simp; omega) ?_; intro v' w3 hown hgrow _)
            have hA3 : Adds w w3 := row_snoc2 HR'.out (by have := HA.out.size; simpa using this) _ hgrow (HA.out.drewN nq) rfl
            go_roundg (P - (k + 1))
            case measure => omega
            case rel =>
              refine ⟨k + 1, by simp, by omega, Nat.le_refl _, Lib.hid ?_, Lib.hid hA3⟩
              rw [HS.out, stepL_new hx, List.length_append, HML.out, shCells_append]
              exact hown
    · have hkP : k = P := by omega
      subst hkP
      go_wp2_with fail
      go_ret
      exact ⟨_, rfl, HR.out, HA.out⟩
end Go.Proofs.Ytbijbpnhakbeeaa

/- RecordRuns: lays and gones of each side, in step. By an AI agent. -/
import Derived.Test.YtbepbcjklgfmjaaGreatDoorZDocLay
import Derived.Test.YtbepbcjklgfmjaaGreatDoorZC
import Derived.Test.YtbepbcjklgfmjaaGreatDoorZLaneBase
import Derived.Test.YtbepbcjklgfmjaaGreatDoorZRecSeq
namespace Go.Proofs.YtbepbcjklgfmjaaGreatDoor
open Go.RowKit
set_option linter.unusedSimpArgs false
set_option linter.unusedVariables false
/-- What a step that was an access leaves. -/
def RQ (X : World → Prop) (m ab sb sm rb : Nat) (P T : Int) (c : Ac) (s : StoreS) (w : World) (e : Ending) (w' : World) : Prop :=
  e = .returned (didV (c.act s)) ∧ (X w' ∧ Yard w' ab sb sm rb P T (c.act s)) ∧ Only (fun j => SB sb sm j ∨ j = m) w w'
theorem recAt_pageAt {P T k p : Int} (hm : Lay.may P T = true) (k0 : 9 ≤ k) (k1 : k < 15) (h0 : 0 ≤ p) (h1 : p < P) : recAt P T k p = Lay.pageAt P T k p := by
  unfold recAt atV; rw [pageOk_k hm k0 k1 h0 h1]; rfl
section
variable {w w' : World} {m mb ab sb sm rb : Nat} {P T pg cl ps al st i : Int} {s : StoreS}
theorem laS_lt (h : LayI w m P T pg cl ps al st i) (hY : Yard w ab sb sm rb P T s) (hbig : 1 < s.ws.length) (hir : s.inR (recAt P T 14 (pg + i))) (hP4 : P ≤ 4096) (h0 : 0 ≤ pg) (h1 : 1 ≤ ps) (h2 : pg + ps ≤ P) (hc : 0 ≤ cl ∧ cl < 256) (hi : 0 ≤ i) (hlt : i + 1 < ps) :
    Calls Tryz.prog 39 #[.pointer (some ⟨m, 0, none⟩), .pointer (some ⟨ab, 0, none⟩)] w (RQ (fun w' => LayI w' m P T pg cl ps al st (i + 1)) m ab sb sm rb P T (.put (recAt P T 14 (pg + i)) (pg + 1)) s w) := by
  have hml : m < w.heap.size := by obtain ⟨_, _, _, hb⟩ := h.live; exact hb.lt
  have hlt1 := hY.st.head.lt; have hlt2 := hY.st.row.lt
  obtain ⟨jm, ji, hjm, hji, hd⟩ := h
  refine recordLayStep_some (Q := fun w' => (LayI w' m P T pg cl ps al st (i + 1)) ∧ Yard w' ab sb sm rb P T _) (S := fun j => SB sb sm j ∨ j = m) (Stays.and (LayI.stays m P T pg cl ps al st (i + 1)) (fun _ _ ho h => Yard.dids h ho)) (fun j hj => hj.elim (fun e => e.elim (· ▸ hlt1) (· ▸ hlt2)) (· ▸ hml)) (fun w1 ho => ?_)
  exact Desk.stepPut (laCells ..) (by decide) (Desk.adds hd ho) (hY.adds ho) hbig hir (show (0 : Int) ≤ (pg + 1) ∧ (pg + 1) < 18446744073709551616 by omega) (LayI.stays m P T pg cl ps al st (i + 1)) (enters_of Tryz.func98 (by kernel_rfl) rfl) (fun w2 nx hs hb => layNext_lt (hs _ _ _ (hjm.only ho id)) (hs _ _ _ (hji.only ho id)) hb h0 h1 (by omega) hc (by omega) hlt)
theorem laS_ge (h : LayI w m P T pg cl ps al st i) (hY : Yard w ab sb sm rb P T s) (hbig : 1 < s.ws.length) (hir : s.inR (recAt P T 14 (pg + i))) (hP4 : P ≤ 4096) (h0 : 0 ≤ pg) (h1 : 1 ≤ ps) (h2 : pg + ps ≤ P) (hc : 0 ≤ cl ∧ cl < 256) (hi : 0 ≤ i) (hlt : i < ps) (hge : ps ≤ i + 1) :
    Calls Tryz.prog 39 #[.pointer (some ⟨m, 0, none⟩), .pointer (some ⟨ab, 0, none⟩)] w (RQ (fun w' => LayB w' m P T pg cl ps al st) m ab sb sm rb P T (.put (recAt P T 14 (pg + i)) (pg + 1)) s w) := by
  have hml : m < w.heap.size := by obtain ⟨_, _, _, hb⟩ := h.live; exact hb.lt
  have hlt1 := hY.st.head.lt; have hlt2 := hY.st.row.lt
  obtain ⟨jm, ji, hjm, hji, hd⟩ := h
  refine recordLayStep_some (Q := fun w' => (LayB w' m P T pg cl ps al st) ∧ Yard w' ab sb sm rb P T _) (S := fun j => SB sb sm j ∨ j = m) (Stays.and (LayB.stays m P T pg cl ps al st) (fun _ _ ho h => Yard.dids h ho)) (fun j hj => hj.elim (fun e => e.elim (· ▸ hlt1) (· ▸ hlt2)) (· ▸ hml)) (fun w1 ho => ?_)
  exact Desk.stepPut (laCells ..) (by decide) (Desk.adds hd ho) (hY.adds ho) hbig hir (show (0 : Int) ≤ (pg + 1) ∧ (pg + 1) < 18446744073709551616 by omega) (LayB.stays m P T pg cl ps al st) (enters_of Tryz.func98 (by kernel_rfl) rfl) (fun w2 nx hs hb => layNext_ge (hs _ _ _ (hjm.only ho id)) (hs _ _ _ (hji.only ho id)) hb h0 h1 (by omega) hc (by omega) hge (by omega))
theorem laS_base (h : LayB w m P T pg cl ps al st) (hY : Yard w ab sb sm rb P T s) (hbig : 1 < s.ws.length) (hir : s.inR (recAt P T 10 pg)) (hP4 : P ≤ 4096) (h0 : 0 ≤ pg) (h1 : 1 ≤ ps) (h2 : pg + ps ≤ P) (hc : 0 ≤ cl ∧ cl < 256) :
    Calls Tryz.prog 39 #[.pointer (some ⟨m, 0, none⟩), .pointer (some ⟨ab, 0, none⟩)] w (RQ (fun w' => LayA w' m P T pg cl ps al st) m ab sb sm rb P T (.put (recAt P T 10 pg) (256 * ps + cl)) s w) := by
  have hml : m < w.heap.size := by obtain ⟨_, _, _, hb⟩ := h.live; exact hb.lt
  have hlt1 := hY.st.head.lt; have hlt2 := hY.st.row.lt
  obtain ⟨jm, hjm, hd⟩ := h
  refine recordLayStep_some (Q := fun w' => (LayA w' m P T pg cl ps al st) ∧ Yard w' ab sb sm rb P T _) (S := fun j => SB sb sm j ∨ j = m) (Stays.and (LayA.stays m P T pg cl ps al st) (fun _ _ ho h => Yard.dids h ho)) (fun j hj => hj.elim (fun e => e.elim (· ▸ hlt1) (· ▸ hlt2)) (· ▸ hml)) (fun w1 ho => ?_)
  exact Desk.stepPut (laCells ..) (by decide) (Desk.adds hd ho) (hY.adds ho) hbig hir (show (0 : Int) ≤ (256 * ps + cl) ∧ (256 * ps + cl) < 18446744073709551616 by omega) (LayA.stays m P T pg cl ps al st) (enters_of Tryz.func99 (by kernel_rfl) rfl) (fun w2 nx hs hb => layBase_then (hs _ _ _ (hjm.only ho id)) hb)
theorem laS_alloc (h : LayA w m P T pg cl ps al st) (hY : Yard w ab sb sm rb P T s) (hbig : 1 < s.ws.length) (hir : s.inR (recAt P T 12 pg)) (hP4 : P ≤ 4096) (h0 : 0 ≤ pg) (h1 : 1 ≤ ps) (h2 : pg + ps ≤ P) (ha : 0 ≤ al ∧ al < 18446744073709551616) :
    Calls Tryz.prog 39 #[.pointer (some ⟨m, 0, none⟩), .pointer (some ⟨ab, 0, none⟩)] w (RQ (fun w' => LayM w' m P T pg cl ps al st) m ab sb sm rb P T (.put (recAt P T 12 pg) (al)) s w) := by
  have hml : m < w.heap.size := by obtain ⟨_, _, _, hb⟩ := h.live; exact hb.lt
  have hlt1 := hY.st.head.lt; have hlt2 := hY.st.row.lt
  obtain ⟨jm, hjm, hd⟩ := h
  refine recordLayStep_some (Q := fun w' => (LayM w' m P T pg cl ps al st) ∧ Yard w' ab sb sm rb P T _) (S := fun j => SB sb sm j ∨ j = m) (Stays.and (LayM.stays m P T pg cl ps al st) (fun _ _ ho h => Yard.dids h ho)) (fun j hj => hj.elim (fun e => e.elim (· ▸ hlt1) (· ▸ hlt2)) (· ▸ hml)) (fun w1 ho => ?_)
  exact Desk.stepPut (laCells ..) (by decide) (Desk.adds hd ho) (hY.adds ho) hbig hir ha (LayM.stays m P T pg cl ps al st) (enters_of Tryz.func100 (by kernel_rfl) rfl) (fun w2 nx hs hb => layAlloc_then (hs _ _ _ (hjm.only ho id)) hb)
theorem laS_mark (h : LayM w m P T pg cl ps al st) (hY : Yard w ab sb sm rb P T s) (hbig : 1 < s.ws.length) (hir : s.inR (recAt P T 13 pg)) (hP4 : P ≤ 4096) (h0 : 0 ≤ pg) (h1 : 1 ≤ ps) (h2 : pg + ps ≤ P)  :
    Calls Tryz.prog 39 #[.pointer (some ⟨m, 0, none⟩), .pointer (some ⟨ab, 0, none⟩)] w (RQ (fun w' => LayS w' m P T pg cl ps al st) m ab sb sm rb P T (.put (recAt P T 13 pg) (0)) s w) := by
  have hml : m < w.heap.size := by obtain ⟨_, _, _, hb⟩ := h.live; exact hb.lt
  have hlt1 := hY.st.head.lt; have hlt2 := hY.st.row.lt
  obtain ⟨jm, hjm, hd⟩ := h
  refine recordLayStep_some (Q := fun w' => (LayS w' m P T pg cl ps al st) ∧ Yard w' ab sb sm rb P T _) (S := fun j => SB sb sm j ∨ j = m) (Stays.and (LayS.stays m P T pg cl ps al st) (fun _ _ ho h => Yard.dids h ho)) (fun j hj => hj.elim (fun e => e.elim (· ▸ hlt1) (· ▸ hlt2)) (· ▸ hml)) (fun w1 ho => ?_)
  exact Desk.stepPut (laCells ..) (by decide) (Desk.adds hd ho) (hY.adds ho) hbig hir (show (0 : Int) ≤ (0) ∧ (0) < 18446744073709551616 by omega) (LayS.stays m P T pg cl ps al st) (enters_of Tryz.func101 (by kernel_rfl) rfl) (fun w2 nx hs hb => layMark_then (hs _ _ _ (hjm.only ho id)) hb)
theorem laS_state (h : LayS w m P T pg cl ps al st) (hY : Yard w ab sb sm rb P T s) (hbig : 1 < s.ws.length) (hir : s.inR (recAt P T 9 pg)) (hP4 : P ≤ 4096) (h0 : 0 ≤ pg) (h1 : 1 ≤ ps) (h2 : pg + ps ≤ P) (ha : 0 ≤ st ∧ st < 18446744073709551616) :
    Calls Tryz.prog 39 #[.pointer (some ⟨m, 0, none⟩), .pointer (some ⟨ab, 0, none⟩)] w (RQ (fun w' => Desk w' m (laC P T pg cl ps al st) 122 .done) m ab sb sm rb P T (.put (recAt P T 9 pg) (st)) s w) := by
  have hml : m < w.heap.size := by obtain ⟨_, _, _, hb⟩ := h.live; exact hb.lt
  have hlt1 := hY.st.head.lt; have hlt2 := hY.st.row.lt
  have hd := h
  refine recordLayStep_some (Q := fun w' => (Desk w' m (laC P T pg cl ps al st) 122 .done) ∧ Yard w' ab sb sm rb P T _) (S := fun j => SB sb sm j ∨ j = m) (Stays.and (Desk.stays m (laC P T pg cl ps al st) 122 .done (by decide)) (fun _ _ ho h => Yard.dids h ho)) (fun j hj => hj.elim (fun e => e.elim (· ▸ hlt1) (· ▸ hlt2)) (· ▸ hml)) (fun w1 ho => ?_)
  exact Desk.stepPut (laCells ..) (by decide) (Desk.adds hd ho) (hY.adds ho) hbig hir ha (Desk.stays m (laC P T pg cl ps al st) 122 .done (by decide)) (enters_of Tryz.func102 (by kernel_rfl) rfl) (fun w2 nx hs hb => (deskEnd_any hb (by simp)).mono (fun _ _ he => ⟨he.1, by rw [he.2]; exact hb.setCell 2 _, by rw [he.2]; exact (Only.refl (fun x => x = m) _).setCell (.inl rfl) _⟩))
theorem goS_lt (h : GoneI w m P T pg ps i) (hY : Yard w ab sb sm rb P T s) (hbig : 1 < s.ws.length) (hir : s.inR (recAt P T 14 (pg + i))) (hP4 : P ≤ 4096) (h0 : 0 ≤ pg) (h1 : 1 ≤ ps) (h2 : pg + ps ≤ P) (hi : 0 ≤ i) (hlt : i + 1 < ps) :
    Calls Tryz.prog 46 #[.pointer (some ⟨m, 0, none⟩), .pointer (some ⟨ab, 0, none⟩)] w (RQ (fun w' => GoneI w' m P T pg ps (i + 1)) m ab sb sm rb P T (.put (recAt P T 14 (pg + i)) (0)) s w) := by
  have hml : m < w.heap.size := by obtain ⟨_, _, _, hb⟩ := h.live; exact hb.lt
  have hlt1 := hY.st.head.lt; have hlt2 := hY.st.row.lt
  obtain ⟨jm, ji, hjm, hji, hd⟩ := h
  refine recordGoneStep_some (Q := fun w' => (GoneI w' m P T pg ps (i + 1)) ∧ Yard w' ab sb sm rb P T _) (S := fun j => SB sb sm j ∨ j = m) (Stays.and (GoneI.stays m P T pg ps (i + 1)) (fun _ _ ho h => Yard.dids h ho)) (fun j hj => hj.elim (fun e => e.elim (· ▸ hlt1) (· ▸ hlt2)) (· ▸ hml)) (fun w1 ho => ?_)
  exact Desk.stepPut (goCells ..) (by decide) (Desk.adds hd ho) (hY.adds ho) hbig hir (show (0 : Int) ≤ (0) ∧ (0) < 18446744073709551616 by omega) (GoneI.stays m P T pg ps (i + 1)) (enters_of Tryz.func103 (by kernel_rfl) rfl) (fun w2 nx hs hb => goneNext_lt (hs _ _ _ (hjm.only ho id)) (hs _ _ _ (hji.only ho id)) hb h0 h1 (by omega) (by omega) hlt)
theorem goS_ge (h : GoneI w m P T pg ps i) (hY : Yard w ab sb sm rb P T s) (hbig : 1 < s.ws.length) (hir : s.inR (recAt P T 14 (pg + i))) (hP4 : P ≤ 4096) (h0 : 0 ≤ pg) (h1 : 1 ≤ ps) (h2 : pg + ps ≤ P) (hi : 0 ≤ i) (hlt : i < ps) (hge : ps ≤ i + 1) :
    Calls Tryz.prog 46 #[.pointer (some ⟨m, 0, none⟩), .pointer (some ⟨ab, 0, none⟩)] w (RQ (fun w' => GoneS w' m P T pg ps) m ab sb sm rb P T (.put (recAt P T 14 (pg + i)) (0)) s w) := by
  have hml : m < w.heap.size := by obtain ⟨_, _, _, hb⟩ := h.live; exact hb.lt
  have hlt1 := hY.st.head.lt; have hlt2 := hY.st.row.lt
  obtain ⟨jm, ji, hjm, hji, hd⟩ := h
  refine recordGoneStep_some (Q := fun w' => (GoneS w' m P T pg ps) ∧ Yard w' ab sb sm rb P T _) (S := fun j => SB sb sm j ∨ j = m) (Stays.and (GoneS.stays m P T pg ps) (fun _ _ ho h => Yard.dids h ho)) (fun j hj => hj.elim (fun e => e.elim (· ▸ hlt1) (· ▸ hlt2)) (· ▸ hml)) (fun w1 ho => ?_)
  exact Desk.stepPut (goCells ..) (by decide) (Desk.adds hd ho) (hY.adds ho) hbig hir (show (0 : Int) ≤ (0) ∧ (0) < 18446744073709551616 by omega) (GoneS.stays m P T pg ps) (enters_of Tryz.func103 (by kernel_rfl) rfl) (fun w2 nx hs hb => goneNext_ge (hs _ _ _ (hjm.only ho id)) (hs _ _ _ (hji.only ho id)) hb h0 h1 (by omega) (by omega) hge (by omega))
theorem goS_state (h : GoneS w m P T pg ps) (hY : Yard w ab sb sm rb P T s) (hbig : 1 < s.ws.length) (hir : s.inR (recAt P T 9 pg)) (hP4 : P ≤ 4096) (h0 : 0 ≤ pg) (h1 : 1 ≤ ps) (h2 : pg + ps ≤ P)  :
    Calls Tryz.prog 46 #[.pointer (some ⟨m, 0, none⟩), .pointer (some ⟨ab, 0, none⟩)] w (RQ (fun w' => Desk w' m (goC P T pg ps) 128 .done) m ab sb sm rb P T (.put (recAt P T 9 pg) (0)) s w) := by
  have hml : m < w.heap.size := by obtain ⟨_, _, _, hb⟩ := h.live; exact hb.lt
  have hlt1 := hY.st.head.lt; have hlt2 := hY.st.row.lt
  have hd := h
  refine recordGoneStep_some (Q := fun w' => (Desk w' m (goC P T pg ps) 128 .done) ∧ Yard w' ab sb sm rb P T _) (S := fun j => SB sb sm j ∨ j = m) (Stays.and (Desk.stays m (goC P T pg ps) 128 .done (by decide)) (fun _ _ ho h => Yard.dids h ho)) (fun j hj => hj.elim (fun e => e.elim (· ▸ hlt1) (· ▸ hlt2)) (· ▸ hml)) (fun w1 ho => ?_)
  exact Desk.stepPut (goCells ..) (by decide) (Desk.adds hd ho) (hY.adds ho) hbig hir (show (0 : Int) ≤ (0) ∧ (0) < 18446744073709551616 by omega) (Desk.stays m (goC P T pg ps) 128 .done (by decide)) (enters_of Tryz.func102 (by kernel_rfl) rfl) (fun w2 nx hs hb => (deskEnd_any hb (by simp)).mono (fun _ _ he => ⟨he.1, by rw [he.2]; exact hb.setCell 2 _, by rw [he.2]; exact (Only.refl (fun x => x = m) _).setCell (.inl rfl) _⟩))
theorem LayAt.keep {S : Nat → Prop} (h : LayAt w m P T pg cl ps al st i) (ho : Only S w w') (hm : ¬ S m) (hs : ∀ b x t, Blk w b #[x] t → ¬ S b) : LayAt w' m P T pg cl ps al st i := by
  obtain ⟨h1, jm, ji, a, b, c⟩ | ⟨h1, jm, a, c⟩ | ⟨h1, jm, a, c⟩ | ⟨h1, jm, a, c⟩ | ⟨h1, h⟩ | ⟨h1, h⟩ := h
  · exact .inl ⟨h1, jm, ji, a.only ho (hs _ _ _ a), b.only ho (hs _ _ _ b), Desk.only c ho hm hs⟩
  · exact .inr (.inl ⟨h1, jm, a.only ho (hs _ _ _ a), Desk.only c ho hm hs⟩)
  · exact .inr (.inr (.inl ⟨h1, jm, a.only ho (hs _ _ _ a), Desk.only c ho hm hs⟩))
  · exact .inr (.inr (.inr (.inl ⟨h1, jm, a.only ho (hs _ _ _ a), Desk.only c ho hm hs⟩)))
  · exact .inr (.inr (.inr (.inr (.inl ⟨h1, Desk.only h ho hm hs⟩))))
  · exact .inr (.inr (.inr (.inr (.inr ⟨h1, Desk.only h ho hm hs⟩))))
theorem GoneAt.keep {S : Nat → Prop} (h : GoneAt w m P T pg ps i) (ho : Only S w w') (hm : ¬ S m) (hs : ∀ b x t, Blk w b #[x] t → ¬ S b) : GoneAt w' m P T pg ps i := by
  obtain ⟨h1, jm, ji, a, b, c⟩ | ⟨h1, h⟩ | ⟨h1, h⟩ := h
  · exact .inl ⟨h1, jm, ji, a.only ho (hs _ _ _ a), b.only ho (hs _ _ _ b), Desk.only c ho hm hs⟩
  · exact .inr (.inl ⟨h1, Desk.only h ho hm hs⟩)
  · exact .inr (.inr ⟨h1, Desk.only h ho hm hs⟩)
theorem LayAt.rowT {r : Nat} {cr : Array Value} {u : TypeId} (h : LayAt w m P T pg cl ps al st i) (hr : Blk w r cr u) (hb : BoxFree u) (h1 : u ≠ 122) (h2 : u ≠ 65) (ho : Only (· = r) w w') : LayAt w' m P T pg cl ps al st i := by
  obtain ⟨q1, jm, ji, a, b, c⟩ | ⟨q1, jm, a, c⟩ | ⟨q1, jm, a, c⟩ | ⟨q1, jm, a, c⟩ | ⟨q1, h⟩ | ⟨q1, h⟩ := h
  · exact .inl ⟨q1, jm, ji, a.rowT hr h2 ho, b.rowT hr hb.1 ho, Desk.rowT c hr hb h1 ho⟩
  · exact .inr (.inl ⟨q1, jm, a.rowT hr h2 ho, Desk.rowT c hr hb h1 ho⟩)
  · exact .inr (.inr (.inl ⟨q1, jm, a.rowT hr h2 ho, Desk.rowT c hr hb h1 ho⟩))
  · exact .inr (.inr (.inr (.inl ⟨q1, jm, a.rowT hr h2 ho, Desk.rowT c hr hb h1 ho⟩)))
  · exact .inr (.inr (.inr (.inr (.inl ⟨q1, Desk.rowT h hr hb h1 ho⟩))))
  · exact .inr (.inr (.inr (.inr (.inr ⟨q1, Desk.rowT h hr hb h1 ho⟩))))
theorem GoneAt.rowT {r : Nat} {cr : Array Value} {u : TypeId} (h : GoneAt w m P T pg ps i) (hr : Blk w r cr u) (hb : BoxFree u) (h1 : u ≠ 128) (h2 : u ≠ 66) (ho : Only (· = r) w w') : GoneAt w' m P T pg ps i := by
  obtain ⟨q1, jm, ji, a, b, c⟩ | ⟨q1, h⟩ | ⟨q1, h⟩ := h
  · exact .inl ⟨q1, jm, ji, a.rowT hr h2 ho, b.rowT hr hb.1 ho, Desk.rowT c hr hb h1 ho⟩
  · exact .inr (.inl ⟨q1, Desk.rowT h hr hb h1 ho⟩)
  · exact .inr (.inr ⟨q1, Desk.rowT h hr hb h1 ho⟩)
end
/-- What a lay, or a gone, was made of. -/
structure RcP where
  pg : Int
  n : Nat
  cl : Int
  al : Int
  st : Int
/-- A machine: what it is, where it stands. -/
inductive RcS where
  | lay (q : RcP) (i : Nat)
  | laid (q : RcP)
  | gone (q : RcP) (i : Nat)
  | went (q : RcP)
structure RcP.Ok (P : Int) (q : RcP) : Prop where
  p0 : 0 ≤ q.pg
  n1 : 1 ≤ q.n
  p1 : q.pg + q.n ≤ P
  cl : 0 ≤ q.cl ∧ q.cl < 256
  al : 0 ≤ q.al ∧ q.al < 18446744073709551616
  st : 0 ≤ q.st ∧ q.st < 18446744073709551616
namespace RcS
def q : RcS → RcP
  | lay q _ => q | laid q => q | gone q _ => q | went q => q
def got : RcS → Bool
  | laid _ => true | went _ => true | _ => false
/-- Is it a lay? -/
def isLay : RcS → Bool
  | lay _ _ => true | laid _ => true | _ => false
def ac (P T : Int) : RcS → Ac
  | lay q i => (layA P T q.pg q.n (256 * q.n + q.cl) q.al q.st).ac i
  | gone q i => (goneA P T q.pg q.n).ac i
  | _ => .load 0
def nx : RcS → RcS
  | lay q i => if i < q.n + 3 then lay q (i + 1) else laid q
  | gone q i => if i < q.n then gone q (i + 1) else went q
  | k => k
theorem nx_isLay (k : RcS) : k.nx.isLay = k.isLay := by
  cases k <;> simp only [nx] <;> first | rfl | (split <;> rfl)
theorem nx_q (k : RcS) : k.nx.q = k.q := by
  cases k <;> simp only [nx] <;> first | rfl | (split <;> rfl)
end RcS
def RcA (P T : Int) (w : World) (m : Nat) : RcS → Prop
  | .lay q i => i < q.n + 4 ∧ LayAt w m P T q.pg q.cl q.n q.al q.st i
  | .laid q => Desk w m (laC P T q.pg q.cl q.n q.al q.st) 122 .done
  | .gone q i => i < q.n + 1 ∧ GoneAt w m P T q.pg q.n i
  | .went q => Desk w m (goC P T q.pg q.n) 128 .done
abbrev rcTy (t : TypeId) : Prop := t = 122 ∨ t = 128
theorem rcO (P T : Int) : LOps (RcA P T) rcTy where
  keep {S w w' m k} h ho hm hs := by
    cases k with
    | lay q i => exact ⟨h.1, h.2.keep ho hm hs⟩
    | laid q => exact Desk.only (show Desk w m (laC P T q.pg q.cl q.n q.al q.st) 122 .done from h) ho hm hs
    | gone q i => exact ⟨h.1, h.2.keep ho hm hs⟩
    | went q => exact Desk.only (show Desk w m (goC P T q.pg q.n) 128 .done from h) ho hm hs
  blk {w m k} h := by
    cases k with
    | lay q i => obtain ⟨nx, hb⟩ := h.2.blk; exact ⟨_, _, hb, by simp, .inl rfl⟩
    | laid q => exact ⟨_, _, (show Blk w m _ 122 from h), by simp, .inl rfl⟩
    | gone q i => obtain ⟨nx, hb⟩ := h.2.blk; exact ⟨_, _, hb, by simp, .inr rfl⟩
    | went q => exact ⟨_, _, (show Blk w m _ 128 from h), by simp, .inr rfl⟩
  ty t h := by rcases h with rfl | rfl <;> decide
theorem RcA.rowT {P T : Int} {w w' : World} {m r : Nat} {k : RcS} {cr : Array Value} {u : TypeId} (h : RcA P T w m k) (hr : Blk w r cr u) (hu : BoxFree u ∧ u ≠ 122 ∧ u ≠ 65 ∧ u ≠ 128 ∧ u ≠ 66) (ho : Only (· = r) w w') : RcA P T w' m k := by
  cases k with
  | lay q i => exact ⟨h.1, h.2.rowT hr hu.1 hu.2.1 hu.2.2.1 ho⟩
  | laid q => exact Desk.rowT (show Desk w m (laC P T q.pg q.cl q.n q.al q.st) 122 .done from h) hr hu.1 hu.2.1 ho
  | gone q i => exact ⟨h.1, h.2.rowT hr hu.1 hu.2.2.2.1 hu.2.2.2.2 ho⟩
  | went q => exact Desk.rowT (show Desk w m (goC P T q.pg q.n) 128 .done from h) hr hu.1 hu.2.2.2.1 ho
section
variable {w : World} {m ab sb sm rb : Nat} {P T : Int} {s : StoreS} {q : RcP} {i : Nat}
theorem rcLay (h : RcA P T w m (.lay q i)) (hq : q.Ok P) (hY : Yard w ab sb sm rb P T s) (hm : Lay.may P T = true) (hlen : s.ws.length = (Lay.words P T).toNat) :
    Calls Tryz.prog 39 #[.pointer (some ⟨m, 0, none⟩), .pointer (some ⟨ab, 0, none⟩)] w (RQ (fun w' => RcA P T w' m (RcS.lay q i).nx) m ab sb sm rb P T ((RcS.lay q i).ac P T) s w) := by
  obtain ⟨p0, n1, p1, hc, ha, hs⟩ := hq
  have hmm := Lay.may_iff.1 hm
  have hw := words_big hm
  have hbig : 1 < s.ws.length := by rw [hlen]; omega
  have inr : ∀ k p, 9 ≤ k → k < 15 → 0 ≤ p → p < P → s.inR (recAt P T k p) := fun k p k0 k1 h0 h1 => by have := recAt_bd hm h0 h1 k0 k1; exact ⟨this.1, by rw [hlen]; omega⟩
  have nx1 : i < q.n + 3 → (RcS.lay q i).nx = .lay q (i + 1) := fun h => if_pos h
  obtain ⟨hi, h⟩ := h
  obtain ⟨e, h⟩ | ⟨e, h⟩ | ⟨e, h⟩ | ⟨e, h⟩ | ⟨e, h⟩ | ⟨e, h⟩ := h
  · have hac : (RcS.lay q i).ac P T = .put (recAt P T 14 (q.pg + i)) (q.pg + 1) := by rw [recAt_pageAt hm (by omega) (by omega) (by omega) (by omega)]; exact layA_0 (by omega)
    rw [hac, nx1 (by omega)]
    by_cases hn : i + 1 < q.n
    · refine (laS_lt h hY hbig (inr _ _ (by omega) (by omega) (by omega) (by omega)) hmm.2.1 p0 (by omega) p1 hc (by omega) (by omega)).mono (fun e w' z => ⟨z.1, ⟨⟨by omega, .inl ⟨by omega, ?_⟩⟩, z.2.1.2⟩, z.2.2⟩)
      have := z.2.1.1
      rw [show ((i + 1 : Nat) : Int) = (i : Int) + 1 by omega]; exact this
    · refine (laS_ge h hY hbig (inr _ _ (by omega) (by omega) (by omega) (by omega)) hmm.2.1 p0 (by omega) p1 hc (by omega) (by omega) (by omega)).mono (fun e w' z => ⟨z.1, ⟨⟨by omega, .inr (.inl ⟨by omega, z.2.1.1⟩)⟩, z.2.1.2⟩, z.2.2⟩)
  · obtain rfl : i = q.n := by omega
    have hac : (RcS.lay q q.n).ac P T = .put (recAt P T 10 q.pg) (256 * q.n + q.cl) := by rw [recAt_pageAt hm (by omega) (by omega) (by omega) (by omega)]; exact layA_1
    rw [hac, nx1 (by omega)]
    exact (laS_base h hY hbig (inr _ _ (by omega) (by omega) (by omega) (by omega)) hmm.2.1 p0 (by omega) p1 hc).mono (fun e w' z => ⟨z.1, ⟨⟨by omega, .inr (.inr (.inl ⟨by omega, z.2.1.1⟩))⟩, z.2.1.2⟩, z.2.2⟩)
  · obtain rfl : i = q.n + 1 := by omega
    have hac : (RcS.lay q (q.n + 1)).ac P T = .put (recAt P T 12 q.pg) q.al := by rw [recAt_pageAt hm (by omega) (by omega) (by omega) (by omega)]; exact layA_2
    rw [hac, nx1 (by omega)]
    exact (laS_alloc h hY hbig (inr _ _ (by omega) (by omega) (by omega) (by omega)) hmm.2.1 p0 (by omega) p1 ha).mono (fun e w' z => ⟨z.1, ⟨⟨by omega, .inr (.inr (.inr (.inl ⟨by omega, z.2.1.1⟩)))⟩, z.2.1.2⟩, z.2.2⟩)
  · obtain rfl : i = q.n + 2 := by omega
    have hac : (RcS.lay q (q.n + 2)).ac P T = .put (recAt P T 13 q.pg) 0 := by rw [recAt_pageAt hm (by omega) (by omega) (by omega) (by omega)]; exact layA_3
    rw [hac, nx1 (by omega)]
    exact (laS_mark h hY hbig (inr _ _ (by omega) (by omega) (by omega) (by omega)) hmm.2.1 p0 (by omega) p1).mono (fun e w' z => ⟨z.1, ⟨⟨by omega, .inr (.inr (.inr (.inr (.inl ⟨by omega, z.2.1.1⟩))))⟩, z.2.1.2⟩, z.2.2⟩)
  · obtain rfl : i = q.n + 3 := by omega
    have hac : (RcS.lay q (q.n + 3)).ac P T = .put (recAt P T 9 q.pg) q.st := by rw [recAt_pageAt hm (by omega) (by omega) (by omega) (by omega)]; exact layA_4
    have nx2 : (RcS.lay q (q.n + 3)).nx = .laid q := if_neg (by omega)
    rw [hac, nx2]
    exact laS_state h hY hbig (inr _ _ (by omega) (by omega) (by omega) (by omega)) hmm.2.1 p0 (by omega) p1 hs
  · omega
theorem rcGone (h : RcA P T w m (.gone q i)) (hq : q.Ok P) (hY : Yard w ab sb sm rb P T s) (hm : Lay.may P T = true) (hlen : s.ws.length = (Lay.words P T).toNat) :
    Calls Tryz.prog 46 #[.pointer (some ⟨m, 0, none⟩), .pointer (some ⟨ab, 0, none⟩)] w (RQ (fun w' => RcA P T w' m (RcS.gone q i).nx) m ab sb sm rb P T ((RcS.gone q i).ac P T) s w) := by
  obtain ⟨p0, n1, p1, hc, ha, hs⟩ := hq
  have hmm := Lay.may_iff.1 hm
  have hw := words_big hm
  have hbig : 1 < s.ws.length := by rw [hlen]; omega
  have inr : ∀ k p, 9 ≤ k → k < 15 → 0 ≤ p → p < P → s.inR (recAt P T k p) := fun k p k0 k1 h0 h1 => by have := recAt_bd hm h0 h1 k0 k1; exact ⟨this.1, by rw [hlen]; omega⟩
  obtain ⟨hi, h⟩ := h
  obtain ⟨e, h⟩ | ⟨e, h⟩ | ⟨e, h⟩ := h
  · have hac : (RcS.gone q i).ac P T = .put (recAt P T 14 (q.pg + i)) 0 := by rw [recAt_pageAt hm (by omega) (by omega) (by omega) (by omega)]; exact goneA_0 (by omega)
    have nx1 : (RcS.gone q i).nx = .gone q (i + 1) := if_pos (by omega)
    rw [hac, nx1]
    by_cases hn : i + 1 < q.n
    · refine (goS_lt h hY hbig (inr _ _ (by omega) (by omega) (by omega) (by omega)) hmm.2.1 p0 (by omega) p1 (by omega) (by omega)).mono (fun e w' z => ⟨z.1, ⟨⟨by omega, .inl ⟨by omega, ?_⟩⟩, z.2.1.2⟩, z.2.2⟩)
      have := z.2.1.1
      rw [show ((i + 1 : Nat) : Int) = (i : Int) + 1 by omega]; exact this
    · exact (goS_ge h hY hbig (inr _ _ (by omega) (by omega) (by omega) (by omega)) hmm.2.1 p0 (by omega) p1 (by omega) (by omega) (by omega)).mono (fun e w' z => ⟨z.1, ⟨⟨by omega, .inr (.inl ⟨by omega, z.2.1.1⟩)⟩, z.2.1.2⟩, z.2.2⟩)
  · obtain rfl : i = q.n := by omega
    have hac : (RcS.gone q q.n).ac P T = .put (recAt P T 9 q.pg) 0 := by rw [recAt_pageAt hm (by omega) (by omega) (by omega) (by omega)]; exact goneA_1
    have nx2 : (RcS.gone q q.n).nx = .went q := if_neg (by omega)
    rw [hac, nx2]
    exact goS_state h hY hbig (inr _ _ (by omega) (by omega) (by omega) (by omega)) hmm.2.1 p0 (by omega) p1
  · omega
theorem rcLay_done {k : RcS} (h : RcA P T w m k) (hk : k.isLay = true) : Calls Tryz.prog 38 #[.pointer (some ⟨m, 0, none⟩)] w fun e w' => e = .returned (.bool k.got) ∧ w = w' := by
  cases k with
  | lay q i => exact layAt_notDone h.2 (by have := h.1; omega)
  | laid q => exact recordLayDone_yes (Blk.cell (show Desk w m (laC P T q.pg q.cl q.n q.al q.st) 122 .done from h) 2)
  | gone q i => cases hk
  | went q => cases hk
theorem rcGone_done {k : RcS} (h : RcA P T w m k) (hk : k.isLay = false) : Calls Tryz.prog 47 #[.pointer (some ⟨m, 0, none⟩)] w fun e w' => e = .returned (.bool k.got) ∧ w = w' := by
  cases k with
  | lay q i => cases hk
  | laid q => cases hk
  | gone q i => exact goneAt_notDone h.2 (by have := h.1; omega)
  | went q => exact recordGoneDone_yes (Blk.cell (show Desk w m (goC P T q.pg q.n) 128 .done from h) 2)
end
/-- What the document's machine is beside it: behind its log. -/
def RcM (x : MS) (P T : Int) : RcS → Prop
  | .lay q i => x.what = 5 ∧ x.P = P ∧ x.T = T ∧ x.done = false ∧ (x.page = q.pg ∧ x.cls = q.cl ∧ x.pages = q.n ∧ Ph.mk x.gen 2 = q.st ∧ x.mask = q.al) ∧ x.log.length = i ∧ i < q.n + 4
  | .gone q i => x.what = 6 ∧ x.P = P ∧ x.T = T ∧ x.done = false ∧ (x.page = q.pg ∧ x.pages = q.n) ∧ x.log.length = i ∧ i < q.n + 1
  | _ => False
theorem layA_feed {P T pg bv al st : Int} {n : Nat} : ∀ (l : List Int) (j : Nat), j + l.length < n + 4 → (layA P T pg n bv al st).feed j l = some (j + l.length)
  | [], j, _ => rfl
  | v :: l, j, h => by
    simp only [List.length_cons] at h ⊢
    simp only [Aut.feed]
    rw [layA_nx (by omega)]
    dsimp only
    rw [layA_feed l (j + 1) (by omega)]
    congr 1; omega
theorem goneA_feed {P T pg : Int} {n : Nat} : ∀ (l : List Int) (j : Nat), j + l.length < n + 1 → (goneA P T pg n).feed j l = some (j + l.length)
  | [], j, _ => rfl
  | v :: l, j, h => by
    simp only [List.length_cons] at h ⊢
    simp only [Aut.feed]
    rw [goneA_nx (by omega)]
    dsimp only
    rw [goneA_feed l (j + 1) (by omega)]
    congr 1; omega
section
variable {w w' : World} {mb bb tb tm ub fb : Nat} {P T : Int} {s : StoreS} {x : MS} {k : RcS} {lg mkv mem : Value}
theorem fin_live (d : Bool) (y : MS) (c : Ac) (s : StoreS) : (MS.fin d (y.live c s)).log = y.log ++ [s.word c.pos] ∧ (MS.fin d (y.live c s)).d0 = (c.act s).k ∧ (MS.fin d (y.live c s)).d1 = (c.act s).pos ∧ (MS.fin d (y.live c s)).d2 = (c.act s).old ∧ (MS.fin d (y.live c s)).d3 = (c.act s).new := by
  cases d <;> exact ⟨rfl, rfl, rfl, rfl, rfl⟩
set_option maxHeartbeats 4000000 in
/-- A step of the document's machine. -/
theorem recM_step (h : IsM w mb x lg mkv mem) (hM : IsMem w bb tb tm ub fb P T s) (hne : lg.ownBlock ≠ some tm) (hx : RcM x P T k) (hq : k.q.Ok P) (hm : Lay.may P T = true) (hlen : s.ws.length = (Lay.words P T).toNat) :
    Calls Tryz.prog 45 #[.pointer (some ⟨mb, 0, none⟩), .pointer (some ⟨bb, 0, none⟩)] w fun e w' => e = .returned (didV ((k.ac P T).act s)) ∧ ∃ y : MS, y.done = k.nx.got ∧ (k.nx.got = false → RcM y P T k.nx) ∧ Steps w w' mb bb tb tm ub fb P T ((k.ac P T).act s) y lg := by
  obtain ⟨p0, n1, p1, hc, ha, hs⟩ := hq
  have hmm := Lay.may_iff.1 hm
  cases k with
  | lay q i =>
    obtain ⟨h1, h2, h3, h4, ⟨e1, e2, e3, e4, e5⟩, h6, h7⟩ := hx
    have law := Aut.law (layA P T q.pg q.n (256 * q.n + q.cl) q.al q.st) (s := s) x.log 0 i x.fresh rfl (by show x.log.drop 0 = x.log; rfl) (by rw [layA_feed _ _ (by omega), h6]; congr 1; omega)
    obtain ⟨c, hcc⟩ : ∃ c, (layA P T q.pg q.n (256 * q.n + q.cl) q.al q.st).ac i = c := ⟨_, rfl⟩
    have hac : (RcS.lay q i).ac P T = c := hcc
    rw [hcc] at law
    rw [hac]
    have hroom : x.fresh.room < 100000 := by show x.log.length + 1 < 100000; have : q.n ≤ 4096 := by have := p1; have := p0; simp only [RcS.q] at *; omega
                                             omega
    obtain ⟨d, hd⟩ : ∃ d, (RcS.lay q i).nx.got = d := ⟨_, rfl⟩
    have hd1 : (if i < q.n + 3 then false else true) = d := by rw [← hd]; simp only [RcS.nx]; split <;> rfl
    have key := mStep_any (x1 := MS.fin d ((x.fresh.on x.log.length).live c s)) (s1 := c.act s) (d := d) h hM hne h4 h2 h3 (fun w1 hm1 => by
      refine mBodyLay (x' := (x.fresh.on x.log.length).live c s) hm1 h1 rfl ?_
      have g1 : x.fresh.page = q.pg := e1
      have g2 : x.fresh.cls = q.cl := e2
      have g3 : x.fresh.pages = q.n := e3
      have g5 : x.fresh.mask = q.al := e5
      rw [g1, g2, g3, g5]
      refine (qLay (Ra.refl (hm1.adds ((Only.refl _ _).drew))) h2 h3 hm p0 n1 p1 hc ha e4 hlen hroom law).mono (fun e w2 z => ?_)
      obtain ⟨z1, mk2, z2⟩ := z
      refine ⟨?_, z2.steps⟩
      rw [z1, ← hd1]
      by_cases hi : i < q.n + 3
      · rw [layA_nx hi, if_pos hi]; rfl
      · obtain rfl : i = q.n + 3 := by omega
        rw [layA_end, if_neg hi]; rfl)
    obtain ⟨f1, f2, f3, f4, f5⟩ := fin_live d (x.fresh.on x.log.length) c s
    rw [f2, f3, f4, f5] at key
    refine key.mono (fun e w1 z => ⟨z.1, _, hd.symm ▸ rfl, fun hg => ?_, z.2⟩)
    rw [hd] at hg
    subst hg
    have hi : i < q.n + 3 := by
      rcases Nat.lt_or_ge i (q.n + 3) with h8 | h8
      · exact h8
      · rw [if_neg (by omega)] at hd1; cases hd1
    have nx1 : (RcS.lay q i).nx = .lay q (i + 1) := if_pos hi
    rw [nx1]
    refine ⟨h1, h2, h3, rfl, ⟨e1, e2, e3, e4, e5⟩, ?_, by omega⟩
    show (x.log ++ [s.word c.pos]).length = i + 1
    simp; omega
  | gone q i =>
    obtain ⟨h1, h2, h3, h4, ⟨e1, e3⟩, h6, h7⟩ := hx
    have law := Aut.law (goneA P T q.pg q.n) (s := s) x.log 0 i x.fresh rfl (by show x.log.drop 0 = x.log; rfl) (by rw [goneA_feed _ _ (by omega), h6]; congr 1; omega)
    obtain ⟨c, hcc⟩ : ∃ c, (goneA P T q.pg q.n).ac i = c := ⟨_, rfl⟩
    have hac : (RcS.gone q i).ac P T = c := hcc
    rw [hcc] at law
    rw [hac]
    have hroom : x.fresh.room < 100000 := by show x.log.length + 1 < 100000; have : q.n ≤ 4096 := by have := p1; have := p0; simp only [RcS.q] at *; omega
                                             omega
    obtain ⟨d, hd⟩ : ∃ d, (RcS.gone q i).nx.got = d := ⟨_, rfl⟩
    have hd1 : (if i < q.n then false else true) = d := by rw [← hd]; simp only [RcS.nx]; split <;> rfl
    have key := mStep_any (x1 := MS.fin d ((x.fresh.on x.log.length).live c s)) (s1 := c.act s) (d := d) h hM hne h4 h2 h3 (fun w1 hm1 => by
      refine mBodyGone (x' := (x.fresh.on x.log.length).live c s) hm1 h1 rfl ?_
      have g1 : x.fresh.page = q.pg := e1
      have g3 : x.fresh.pages = q.n := e3
      rw [g1, g3]
      refine (qGone (Ra.refl (hm1.adds ((Only.refl _ _).drew))) h2 h3 hm p0 n1 p1 hlen hroom law).mono (fun e w2 z => ?_)
      obtain ⟨z1, mk2, z2⟩ := z
      refine ⟨?_, z2.steps⟩
      rw [z1, ← hd1]
      by_cases hi : i < q.n
      · rw [goneA_nx hi, if_pos hi]; rfl
      · obtain rfl : i = q.n := by omega
        rw [goneA_end, if_neg hi]; rfl)
    obtain ⟨f1, f2, f3, f4, f5⟩ := fin_live d (x.fresh.on x.log.length) c s
    rw [f2, f3, f4, f5] at key
    refine key.mono (fun e w1 z => ⟨z.1, _, hd.symm ▸ rfl, fun hg => ?_, z.2⟩)
    rw [hd] at hg
    subst hg
    have hi : i < q.n := by
      rcases Nat.lt_or_ge i q.n with h8 | h8
      · exact h8
      · rw [if_neg (by omega)] at hd1; cases hd1
    have nx1 : (RcS.gone q i).nx = .gone q (i + 1) := if_pos hi
    rw [nx1]
    refine ⟨h1, h2, h3, rfl, ⟨e1, e3⟩, ?_, by omega⟩
    show (x.log ++ [s.word c.pos]).length = i + 1
    simp; omega
  | laid q => exact hx.elim
  | went q => exact hx.elim
end
end Go.Proofs.YtbepbcjklgfmjaaGreatDoor

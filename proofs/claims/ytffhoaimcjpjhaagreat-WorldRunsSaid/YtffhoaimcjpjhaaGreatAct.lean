/- Package act: a desk (its layout, its next step): Step, Done, End, and the four accesses. By an AI agent. -/
import Derived.Test.YtffhoaimcjpjhaaGreatArenaIs
import Derived.Laws.EntriesVeiled
import Derived.Deep.RegionHeld3
import Derived.Test.YtffhoaimcjpjhaaGreatEqs
namespace Go.Proofs.YtffhoaimcjpjhaaGreat
open Go.RowKit
/-- An arena with its store: what a step sees of it. -/
structure Yard (w : World) (ab sb sm rb : Nat) (P T : Int) (s : StoreS) : Prop where
  ar : IsArena w ab sb rb P T
  st : IsStore w sb sm s
section
variable {w w' : World} {ab sb sm rb : Nat} {P T : Int} {s s' : StoreS}
theorem Yard.only {S : Nat → Prop} (h : Yard w ab sb sm rb P T s) (ho : Only S w w') (h1 : ¬ S ab) (h2 : ¬ S sb) (h3 : ¬ S sm) : Yard w' ab sb sm rb P T s :=
  ⟨h.ar.only ho h1, h.st.only ho h2 h3⟩
theorem Yard.adds (h : Yard w ab sb sm rb P T s) (ho : Adds w w') : Yard w' ab sb sm rb P T s := h.only ho id id id
theorem Yard.apart (h : Yard w ab sb sm rb P T s) : ¬ SB sb sm ab := by
  rintro (rfl | rfl)
  · have e := (h.ar.head.uniq h.st.head).2; revert e; decide
  · have e := (h.ar.head.uniq h.st.row).2; revert e; decide
/-- What an access leaves of the arena. -/
theorem Yard.acc (h : Yard w ab sb sm rb P T s) (ho : Only (SB sb sm) w w') (hs : IsStore w' sb sm s') : Yard w' ab sb sm rb P T s' := ⟨h.ar.only ho h.apart, hs⟩
end
/-- The blocks that hold what a step did: results on their way. -/
def Dids (w : World) : Nat → Prop := fun b => ∃ c, Blk w b c 45
theorem Blk.dids {w w' : World} {b : Nat} {c : Array Value} {t : TypeId} (h : Blk w b c t) (ho : Only (Dids w) w w') (ht : t ≠ 45) : Blk w' b c t :=
  h.only ho (fun ⟨_, hd⟩ => ht (h.uniq hd).2)
theorem Yard.dids {w w' : World} {ab sb sm rb : Nat} {P T : Int} {s : StoreS} (h : Yard w ab sb sm rb P T s) (ho : Only (Dids w) w w') : Yard w' ab sb sm rb P T s :=
  ⟨⟨h.ar.head.dids ho (by decide)⟩, ⟨h.st.head.dids ho (by decide), h.st.row.dids ho (by decide), h.st.ne, h.st.fit⟩⟩
/-- What stays, whatever becomes of results on their way. -/
def Stays (Q : World → Prop) : Prop := ∀ a b, Only (Dids a) a b → Q a → Q b
theorem Stays.adds {Q : World → Prop} (h : Stays Q) {a b : World} (ho : Adds a b) (q : Q a) : Q b := h a b (ho.mono (fun _ _ e => e.elim)) q
theorem Stays.and {Q R : World → Prop} (h : Stays Q) (k : Stays R) : Stays (fun w => Q w ∧ R w) := fun a b ho q => ⟨h a b ho q.1, k a b ho q.2⟩
theorem stays_blk (b : Nat) (c : Array Value) (t : TypeId) (ht : t ≠ 45) : Stays (fun w => Blk w b c t) := fun _ _ ho q => q.dids ho ht
/-- A result's four cells are stored. -/
theorem Stays.box {Q : World → Prop} (h : Stays Q) {w : World} {r : Nat} {c : Array Value} (hr : Blk w r c 45) (q : Q w) (v0 v1 v2 v3 : Value) :
    Q ((((w.setCell ⟨r, 0, none⟩ v0).setCell ⟨r, 1, none⟩ v1).setCell ⟨r, 2, none⟩ v2).setCell ⟨r, 3, none⟩ v3) :=
  h w _ (((((Only.refl _ w).setCell (.inl ⟨c, hr⟩) v0).setCell (.inl ⟨c, hr⟩) v1).setCell (.inl ⟨c, hr⟩) v2).setCell (.inl ⟨c, hr⟩) v3) q
theorem only_box4 {S : Nat → Prop} {w W : World} {r : Nat} (h : Only S w W) (hr : S r ∨ w.heap.size ≤ r) (v0 v1 v2 v3 : Value) :
    Only S w ((((W.setCell ⟨r, 0, none⟩ v0).setCell ⟨r, 1, none⟩ v1).setCell ⟨r, 2, none⟩ v2).setCell ⟨r, 3, none⟩ v3) := (((h.setCell hr v0).setCell hr v1).setCell hr v2).setCell hr v3
theorem Blk.four {w : World} {b : Nat} {v0 v1 v2 v3 : Value} {t : TypeId} (h : Blk w b #[v0, v1, v2, v3] t) : w.cell? ⟨b, 0, none⟩ = some v0 ∧ w.cell? ⟨b, 1, none⟩ = some v1 ∧ w.cell? ⟨b, 2, none⟩ = some v2 ∧ w.cell? ⟨b, 3, none⟩ = some v3 ∧
    w.frozen? ⟨b, 0, none⟩ = false ∧ w.frozen? ⟨b, 1, none⟩ = false ∧ w.frozen? ⟨b, 2, none⟩ = false ∧ w.frozen? ⟨b, 3, none⟩ = false :=
  ⟨h.cell 0, h.cell 1, h.cell 2, h.cell 3, h.frozen 0, h.frozen 1, h.frozen 2, h.frozen 3⟩
theorem heldM2 {w W w' : World} {b : Nat} {x y : Value} (h : W.cell? ⟨b, 0, none⟩ = some x ∧ W.cell? ⟨b, 1, none⟩ = some y ∧ Adds w W) (ho : Adds W w') :
    w'.cell? ⟨b, 0, none⟩ = some x ∧ w'.cell? ⟨b, 1, none⟩ = some y ∧ Adds w w' :=
  ⟨(ho.cellF (p := ⟨b, 0, none⟩) (cell_lt h.1) id).trans h.1, (ho.cellF (p := ⟨b, 1, none⟩) (cell_lt h.2.1) id).trans h.2.1, h.2.2.thenF ho⟩
theorem heldM4 {w W w' : World} {b : Nat} {x y z u : Value} (h : W.cell? ⟨b, 0, none⟩ = some x ∧ W.cell? ⟨b, 1, none⟩ = some y ∧ W.cell? ⟨b, 2, none⟩ = some z ∧ W.cell? ⟨b, 3, none⟩ = some u ∧ Adds w W) (ho : Adds W w') :
    w'.cell? ⟨b, 0, none⟩ = some x ∧ w'.cell? ⟨b, 1, none⟩ = some y ∧ w'.cell? ⟨b, 2, none⟩ = some z ∧ w'.cell? ⟨b, 3, none⟩ = some u ∧ Adds w w' :=
  ⟨(ho.cellF (p := ⟨b, 0, none⟩) (cell_lt h.1) id).trans h.1, (ho.cellF (p := ⟨b, 1, none⟩) (cell_lt h.2.1) id).trans h.2.1, (ho.cellF (p := ⟨b, 2, none⟩) (cell_lt h.2.2.1) id).trans h.2.2.1, (ho.cellF (p := ⟨b, 3, none⟩) (cell_lt h.2.2.2.1) id).trans h.2.2.2.1, h.2.2.2.2.thenF ho⟩
theorem heldM3 {w W w' : World} {b : Nat} {x y z : Value} (h : W.cell? ⟨b, 0, none⟩ = some x ∧ W.cell? ⟨b, 1, none⟩ = some y ∧ W.cell? ⟨b, 2, none⟩ = some z ∧ Adds w W) (ho : Adds W w') :
    w'.cell? ⟨b, 0, none⟩ = some x ∧ w'.cell? ⟨b, 1, none⟩ = some y ∧ w'.cell? ⟨b, 2, none⟩ = some z ∧ Adds w w' :=
  ⟨(ho.cellF (p := ⟨b, 0, none⟩) (cell_lt h.1) id).trans h.1, (ho.cellF (p := ⟨b, 1, none⟩) (cell_lt h.2.1) id).trans h.2.1, (ho.cellF (p := ⟨b, 2, none⟩) (cell_lt h.2.2.1) id).trans h.2.2.1, h.2.2.2.thenF ho⟩
set_option maxHeartbeats 400000 in
theorem thread_any (P T t : Int) (w : World) :
    Calls Tryz.prog 108 #[.agg #[.int .i64 P, .int .i64 T], .int .i64 t] w fun e w' => e = .returned (.bool (decide (0 ≤ t ∧ t < T))) ∧ Adds w w' := by
  by_cases h0 : 0 ≤ t
  · by_cases h1 : t < T
    · go_enter Tryz.func108, Tryz.ntmps108
      go_wp2
      go_ret
      exact ⟨by simp [h0, h1], (Only.refl _ _).alloc _⟩
    · have h2 : decide (t < T) = false := by simpa using h1
      go_enter Tryz.func108, Tryz.ntmps108
      go_wp2
      go_ret
      exact ⟨by simp, (Only.refl _ _).alloc _⟩
  · have h2 : decide (0 ≤ t) = false := by simpa using h0
    go_enter Tryz.func108, Tryz.ntmps108
    go_wp2
    go_ret
    exact ⟨by simp, (Only.refl _ _).alloc _⟩
set_option maxHeartbeats 400000 in
theorem arenaLayout_any {w : World} {ab sb rb : Nat} {P T : Int} (h : IsArena w ab sb rb P T) : Calls Tryz.prog 75 #[.pointer (some ⟨ab, 0, none⟩)] w fun e w' => e = .returned (.agg #[.int .i64 P, .int .i64 T]) ∧ Adds w w' := by
  have c0 := h.head.cell 0; have c1 := h.head.cell 1; have hlt := h.head.lt
  clear h
  go_enter Tryz.func75, Tryz.ntmps75
  go_wp2
  exact bodyPost_ret (v := .agg #[.int .i64 P, .int .i64 T]) (by simp [results, Tryz.results75, go_sem]) rfl ⟨rfl, (Only.refl _ _).alloc _⟩
section
variable {w : World} {mb : Nat}
set_option maxHeartbeats 400000 in
theorem deskDone_nil (h : w.cell? ⟨mb, 2, none⟩ = some .nilFunc) : Calls Tryz.prog 74 #[.pointer (some ⟨mb, 0, none⟩)] w fun e w' => e = .returned (.bool true) ∧ w = w' := by
  have hq : ∀ W, Sem.run Tryz.prog (binOp BinOp.eql 79 Value.nilFunc Value.nilFunc) W = .ok (.bool true) W := fun _ => by kernel_rfl
  go_enter Tryz.func74, Tryz.ntmps74
  go_wp2
  go_ret
  exact ⟨rfl, rfl⟩
set_option maxHeartbeats 400000 in
theorem deskDone_live {fn : Fn} {a b : Array Value} (h : w.cell? ⟨mb, 2, none⟩ = some (.func fn a b)) : Calls Tryz.prog 74 #[.pointer (some ⟨mb, 0, none⟩)] w fun e w' => e = .returned (.bool false) ∧ w = w' := by
  have hq : ∀ W, Sem.run Tryz.prog (binOp BinOp.eql 79 (Value.func fn a b) Value.nilFunc) W = .ok (.bool false) W := fun _ => by kernel_rfl
  go_enter Tryz.func74, Tryz.ntmps74
  go_wp2
  go_ret
  exact ⟨rfl, rfl⟩
set_option maxHeartbeats 400000 in
theorem deskEnd_any {c : Array Value} {t : TypeId} (h : Blk w mb c t) (h2 : 2 < c.size) : Calls Tryz.prog 107 #[.pointer (some ⟨mb, 0, none⟩)] w fun e w' => e = .returned (.tuple #[]) ∧ w' = w.setCell ⟨mb, 2, none⟩ .nilFunc := by
  have f2 := h.frozen 2
  have c2 := h.cell 2
  rw [Array.getElem?_eq_getElem h2] at c2
  clear h
  go_enter Tryz.func107, Tryz.ntmps107
  go_wp2
  go_end0
  exact ⟨rfl, rfl⟩
end
end Go.Proofs.YtffhoaimcjpjhaaGreat

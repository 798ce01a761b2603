/- Package layout: what each call answers. Package arena: Layout, Store, Runs, Gen. Layouts, and results of steps, compared. Package act: a desk (its layout, its next step): Step, Done, End, and the four accesses. Package act: Step of a desk. Package act: what a region keeps. What is none of an arena's blocks. By an AI agent. -/
import Derived.Test.YthhnpcniijpfeaaGreatZ1
import Derived.Deep.RegionHeld3
import Derived.Laws.StructEq
import Derived.Laws.EntriesVeiled
import Derived.Shelf.Abstract
namespace Go.Proofs.YthhnpcniijpfeaaGreat
open Go.RowKit
set_option linter.unusedSimpArgs false
set_option linter.unusedVariables false

namespace Lay
def may (P T : Int) : Bool := decide (1 ≤ P ∧ P ≤ 4096 ∧ 1 ≤ T ∧ T ≤ 64)
def many (P : Int) : Int := (P + 63) / 64
def words (P T : Int) : Int := if may P T then 68 + 14 * T + 6 * P + 2 * many P else 0
def headOk (P T c p : Int) : Bool := may P T && decide (0 ≤ c ∧ c < 15 ∧ 0 ≤ p ∧ p < 2)
def headAt (c : Int) (full : Bool) (p : Int) : Int := 8 + 4 * c + p + (if full then 2 else 0)
def cacheOk (P T t c : Int) : Bool := may P T && decide (0 ≤ t ∧ t < T ∧ 0 ≤ c ∧ c < 14)
def cacheAt (t c : Int) : Int := 68 + 14 * t + c
def pageOk (P T k p : Int) : Bool := may P T && decide (0 ≤ p ∧ p < P ∧ 9 ≤ k ∧ k < 15)
def pageAt (P T k p : Int) : Int := if k = 14 then 68 + 14 * T + 5 * P + p else 68 + 14 * T + 5 * p + k - 9
def mapOk (P T k i : Int) : Bool := may P T && decide (0 ≤ i ∧ i < many P ∧ (k = 15 ∨ k = 16))
def mapAt (P T k i : Int) : Int := if k = 15 then 68 + 14 * T + 6 * P + i else 68 + 14 * T + 6 * P + many P + i
theorem may_iff {P T : Int} : may P T = true ↔ 1 ≤ P ∧ P ≤ 4096 ∧ 1 ≤ T ∧ T ≤ 64 := by unfold may; simp
theorem may_not {P T : Int} (h : may P T = false) : P < 1 ∨ 4096 < P ∨ T < 1 ∨ 64 < T := by unfold may at h; simp at h; omega
theorem many_bd {P : Int} (h1 : 1 ≤ P) (h2 : P ≤ 4096) : 1 ≤ many P ∧ many P ≤ 64 := by unfold many; omega
end Lay

theorem retI {k : IntKind} {a b : Int} (h : a = b) : Ending.returned (.int k a) = .returned (.int k b) := by rw [h]

set_option maxHeartbeats 400000 in
theorem layMay_any (P T : Int) (w : World) :
    Calls Tryz.prog 58 #[.agg #[.int .i64 P, .int .i64 T]] w fun e w' => e = .returned (.bool (Lay.may P T)) ∧ Adds w w' := by
  cases hm : Lay.may P T
  · have h := Lay.may_not hm
    clear hm
    by_cases h1 : P < 1
    · go_enter Tryz.func58, Tryz.ntmps58
      go_wp2
      go_ret
      exact ⟨rfl, (Only.refl _ _).alloc _⟩
    by_cases h2 : 4096 < P
    · go_enter Tryz.func58, Tryz.ntmps58
      go_wp2
      go_ret
      exact ⟨rfl, (Only.refl _ _).alloc _⟩
    by_cases h3 : T < 1
    · go_enter Tryz.func58, Tryz.ntmps58
      go_wp2
      go_ret
      exact ⟨rfl, (Only.refl _ _).alloc _⟩
    have h4 : decide (T ≤ 64) = false := by simp; omega
    clear h
    go_enter Tryz.func58, Tryz.ntmps58
    go_wp2
    go_ret
    exact ⟨rfl, (Only.refl _ _).alloc _⟩
  · obtain ⟨h1, h2, h3, h4⟩ := Lay.may_iff.1 hm
    clear hm
    go_enter Tryz.func58, Tryz.ntmps58
    go_wp2
    go_ret
    exact ⟨rfl, (Only.refl _ _).alloc _⟩
/-- Is a number from 0 on below another one? -/
def fromB (i n : Int) : Bool := decide (0 ≤ i ∧ i < n)
theorem fromB_yes {i n : Int} (h0 : 0 ≤ i) (h1 : i < n) : fromB i n = true := by simp [fromB, h0, h1]
theorem fromB_no {i n : Int} (h : i < 0 ∨ n ≤ i) : fromB i n = false := by simp [fromB]; omega
theorem fromB_iff {i n : Int} : fromB i n = true ↔ 0 ≤ i ∧ i < n := by simp [fromB]
set_option maxHeartbeats 400000 in
theorem from_any (i n : Int) (w : World) : Calls Tryz.prog 73 #[.int .i64 i, .int .i64 n] w fun e w' => e = .returned (.bool (fromB i n)) ∧ w = w' := by
  by_cases h0 : 0 ≤ i
  · by_cases h1 : i < n
    · rw [fromB_yes h0 h1]
      go_enter Tryz.func73, Tryz.ntmps73
      go_wp2
      go_ret
      exact ⟨rfl, rfl⟩
    · rw [fromB_no (by omega)]
      have h2 : decide (i < n) = false := by simp; omega
      clear h1
      go_enter Tryz.func73, Tryz.ntmps73
      go_wp2
      go_ret
      exact ⟨rfl, rfl⟩
  · rw [fromB_no (by omega)]
    go_enter Tryz.func73, Tryz.ntmps73
    go_wp2
    go_ret
    exact ⟨rfl, rfl⟩
set_option maxHeartbeats 400000 in
theorem layPages_any (P T : Int) (w : World) (h1 : 1 ≤ T) (h2 : T ≤ 64) :
    Calls Tryz.prog 75 #[.agg #[.int .i64 P, .int .i64 T]] w fun e w' => e = .returned (.int .i64 (68 + 14 * T)) ∧ Adds w w' := by
  go_enter Tryz.func75, Tryz.ntmps75
  go_wp2
  go_ret
  exact ⟨rfl, (Only.refl _ _).alloc _⟩
set_option maxHeartbeats 400000 in
theorem layMany_any (P T : Int) (w : World) (h1 : 1 ≤ P) (h2 : P ≤ 4096) :
    Calls Tryz.prog 80 #[.agg #[.int .i64 P, .int .i64 T]] w fun e w' => e = .returned (.int .i64 (Lay.many P)) ∧ Adds w w' := by
  have e : Hid ((P + 64 - 1) / 64 = Lay.many P) := by show (P + 64 - 1) / 64 = (P + 63) / 64; congr 1; omega
  go_enter Tryz.func80, Tryz.ntmps80
  go_wp2
  go_ret
  exact ⟨retI (by rw [← e.out]), (Only.refl _ _).alloc _⟩
set_option maxHeartbeats 400000 in
theorem layIndex_any (P T : Int) (w : World) (h3 : 1 ≤ P) (h4 : P ≤ 4096) (h1 : 1 ≤ T) (h2 : T ≤ 64) :
    Calls Tryz.prog 76 #[.agg #[.int .i64 P, .int .i64 T]] w fun e w' => e = .returned (.int .i64 (68 + 14 * T + 5 * P)) ∧ Adds w w' := by
  go_enter Tryz.func76, Tryz.ntmps76
  go_wp2
  go_region_held3 (fun w' => w'.cell? ⟨w.heap.size, 0, none⟩ = some (.int .i64 P) ∧ w'.cell? ⟨w.heap.size, 1, none⟩ = some (.int .i64 T) ∧ Adds w w')
    (first | (exact ⟨by simp [*], by simp [*], ((Only.refl _ _).alloc _).drew⟩) | (exact held2 (by assumption) (by assumption)))
    (first | (go_at_call 75; refine (layPages_any _ _ _ h1 h2).mono ?_; rintro e w' ⟨rfl, ho⟩))
  rename_i hH
  have HH := Lib.hid hH.2.2
  clear hH
  go_wp2
  go_ret
  exact ⟨retI (by simp only [IntKind.wrap_i64]; omega), HH.out⟩
set_option maxHeartbeats 400000 in
theorem layUsed_any (P T : Int) (w : World) (h3 : 1 ≤ P) (h4 : P ≤ 4096) (h1 : 1 ≤ T) (h2 : T ≤ 64) :
    Calls Tryz.prog 77 #[.agg #[.int .i64 P, .int .i64 T]] w fun e w' => e = .returned (.int .i64 (68 + 14 * T + 6 * P)) ∧ Adds w w' := by
  go_enter Tryz.func77, Tryz.ntmps77
  go_wp2
  go_region_held3 (fun w' => w'.cell? ⟨w.heap.size, 0, none⟩ = some (.int .i64 P) ∧ w'.cell? ⟨w.heap.size, 1, none⟩ = some (.int .i64 T) ∧ Adds w w')
    (first | (exact ⟨by simp [*], by simp [*], ((Only.refl _ _).alloc _).drew⟩) | (exact held2 (by assumption) (by assumption)))
    (first | (go_at_call 76; refine (layIndex_any _ _ _ h3 h4 h1 h2).mono ?_; rintro e w' ⟨rfl, ho⟩))
  rename_i hH
  have HH := Lib.hid hH.2.2
  clear hH
  go_wp2
  go_ret
  exact ⟨retI (by simp only [IntKind.wrap_i64]; omega), HH.out⟩
set_option maxHeartbeats 400000 in
theorem layGone_any (P T : Int) (w : World) (h3 : 1 ≤ P) (h4 : P ≤ 4096) (h1 : 1 ≤ T) (h2 : T ≤ 64) :
    Calls Tryz.prog 78 #[.agg #[.int .i64 P, .int .i64 T]] w fun e w' => e = .returned (.int .i64 (68 + 14 * T + 6 * P + Lay.many P)) ∧ Adds w w' := by
  have hb := Lay.many_bd h3 h4
  go_enter Tryz.func78, Tryz.ntmps78
  go_wp2
  go_region_held3 (fun w' => w'.cell? ⟨w.heap.size, 0, none⟩ = some (.int .i64 P) ∧ w'.cell? ⟨w.heap.size, 1, none⟩ = some (.int .i64 T) ∧ Adds w w')
    (first | (exact ⟨by simp [*], by simp [*], ((Only.refl _ _).alloc _).drew⟩) | (exact held2 (by assumption) (by assumption)))
    (first | (go_at_call 77; refine (layUsed_any _ _ _ h3 h4 h1 h2).mono ?_; rintro e w' ⟨rfl, ho⟩) | (go_at_call 80; refine (layMany_any _ _ _ h3 h4).mono ?_; rintro e w' ⟨rfl, ho⟩))
  rename_i hH
  have HH := Lib.hid hH.2.2
  clear hH
  go_wp2
  go_ret
  exact ⟨retI (by simp only [IntKind.wrap_i64]; omega), HH.out⟩
set_option maxHeartbeats 400000 in
theorem layWords_any (P T : Int) (w : World) :
    Calls Tryz.prog 60 #[.agg #[.int .i64 P, .int .i64 T]] w fun e w' => e = .returned (.int .i64 (Lay.words P T)) ∧ Adds w w' := by
  cases hm : Lay.may P T
  · have e : Lay.words P T = 0 := by simp [Lay.words, hm]
    rw [e]; clear e
    go_enter Tryz.func60, Tryz.ntmps60
    go_wp2_with (go_at_call 58; refine (layMay_any _ _ _).mono ?_; rintro e w1 ⟨rfl, ho⟩; have HO := Lib.hid ho)
    go_ret
    exact ⟨rfl, ((Only.refl _ _).alloc _).thenF (by assumption)⟩
  · have e : Lay.words P T = 68 + 14 * T + 6 * P + 2 * Lay.many P := by simp [Lay.words, hm]
    have E := Lib.hid e
    clear e
    obtain ⟨h3, h4, h1, h2⟩ := Lay.may_iff.1 hm
    have hb := Lay.many_bd h3 h4
    go_enter Tryz.func60, Tryz.ntmps60
    go_wp2_with fail
    refine (layMay_any _ _ _).mono ?_; rintro e w1 ⟨rfl, ho⟩
    obtain ⟨hc, hf⟩ := ho.reads
    have HO := Lib.hid (Adds.box ho)
    clear ho
    go_wp2
    go_region_held3 (fun w' => w'.cell? ⟨w.heap.size, 0, none⟩ = some (.int .i64 P) ∧ w'.cell? ⟨w.heap.size, 1, none⟩ = some (.int .i64 T) ∧ Adds w w')
      (first | (exact ⟨by simp [*], by simp [*], HO.out.drew⟩) | (exact held2 (by assumption) (by assumption)))
      (first | (go_at_call 78; refine (layGone_any _ _ _ h3 h4 h1 h2).mono ?_; rintro e w' ⟨rfl, ho⟩) | (go_at_call 80; refine (layMany_any _ _ _ h3 h4).mono ?_; rintro e w' ⟨rfl, ho⟩))
    rename_i hH
    have HH := Lib.hid hH.2.2
    clear hH
    go_wp2
    go_ret
    exact ⟨retI (by rw [E.out]; simp only [IntKind.wrap_i64]; omega), HH.out⟩
/-- An arena in block ab: its layout, its store (blocks sb, sm), its runs (block rb). -/
structure IsArena (w : World) (ab sb rb : Nat) (P T : Int) : Prop where
  head : Blk w ab #[.int .i64 P, .int .i64 T, .pointer (some ⟨sb, 0, none⟩), .pointer (some ⟨rb, 0, none⟩)] 115
theorem IsArena.only {S : Nat → Prop} {w w' : World} {ab sb rb : Nat} {P T : Int} (h : IsArena w ab sb rb P T) (ho : Only S w w') (hs : ¬ S ab) : IsArena w' ab sb rb P T := ⟨h.head.only ho hs⟩
section
variable {w : World} {ab sb rb : Nat} {P T : Int}
set_option maxHeartbeats 400000 in
theorem arenaStore_any (h : IsArena w ab sb rb P T) : Calls Tryz.prog 32 #[.pointer (some ⟨ab, 0, none⟩)] w fun e w' => e = .returned (.pointer (some ⟨sb, 0, none⟩)) ∧ w = w' := by
  have c2 := h.head.cell 2
  clear h
  go_enter Tryz.func32, Tryz.ntmps32
  go_wp2
  go_ret
  exact ⟨rfl, rfl⟩
set_option maxHeartbeats 400000 in
theorem arenaRuns_any (h : IsArena w ab sb rb P T) : Calls Tryz.prog 46 #[.pointer (some ⟨ab, 0, none⟩)] w fun e w' => e = .returned (.pointer (some ⟨rb, 0, none⟩)) ∧ w = w' := by
  have c2 := h.head.cell 3
  clear h
  go_enter Tryz.func46, Tryz.ntmps46
  go_wp2
  go_ret
  exact ⟨rfl, rfl⟩
set_option maxHeartbeats 400000 in
theorem arenaLayout_nil (w : World) : Calls Tryz.prog 29 #[.pointer none] w fun e w' => e = .returned (.agg #[.int .i64 0, .int .i64 0]) ∧ Adds w w' := by
  go_enter Tryz.func29, Tryz.ntmps29
  go_wp2
  exact bodyPost_ret (v := .agg #[.int .i64 0, .int .i64 0]) (by simp [results, Tryz.results29, go_sem]) rfl ⟨rfl, (Only.refl _ _).alloc _⟩
set_option maxHeartbeats 400000 in
theorem arenaStore_nil (w : World) : Calls Tryz.prog 32 #[.pointer none] w fun e w' => e = .returned (.pointer none) ∧ w = w' := by
  go_enter Tryz.func32, Tryz.ntmps32
  go_wp2
  go_ret
  exact ⟨rfl, rfl⟩
set_option maxHeartbeats 400000 in
theorem arenaRuns_nil (w : World) : Calls Tryz.prog 46 #[.pointer none] w fun e w' => e = .returned (.pointer none) ∧ w = w' := by
  go_enter Tryz.func46, Tryz.ntmps46
  go_wp2
  go_ret
  exact ⟨rfl, rfl⟩
end
section
variable (W : World) (a b c d a' b' c' d' : Int)
theorem layout_neq : Sem.run Tryz.prog (binOp .neq 26 (.agg #[.int .i64 a, .int .i64 b]) (.agg #[.int .i64 a', .int .i64 b'])) W = .ok (.bool (!(a == a' && b == b'))) W := by
  rw [run_neq_struct, run_equalIn_struct W 9999 _ _ _ (by kernel_rfl) (by kernel_rfl)]
  simp only [Program.fieldsOf, Tryz.underlying26]
  simp [go_sem]
  by_cases h1 : a = a' <;> by_cases h2 : b = b' <;> simp [h1, h2]
theorem layout_eql : Sem.run Tryz.prog (binOp .eql 26 (.agg #[.int .i64 a, .int .i64 b]) (.agg #[.int .i64 a', .int .i64 b'])) W = .ok (.bool (a == a' && b == b')) W := by
  rw [run_eql_struct, run_equalIn_struct W 9999 _ _ _ (by kernel_rfl) (by kernel_rfl)]
  simp only [Program.fieldsOf, Tryz.underlying26]
  simp [go_sem]
  by_cases h1 : a = a' <;> by_cases h2 : b = b' <;> simp [h1, h2]
theorem did_neq : Sem.run Tryz.prog (binOp .neq 50 (.agg #[.int .i64 a, .int .i64 b, .int .u64 c, .int .u64 d]) (.agg #[.int .i64 a', .int .i64 b', .int .u64 c', .int .u64 d'])) W = .ok (.bool (!(a == a' && b == b' && c == c' && d == d'))) W := by
  rw [run_neq_struct, run_equalIn_struct W 9999 _ _ _ (by kernel_rfl) (by kernel_rfl)]
  simp only [Program.fieldsOf, Tryz.underlying50]
  simp [go_sem]
  by_cases h1 : a = a' <;> by_cases h2 : b = b' <;> by_cases h3 : c = c' <;> by_cases h4 : d = d' <;> simp [h1, h2, h3, h4]
theorem did_eql : Sem.run Tryz.prog (binOp .eql 50 (.agg #[.int .i64 a, .int .i64 b, .int .u64 c, .int .u64 d]) (.agg #[.int .i64 a', .int .i64 b', .int .u64 c', .int .u64 d'])) W = .ok (.bool (a == a' && b == b' && c == c' && d == d')) W := by
  rw [run_eql_struct, run_equalIn_struct W 9999 _ _ _ (by kernel_rfl) (by kernel_rfl)]
  simp only [Program.fieldsOf, Tryz.underlying50]
  simp [go_sem]
  by_cases h1 : a = a' <;> by_cases h2 : b = b' <;> by_cases h3 : c = c' <;> by_cases h4 : d = d' <;> simp [h1, h2, h3, h4]
theorem did_kind : Sem.run Tryz.prog (Instr.field 50 (.agg #[.int .i64 a, .int .i64 b, .int .u64 c, .int .u64 d]) 0) W = .ok (.int .i64 a) W := by kernel_rfl
end
/-- An arena with its store: what a step sees of it. -/
structure Yard (w : World) (ab sb sm rb : Nat) (P T : Int) (s : StoreS) : Prop where
  ar : IsArena w ab sb rb P T
  st : IsStore w sb sm s
section
variable {w w' : World} {ab sb sm rb : Nat} {P T : Int} {s s' : StoreS}
theorem Yard.only {S : Nat → Prop} (h : Yard w ab sb sm rb P T s) (ho : Only S w w') (h1 : ¬ S ab) (h2 : ¬ S sb) (h3 : ¬ S sm) : Yard w' ab sb sm rb P T s :=
  ⟨h.ar.only ho h1, h.st.only ho h2 h3⟩
theorem Yard.adds (h : Yard w ab sb sm rb P T s) (ho : Adds w w') : Yard w' ab sb sm rb P T s := h.only ho id id id
theorem Yard.apart (h : Yard w ab sb sm rb P T s) : ¬ SB sb sm ab := by
  rintro (rfl | rfl)
  · have e := (h.ar.head.uniq h.st.head).2; revert e; decide
  · have e := (h.ar.head.uniq h.st.row).2; revert e; decide
/-- What an access leaves of the arena. -/
theorem Yard.acc (h : Yard w ab sb sm rb P T s) (ho : Only (SB sb sm) w w') (hs : IsStore w' sb sm s') : Yard w' ab sb sm rb P T s' := ⟨h.ar.only ho h.apart, hs⟩
end
/-- The blocks that hold what a step did: results on their way. -/
def Dids (w : World) : Nat → Prop := fun b => ∃ c, Blk w b c 50
theorem Blk.dids {w w' : World} {b : Nat} {c : Array Value} {t : TypeId} (h : Blk w b c t) (ho : Only (Dids w) w w') (ht : t ≠ 50) : Blk w' b c t :=
  h.only ho (fun ⟨_, hd⟩ => ht (h.uniq hd).2)
theorem Yard.dids {w w' : World} {ab sb sm rb : Nat} {P T : Int} {s : StoreS} (h : Yard w ab sb sm rb P T s) (ho : Only (Dids w) w w') : Yard w' ab sb sm rb P T s :=
  ⟨⟨h.ar.head.dids ho (by decide)⟩, ⟨h.st.head.dids ho (by decide), h.st.row.dids ho (by decide), h.st.ne, h.st.fit⟩⟩
/-- What stays, whatever becomes of results on their way. -/
def Stays (Q : World → Prop) : Prop := ∀ a b, Only (Dids a) a b → Q a → Q b
theorem Stays.adds {Q : World → Prop} (h : Stays Q) {a b : World} (ho : Adds a b) (q : Q a) : Q b := h a b (ho.mono (fun _ _ e => e.elim)) q
theorem Stays.and {Q R : World → Prop} (h : Stays Q) (k : Stays R) : Stays (fun w => Q w ∧ R w) := fun a b ho q => ⟨h a b ho q.1, k a b ho q.2⟩
theorem stays_blk (b : Nat) (c : Array Value) (t : TypeId) (ht : t ≠ 50) : Stays (fun w => Blk w b c t) := fun _ _ ho q => q.dids ho ht
/-- A result's four cells are stored. -/
theorem Stays.box {Q : World → Prop} (h : Stays Q) {w : World} {r : Nat} {c : Array Value} (hr : Blk w r c 50) (q : Q w) (v0 v1 v2 v3 : Value) :
    Q ((((w.setCell ⟨r, 0, none⟩ v0).setCell ⟨r, 1, none⟩ v1).setCell ⟨r, 2, none⟩ v2).setCell ⟨r, 3, none⟩ v3) :=
  h w _ (((((Only.refl _ w).setCell (.inl ⟨c, hr⟩) v0).setCell (.inl ⟨c, hr⟩) v1).setCell (.inl ⟨c, hr⟩) v2).setCell (.inl ⟨c, hr⟩) v3) q
theorem only_box4 {S : Nat → Prop} {w W : World} {r : Nat} (h : Only S w W) (hr : S r ∨ w.heap.size ≤ r) (v0 v1 v2 v3 : Value) :
    Only S w ((((W.setCell ⟨r, 0, none⟩ v0).setCell ⟨r, 1, none⟩ v1).setCell ⟨r, 2, none⟩ v2).setCell ⟨r, 3, none⟩ v3) := (((h.setCell hr v0).setCell hr v1).setCell hr v2).setCell hr v3
theorem Blk.four {w : World} {b : Nat} {v0 v1 v2 v3 : Value} {t : TypeId} (h : Blk w b #[v0, v1, v2, v3] t) : w.cell? ⟨b, 0, none⟩ = some v0 ∧ w.cell? ⟨b, 1, none⟩ = some v1 ∧ w.cell? ⟨b, 2, none⟩ = some v2 ∧ w.cell? ⟨b, 3, none⟩ = some v3 ∧
    w.frozen? ⟨b, 0, none⟩ = false ∧ w.frozen? ⟨b, 1, none⟩ = false ∧ w.frozen? ⟨b, 2, none⟩ = false ∧ w.frozen? ⟨b, 3, none⟩ = false :=
  ⟨h.cell 0, h.cell 1, h.cell 2, h.cell 3, h.frozen 0, h.frozen 1, h.frozen 2, h.frozen 3⟩
theorem heldM2 {w W w' : World} {b : Nat} {x y : Value} (h : W.cell? ⟨b, 0, none⟩ = some x ∧ W.cell? ⟨b, 1, none⟩ = some y ∧ Adds w W) (ho : Adds W w') :
    w'.cell? ⟨b, 0, none⟩ = some x ∧ w'.cell? ⟨b, 1, none⟩ = some y ∧ Adds w w' :=
  ⟨(ho.cellF (p := ⟨b, 0, none⟩) (cell_lt h.1) id).trans h.1, (ho.cellF (p := ⟨b, 1, none⟩) (cell_lt h.2.1) id).trans h.2.1, h.2.2.thenF ho⟩
theorem heldM4 {w W w' : World} {b : Nat} {x y z u : Value} (h : W.cell? ⟨b, 0, none⟩ = some x ∧ W.cell? ⟨b, 1, none⟩ = some y ∧ W.cell? ⟨b, 2, none⟩ = some z ∧ W.cell? ⟨b, 3, none⟩ = some u ∧ Adds w W) (ho : Adds W w') :
    w'.cell? ⟨b, 0, none⟩ = some x ∧ w'.cell? ⟨b, 1, none⟩ = some y ∧ w'.cell? ⟨b, 2, none⟩ = some z ∧ w'.cell? ⟨b, 3, none⟩ = some u ∧ Adds w w' :=
  ⟨(ho.cellF (p := ⟨b, 0, none⟩) (cell_lt h.1) id).trans h.1, (ho.cellF (p := ⟨b, 1, none⟩) (cell_lt h.2.1) id).trans h.2.1, (ho.cellF (p := ⟨b, 2, none⟩) (cell_lt h.2.2.1) id).trans h.2.2.1, (ho.cellF (p := ⟨b, 3, none⟩) (cell_lt h.2.2.2.1) id).trans h.2.2.2.1, h.2.2.2.2.thenF ho⟩
theorem heldM3 {w W w' : World} {b : Nat} {x y z : Value} (h : W.cell? ⟨b, 0, none⟩ = some x ∧ W.cell? ⟨b, 1, none⟩ = some y ∧ W.cell? ⟨b, 2, none⟩ = some z ∧ Adds w W) (ho : Adds W w') :
    w'.cell? ⟨b, 0, none⟩ = some x ∧ w'.cell? ⟨b, 1, none⟩ = some y ∧ w'.cell? ⟨b, 2, none⟩ = some z ∧ Adds w w' :=
  ⟨(ho.cellF (p := ⟨b, 0, none⟩) (cell_lt h.1) id).trans h.1, (ho.cellF (p := ⟨b, 1, none⟩) (cell_lt h.2.1) id).trans h.2.1, (ho.cellF (p := ⟨b, 2, none⟩) (cell_lt h.2.2.1) id).trans h.2.2.1, h.2.2.2.thenF ho⟩
set_option maxHeartbeats 400000 in
theorem arenaLayout_any {w : World} {ab sb rb : Nat} {P T : Int} (h : IsArena w ab sb rb P T) : Calls Tryz.prog 29 #[.pointer (some ⟨ab, 0, none⟩)] w fun e w' => e = .returned (.agg #[.int .i64 P, .int .i64 T]) ∧ Adds w w' := by
  have c0 := h.head.cell 0; have c1 := h.head.cell 1; have hlt := h.head.lt
  clear h
  go_enter Tryz.func29, Tryz.ntmps29
  go_wp2
  exact bodyPost_ret (v := .agg #[.int .i64 P, .int .i64 T]) (by simp [results, Tryz.results29, go_sem]) rfl ⟨rfl, (Only.refl _ _).alloc _⟩
section
variable {w : World} {mb : Nat}
set_option maxHeartbeats 400000 in
theorem deskDone_nil (h : w.cell? ⟨mb, 2, none⟩ = some .nilFunc) : Calls Tryz.prog 28 #[.pointer (some ⟨mb, 0, none⟩)] w fun e w' => e = .returned (.bool true) ∧ w = w' := by
  have hq : ∀ W, Sem.run Tryz.prog (binOp BinOp.eql 51 Value.nilFunc Value.nilFunc) W = .ok (.bool true) W := fun _ => by kernel_rfl
  go_enter Tryz.func28, Tryz.ntmps28
  go_wp2
  go_ret
  exact ⟨rfl, rfl⟩
set_option maxHeartbeats 400000 in
theorem deskDone_live {fn : Fn} {a b : Array Value} (h : w.cell? ⟨mb, 2, none⟩ = some (.func fn a b)) : Calls Tryz.prog 28 #[.pointer (some ⟨mb, 0, none⟩)] w fun e w' => e = .returned (.bool false) ∧ w = w' := by
  have hq : ∀ W, Sem.run Tryz.prog (binOp BinOp.eql 51 (Value.func fn a b) Value.nilFunc) W = .ok (.bool false) W := fun _ => by kernel_rfl
  go_enter Tryz.func28, Tryz.ntmps28
  go_wp2
  go_ret
  exact ⟨rfl, rfl⟩
set_option maxHeartbeats 400000 in
theorem deskEnd_any {c : Array Value} {t : TypeId} (h : Blk w mb c t) (h2 : 2 < c.size) : Calls Tryz.prog 92 #[.pointer (some ⟨mb, 0, none⟩)] w fun e w' => e = .returned (.tuple #[]) ∧ w' = w.setCell ⟨mb, 2, none⟩ .nilFunc := by
  have f2 := h.frozen 2
  have c2 := h.cell 2
  rw [Array.getElem?_eq_getElem h2] at c2
  clear h
  go_enter Tryz.func92, Tryz.ntmps92
  go_wp2
  go_end0
  exact ⟨rfl, rfl⟩
end
section
variable {w : World} {mb : Nat}
set_option maxHeartbeats 400000 in
theorem deskStep_done {a : Option Addr} (h : w.cell? ⟨mb, 2, none⟩ = some .nilFunc) :
    Calls Tryz.prog 27 #[.pointer (some ⟨mb, 0, none⟩), .pointer a] w fun e w' => e = .returned (.agg #[.int .i64 0, .int .i64 0, .int .u64 0, .int .u64 0]) ∧ Adds w w' := by
  have hl := cell_lt h
  have hq : ∀ W, Sem.run Tryz.prog (binOp BinOp.eql 51 Value.nilFunc Value.nilFunc) W = .ok (.bool true) W := fun _ => by kernel_rfl
  go_enter Tryz.func27, Tryz.ntmps27
  go_wp2
  go_quiet ((fail))
  go_wp2
  exact bodyPost_ret (v := .agg #[.int .i64 0, .int .i64 0, .int .u64 0, .int .u64 0]) (by simp [results, Tryz.results27, go_sem]) rfl ⟨rfl, only_box4 (((Only.refl _ _).alloc _).drewN _) (.inr (Nat.le_refl _)) _ _ _ _⟩
set_option maxHeartbeats 400000 in
theorem deskStep_nilA {fn : Fn} {a b : Array Value} (h : w.cell? ⟨mb, 2, none⟩ = some (.func fn a b)) :
    Calls Tryz.prog 27 #[.pointer (some ⟨mb, 0, none⟩), .pointer none] w fun e w' => e = .returned (.agg #[.int .i64 0, .int .i64 0, .int .u64 0, .int .u64 0]) ∧ Adds w w' := by
  have hl := cell_lt h
  have hq : ∀ W, Sem.run Tryz.prog (binOp BinOp.eql 51 (Value.func fn a b) Value.nilFunc) W = .ok (.bool false) W := fun _ => by kernel_rfl
  go_enter Tryz.func27, Tryz.ntmps27
  go_wp2
  go_quiet ((fail))
  go_wp2
  exact bodyPost_ret (v := .agg #[.int .i64 0, .int .i64 0, .int .u64 0, .int .u64 0]) (by simp [results, Tryz.results27, go_sem]) rfl ⟨rfl, only_box4 (((Only.refl _ _).alloc _).drewN _) (.inr (Nat.le_refl _)) _ _ _ _⟩
set_option maxHeartbeats 1000000 in
theorem deskStep_other {fn : Fn} {a b : Array Value} {P T P' T' : Int} {ab sb rb : Nat} (h : w.cell? ⟨mb, 2, none⟩ = some (.func fn a b)) (h0 : w.cell? ⟨mb, 0, none⟩ = some (.int .i64 P)) (h1 : w.cell? ⟨mb, 1, none⟩ = some (.int .i64 T)) (hA : IsArena w ab sb rb P' T') (hne : (P' == P && T' == T) = false) :
    Calls Tryz.prog 27 #[.pointer (some ⟨mb, 0, none⟩), .pointer (some ⟨ab, 0, none⟩)] w fun e w' => e = .returned (.agg #[.int .i64 0, .int .i64 0, .int .u64 0, .int .u64 0]) ∧ Adds w w' := by
  have hl := cell_lt h
  have hq : ∀ W, Sem.run Tryz.prog (binOp BinOp.eql 51 (Value.func fn a b) Value.nilFunc) W = .ok (.bool false) W := fun _ => by kernel_rfl
  have HA := Lib.hid hA
  clear hA
  have hb := fun W => layout_neq W P' T' P T
  rw [hne] at hb
  simp only [Bool.not_false] at hb
  obtain ⟨wR, hR⟩ : ∃ wR, wR = w.alloc (.cells #[.int .i64 0, .int .i64 0, .int .u64 0, .int .u64 0] 50) := ⟨_, rfl⟩
  have hBR : Hid (Blk wR w.heap.size #[.int .i64 0, .int .i64 0, .int .u64 0, .int .u64 0] 50) := by rw [hR]; exact Lib.hid (Blk.new _ _ _)
  have hAR : Hid (Adds w wR) := by rw [hR]; exact Lib.hid ((Only.refl _ _).alloc _)
  have k0 : wR.cell? ⟨mb, 0, none⟩ = some (.int .i64 P) := (hAR.out.cellF (p := ⟨mb, 0, none⟩) hl id).trans h0
  have k1 : wR.cell? ⟨mb, 1, none⟩ = some (.int .i64 T) := (hAR.out.cellF (p := ⟨mb, 1, none⟩) hl id).trans h1
  have k2 : wR.cell? ⟨mb, 2, none⟩ = some (.func fn a b) := (hAR.out.cellF (p := ⟨mb, 2, none⟩) hl id).trans h
  have HW := Lib.hid hR
  go_enter Tryz.func27, Tryz.ntmps27
  go_wp2
  rw [← HW.out]
  clear hR h h0 h1
  go_region_held3 (fun w' => w'.cell? ⟨mb, 0, none⟩ = some (.int .i64 P) ∧ w'.cell? ⟨mb, 1, none⟩ = some (.int .i64 T) ∧ w'.cell? ⟨mb, 2, none⟩ = some (.func fn a b) ∧ Adds wR w')
    (first | (exact ⟨k0, k1, k2, (Only.refl _ _).drew⟩) | (exact heldM3 (by assumption) (by assumption)))
    (first | (go_at_call 29; refine (arenaLayout_any (HA.out.only (hAR.out.thenF (heldM3 (w := wR) (b := mb) (x := .int .i64 P) (y := .int .i64 T) (z := .func fn a b) (by assumption) (Only.refl _ _)).2.2.2) id)).mono ?_; rintro e w' ⟨rfl, ho⟩))
  rename_i hH
  have HH := Lib.hid hH.2.2.2
  clear hH
  have hB := hBR.out.only HH.out id
  obtain ⟨q0, q1, q2, q3, f0, f1, f2, f3⟩ := hB.four
  have HO := Lib.hid (hAR.out.thenF HH.out)
  clear hB
  go_wp2
  exact bodyPost_ret (v := .agg #[.int .i64 0, .int .i64 0, .int .u64 0, .int .u64 0]) (by simp [q0, q1, q2, q3, results, Tryz.results27, go_sem]) rfl ⟨rfl, only_box4 HO.out (.inr (Nat.le_refl _)) _ _ _ _⟩
set_option maxHeartbeats 1000000 in
/-- A step of a desk that is in its arena: its next step is done. -/
theorem deskStep_live {K : Nat} {cap : Array Value} {P T : Int} {ab sb rb : Nat} (h : w.cell? ⟨mb, 2, none⟩ = some (.func (.func K) #[] cap)) (h0 : w.cell? ⟨mb, 0, none⟩ = some (.int .i64 P)) (h1 : w.cell? ⟨mb, 1, none⟩ = some (.int .i64 T)) (hA : IsArena w ab sb rb P T)
    {k i o n : Int} {Q : World → Prop} (hst : Stays Q) {S : Nat → Prop} (hS : ∀ j, S j → j < w.heap.size)
    (eg : ∀ args W, (callFunc K args).run Tryz.prog W = .ok (.enter K args) W) (hK : ∀ w1, Adds w w1 → Calls Tryz.prog K (#[.pointer (some ⟨ab, 0, none⟩)] ++ cap) w1 fun e w2 => e = .returned (.agg #[.int .i64 k, .int .i64 i, .int .u64 o, .int .u64 n]) ∧ Q w2 ∧ Only S w1 w2) :
    Calls Tryz.prog 27 #[.pointer (some ⟨mb, 0, none⟩), .pointer (some ⟨ab, 0, none⟩)] w fun e w' => e = .returned (.agg #[.int .i64 k, .int .i64 i, .int .u64 o, .int .u64 n]) ∧ Q w' ∧ Only S w w' := by
  have hl := cell_lt h
  have hq : ∀ W, Sem.run Tryz.prog (binOp BinOp.eql 51 (Value.func (.func K) #[] cap) Value.nilFunc) W = .ok (.bool false) W := fun _ => by kernel_rfl
  have HA := Lib.hid hA
  have HST := Lib.hid hst; have HS := Lib.hid hS; have HK := Lib.hid hK
  clear hA hst hS hK
  have hb := fun W => layout_neq W P T P T
  simp only [beq_self_eq_true, Bool.and_self, Bool.not_true] at hb
  obtain ⟨wR, hR⟩ : ∃ wR, wR = w.alloc (.cells #[.int .i64 0, .int .i64 0, .int .u64 0, .int .u64 0] 50) := ⟨_, rfl⟩
  have hBR : Hid (Blk wR w.heap.size #[.int .i64 0, .int .i64 0, .int .u64 0, .int .u64 0] 50) := by rw [hR]; exact Lib.hid (Blk.new _ _ _)
  have hAR : Hid (Adds w wR) := by rw [hR]; exact Lib.hid ((Only.refl _ _).alloc _)
  have k0 : wR.cell? ⟨mb, 0, none⟩ = some (.int .i64 P) := (hAR.out.cellF (p := ⟨mb, 0, none⟩) hl id).trans h0
  have k1 : wR.cell? ⟨mb, 1, none⟩ = some (.int .i64 T) := (hAR.out.cellF (p := ⟨mb, 1, none⟩) hl id).trans h1
  have k2 : wR.cell? ⟨mb, 2, none⟩ = some (.func (.func K) #[] cap) := (hAR.out.cellF (p := ⟨mb, 2, none⟩) hl id).trans h
  have HW := Lib.hid hR
  go_enter Tryz.func27, Tryz.ntmps27
  go_wp2
  rw [← HW.out]
  clear hR h h0 h1
  go_region_held3 (fun w' => w'.cell? ⟨mb, 0, none⟩ = some (.int .i64 P) ∧ w'.cell? ⟨mb, 1, none⟩ = some (.int .i64 T) ∧ w'.cell? ⟨mb, 2, none⟩ = some (.func (.func K) #[] cap) ∧ Adds wR w')
    (first | (exact ⟨k0, k1, k2, (Only.refl _ _).drew⟩) | (exact heldM3 (by assumption) (by assumption)))
    (first | (go_at_call 29; refine (arenaLayout_any (HA.out.only (hAR.out.thenF (heldM3 (w := wR) (b := mb) (x := .int .i64 P) (y := .int .i64 T) (z := .func (.func K) #[] cap) (by assumption) (Only.refl _ _)).2.2.2) id)).mono ?_; rintro e w' ⟨rfl, ho⟩))
  rename_i hH
  have HH := Lib.hid hH.2.2.2
  have HO := Lib.hid (hAR.out.thenF HH.out)
  have hk := Lib.hid (HK.out _ HO.out)
  have c2 := hH.2.2.1
  clear hH
  go_wp2_with (go_at_fn K; refine hk.out.mono ?_; rintro e w2 ⟨rfl, hQ, ho2⟩; have hB := (hBR.out.only HH.out id).only ho2 (fun e => Nat.lt_irrefl _ (HS.out _ e)); obtain ⟨q0, q1, q2, q3, f0, f1, f2, f3⟩ := hB.four; have HQ := Lib.hid hQ; have HB := Lib.hid hB; have HO2 := Lib.hid ((HO.out.mono (T := S) (fun _ _ e => e.elim)).trans ho2); clear hQ hB ho2)
  exact bodyPost_ret (v := .agg #[.int .i64 k, .int .i64 i, .int .u64 o, .int .u64 n]) (by simp [q0, q1, q2, q3, results, Tryz.results27, go_sem]) rfl ⟨rfl, HST.out.box HB.out HQ.out _ _ _ _, only_box4 HO2.out (.inr (Nat.le_refl _)) _ _ _ _⟩
end
theorem heldS1 {S : Nat → Prop} {w W w' : World} {p : Nat} {x : Value} (hp : ¬ S p)
    (h : W.cell? ⟨p, 0, none⟩ = some x ∧ Only S w W) (ho : Only S W w') : w'.cell? ⟨p, 0, none⟩ = some x ∧ Only S w w' :=
  ⟨(ho.cellF (p := ⟨p, 0, none⟩) (cell_lt h.1) hp).trans h.1, h.2.trans ho⟩
theorem heldS2 {S : Nat → Prop} {w W w' : World} {p q : Nat} {x y : Value} (hp : ¬ S p) (hq : ¬ S q)
    (h : W.cell? ⟨p, 0, none⟩ = some x ∧ W.cell? ⟨q, 0, none⟩ = some y ∧ Only S w W) (ho : Only S W w') :
    w'.cell? ⟨p, 0, none⟩ = some x ∧ w'.cell? ⟨q, 0, none⟩ = some y ∧ Only S w w' :=
  ⟨(ho.cellF (p := ⟨p, 0, none⟩) (cell_lt h.1) hp).trans h.1, (ho.cellF (p := ⟨q, 0, none⟩) (cell_lt h.2.1) hq).trans h.2.1, h.2.2.trans ho⟩
theorem heldS3 {S : Nat → Prop} {w W w' : World} {p q r : Nat} {x y z : Value} (hp : ¬ S p) (hq : ¬ S q) (hr : ¬ S r)
    (h : W.cell? ⟨p, 0, none⟩ = some x ∧ W.cell? ⟨q, 0, none⟩ = some y ∧ W.cell? ⟨r, 0, none⟩ = some z ∧ Only S w W) (ho : Only S W w') :
    w'.cell? ⟨p, 0, none⟩ = some x ∧ w'.cell? ⟨q, 0, none⟩ = some y ∧ w'.cell? ⟨r, 0, none⟩ = some z ∧ Only S w w' :=
  ⟨(ho.cellF (p := ⟨p, 0, none⟩) (cell_lt h.1) hp).trans h.1, (ho.cellF (p := ⟨q, 0, none⟩) (cell_lt h.2.1) hq).trans h.2.1, (ho.cellF (p := ⟨r, 0, none⟩) (cell_lt h.2.2.1) hr).trans h.2.2.1, h.2.2.2.trans ho⟩
theorem Blk.one {w : World} {b : Nat} {v : Value} {t : TypeId} (h : Blk w b #[v] t) : w.cell? ⟨b, 0, none⟩ = some v := h.cell 0
/-- A block of another type is none of the store's. -/
theorem Yard.not {w : World} {ab sb sm rb : Nat} {P T : Int} {s : StoreS} (h : Yard w ab sb sm rb P T s) {b : Nat} {c : Array Value} {t : TypeId} (hb : Blk w b c t) (ht : t ≠ 118) (hc : t ≠ 48 ∨ c.size ≠ s.ws.length) : ¬ SB sb sm b := by
  rintro (rfl | rfl)
  · exact ht (hb.uniq h.st.head).2
  · rcases hc with hc | hc
    · exact hc (hb.uniq h.st.row).2
    · have e := (hb.uniq h.st.row).1; rw [e] at hc; simp at hc
section
variable {w : World} {ab sb sm rb : Nat} {P T : Int} {s : StoreS}
theorem Yard.multi (hY : Yard w ab sb sm rb P T s) (hbig : 1 < s.ws.length) {b : Nat} {x : Value} {t : TypeId} (h : Blk w b #[x] t) : ¬ SB sb sm b := by
  rintro (rfl | rfl)
  · have e := congrArg Array.size (h.uniq hY.st.head).1; simp [StoreS.arr] at e
  · have e := congrArg Array.size (h.uniq hY.st.row).1; simp at e; omega
theorem Yard.mach (hY : Yard w ab sb sm rb P T s) {b : Nat} {c : Array Value} {t : TypeId} (h : Blk w b c t) (h1 : t ≠ 118) (h2 : t ≠ 48) (h3 : t ≠ 115) : b ≠ ab ∧ b ≠ sb ∧ b ≠ sm := by
  refine ⟨?_, ?_, ?_⟩ <;> rintro rfl
  · exact h3 (h.uniq hY.ar.head).2
  · exact h1 (h.uniq hY.st.head).2
  · exact h2 (h.uniq hY.st.row).2
end
end Go.Proofs.YthhnpcniijpfeaaGreat

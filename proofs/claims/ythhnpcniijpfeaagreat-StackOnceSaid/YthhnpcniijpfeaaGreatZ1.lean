/- Blocks of the heap: what a block holds behind stores, new blocks, draws; 'Only S': nothing but blocks of S, and new ones, has turned. Package store: what each call does to a store in memory, for every argument. Package store: Load, Put, Cas, Add, Last, Count, Len, Words, Peek, for every argument. Package store: New, Last, Count, Len, Words, Peek. Package store: Begun. By an AI agent. -/
import Derived.Test.YthhnpcniijpfeaaGreatProg
import Derived.WalkKit
import Derived.WalkSpells
import Derived.WalkLawsBesides
import Derived.Deep.QuietTactic
import Derived.BigQuiet
import Derived.Lib.Hide
import Derived.Deep.Draws
namespace Go.Proofs.YthhnpcniijpfeaaGreat
open Go.RowKit
set_option linter.unusedSimpArgs false
set_option linter.unusedVariables false

/-- Nothing but blocks of S, and blocks that are new, has turned. -/
structure Only (S : Nat → Prop) (w w' : World) : Prop where
  os : w'.os = w.os
  tape : w'.tape = w.tape
  output : w'.output = w.output
  size : w.heap.size ≤ w'.heap.size
  block : ∀ k, k < w.heap.size → ¬ S k → w'.heap[k]? = w.heap[k]?

theorem Only.refl (S : Nat → Prop) (w : World) : Only S w w := ⟨rfl, rfl, rfl, Nat.le_refl _, fun _ _ _ => rfl⟩
theorem Only.trans {S : Nat → Prop} {a b c : World} (h : Only S a b) (k : Only S b c) : Only S a c :=
  ⟨k.os.trans h.os, k.tape.trans h.tape, k.output.trans h.output, Nat.le_trans h.size k.size,
   fun i hi hs => (k.block i (Nat.lt_of_lt_of_le hi h.size) hs).trans (h.block i hi hs)⟩
theorem Only.mono {S T : Nat → Prop} {a b : World} (h : Only S a b) (hST : ∀ k, k < a.heap.size → S k → T k) : Only T a b :=
  ⟨h.os, h.tape, h.output, h.size, fun i hi hs => h.block i hi (fun x => hs (hST i hi x))⟩
/-- Two steps: what the second one turns was turned by the first one's leave, or is new. -/
theorem Only.andThen {S T : Nat → Prop} {a b c : World} (h : Only S a b) (k : Only T b c) (hT : ∀ i, i < a.heap.size → T i → S i) : Only S a c :=
  ⟨k.os.trans h.os, k.tape.trans h.tape, k.output.trans h.output, Nat.le_trans h.size k.size,
   fun i hi hs => (k.block i (Nat.lt_of_lt_of_le hi h.size) (fun x => hs (hT i hi x))).trans (h.block i hi hs)⟩
theorem Only.below {S : Nat → Prop} {B : Nat} {a b : World} (h : Only S a b) (hB : B ≤ a.heap.size) (hS : ∀ k, k < B → ¬ S k) : Below B a b :=
  ⟨h.os, h.tape, h.output, h.size, fun i hi => h.block i (Nat.lt_of_lt_of_le hi hB) (hS i hi)⟩
theorem Only.of_below {B : Nat} {a b : World} (h : Below B a b) : Only (B ≤ ·) a b :=
  ⟨h.os, h.tape, h.output, h.size, fun i _ hs => h.block i (Nat.lt_of_not_le hs)⟩
theorem Only.setCell {S : Nat → Prop} {a b : World} (h : Only S a b) {p : Addr} (hp : S p.block ∨ a.heap.size ≤ p.block) (u : Value) : Only S a (b.setCell p u) :=
  ⟨h.os, h.tape, h.output, by simpa [World.setCell] using h.size, fun k hk hs => by
    rw [Below.heap_setCell b p u k (by rintro rfl; rcases hp with hp | hp; exact hs hp; omega)]
    exact h.block k hk hs⟩
theorem Only.alloc {S : Nat → Prop} {a b : World} (h : Only S a b) (o : Obj) : Only S a (b.alloc o) :=
  ⟨h.os, h.tape, h.output, Nat.le_trans h.size (by simp), fun k hk hs => by
    rw [Below.heap_alloc b o k (Nat.lt_of_lt_of_le hk h.size)]
    exact h.block k hk hs⟩
theorem Only.drew {S : Nat → Prop} {a b : World} (h : Only S a b) : Only S a b.drew := ⟨h.os, h.tape, h.output, h.size, h.block⟩
theorem Only.drewN {S : Nat → Prop} {a b : World} (h : Only S a b) (n : Nat) : Only S a (b.drewN n) := ⟨h.os, h.tape, h.output, h.size, h.block⟩

/-- Block b holds the cells c, of element type t, none of them frozen. -/
def Blk (w : World) (b : Nat) (c : Array Value) (t : TypeId) : Prop := w.heap[b]? = some (.cells c t (0, 0))
theorem Blk.lt {w : World} {b : Nat} {c : Array Value} {t : TypeId} (h : Blk w b c t) : b < w.heap.size := by
  unfold Blk at h
  rcases Nat.lt_or_ge b w.heap.size with h1 | h1
  · exact h1
  · rw [Array.getElem?_eq_none h1] at h; cases h
theorem Blk.cell {w : World} {b : Nat} {c : Array Value} {t : TypeId} (h : Blk w b c t) (j : Nat) : w.cell? ⟨b, j, none⟩ = c[j]? := by
  unfold Blk at h; simp [World.cell?, h]
theorem Blk.frozen {w : World} {b : Nat} {c : Array Value} {t : TypeId} (h : Blk w b c t) (j : Nat) : w.frozen? ⟨b, j, none⟩ = false := by
  unfold Blk at h; simp [World.frozen?, h]
theorem Blk.only {S : Nat → Prop} {w w' : World} {b : Nat} {c : Array Value} {t : TypeId} (h : Blk w b c t) (ho : Only S w w') (hs : ¬ S b) : Blk w' b c t :=
  (ho.block b h.lt hs).trans h
theorem Blk.setCell {w : World} {b : Nat} {c : Array Value} {t : TypeId} (h : Blk w b c t) (j : Nat) (v : Value) : Blk (w.setCell ⟨b, j, none⟩ v) b (c.setIfInBounds j v) t := by
  unfold Blk at h ⊢; simp [World.setCell, Array.getElem?_modify, h]
theorem Blk.setCell_other {w : World} {b d : Nat} {c : Array Value} {t : TypeId} (h : Blk w b c t) (hd : b ≠ d) (j : Nat) (v : Value) : Blk (w.setCell ⟨d, j, none⟩ v) b c t :=
  (Below.heap_setCell w ⟨d, j, none⟩ v b hd).trans h
theorem Blk.alloc {w : World} {b : Nat} {c : Array Value} {t : TypeId} (h : Blk w b c t) (o : Obj) : Blk (w.alloc o) b c t :=
  (Below.heap_alloc w o b h.lt).trans h
theorem Blk.drewN {w : World} {b : Nat} {c : Array Value} {t : TypeId} (h : Blk w b c t) (n : Nat) : Blk (w.drewN n) b c t := h
theorem Blk.drew {w : World} {b : Nat} {c : Array Value} {t : TypeId} (h : Blk w b c t) : Blk w.drew b c t := h
theorem Blk.new (w : World) (c : Array Value) (t : TypeId) : Blk (w.alloc (.cells c t)) w.heap.size c t := by
  show (w.heap.push (Obj.cells c t))[w.heap.size]? = _
  simp
theorem Blk.uniq {w : World} {b : Nat} {c d : Array Value} {t u : TypeId} (h : Blk w b c t) (k : Blk w b d u) : c = d ∧ t = u := by
  unfold Blk at h k; rw [h] at k; simp at k; exact k
theorem Only.thenF {S : Nat → Prop} {a b c : World} (h : Only S a b) (k : Only (fun _ => False) b c) : Only S a c := h.andThen k (fun _ _ hT => hT.elim)
/-- Nothing that was there has turned. -/
abbrev Adds (w w' : World) : Prop := Only (fun _ => False) w w'
theorem Adds.box {w w1 : World} {o : Obj} (h : Adds (w.alloc o) w1) : Adds w w1 := ((Only.refl (fun _ => False) w).alloc o).thenF h
theorem Adds.box2 {w w1 : World} {o o' : Obj} (h : Adds ((w.alloc o).alloc o') w1) : Adds w w1 := (Adds.box h).box
theorem Only.cellF {S : Nat → Prop} {a b : World} (h : Only S a b) {p : Addr} (hp : p.block < a.heap.size) (hs : ¬ S p.block) : b.cell? p = a.cell? p := World.cell?_of_block (h.block p.block hp hs)
theorem Only.frozenF {S : Nat → Prop} {a b : World} (h : Only S a b) {p : Addr} (hp : p.block < a.heap.size) (hs : ¬ S p.block) : b.frozen? p = a.frozen? p := World.frozen?_of_block (h.block p.block hp hs)
theorem Only.reads {a b : World} (h : Adds a b) : (∀ k o, k < a.heap.size → b.cell? ⟨k, o, none⟩ = a.cell? ⟨k, o, none⟩) ∧ (∀ k o, k < a.heap.size → b.frozen? ⟨k, o, none⟩ = a.frozen? ⟨k, o, none⟩) :=
  ⟨fun k _ hk => h.cellF (p := ⟨k, _, none⟩) hk id, fun k _ hk => h.frozenF (p := ⟨k, _, none⟩) hk id⟩
theorem cell_lt {w : World} {b j : Nat} {v : Value} (h : w.cell? ⟨b, j, none⟩ = some v) : b < w.heap.size := by
  rcases Nat.lt_or_ge b w.heap.size with h1 | h1
  · exact h1
  · simp [World.cell?, Array.getElem?_eq_none h1] at h
/-- What a region that only adds keeps: two cells. -/
theorem held2 {w W w' : World} {b c i j : Nat} {x y : Value} (h : W.cell? ⟨b, i, none⟩ = some x ∧ W.cell? ⟨c, j, none⟩ = some y ∧ Adds w W) (ho : Adds W w') :
    w'.cell? ⟨b, i, none⟩ = some x ∧ w'.cell? ⟨c, j, none⟩ = some y ∧ Adds w w' :=
  ⟨(ho.cellF (p := ⟨b, i, none⟩) (cell_lt h.1) id).trans h.1, (ho.cellF (p := ⟨c, j, none⟩) (cell_lt h.2.1) id).trans h.2.1, h.2.2.andThen ho (fun _ _ => id)⟩
theorem box2_cells {w w1 : World} {x y : Value} {t : TypeId} (ho : Adds (w.alloc (.cells #[x, y] t)) w1) :
    w1.cell? ⟨w.heap.size, 0, none⟩ = some x ∧ w1.cell? ⟨w.heap.size, 1, none⟩ = some y ∧ Adds w w1 :=
  ⟨(ho.cellF (p := ⟨w.heap.size, 0, none⟩) (by simp) id).trans (World.cell?_alloc_new w _ t 0), (ho.cellF (p := ⟨w.heap.size, 1, none⟩) (by simp) id).trans (World.cell?_alloc_new w _ t 1), ho.box⟩

/-- A store: its words, the last access, how many there were. -/
structure StoreS where
  ws : List Int
  k : Int
  pos : Int
  old : Int
  new : Int
  many : Int

namespace StoreS
def arr (s : StoreS) (m : Nat) : Array Value := #[.slice (some ⟨m, 0, none⟩) s.ws.length s.ws.length, .int .i64 s.k, .int .i64 s.pos, .int .u64 s.old, .int .u64 s.new, .int .i64 s.many]
def inR (s : StoreS) (i : Int) : Prop := 0 ≤ i ∧ i < s.ws.length
instance (s : StoreS) (i : Int) : Decidable (s.inR i) := inferInstanceAs (Decidable (_ ∧ _))
def word (s : StoreS) (i : Int) : Int := s.ws.getD i.toNat 0
def acc (s : StoreS) (k i v : Int) : StoreS := ⟨s.ws.set i.toNat v, k, i, s.word i, v, wrap64 (s.many + 1)⟩
/-- Each word fits; there are no more than may be. -/
def fit (s : StoreS) : Prop := s.ws.length ≤ 65536 ∧ ∀ x ∈ s.ws, 0 ≤ x ∧ x < 18446744073709551616
theorem word_bd {s : StoreS} (h : s.fit) (i : Int) : 0 ≤ s.word i ∧ s.word i < 18446744073709551616 := by
  unfold word
  rcases Nat.lt_or_ge i.toNat s.ws.length with hi | hi
  · have : s.ws.getD i.toNat 0 ∈ s.ws := by rw [List.getD_eq_getElem?_getD, List.getElem?_eq_getElem hi]; exact List.getElem_mem hi
    exact h.2 _ this
  · rw [List.getD_eq_getElem?_getD, List.getElem?_eq_none hi]; simp
theorem acc_fit {s : StoreS} (h : s.fit) (k i : Int) {v : Int} (h0 : 0 ≤ v) (h1 : v < 18446744073709551616) : (s.acc k i v).fit := by
  refine ⟨by simpa [acc] using h.1, fun x hx => ?_⟩
  rcases List.mem_or_eq_of_mem_set hx with hx | rfl
  · exact h.2 x hx
  · exact ⟨h0, h1⟩
theorem acc_inR {s : StoreS} {j : Int} (h : s.inR j) (k i v : Int) : (s.acc k i v).inR j := by
  obtain ⟨a, b⟩ := h; exact ⟨a, by simpa [acc] using b⟩
theorem acc_word {s : StoreS} {i : Int} (h : s.inR i) (k v : Int) : (s.acc k i v).word i = v := by
  obtain ⟨a, b⟩ := h
  have : i.toNat < s.ws.length := by omega
  simp [word, acc, this]
theorem acc_word_other {s : StoreS} {i j : Int} (hi : 0 ≤ i) (hj : 0 ≤ j) (h : j ≠ i) (k v : Int) : (s.acc k i v).word j = s.word j := by
  have : i.toNat ≠ j.toNat := by omega
  simp [word, acc, this]
end StoreS

/-- Block b is a store s, block m its words. -/
structure IsStore (w : World) (b m : Nat) (s : StoreS) : Prop where
  head : Blk w b (s.arr m) 118
  row : Blk w m (s.ws.map (Value.int .u64)).toArray 48
  ne : b ≠ m
  fit : s.fit

theorem IsStore.only {S : Nat → Prop} {w w' : World} {b m : Nat} {s : StoreS} (h : IsStore w b m s) (ho : Only S w w') (hb : ¬ S b) (hm : ¬ S m) : IsStore w' b m s :=
  ⟨h.head.only ho hb, h.row.only ho hm, h.ne, h.fit⟩
theorem IsStore.drewN {w : World} {b m : Nat} {s : StoreS} (h : IsStore w b m s) (n : Nat) : IsStore (w.drewN n) b m s := ⟨h.head, h.row, h.ne, h.fit⟩
theorem IsStore.alloc {w : World} {b m : Nat} {s : StoreS} (h : IsStore w b m s) (o : Obj) : IsStore (w.alloc o) b m s := ⟨h.head.alloc o, h.row.alloc o, h.ne, h.fit⟩
theorem IsStore.cells {w : World} {b m : Nat} {s : StoreS} (h : IsStore w b m s) :
    w.cell? ⟨b, 0, none⟩ = some (.slice (some ⟨m, 0, none⟩) s.ws.length s.ws.length) ∧ w.cell? ⟨b, 1, none⟩ = some (.int .i64 s.k) ∧ w.cell? ⟨b, 2, none⟩ = some (.int .i64 s.pos) ∧
    w.cell? ⟨b, 3, none⟩ = some (.int .u64 s.old) ∧ w.cell? ⟨b, 4, none⟩ = some (.int .u64 s.new) ∧ w.cell? ⟨b, 5, none⟩ = some (.int .i64 s.many) :=
  ⟨h.head.cell 0, h.head.cell 1, h.head.cell 2, h.head.cell 3, h.head.cell 4, h.head.cell 5⟩
theorem IsStore.wordCell {w : World} {b m : Nat} {s : StoreS} (h : IsStore w b m s) {i : Int} (hi : s.inR i) : w.cell? ⟨m, i.toNat, none⟩ = some (.int .u64 (s.word i)) := by
  rw [h.row.cell]
  obtain ⟨h0, h1⟩ := hi
  have hlt : i.toNat < s.ws.length := by omega
  simp [StoreS.word, List.getElem?_eq_getElem hlt]

/-- What an access does to the two blocks. -/
theorem IsStore.accessed {w : World} {b m : Nat} {s : StoreS} (h : IsStore w b m s) {k i v : Int} (hv0 : 0 ≤ v) (hv1 : v < 18446744073709551616) :
    IsStore ((((((w.setCell ⟨m, i.toNat, none⟩ (.int .u64 v)).setCell ⟨b, 1, none⟩ (.int .i64 k)).setCell ⟨b, 2, none⟩ (.int .i64 i)).setCell ⟨b, 3, none⟩ (.int .u64 (s.word i))).setCell ⟨b, 4, none⟩ (.int .u64 v)).setCell ⟨b, 5, none⟩ (.int .i64 (wrap64 (s.many + 1)))) b m (s.acc k i v) := by
  have hbm := h.ne
  have h1 := (((((h.head.setCell_other hbm i.toNat (.int .u64 v)).setCell 1 (.int .i64 k)).setCell 2 (.int .i64 i)).setCell 3 (.int .u64 (s.word i))).setCell 4 (.int .u64 v)).setCell 5 (.int .i64 (wrap64 (s.many + 1)))
  have h2 := (((((h.row.setCell i.toNat (.int .u64 v)).setCell_other hbm.symm 1 (.int .i64 k)).setCell_other hbm.symm 2 (.int .i64 i)).setCell_other hbm.symm 3 (.int .u64 (s.word i))).setCell_other hbm.symm 4 (.int .u64 v)).setCell_other hbm.symm 5 (.int .i64 (wrap64 (s.many + 1)))
  refine ⟨?_, ?_, hbm, StoreS.acc_fit h.fit k i hv0 hv1⟩
  · have e : (s.acc k i v).arr m = (((((s.arr m).setIfInBounds 1 (.int .i64 k)).setIfInBounds 2 (.int .i64 i)).setIfInBounds 3 (.int .u64 (s.word i))).setIfInBounds 4 (.int .u64 v)).setIfInBounds 5 (.int .i64 (wrap64 (s.many + 1))) := by
      simp [StoreS.arr, StoreS.acc]
    rw [e]; exact h1
  · have e : ((s.acc k i v).ws.map (Value.int .u64)).toArray = (s.ws.map (Value.int .u64)).toArray.setIfInBounds i.toNat (.int .u64 v) := by
      simp [StoreS.acc]
    rw [e]; exact h2

theorem only_access (w : World) (b m : Nat) (i : Nat) (v1 v2 v3 v4 v5 v6 : Value) :
    Only (fun j => j = b ∨ j = m) w ((((((w.setCell ⟨m, i, none⟩ v1).setCell ⟨b, 1, none⟩ v2).setCell ⟨b, 2, none⟩ v3).setCell ⟨b, 3, none⟩ v4).setCell ⟨b, 4, none⟩ v5).setCell ⟨b, 5, none⟩ v6) :=
  ((((((Only.refl _ w).setCell (.inl (.inr rfl)) _).setCell (.inl (.inl rfl)) _).setCell (.inl (.inl rfl)) _).setCell (.inl (.inl rfl)) _).setCell (.inl (.inl rfl)) _).setCell (.inl (.inl rfl)) _

set_option maxHeartbeats 1000000 in
theorem access_any (b m : Nat) (k i v : Int) (s : StoreS) (w : World) (h : IsStore w b m s) (hi : s.inR i) (hv0 : 0 ≤ v) (hv1 : v < 18446744073709551616) :
    Calls Tryz.prog 100 #[.pointer (some ⟨b, 0, none⟩), .int .i64 k, .int .i64 i, .int .u64 v] w fun e w' => e = .returned (.int .u64 (s.word i)) ∧ IsStore w' b m (s.acc k i v) ∧ Only (fun j => j = b ∨ j = m) w w' := by
  have hfin := Lib.hid (h.accessed (k := k) (i := i) hv0 hv1)
  obtain ⟨hc0, hc1, hc2, hc3, hc4, hc5⟩ := h.cells
  have hx := h.wordCell hi
  have f1 := h.head.frozen 1
  have f2 := h.head.frozen 2
  have f3 := h.head.frozen 3
  have f4 := h.head.frozen 4
  have f5 := h.head.frozen 5
  have fm := h.row.frozen i.toNat
  have hbm := h.ne
  have hbm' : m ≠ b := hbm.symm
  have hn := h.fit.1
  obtain ⟨hi0, hi1⟩ := hi
  clear h
  go_enter Tryz.func100, Tryz.ntmps100
  go_wp2
  go_ret
  exact ⟨rfl, hfin.out, only_access _ _ _ _ _ _ _ _ _ _⟩

set_option maxHeartbeats 400000 in
theorem check_nil (i : Int) (w : World) : Calls Tryz.prog 53 #[.pointer none, .int .i64 i] w fun e w' => e = .returned (.int .i64 2) ∧ w = w' := by
  go_enter Tryz.func53, Tryz.ntmps53
  go_wp2
  go_ret
  exact ⟨rfl, rfl⟩
set_option maxHeartbeats 400000 in
theorem check_in (b m : Nat) (i : Int) (s : StoreS) (w : World) (h : IsStore w b m s) (hi : s.inR i) :
    Calls Tryz.prog 53 #[.pointer (some ⟨b, 0, none⟩), .int .i64 i] w fun e w' => e = .returned (.int .i64 0) ∧ w = w' := by
  have hc0 := h.cells.1
  have hn := h.fit.1
  obtain ⟨hi0, hi1⟩ := hi
  clear h
  go_enter Tryz.func53, Tryz.ntmps53
  go_wp2
  go_ret
  exact ⟨rfl, rfl⟩
set_option maxHeartbeats 400000 in
theorem check_out (b m : Nat) (i : Int) (s : StoreS) (w : World) (h : IsStore w b m s) (hi : ¬ s.inR i) :
    Calls Tryz.prog 53 #[.pointer (some ⟨b, 0, none⟩), .int .i64 i] w fun e w' => e = .returned (.int .i64 1) ∧ w = w' := by
  have hc0 := h.cells.1
  have hn := h.fit.1
  have hi' : i < 0 ∨ (0 ≤ i ∧ (s.ws.length : Int) ≤ i) := by
    unfold StoreS.inR at hi; omega
  clear h hi
  rcases hi' with h1 | ⟨h1, h2⟩
  · go_enter Tryz.func53, Tryz.ntmps53
    go_wp2
    go_ret
    exact ⟨rfl, rfl⟩
  · go_enter Tryz.func53, Tryz.ntmps53
    go_wp2
    go_ret
    exact ⟨rfl, rfl⟩

/-- The blocks of a store. -/
def SB (b m : Nat) : Nat → Prop := fun j => j = b ∨ j = m
theorem Only.thenSB {S : Nat → Prop} {a b c : World} {x y : Nat} (h : Only S a b) (k : Only (SB x y) b c) (hx : a.heap.size ≤ x) (hy : a.heap.size ≤ y) : Only S a c :=
  h.andThen k (fun i hi hT => by rcases hT with rfl | rfl <;> omega)

set_option maxHeartbeats 1000000 in
theorem load_in (b m : Nat) (i : Int) (s : StoreS) (w : World) (h : IsStore w b m s) (hi : s.inR i) :
    Calls Tryz.prog 85 #[.pointer (some ⟨b, 0, none⟩), .int .i64 i] w fun e w' => e = .returned (.tuple #[.int .u64 (s.word i), .int .i64 0]) ∧ IsStore w' b m (s.acc 1 i (s.word i)) ∧ Only (SB b m) w w' := by
  have hc0 := h.cells.1
  have hx := h.wordCell hi
  have hn := h.fit.1
  have hw := StoreS.word_bd h.fit i
  have hi' := hi
  obtain ⟨hi0, hi1⟩ := hi'
  go_enter Tryz.func85, Tryz.ntmps85
  go_wp2_with (first
    | (go_at_call 53; refine (check_in b m _ s _ h hi).mono ?_; rintro e w' ⟨rfl, rfl⟩)
    | (go_at_call 100; refine (access_any b m _ _ _ s _ h hi hw.1 hw.2).mono ?_; rintro e w' ⟨rfl, hs, ho⟩))
  go_ret2
  exact ⟨rfl, by assumption, by assumption⟩
set_option maxHeartbeats 400000 in
theorem load_out (b m : Nat) (i : Int) (s : StoreS) (w : World) (h : IsStore w b m s) (hi : ¬ s.inR i) :
    Calls Tryz.prog 85 #[.pointer (some ⟨b, 0, none⟩), .int .i64 i] w fun e w' => e = .returned (.tuple #[.int .u64 0, .int .i64 1]) ∧ w = w' := by
  go_enter Tryz.func85, Tryz.ntmps85
  go_wp2_with (go_at_call 53; refine (check_out b m _ s _ h hi).mono ?_; rintro e w' ⟨rfl, rfl⟩)
  go_ret2
  exact ⟨rfl, rfl⟩
set_option maxHeartbeats 400000 in
theorem load_nil (i : Int) (w : World) :
    Calls Tryz.prog 85 #[.pointer none, .int .i64 i] w fun e w' => e = .returned (.tuple #[.int .u64 0, .int .i64 2]) ∧ w = w' := by
  go_enter Tryz.func85, Tryz.ntmps85
  go_wp2_with (go_at_call 53; refine (check_nil _ _).mono ?_; rintro e w' ⟨rfl, rfl⟩)
  go_ret2
  exact ⟨rfl, rfl⟩
set_option maxHeartbeats 1000000 in
theorem put_in (b m : Nat) (i v : Int) (s : StoreS) (w : World) (h : IsStore w b m s) (hi : s.inR i) (hv0 : 0 ≤ v) (hv1 : v < 18446744073709551616) :
    Calls Tryz.prog 102 #[.pointer (some ⟨b, 0, none⟩), .int .i64 i, .int .u64 v] w fun e w' => e = .returned (.int .i64 0) ∧ IsStore w' b m (s.acc 2 i v) ∧ Only (SB b m) w w' := by
  go_enter Tryz.func102, Tryz.ntmps102
  go_wp2_with (first
    | (go_at_call 53; refine (check_in b m _ s _ h hi).mono ?_; rintro e w' ⟨rfl, rfl⟩)
    | (go_at_call 100; refine (access_any b m _ _ _ s _ h hi hv0 hv1).mono ?_; rintro e w' ⟨rfl, hs, ho⟩))
  go_ret
  exact ⟨rfl, by assumption, by assumption⟩
set_option maxHeartbeats 400000 in
theorem put_out (b m : Nat) (i v : Int) (s : StoreS) (w : World) (h : IsStore w b m s) (hi : ¬ s.inR i) :
    Calls Tryz.prog 102 #[.pointer (some ⟨b, 0, none⟩), .int .i64 i, .int .u64 v] w fun e w' => e = .returned (.int .i64 1) ∧ w = w' := by
  go_enter Tryz.func102, Tryz.ntmps102
  go_wp2_with (go_at_call 53; refine (check_out b m _ s _ h hi).mono ?_; rintro e w' ⟨rfl, rfl⟩)
  go_ret
  exact ⟨rfl, rfl⟩
set_option maxHeartbeats 400000 in
theorem put_nil (i v : Int) (w : World) :
    Calls Tryz.prog 102 #[.pointer none, .int .i64 i, .int .u64 v] w fun e w' => e = .returned (.int .i64 2) ∧ w = w' := by
  go_enter Tryz.func102, Tryz.ntmps102
  go_wp2_with (go_at_call 53; refine (check_nil _ _).mono ?_; rintro e w' ⟨rfl, rfl⟩)
  go_ret
  exact ⟨rfl, rfl⟩
set_option maxHeartbeats 1000000 in
theorem cas_win (b m : Nat) (i o v : Int) (s : StoreS) (w : World) (h : IsStore w b m s) (hi : s.inR i) (hne : (s.word i != o) = false) (hv0 : 0 ≤ v) (hv1 : v < 18446744073709551616) :
    Calls Tryz.prog 105 #[.pointer (some ⟨b, 0, none⟩), .int .i64 i, .int .u64 o, .int .u64 v] w fun e w' => e = .returned (.tuple #[.int .u64 (s.word i), .int .i64 0]) ∧ IsStore w' b m (s.acc 3 i v) ∧ Only (SB b m) w w' := by
  have hc0 := h.cells.1
  have hx := h.wordCell hi
  have hn := h.fit.1
  have hi' := hi
  obtain ⟨hi0, hi1⟩ := hi'
  go_enter Tryz.func105, Tryz.ntmps105
  go_wp2_with (first
    | (go_at_call 53; refine (check_in b m _ s _ h hi).mono ?_; rintro e w' ⟨rfl, rfl⟩)
    | (go_at_call 100; refine (access_any b m _ _ _ s _ h hi hv0 hv1).mono ?_; rintro e w' ⟨rfl, hs, ho⟩))
  go_ret2
  exact ⟨rfl, by assumption, by assumption⟩
set_option maxHeartbeats 1000000 in
theorem cas_lost (b m : Nat) (i o v : Int) (s : StoreS) (w : World) (h : IsStore w b m s) (hi : s.inR i) (hne : (s.word i != o) = true) :
    Calls Tryz.prog 105 #[.pointer (some ⟨b, 0, none⟩), .int .i64 i, .int .u64 o, .int .u64 v] w fun e w' => e = .returned (.tuple #[.int .u64 (s.word i), .int .i64 5]) ∧ IsStore w' b m (s.acc 4 i (s.word i)) ∧ Only (SB b m) w w' := by
  have hc0 := h.cells.1
  have hx := h.wordCell hi
  have hn := h.fit.1
  have hw := StoreS.word_bd h.fit i
  have hi' := hi
  obtain ⟨hi0, hi1⟩ := hi'
  go_enter Tryz.func105, Tryz.ntmps105
  go_wp2_with (first
    | (go_at_call 53; refine (check_in b m _ s _ h hi).mono ?_; rintro e w' ⟨rfl, rfl⟩)
    | (go_at_call 100; refine (access_any b m _ _ _ s _ h hi hw.1 hw.2).mono ?_; rintro e w' ⟨rfl, hs, ho⟩))
  go_ret2
  exact ⟨rfl, by assumption, by assumption⟩
set_option maxHeartbeats 400000 in
theorem cas_out (b m : Nat) (i o v : Int) (s : StoreS) (w : World) (h : IsStore w b m s) (hi : ¬ s.inR i) :
    Calls Tryz.prog 105 #[.pointer (some ⟨b, 0, none⟩), .int .i64 i, .int .u64 o, .int .u64 v] w fun e w' => e = .returned (.tuple #[.int .u64 0, .int .i64 1]) ∧ w = w' := by
  go_enter Tryz.func105, Tryz.ntmps105
  go_wp2_with (go_at_call 53; refine (check_out b m _ s _ h hi).mono ?_; rintro e w' ⟨rfl, rfl⟩)
  go_ret2
  exact ⟨rfl, rfl⟩
set_option maxHeartbeats 400000 in
theorem cas_nil (i o v : Int) (w : World) :
    Calls Tryz.prog 105 #[.pointer none, .int .i64 i, .int .u64 o, .int .u64 v] w fun e w' => e = .returned (.tuple #[.int .u64 0, .int .i64 2]) ∧ w = w' := by
  go_enter Tryz.func105, Tryz.ntmps105
  go_wp2_with (go_at_call 53; refine (check_nil _ _).mono ?_; rintro e w' ⟨rfl, rfl⟩)
  go_ret2
  exact ⟨rfl, rfl⟩
theorem infoU64 : (Tryz.prog.info? 48).map (fun i => (i.zero, i.size, i.bytes)) = some (some (.int .u64 0), 1, 8) := by kernel_rfl

theorem madeCells_u64 (n : Nat) : madeCells #[Value.int .u64 0] n = ((List.replicate n (0 : Int)).map (Value.int .u64)).toArray := by
  apply Array.ext'
  rw [toList_madeCells_one]
  simp

def StoreS.fresh (n : Nat) : StoreS := ⟨List.replicate n 0, 0, 0, 0, 0, 0⟩
theorem StoreS.fresh_inR {n i : Int} (h0 : 0 ≤ i) (h1 : i < n) : (StoreS.fresh n.toNat).inR i := by
  refine ⟨h0, ?_⟩
  simp only [fresh, List.length_replicate]
  omega
theorem StoreS.fresh_fit {n : Nat} (h : n ≤ 65536) : (StoreS.fresh n).fit :=
  ⟨by simpa [fresh] using h, fun x hx => by
    have : x = 0 := (List.mem_replicate.1 hx).2
    omega⟩

set_option maxRecDepth 100000 in
set_option maxHeartbeats 400000 in
theorem storeNew_ok (n' : Int) (w : World) (h1' : 1 ≤ n') (h2' : n' ≤ 65536) :
    Calls Tryz.prog 79 #[.int .i64 n'] w fun e w' => e = .returned (.pointer (some ⟨w.heap.size + 1, 0, none⟩)) ∧ IsStore w' (w.heap.size + 1) w.heap.size (StoreS.fresh n'.toNat) ∧ Only (fun _ => False) w w' ∧ w'.heap.size = w.heap.size + 2 := by
  obtain ⟨n, rfl⟩ := Int.eq_ofNat_of_zero_le (show 0 ≤ n' by omega)
  rw [Int.toNat_natCast]
  have h1 : 1 ≤ n := by omega
  have h2 : n ≤ 65536 := by omega
  clear h1' h2'
  obtain ⟨i0, hi, hz0, hz1, hz2⟩ := info_parts infoU64
  have hmk := fun W => run_make (P := Tryz.prog) W 87 48 i0 (.int .u64 0) Tryz.underlying87 hi hz0 .i64 .i64 (n : Int) (n : Int) (by omega) (by omega) (by rw [hz2]; omega) (by omega)
  simp only [Int.toNat_natCast, hz1] at hmk
  go_enter Tryz.func79, Tryz.ntmps79
  go_wp2
  go_ret
  refine ⟨rfl, ⟨?_, ?_, by omega, StoreS.fresh_fit h2⟩, ((Only.refl _ _).alloc _).alloc _, by simp⟩
  · have := Blk.new (w.alloc (.cells (madeCells #[Value.int .u64 0] n) 48)) ((StoreS.fresh n).arr w.heap.size) 118
    rw [World.size_alloc] at this
    simpa [StoreS.arr, StoreS.fresh] using this
  · have := (Blk.new w (madeCells #[Value.int .u64 0] n) 48).alloc (.cells ((StoreS.fresh n).arr w.heap.size) 118)
    rw [madeCells_u64] at this ⊢
    simpa [StoreS.arr, StoreS.fresh] using this
set_option maxHeartbeats 400000 in
theorem storeNew_no (n : Int) (w : World) (h : n < 1 ∨ 65536 < n) :
    Calls Tryz.prog 79 #[.int .i64 n] w fun e w' => e = .returned (.pointer none) ∧ w = w' := by
  rcases h with h | h
  · go_enter Tryz.func79, Tryz.ntmps79
    go_wp2
    go_ret
    exact ⟨rfl, rfl⟩
  · have h' : 1 ≤ n := by omega
    go_enter Tryz.func79, Tryz.ntmps79
    go_wp2
    go_ret
    exact ⟨rfl, rfl⟩
set_option maxHeartbeats 400000 in
theorem last_any (b m : Nat) (s : StoreS) (w : World) (h : IsStore w b m s) :
    Calls Tryz.prog 86 #[.pointer (some ⟨b, 0, none⟩)] w fun e w' => e = .returned (.agg #[.int .i64 s.k, .int .i64 s.pos, .int .u64 s.old, .int .u64 s.new]) ∧ Only (fun _ => False) w w' := by
  obtain ⟨hc0, hc1, hc2, hc3, hc4, hc5⟩ := h.cells
  have hlt := h.head.lt
  go_enter Tryz.func86, Tryz.ntmps86
  go_wp2
  exact bodyPost_ret (v := .agg #[.int .i64 s.k, .int .i64 s.pos, .int .u64 s.old, .int .u64 s.new]) (by simp [results, Tryz.results86, go_sem]) rfl ⟨rfl, (Only.refl _ _).alloc _⟩
set_option maxHeartbeats 400000 in
theorem last_nil (w : World) :
    Calls Tryz.prog 86 #[.pointer none] w fun e w' => e = .returned (.agg #[.int .i64 0, .int .i64 0, .int .u64 0, .int .u64 0]) ∧ Only (fun _ => False) w w' := by
  go_enter Tryz.func86, Tryz.ntmps86
  go_wp2
  exact bodyPost_ret (v := .agg #[.int .i64 0, .int .i64 0, .int .u64 0, .int .u64 0]) (by simp [results, Tryz.results86, go_sem]) rfl ⟨rfl, (Only.refl _ _).alloc _⟩
set_option maxHeartbeats 400000 in
theorem peek_in (b m : Nat) (i : Int) (s : StoreS) (w : World) (h : IsStore w b m s) (hi : s.inR i) :
    Calls Tryz.prog 33 #[.pointer (some ⟨b, 0, none⟩), .int .i64 i] w fun e w' => e = .returned (.int .u64 (s.word i)) ∧ w = w' := by
  have hc0 := h.cells.1
  have hx := h.wordCell hi
  have hn := h.fit.1
  have hi' := hi
  obtain ⟨hi0, hi1⟩ := hi'
  go_enter Tryz.func33, Tryz.ntmps33
  go_wp2_with (go_at_call 53; refine (check_in b m _ s _ h hi).mono ?_; rintro e w' ⟨rfl, rfl⟩)
  go_ret
  exact ⟨rfl, rfl⟩
set_option maxHeartbeats 400000 in
theorem peek_out (b m : Nat) (i : Int) (s : StoreS) (w : World) (h : IsStore w b m s) (hi : ¬ s.inR i) :
    Calls Tryz.prog 33 #[.pointer (some ⟨b, 0, none⟩), .int .i64 i] w fun e w' => e = .returned (.int .u64 0) ∧ w = w' := by
  go_enter Tryz.func33, Tryz.ntmps33
  go_wp2_with (go_at_call 53; refine (check_out b m _ s _ h hi).mono ?_; rintro e w' ⟨rfl, rfl⟩)
  go_ret
  exact ⟨rfl, rfl⟩
set_option maxHeartbeats 400000 in
theorem peek_nil (i : Int) (w : World) :
    Calls Tryz.prog 33 #[.pointer none, .int .i64 i] w fun e w' => e = .returned (.int .u64 0) ∧ w = w' := by
  go_enter Tryz.func33, Tryz.ntmps33
  go_wp2_with (go_at_call 53; refine (check_nil _ _).mono ?_; rintro e w' ⟨rfl, rfl⟩)
  go_ret
  exact ⟨rfl, rfl⟩
set_option maxHeartbeats 400000 in
theorem cloneU64_any (m n c : Nat) (xs : List Value) (w : World) (hx : xs.length = n * 1) (hn : n ≤ 65536) (hc : ∀ j u, xs[j]? = some u → w.cell? ((⟨m, 0, none⟩ : Addr).add j) = some u) (hm : m < w.heap.size) (h1 : ∀ u ∈ xs, u.oneCell' = true) :
    Calls Tryz.prog 57 #[.slice (some ⟨m, 0, none⟩) n c] w fun e w' => ∃ v, e = .returned v ∧ w'.ownsRow w.heap.size 48 1 v n xs ∧ Only (fun _ => False) w w' := by
  have he := fun W => Lib.run_eql_slice_nil (P := Tryz.prog) W 87 48 (some ⟨m, 0, none⟩) n c 0 0 Tryz.underlying87
  obtain ⟨i0, hi, hz0, hz1, hz2⟩ := info_parts infoU64
  have hown := World.ownsRow_made (base := w.heap.size) (e := 48) (size := 1) w #[] 0 (Nat.le_refl _) (by unfold maxLen; omega) rfl
  have hc' : ∀ j u, xs[j]? = some u → (w.alloc (Obj.cells #[] 48)).cell? ((⟨m, 0, none⟩ : Addr).add j) = some u := fun j u hj => by
    rw [World.cell?_alloc_lt _ _ _ (by unfold Addr.add; split <;> exact hm)]; exact hc j u hj
  have HC := Lib.hid hc'
  have HX := Lib.hid hx
  clear hc hc' hx
  go_enter Tryz.func57, Tryz.ntmps57
  go_wp2_with (at_builtin; refine wpList_append_own _ rfl _ _ 87 rfl w.heap.size 48 i0 (.int .u64 0) 1 8 Tryz.underlying87 hi hz0 hz1 hz2 rfl (by decide) _ _ _ rfl hown ⟨m, 0, none⟩ n c xs rfl HX.out HC.out h1 (by unfold maxLen; omega) (by omega) (by simp) ?_; intro v' w1 hown' hgrow _)
  simp only [Nat.zero_add, List.nil_append] at hown'
  go_ret
  have hb := ((Below.refl w.heap.size w).alloc (Nat.le_refl _) (Obj.cells #[] 48)).grown hgrow (by simp) (fun k hk => by cases hk; exact Nat.le_refl _)
  exact ⟨_, rfl, hown', ⟨hb.os, hb.tape, hb.output, hb.size, fun k hk _ => hb.block k hk⟩⟩
theorem row_cells {w : World} {b m : Nat} {s : StoreS} (h : IsStore w b m s) : ∀ j u, (s.ws.map (Value.int .u64))[j]? = some u → w.cell? ((⟨m, 0, none⟩ : Addr).add j) = some u := by
  intro j u hj
  have : (⟨m, 0, none⟩ : Addr).add j = ⟨m, j, none⟩ := by unfold Addr.add; split <;> simp_all
  rw [this, h.row.cell]
  simpa using hj
set_option maxHeartbeats 400000 in
theorem words_any (b m : Nat) (s : StoreS) (w : World) (h : IsStore w b m s) :
    Calls Tryz.prog 37 #[.pointer (some ⟨b, 0, none⟩)] w fun e w' => ∃ v, e = .returned v ∧ w'.ownsRow w.heap.size 48 1 v s.ws.length (s.ws.map (Value.int .u64)) ∧ Only (fun _ => False) w w' := by
  obtain ⟨hc0, hc1, hc2, hc3, hc4, hc5⟩ := h.cells
  have hn := h.fit.1
  go_enter Tryz.func37, Tryz.ntmps37
  go_wp2_with (go_at_call 57; refine (cloneU64_any m _ _ (s.ws.map (Value.int .u64)) _ (by simp) hn (row_cells h) h.row.lt (by intro u hu; obtain ⟨x, _, rfl⟩ := List.mem_map.1 hu; rfl)).mono ?_; rintro e w' ⟨v, rfl, ho, hb⟩)
  go_ret
  exact ⟨_, rfl, by assumption, by assumption⟩
set_option maxHeartbeats 400000 in
theorem words_nil (w : World) : Calls Tryz.prog 37 #[.pointer none] w fun e w' => e = .returned (.slice none 0 0) ∧ w = w' := by
  go_enter Tryz.func37, Tryz.ntmps37
  go_wp2
  go_ret
  exact ⟨rfl, rfl⟩
/-- A store of noughts, but one word. -/
def StoreS.begun (n : Nat) (at_ : Nat) (v : Int) : StoreS := ⟨(StoreS.fresh n).ws.set at_ v, 0, 0, 0, 0, 0⟩
theorem StoreS.begun_fit {n at_ : Nat} {v : Int} (h : n ≤ 65536) (h0 : 0 ≤ v) (h1 : v < 18446744073709551616) : (StoreS.begun n at_ v).fit := by
  refine ⟨by simpa [StoreS.begun, StoreS.fresh] using h, fun x hx => ?_⟩
  rcases List.mem_or_eq_of_mem_set hx with hx | rfl
  · exact (StoreS.fresh_fit h).2 x hx
  · exact ⟨h0, h1⟩
set_option maxHeartbeats 1000000 in
theorem begun_ok (n : Int) (at_ : Nat) (v : Int) (w : World) (h1 : 1 ≤ n) (h2 : n ≤ 65536) (ha : (at_ : Int) < n) (h0 : 0 ≤ v) (hv : v < 18446744073709551616) :
    Calls Tryz.prog 59 #[.int .i64 n, .int .i64 at_, .int .u64 v] w fun e w' => e = .returned (.pointer (some ⟨w.heap.size + 1, 0, none⟩)) ∧ IsStore w' (w.heap.size + 1) w.heap.size (StoreS.begun n.toNat at_ v) ∧ Only (fun _ => False) w w' ∧ w'.heap.size = w.heap.size + 2 := by
  go_enter Tryz.func59, Tryz.ntmps59
  go_wp2_with fail
  refine (storeNew_ok n _ h1 h2).mono ?_; rintro e w1 ⟨rfl, hs, ho, hz⟩
  have hi : (StoreS.fresh n.toNat).inR at_ := StoreS.fresh_inR (by omega) (by omega)
  have hc := check_in _ _ at_ _ w1 hs hi
  have hc0 := hs.cells.1
  have hx := hs.wordCell hi
  have hf := hs.row.frozen at_
  rw [Int.toNat_natCast] at hx
  have hl : (StoreS.fresh n.toNat).ws.length = n.toNat := by simp [StoreS.fresh]
  rw [hl] at hc0
  have ht : at_ < n.toNat := by omega
  have HS := Lib.hid hs; have HO := Lib.hid ho; have HZ := Lib.hid hz
  clear hs ho hz hl
  go_wp2_with (go_at_call 53; refine hc.mono ?_; rintro e w2 ⟨rfl, rfl⟩)
  go_ret
  have hne := HS.out.ne
  refine ⟨rfl, ⟨?_, ?_, hne, StoreS.begun_fit (by omega) h0 hv⟩, HO.out.setCell (.inr (Nat.le_refl _)) _, by simpa [World.setCell] using HZ.out⟩
  · have h9 := HS.out.head.setCell_other hne at_ (.int .u64 v)
    simpa [StoreS.arr, StoreS.begun, StoreS.fresh] using h9
  · have h9 := HS.out.row.setCell at_ (.int .u64 v)
    simpa [StoreS.begun] using h9
end Go.Proofs.YthhnpcniijpfeaaGreat

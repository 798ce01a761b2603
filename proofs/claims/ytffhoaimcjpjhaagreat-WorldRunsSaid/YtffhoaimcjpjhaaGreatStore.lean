/- Package store: what each call does to a store in memory, for every argument. By an AI agent. -/
import Derived.Test.YtffhoaimcjpjhaaGreatMem
namespace Go.Proofs.YtffhoaimcjpjhaaGreat
open Go.RowKit

/-- A store: its words, the last access, how many there were. -/
structure StoreS where
  ws : List Int
  k : Int
  pos : Int
  old : Int
  new : Int
  many : Int

namespace StoreS
def arr (s : StoreS) (m : Nat) : Array Value := #[.slice (some ⟨m, 0, none⟩) s.ws.length s.ws.length, .int .i64 s.k, .int .i64 s.pos, .int .u64 s.old, .int .u64 s.new, .int .i64 s.many]
def inR (s : StoreS) (i : Int) : Prop := 0 ≤ i ∧ i < s.ws.length
instance (s : StoreS) (i : Int) : Decidable (s.inR i) := inferInstanceAs (Decidable (_ ∧ _))
def word (s : StoreS) (i : Int) : Int := s.ws.getD i.toNat 0
def acc (s : StoreS) (k i v : Int) : StoreS := ⟨s.ws.set i.toNat v, k, i, s.word i, v, wrap64 (s.many + 1)⟩
/-- Each word fits; there are no more than may be. -/
def fit (s : StoreS) : Prop := s.ws.length ≤ 65536 ∧ ∀ x ∈ s.ws, 0 ≤ x ∧ x < 18446744073709551616
theorem word_bd {s : StoreS} (h : s.fit) (i : Int) : 0 ≤ s.word i ∧ s.word i < 18446744073709551616 := by
  unfold word
  rcases Nat.lt_or_ge i.toNat s.ws.length with hi | hi
  · have : s.ws.getD i.toNat 0 ∈ s.ws := by rw [List.getD_eq_getElem?_getD, List.getElem?_eq_getElem hi]; exact List.getElem_mem hi
    exact h.2 _ this
  · rw [List.getD_eq_getElem?_getD, List.getElem?_eq_none hi]; simp
theorem acc_fit {s : StoreS} (h : s.fit) (k i : Int) {v : Int} (h0 : 0 ≤ v) (h1 : v < 18446744073709551616) : (s.acc k i v).fit := by
  refine ⟨by simpa [acc] using h.1, fun x hx => ?_⟩
  rcases List.mem_or_eq_of_mem_set hx with hx | rfl
  · exact h.2 x hx
  · exact ⟨h0, h1⟩
theorem acc_inR {s : StoreS} {j : Int} (h : s.inR j) (k i v : Int) : (s.acc k i v).inR j := by
  obtain ⟨a, b⟩ := h; exact ⟨a, by simpa [acc] using b⟩
theorem acc_word {s : StoreS} {i : Int} (h : s.inR i) (k v : Int) : (s.acc k i v).word i = v := by
  obtain ⟨a, b⟩ := h
  have : i.toNat < s.ws.length := by omega
  simp [word, acc, this]
theorem acc_word_other {s : StoreS} {i j : Int} (hi : 0 ≤ i) (hj : 0 ≤ j) (h : j ≠ i) (k v : Int) : (s.acc k i v).word j = s.word j := by
  have : i.toNat ≠ j.toNat := by omega
  simp [word, acc, this]
end StoreS

/-- Block b is a store s, block m its words. -/
structure IsStore (w : World) (b m : Nat) (s : StoreS) : Prop where
  head : Blk w b (s.arr m) 186
  row : Blk w m (s.ws.map (Value.int .u64)).toArray 33
  ne : b ≠ m
  fit : s.fit

theorem IsStore.only {S : Nat → Prop} {w w' : World} {b m : Nat} {s : StoreS} (h : IsStore w b m s) (ho : Only S w w') (hb : ¬ S b) (hm : ¬ S m) : IsStore w' b m s :=
  ⟨h.head.only ho hb, h.row.only ho hm, h.ne, h.fit⟩
theorem IsStore.drewN {w : World} {b m : Nat} {s : StoreS} (h : IsStore w b m s) (n : Nat) : IsStore (w.drewN n) b m s := ⟨h.head, h.row, h.ne, h.fit⟩
theorem IsStore.alloc {w : World} {b m : Nat} {s : StoreS} (h : IsStore w b m s) (o : Obj) : IsStore (w.alloc o) b m s := ⟨h.head.alloc o, h.row.alloc o, h.ne, h.fit⟩
theorem IsStore.cells {w : World} {b m : Nat} {s : StoreS} (h : IsStore w b m s) :
    w.cell? ⟨b, 0, none⟩ = some (.slice (some ⟨m, 0, none⟩) s.ws.length s.ws.length) ∧ w.cell? ⟨b, 1, none⟩ = some (.int .i64 s.k) ∧ w.cell? ⟨b, 2, none⟩ = some (.int .i64 s.pos) ∧
    w.cell? ⟨b, 3, none⟩ = some (.int .u64 s.old) ∧ w.cell? ⟨b, 4, none⟩ = some (.int .u64 s.new) ∧ w.cell? ⟨b, 5, none⟩ = some (.int .i64 s.many) :=
  ⟨h.head.cell 0, h.head.cell 1, h.head.cell 2, h.head.cell 3, h.head.cell 4, h.head.cell 5⟩
theorem IsStore.wordCell {w : World} {b m : Nat} {s : StoreS} (h : IsStore w b m s) {i : Int} (hi : s.inR i) : w.cell? ⟨m, i.toNat, none⟩ = some (.int .u64 (s.word i)) := by
  rw [h.row.cell]
  obtain ⟨h0, h1⟩ := hi
  have hlt : i.toNat < s.ws.length := by omega
  simp [StoreS.word, List.getElem?_eq_getElem hlt]

/-- What an access does to the two blocks. -/
theorem IsStore.accessed {w : World} {b m : Nat} {s : StoreS} (h : IsStore w b m s) {k i v : Int} (hv0 : 0 ≤ v) (hv1 : v < 18446744073709551616) :
    IsStore ((((((w.setCell ⟨m, i.toNat, none⟩ (.int .u64 v)).setCell ⟨b, 1, none⟩ (.int .i64 k)).setCell ⟨b, 2, none⟩ (.int .i64 i)).setCell ⟨b, 3, none⟩ (.int .u64 (s.word i))).setCell ⟨b, 4, none⟩ (.int .u64 v)).setCell ⟨b, 5, none⟩ (.int .i64 (wrap64 (s.many + 1)))) b m (s.acc k i v) := by
  have hbm := h.ne
  have h1 := (((((h.head.setCell_other hbm i.toNat (.int .u64 v)).setCell 1 (.int .i64 k)).setCell 2 (.int .i64 i)).setCell 3 (.int .u64 (s.word i))).setCell 4 (.int .u64 v)).setCell 5 (.int .i64 (wrap64 (s.many + 1)))
  have h2 := (((((h.row.setCell i.toNat (.int .u64 v)).setCell_other hbm.symm 1 (.int .i64 k)).setCell_other hbm.symm 2 (.int .i64 i)).setCell_other hbm.symm 3 (.int .u64 (s.word i))).setCell_other hbm.symm 4 (.int .u64 v)).setCell_other hbm.symm 5 (.int .i64 (wrap64 (s.many + 1)))
  refine ⟨?_, ?_, hbm, StoreS.acc_fit h.fit k i hv0 hv1⟩
  · have e : (s.acc k i v).arr m = (((((s.arr m).setIfInBounds 1 (.int .i64 k)).setIfInBounds 2 (.int .i64 i)).setIfInBounds 3 (.int .u64 (s.word i))).setIfInBounds 4 (.int .u64 v)).setIfInBounds 5 (.int .i64 (wrap64 (s.many + 1))) := by
      simp [StoreS.arr, StoreS.acc]
    rw [e]; exact h1
  · have e : ((s.acc k i v).ws.map (Value.int .u64)).toArray = (s.ws.map (Value.int .u64)).toArray.setIfInBounds i.toNat (.int .u64 v) := by
      simp [StoreS.acc]
    rw [e]; exact h2

theorem only_access (w : World) (b m : Nat) (i : Nat) (v1 v2 v3 v4 v5 v6 : Value) :
    Only (fun j => j = b ∨ j = m) w ((((((w.setCell ⟨m, i, none⟩ v1).setCell ⟨b, 1, none⟩ v2).setCell ⟨b, 2, none⟩ v3).setCell ⟨b, 3, none⟩ v4).setCell ⟨b, 4, none⟩ v5).setCell ⟨b, 5, none⟩ v6) :=
  ((((((Only.refl _ w).setCell (.inl (.inr rfl)) _).setCell (.inl (.inl rfl)) _).setCell (.inl (.inl rfl)) _).setCell (.inl (.inl rfl)) _).setCell (.inl (.inl rfl)) _).setCell (.inl (.inl rfl)) _

set_option maxHeartbeats 1000000 in
theorem access_any (b m : Nat) (k i v : Int) (s : StoreS) (w : World) (h : IsStore w b m s) (hi : s.inR i) (hv0 : 0 ≤ v) (hv1 : v < 18446744073709551616) :
    Calls Tryz.prog 101 #[.pointer (some ⟨b, 0, none⟩), .int .i64 k, .int .i64 i, .int .u64 v] w fun e w' => e = .returned (.int .u64 (s.word i)) ∧ IsStore w' b m (s.acc k i v) ∧ Only (fun j => j = b ∨ j = m) w w' := by
  have hfin := Lib.hid (h.accessed (k := k) (i := i) hv0 hv1)
  obtain ⟨hc0, hc1, hc2, hc3, hc4, hc5⟩ := h.cells
  have hx := h.wordCell hi
  have f1 := h.head.frozen 1
  have f2 := h.head.frozen 2
  have f3 := h.head.frozen 3
  have f4 := h.head.frozen 4
  have f5 := h.head.frozen 5
  have fm := h.row.frozen i.toNat
  have hbm := h.ne
  have hbm' : m ≠ b := hbm.symm
  have hn := h.fit.1
  obtain ⟨hi0, hi1⟩ := hi
  clear h
  go_enter Tryz.func101, Tryz.ntmps101
  go_wp2
  go_ret
  exact ⟨rfl, hfin.out, only_access _ _ _ _ _ _ _ _ _ _⟩

set_option maxHeartbeats 400000 in
theorem check_nil (i : Int) (w : World) : Calls Tryz.prog 100 #[.pointer none, .int .i64 i] w fun e w' => e = .returned (.int .i64 2) ∧ w = w' := by
  go_enter Tryz.func100, Tryz.ntmps100
  go_wp2
  go_ret
  exact ⟨rfl, rfl⟩
set_option maxHeartbeats 400000 in
theorem check_in (b m : Nat) (i : Int) (s : StoreS) (w : World) (h : IsStore w b m s) (hi : s.inR i) :
    Calls Tryz.prog 100 #[.pointer (some ⟨b, 0, none⟩), .int .i64 i] w fun e w' => e = .returned (.int .i64 0) ∧ w = w' := by
  have hc0 := h.cells.1
  have hn := h.fit.1
  obtain ⟨hi0, hi1⟩ := hi
  clear h
  go_enter Tryz.func100, Tryz.ntmps100
  go_wp2
  go_ret
  exact ⟨rfl, rfl⟩
set_option maxHeartbeats 400000 in
theorem check_out (b m : Nat) (i : Int) (s : StoreS) (w : World) (h : IsStore w b m s) (hi : ¬ s.inR i) :
    Calls Tryz.prog 100 #[.pointer (some ⟨b, 0, none⟩), .int .i64 i] w fun e w' => e = .returned (.int .i64 1) ∧ w = w' := by
  have hc0 := h.cells.1
  have hn := h.fit.1
  have hi' : i < 0 ∨ (0 ≤ i ∧ (s.ws.length : Int) ≤ i) := by
    unfold StoreS.inR at hi; omega
  clear h hi
  rcases hi' with h1 | ⟨h1, h2⟩
  · go_enter Tryz.func100, Tryz.ntmps100
    go_wp2
    go_ret
    exact ⟨rfl, rfl⟩
  · go_enter Tryz.func100, Tryz.ntmps100
    go_wp2
    go_ret
    exact ⟨rfl, rfl⟩
end Go.Proofs.YtffhoaimcjpjhaaGreat

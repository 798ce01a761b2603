/- Package runs: free runs in memory: what they are, at whatever state; place. By an AI agent. -/
import Derived.Test.YtbijbpnhakbeeaaRunList
import Derived.Test.YtbijbpnhakbeeaaTreeWalk2
import Derived.Test.YtbijbpnhakbeeaaTreapDropR
import Derived.Test.YtbijbpnhakbeeaaTreeCeil
import Derived.Test.YtbijbpnhakbeeaaRunDelete
namespace Go.Proofs.Ytbijbpnhakbeeaa
open Go.RowKit

theorem shCells_append (a b : List (Int × Int)) : shCells (a ++ b) = shCells a ++ shCells b := by
  induction a with
  | nil => rfl
  | cons x r ih => simp [shCells, ih]
theorem shCells_len (xs : List (Int × Int)) : (shCells xs).length = xs.length * 2 := by
  induction xs with
  | nil => rfl
  | cons x r ih => simp [shCells, ih]; omega
theorem shCells_take (xs : List (Int × Int)) : ∀ i, (shCells xs).take (i * 2) = shCells (xs.take i) := by
  induction xs with
  | nil => intro i; simp [shCells]
  | cons x r ih =>
    intro i
    cases i with
    | zero => simp [shCells]
    | succ i => rw [show (i + 1) * 2 = i * 2 + 1 + 1 by omega]; simp [shCells, ih]
theorem shCells_drop (xs : List (Int × Int)) : ∀ i, (shCells xs).drop (i * 2) = shCells (xs.drop i) := by
  induction xs with
  | nil => intro i; simp [shCells]
  | cons x r ih =>
    intro i
    cases i with
    | zero => simp [shCells]
    | succ i => rw [show (i + 1) * 2 = i * 2 + 1 + 1 by omega]; simp [shCells, ih]
theorem shCells_one (xs : List (Int × Int)) : ∀ v ∈ shCells xs, v.oneCell' = true := by
  induction xs with
  | nil => intro v h; cases h
  | cons x r ih =>
    intro v hv
    simp only [shCells, List.mem_cons] at hv
    rcases hv with rfl | rfl | hv
    · rfl
    · rfl
    · exact ih v hv
theorem shCells_at (xs : List (Int × Int)) : ∀ (j : Nat) (x : Int × Int), xs[j]? = some x → (shCells xs)[j * 2]? = some (.int .i64 x.1) ∧ (shCells xs)[j * 2 + 1]? = some (.int .i64 x.2) := by
  induction xs with
  | nil => intro j x h; simp at h
  | cons y r ih =>
    intro j x h
    cases j with
    | zero => simp at h; subst h; simp [shCells]
    | succ j =>
      have := ih j x (by simpa using h)
      rw [show (j + 1) * 2 = j * 2 + 1 + 1 by omega]
      simpa [shCells] using this
theorem shCells_insL (x : Int × Int) (xs : List (Int × Int)) : (shCells xs).take (placeOf xs x.1 * 2) ++ [.int .i64 x.1, .int .i64 x.2] ++ (shCells xs).drop (placeOf xs x.1 * 2) = shCells (insL x xs) := by
  rw [shCells_take, shCells_drop, insL, shCells_append, List.append_assoc]; rfl
theorem shCells_delL (x : Int × Int) (xs : List (Int × Int)) : (shCells xs).take (placeOf xs (x.1 + x.2) * 2) ++ (shCells xs).drop ((placeOf xs (x.1 + x.2) + 1) * 2) = shCells (delL x xs) := by
  rw [shCells_take, shCells_drop, delL, shCells_append]

theorem row_only2 {S : Nat → Prop} {w w' : World} {base : Nat} {e : TypeId} {size : Nat} {v : Value} {n : Nat} {xs : List Value} (h : w.ownsRow base e size v n xs) (ho : Only S w w') (hs : ∀ g, some g = v.ownBlock → ¬ S g) : w'.ownsRow base e size v n xs := by
  refine ⟨h.1, ?_⟩
  rcases h.2 with hn | ⟨g, cap, cur, rfl, hb, hg, rest⟩
  · exact .inl hn
  · exact .inr ⟨g, cap, cur, rfl, hb, (ho.block g (Array.getElem?_eq_some_iff.1 hg).1 (hs g (by simp [Value.ownBlock]))).trans hg, rest⟩
theorem row_lt {w : World} {base : Nat} {e : TypeId} {size : Nat} {v : Value} {n : Nat} {xs : List Value} (h : w.ownsRow base e size v n xs) : ∀ g, some g = v.ownBlock → g < w.heap.size := by
  rcases h.2 with ⟨rfl, _⟩ | ⟨g, cap, cur, rfl, _, hg, _⟩
  · intro g e; simp [Value.ownBlock] at e
  · intro g' e
    obtain rfl : g' = g := by simpa [Value.ownBlock] using e
    exact (Array.getElem?_eq_some_iff.1 hg).1
/-- The cells of a row of runs. -/
theorem row_two {w : World} {base g cap : Nat} {n : Nat} {xs : List (Int × Int)} (h : w.ownsRow base 63 2 (.slice (some ⟨g, 0, none⟩) n cap) n (shCells xs)) : Row2 w g xs ∧ n = xs.length := by
  have hl : (shCells xs).length = n * 2 := h.1
  rw [shCells_len] at hl
  rcases h.2 with ⟨h0, _⟩ | ⟨g', cap', cur, h0, _, hg, hnc, _, hcs, hx⟩
  · cases h0
  · cases h0
    have hc : ∀ j v, (shCells xs)[j]? = some v → w.cell? ⟨g, j, none⟩ = some v := fun j v hj => by
      rw [← hx, List.getElem?_take] at hj
      split at hj
      · simpa [World.cell?, hg] using hj
      · cases hj
    exact ⟨fun j x hj => ⟨hc _ _ (shCells_at xs j x hj).1, hc _ _ (shCells_at xs j x hj).2⟩, by omega⟩
theorem row_shape {w : World} {base : Nat} {e : TypeId} {size : Nat} {v : Value} {n : Nat} {xs : List Value} (h : w.ownsRow base e size v n xs) : (v = .slice none 0 0 ∧ n = 0) ∨ ∃ g cap, v = .slice (some ⟨g, 0, none⟩) n cap := by
  rcases h.2 with h0 | ⟨g, cap, cur, hv, _⟩
  · exact .inl h0
  · exact .inr ⟨g, cap, hv⟩

theorem blk_not_row {W : World} {B : Nat} {c : Array Value} {t e : TypeId} (h : Blk W B c t) (hte : t ≠ e) {base size k : Nat} {v : Value} {xs : List Value} (hr : W.ownsRow base e size v k xs) : some B ≠ v.ownBlock := by
  rcases hr.2 with ⟨rfl, _⟩ | ⟨g, cap, cur, rfl, _, hgb, _⟩
  · simp [Value.ownBlock]
  · intro e'
    obtain rfl : B = g := by simpa [Value.ownBlock] using e'
    have := (show W.heap[B]? = _ from h).symm.trans hgb
    simp at this
    exact hte this.2
theorem tr_blk {T : TypeId} {w : World} : ∀ {t : Tr}, IsTr2 T w t → ∀ y, t.has y → ∃ c, Blk w y c T
  | .nil, _, _, h => h.elim
  | .node _ _ _ _ _ _, ⟨h1, h2, h3⟩, y, hy => by
    rcases hy with rfl | hy | hy
    · exact ⟨_, h1⟩
    · exact tr_blk h2 y hy
    · exact tr_blk h3 y hy
/-- Free runs: their blocks, how many pages, their draws, how many were taken, their tree, the list of them. -/
structure RS where
  rb : Nat
  tb : Nat
  P : Int
  dv : Value
  ds : List Int
  dn : Nat
  t : Tr
  lv : Value
  xs : List (Int × Int)
abbrev kOf (x : Int × Int) : Int := 8192 * x.2 + x.1
abbrev vOf (x : Int × Int) : Value := .agg #[.int .i64 x.1, .int .i64 x.2]
def RS.draw (s : RS) : Int := s.ds[s.dn]?.getD 0
/-- The blocks that a call may turn. -/
def RS.own (s : RS) (y : Nat) : Prop := y = s.rb ∨ TB s.tb s.t y ∨ some y = s.lv.ownBlock
/-- All its blocks. -/
def RS.all (s : RS) (y : Nat) : Prop := s.own y ∨ some y = s.dv.ownBlock
structure RS.Ok (s : RS) : Prop where
  P1 : 1 ≤ s.P
  P2 : s.P ≤ 4096
  list : RunsOk s.P s.xs
  tree : s.t.ok
  size : s.t.size = s.xs.length
  mem : ∀ e ∈ s.t.ins, ∃ x ∈ s.xs, e.1 = kOf x ∧ e.2.2 = vOf x
  have_ : ∀ x ∈ s.xs, ∃ e ∈ s.t.ins, e.1 = kOf x
structure IsRuns (w : World) (s : RS) : Prop where
  blk : Blk w s.rb #[.int .i64 s.P, s.dv, .int .i64 s.dn, .pointer (some ⟨s.tb, 0, none⟩), s.lv, .int .i64 (tot s.xs)] 98
  drs : w.ownsRow 0 113 1 s.dv s.ds.length (s.ds.map (.int .u32))
  tree : IsTreap2 125 122 w s.tb s.t s.t.size
  row : w.ownsRow 0 63 2 s.lv s.xs.length (shCells s.xs)
  nrt : s.rb ≠ s.tb
  nrh : ¬ s.t.has s.rb
  ok : s.Ok
section
variable {w w' : World} {s : RS}
theorem IsRuns.only {S : Nat → Prop} (h : IsRuns w s) (ho : Only S w w') (hs : ∀ y, s.all y → ¬ S y) : IsRuns w' s :=
  ⟨h.blk.only ho (hs _ (.inl (.inl rfl))), row_only2 h.drs ho (fun g e => hs g (.inr e)), h.tree.only ho (hs _ (.inl (.inr (.inl (.inl rfl))))) (fun x hx => hs x (.inl (.inr (.inl (.inr hx))))),
    row_only2 h.row ho (fun g e => hs g (.inl (.inr (.inr e)))), h.nrt, h.nrh, h.ok⟩
theorem IsRuns.adds (h : IsRuns w s) (ho : Adds w w') : IsRuns w' s := h.only ho (fun _ _ => id)
theorem IsRuns.lt (h : IsRuns w s) : ∀ y, s.all y → y < w.heap.size := by
  rintro y ((rfl | hy | hy) | hy)
  · exact h.blk.lt
  · exact h.tree.lt y hy
  · exact row_lt h.row y hy
  · exact row_lt h.drs y hy
/-- The draws lie in no block that a call turns. -/
theorem IsRuns.draws_apart (h : IsRuns w s) : ∀ y, some y = s.dv.ownBlock → ¬ s.own y := by
  intro y e hy
  rcases hy with rfl | hy | hy
  · exact blk_not_row h.blk (by decide) h.drs e
  · rcases hy with rfl | hy
    · exact blk_not_row h.tree.head (by decide) h.drs e
    · have := tr_blk h.tree.tr y hy
      obtain ⟨c, hc⟩ := this
      exact blk_not_row hc (by decide) h.drs e
  · rcases h.row.2 with ⟨e2, _⟩ | ⟨g, cap, cur, e2, _, hg, _⟩
    · rw [e2] at hy; simp [Value.ownBlock] at hy
    · rw [e2] at hy
      obtain rfl : y = g := by simpa [Value.ownBlock] using hy
      exact blk_not_row (show Blk w y cur 63 from hg) (by decide) h.drs e
theorem IsRuns.cells (h : IsRuns w s) : w.cell? ⟨s.rb, 0, none⟩ = some (.int .i64 s.P) ∧ w.cell? ⟨s.rb, 1, none⟩ = some s.dv ∧ w.cell? ⟨s.rb, 2, none⟩ = some (.int .i64 s.dn) ∧ w.cell? ⟨s.rb, 3, none⟩ = some (.pointer (some ⟨s.tb, 0, none⟩)) ∧
    w.cell? ⟨s.rb, 4, none⟩ = some s.lv ∧ w.cell? ⟨s.rb, 5, none⟩ = some (.int .i64 (tot s.xs)) :=
  ⟨h.blk.cell 0, h.blk.cell 1, h.blk.cell 2, h.blk.cell 3, h.blk.cell 4, h.blk.cell 5⟩
end

set_option maxHeartbeats 1000000 in
theorem search_nil (at_ : Int) (f : Nat) (w : World) :
    Calls Try.prog 94 #[.slice none 0 0, .int .i64 at_, .func (.func f) #[] #[]] w fun e w' => e = .returned (.tuple #[.int .i64 0, .bool false]) ∧ ∃ n, w' = w.drewN n := by
  go_enter Try.func94, Try.ntmps94
  go_wp2
  go_loop [9, 10] (fun i j => i = .int .i64 0 ∧ j = .int .i64 0) (fun _ _ => 0)
  case atStart => exact ⟨rfl, rfl⟩
  case round =>
    obtain ⟨rfl, rfl⟩ := hrel
    go_wp2
    go_ret2
    exact ⟨rfl, 0, rfl⟩
set_option maxHeartbeats 1000000 in
theorem searchL_any {w : World} {lv : Value} {xs : List (Int × Int)} (hr : w.ownsRow 0 63 2 lv xs.length (shCells xs)) {P : Int} (hl : RunsOk P xs) (hP : 1 ≤ P ∧ P ≤ 4096) (a : Int) :
    Calls Try.prog 94 #[lv, .int .i64 a, .func (.func 95) #[] #[]] w fun e w' => (∃ b, e = .returned (.tuple #[.int .i64 (placeOf xs a : Nat), .bool b])) ∧ Adds w w' := by
  rcases row_shape hr with ⟨rfl, h0⟩ | ⟨g, cap, rfl⟩
  · obtain rfl : xs = [] := List.length_eq_zero_iff.1 h0
    refine (search_nil a _ w).mono ?_
    rintro e w' ⟨rfl, n, rfl⟩
    exact ⟨⟨false, rfl⟩, (Only.refl _ _).drewN n⟩
  · exact search_any g cap xs a w (row_two hr).1 (hl.small hP.2) hl.rise (by have := hl.len (by omega); omega)
set_option maxHeartbeats 1000000 in
theorem place_row {w : World} {rb : Nat} {lv : Value} {xs : List (Int × Int)} (c4 : w.cell? ⟨rb, 4, none⟩ = some lv) (hr : w.ownsRow 0 63 2 lv xs.length (shCells xs)) {P : Int} (hl : RunsOk P xs) (hP : 1 ≤ P ∧ P ≤ 4096) (a : Int) :
    Calls Try.prog 80 #[.pointer (some ⟨rb, 0, none⟩), .int .i64 a] w fun e w' => e = .returned (.int .i64 (placeOf xs a : Nat)) ∧ Adds w w' := by
  have HC := Lib.hid (searchL_any hr hl hP a)
  clear hr hl
  generalize placeOf xs a = k at *
  go_enter Try.func80, Try.ntmps80
  go_wp2_with (go_at_call 94; refine HC.out.mono ?_; rintro e w1 ⟨⟨b, rfl⟩, ho⟩)
  go_ret
  exact ⟨rfl, ho⟩
theorem place_any {w : World} {s : RS} (h : IsRuns w s) (a : Int) :
    Calls Try.prog 80 #[.pointer (some ⟨s.rb, 0, none⟩), .int .i64 a] w fun e w' => e = .returned (.int .i64 (placeOf s.xs a : Nat)) ∧ Adds w w' :=
  place_row (h.blk.cell 4) h.row h.ok.list ⟨h.ok.P1, h.ok.P2⟩ a
end Go.Proofs.Ytbijbpnhakbeeaa

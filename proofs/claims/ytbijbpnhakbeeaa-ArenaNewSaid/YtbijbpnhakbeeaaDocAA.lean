/- The document's tree: its items in memory; place, Has, at whatever state. The document's tree: Put, Drop at whatever state. The document's list of free runs, out of its row of pages: a plain law. The document's free runs in memory: what they are, at whatever state; List, Total. The document's free runs: Total, best, Find, at whatever state. The document's free runs: add, at whatever state. The document's free runs: a run dropped, pages turned. The document's free runs: Take, at whatever state. By an AI agent. -/
import Derived.Test.YtbijbpnhakbeeaaRunsAwake
import Derived.Test.YtbijbpnhakbeeaaHeldU
import Derived.Maps.AppendAt
import Derived.Deep.RegionHeld3
import Derived.Deep.OwnRows
import Derived.BigQuiet
import Derived.Deep.DeepCutAuto
import Derived.Deep.CutBlock
import Derived.Test.YtbijbpnhakbeeaaRunList
import Derived.Deep.LoopGhost
import Derived.Laws.OwnMore
import Derived.Test.YtbijbpnhakbeeaaRunsOps
import Derived.Test.YtbijbpnhakbeeaaRunsSame
import Derived.Test.YtbijbpnhakbeeaaRunsFree
namespace Go.Proofs.Ytbijbpnhakbeeaa
open Go.RowKit

/-- A key, its draw, its value. -/
abbrev It := Int × Int × Int
def itCells : List It → List Value
  | [] => []
  | x :: r => .int .i64 x.1 :: .int .u32 x.2.1 :: .int .i64 x.2.2 :: itCells r
theorem itCells_append (a b : List It) : itCells (a ++ b) = itCells a ++ itCells b := by
  induction a with
  | nil => rfl
  | cons x r ih => simp [itCells, ih]
theorem itCells_len (xs : List It) : (itCells xs).length = xs.length * 3 := by
  induction xs with
  | nil => rfl
  | cons x r ih => simp [itCells, ih]; omega
theorem itCells_one (xs : List It) : ∀ v ∈ itCells xs, v.oneCell' = true := by
  induction xs with
  | nil => intro v h; cases h
  | cons x r ih =>
    intro v hv
    simp only [itCells, List.mem_cons] at hv
    rcases hv with rfl | rfl | rfl | hv
    · rfl
    · rfl
    · rfl
    · exact ih v hv
theorem itCells_at (xs : List It) : ∀ (j : Nat) (x : It), xs[j]? = some x → (itCells xs)[j * 3]? = some (.int .i64 x.1) ∧ (itCells xs)[j * 3 + 1]? = some (.int .u32 x.2.1) ∧ (itCells xs)[j * 3 + 2]? = some (.int .i64 x.2.2) := by
  induction xs with
  | nil => intro j x h; simp at h
  | cons y r ih =>
    intro j x h
    cases j with
    | zero => simp at h; subst h; simp [itCells]
    | succ j =>
      have := ih j x (by simpa using h)
      rw [show (j + 1) * 3 = j * 3 + 1 + 1 + 1 by omega]
      simpa [itCells] using this
theorem itCells_take (xs : List It) : ∀ i, (itCells xs).take (i * 3) = itCells (xs.take i) := by
  induction xs with
  | nil => intro i; simp [itCells]
  | cons x r ih =>
    intro i
    cases i with
    | zero => simp [itCells]
    | succ i => rw [show (i + 1) * 3 = i * 3 + 1 + 1 + 1 by omega]; simp [itCells, ih]
theorem itCells_drop (xs : List It) : ∀ i, (itCells xs).drop (i * 3) = itCells (xs.drop i) := by
  induction xs with
  | nil => intro i; simp [itCells]
  | cons x r ih =>
    intro i
    cases i with
    | zero => simp [itCells]
    | succ i => rw [show (i + 1) * 3 = i * 3 + 1 + 1 + 1 by omega]; simp [itCells, ih]
/-- A slice of items: what its cells hold. -/
def ItAt (w : World) (v : Value) (xs : List It) : Prop :=
  ∃ a cap, v = .slice a xs.length cap ∧ xs.length ≤ cap ∧ cap ≤ maxLen ∧ (a = none → cap = 0) ∧ ∀ i x, xs[i]? = some x → ∃ b off, a = some ⟨b, off, none⟩ ∧ w.cell? ⟨b, off + i * 3, none⟩ = some (.int .i64 x.1) ∧ w.cell? ⟨b, off + i * 3 + 1, none⟩ = some (.int .u32 x.2.1) ∧ w.cell? ⟨b, off + i * 3 + 2, none⟩ = some (.int .i64 x.2.2)
theorem ItAt.adds {w w' : World} {v : Value} {xs : List It} (h : ItAt w v xs) (ho : Adds w w') : ItAt w' v xs := by
  obtain ⟨a, cap, h1, h2, h2', h3, h4⟩ := h
  refine ⟨a, cap, h1, h2, h2', h3, fun i x hx => ?_⟩
  obtain ⟨b, off, h5, h6, h7, h8⟩ := h4 i x hx
  exact ⟨b, off, h5, cell_al h6 ho, cell_al h7 ho, cell_al h8 ho⟩
theorem ItAt.of_owns {w : World} {base : Nat} {e : TypeId} {v : Value} {n : Nat} {xs : List It} (h : w.ownsRow base e 3 v n (itCells xs)) : ItAt w v xs ∧ n = xs.length := by
  have hl : (itCells xs).length = n * 3 := h.1
  rw [itCells_len] at hl
  obtain rfl : n = xs.length := by omega
  refine ⟨?_, rfl⟩
  rcases h.2 with ⟨h0, h1⟩ | ⟨g, cap, cur, h1, h2, h3, h4, h4', h4'', h5⟩
  · have : xs = [] := List.eq_nil_of_length_eq_zero h1
    subst this
    exact ⟨none, 0, h0, Nat.le_refl _, Nat.zero_le _, fun _ => rfl, fun i x hx => by simp at hx⟩
  · refine ⟨_, cap, h1, ?_, ?_, fun h => (by cases h), fun i x hx => ⟨g, 0, rfl, ?_⟩⟩
    · omega
    · omega
    have hi : i < xs.length := (List.getElem?_eq_some_iff.1 hx).1
    obtain ⟨e1, e2, e3⟩ := itCells_at xs i x hx
    rw [← h5, List.getElem?_take_of_lt (by omega)] at e1 e2 e3
    rw [Nat.zero_add]
    exact ⟨by simpa [World.cell?, h3] using e1, by simpa [World.cell?, h3] using e2, by simpa [World.cell?, h3] using e3⟩
/-- The first item's place that is not below a key. -/
def plc (key : Int) : List It → Nat
  | [] => 0
  | x :: r => if x.1 < key then plc key r + 1 else 0
theorem plc_le (key : Int) : ∀ xs : List It, plc key xs ≤ xs.length
  | [] => Nat.le_refl _
  | x :: r => by
    have := plc_le key r
    unfold plc
    split
    · simp; omega
    · simp
theorem plc_lt (key : Int) : ∀ (xs : List It) (j : Nat) (x : It), xs[j]? = some x → j < plc key xs → x.1 < key
  | [], j, x, h, _ => by simp at h
  | y :: r, j, x, h, hj => by
    unfold plc at hj
    split at hj
    · cases j with
      | zero => simp at h; subst h; assumption
      | succ j => exact plc_lt key r j x (by simpa using h) (by omega)
    · omega
theorem plc_at (key : Int) : ∀ (xs : List It) (x : It), xs[plc key xs]? = some x → ¬ x.1 < key
  | [], x, h => by simp at h
  | y :: r, x, h => by
    unfold plc at h
    split at h
    · exact plc_at key r x (by simpa using h)
    · simp at h; subst h; assumption
/-- Is a key there? -/
def hasK (key : Int) (xs : List It) : Bool := match xs[plc key xs]? with | some x => decide (x.1 = key) | none => false
section
variable {w : World} {rb : Nat} {fr tl dr : Value} {n : Int} {xs : List It}
abbrev rCells (fr tl dr : Value) (n : Int) : Array Value := #[fr, tl, dr, .int .i64 n]
set_option maxHeartbeats 2000000 in
theorem place9_any (h : Blk w rb (rCells fr tl dr n) 104) (hx : ItAt w tl xs) (hl : xs.length < 1000000) (key : Int) : Calls Try.prog 88 #[.pointer (some ⟨rb, 1, none⟩), .int .i64 key] w fun e w' => e = .returned (.int .i64 (plc key xs)) ∧ w = w' := by
  obtain ⟨a, c, rfl, -, -, -, hv⟩ := hx
  have c1 : w.cell? ⟨rb, 1, none⟩ = some (.slice a xs.length c) := h.cell 1
  have HV := Lib.hid hv
  obtain ⟨p, hp⟩ : ∃ p, p = plc key xs := ⟨_, rfl⟩
  have HP := Lib.hid hp
  have hple : p ≤ xs.length := hp ▸ plc_le key xs
  rw [← hp]
  clear h hv hp
  go_enter Try.func88, Try.ntmps88
  go_wp2
  go_loopw [5] (fun i wr => ∃ k : Nat, k ≤ p ∧ i = .int .i64 k ∧ wr = w) (fun i _ => p - (intOf i).toNat)
  case atStart => exact ⟨0, Nat.zero_le _, rfl, rfl⟩
  case round =>
    obtain ⟨k, hk, rfl, rfl⟩ := hrel
    have hk4 : k < 1000000 := by omega
    have hwk := wrap_succ k hk4
    by_cases hkn : k < xs.length
    · obtain ⟨x, hx⟩ : ∃ x, xs[k]? = some x := ⟨_, List.getElem?_eq_getElem hkn⟩
      obtain ⟨b, o, rfl, p1, -, -⟩ := HV.out k x hx
      by_cases hkp : k < p
      · have h1 : x.1 < key := plc_lt key xs k x hx (HP.out ▸ hkp)
        clear hx
        go_wp2
        go_roundw
        case rel => exact ⟨k + 1, by omega, by simp, trivial⟩
        case measure => simp [intOf]; omega
      · obtain rfl : k = p := by omega
        have h1 : ¬ x.1 < key := plc_at key xs x (by rw [← HP.out]; exact hx)
        clear hx
        go_wp2
        go_ret
        exact ⟨rfl, rfl⟩
    · obtain rfl : k = p := by omega
      go_wp2
      go_ret
      exact ⟨rfl, rfl⟩
set_option maxHeartbeats 2000000 in
theorem has9_any (h : Blk w rb (rCells fr tl dr n) 104) (hx : ItAt w tl xs) (hl : xs.length < 1000000) (key : Int) : Calls Try.prog 87 #[.pointer (some ⟨rb, 1, none⟩), .int .i64 key] w fun e w' => e = .returned (.bool (hasK key xs)) ∧ w = w' := by
  have HPL := Lib.hid (place9_any h hx hl key)
  obtain ⟨a, c, rfl, -, -, -, hv⟩ := hx
  have c1 : w.cell? ⟨rb, 1, none⟩ = some (.slice a xs.length c) := h.cell 1
  obtain ⟨p, hp⟩ : ∃ p, plc key xs = p := ⟨_, rfl⟩
  have hple : p ≤ xs.length := hp ▸ plc_le key xs
  rw [hp] at HPL
  by_cases hkn : p < xs.length
  · obtain ⟨x, hx⟩ : ∃ x, xs[p]? = some x := ⟨_, List.getElem?_eq_getElem hkn⟩
    obtain ⟨b, o, rfl, p1, -, -⟩ := hv p x hx
    have hh : hasK key xs = decide (x.1 = key) := by unfold hasK; rw [hp, hx]
    rw [hh]
    clear hx hh hp h hv
    go_enter Try.func87, Try.ntmps87
    go_wp2_with (go_at_call 88; refine HPL.out.mono ?_; rintro e w1 ⟨rfl, rfl⟩)
    go_ret
    exact ⟨rfl, rfl⟩
  · have hh : hasK key xs = false := by unfold hasK; rw [hp, List.getElem?_eq_none (by omega)]
    rw [hh]
    clear hh hp h hv
    go_enter Try.func87, Try.ntmps87
    go_wp2_with (go_at_call 88; refine HPL.out.mono ?_; rintro e w1 ⟨rfl, rfl⟩)
    go_ret
    exact ⟨rfl, rfl⟩
end
theorem infoItem : (Try.prog.info? 140).map (fun i => (i.zero, i.size, i.bytes)) = some (some (.agg #[.int .i64 0, .int .u32 0, .int .i64 0]), 3, 24) := by kernel_rfl
/-- Nothing appended. -/
theorem run_append_none {P : Program} (w : World) (t ty e : TypeId) (i : TypeInfo) (ht : P.underlying t = some (.slice e)) (hi : P.info? e = some i) (b : Option Addr) (n c : Nat) (hn : n ≤ c) :
    (Builtin.append_ #[t, t] ty #[.slice b n c, .slice none 0 0]).run P w = .ok (.slice b n c) w := by
  cases b <;> simp [Builtin.append_, run_underlying ht, sizeOf, typeInfo, hi, Builtin.lenOf, Builtin.firstCells, loadCells, loadCellsFrom, storeCells, hn]
theorem wp_append_none {P : Program} {op : Oper} {a : Act} {w : World} {K : Act → World → Prop} {Q : Exit → Act → World → Prop} (s x : Operand) (t e : TypeId) (ho : op.op = .call { callee := .builtin .append, args := #[s, x], argTypes := #[t, t] })
    (i : TypeInfo) (ht : P.underlying t = some (.slice e)) (hi : P.info? e = some i) (b : Option Addr) (n c : Nat) (hs : a.eval s = .slice b n c) (hx : a.eval x = .slice none 0 0) (hn : n ≤ c) (h : K (a.put op.dst (.slice b n c)) w) : op.wp P a w K Q := by
  unfold Oper.wp execOp
  simp only [ho, resolve, invoke, builtin, Sem.run_bind, Sem.run_pure, Result.andThen_ok, List.map_toArray, List.map_cons, List.map_nil, hs, hx, run_append_none w t _ e i ht hi b n c hn]
  exact h
/-- What an append reads: nothing, or cells. -/
def Src (w : World) (u : Value) (m : Nat) (news : List Value) : Prop :=
  (u = .slice none 0 0 ∧ m = 0 ∧ news = []) ∨ (∃ g off c, u = .slice (some ⟨g, off, none⟩) m c ∧ ∀ j x, news[j]? = some x → w.cell? ⟨g, off + j, none⟩ = some x) ∨ (m = 0 ∧ news = [] ∧ ∃ ad c, u = .slice (some ad) 0 c)
theorem Src.adds {w w' : World} {u : Value} {m : Nat} {news : List Value} (h : Src w u m news) (ho : Adds w w') : Src w' u m news := by
  rcases h with h | ⟨g, off, c, h1, h2⟩ | h
  · exact .inl h
  · exact .inr (.inl ⟨g, off, c, h1, fun j x hj => cell_al (h2 j x hj) ho⟩)
  · exact .inr (.inr h)
theorem row_base {w : World} {base : Nat} {e : TypeId} {size : Nat} {v : Value} {n : Nat} {xs : List Value} (h : w.ownsRow base e size v n xs) : ∀ g, some g = v.ownBlock → base ≤ g := by
  rcases h.2 with ⟨rfl, _⟩ | ⟨g, cap, cur, rfl, hb, _⟩
  · intro g e; simp [Value.ownBlock] at e
  · intro g' e
    obtain rfl : g' = g := by simpa [Value.ownBlock] using e
    exact hb
/-- Appended: items to a row of one's own. -/
theorem wp_append_src {P : Program} {op : Oper} {a : Act} {w : World} {K : Act → World → Prop} {Q : Exit → Act → World → Prop} (s x : Operand) (t e : TypeId) (ho : op.op = .call { callee := .builtin .append, args := #[s, x], argTypes := #[t, t] })
    (i : TypeInfo) (z : Value) (size bytes : Nat) (ht : P.underlying t = some (.slice e)) (hi : P.info? e = some i) (hz : i.zero = some z)
    (hsize : i.size = size) (hby : i.bytes = bytes) (hzs : z.cells.size = size) (hsz : 0 < size) (base : Nat) (v : Value) (n : Nat) (xs : List Value) (hs : a.eval s = v) (hown : w.ownsRow base e size v n xs)
    (u : Value) (m : Nat) (news : List Value) (hx : a.eval x = u) (hu : Src w u m news) (hl : news.length = m * size) (h1 : ∀ u ∈ news, u.oneCell' = true) (h63 : n + m ≤ maxLen) (hbytes : (n + m) * bytes ≤ 140737488355328) (hbase : base ≤ w.heap.size)
    (h : ∀ v' w', w'.ownsRow base e size v' (n + m) (xs ++ news) → Only (fun y => some y = v.ownBlock) w w' → K (a.put op.dst v') w') : op.wp P a w K Q := by
  rcases hu with ⟨rfl, rfl, rfl⟩ | ⟨g, off, c, rfl, hc⟩ | ⟨rfl, rfl, ad, c, rfl⟩
  · rcases row_shape hown with ⟨rfl, rfl⟩ | ⟨g, cap, rfl⟩
    · exact wp_append_none s x t e ho i ht hi none 0 0 hs hx (Nat.le_refl _) (h _ w (by simpa using hown) (Only.refl _ w))
    · have hcap : n ≤ cap := by
        rcases hown.2 with ⟨h0, _⟩ | ⟨g', cap', cur, h0, _, _, h4, _⟩
        · cases h0
        · cases h0; exact h4
      exact wp_append_none s x t e ho i ht hi (some ⟨g, 0, none⟩) n cap hs hx hcap (h _ w (by simpa using hown) (Only.refl _ w))
  · refine wp_append_own w s x t ho base e i z size bytes ht hi hz hsize hby hzs hsz v n xs hs hown ⟨g, off, none⟩ m c news hx hl (fun j u hj => by rw [Addr.add_lit]; exact hc j u hj) h1 h63 hbytes hbase ?_
    intro v' w' h2 h3 _
    exact h v' w' h2 ⟨h3.os, h3.tape, h3.output, h3.size, h3.block⟩
  · refine wp_append_own w s x t ho base e i z size bytes ht hi hz hsize hby hzs hsz v n xs hs hown ad 0 c [] hx hl (fun j u hj => by simp at hj) h1 h63 hbytes hbase ?_
    intro v' w' h2 h3 _
    exact h v' w' h2 ⟨h3.os, h3.tape, h3.output, h3.size, h3.block⟩
theorem ItAt.take {w : World} {g off cap p : Nat} {xs : List It} (h : ItAt w (.slice (some ⟨g, off, none⟩) xs.length cap) xs) (c : Nat) (hp : p ≤ xs.length) : Src w (.slice (some ⟨g, off, none⟩) p c) p (itCells (xs.take p)) := by
  obtain ⟨a, cap', h1, _, _, _, h4⟩ := h
  cases h1
  refine .inr (.inl ⟨g, off, c, rfl, fun j u hj => ?_⟩)
  obtain ⟨k, r, hk, hr⟩ : ∃ k r, j = k * 3 + r ∧ r < 3 := ⟨j / 3, j % 3, by omega, by omega⟩
  have hl : j < (itCells (xs.take p)).length := (List.getElem?_eq_some_iff.1 hj).1
  rw [itCells_len, List.length_take] at hl
  obtain ⟨x, hx⟩ : ∃ x, (xs.take p)[k]? = some x := ⟨_, List.getElem?_eq_getElem (by rw [List.length_take]; omega)⟩
  obtain ⟨e1, e2, e3⟩ := itCells_at _ k x hx
  rw [List.getElem?_take] at hx
  split at hx
  · obtain ⟨b, o', h5, h6, h7, h8⟩ := h4 k x hx
    cases h5
    subst hk
    rcases (by omega : r = 0 ∨ r = 1 ∨ r = 2) with rfl | rfl | rfl
    · rw [Nat.add_zero] at hj ⊢; rw [e1] at hj; cases hj; exact h6
    · rw [e2] at hj; cases hj; rw [← Nat.add_assoc]; exact h7
    · rw [e3] at hj; cases hj; rw [← Nat.add_assoc]; exact h8
  · cases hx
theorem ItAt.drop {w : World} {g off cap p : Nat} {xs : List It} (h : ItAt w (.slice (some ⟨g, off, none⟩) xs.length cap) xs) (c : Nat) : Src w (.slice (some ⟨g, off + p * 3, none⟩) (xs.length - p) c) (xs.length - p) (itCells (xs.drop p)) := by
  obtain ⟨a, cap', h1, _, _, _, h4⟩ := h
  cases h1
  refine .inr (.inl ⟨g, off + p * 3, c, rfl, fun j u hj => ?_⟩)
  obtain ⟨k, r, hk, hr⟩ : ∃ k r, j = k * 3 + r ∧ r < 3 := ⟨j / 3, j % 3, by omega, by omega⟩
  have hl : j < (itCells (xs.drop p)).length := (List.getElem?_eq_some_iff.1 hj).1
  rw [itCells_len, List.length_drop] at hl
  obtain ⟨x, hx⟩ : ∃ x, (xs.drop p)[k]? = some x := ⟨_, List.getElem?_eq_getElem (by rw [List.length_drop]; omega)⟩
  obtain ⟨e1, e2, e3⟩ := itCells_at _ k x hx
  rw [List.getElem?_drop] at hx
  obtain ⟨b, o', h5, h6, h7, h8⟩ := h4 (p + k) x hx
  cases h5
  subst hk
  rcases (by omega : r = 0 ∨ r = 1 ∨ r = 2) with rfl | rfl | rfl
  · rw [Nat.add_zero] at hj ⊢; rw [e1] at hj; cases hj; rw [show off + p * 3 + k * 3 = off + (p + k) * 3 by omega]; exact h6
  · rw [e2] at hj; cases hj; rw [show off + p * 3 + (k * 3 + 1) = off + (p + k) * 3 + 1 by omega]; exact h7
  · rw [e3] at hj; cases hj; rw [show off + p * 3 + (k * 3 + 2) = off + (p + k) * 3 + 2 by omega]; exact h8
theorem Src.one {w : World} {g : Nat} {t : TypeId} {l : List Value} (h : Blk w g l.toArray t) (c : Nat) : Src w (.slice (some ⟨g, 0, none⟩) 1 c) 1 l :=
  .inr (.inl ⟨g, 0, c, rfl, fun j x hj => by rw [Nat.zero_add, h.cell j]; simpa using hj⟩)
theorem owns_emptyB {W : World} {g b : Nat} {e : TypeId} (h : Blk W g #[] e) (hb : b ≤ g) (sz : Nat) : W.ownsRow b e sz (.slice (some ⟨g, 0, none⟩) 0 0) 0 [] :=
  ⟨by simp, .inr ⟨g, 0, #[], rfl, hb, h, Nat.le_refl _, Nat.zero_le _, by simp, by simp⟩⟩
theorem ownsRow_opened {w : World} {base : Nat} {e : TypeId} {size : Nat} {v : Value} {n : Nat} {xs : List Value} (h : w.ownsRow base e size v n xs) : ∃ a c, v = .slice a n c := by
  rcases h.2 with ⟨h0, h1⟩ | ⟨g, cap, cur, h1, _⟩
  · exact ⟨none, 0, by rw [h0, h1]⟩
  · exact ⟨_, cap, h1⟩
section
variable {w : World} {rb : Nat} {fr tl dr : Value} {n key d v : Int} {xs : List It}

set_option maxRecDepth 100000 in
set_option maxHeartbeats 16000000 in
theorem put9_any (h : Blk w rb (rCells fr tl dr n) 104) (hr : w.ownsRow 0 140 3 tl xs.length (itCells xs)) (hl : xs.length < 1000000) (hk : hasK key xs = false) :
    Calls Try.prog 86 #[.pointer (some ⟨rb, 1, none⟩), .int .i64 key, .int .u32 d, .int .i64 v] w fun e w' => e = .returned (.bool true) ∧ (∃ tl', Blk w' rb (rCells fr tl' dr n) 104 ∧ w'.ownsRow w.heap.size 140 3 tl' (xs.length + 1) (itCells (xs.take (plc key xs) ++ (key, d, v) :: xs.drop (plc key xs)))) ∧ Only (· = rb) w w' := by
  obtain ⟨i0, hi, hz0, hz1, hz2⟩ := info_parts infoItem
  obtain ⟨hit, -⟩ := ItAt.of_owns hr
  have HH := Lib.hid (has9_any h hit hl key)
  have HP := Lib.hid (place9_any h hit hl key)
  obtain ⟨p, hp⟩ : ∃ p, plc key xs = p := ⟨_, rfl⟩
  have hple : p ≤ xs.length := hp ▸ plc_le key xs
  rw [hp] at HP ⊢
  rw [hk] at HH
  have H := Lib.hid h
  obtain ⟨xn, hxn⟩ : ∃ xn, xn = xs.length := ⟨_, rfl⟩
  have HXN := Lib.hid hxn
  rw [← hxn] at hple hl
  have hsrc : ∃ la lc, tl = .slice la xn lc ∧ xn ≤ lc ∧ lc ≤ maxLen ∧ ((la = none ∧ xn = 0 ∧ lc = 0) ∨ ∃ lg, la = some ⟨lg, 0, none⟩) := by
    rcases hr.2 with ⟨h0, h1⟩ | ⟨g, cap, cur, h1, _, _, h4, h5, _⟩
    · exact ⟨none, 0, by rw [h0, hxn, h1], by omega, Nat.zero_le _, .inl ⟨rfl, by omega, rfl⟩⟩
    · exact ⟨_, cap, by rw [h1, hxn], by omega, by omega, .inr ⟨g, rfl⟩⟩
  obtain ⟨la, lc, rfl, hlc, hlm, hla⟩ := hsrc
  have c1 : w.cell? ⟨rb, 1, none⟩ = some (.slice la xn lc) := h.cell 1
  have HIT := Lib.hid hit
  clear h hr hit hk
  rcases hla with ⟨rfl, rfl, rfl⟩ | ⟨lg, rfl⟩
  · obtain rfl : p = 0 := by omega
    obtain rfl : xs = [] := List.eq_nil_of_length_eq_zero HXN.out.symm
    have hS1 : Src w (.slice none 0 0) 0 (itCells (([] : List It).take 0)) := .inl ⟨rfl, rfl, rfl⟩
    have hS2 : Src w (.slice none 0 0) (0 - 0) (itCells (([] : List It).drop 0)) := .inl ⟨rfl, rfl, rfl⟩
    have HS1 := Lib.hid hS1; have HS2 := Lib.hid hS2
    clear hS1 hS2 hxn
    go_enter Try.func86, Try.ntmps86
    go_upto_region 4 with (first
      | (go_at_call 87; refine HH.out.mono ?_; rintro e w1 ⟨rfl, rfl⟩)
      | (go_at_call 88; refine HP.out.mono ?_; rintro e w2 ⟨rfl, rfl⟩))
    refine AnyU.region (S := (fun W => Blk W rb (rCells fr (.slice none 0 0) dr n) 104 ∧ Adds w W)) (k := 24) (by kernel_rfl) ⟨H.out.only ((Only.refl (fun _ => False) w).drew) (id : ¬ False), (Only.refl (fun _ => False) w).drew⟩ (fun hHeld => ?_)
    refine AnyU.take (i := 0) (v := (.pointer (some ⟨rb, 1, none⟩))) rfl rfl (by kernel_rfl) (by kernel_rfl) (by kernel_rfl) (by kernel_rfl) (by kernel_rfl) (by decide) (fun _ _ _ h => h) (Or.inl ⟨by rfl, fun W hS => by first | rfl | (go_simp; done)⟩) hHeld ?_
    try simp only [Act.put, List.getElem_toArray, List.getElem_cons_succ, List.getElem_cons_zero, List.setIfInBounds_toArray, List.set_cons_zero, List.set_cons_succ]
    refine AnyU.take (i := 2) (v := (.pointer (some ⟨rb, 1, none⟩))) rfl rfl (by kernel_rfl) (by kernel_rfl) (by kernel_rfl) (by kernel_rfl) (by kernel_rfl) (by decide) (fun _ _ _ h => h) (Or.inl ⟨by rfl, fun W hS => by first | rfl | (go_simp; done)⟩) hHeld ?_
    try simp only [Act.put, List.getElem_toArray, List.getElem_cons_succ, List.getElem_cons_zero, List.setIfInBounds_toArray, List.set_cons_zero, List.set_cons_succ]
    refine AnyU.take (i := 3) (v := (.pointer (some ⟨rb, 1, none⟩))) rfl rfl (by kernel_rfl) (by kernel_rfl) (by kernel_rfl) (by kernel_rfl) (by kernel_rfl) (by decide) (fun _ _ _ h => h) (Or.inl ⟨by rfl, fun W hS => by first | rfl | (go_simp; done)⟩) hHeld ?_
    try simp only [Act.put, List.getElem_toArray, List.getElem_cons_succ, List.getElem_cons_zero, List.setIfInBounds_toArray, List.set_cons_zero, List.set_cons_succ]
    refine AnyU.take (i := 4) (v := (.pointer (some ⟨rb, 1, none⟩))) rfl rfl (by kernel_rfl) (by kernel_rfl) (by kernel_rfl) (by kernel_rfl) (by kernel_rfl) (by decide) (fun _ _ _ h => h) (Or.inl ⟨by rfl, fun W hS => by first | rfl | (go_simp; done)⟩) hHeld ?_
    try simp only [Act.put, List.getElem_toArray, List.getElem_cons_succ, List.getElem_cons_zero, List.setIfInBounds_toArray, List.set_cons_zero, List.set_cons_succ]
    refine AnyU.take (i := 5) (v := (.slice none 0 0)) rfl rfl (by kernel_rfl) (by kernel_rfl) (by kernel_rfl) (by kernel_rfl) (by kernel_rfl) (by decide) (fun _ _ _ h => h) (Or.inl ⟨by rfl, fun W hS => by (have q1 : W.cell? ⟨rb, 1, none⟩ = some (.slice none 0 0) := hS.1.cell 1; go_simp)⟩) hHeld ?_
    try simp only [Act.put, List.getElem_toArray, List.getElem_cons_succ, List.getElem_cons_zero, List.setIfInBounds_toArray, List.set_cons_zero, List.set_cons_succ]
    refine AnyU.take (i := 6) (v := (.int .i64 0)) rfl rfl (by kernel_rfl) (by kernel_rfl) (by kernel_rfl) (by kernel_rfl) (by kernel_rfl) (by decide) (fun _ _ _ h => h) (Or.inl ⟨by rfl, fun W hS => by first | rfl | (go_simp; done)⟩) hHeld ?_
    try simp only [Act.put, List.getElem_toArray, List.getElem_cons_succ, List.getElem_cons_zero, List.setIfInBounds_toArray, List.set_cons_zero, List.set_cons_succ]
    refine AnyU.take (i := 7) (v := (.slice none 0 0)) rfl rfl (by kernel_rfl) (by kernel_rfl) (by kernel_rfl) (by kernel_rfl) (by kernel_rfl) (by decide) (fun _ _ _ h => h) (Or.inl ⟨by rfl, fun W hS => by (go_simp)⟩) hHeld ?_
    try simp only [Act.put, List.getElem_toArray, List.getElem_cons_succ, List.getElem_cons_zero, List.setIfInBounds_toArray, List.set_cons_zero, List.set_cons_succ]
    refine AnyU.take (i := 9) (v := (.int .i64 key)) rfl rfl (by kernel_rfl) (by kernel_rfl) (by kernel_rfl) (by kernel_rfl) (by kernel_rfl) (by decide) (fun _ _ _ h => h) (Or.inl ⟨by rfl, fun W hS => by first | rfl | (go_simp; done)⟩) hHeld ?_
    try simp only [Act.put, List.getElem_toArray, List.getElem_cons_succ, List.getElem_cons_zero, List.setIfInBounds_toArray, List.set_cons_zero, List.set_cons_succ]
    refine AnyU.take (i := 10) (v := (.int .u32 d)) rfl rfl (by kernel_rfl) (by kernel_rfl) (by kernel_rfl) (by kernel_rfl) (by kernel_rfl) (by decide) (fun _ _ _ h => h) (Or.inl ⟨by rfl, fun W hS => by first | rfl | (go_simp; done)⟩) hHeld ?_
    try simp only [Act.put, List.getElem_toArray, List.getElem_cons_succ, List.getElem_cons_zero, List.setIfInBounds_toArray, List.set_cons_zero, List.set_cons_succ]
    refine AnyU.take (i := 11) (v := (.int .i64 v)) rfl rfl (by kernel_rfl) (by kernel_rfl) (by kernel_rfl) (by kernel_rfl) (by kernel_rfl) (by decide) (fun _ _ _ h => h) (Or.inl ⟨by rfl, fun W hS => by first | rfl | (go_simp; done)⟩) hHeld ?_
    try simp only [Act.put, List.getElem_toArray, List.getElem_cons_succ, List.getElem_cons_zero, List.setIfInBounds_toArray, List.set_cons_zero, List.set_cons_succ]
    refine AnyU.take (i := 12) (v := (.agg #[.int .i64 key, .int .u32 d, .int .i64 v])) rfl rfl (by kernel_rfl) (by kernel_rfl) (by kernel_rfl) (by kernel_rfl) (by kernel_rfl) (by decide) (fun _ _ _ h => h) (Or.inl ⟨by rfl, fun W hS => by (go_simp; done)⟩) hHeld ?_
    try simp only [Act.put, List.getElem_toArray, List.getElem_cons_succ, List.getElem_cons_zero, List.setIfInBounds_toArray, List.set_cons_zero, List.set_cons_succ]
    refine AnyU.take (i := 15) (v := (.pointer (some ⟨rb, 1, none⟩))) rfl rfl (by kernel_rfl) (by kernel_rfl) (by kernel_rfl) (by kernel_rfl) (by kernel_rfl) (by decide) (fun _ _ _ h => h) (Or.inl ⟨by rfl, fun W hS => by first | rfl | (go_simp; done)⟩) hHeld ?_
    try simp only [Act.put, List.getElem_toArray, List.getElem_cons_succ, List.getElem_cons_zero, List.setIfInBounds_toArray, List.set_cons_zero, List.set_cons_succ]
    refine AnyU.take (i := 16) (v := (.pointer (some ⟨rb, 1, none⟩))) rfl rfl (by kernel_rfl) (by kernel_rfl) (by kernel_rfl) (by kernel_rfl) (by kernel_rfl) (by decide) (fun _ _ _ h => h) (Or.inl ⟨by rfl, fun W hS => by first | rfl | (go_simp; done)⟩) hHeld ?_
    try simp only [Act.put, List.getElem_toArray, List.getElem_cons_succ, List.getElem_cons_zero, List.setIfInBounds_toArray, List.set_cons_zero, List.set_cons_succ]
    refine AnyU.take (i := 17) (v := (.pointer (some ⟨rb, 1, none⟩))) rfl rfl (by kernel_rfl) (by kernel_rfl) (by kernel_rfl) (by kernel_rfl) (by kernel_rfl) (by decide) (fun _ _ _ h => h) (Or.inl ⟨by rfl, fun W hS => by first | rfl | (go_simp; done)⟩) hHeld ?_
    try simp only [Act.put, List.getElem_toArray, List.getElem_cons_succ, List.getElem_cons_zero, List.setIfInBounds_toArray, List.set_cons_zero, List.set_cons_succ]
    refine AnyU.take (i := 18) (v := (.slice none 0 0)) rfl rfl (by kernel_rfl) (by kernel_rfl) (by kernel_rfl) (by kernel_rfl) (by kernel_rfl) (by decide) (fun _ _ _ h => h) (Or.inl ⟨by rfl, fun W hS => by (have q1 : W.cell? ⟨rb, 1, none⟩ = some (.slice none 0 0) := hS.1.cell 1; go_simp)⟩) hHeld ?_
    try simp only [Act.put, List.getElem_toArray, List.getElem_cons_succ, List.getElem_cons_zero, List.setIfInBounds_toArray, List.set_cons_zero, List.set_cons_succ]
    refine AnyU.take (i := 19) (v := (.int .i64 0)) rfl rfl (by kernel_rfl) (by kernel_rfl) (by kernel_rfl) (by kernel_rfl) (by kernel_rfl) (by decide) (fun _ _ _ h => h) (Or.inl ⟨by rfl, fun W hS => by first | rfl | (go_simp; done)⟩) hHeld ?_
    try simp only [Act.put, List.getElem_toArray, List.getElem_cons_succ, List.getElem_cons_zero, List.setIfInBounds_toArray, List.set_cons_zero, List.set_cons_succ]
    refine AnyU.take (i := 20) (v := (.slice none 0 0)) rfl rfl (by kernel_rfl) (by kernel_rfl) (by kernel_rfl) (by kernel_rfl) (by kernel_rfl) (by decide) (fun _ _ _ h => h) (Or.inl ⟨by rfl, fun W hS => by (go_simp)⟩) hHeld ?_
    try simp only [Act.put, List.getElem_toArray, List.getElem_cons_succ, List.getElem_cons_zero, List.setIfInBounds_toArray, List.set_cons_zero, List.set_cons_succ]
    refine AnyU.two (i := 1) (j := 13) rfl rfl (by kernel_rfl) (fun K hK => ?_) (fun K hK => ?_)
    · simp only [List.getElem_toArray, List.getElem_cons_succ, List.getElem_cons_zero]
      go_simp
      have hE : Blk (w.drew.alloc (.cells #[] 140)) w.heap.size #[] 140 := Blk.new w.drew _ _
      refine hK.out _ (w.drew.alloc (.cells #[] 140)) ⟨hHeld.1.alloc _, hHeld.2.alloc _⟩ (fun hHeld => ?_)
      clear hK
      try simp only [Act.put, List.getElem_toArray, List.getElem_cons_succ, List.getElem_cons_zero, List.setIfInBounds_toArray, List.set_cons_zero, List.set_cons_succ]
      generalize w.drew.alloc (.cells #[] 140) = W1 at hE hHeld ⊢
      have hW1 : w.heap.size ≤ W1.heap.size := hHeld.2.size
      refine AnyU.two (i := 8) (j := 13) rfl rfl (by kernel_rfl) (fun K hK => ?_) (fun K hK => ?_)
      · simp only [List.getElem_toArray, List.getElem_cons_succ, List.getElem_cons_zero]
        rw [if_pos (by rfl)]
        have hEg : w.heap.size ≤ w.heap.size := Nat.le_refl _
        refine wp_append_src _ _ 100 140 rfl i0 (.agg #[.int .i64 0, .int .u32 0, .int .i64 0]) 3 24 Try.underlying100 hi hz0 hz1 hz2 rfl (by decide) w.heap.size _ 0 [] rfl (owns_emptyB hE hEg 3) (.slice none 0 0) 0 (itCells (([] : List It).take 0)) rfl (HS1.out.adds hHeld.2) (by rw [itCells_len, List.length_take]; first | rfl | (have := HXN.out; omega)) (itCells_one _) (by unfold maxLen; omega) (by omega) hHeld.2.size ?_
        intro v1 w3 hv1 hO'
        have hO := hO'.mono (T := (w.heap.size ≤ ·)) (fun y _ e => row_base (owns_emptyB hE hEg 3) y e)
        rw [Nat.zero_add, List.nil_append] at hv1
        have hrb := H.out.lt
        refine hK.out _ w3 ⟨hHeld.1.only hO (by omega), hHeld.2.andThen hO (fun i hi e => by omega)⟩ (fun hHeld => ?_)
        clear hK hO hO' hE
        try simp only [Act.put, List.getElem_toArray, List.getElem_cons_succ, List.getElem_cons_zero, List.setIfInBounds_toArray, List.set_cons_zero, List.set_cons_succ]
        refine AnyU.one (i := 13) rfl (by kernel_rfl) (fun K hK => ?_)
        simp only [List.getElem_toArray, List.getElem_cons_succ, List.getElem_cons_zero]
        go_simp
        have hN : Blk (w3.alloc (.cells #[.int .i64 key, .int .u32 d, .int .i64 v] 140)) w3.heap.size #[.int .i64 key, .int .u32 d, .int .i64 v] 140 := Blk.new w3 _ _
        have hv1 := row_only2 hv1 ((Only.refl (fun _ => False) w3).alloc (.cells #[.int .i64 key, .int .u32 d, .int .i64 v] 140)) (fun _ _ e => e)
        refine hK.out _ (w3.alloc (.cells #[.int .i64 key, .int .u32 d, .int .i64 v] 140)) ⟨hHeld.1.alloc _, hHeld.2.alloc _⟩ (fun hHeld => ?_)
        clear hK
        try simp only [Act.put, List.getElem_toArray, List.getElem_cons_succ, List.getElem_cons_zero, List.setIfInBounds_toArray, List.set_cons_zero, List.set_cons_succ]
        generalize w3.heap.size = g2 at hN ⊢
        generalize w3.alloc (.cells #[.int .i64 key, .int .u32 d, .int .i64 v] 140) = W3 at hN hv1 hHeld ⊢
        refine AnyU.one (i := 14) rfl (by kernel_rfl) (fun K hK => ?_)
        simp only [List.getElem_toArray, List.getElem_cons_succ, List.getElem_cons_zero]
        rw [if_pos (by rfl)]
        refine wp_append_src _ _ 100 140 rfl i0 (.agg #[.int .i64 0, .int .u32 0, .int .i64 0]) 3 24 Try.underlying100 hi hz0 hz1 hz2 rfl (by decide) w.heap.size v1 0 (itCells (([] : List It).take 0)) rfl hv1 (.slice (some ⟨g2, 0, none⟩) 1 1) 1 [.int .i64 key, .int .u32 d, .int .i64 v] rfl (Src.one hN 1) rfl (by simp [Value.oneCell']) (by unfold maxLen; omega) (by omega) hHeld.2.size ?_
        intro v2 w4 hv2 hO4'
        have hO4 := hO4'.mono (T := (w.heap.size ≤ ·)) (fun y _ e => row_base hv1 y e)
        have hrb := H.out.lt
        refine hK.out _ w4 ⟨hHeld.1.only hO4 (by omega), hHeld.2.andThen hO4 (fun i hi e => by omega)⟩ (fun hHeld => ?_)
        clear hK hO4 hO4' hN hv1
        try simp only [Act.put, List.getElem_toArray, List.getElem_cons_succ, List.getElem_cons_zero, List.setIfInBounds_toArray, List.set_cons_zero, List.set_cons_succ]
        refine AnyU.one (i := 21) rfl (by kernel_rfl) (fun K hK => ?_)
        simp only [List.getElem_toArray, List.getElem_cons_succ, List.getElem_cons_zero]
        rw [if_pos (by rfl)]
        refine wp_append_src _ _ 100 140 rfl i0 (.agg #[.int .i64 0, .int .u32 0, .int .i64 0]) 3 24 Try.underlying100 hi hz0 hz1 hz2 rfl (by decide) w.heap.size v2 (0 + 1) (itCells (([] : List It).take 0) ++ [.int .i64 key, .int .u32 d, .int .i64 v]) rfl hv2 (.slice none 0 0) (0 - 0) (itCells (([] : List It).drop 0)) rfl (HS2.out.adds hHeld.2) (by rw [itCells_len, List.length_drop]; first | rfl | (have := HXN.out; omega)) (itCells_one _) (by unfold maxLen; omega) (by omega) hHeld.2.size ?_
        intro v3 w5 hv3 hO5'
        have hO5 := hO5'.mono (T := (w.heap.size ≤ ·)) (fun y _ e => row_base hv2 y e)
        obtain ⟨k3, hk3⟩ : ∃ k3, 0 + 1 + (0 - 0) = k3 := ⟨_, rfl⟩
        rw [hk3] at hv3
        have HK3 := Lib.hid hk3
        clear hk3
        refine hK.out _ w5 ⟨hHeld.1.only hO5 (by omega), hHeld.2.andThen hO5 (fun i hi e => by omega)⟩ (fun hHeld => ?_)
        clear hK hO5 hO5' hv2
        try simp only [Act.put, List.getElem_toArray, List.getElem_cons_succ, List.getElem_cons_zero, List.setIfInBounds_toArray, List.set_cons_zero, List.set_cons_succ]
        have hv3b := row_base hv3
        obtain ⟨a3, c3, rfl⟩ := ownsRow_opened hv3
        refine AnyU.one (i := 22) rfl (by kernel_rfl) (fun K hK => ?_)
        simp only [List.getElem_toArray, List.getElem_cons_succ, List.getElem_cons_zero]
        go_simp
        refine hK.out _ _ hHeld (fun hHeld => ?_)
        clear hK
        try simp only [Act.put, List.getElem_toArray, List.getElem_cons_succ, List.getElem_cons_zero, List.setIfInBounds_toArray, List.set_cons_zero, List.set_cons_succ]
        refine AnyU.one (i := 23) rfl (by kernel_rfl) (fun K hK => ?_)
        simp only [List.getElem_toArray, List.getElem_cons_succ, List.getElem_cons_zero]
        go_simp
        refine hK.out _ _ hHeld (fun hHeld => ?_)
        clear hK
        try simp only [Act.put, List.getElem_toArray, List.getElem_cons_succ, List.getElem_cons_zero, List.setIfInBounds_toArray, List.set_cons_zero, List.set_cons_succ]
        have q1 : w5.cell? ⟨rb, 1, none⟩ = some (.slice none 0 0) := hHeld.1.cell 1
        have f1 := hHeld.1.frozen 1
        refine AnyU.last rfl (by kernel_rfl) (fun K hK => ?_)
        simp only [List.getElem_toArray, List.getElem_cons_succ, List.getElem_cons_zero]
        go_simp
        refine hK.out _ _ ?_
        clear hK
        refine AnyU.done (by kernel_rfl) ?_ _
        go_wp2_with fail
        go_ret
        refine ⟨rfl, ⟨_, hHeld.1.setCell 1 (.slice a3 k3 c3), ?_⟩, (hHeld.2.mono (T := (· = rb)) (fun _ _ e => e.elim)).setCell (p := ⟨rb, 1, none⟩) (.inl rfl) _⟩
        have h9 := (row_only2 hv3 ((Only.refl (· = rb) w5).setCell (p := ⟨rb, 1, none⟩) (.inl rfl) (.slice a3 k3 c3)) (fun g hg e => by have := hv3b g hg; have := H.out.lt; omega))
        have e1 : k3 = ([] : List It).length + 1 := by exact HK3.out.symm
        rw [itCells_append, itCells]
        rw [e1] at h9 ⊢
        simpa using h9
      · simp only [List.getElem_toArray, List.getElem_cons_succ, List.getElem_cons_zero]
        go_simp
        have hN : Blk (W1.alloc (.cells #[.int .i64 key, .int .u32 d, .int .i64 v] 140)) W1.heap.size #[.int .i64 key, .int .u32 d, .int .i64 v] 140 := Blk.new W1 _ _
        have hls := hE.lt
        have hE := hE.alloc (.cells #[.int .i64 key, .int .u32 d, .int .i64 v] 140)
        refine hK.out _ (W1.alloc (.cells #[.int .i64 key, .int .u32 d, .int .i64 v] 140)) ⟨hHeld.1.alloc _, hHeld.2.alloc _⟩ (fun hHeld => ?_)
        clear hK
        try simp only [Act.put, List.getElem_toArray, List.getElem_cons_succ, List.getElem_cons_zero, List.setIfInBounds_toArray, List.set_cons_zero, List.set_cons_succ]
        have hgz : w.heap.size ≤ W1.heap.size := hW1
        generalize hg2 : W1.heap.size = g2 at hN hls hgz ⊢
        generalize W1.alloc (.cells #[.int .i64 key, .int .u32 d, .int .i64 v] 140) = W2 at hE hN hHeld ⊢
        refine AnyU.one (i := 8) rfl (by kernel_rfl) (fun K hK => ?_)
        simp only [List.getElem_toArray, List.getElem_cons_succ, List.getElem_cons_zero]
        rw [if_pos (by rfl)]
        have hEg : w.heap.size ≤ w.heap.size := Nat.le_refl _
        refine wp_append_src _ _ 100 140 rfl i0 (.agg #[.int .i64 0, .int .u32 0, .int .i64 0]) 3 24 Try.underlying100 hi hz0 hz1 hz2 rfl (by decide) w.heap.size _ 0 [] rfl (owns_emptyB hE hEg 3) (.slice none 0 0) 0 (itCells (([] : List It).take 0)) rfl (HS1.out.adds hHeld.2) (by rw [itCells_len, List.length_take]; first | rfl | (have := HXN.out; omega)) (itCells_one _) (by unfold maxLen; omega) (by omega) hHeld.2.size ?_
        intro v1 w3 hv1 hO'
        have hO := hO'.mono (T := (w.heap.size ≤ ·)) (fun y _ e => row_base (owns_emptyB hE hEg 3) y e)
        rw [Nat.zero_add, List.nil_append] at hv1
        have hrb := H.out.lt
        have hN := hN.only hO' (fun e => by have e2 : some g2 = some w.heap.size := e; have := Option.some.inj e2; omega)
        refine hK.out _ w3 ⟨hHeld.1.only hO (by omega), hHeld.2.andThen hO (fun i hi e => by omega)⟩ (fun hHeld => ?_)
        clear hK hO hO' hE
        try simp only [Act.put, List.getElem_toArray, List.getElem_cons_succ, List.getElem_cons_zero, List.setIfInBounds_toArray, List.set_cons_zero, List.set_cons_succ]
        refine AnyU.one (i := 14) rfl (by kernel_rfl) (fun K hK => ?_)
        simp only [List.getElem_toArray, List.getElem_cons_succ, List.getElem_cons_zero]
        rw [if_pos (by rfl)]
        refine wp_append_src _ _ 100 140 rfl i0 (.agg #[.int .i64 0, .int .u32 0, .int .i64 0]) 3 24 Try.underlying100 hi hz0 hz1 hz2 rfl (by decide) w.heap.size v1 0 (itCells (([] : List It).take 0)) rfl hv1 (.slice (some ⟨g2, 0, none⟩) 1 1) 1 [.int .i64 key, .int .u32 d, .int .i64 v] rfl (Src.one hN 1) rfl (by simp [Value.oneCell']) (by unfold maxLen; omega) (by omega) hHeld.2.size ?_
        intro v2 w4 hv2 hO4'
        have hO4 := hO4'.mono (T := (w.heap.size ≤ ·)) (fun y _ e => row_base hv1 y e)
        have hrb := H.out.lt
        refine hK.out _ w4 ⟨hHeld.1.only hO4 (by omega), hHeld.2.andThen hO4 (fun i hi e => by omega)⟩ (fun hHeld => ?_)
        clear hK hO4 hO4' hN hv1
        try simp only [Act.put, List.getElem_toArray, List.getElem_cons_succ, List.getElem_cons_zero, List.setIfInBounds_toArray, List.set_cons_zero, List.set_cons_succ]
        refine AnyU.one (i := 21) rfl (by kernel_rfl) (fun K hK => ?_)
        simp only [List.getElem_toArray, List.getElem_cons_succ, List.getElem_cons_zero]
        rw [if_pos (by rfl)]
        refine wp_append_src _ _ 100 140 rfl i0 (.agg #[.int .i64 0, .int .u32 0, .int .i64 0]) 3 24 Try.underlying100 hi hz0 hz1 hz2 rfl (by decide) w.heap.size v2 (0 + 1) (itCells (([] : List It).take 0) ++ [.int .i64 key, .int .u32 d, .int .i64 v]) rfl hv2 (.slice none 0 0) (0 - 0) (itCells (([] : List It).drop 0)) rfl (HS2.out.adds hHeld.2) (by rw [itCells_len, List.length_drop]; first | rfl | (have := HXN.out; omega)) (itCells_one _) (by unfold maxLen; omega) (by omega) hHeld.2.size ?_
        intro v3 w5 hv3 hO5'
        have hO5 := hO5'.mono (T := (w.heap.size ≤ ·)) (fun y _ e => row_base hv2 y e)
        obtain ⟨k3, hk3⟩ : ∃ k3, 0 + 1 + (0 - 0) = k3 := ⟨_, rfl⟩
        rw [hk3] at hv3
        have HK3 := Lib.hid hk3
        clear hk3
        refine hK.out _ w5 ⟨hHeld.1.only hO5 (by omega), hHeld.2.andThen hO5 (fun i hi e => by omega)⟩ (fun hHeld => ?_)
        clear hK hO5 hO5' hv2
        try simp only [Act.put, List.getElem_toArray, List.getElem_cons_succ, List.getElem_cons_zero, List.setIfInBounds_toArray, List.set_cons_zero, List.set_cons_succ]
        have hv3b := row_base hv3
        obtain ⟨a3, c3, rfl⟩ := ownsRow_opened hv3
        refine AnyU.one (i := 22) rfl (by kernel_rfl) (fun K hK => ?_)
        simp only [List.getElem_toArray, List.getElem_cons_succ, List.getElem_cons_zero]
        go_simp
        refine hK.out _ _ hHeld (fun hHeld => ?_)
        clear hK
        try simp only [Act.put, List.getElem_toArray, List.getElem_cons_succ, List.getElem_cons_zero, List.setIfInBounds_toArray, List.set_cons_zero, List.set_cons_succ]
        refine AnyU.one (i := 23) rfl (by kernel_rfl) (fun K hK => ?_)
        simp only [List.getElem_toArray, List.getElem_cons_succ, List.getElem_cons_zero]
        go_simp
        refine hK.out _ _ hHeld (fun hHeld => ?_)
        clear hK
        try simp only [Act.put, List.getElem_toArray, List.getElem_cons_succ, List.getElem_cons_zero, List.setIfInBounds_toArray, List.set_cons_zero, List.set_cons_succ]
        have q1 : w5.cell? ⟨rb, 1, none⟩ = some (.slice none 0 0) := hHeld.1.cell 1
        have f1 := hHeld.1.frozen 1
        refine AnyU.last rfl (by kernel_rfl) (fun K hK => ?_)
        simp only [List.getElem_toArray, List.getElem_cons_succ, List.getElem_cons_zero]
        go_simp
        refine hK.out _ _ ?_
        clear hK
        refine AnyU.done (by kernel_rfl) ?_ _
        go_wp2_with fail
        go_ret
        refine ⟨rfl, ⟨_, hHeld.1.setCell 1 (.slice a3 k3 c3), ?_⟩, (hHeld.2.mono (T := (· = rb)) (fun _ _ e => e.elim)).setCell (p := ⟨rb, 1, none⟩) (.inl rfl) _⟩
        have h9 := (row_only2 hv3 ((Only.refl (· = rb) w5).setCell (p := ⟨rb, 1, none⟩) (.inl rfl) (.slice a3 k3 c3)) (fun g hg e => by have := hv3b g hg; have := H.out.lt; omega))
        have e1 : k3 = ([] : List It).length + 1 := by exact HK3.out.symm
        rw [itCells_append, itCells]
        rw [e1] at h9 ⊢
        simpa using h9
    · simp only [List.getElem_toArray, List.getElem_cons_succ, List.getElem_cons_zero]
      go_simp
      have hN : Blk (w.drew.alloc (.cells #[.int .i64 key, .int .u32 d, .int .i64 v] 140)) w.heap.size #[.int .i64 key, .int .u32 d, .int .i64 v] 140 := Blk.new w.drew _ _
      refine hK.out _ (w.drew.alloc (.cells #[.int .i64 key, .int .u32 d, .int .i64 v] 140)) ⟨hHeld.1.alloc _, hHeld.2.alloc _⟩ (fun hHeld => ?_)
      clear hK
      try simp only [Act.put, List.getElem_toArray, List.getElem_cons_succ, List.getElem_cons_zero, List.setIfInBounds_toArray, List.set_cons_zero, List.set_cons_succ]
      generalize w.drew.alloc (.cells #[.int .i64 key, .int .u32 d, .int .i64 v] 140) = W1 at hN hHeld ⊢
      have hW1 : w.heap.size ≤ W1.heap.size := hHeld.2.size
      refine AnyU.one (i := 1) rfl (by kernel_rfl) (fun K hK => ?_)
      simp only [List.getElem_toArray, List.getElem_cons_succ, List.getElem_cons_zero]
      go_simp
      have hE : Blk (W1.alloc (.cells #[] 140)) W1.heap.size #[] 140 := Blk.new W1 _ _
      have hls := hN.lt
      have hN := hN.alloc (.cells #[] 140)
      refine hK.out _ (W1.alloc (.cells #[] 140)) ⟨hHeld.1.alloc _, hHeld.2.alloc _⟩ (fun hHeld => ?_)
      clear hK
      try simp only [Act.put, List.getElem_toArray, List.getElem_cons_succ, List.getElem_cons_zero, List.setIfInBounds_toArray, List.set_cons_zero, List.set_cons_succ]
      generalize hg2 : W1.heap.size = g1 at hE hls ⊢
      generalize W1.alloc (.cells #[] 140) = W2 at hE hN hHeld ⊢
      have hEg : w.heap.size ≤ g1 := by omega
      refine AnyU.one (i := 8) rfl (by kernel_rfl) (fun K hK => ?_)
      simp only [List.getElem_toArray, List.getElem_cons_succ, List.getElem_cons_zero]
      rw [if_pos (by rfl)]
      refine wp_append_src _ _ 100 140 rfl i0 (.agg #[.int .i64 0, .int .u32 0, .int .i64 0]) 3 24 Try.underlying100 hi hz0 hz1 hz2 rfl (by decide) w.heap.size _ 0 [] rfl (owns_emptyB hE hEg 3) (.slice none 0 0) 0 (itCells (([] : List It).take 0)) rfl (HS1.out.adds hHeld.2) (by rw [itCells_len, List.length_take]; first | rfl | (have := HXN.out; omega)) (itCells_one _) (by unfold maxLen; omega) (by omega) hHeld.2.size ?_
      intro v1 w3 hv1 hO'
      have hO := hO'.mono (T := (w.heap.size ≤ ·)) (fun y _ e => row_base (owns_emptyB hE hEg 3) y e)
      rw [Nat.zero_add, List.nil_append] at hv1
      have hrb := H.out.lt
      have hN := hN.only hO' (fun e => by have e2 : some w.heap.size = some g1 := e; have := Option.some.inj e2; omega)
      refine hK.out _ w3 ⟨hHeld.1.only hO (by omega), hHeld.2.andThen hO (fun i hi e => by omega)⟩ (fun hHeld => ?_)
      clear hK hO hO' hE
      try simp only [Act.put, List.getElem_toArray, List.getElem_cons_succ, List.getElem_cons_zero, List.setIfInBounds_toArray, List.set_cons_zero, List.set_cons_succ]
      generalize hg3 : w.heap.size = g2 at hN ⊢
      refine AnyU.one (i := 14) rfl (by kernel_rfl) (fun K hK => ?_)
      simp only [List.getElem_toArray, List.getElem_cons_succ, List.getElem_cons_zero]
      rw [if_pos (by rfl)]
      refine wp_append_src _ _ 100 140 rfl i0 (.agg #[.int .i64 0, .int .u32 0, .int .i64 0]) 3 24 Try.underlying100 hi hz0 hz1 hz2 rfl (by decide) w.heap.size v1 0 (itCells (([] : List It).take 0)) rfl hv1 (.slice (some ⟨g2, 0, none⟩) 1 1) 1 [.int .i64 key, .int .u32 d, .int .i64 v] rfl (Src.one hN 1) rfl (by simp [Value.oneCell']) (by unfold maxLen; omega) (by omega) hHeld.2.size ?_
      intro v2 w4 hv2 hO4'
      have hO4 := hO4'.mono (T := (w.heap.size ≤ ·)) (fun y _ e => row_base hv1 y e)
      have hrb := H.out.lt
      refine hK.out _ w4 ⟨hHeld.1.only hO4 (by omega), hHeld.2.andThen hO4 (fun i hi e => by omega)⟩ (fun hHeld => ?_)
      clear hK hO4 hO4' hN hv1
      try simp only [Act.put, List.getElem_toArray, List.getElem_cons_succ, List.getElem_cons_zero, List.setIfInBounds_toArray, List.set_cons_zero, List.set_cons_succ]
      refine AnyU.one (i := 21) rfl (by kernel_rfl) (fun K hK => ?_)
      simp only [List.getElem_toArray, List.getElem_cons_succ, List.getElem_cons_zero]
      rw [if_pos (by rfl)]
      refine wp_append_src _ _ 100 140 rfl i0 (.agg #[.int .i64 0, .int .u32 0, .int .i64 0]) 3 24 Try.underlying100 hi hz0 hz1 hz2 rfl (by decide) w.heap.size v2 (0 + 1) (itCells (([] : List It).take 0) ++ [.int .i64 key, .int .u32 d, .int .i64 v]) rfl hv2 (.slice none 0 0) (0 - 0) (itCells (([] : List It).drop 0)) rfl (HS2.out.adds hHeld.2) (by rw [itCells_len, List.length_drop]; first | rfl | (have := HXN.out; omega)) (itCells_one _) (by unfold maxLen; omega) (by omega) hHeld.2.size ?_
      intro v3 w5 hv3 hO5'
      have hO5 := hO5'.mono (T := (w.heap.size ≤ ·)) (fun y _ e => row_base hv2 y e)
      obtain ⟨k3, hk3⟩ : ∃ k3, 0 + 1 + (0 - 0) = k3 := ⟨_, rfl⟩
      rw [hk3] at hv3
      have HK3 := Lib.hid hk3
      clear hk3
      refine hK.out _ w5 ⟨hHeld.1.only hO5 (by omega), hHeld.2.andThen hO5 (fun i hi e => by omega)⟩ (fun hHeld => ?_)
      clear hK hO5 hO5' hv2
      try simp only [Act.put, List.getElem_toArray, List.getElem_cons_succ, List.getElem_cons_zero, List.setIfInBounds_toArray, List.set_cons_zero, List.set_cons_succ]
      have hv3b := row_base hv3
      obtain ⟨a3, c3, rfl⟩ := ownsRow_opened hv3
      refine AnyU.one (i := 22) rfl (by kernel_rfl) (fun K hK => ?_)
      simp only [List.getElem_toArray, List.getElem_cons_succ, List.getElem_cons_zero]
      go_simp
      refine hK.out _ _ hHeld (fun hHeld => ?_)
      clear hK
      try simp only [Act.put, List.getElem_toArray, List.getElem_cons_succ, List.getElem_cons_zero, List.setIfInBounds_toArray, List.set_cons_zero, List.set_cons_succ]
      refine AnyU.one (i := 23) rfl (by kernel_rfl) (fun K hK => ?_)
      simp only [List.getElem_toArray, List.getElem_cons_succ, List.getElem_cons_zero]
      go_simp
      refine hK.out _ _ hHeld (fun hHeld => ?_)
      clear hK
      try simp only [Act.put, List.getElem_toArray, List.getElem_cons_succ, List.getElem_cons_zero, List.setIfInBounds_toArray, List.set_cons_zero, List.set_cons_succ]
      have q1 : w5.cell? ⟨rb, 1, none⟩ = some (.slice none 0 0) := hHeld.1.cell 1
      have f1 := hHeld.1.frozen 1
      refine AnyU.last rfl (by kernel_rfl) (fun K hK => ?_)
      simp only [List.getElem_toArray, List.getElem_cons_succ, List.getElem_cons_zero]
      go_simp
      refine hK.out _ _ ?_
      clear hK
      refine AnyU.done (by kernel_rfl) ?_ _
      go_wp2_with fail
      go_ret
      refine ⟨rfl, ⟨_, hHeld.1.setCell 1 (.slice a3 k3 c3), ?_⟩, (hHeld.2.mono (T := (· = rb)) (fun _ _ e => e.elim)).setCell (p := ⟨rb, 1, none⟩) (.inl rfl) _⟩
      have h9 := (row_only2 hv3 ((Only.refl (· = rb) w5).setCell (p := ⟨rb, 1, none⟩) (.inl rfl) (.slice a3 k3 c3)) (fun g hg e => by have := hv3b g hg; have := H.out.lt; omega))
      have e1 : k3 = ([] : List It).length + 1 := by exact HK3.out.symm
      rw [itCells_append, itCells]
      rw [e1] at h9 ⊢
      simpa using h9
  · have hS1 : Src w (.slice (some ⟨lg, 0, none⟩) p lc) p (itCells (xs.take p)) := by have hh := HIT.out; rw [HXN.out] at hh hple; exact hh.take _ hple
    obtain ⟨sa, hsa⟩ : ∃ sa, (if lc = p then (some (⟨lg, 0, none⟩ : Addr)) else some ⟨lg, p * 3, none⟩) = some ⟨lg, sa, none⟩ := by split; exact ⟨_, rfl⟩; exact ⟨_, rfl⟩
    have hS2 : Src w (.slice (some ⟨lg, sa, none⟩) (xn - p) (lc - p)) (xn - p) (itCells (xs.drop p)) := by
      split at hsa
      · refine .inr (.inl ⟨lg, sa, lc - p, rfl, fun j u hj => ?_⟩)
        have := (List.getElem?_eq_some_iff.1 hj).1
        rw [itCells_len, List.length_drop] at this
        have := HXN.out; omega
      · obtain rfl : p * 3 = sa := by simpa using hsa
        have hh := HIT.out; rw [HXN.out] at hh ⊢; have := hh.drop (p := p) (lc - p); rwa [Nat.zero_add] at this
    have hpl : p ≤ lc := by omega
    have hpn : ¬ lc < p := by omega
    have HS1 := Lib.hid hS1; have HS2 := Lib.hid hS2
    clear hS1 hS2 hxn
    go_enter Try.func86, Try.ntmps86
    go_upto_region 4 with (first
      | (go_at_call 87; refine HH.out.mono ?_; rintro e w1 ⟨rfl, rfl⟩)
      | (go_at_call 88; refine HP.out.mono ?_; rintro e w2 ⟨rfl, rfl⟩))
    refine AnyU.region (S := (fun W => Blk W rb (rCells fr (.slice (some ⟨lg, 0, none⟩) xn lc) dr n) 104 ∧ Adds w W)) (k := 24) (by kernel_rfl) ⟨H.out.only ((Only.refl (fun _ => False) w).drew) (id : ¬ False), (Only.refl (fun _ => False) w).drew⟩ (fun hHeld => ?_)
    refine AnyU.take (i := 0) (v := (.pointer (some ⟨rb, 1, none⟩))) rfl rfl (by kernel_rfl) (by kernel_rfl) (by kernel_rfl) (by kernel_rfl) (by kernel_rfl) (by decide) (fun _ _ _ h => h) (Or.inl ⟨by rfl, fun W hS => by first | rfl | (go_simp; done)⟩) hHeld ?_
    try simp only [Act.put, List.getElem_toArray, List.getElem_cons_succ, List.getElem_cons_zero, List.setIfInBounds_toArray, List.set_cons_zero, List.set_cons_succ]
    refine AnyU.take (i := 2) (v := (.pointer (some ⟨rb, 1, none⟩))) rfl rfl (by kernel_rfl) (by kernel_rfl) (by kernel_rfl) (by kernel_rfl) (by kernel_rfl) (by decide) (fun _ _ _ h => h) (Or.inl ⟨by rfl, fun W hS => by first | rfl | (go_simp; done)⟩) hHeld ?_
    try simp only [Act.put, List.getElem_toArray, List.getElem_cons_succ, List.getElem_cons_zero, List.setIfInBounds_toArray, List.set_cons_zero, List.set_cons_succ]
    refine AnyU.take (i := 3) (v := (.pointer (some ⟨rb, 1, none⟩))) rfl rfl (by kernel_rfl) (by kernel_rfl) (by kernel_rfl) (by kernel_rfl) (by kernel_rfl) (by decide) (fun _ _ _ h => h) (Or.inl ⟨by rfl, fun W hS => by first | rfl | (go_simp; done)⟩) hHeld ?_
    try simp only [Act.put, List.getElem_toArray, List.getElem_cons_succ, List.getElem_cons_zero, List.setIfInBounds_toArray, List.set_cons_zero, List.set_cons_succ]
    refine AnyU.take (i := 4) (v := (.pointer (some ⟨rb, 1, none⟩))) rfl rfl (by kernel_rfl) (by kernel_rfl) (by kernel_rfl) (by kernel_rfl) (by kernel_rfl) (by decide) (fun _ _ _ h => h) (Or.inl ⟨by rfl, fun W hS => by first | rfl | (go_simp; done)⟩) hHeld ?_
    try simp only [Act.put, List.getElem_toArray, List.getElem_cons_succ, List.getElem_cons_zero, List.setIfInBounds_toArray, List.set_cons_zero, List.set_cons_succ]
    refine AnyU.take (i := 5) (v := (.slice (some ⟨lg, 0, none⟩) xn lc)) rfl rfl (by kernel_rfl) (by kernel_rfl) (by kernel_rfl) (by kernel_rfl) (by kernel_rfl) (by decide) (fun _ _ _ h => h) (Or.inl ⟨by rfl, fun W hS => by (have q1 : W.cell? ⟨rb, 1, none⟩ = some (.slice (some ⟨lg, 0, none⟩) xn lc) := hS.1.cell 1; go_simp)⟩) hHeld ?_
    try simp only [Act.put, List.getElem_toArray, List.getElem_cons_succ, List.getElem_cons_zero, List.setIfInBounds_toArray, List.set_cons_zero, List.set_cons_succ]
    refine AnyU.take (i := 6) (v := (.int .i64 p)) rfl rfl (by kernel_rfl) (by kernel_rfl) (by kernel_rfl) (by kernel_rfl) (by kernel_rfl) (by decide) (fun _ _ _ h => h) (Or.inl ⟨by rfl, fun W hS => by first | rfl | (go_simp; done)⟩) hHeld ?_
    try simp only [Act.put, List.getElem_toArray, List.getElem_cons_succ, List.getElem_cons_zero, List.setIfInBounds_toArray, List.set_cons_zero, List.set_cons_succ]
    refine AnyU.take (i := 7) (v := (.slice (some ⟨lg, 0, none⟩) p lc)) rfl rfl (by kernel_rfl) (by kernel_rfl) (by kernel_rfl) (by kernel_rfl) (by kernel_rfl) (by decide) (fun _ _ _ h => h) (Or.inl ⟨by rfl, fun W hS => by (go_simp)⟩) hHeld ?_
    try simp only [Act.put, List.getElem_toArray, List.getElem_cons_succ, List.getElem_cons_zero, List.setIfInBounds_toArray, List.set_cons_zero, List.set_cons_succ]
    refine AnyU.take (i := 9) (v := (.int .i64 key)) rfl rfl (by kernel_rfl) (by kernel_rfl) (by kernel_rfl) (by kernel_rfl) (by kernel_rfl) (by decide) (fun _ _ _ h => h) (Or.inl ⟨by rfl, fun W hS => by first | rfl | (go_simp; done)⟩) hHeld ?_
    try simp only [Act.put, List.getElem_toArray, List.getElem_cons_succ, List.getElem_cons_zero, List.setIfInBounds_toArray, List.set_cons_zero, List.set_cons_succ]
    refine AnyU.take (i := 10) (v := (.int .u32 d)) rfl rfl (by kernel_rfl) (by kernel_rfl) (by kernel_rfl) (by kernel_rfl) (by kernel_rfl) (by decide) (fun _ _ _ h => h) (Or.inl ⟨by rfl, fun W hS => by first | rfl | (go_simp; done)⟩) hHeld ?_
    try simp only [Act.put, List.getElem_toArray, List.getElem_cons_succ, List.getElem_cons_zero, List.setIfInBounds_toArray, List.set_cons_zero, List.set_cons_succ]
    refine AnyU.take (i := 11) (v := (.int .i64 v)) rfl rfl (by kernel_rfl) (by kernel_rfl) (by kernel_rfl) (by kernel_rfl) (by kernel_rfl) (by decide) (fun _ _ _ h => h) (Or.inl ⟨by rfl, fun W hS => by first | rfl | (go_simp; done)⟩) hHeld ?_
    try simp only [Act.put, List.getElem_toArray, List.getElem_cons_succ, List.getElem_cons_zero, List.setIfInBounds_toArray, List.set_cons_zero, List.set_cons_succ]
    refine AnyU.take (i := 12) (v := (.agg #[.int .i64 key, .int .u32 d, .int .i64 v])) rfl rfl (by kernel_rfl) (by kernel_rfl) (by kernel_rfl) (by kernel_rfl) (by kernel_rfl) (by decide) (fun _ _ _ h => h) (Or.inl ⟨by rfl, fun W hS => by (go_simp; done)⟩) hHeld ?_
    try simp only [Act.put, List.getElem_toArray, List.getElem_cons_succ, List.getElem_cons_zero, List.setIfInBounds_toArray, List.set_cons_zero, List.set_cons_succ]
    refine AnyU.take (i := 15) (v := (.pointer (some ⟨rb, 1, none⟩))) rfl rfl (by kernel_rfl) (by kernel_rfl) (by kernel_rfl) (by kernel_rfl) (by kernel_rfl) (by decide) (fun _ _ _ h => h) (Or.inl ⟨by rfl, fun W hS => by first | rfl | (go_simp; done)⟩) hHeld ?_
    try simp only [Act.put, List.getElem_toArray, List.getElem_cons_succ, List.getElem_cons_zero, List.setIfInBounds_toArray, List.set_cons_zero, List.set_cons_succ]
    refine AnyU.take (i := 16) (v := (.pointer (some ⟨rb, 1, none⟩))) rfl rfl (by kernel_rfl) (by kernel_rfl) (by kernel_rfl) (by kernel_rfl) (by kernel_rfl) (by decide) (fun _ _ _ h => h) (Or.inl ⟨by rfl, fun W hS => by first | rfl | (go_simp; done)⟩) hHeld ?_
    try simp only [Act.put, List.getElem_toArray, List.getElem_cons_succ, List.getElem_cons_zero, List.setIfInBounds_toArray, List.set_cons_zero, List.set_cons_succ]
    refine AnyU.take (i := 17) (v := (.pointer (some ⟨rb, 1, none⟩))) rfl rfl (by kernel_rfl) (by kernel_rfl) (by kernel_rfl) (by kernel_rfl) (by kernel_rfl) (by decide) (fun _ _ _ h => h) (Or.inl ⟨by rfl, fun W hS => by first | rfl | (go_simp; done)⟩) hHeld ?_
    try simp only [Act.put, List.getElem_toArray, List.getElem_cons_succ, List.getElem_cons_zero, List.setIfInBounds_toArray, List.set_cons_zero, List.set_cons_succ]
    refine AnyU.take (i := 18) (v := (.slice (some ⟨lg, 0, none⟩) xn lc)) rfl rfl (by kernel_rfl) (by kernel_rfl) (by kernel_rfl) (by kernel_rfl) (by kernel_rfl) (by decide) (fun _ _ _ h => h) (Or.inl ⟨by rfl, fun W hS => by (have q1 : W.cell? ⟨rb, 1, none⟩ = some (.slice (some ⟨lg, 0, none⟩) xn lc) := hS.1.cell 1; go_simp)⟩) hHeld ?_
    try simp only [Act.put, List.getElem_toArray, List.getElem_cons_succ, List.getElem_cons_zero, List.setIfInBounds_toArray, List.set_cons_zero, List.set_cons_succ]
    refine AnyU.take (i := 19) (v := (.int .i64 p)) rfl rfl (by kernel_rfl) (by kernel_rfl) (by kernel_rfl) (by kernel_rfl) (by kernel_rfl) (by decide) (fun _ _ _ h => h) (Or.inl ⟨by rfl, fun W hS => by first | rfl | (go_simp; done)⟩) hHeld ?_
    try simp only [Act.put, List.getElem_toArray, List.getElem_cons_succ, List.getElem_cons_zero, List.setIfInBounds_toArray, List.set_cons_zero, List.set_cons_succ]
    refine AnyU.take (i := 20) (v := (.slice (some ⟨lg, sa, none⟩) (xn - p) (lc - p))) rfl rfl (by kernel_rfl) (by kernel_rfl) (by kernel_rfl) (by kernel_rfl) (by kernel_rfl) (by decide) (fun _ _ _ h => h) (Or.inl ⟨by rfl, fun W hS => by (go_simp; done)⟩) hHeld ?_
    try simp only [Act.put, List.getElem_toArray, List.getElem_cons_succ, List.getElem_cons_zero, List.setIfInBounds_toArray, List.set_cons_zero, List.set_cons_succ]
    refine AnyU.two (i := 1) (j := 13) rfl rfl (by kernel_rfl) (fun K hK => ?_) (fun K hK => ?_)
    · simp only [List.getElem_toArray, List.getElem_cons_succ, List.getElem_cons_zero]
      go_simp
      have hE : Blk (w.drew.alloc (.cells #[] 140)) w.heap.size #[] 140 := Blk.new w.drew _ _
      refine hK.out _ (w.drew.alloc (.cells #[] 140)) ⟨hHeld.1.alloc _, hHeld.2.alloc _⟩ (fun hHeld => ?_)
      clear hK
      try simp only [Act.put, List.getElem_toArray, List.getElem_cons_succ, List.getElem_cons_zero, List.setIfInBounds_toArray, List.set_cons_zero, List.set_cons_succ]
      generalize w.drew.alloc (.cells #[] 140) = W1 at hE hHeld ⊢
      have hW1 : w.heap.size ≤ W1.heap.size := hHeld.2.size
      refine AnyU.two (i := 8) (j := 13) rfl rfl (by kernel_rfl) (fun K hK => ?_) (fun K hK => ?_)
      · simp only [List.getElem_toArray, List.getElem_cons_succ, List.getElem_cons_zero]
        rw [if_pos (by rfl)]
        have hEg : w.heap.size ≤ w.heap.size := Nat.le_refl _
        refine wp_append_src _ _ 100 140 rfl i0 (.agg #[.int .i64 0, .int .u32 0, .int .i64 0]) 3 24 Try.underlying100 hi hz0 hz1 hz2 rfl (by decide) w.heap.size _ 0 [] rfl (owns_emptyB hE hEg 3) (.slice (some ⟨lg, 0, none⟩) p lc) p (itCells (xs.take p)) rfl (HS1.out.adds hHeld.2) (by rw [itCells_len, List.length_take]; first | rfl | (have := HXN.out; omega)) (itCells_one _) (by unfold maxLen; omega) (by omega) hHeld.2.size ?_
        intro v1 w3 hv1 hO'
        have hO := hO'.mono (T := (w.heap.size ≤ ·)) (fun y _ e => row_base (owns_emptyB hE hEg 3) y e)
        rw [Nat.zero_add, List.nil_append] at hv1
        have hrb := H.out.lt
        refine hK.out _ w3 ⟨hHeld.1.only hO (by omega), hHeld.2.andThen hO (fun i hi e => by omega)⟩ (fun hHeld => ?_)
        clear hK hO hO' hE
        try simp only [Act.put, List.getElem_toArray, List.getElem_cons_succ, List.getElem_cons_zero, List.setIfInBounds_toArray, List.set_cons_zero, List.set_cons_succ]
        refine AnyU.one (i := 13) rfl (by kernel_rfl) (fun K hK => ?_)
        simp only [List.getElem_toArray, List.getElem_cons_succ, List.getElem_cons_zero]
        go_simp
        have hN : Blk (w3.alloc (.cells #[.int .i64 key, .int .u32 d, .int .i64 v] 140)) w3.heap.size #[.int .i64 key, .int .u32 d, .int .i64 v] 140 := Blk.new w3 _ _
        have hv1 := row_only2 hv1 ((Only.refl (fun _ => False) w3).alloc (.cells #[.int .i64 key, .int .u32 d, .int .i64 v] 140)) (fun _ _ e => e)
        refine hK.out _ (w3.alloc (.cells #[.int .i64 key, .int .u32 d, .int .i64 v] 140)) ⟨hHeld.1.alloc _, hHeld.2.alloc _⟩ (fun hHeld => ?_)
        clear hK
        try simp only [Act.put, List.getElem_toArray, List.getElem_cons_succ, List.getElem_cons_zero, List.setIfInBounds_toArray, List.set_cons_zero, List.set_cons_succ]
        generalize w3.heap.size = g2 at hN ⊢
        generalize w3.alloc (.cells #[.int .i64 key, .int .u32 d, .int .i64 v] 140) = W3 at hN hv1 hHeld ⊢
        refine AnyU.one (i := 14) rfl (by kernel_rfl) (fun K hK => ?_)
        simp only [List.getElem_toArray, List.getElem_cons_succ, List.getElem_cons_zero]
        rw [if_pos (by rfl)]
        refine wp_append_src _ _ 100 140 rfl i0 (.agg #[.int .i64 0, .int .u32 0, .int .i64 0]) 3 24 Try.underlying100 hi hz0 hz1 hz2 rfl (by decide) w.heap.size v1 p (itCells (xs.take p)) rfl hv1 (.slice (some ⟨g2, 0, none⟩) 1 1) 1 [.int .i64 key, .int .u32 d, .int .i64 v] rfl (Src.one hN 1) rfl (by simp [Value.oneCell']) (by unfold maxLen; omega) (by omega) hHeld.2.size ?_
        intro v2 w4 hv2 hO4'
        have hO4 := hO4'.mono (T := (w.heap.size ≤ ·)) (fun y _ e => row_base hv1 y e)
        have hrb := H.out.lt
        refine hK.out _ w4 ⟨hHeld.1.only hO4 (by omega), hHeld.2.andThen hO4 (fun i hi e => by omega)⟩ (fun hHeld => ?_)
        clear hK hO4 hO4' hN hv1
        try simp only [Act.put, List.getElem_toArray, List.getElem_cons_succ, List.getElem_cons_zero, List.setIfInBounds_toArray, List.set_cons_zero, List.set_cons_succ]
        refine AnyU.one (i := 21) rfl (by kernel_rfl) (fun K hK => ?_)
        simp only [List.getElem_toArray, List.getElem_cons_succ, List.getElem_cons_zero]
        rw [if_pos (by rfl)]
        refine wp_append_src _ _ 100 140 rfl i0 (.agg #[.int .i64 0, .int .u32 0, .int .i64 0]) 3 24 Try.underlying100 hi hz0 hz1 hz2 rfl (by decide) w.heap.size v2 (p + 1) (itCells (xs.take p) ++ [.int .i64 key, .int .u32 d, .int .i64 v]) rfl hv2 (.slice (some ⟨lg, sa, none⟩) (xn - p) (lc - p)) (xn - p) (itCells (xs.drop p)) rfl (HS2.out.adds hHeld.2) (by rw [itCells_len, List.length_drop]; first | rfl | (have := HXN.out; omega)) (itCells_one _) (by unfold maxLen; omega) (by omega) hHeld.2.size ?_
        intro v3 w5 hv3 hO5'
        have hO5 := hO5'.mono (T := (w.heap.size ≤ ·)) (fun y _ e => row_base hv2 y e)
        obtain ⟨k3, hk3⟩ : ∃ k3, p + 1 + (xn - p) = k3 := ⟨_, rfl⟩
        rw [hk3] at hv3
        have HK3 := Lib.hid hk3
        clear hk3
        refine hK.out _ w5 ⟨hHeld.1.only hO5 (by omega), hHeld.2.andThen hO5 (fun i hi e => by omega)⟩ (fun hHeld => ?_)
        clear hK hO5 hO5' hv2
        try simp only [Act.put, List.getElem_toArray, List.getElem_cons_succ, List.getElem_cons_zero, List.setIfInBounds_toArray, List.set_cons_zero, List.set_cons_succ]
        have hv3b := row_base hv3
        obtain ⟨a3, c3, rfl⟩ := ownsRow_opened hv3
        refine AnyU.one (i := 22) rfl (by kernel_rfl) (fun K hK => ?_)
        simp only [List.getElem_toArray, List.getElem_cons_succ, List.getElem_cons_zero]
        go_simp
        refine hK.out _ _ hHeld (fun hHeld => ?_)
        clear hK
        try simp only [Act.put, List.getElem_toArray, List.getElem_cons_succ, List.getElem_cons_zero, List.setIfInBounds_toArray, List.set_cons_zero, List.set_cons_succ]
        refine AnyU.one (i := 23) rfl (by kernel_rfl) (fun K hK => ?_)
        simp only [List.getElem_toArray, List.getElem_cons_succ, List.getElem_cons_zero]
        go_simp
        refine hK.out _ _ hHeld (fun hHeld => ?_)
        clear hK
        try simp only [Act.put, List.getElem_toArray, List.getElem_cons_succ, List.getElem_cons_zero, List.setIfInBounds_toArray, List.set_cons_zero, List.set_cons_succ]
        have q1 : w5.cell? ⟨rb, 1, none⟩ = some (.slice (some ⟨lg, 0, none⟩) xn lc) := hHeld.1.cell 1
        have f1 := hHeld.1.frozen 1
        refine AnyU.last rfl (by kernel_rfl) (fun K hK => ?_)
        simp only [List.getElem_toArray, List.getElem_cons_succ, List.getElem_cons_zero]
        go_simp
        refine hK.out _ _ ?_
        clear hK
        refine AnyU.done (by kernel_rfl) ?_ _
        go_wp2_with fail
        go_ret
        refine ⟨rfl, ⟨_, hHeld.1.setCell 1 (.slice a3 k3 c3), ?_⟩, (hHeld.2.mono (T := (· = rb)) (fun _ _ e => e.elim)).setCell (p := ⟨rb, 1, none⟩) (.inl rfl) _⟩
        have h9 := (row_only2 hv3 ((Only.refl (· = rb) w5).setCell (p := ⟨rb, 1, none⟩) (.inl rfl) (.slice a3 k3 c3)) (fun g hg e => by have := hv3b g hg; have := H.out.lt; omega))
        have e1 : k3 = xs.length + 1 := by have := HXN.out; have := HK3.out; omega
        rw [itCells_append, itCells]
        rw [e1] at h9 ⊢
        simpa only [List.nil_append, List.append_assoc, List.cons_append] using h9
      · simp only [List.getElem_toArray, List.getElem_cons_succ, List.getElem_cons_zero]
        go_simp
        have hN : Blk (W1.alloc (.cells #[.int .i64 key, .int .u32 d, .int .i64 v] 140)) W1.heap.size #[.int .i64 key, .int .u32 d, .int .i64 v] 140 := Blk.new W1 _ _
        have hls := hE.lt
        have hE := hE.alloc (.cells #[.int .i64 key, .int .u32 d, .int .i64 v] 140)
        refine hK.out _ (W1.alloc (.cells #[.int .i64 key, .int .u32 d, .int .i64 v] 140)) ⟨hHeld.1.alloc _, hHeld.2.alloc _⟩ (fun hHeld => ?_)
        clear hK
        try simp only [Act.put, List.getElem_toArray, List.getElem_cons_succ, List.getElem_cons_zero, List.setIfInBounds_toArray, List.set_cons_zero, List.set_cons_succ]
        have hgz : w.heap.size ≤ W1.heap.size := hW1
        generalize hg2 : W1.heap.size = g2 at hN hls hgz ⊢
        generalize W1.alloc (.cells #[.int .i64 key, .int .u32 d, .int .i64 v] 140) = W2 at hE hN hHeld ⊢
        refine AnyU.one (i := 8) rfl (by kernel_rfl) (fun K hK => ?_)
        simp only [List.getElem_toArray, List.getElem_cons_succ, List.getElem_cons_zero]
        rw [if_pos (by rfl)]
        have hEg : w.heap.size ≤ w.heap.size := Nat.le_refl _
        refine wp_append_src _ _ 100 140 rfl i0 (.agg #[.int .i64 0, .int .u32 0, .int .i64 0]) 3 24 Try.underlying100 hi hz0 hz1 hz2 rfl (by decide) w.heap.size _ 0 [] rfl (owns_emptyB hE hEg 3) (.slice (some ⟨lg, 0, none⟩) p lc) p (itCells (xs.take p)) rfl (HS1.out.adds hHeld.2) (by rw [itCells_len, List.length_take]; first | rfl | (have := HXN.out; omega)) (itCells_one _) (by unfold maxLen; omega) (by omega) hHeld.2.size ?_
        intro v1 w3 hv1 hO'
        have hO := hO'.mono (T := (w.heap.size ≤ ·)) (fun y _ e => row_base (owns_emptyB hE hEg 3) y e)
        rw [Nat.zero_add, List.nil_append] at hv1
        have hrb := H.out.lt
        have hN := hN.only hO' (fun e => by have e2 : some g2 = some w.heap.size := e; have := Option.some.inj e2; omega)
        refine hK.out _ w3 ⟨hHeld.1.only hO (by omega), hHeld.2.andThen hO (fun i hi e => by omega)⟩ (fun hHeld => ?_)
        clear hK hO hO' hE
        try simp only [Act.put, List.getElem_toArray, List.getElem_cons_succ, List.getElem_cons_zero, List.setIfInBounds_toArray, List.set_cons_zero, List.set_cons_succ]
        refine AnyU.one (i := 14) rfl (by kernel_rfl) (fun K hK => ?_)
        simp only [List.getElem_toArray, List.getElem_cons_succ, List.getElem_cons_zero]
        rw [if_pos (by rfl)]
        refine wp_append_src _ _ 100 140 rfl i0 (.agg #[.int .i64 0, .int .u32 0, .int .i64 0]) 3 24 Try.underlying100 hi hz0 hz1 hz2 rfl (by decide) w.heap.size v1 p (itCells (xs.take p)) rfl hv1 (.slice (some ⟨g2, 0, none⟩) 1 1) 1 [.int .i64 key, .int .u32 d, .int .i64 v] rfl (Src.one hN 1) rfl (by simp [Value.oneCell']) (by unfold maxLen; omega) (by omega) hHeld.2.size ?_
        intro v2 w4 hv2 hO4'
        have hO4 := hO4'.mono (T := (w.heap.size ≤ ·)) (fun y _ e => row_base hv1 y e)
        have hrb := H.out.lt
        refine hK.out _ w4 ⟨hHeld.1.only hO4 (by omega), hHeld.2.andThen hO4 (fun i hi e => by omega)⟩ (fun hHeld => ?_)
        clear hK hO4 hO4' hN hv1
        try simp only [Act.put, List.getElem_toArray, List.getElem_cons_succ, List.getElem_cons_zero, List.setIfInBounds_toArray, List.set_cons_zero, List.set_cons_succ]
        refine AnyU.one (i := 21) rfl (by kernel_rfl) (fun K hK => ?_)
        simp only [List.getElem_toArray, List.getElem_cons_succ, List.getElem_cons_zero]
        rw [if_pos (by rfl)]
        refine wp_append_src _ _ 100 140 rfl i0 (.agg #[.int .i64 0, .int .u32 0, .int .i64 0]) 3 24 Try.underlying100 hi hz0 hz1 hz2 rfl (by decide) w.heap.size v2 (p + 1) (itCells (xs.take p) ++ [.int .i64 key, .int .u32 d, .int .i64 v]) rfl hv2 (.slice (some ⟨lg, sa, none⟩) (xn - p) (lc - p)) (xn - p) (itCells (xs.drop p)) rfl (HS2.out.adds hHeld.2) (by rw [itCells_len, List.length_drop]; first | rfl | (have := HXN.out; omega)) (itCells_one _) (by unfold maxLen; omega) (by omega) hHeld.2.size ?_
        intro v3 w5 hv3 hO5'
        have hO5 := hO5'.mono (T := (w.heap.size ≤ ·)) (fun y _ e => row_base hv2 y e)
        obtain ⟨k3, hk3⟩ : ∃ k3, p + 1 + (xn - p) = k3 := ⟨_, rfl⟩
        rw [hk3] at hv3
        have HK3 := Lib.hid hk3
        clear hk3
        refine hK.out _ w5 ⟨hHeld.1.only hO5 (by omega), hHeld.2.andThen hO5 (fun i hi e => by omega)⟩ (fun hHeld => ?_)
        clear hK hO5 hO5' hv2
        try simp only [Act.put, List.getElem_toArray, List.getElem_cons_succ, List.getElem_cons_zero, List.setIfInBounds_toArray, List.set_cons_zero, List.set_cons_succ]
        have hv3b := row_base hv3
        obtain ⟨a3, c3, rfl⟩ := ownsRow_opened hv3
        refine AnyU.one (i := 22) rfl (by kernel_rfl) (fun K hK => ?_)
        simp only [List.getElem_toArray, List.getElem_cons_succ, List.getElem_cons_zero]
        go_simp
        refine hK.out _ _ hHeld (fun hHeld => ?_)
        clear hK
        try simp only [Act.put, List.getElem_toArray, List.getElem_cons_succ, List.getElem_cons_zero, List.setIfInBounds_toArray, List.set_cons_zero, List.set_cons_succ]
        refine AnyU.one (i := 23) rfl (by kernel_rfl) (fun K hK => ?_)
        simp only [List.getElem_toArray, List.getElem_cons_succ, List.getElem_cons_zero]
        go_simp
        refine hK.out _ _ hHeld (fun hHeld => ?_)
        clear hK
        try simp only [Act.put, List.getElem_toArray, List.getElem_cons_succ, List.getElem_cons_zero, List.setIfInBounds_toArray, List.set_cons_zero, List.set_cons_succ]
        have q1 : w5.cell? ⟨rb, 1, none⟩ = some (.slice (some ⟨lg, 0, none⟩) xn lc) := hHeld.1.cell 1
        have f1 := hHeld.1.frozen 1
        refine AnyU.last rfl (by kernel_rfl) (fun K hK => ?_)
        simp only [List.getElem_toArray, List.getElem_cons_succ, List.getElem_cons_zero]
        go_simp
        refine hK.out _ _ ?_
        clear hK
        refine AnyU.done (by kernel_rfl) ?_ _
        go_wp2_with fail
        go_ret
        refine ⟨rfl, ⟨_, hHeld.1.setCell 1 (.slice a3 k3 c3), ?_⟩, (hHeld.2.mono (T := (· = rb)) (fun _ _ e => e.elim)).setCell (p := ⟨rb, 1, none⟩) (.inl rfl) _⟩
        have h9 := (row_only2 hv3 ((Only.refl (· = rb) w5).setCell (p := ⟨rb, 1, none⟩) (.inl rfl) (.slice a3 k3 c3)) (fun g hg e => by have := hv3b g hg; have := H.out.lt; omega))
        have e1 : k3 = xs.length + 1 := by have := HXN.out; have := HK3.out; omega
        rw [itCells_append, itCells]
        rw [e1] at h9 ⊢
        simpa only [List.nil_append, List.append_assoc, List.cons_append] using h9
    · simp only [List.getElem_toArray, List.getElem_cons_succ, List.getElem_cons_zero]
      go_simp
      have hN : Blk (w.drew.alloc (.cells #[.int .i64 key, .int .u32 d, .int .i64 v] 140)) w.heap.size #[.int .i64 key, .int .u32 d, .int .i64 v] 140 := Blk.new w.drew _ _
      refine hK.out _ (w.drew.alloc (.cells #[.int .i64 key, .int .u32 d, .int .i64 v] 140)) ⟨hHeld.1.alloc _, hHeld.2.alloc _⟩ (fun hHeld => ?_)
      clear hK
      try simp only [Act.put, List.getElem_toArray, List.getElem_cons_succ, List.getElem_cons_zero, List.setIfInBounds_toArray, List.set_cons_zero, List.set_cons_succ]
      generalize w.drew.alloc (.cells #[.int .i64 key, .int .u32 d, .int .i64 v] 140) = W1 at hN hHeld ⊢
      have hW1 : w.heap.size ≤ W1.heap.size := hHeld.2.size
      refine AnyU.one (i := 1) rfl (by kernel_rfl) (fun K hK => ?_)
      simp only [List.getElem_toArray, List.getElem_cons_succ, List.getElem_cons_zero]
      go_simp
      have hE : Blk (W1.alloc (.cells #[] 140)) W1.heap.size #[] 140 := Blk.new W1 _ _
      have hls := hN.lt
      have hN := hN.alloc (.cells #[] 140)
      refine hK.out _ (W1.alloc (.cells #[] 140)) ⟨hHeld.1.alloc _, hHeld.2.alloc _⟩ (fun hHeld => ?_)
      clear hK
      try simp only [Act.put, List.getElem_toArray, List.getElem_cons_succ, List.getElem_cons_zero, List.setIfInBounds_toArray, List.set_cons_zero, List.set_cons_succ]
      generalize hg2 : W1.heap.size = g1 at hE hls ⊢
      generalize W1.alloc (.cells #[] 140) = W2 at hE hN hHeld ⊢
      have hEg : w.heap.size ≤ g1 := by omega
      refine AnyU.one (i := 8) rfl (by kernel_rfl) (fun K hK => ?_)
      simp only [List.getElem_toArray, List.getElem_cons_succ, List.getElem_cons_zero]
      rw [if_pos (by rfl)]
      refine wp_append_src _ _ 100 140 rfl i0 (.agg #[.int .i64 0, .int .u32 0, .int .i64 0]) 3 24 Try.underlying100 hi hz0 hz1 hz2 rfl (by decide) w.heap.size _ 0 [] rfl (owns_emptyB hE hEg 3) (.slice (some ⟨lg, 0, none⟩) p lc) p (itCells (xs.take p)) rfl (HS1.out.adds hHeld.2) (by rw [itCells_len, List.length_take]; first | rfl | (have := HXN.out; omega)) (itCells_one _) (by unfold maxLen; omega) (by omega) hHeld.2.size ?_
      intro v1 w3 hv1 hO'
      have hO := hO'.mono (T := (w.heap.size ≤ ·)) (fun y _ e => row_base (owns_emptyB hE hEg 3) y e)
      rw [Nat.zero_add, List.nil_append] at hv1
      have hrb := H.out.lt
      have hN := hN.only hO' (fun e => by have e2 : some w.heap.size = some g1 := e; have := Option.some.inj e2; omega)
      refine hK.out _ w3 ⟨hHeld.1.only hO (by omega), hHeld.2.andThen hO (fun i hi e => by omega)⟩ (fun hHeld => ?_)
      clear hK hO hO' hE
      try simp only [Act.put, List.getElem_toArray, List.getElem_cons_succ, List.getElem_cons_zero, List.setIfInBounds_toArray, List.set_cons_zero, List.set_cons_succ]
      generalize hg3 : w.heap.size = g2 at hN ⊢
      refine AnyU.one (i := 14) rfl (by kernel_rfl) (fun K hK => ?_)
      simp only [List.getElem_toArray, List.getElem_cons_succ, List.getElem_cons_zero]
      rw [if_pos (by rfl)]
      refine wp_append_src _ _ 100 140 rfl i0 (.agg #[.int .i64 0, .int .u32 0, .int .i64 0]) 3 24 Try.underlying100 hi hz0 hz1 hz2 rfl (by decide) w.heap.size v1 p (itCells (xs.take p)) rfl hv1 (.slice (some ⟨g2, 0, none⟩) 1 1) 1 [.int .i64 key, .int .u32 d, .int .i64 v] rfl (Src.one hN 1) rfl (by simp [Value.oneCell']) (by unfold maxLen; omega) (by omega) hHeld.2.size ?_
      intro v2 w4 hv2 hO4'
      have hO4 := hO4'.mono (T := (w.heap.size ≤ ·)) (fun y _ e => row_base hv1 y e)
      have hrb := H.out.lt
      refine hK.out _ w4 ⟨hHeld.1.only hO4 (by omega), hHeld.2.andThen hO4 (fun i hi e => by omega)⟩ (fun hHeld => ?_)
      clear hK hO4 hO4' hN hv1
      try simp only [Act.put, List.getElem_toArray, List.getElem_cons_succ, List.getElem_cons_zero, List.setIfInBounds_toArray, List.set_cons_zero, List.set_cons_succ]
      refine AnyU.one (i := 21) rfl (by kernel_rfl) (fun K hK => ?_)
      simp only [List.getElem_toArray, List.getElem_cons_succ, List.getElem_cons_zero]
      rw [if_pos (by rfl)]
      refine wp_append_src _ _ 100 140 rfl i0 (.agg #[.int .i64 0, .int .u32 0, .int .i64 0]) 3 24 Try.underlying100 hi hz0 hz1 hz2 rfl (by decide) w.heap.size v2 (p + 1) (itCells (xs.take p) ++ [.int .i64 key, .int .u32 d, .int .i64 v]) rfl hv2 (.slice (some ⟨lg, sa, none⟩) (xn - p) (lc - p)) (xn - p) (itCells (xs.drop p)) rfl (HS2.out.adds hHeld.2) (by rw [itCells_len, List.length_drop]; first | rfl | (have := HXN.out; omega)) (itCells_one _) (by unfold maxLen; omega) (by omega) hHeld.2.size ?_
      intro v3 w5 hv3 hO5'
      have hO5 := hO5'.mono (T := (w.heap.size ≤ ·)) (fun y _ e => row_base hv2 y e)
      obtain ⟨k3, hk3⟩ : ∃ k3, p + 1 + (xn - p) = k3 := ⟨_, rfl⟩
      rw [hk3] at hv3
      have HK3 := Lib.hid hk3
      clear hk3
      refine hK.out _ w5 ⟨hHeld.1.only hO5 (by omega), hHeld.2.andThen hO5 (fun i hi e => by omega)⟩ (fun hHeld => ?_)
      clear hK hO5 hO5' hv2
      try simp only [Act.put, List.getElem_toArray, List.getElem_cons_succ, List.getElem_cons_zero, List.setIfInBounds_toArray, List.set_cons_zero, List.set_cons_succ]
      have hv3b := row_base hv3
      obtain ⟨a3, c3, rfl⟩ := ownsRow_opened hv3
      refine AnyU.one (i := 22) rfl (by kernel_rfl) (fun K hK => ?_)
      simp only [List.getElem_toArray, List.getElem_cons_succ, List.getElem_cons_zero]
      go_simp
      refine hK.out _ _ hHeld (fun hHeld => ?_)
      clear hK
      try simp only [Act.put, List.getElem_toArray, List.getElem_cons_succ, List.getElem_cons_zero, List.setIfInBounds_toArray, List.set_cons_zero, List.set_cons_succ]
      refine AnyU.one (i := 23) rfl (by kernel_rfl) (fun K hK => ?_)
      simp only [List.getElem_toArray, List.getElem_cons_succ, List.getElem_cons_zero]
      go_simp
      refine hK.out _ _ hHeld (fun hHeld => ?_)
      clear hK
      try simp only [Act.put, List.getElem_toArray, List.getElem_cons_succ, List.getElem_cons_zero, List.setIfInBounds_toArray, List.set_cons_zero, List.set_cons_succ]
      have q1 : w5.cell? ⟨rb, 1, none⟩ = some (.slice (some ⟨lg, 0, none⟩) xn lc) := hHeld.1.cell 1
      have f1 := hHeld.1.frozen 1
      refine AnyU.last rfl (by kernel_rfl) (fun K hK => ?_)
      simp only [List.getElem_toArray, List.getElem_cons_succ, List.getElem_cons_zero]
      go_simp
      refine hK.out _ _ ?_
      clear hK
      refine AnyU.done (by kernel_rfl) ?_ _
      go_wp2_with fail
      go_ret
      refine ⟨rfl, ⟨_, hHeld.1.setCell 1 (.slice a3 k3 c3), ?_⟩, (hHeld.2.mono (T := (· = rb)) (fun _ _ e => e.elim)).setCell (p := ⟨rb, 1, none⟩) (.inl rfl) _⟩
      have h9 := (row_only2 hv3 ((Only.refl (· = rb) w5).setCell (p := ⟨rb, 1, none⟩) (.inl rfl) (.slice a3 k3 c3)) (fun g hg e => by have := hv3b g hg; have := H.out.lt; omega))
      have e1 : k3 = xs.length + 1 := by have := HXN.out; have := HK3.out; omega
      rw [itCells_append, itCells]
      rw [e1] at h9 ⊢
      simpa only [List.nil_append, List.append_assoc, List.cons_append] using h9
set_option maxRecDepth 100000 in
set_option maxHeartbeats 16000000 in
theorem drop9_none (h : Blk w rb (rCells fr tl dr n) 104) (hit : ItAt w tl xs) (hl : xs.length < 1000000) (hk : hasK key xs = false) :
    Calls Try.prog 67 #[.pointer (some ⟨rb, 1, none⟩), .int .i64 key] w fun e w' => e = .returned (.tuple #[.int .i64 0, .bool false]) ∧ w = w' := by
  have HH := Lib.hid (has9_any h hit hl key)
  rw [hk] at HH
  clear h hit hk
  go_enter Try.func67, Try.ntmps67
  go_wp2_with (go_at_call 87; refine HH.out.mono ?_; rintro e w1 ⟨rfl, rfl⟩)
  go_ret2
  exact ⟨rfl, rfl⟩
set_option maxRecDepth 100000 in
set_option maxHeartbeats 16000000 in
theorem drop9_any (h : Blk w rb (rCells fr tl dr n) 104) (hr : w.ownsRow 0 140 3 tl xs.length (itCells xs)) (hl : xs.length < 1000000) {x : It} (hx : xs[plc key xs]? = some x) (hk : x.1 = key) :
    Calls Try.prog 67 #[.pointer (some ⟨rb, 1, none⟩), .int .i64 key] w fun e w' => e = .returned (.tuple #[.int .i64 x.2.2, .bool true]) ∧ (∃ tl', Blk w' rb (rCells fr tl' dr n) 104 ∧ w'.ownsRow w.heap.size 140 3 tl' (xs.length - 1) (itCells (xs.take (plc key xs) ++ xs.drop (plc key xs + 1)))) ∧ Only (· = rb) w w' := by
  obtain ⟨i0, hi, hz0, hz1, hz2⟩ := info_parts infoItem
  obtain ⟨hit, -⟩ := ItAt.of_owns hr
  have HH := Lib.hid (has9_any h hit hl key)
  have HP := Lib.hid (place9_any h hit hl key)
  have hkb : hasK key xs = true := by unfold hasK; rw [hx]; simpa using hk
  obtain ⟨p, hp⟩ : ∃ p, plc key xs = p := ⟨_, rfl⟩
  rw [hp] at HP hx ⊢
  rw [hkb] at HH
  have H := Lib.hid h
  obtain ⟨xn, hxn⟩ : ∃ xn, xn = xs.length := ⟨_, rfl⟩
  have hplt : p < xn := by rw [hxn]; exact (List.getElem?_eq_some_iff.1 hx).1
  have HXN := Lib.hid hxn
  rw [← hxn] at hl
  have hsrc : ∃ lg lc, tl = .slice (some ⟨lg, 0, none⟩) xn lc ∧ xn ≤ lc ∧ lc ≤ maxLen := by
    rcases hr.2 with ⟨h0, h1⟩ | ⟨g, cap, cur, h1, _, _, h4, h5, _⟩
    · omega
    · exact ⟨g, cap, by rw [h1, hxn], by omega, by omega⟩
  obtain ⟨lg, lc, rfl, hlc, hlm⟩ := hsrc
  have c1 : w.cell? ⟨rb, 1, none⟩ = some (.slice (some ⟨lg, 0, none⟩) xn lc) := h.cell 1
  obtain ⟨v, hv⟩ : ∃ v, x.2.2 = v := ⟨_, rfl⟩
  have c2 : w.cell? ⟨lg, p * 3 + 2, none⟩ = some (.int .i64 v) := by
    obtain ⟨a, cap', h1, _, _, _, h4⟩ := hit
    obtain ⟨b, o', h5, _, _, h8⟩ := h4 p x hx
    cases h1
    cases h5
    rw [← hv, ← Nat.zero_add (p * 3)]; exact h8
  rw [hv]
  have hS1 : Src w (.slice (some ⟨lg, 0, none⟩) p lc) p (itCells (xs.take p)) := by have hh := hit; rw [hxn] at hh hplt; exact hh.take _ (Nat.le_of_lt hplt)
  obtain ⟨sa, hsa⟩ : ∃ sa, (if lc = p + 1 then (some (⟨lg, 0, none⟩ : Addr)) else some ⟨lg, (p + 1) * 3, none⟩) = some ⟨lg, sa, none⟩ := by split; exact ⟨_, rfl⟩; exact ⟨_, rfl⟩
  have hS2 : Src w (.slice (some ⟨lg, sa, none⟩) (xn - (p + 1)) (lc - (p + 1))) (xn - (p + 1)) (itCells (xs.drop (p + 1))) := by
    split at hsa
    · refine .inr (.inl ⟨lg, sa, lc - (p + 1), rfl, fun j u hj => ?_⟩)
      have := (List.getElem?_eq_some_iff.1 hj).1
      rw [itCells_len, List.length_drop] at this
      omega
    · obtain rfl : (p + 1) * 3 = sa := by simpa using hsa
      have hh := hit; rw [hxn] at hh ⊢; have := hh.drop (p := p + 1) (lc - (p + 1)); rwa [Nat.zero_add] at this
  have HS1 := Lib.hid hS1; have HS2 := Lib.hid hS2
  have hpl : p ≤ lc := by omega
  have hpn : ¬ lc < p := by omega
  have hql : p + 1 ≤ lc := by omega
  have hqn : ¬ lc < p + 1 := by omega
  have hq2 : p + 1 ≤ xn := by omega
  have hwp := wrap_succ p (by omega)
  clear h hr hit hk hkb hxn hS1 hS2 hv hx
  go_enter Try.func67, Try.ntmps67
  go_upto_region 5 with (first
    | (go_at_call 87; refine HH.out.mono ?_; rintro e w1 ⟨rfl, rfl⟩)
    | (go_at_call 88; refine HP.out.mono ?_; rintro e w2 ⟨rfl, rfl⟩))
  refine AnyU.region (S := (fun W => Blk W rb (rCells fr (.slice (some ⟨lg, 0, none⟩) xn lc) dr n) 104 ∧ Adds w W)) (k := 19) (by kernel_rfl) ⟨H.out.only ((Only.refl (fun _ => False) w).drew) (id : ¬ False), (Only.refl (fun _ => False) w).drew⟩ (fun hHeld => ?_)
  refine AnyU.take (i := 0) (v := (.pointer (some ⟨rb, 1, none⟩))) rfl rfl (by kernel_rfl) (by kernel_rfl) (by kernel_rfl) (by kernel_rfl) (by kernel_rfl) (by decide) (fun _ _ _ h => h) (Or.inl ⟨by rfl, fun W hS => by first | rfl | (go_simp; done)⟩) hHeld ?_
  try simp only [Act.put, List.getElem_toArray, List.getElem_cons_succ, List.getElem_cons_zero, List.setIfInBounds_toArray, List.set_cons_zero, List.set_cons_succ]
  refine AnyU.take (i := 2) (v := (.pointer (some ⟨rb, 1, none⟩))) rfl rfl (by kernel_rfl) (by kernel_rfl) (by kernel_rfl) (by kernel_rfl) (by kernel_rfl) (by decide) (fun _ _ _ h => h) (Or.inl ⟨by rfl, fun W hS => by first | rfl | (go_simp; done)⟩) hHeld ?_
  try simp only [Act.put, List.getElem_toArray, List.getElem_cons_succ, List.getElem_cons_zero, List.setIfInBounds_toArray, List.set_cons_zero, List.set_cons_succ]
  refine AnyU.take (i := 3) (v := (.pointer (some ⟨rb, 1, none⟩))) rfl rfl (by kernel_rfl) (by kernel_rfl) (by kernel_rfl) (by kernel_rfl) (by kernel_rfl) (by decide) (fun _ _ _ h => h) (Or.inl ⟨by rfl, fun W hS => by first | rfl | (go_simp; done)⟩) hHeld ?_
  try simp only [Act.put, List.getElem_toArray, List.getElem_cons_succ, List.getElem_cons_zero, List.setIfInBounds_toArray, List.set_cons_zero, List.set_cons_succ]
  refine AnyU.take (i := 4) (v := (.pointer (some ⟨rb, 1, none⟩))) rfl rfl (by kernel_rfl) (by kernel_rfl) (by kernel_rfl) (by kernel_rfl) (by kernel_rfl) (by decide) (fun _ _ _ h => h) (Or.inl ⟨by rfl, fun W hS => by first | rfl | (go_simp; done)⟩) hHeld ?_
  try simp only [Act.put, List.getElem_toArray, List.getElem_cons_succ, List.getElem_cons_zero, List.setIfInBounds_toArray, List.set_cons_zero, List.set_cons_succ]
  refine AnyU.take (i := 5) (v := (.slice (some ⟨lg, 0, none⟩) xn lc)) rfl rfl (by kernel_rfl) (by kernel_rfl) (by kernel_rfl) (by kernel_rfl) (by kernel_rfl) (by decide) (fun _ _ _ h => h) (Or.inl ⟨by rfl, fun W hS => by (have q1 : W.cell? ⟨rb, 1, none⟩ = some (.slice (some ⟨lg, 0, none⟩) xn lc) := hS.1.cell 1; go_simp)⟩) hHeld ?_
  try simp only [Act.put, List.getElem_toArray, List.getElem_cons_succ, List.getElem_cons_zero, List.setIfInBounds_toArray, List.set_cons_zero, List.set_cons_succ]
  refine AnyU.take (i := 6) (v := (.int .i64 p)) rfl rfl (by kernel_rfl) (by kernel_rfl) (by kernel_rfl) (by kernel_rfl) (by kernel_rfl) (by decide) (fun _ _ _ h => h) (Or.inl ⟨by rfl, fun W hS => by first | rfl | (go_simp; done)⟩) hHeld ?_
  try simp only [Act.put, List.getElem_toArray, List.getElem_cons_succ, List.getElem_cons_zero, List.setIfInBounds_toArray, List.set_cons_zero, List.set_cons_succ]
  refine AnyU.take (i := 7) (v := (.slice (some ⟨lg, 0, none⟩) p lc)) rfl rfl (by kernel_rfl) (by kernel_rfl) (by kernel_rfl) (by kernel_rfl) (by kernel_rfl) (by decide) (fun _ _ _ h => h) (Or.inl ⟨by rfl, fun W hS => by (go_simp)⟩) hHeld ?_
  try simp only [Act.put, List.getElem_toArray, List.getElem_cons_succ, List.getElem_cons_zero, List.setIfInBounds_toArray, List.set_cons_zero, List.set_cons_succ]
  refine AnyU.take (i := 9) (v := (.pointer (some ⟨rb, 1, none⟩))) rfl rfl (by kernel_rfl) (by kernel_rfl) (by kernel_rfl) (by kernel_rfl) (by kernel_rfl) (by decide) (fun _ _ _ h => h) (Or.inl ⟨by rfl, fun W hS => by first | rfl | (go_simp; done)⟩) hHeld ?_
  try simp only [Act.put, List.getElem_toArray, List.getElem_cons_succ, List.getElem_cons_zero, List.setIfInBounds_toArray, List.set_cons_zero, List.set_cons_succ]
  refine AnyU.take (i := 10) (v := (.pointer (some ⟨rb, 1, none⟩))) rfl rfl (by kernel_rfl) (by kernel_rfl) (by kernel_rfl) (by kernel_rfl) (by kernel_rfl) (by decide) (fun _ _ _ h => h) (Or.inl ⟨by rfl, fun W hS => by first | rfl | (go_simp; done)⟩) hHeld ?_
  try simp only [Act.put, List.getElem_toArray, List.getElem_cons_succ, List.getElem_cons_zero, List.setIfInBounds_toArray, List.set_cons_zero, List.set_cons_succ]
  refine AnyU.take (i := 11) (v := (.pointer (some ⟨rb, 1, none⟩))) rfl rfl (by kernel_rfl) (by kernel_rfl) (by kernel_rfl) (by kernel_rfl) (by kernel_rfl) (by decide) (fun _ _ _ h => h) (Or.inl ⟨by rfl, fun W hS => by first | rfl | (go_simp; done)⟩) hHeld ?_
  try simp only [Act.put, List.getElem_toArray, List.getElem_cons_succ, List.getElem_cons_zero, List.setIfInBounds_toArray, List.set_cons_zero, List.set_cons_succ]
  refine AnyU.take (i := 12) (v := (.slice (some ⟨lg, 0, none⟩) xn lc)) rfl rfl (by kernel_rfl) (by kernel_rfl) (by kernel_rfl) (by kernel_rfl) (by kernel_rfl) (by decide) (fun _ _ _ h => h) (Or.inl ⟨by rfl, fun W hS => by (have q1 : W.cell? ⟨rb, 1, none⟩ = some (.slice (some ⟨lg, 0, none⟩) xn lc) := hS.1.cell 1; go_simp)⟩) hHeld ?_
  try simp only [Act.put, List.getElem_toArray, List.getElem_cons_succ, List.getElem_cons_zero, List.setIfInBounds_toArray, List.set_cons_zero, List.set_cons_succ]
  refine AnyU.take (i := 13) (v := (.int .i64 p)) rfl rfl (by kernel_rfl) (by kernel_rfl) (by kernel_rfl) (by kernel_rfl) (by kernel_rfl) (by decide) (fun _ _ _ h => h) (Or.inl ⟨by rfl, fun W hS => by first | rfl | (go_simp; done)⟩) hHeld ?_
  try simp only [Act.put, List.getElem_toArray, List.getElem_cons_succ, List.getElem_cons_zero, List.setIfInBounds_toArray, List.set_cons_zero, List.set_cons_succ]
  refine AnyU.take (i := 14) (v := (.int .i64 ((p : Int) + 1))) rfl rfl (by kernel_rfl) (by kernel_rfl) (by kernel_rfl) (by kernel_rfl) (by kernel_rfl) (by decide) (fun _ _ _ h => h) (Or.inl ⟨by rfl, fun W hS => by (go_simp; done)⟩) hHeld ?_
  try simp only [Act.put, List.getElem_toArray, List.getElem_cons_succ, List.getElem_cons_zero, List.setIfInBounds_toArray, List.set_cons_zero, List.set_cons_succ]
  refine AnyU.take (i := 15) (v := (.slice (some ⟨lg, sa, none⟩) (xn - (p + 1)) (lc - (p + 1)))) rfl rfl (by kernel_rfl) (by kernel_rfl) (by kernel_rfl) (by kernel_rfl) (by kernel_rfl) (by decide) (fun _ _ _ h => h) (Or.inl ⟨by rfl, fun W hS => by (go_simp; exact fun h => absurd (h (by omega)) (by omega))⟩) hHeld ?_
  try simp only [Act.put, List.getElem_toArray, List.getElem_cons_succ, List.getElem_cons_zero, List.setIfInBounds_toArray, List.set_cons_zero, List.set_cons_succ]
  refine AnyU.one (i := 1) rfl (by kernel_rfl) (fun K hK => ?_)
  simp only [List.getElem_toArray, List.getElem_cons_succ, List.getElem_cons_zero]
  go_simp
  have hE : Blk (w.drew.alloc (.cells #[] 140)) w.heap.size #[] 140 := Blk.new w.drew _ _
  refine hK.out _ (w.drew.alloc (.cells #[] 140)) ⟨hHeld.1.alloc _, hHeld.2.alloc _⟩ (fun hHeld => ?_)
  clear hK
  try simp only [Act.put, List.getElem_toArray, List.getElem_cons_succ, List.getElem_cons_zero, List.setIfInBounds_toArray, List.set_cons_zero, List.set_cons_succ]
  generalize w.drew.alloc (.cells #[] 140) = W1 at hE hHeld ⊢
  refine AnyU.one (i := 8) rfl (by kernel_rfl) (fun K hK => ?_)
  simp only [List.getElem_toArray, List.getElem_cons_succ, List.getElem_cons_zero]
  rw [if_pos (by rfl)]
  refine wp_append_src _ _ 100 140 rfl i0 (.agg #[.int .i64 0, .int .u32 0, .int .i64 0]) 3 24 Try.underlying100 hi hz0 hz1 hz2 rfl (by decide) w.heap.size _ 0 [] rfl (owns_emptyB hE (Nat.le_refl _) 3) (.slice (some ⟨lg, 0, none⟩) p lc) p (itCells (xs.take p)) rfl (HS1.out.adds hHeld.2) (by rw [itCells_len, List.length_take]; have := HXN.out; omega) (itCells_one _) (by unfold maxLen; omega) (by omega) hHeld.2.size ?_
  intro v1 w3 hv1 hO'
  have hO := hO'.mono (T := (w.heap.size ≤ ·)) (fun y _ e => row_base (owns_emptyB hE (Nat.le_refl _) 3) y e)
  rw [Nat.zero_add, List.nil_append] at hv1
  have hrb := H.out.lt
  refine hK.out _ w3 ⟨hHeld.1.only hO (by omega), hHeld.2.andThen hO (fun i hi e => by omega)⟩ (fun hHeld => ?_)
  clear hK hO hO' hE
  try simp only [Act.put, List.getElem_toArray, List.getElem_cons_succ, List.getElem_cons_zero, List.setIfInBounds_toArray, List.set_cons_zero, List.set_cons_succ]
  refine AnyU.one (i := 16) rfl (by kernel_rfl) (fun K hK => ?_)
  simp only [List.getElem_toArray, List.getElem_cons_succ, List.getElem_cons_zero]
  rw [if_pos (by rfl)]
  refine wp_append_src _ _ 100 140 rfl i0 (.agg #[.int .i64 0, .int .u32 0, .int .i64 0]) 3 24 Try.underlying100 hi hz0 hz1 hz2 rfl (by decide) w.heap.size v1 p (itCells (xs.take p)) rfl hv1 (.slice (some ⟨lg, sa, none⟩) (xn - (p + 1)) (lc - (p + 1))) (xn - (p + 1)) (itCells (xs.drop (p + 1))) rfl (HS2.out.adds hHeld.2) (by rw [itCells_len, List.length_drop]; have := HXN.out; omega) (itCells_one _) (by unfold maxLen; omega) (by omega) hHeld.2.size ?_
  intro v2 w4 hv2 hO'
  have hO := hO'.mono (T := (w.heap.size ≤ ·)) (fun y _ e => row_base hv1 y e)
  refine hK.out _ w4 ⟨hHeld.1.only hO (by omega), hHeld.2.andThen hO (fun i hi e => by omega)⟩ (fun hHeld => ?_)
  clear hK hO hO' hv1
  try simp only [Act.put, List.getElem_toArray, List.getElem_cons_succ, List.getElem_cons_zero, List.setIfInBounds_toArray, List.set_cons_zero, List.set_cons_succ]
  obtain ⟨k3, hk3⟩ : ∃ k3, p + (xn - (p + 1)) = k3 := ⟨_, rfl⟩
  rw [hk3] at hv2
  have HK3 := Lib.hid hk3
  clear hk3
  have hv3b := row_base hv2
  obtain ⟨a3, c3, rfl⟩ := ownsRow_opened hv2
  refine AnyU.one (i := 17) rfl (by kernel_rfl) (fun K hK => ?_)
  simp only [List.getElem_toArray, List.getElem_cons_succ, List.getElem_cons_zero]
  go_simp
  refine hK.out _ _ hHeld (fun hHeld => ?_)
  clear hK
  try simp only [Act.put, List.getElem_toArray, List.getElem_cons_succ, List.getElem_cons_zero, List.setIfInBounds_toArray, List.set_cons_zero, List.set_cons_succ]
  refine AnyU.one (i := 18) rfl (by kernel_rfl) (fun K hK => ?_)
  simp only [List.getElem_toArray, List.getElem_cons_succ, List.getElem_cons_zero]
  go_simp
  refine hK.out _ _ hHeld (fun hHeld => ?_)
  clear hK
  try simp only [Act.put, List.getElem_toArray, List.getElem_cons_succ, List.getElem_cons_zero, List.setIfInBounds_toArray, List.set_cons_zero, List.set_cons_succ]
  have q1 : w4.cell? ⟨rb, 1, none⟩ = some (.slice (some ⟨lg, 0, none⟩) xn lc) := hHeld.1.cell 1
  have f1 := hHeld.1.frozen 1
  refine AnyU.last rfl (by kernel_rfl) (fun K hK => ?_)
  simp only [List.getElem_toArray, List.getElem_cons_succ, List.getElem_cons_zero]
  go_simp
  refine hK.out _ _ ?_
  clear hK
  refine AnyU.done (by kernel_rfl) ?_ _
  go_wp2_with fail
  go_ret2
  refine ⟨rfl, ⟨_, hHeld.1.setCell 1 (.slice a3 k3 c3), ?_⟩, (hHeld.2.mono (T := (· = rb)) (fun _ _ e => e.elim)).setCell (p := ⟨rb, 1, none⟩) (.inl rfl) _⟩
  have h9 := (row_only2 hv2 ((Only.refl (· = rb) w4).setCell (p := ⟨rb, 1, none⟩) (.inl rfl) (.slice a3 k3 c3)) (fun g hg e => by have := hv3b g hg; have := H.out.lt; omega))
  have e1 : k3 = xs.length - 1 := by have := HXN.out; have := HK3.out; omega
  rw [itCells_append]
  rw [e1] at h9 ⊢
  exact h9
end
/-- One page more. -/
def stepL (out : List (Int × Int)) (i : Int) : Bool → List (Int × Int)
  | false => out
  | true => match out.getLast? with
    | some x => if x.1 + x.2 = i then out.dropLast ++ [(x.1, x.2 + 1)] else out ++ [(i, 1)]
    | none => out ++ [(i, 1)]
def lstN (fr : List Bool) : Nat → List (Int × Int)
  | 0 => []
  | i + 1 => stepL (lstN fr i) i (fr.getD i false)
theorem stepL_nil (i : Int) : stepL [] i true = [(i, 1)] := rfl
theorem stepL_join {ys : List (Int × Int)} {x : Int × Int} {i : Int} (h : x.1 + x.2 = i) : stepL (ys ++ [x]) i true = ys ++ [(x.1, x.2 + 1)] := by
  simp [stepL, h]
theorem stepL_new {ys : List (Int × Int)} {x : Int × Int} {i : Int} (h : x.1 + x.2 ≠ i) : stepL (ys ++ [x]) i true = ys ++ [x] ++ [(i, 1)] := by
  simp [stepL, h]
theorem list_snoc {α : Type} (l : List α) : l = [] ∨ ∃ ys x, l = ys ++ [x] := by
  rcases List.eq_nil_or_concat l with h | ⟨ys, x, h⟩
  · exact .inl h
  · exact .inr ⟨ys, x, by simpa using h⟩
theorem pg_append {a b : List (Int × Int)} {p : Int} : pg (a ++ b) p ↔ pg a p ∨ pg b p := by
  unfold pg
  constructor
  · rintro ⟨x, hx, h⟩
    rcases List.mem_append.1 hx with hx | hx
    · exact .inl ⟨x, hx, h⟩
    · exact .inr ⟨x, hx, h⟩
  · rintro (⟨x, hx, h⟩ | ⟨x, hx, h⟩)
    · exact ⟨x, List.mem_append.2 (.inl hx), h⟩
    · exact ⟨x, List.mem_append.2 (.inr hx), h⟩
theorem pg_single {x : Int × Int} {p : Int} : pg [x] p ↔ x.1 ≤ p ∧ p < x.1 + x.2 := by
  unfold pg; simp
theorem RunsOk.snoc {P : Int} {ys : List (Int × Int)} {x : Int × Int} : RunsOk P (ys ++ [x]) ↔ RunsOk P ys ∧ (∀ y ∈ ys, y.1 + y.2 < x.1) ∧ 0 ≤ x.1 ∧ 1 ≤ x.2 ∧ x.1 + x.2 ≤ P := by
  constructor
  · intro h
    have h1 := List.pairwise_append.1 h.gap
    exact ⟨⟨h1.1, fun y hy => h.bd y (List.mem_append.2 (.inl hy))⟩, fun y hy => h1.2.2 y hy x (by simp), h.bd x (by simp)⟩
  · rintro ⟨h1, h2, h3⟩
    refine ⟨List.pairwise_append.2 ⟨h1.gap, by simp, fun y hy z hz => ?_⟩, fun y hy => ?_⟩
    · rw [List.mem_singleton] at hz; subst hz; exact h2 y hy
    · rcases List.mem_append.1 hy with hy | hy
      · exact h1.bd y hy
      · rw [List.mem_singleton] at hy; subst hy; exact h3
theorem RunsOk.wide {P Q : Int} {xs : List (Int × Int)} (h : RunsOk P xs) (hq : P ≤ Q) : RunsOk Q xs := ⟨h.gap, fun x hx => by have := h.bd x hx; omega⟩
theorem lstN_ok (fr : List Bool) : ∀ i : Nat, RunsOk i (lstN fr i) ∧ ∀ p, pg (lstN fr i) p ↔ 0 ≤ p ∧ p < i ∧ fr.getD p.toNat false = true
  | 0 => ⟨RunsOk.nil _, fun p => ⟨fun ⟨x, hx, _⟩ => (by cases hx), fun h => (by omega)⟩⟩
  | i + 1 => by
    obtain ⟨h1, h2⟩ := lstN_ok fr i
    have hw : RunsOk ((i + 1 : Nat) : Int) (lstN fr i) := h1.wide (by omega)
    have split (p : Int) (hp : p = i ∨ p ≠ i) : (0 ≤ p ∧ p < ((i + 1 : Nat) : Int) ∧ fr.getD p.toNat false = true) ↔ (0 ≤ p ∧ p < i ∧ fr.getD p.toNat false = true) ∨ (p = i ∧ fr.getD i false = true) := by
      rcases hp with rfl | hp
      · rw [Int.toNat_natCast]
        constructor
        · rintro ⟨_, _, h⟩; exact .inr ⟨rfl, h⟩
        · rintro (⟨_, h, _⟩ | ⟨_, h⟩)
          · omega
          · exact ⟨by omega, by omega, h⟩
      · constructor
        · rintro ⟨a, b, c⟩; exact .inl ⟨a, by omega, c⟩
        · rintro (⟨a, b, c⟩ | ⟨a, _⟩)
          · exact ⟨a, by omega, c⟩
          · exact absurd a hp
    rw [lstN]
    cases hb : fr.getD i false with
    | false =>
      refine ⟨hw, fun p => ?_⟩
      rw [split p (Decidable.em _), hb, stepL, h2 p]
      simp
    | true =>
      rcases list_snoc (lstN fr i) with he | ⟨ys, x, he⟩
      · rw [he, stepL_nil]
        refine ⟨RunsOk.single (by simp only; omega), fun p => ?_⟩
        rw [split p (Decidable.em _), hb, ← h2 p, he, pg_single]
        have hn : ¬ pg [] p := fun ⟨x, hx, _⟩ => by cases hx
        simp only [hn, false_or, and_true]
        omega
      · rw [he] at h1 hw h2 ⊢
        obtain ⟨g1, g2, g3⟩ := RunsOk.snoc.1 h1
        by_cases hx : x.1 + x.2 = i
        · rw [stepL_join hx]
          refine ⟨RunsOk.snoc.2 ⟨g1.wide (by omega), g2, by simp only; omega⟩, fun p => ?_⟩
          rw [split p (Decidable.em _), hb, ← h2 p, pg_append, pg_append, pg_single, pg_single]
          simp only [and_true]
          constructor
          · rintro (h | h)
            · exact .inl (.inl h)
            · by_cases hp : p = i
              · exact .inr hp
              · exact .inl (.inr (by omega))
          · rintro ((h | h) | h)
            · exact .inl h
            · exact .inr (by omega)
            · exact .inr (by omega)
        · rw [stepL_new hx]
          refine ⟨RunsOk.snoc.2 ⟨hw, fun y hy => ?_, by simp only; omega⟩, fun p => ?_⟩
          · rcases List.mem_append.1 hy with hy | hy
            · have := g2 y hy; simp only; omega
            · rw [List.mem_singleton] at hy; subst hy; simp only; omega
          · rw [split p (Decidable.em _), hb, ← h2 p, pg_append (a := ys ++ [x]), pg_single (x := ((i : Int), 1))]
            simp only [and_true]
            constructor
            · rintro (h | h)
              · exact .inl h
              · exact .inr (by omega)
            · rintro (h | h)
              · exact .inl h
              · exact .inr (by omega)
theorem lstN_len (fr : List Bool) : ∀ i : Nat, (lstN fr i).length ≤ i
  | 0 => Nat.le_refl _
  | i + 1 => by
    have := lstN_len fr i
    rw [lstN]
    cases fr.getD i false with
    | false => simp [stepL]; omega
    | true =>
      rcases list_snoc (lstN fr i) with he | ⟨ys, x, he⟩
      · rw [he, stepL_nil]; simp
      · rw [he] at this ⊢
        by_cases hx : x.1 + x.2 = i
        · rw [stepL_join hx]; simp at this ⊢; omega
        · rw [stepL_new hx]; simp at this ⊢; omega
/-- The free pages that runs say. -/
theorem lst_eq {P : Nat} {fr : List Bool} {xs : List (Int × Int)} (h : RunsOk P xs) (hp : ∀ p : Int, pg xs p ↔ 0 ≤ p ∧ p < P ∧ fr.getD p.toNat false = true) : lstN fr P = xs :=
  pg_uniq (lstN_ok fr P).1 h (fun p => ((lstN_ok fr P).2 p).trans (hp p).symm)
/-- The document's free runs: its blocks, which pages are free, its items, its draws, how many were taken. -/
structure DS where
  rb : Nat
  fb : Nat
  fr : List Bool
  lv : Value
  its : List It
  dv : Value
  ds : List Int
  n : Nat
def DS.own (s : DS) (y : Nat) : Prop := y = s.rb ∨ y = s.fb
def DS.all (s : DS) (y : Nat) : Prop := s.own y ∨ some y = s.lv.ownBlock ∨ some y = s.dv.ownBlock
abbrev DS.fv (s : DS) : Value := .slice (some ⟨s.fb, 0, none⟩) s.fr.length s.fr.length
structure IsDoc (w : World) (s : DS) : Prop where
  blk : Blk w s.rb (rCells s.fv s.lv s.dv s.n) 104
  fre : Blk w s.fb (s.fr.map .bool).toArray 4
  drs : w.ownsRow 0 113 1 s.dv s.ds.length (s.ds.map (.int .u32))
  row : w.ownsRow 0 140 3 s.lv s.its.length (itCells s.its)
  ne : s.rb ≠ s.fb
  P1 : 1 ≤ s.fr.length
  P2 : s.fr.length ≤ 4096
  il : s.its.length < 900000
  dl : s.ds.length < 1000000
section
variable {w w' : World} {s : DS}
theorem IsDoc.only {S : Nat → Prop} (h : IsDoc w s) (ho : Only S w w') (hs : ∀ y, s.all y → ¬ S y) : IsDoc w' s :=
  ⟨h.blk.only ho (hs _ (.inl (.inl rfl))), h.fre.only ho (hs _ (.inl (.inr rfl))), row_only2 h.drs ho (fun g hg => hs g (.inr (.inr hg))), row_only2 h.row ho (fun g hg => hs g (.inr (.inl hg))), h.ne, h.P1, h.P2, h.il, h.dl⟩
theorem IsDoc.adds (h : IsDoc w s) (ho : Adds w w') : IsDoc w' s := h.only ho (fun _ _ => id)
theorem IsDoc.lt (h : IsDoc w s) : ∀ y, s.all y → y < w.heap.size := by
  rintro y ((rfl | rfl) | hy | hy)
  · exact h.blk.lt
  · exact h.fre.lt
  · exact row_lt h.row y hy
  · exact row_lt h.drs y hy
theorem IsDoc.freeCell (h : IsDoc w s) {i : Nat} (hi : i < s.fr.length) : w.cell? ⟨s.fb, i, none⟩ = some (.bool (s.fr.getD i false)) := by
  rw [h.fre.cell i, List.getD_eq_getElem?_getD, List.getElem?_eq_getElem hi]
  simp [hi]
end
theorem shCells_set (ys : List (Int × Int)) (x : Int × Int) (u : Int) : (shCells (ys ++ [x])).set (ys.length * 2 + 1) (.int .i64 u) = shCells (ys ++ [(x.1, u)]) := by
  induction ys with
  | nil => rfl
  | cons y r ih => rw [List.length_cons, show (r.length + 1) * 2 + 1 = r.length * 2 + 1 + 1 + 1 by omega]; simp only [List.cons_append, shCells, List.set_cons_succ, ih]
theorem row_snoc2 {w w1 : World} {base n size : Nat} {v : Value} {e : TypeId} {xs : List Value} (hr : w.ownsRow base e size v n xs) (hb : base ≤ w.heap.size) (o : Obj) (hg : (w.alloc o).grownBy w1 v.ownBlock) : ∀ {u : World}, Adds u w → base = u.heap.size → Adds u w1 := fun {u} hu hbe => by
  have h1 : Adds u (w.alloc o) := hu.alloc o
  refine ⟨hg.os.trans h1.os, hg.tape.trans h1.tape, hg.output.trans h1.output, Nat.le_trans h1.size hg.size, fun k hk _ => (hg.block k (Nat.lt_of_lt_of_le hk h1.size) (fun e => ?_)).trans (h1.block k hk id)⟩
  have := row_base hr k e
  omega
theorem cells_two_new (w : World) (a b : Value) (t : TypeId) : ∀ j u, [a, b][j]? = some u → (w.alloc (.cells #[a, b] t)).cell? ((⟨w.heap.size, 0, none⟩ : Addr).add j) = some u := fun j u h => by
  rw [Addr.add_lit, Nat.zero_add, (Blk.new w #[a, b] t).cell j]
  simpa using h
set_option maxRecDepth 100000 in
set_option maxHeartbeats 8000000 in
theorem list9_any {w : World} {s : DS} (h : IsDoc w s) : Calls Try.prog 24 #[.pointer (some ⟨s.rb, 0, none⟩)] w fun e w' => ∃ v, e = .returned v ∧ w'.ownsRow w.heap.size 63 2 v (lstN s.fr s.fr.length).length (shCells (lstN s.fr s.fr.length)) ∧ Adds w w' := by
  obtain ⟨i0, hi, hz0, hz1, hz2⟩ := info_parts infoRunI
  obtain ⟨P, hP⟩ : ∃ P, s.fr.length = P := ⟨_, rfl⟩
  have hP2 : P ≤ 4096 := hP ▸ h.P2
  have c0 : w.cell? ⟨s.rb, 0, none⟩ = some (.slice (some ⟨s.fb, 0, none⟩) P P) := by rw [← hP]; exact h.blk.cell 0
  have HF := Lib.hid (fun (i : Nat) (hi : i < P) => h.freeCell (i := i) (hP ▸ hi))
  rw [hP]
  clear h hP
  go_enter Try.func24, Try.ntmps24
  go_wp2_with fail
  go_loopg [3, 4] P (fun kx lv iv wr => ∃ k : Nat, iv = .int .i64 k ∧ k ≤ P ∧ P - k ≤ kx ∧ Hid (wr.ownsRow w.heap.size 63 2 lv (lstN s.fr k).length (shCells (lstN s.fr k))) ∧ Hid (Adds w wr))
  case atStart => exact ⟨0, rfl, by omega, by omega, Lib.hid (World.ownsRow_nil _ _ _ _), Lib.hid (Only.refl _ _)⟩
  case round =>
    obtain ⟨k, rfl, hk1, hkx, HR, HA⟩ := hrel
    have hk4 : k < 1000000 := by omega
    have hwk := wrap_succ k hk4
    have d1 := cell_al c0 HA.out
    by_cases c1 : k < P
    · obtain ⟨b, hb⟩ : ∃ b, s.fr.getD k false = b := ⟨_, rfl⟩
      have d2 := cell_al (HF.out k c1) HA.out
      rw [hb] at d2
      have HB := Lib.hid hb
      clear hb
      cases b with
      | false =>
        go_wp2_with fail
        go_roundg (P - (k + 1))
        case measure => omega
        case rel =>
          refine ⟨k + 1, by simp, by omega, Nat.le_refl _, Lib.hid ?_, HA⟩
          rw [lstN, HB.out]
          exact HR.out
      | true =>
        have hstep : lstN s.fr (k + 1) = stepL (lstN s.fr k) k true := by rw [lstN, HB.out]
        have HS := Lib.hid hstep
        obtain ⟨out, ho⟩ : ∃ out, lstN s.fr k = out := ⟨_, rfl⟩
        have hok := (lstN_ok s.fr k).1
        have hlen := lstN_len s.fr k
        rw [ho] at HR HS hok hlen
        clear hstep ho
        rcases list_snoc out with rfl | ⟨ys, x, rfl⟩
        · obtain ⟨la, lc, hlv⟩ := ownsRow_opened HR.out
          subst hlv
          go_wp2_with fail
          go_quiet ((fail))
          have HR' := Lib.hid (show (wr.drewN nq).ownsRow _ _ _ _ _ _ from HR.out)
          go_wp2_with (at_builtin; refine wpList_append_own _ rfl _ _ 49 rfl w.heap.size 63 i0 (.agg #[.int .i64 0, .int .i64 0]) 2 16 Try.underlying49 hi hz0 hz1 hz2 rfl (by decide) _ 0 _ rfl (HR'.out.alloc (.cells #[.int .i64 k, .int .i64 1] 63)) ⟨wr.heap.size, 0, none⟩ 1 1 [.int .i64 k, .int .i64 1] rfl rfl (cells_two_new _ _ _ _) (by simp [Value.oneCell']) (by unfold maxLen; omega) (by omega) (by have := HA.out.size; simp; omega) ?_; intro v' w3 hown hgrow _)
          have hA3 : Adds w w3 := row_snoc2 HR'.out (by have := HA.out.size; simpa using this) _ hgrow (HA.out.drewN nq) rfl
          go_roundg (P - (k + 1))
          case measure => omega
          case rel =>
            refine ⟨k + 1, by simp, by omega, Nat.le_refl _, Lib.hid ?_, Lib.hid hA3⟩
            rw [HS.out, stepL_nil]
            exact hown
        · obtain ⟨x1, x2⟩ := x
          obtain ⟨m, hm⟩ : ∃ m, m = ys.length := ⟨_, rfl⟩
          have hml : (ys ++ [(x1, x2)]).length = m + 1 := by rw [hm]; simp
          rw [hml] at HR hlen
          rcases row_shape HR.out with ⟨_, h0⟩ | ⟨g, lc, hlv⟩
          · exact absurd h0 (by omega)
          subst hlv
          obtain ⟨-, -, g3⟩ := RunsOk.snoc.1 hok
          simp only at g3
          have y0 : wr.cell? ⟨g, m * 2, none⟩ = some (.int .i64 x1) := by
            rw [HR.out.cellAt _ (by omega), hm]; exact (shCells_at _ ys.length (x1, x2) (by simp)).1
          have y1 : wr.cell? ⟨g, m * 2 + 1, none⟩ = some (.int .i64 x2) := by
            rw [HR.out.cellAt _ (by omega), hm]; exact (shCells_at _ ys.length (x1, x2) (by simp)).2
          have f1 := HR.out.frozenAt (m * 2 + 1)
          have hwm := wrap_ok (((m + 1 : Nat) : Int) - 1) (by omega) (by omega)
          have hwm2 : IntKind.i64.wrap ((m : Int) + 1 - 1) = (m : Int) := by rw [wrap_ok _ (by omega) (by omega)]; omega
          have hwx := wrap_ok (x1 + x2) (by omega) (by omega)
          have hwx2 := wrap64_ok (x1 + x2) (by omega) (by omega)
          have hwy := wrap_ok (x2 + 1) (by omega) (by omega)
          have hwy2 := wrap64_ok (x2 + 1) (by omega) (by omega)
          have HM := Lib.hid hm; have HOK := Lib.hid hok; have HML := Lib.hid hml
          clear hm hok hml
          by_cases hx : x1 + x2 = k
          · go_wp2_with fail
            go_quiet ((fail))
            go_wp2_with fail
            go_roundg (P - (k + 1))
            case measure => omega
            case rel =>
              have hst := (show (wr.drewN nq).ownsRow _ _ _ _ _ _ from HR.out).stored (m * 2 + 1) (.int .i64 (x2 + 1))
              refine ⟨k + 1, by simp, by omega, Nat.le_refl _, Lib.hid ?_, Lib.hid ?_⟩
              · rw [HS.out, stepL_join hx]
                have e1 : (ys ++ [(x1, x2 + 1)]).length = m + 1 := by have := HM.out; simp; omega
                rw [e1]
                have := hst.1
                rw [HM.out, shCells_set] at this
                rw [HM.out]
                exact this
              · exact (HA.out.drewN nq).setCell (p := ⟨g, m * 2 + 1, none⟩) (.inr (row_base HR.out g rfl)) _
          · have hx' : decide (x1 + x2 = (k : Int)) = false := by simpa using hx
            go_wp2_with fail
            go_quiet ((fail))
            have HR' := Lib.hid (show (wr.drewN nq).ownsRow _ _ _ _ _ _ from HR.out)
            go_wp2_with (at_builtin; refine wpList_append_own _ rfl _ _ 49 rfl w.heap.size 63 i0 (.agg #[.int .i64 0, .int .i64 0]) 2 16 Try.underlying49 hi hz0 hz1 hz2 rfl (by decide) _ (m + 1) _ rfl (HR'.out.alloc (.cells #[.int .i64 k, .int .i64 1] 63)) ⟨wr.heap.size, 0, none⟩ 1 1 [.int .i64 k, .int .i64 1] rfl rfl (cells_two_new _ _ _ _) (by simp [Value.oneCell']) (by unfold maxLen; omega) (by omega) (by have := HA.out.size; simp; omega) ?_; intro v' w3 hown hgrow _)
            have hA3 : Adds w w3 := row_snoc2 HR'.out (by have := HA.out.size; simpa using this) _ hgrow (HA.out.drewN nq) rfl
            go_roundg (P - (k + 1))
            case measure => omega
            case rel =>
              refine ⟨k + 1, by simp, by omega, Nat.le_refl _, Lib.hid ?_, Lib.hid hA3⟩
              rw [HS.out, stepL_new hx, List.length_append, HML.out, shCells_append]
              exact hown
    · have hkP : k = P := by omega
      subst hkP
      go_wp2_with fail
      go_ret
      exact ⟨_, rfl, HR.out, HA.out⟩
theorem tot_lstN (fr : List Bool) : ∀ i : Nat, tot (lstN fr (i + 1)) = tot (lstN fr i) + (if fr.getD i false then 1 else 0) := fun i => by
  rw [lstN]
  cases hb : fr.getD i false with
  | false => simp [stepL]
  | true =>
    rcases list_snoc (lstN fr i) with he | ⟨ys, x, he⟩
    · rw [he, stepL_nil]; simp [tot]
    · rw [he]
      by_cases hx : x.1 + x.2 = i
      · rw [stepL_join hx, tot_append, tot_append]; simp [tot]; omega
      · rw [stepL_new hx, tot_append (ys ++ [x])]; simp [tot]
theorem tot_lstN_le (fr : List Bool) : ∀ i : Nat, 0 ≤ tot (lstN fr i) ∧ tot (lstN fr i) ≤ i
  | 0 => by simp [lstN, tot]
  | i + 1 => by
    have := tot_lstN_le fr i
    rw [tot_lstN]
    split <;> omega
set_option maxHeartbeats 4000000 in
theorem total9_any {w : World} {s : DS} (h : IsDoc w s) : Calls Try.prog 68 #[.pointer (some ⟨s.rb, 0, none⟩)] w fun e w' => e = .returned (.int .i64 (tot (lstN s.fr s.fr.length))) ∧ w = w' := by
  obtain ⟨P, hP⟩ : ∃ P, s.fr.length = P := ⟨_, rfl⟩
  have hP2 : P ≤ 4096 := hP ▸ h.P2
  have c0 : w.cell? ⟨s.rb, 0, none⟩ = some (.slice (some ⟨s.fb, 0, none⟩) P P) := by rw [← hP]; exact h.blk.cell 0
  have HF := Lib.hid (fun (i : Nat) (hi : i < P) => h.freeCell (i := i) (hP ▸ hi))
  rw [hP]
  clear h hP
  go_enter Try.func68, Try.ntmps68
  go_wp2_with fail
  go_loopw [3, 4] (fun nv iv wr => ∃ k : Nat, ∃ z : Int, iv = .int .i64 k ∧ nv = .int .i64 z ∧ k ≤ P ∧ Hid (z = tot (lstN s.fr k)) ∧ wr = w) (fun _ i _ => P - (intOf i).toNat)
  case atStart => exact ⟨0, 0, rfl, rfl, Nat.zero_le _, Lib.hid rfl, rfl⟩
  case round =>
    obtain ⟨k, z, rfl, rfl, hk, HZ, rfl⟩ := hrel
    have hk4 : k < 1000000 := by omega
    have hwk := wrap_succ k hk4
    have hzb := tot_lstN_le s.fr k
    rw [← HZ.out] at hzb
    by_cases c1 : k < P
    · have d2 := HF.out k c1
      have hts := tot_lstN s.fr k
      rw [← HZ.out] at hts
      cases hb : s.fr.getD k false with
      | false =>
        rw [hb] at d2 hts
        have HTS := Lib.hid hts
        clear hts hb
        go_wp2_with fail
        go_roundw
        case rel => exact ⟨k + 1, z, by simp, by simp, by omega, Lib.hid (by rw [HTS.out]; simp), trivial⟩
        case measure => simp [intOf]; omega
      | true =>
        rw [hb] at d2 hts
        have HTS := Lib.hid hts
        clear hts hb
        have hwz := wrap_ok (z + 1) (by omega) (by omega)
        have hwz2 := wrap64_ok (z + 1) (by omega) (by omega)
        go_wp2_with fail
        go_roundw
        case rel => exact ⟨k + 1, z + 1, by simp, by simp, by omega, Lib.hid (by rw [HTS.out]; simp), trivial⟩
        case measure => simp [intOf]; omega
    · have hkP : k = P := by omega
      subst hkP
      go_wp2_with fail
      go_ret
      exact ⟨by rw [HZ.out]; rfl, rfl⟩
/-- What the document's best tells. -/
def BestL (xs : List (Int × Int)) (n : Int) (x : Int × Int) (ok : Bool) : Prop := (ok = true ∧ IsBest n xs x) ∨ (ok = false ∧ x = (0, 0) ∧ ∀ y ∈ xs, y.2 < n)
theorem bestL_nil (n : Int) : BestL [] n (0, 0) false := .inr ⟨rfl, rfl, fun y hy => by cases hy⟩
theorem bestL_short {ys : List (Int × Int)} {y : Int × Int} {n : Int} {x : Int × Int} {ok : Bool} (h : BestL ys n x ok) (hy : y.2 < n) : BestL (ys ++ [y]) n x ok := by
  rcases h with ⟨h1, h2⟩ | ⟨h1, h2, h3⟩
  · refine .inl ⟨h1, List.mem_append.2 (.inl h2.mem), h2.long, fun z hz hn => ?_⟩
    rcases List.mem_append.1 hz with hz | hz
    · exact h2.least z hz hn
    · rw [List.mem_singleton] at hz; subst hz; omega
  · refine .inr ⟨h1, h2, fun z hz => ?_⟩
    rcases List.mem_append.1 hz with hz | hz
    · exact h3 z hz
    · rw [List.mem_singleton] at hz; subst hz; exact hy
theorem bestL_first {ys : List (Int × Int)} {y : Int × Int} {n : Int} {x : Int × Int} (h : BestL ys n x false) (hy : n ≤ y.2) : BestL (ys ++ [y]) n y true := by
  rcases h with ⟨h1, _⟩ | ⟨_, _, h3⟩
  · cases h1
  · refine .inl ⟨rfl, by simp, hy, fun z hz hn => ?_⟩
    rcases List.mem_append.1 hz with hz | hz
    · have := h3 z hz; omega
    · rw [List.mem_singleton] at hz; subst hz; omega
theorem bestL_less {P : Int} {ys : List (Int × Int)} {y : Int × Int} {n : Int} {x : Int × Int} (hok : RunsOk P (ys ++ [y])) (hP : P ≤ 4096) (h : BestL ys n x true) (hy : n ≤ y.2) (hl : y.2 < x.2) : BestL (ys ++ [y]) n y true := by
  rcases h with ⟨_, h2⟩ | ⟨h1, _⟩
  · refine .inl ⟨rfl, by simp, hy, fun z hz hn => ?_⟩
    rcases List.mem_append.1 hz with hz | hz
    · have := h2.least z hz hn
      have b1 := hok.bd y (by simp)
      have b2 := hok.bd x (List.mem_append.2 (.inl h2.mem))
      omega
    · rw [List.mem_singleton] at hz; subst hz; omega
  · cases h1
theorem bestL_keep {P : Int} {ys : List (Int × Int)} {y : Int × Int} {n : Int} {x : Int × Int} (hok : RunsOk P (ys ++ [y])) (hP : P ≤ 4096) (h : BestL ys n x true) (hl : ¬ y.2 < x.2) : BestL (ys ++ [y]) n x true := by
  rcases h with ⟨_, h2⟩ | ⟨h1, _⟩
  · refine .inl ⟨rfl, List.mem_append.2 (.inl h2.mem), h2.long, fun z hz hn => ?_⟩
    rcases List.mem_append.1 hz with hz | hz
    · exact h2.least z hz hn
    · rw [List.mem_singleton] at hz; subst hz
      have b1 := hok.bd z (by simp)
      have b2 := hok.bd x (List.mem_append.2 (.inl h2.mem))
      have b3 := (List.pairwise_append.1 hok.gap).2.2 x h2.mem z (by simp)
      omega
  · cases h1
def Best9 (xs : List (Int × Int)) (n : Int) (x : Int × Int) (ok : Bool) : Prop := (n < 1 ∧ x = (0, 0) ∧ ok = false) ∨ (1 ≤ n ∧ BestL xs n x ok)
def Best9Post (s : DS) (n : Int) (w : World) (e : Ending) (w' : World) : Prop := (∃ x ok, e = .returned (.tuple #[.agg #[.int .i64 x.1, .int .i64 x.2], .bool ok]) ∧ Best9 (lstN s.fr s.fr.length) n x ok) ∧ Adds w w'
set_option maxRecDepth 100000 in
set_option maxHeartbeats 8000000 in
theorem best9_any {w : World} {s : DS} (h : IsDoc w s) (n : Int) :
    Calls Try.prog 66 #[.pointer (some ⟨s.rb, 0, none⟩), .int .i64 n] w (Best9Post s n w) := by
  obtain ⟨xs, hxs⟩ : ∃ xs, lstN s.fr s.fr.length = xs := ⟨_, rfl⟩
  have hok := (lstN_ok s.fr s.fr.length).1
  have hlen := lstN_len s.fr s.fr.length
  have hP2 := h.P2
  rw [hxs] at hok hlen
  obtain ⟨Z, hZ⟩ : ∃ Z, w.heap.size = Z := ⟨_, rfl⟩
  obtain ⟨W, hW⟩ : ∃ W, w.alloc (.cells #[.int .i64 0, .int .i64 0] 63) = W := ⟨_, rfl⟩
  have hO0 : Adds w W := by rw [← hW]; exact (Only.refl _ w).alloc _
  have hZB : Blk W Z #[.int .i64 0, .int .i64 0] 63 := by rw [← hW, ← hZ]; exact Blk.new w _ _
  have HXS := Lib.hid hxs
  have HLI := Lib.hid (list9_any (h.adds hO0))
  rw [hxs] at HLI
  have HO := Lib.hid hO0; have HZB := Lib.hid hZB; have HOK := Lib.hid hok
  have hZle : w.heap.size ≤ Z := by omega
  have p0 : Value.pointer (some ⟨s.rb, 0, none⟩) ≠ .pointer none := by simp
  clear hO0 hZB h hok hxs
  go_enter Try.func66, Try.ntmps66
  go_wp2_with fail
  refine HLI.out.mono ?_
  rintro e V ⟨v, rfl, hr, ho⟩
  have hl := NodesAt.of_owns hr
  have HV := Lib.hid ho
  have hZV := HZB.out.only ho id
  have HZV := Lib.hid hZV
  obtain ⟨la, lc, rfl, hl⟩ := hl
  have HL := Lib.hid hl
  obtain ⟨m, hm⟩ : ∃ m, xs.length = m := ⟨_, rfl⟩
  have hlen' : m ≤ 4096 := by omega
  have HM := Lib.hid hm
  rw [hm]
  clear hr hl ho hZV hm hlen
  go_wp2_with fail
  obtain ⟨B, hB⟩ : ∃ B, V.heap.size = B := ⟨_, rfl⟩
  obtain ⟨U, hU⟩ : ∃ U, V.alloc (.cells #[.int .i64 0, .int .i64 0] 63) = U := ⟨_, rfl⟩
  have hUB : Blk U B #[.int .i64 0, .int .i64 0] 63 := by rw [← hU, ← hB]; exact Blk.new V _ _
  have hUO : Adds V U := by rw [← hU]; exact (Only.refl _ V).alloc _
  have HUB := Lib.hid hUB; have HUO := Lib.hid hUO; have HBV := Lib.hid hB
  rw [hU, hB]
  clear hUB hUO hU hB
  go_loopw [8, 9] (fun ov iv wr => ∃ (k : Nat) (x1 x2 : Int) (ok : Bool), iv = .int .i64 k ∧ ov = .bool ok ∧ k ≤ m ∧ Hid (BestL (xs.take k) n (x1, x2) ok) ∧ Hid (n < 1 → (x1, x2) = ((0 : Int), (0 : Int)) ∧ ok = false) ∧ Hid (Blk wr B #[.int .i64 x1, .int .i64 x2] 63) ∧ Hid (Only (· = B) U wr)) (fun _ i _ => m - (intOf i).toNat)
  case atStart => exact ⟨0, 0, 0, false, rfl, rfl, Nat.zero_le _, Lib.hid (bestL_nil n), Lib.hid (fun _ => ⟨rfl, rfl⟩), HUB, Lib.hid (Only.refl _ _)⟩
  case round =>
    obtain ⟨k, x1, x2, ok, rfl, rfl, hk, HBS, HKZ, HX, HOW⟩ := hrel
    have hk4 : k < 1000000 := by omega
    have hwk := wrap_succ k hk4
    have b0 := HX.out.cell 0; have b1 := HX.out.cell 1; have f0 := HX.out.frozen 0; have f1 := HX.out.frozen 1
    have hAV : Adds V wr := HUO.out.andThen HOW.out (fun i hi e => by have := HBV.out; omega)
    have hZw := HZV.out.only hAV id
    have z0 := hZw.cell 0; have z1 := hZw.cell 1; have fz0 := hZw.frozen 0; have fz1 := hZw.frozen 1
    clear hZw
    by_cases hn : 1 ≤ n
    · by_cases hkm : k < m
      · obtain ⟨y, hy⟩ : ∃ y, xs[k]? = some y := ⟨_, List.getElem?_eq_getElem (HM.out ▸ hkm)⟩
        obtain ⟨b, off, rfl, e0, e1⟩ := HL.out k y hy
        have hbB : b ≠ B := by
          have h9 := cell_lt e0
          have h8 := HBV.out
          intro e
          have h7 : b < V.heap.size := h9
          omega
        have e0 := (HOW.out.cellF (p := ⟨b, _, none⟩) (cell_lt (cell_al e0 HUO.out)) hbB).trans (cell_al e0 HUO.out)
        have e1 := (HOW.out.cellF (p := ⟨b, _, none⟩) (cell_lt (cell_al e1 HUO.out)) hbB).trans (cell_al e1 HUO.out)
        have htk : xs.take (k + 1) = xs.take k ++ [y] := by rw [List.take_add_one, hy]; rfl
        have hokk : RunsOk s.fr.length (xs.take k ++ [y]) := by rw [← htk]; exact HOK.out.sub (List.take_sublist _ _)
        have HTK := Lib.hid htk; have HKK := Lib.hid hokk
        clear htk hokk hy
        obtain ⟨y1, y2⟩ := y
        simp only at e0 e1
        by_cases h1 : n ≤ y2
        · cases ok with
          | false =>
            go_wp2_with fail
            go_quiet ((fail))
            go_wp2_with fail
            go_roundw
            case rel => exact ⟨k + 1, y1, y2, true, by simp, rfl, by omega, Lib.hid (by rw [HTK.out]; exact bestL_first HBS.out h1), Lib.hid (fun h => absurd hn (by omega)), Lib.hid (((HX.out.only ((Only.refl (fun _ => False) _).drewN nq) id).setCell 0 (.int .i64 y1)).setCell 1 (.int .i64 y2)), Lib.hid (((HOW.out.drewN nq).setCell (p := ⟨B, 0, none⟩) (.inl rfl) _).setCell (p := ⟨B, 1, none⟩) (.inl rfl) _)⟩
            case measure => simp [intOf]; omega
          | true =>
            by_cases h2 : y2 < x2
            · go_wp2_with fail
              go_quiet ((fail))
              go_wp2_with fail
              go_roundw
              case rel => exact ⟨k + 1, y1, y2, true, by simp, rfl, by omega, Lib.hid (by rw [HTK.out]; exact bestL_less HKK.out (by omega) HBS.out h1 h2), Lib.hid (fun h => absurd hn (by omega)), Lib.hid (((HX.out.only ((Only.refl (fun _ => False) _).drewN nq) id).setCell 0 (.int .i64 y1)).setCell 1 (.int .i64 y2)), Lib.hid (((HOW.out.drewN nq).setCell (p := ⟨B, 0, none⟩) (.inl rfl) _).setCell (p := ⟨B, 1, none⟩) (.inl rfl) _)⟩
              case measure => simp [intOf]; omega
            · have t2 : decide (y2 < x2) = false := by simpa using h2
              go_wp2_with fail
              go_quiet ((fail))
              go_wp2_with fail
              go_roundw
              case rel => exact ⟨k + 1, x1, x2, true, by simp, rfl, by omega, Lib.hid (by rw [HTK.out]; exact bestL_keep HKK.out (by omega) HBS.out (by simp only; omega)), Lib.hid (fun h => absurd hn (by omega)), Lib.hid (HX.out.only ((Only.refl (fun _ => False) _).drewN nq) id), Lib.hid (HOW.out.drewN nq)⟩
              case measure => simp [intOf]; omega
        · have t1 : decide (n ≤ y2) = false := by simpa using h1
          go_wp2_with fail
          go_quiet ((fail))
          go_wp2_with fail
          go_roundw
          case rel => exact ⟨k + 1, x1, x2, ok, by simp, rfl, by omega, Lib.hid (by rw [HTK.out]; exact bestL_short HBS.out (by simp only; omega)), Lib.hid (fun h => absurd hn (by omega)), Lib.hid (HX.out.only ((Only.refl (fun _ => False) _).drewN nq) id), Lib.hid (HOW.out.drewN nq)⟩
          case measure => simp [intOf]; omega
      · have hbl : Best9 xs n (x1, x2) ok := .inr ⟨hn, by have h9 := HBS.out; rwa [List.take_of_length_le (by have := HM.out; omega)] at h9⟩
        go_wp2_with fail
        obtain ⟨e0, e1, hA⟩ := set2_end (p := x1) (q := x2) HO.out HZB.out hZle (HV.out.thenF hAV)
        exact bodyPost_ret (v := .tuple #[.agg #[.int .i64 x1, .int .i64 x2], .bool ok]) (by simp [e0, e1, results, Try.results66, go_sem]) rfl ⟨⟨(x1, x2), ok, rfl, by rw [HXS.out]; exact hbl⟩, hA⟩
    · have hbl : Best9 xs n (x1, x2) ok := .inl ⟨by omega, HKZ.out (by omega)⟩
      go_wp2_with fail
      all_goals
        obtain ⟨e0, e1, hA⟩ := set2_end (p := x1) (q := x2) HO.out HZB.out hZle (HV.out.thenF hAV)
        exact bodyPost_ret (v := .tuple #[.agg #[.int .i64 x1, .int .i64 x2], .bool ok]) (by simp [e0, e1, results, Try.results66, go_sem]) rfl ⟨⟨(x1, x2), ok, rfl, by rw [HXS.out]; exact hbl⟩, hA⟩
set_option maxHeartbeats 1000000 in
theorem find9_any {w : World} {s : DS} (h : IsDoc w s) (n : Int) :
    Calls Try.prog 43 #[.pointer (some ⟨s.rb, 0, none⟩), .int .i64 n] w fun e w' => (∃ x ok, e = .returned (.tuple #[.int .i64 x.1, .bool ok]) ∧ Best9 (lstN s.fr s.fr.length) n x ok) ∧ Adds w w' := by
  have HB := Lib.hid (best9_any h n)
  clear h
  go_enter Try.func43, Try.ntmps43
  go_wp2_with (go_at_call 66; refine HB.out.mono ?_; rintro e w1 ⟨⟨x, ok, rfl, hb⟩, ho⟩)
  go_ret2
  exact ⟨⟨x, ok, rfl, hb⟩, ho.thenF ((Only.refl _ w1).alloc _)⟩
def DS.draw (s : DS) : Int := s.ds[s.n]?.getD 0
def insI (key d v : Int) (xs : List It) : List It := xs.take (plc key xs) ++ (key, d, v) :: xs.drop (plc key xs)
theorem insI_len (key d v : Int) (xs : List It) : (insI key d v xs).length = xs.length + 1 := by
  unfold insI
  have := plc_le key xs
  simp only [List.length_append, List.length_take, List.length_cons, List.length_drop]
  omega
def DS.add (s : DS) (x : Int × Int) (lv : Value) : DS := { s with n := s.n + 1, lv := lv, its := insI (kOf x) s.draw x.1 s.its }
/-- What a call of the document's runs turns. -/
structure MovD (s s' : DS) (w w' : World) : Prop where
  only : Only s.own w w'
  rb : s'.rb = s.rb
  fb : s'.fb = s.fb
  all : ∀ y, s'.all y → s.all y ∨ w.heap.size ≤ y
theorem MovD.refl (s : DS) {w w' : World} (h : Adds w w') : MovD s s w w' := ⟨h.mono (fun _ _ h => h.elim), rfl, rfl, fun _ h => .inl h⟩
theorem MovD.own_eq {a b : DS} {u v : World} (h : MovD a b u v) : b.own = a.own := by
  funext y; unfold DS.own; rw [h.rb, h.fb]
theorem MovD.trans {a b c : DS} {u v w : World} (h : MovD a b u v) (k : MovD b c v w) : MovD a c u w :=
  ⟨h.only.trans (by have := k.only; rwa [h.own_eq] at this), k.rb.trans h.rb, k.fb.trans h.fb, fun y hy => (k.all y hy).elim (fun h1 => h.all y h1) (fun h1 => .inr (Nat.le_trans h.only.size h1))⟩
theorem MovD.ahead {a b : DS} {u v w : World} (h : Adds u v) (k : MovD a b v w) : MovD a b u w :=
  ⟨(h.mono (T := a.own) (fun _ _ h => h.elim)).trans k.only, k.rb, k.fb, fun y hy => (k.all y hy).elim .inl (fun h1 => .inr (Nat.le_trans h.size h1))⟩
theorem MovD.behind {a b : DS} {u v w : World} (k : MovD a b u v) (h : Adds v w) : MovD a b u w :=
  ⟨k.only.trans (h.mono (fun _ _ h => h.elim)), k.rb, k.fb, k.all⟩
theorem DS.head_ne {w : World} {s : DS} (h : IsDoc w s) : (∀ g, some g = s.lv.ownBlock → g ≠ s.rb) ∧ (∀ g, some g = s.dv.ownBlock → g ≠ s.rb) :=
  ⟨fun g hg e => blk_not_row h.blk (by decide) h.row (by rw [← e]; exact hg), fun g hg e => blk_not_row h.blk (by decide) h.drs (by rw [← e]; exact hg)⟩
/-- The tree's row is another one, and how many draws were taken. -/
theorem IsDoc.turn {w w' : World} {s : DS} (h : IsDoc w s) (ho : Only (· = s.rb) w w') {lv : Value} {its : List It} {n : Nat} (hb : Blk w' s.rb (rCells s.fv lv s.dv n) 104) (hr : w'.ownsRow 0 140 3 lv its.length (itCells its)) (hl : its.length < 900000) : IsDoc w' { s with lv := lv, its := its, n := n } :=
  ⟨hb, h.fre.only ho (fun e => h.ne e.symm), row_only2 h.drs ho (fun g hg e => (DS.head_ne h).2 g hg e), hr, h.ne, h.P1, h.P2, hl, h.dl⟩
theorem IsDoc.moved {w w' : World} {s s' : DS} (h : IsDoc w s) (h' : IsDoc w' s') (ho : Only s.own w w') (hrb : s'.rb = s.rb) (hfb : s'.fb = s.fb) (hdv : s'.dv = s.dv) (hlv : s'.lv = s.lv ∨ ∀ g, some g = s'.lv.ownBlock → w.heap.size ≤ g) : MovD s s' w w' :=
  ⟨ho, hrb, hfb, fun y hy => by
    rcases hy with (e | e) | e | e
    · exact .inl (.inl (.inl (e.trans hrb)))
    · exact .inl (.inl (.inr (e.trans hfb)))
    · rcases hlv with hlv | hlv
      · exact .inl (.inr (.inl (by rw [← hlv]; exact e)))
      · exact .inr (hlv y e)
    · exact .inl (.inr (.inr (by rw [← hdv]; exact e)))⟩
set_option maxRecDepth 100000 in
set_option maxHeartbeats 8000000 in
theorem add9_any {w : World} {s : DS} (h : IsDoc w s) (x : Int × Int) (hx : 0 ≤ x.1 ∧ 1 ≤ x.2 ∧ x.1 + x.2 ≤ 4096) (hk : hasK (kOf x) s.its = false) (hn : s.n < 1000000) (hil : s.its.length < 800000) :
    Calls Try.prog 65 #[.pointer (some ⟨s.rb, 0, none⟩), .agg #[.int .i64 x.1, .int .i64 x.2]] w fun e w' => (∃ v, e = .returned v) ∧ ∃ lv, IsDoc w' (s.add x lv) ∧ MovD s (s.add x lv) w w' := by
  obtain ⟨x1, x2⟩ := x
  simp only at hx
  obtain ⟨rb, hrb⟩ : ∃ rb, s.rb = rb := ⟨_, rfl⟩
  obtain ⟨n, hnn⟩ : ∃ n, s.n = n := ⟨_, rfl⟩
  obtain ⟨da, dc, hdv⟩ := ownsRow_opened h.drs
  have H := Lib.hid h
  have c3 : w.cell? ⟨rb, 3, none⟩ = some (.int .i64 n) := by rw [← hrb, ← hnn]; exact h.blk.cell 3
  have c2 : w.cell? ⟨rb, 2, none⟩ = some (.slice da s.ds.length dc) := by rw [← hrb, ← hdv]; exact h.blk.cell 2
  have f3 : w.frozen? ⟨rb, 3, none⟩ = false := by rw [← hrb]; exact h.blk.frozen 3
  have hrbl : rb < w.heap.size := by rw [← hrb]; exact h.blk.lt
  have hlvf : True := trivial
  obtain ⟨d, hdd⟩ : ∃ d, s.draw = d := ⟨_, rfl⟩
  have hw1 := wrap_ok (8192 * x2) (by omega) (by omega)
  have hw1' := wrap64_ok (8192 * x2) (by omega) (by omega)
  have hw2 := wrap_ok (8192 * x2 + x1) (by omega) (by omega)
  have hw2' := wrap64_ok (8192 * x2 + x1) (by omega) (by omega)
  have hwn := wrap_succ n (by omega)
  have hdraw : (n < s.ds.length ∧ ∃ dg, da = some ⟨dg, 0, none⟩ ∧ w.cell? ⟨dg, n, none⟩ = some (.int .u32 d)) ∨ (¬ n < s.ds.length ∧ d = 0) := by
    by_cases hlt : n < s.ds.length
    · refine .inl ⟨hlt, ?_⟩
      rcases h.drs.2 with ⟨h0, h1⟩ | ⟨g, cap, cur, h1, _, hg, _, _, _, hc⟩
      · omega
      · rw [hdv] at h1
        cases h1
        refine ⟨g, rfl, ?_⟩
        have h2 : s.ds[n]? = some d := by
          unfold DS.draw at hdd
          rw [hnn, List.getElem?_eq_getElem hlt] at hdd
          rw [List.getElem?_eq_getElem hlt]; exact congrArg some hdd
        have h3 : (cur.toList.take (s.ds.length * 1))[n]? = some (.int .u32 d) := by rw [hc, List.getElem?_map, h2]; rfl
        rw [List.getElem?_take] at h3
        split at h3
        · simpa [World.cell?, hg] using h3
        · cases h3
    · refine .inr ⟨hlt, ?_⟩
      unfold DS.draw at hdd
      rw [hnn, List.getElem?_eq_none (by omega)] at hdd
      exact hdd.symm
  obtain ⟨dl, hdl⟩ : ∃ dl, s.ds.length = dl := ⟨_, rfl⟩
  rw [hdl] at hdraw c2
  have HDD := Lib.hid hdd; have HK := Lib.hid hk
  obtain ⟨B, hB⟩ : ∃ B, w.heap.size = B := ⟨_, rfl⟩
  obtain ⟨W, hW⟩ : ∃ W, w.alloc (.cells #[.int .i64 x1, .int .i64 x2] 63) = W := ⟨_, rfl⟩
  have hO0 : Adds w W := by rw [← hW]; exact (Only.refl _ w).alloc _
  have hbx : Blk W B #[.int .i64 x1, .int .i64 x2] 63 := by rw [← hW, ← hB]; exact Blk.new w _ _
  have HO := Lib.hid hO0; have HBX := Lib.hid hbx; have HB := Lib.hid hB
  have c3 := cell_al c3 hO0
  have c2 := cell_al c2 hO0
  have f3 : W.frozen? ⟨rb, 3, none⟩ = false := by rw [← hrb]; exact (H.out.adds hO0).blk.frozen 3
  have HHI := Lib.hid (H.out.adds hO0)
  have hbn : B ≠ rb := by omega
  have HRB := Lib.hid hrb; have HNN := Lib.hid hnn
  rw [hrb]
  have hmv : ∀ (w4 : World), Only (fun _ => False) W w4 → Calls Try.prog 86 #[.pointer (some ⟨rb, 1, none⟩), .int .i64 (8192 * x2 + x1), .int .u32 d, .int .i64 x1] (w4.setCell ⟨rb, 3, none⟩ (.int .i64 (n + 1 : Int))) (fun e w' => (∃ v, e = .returned v) ∧ ∃ lv, IsDoc w' (s.add (x1, x2) lv) ∧ MovD s (s.add (x1, x2) lv) W w' ∧ Only (· = rb) (w4.setCell ⟨rb, 3, none⟩ (.int .i64 (n + 1 : Int))) w') := fun w4 h4 => by
    have h5 := HHI.out.adds h4
    have h6 : Blk (w4.setCell ⟨rb, 3, none⟩ (.int .i64 (n + 1 : Int))) rb (rCells s.fv s.lv s.dv (n + 1 : Int)) 104 := by
      have := h5.blk.setCell 3 (.int .i64 (n + 1 : Int))
      rw [HRB.out] at this
      exact this
    have hoS : Only (· = rb) w4 (w4.setCell ⟨rb, 3, none⟩ (.int .i64 (n + 1 : Int))) := (Only.refl (· = rb) w4).setCell (p := ⟨rb, 3, none⟩) (.inl rfl) _
    have h7 := row_only2 h5.row hoS (fun g hg e => (DS.head_ne h5).1 g hg (e.trans HRB.out.symm))
    refine (put9_any h6 h7 (by omega) HK.out).mono ?_
    rintro e w' ⟨rfl, ⟨tl', b1, b2⟩, b3⟩
    have hoT : Only (· = s.rb) w4 w' := by rw [HRB.out]; exact hoS.trans b3
    have h8 := h5.turn (lv := tl') (its := insI (kOf (x1, x2)) d x1 s.its) (n := n + 1) hoT (by rw [HRB.out]; exact_mod_cast b1) (by rw [insI_len]; exact ownsRow_base0 b2) (by rw [insI_len]; omega)
    have h9 : ({ s with lv := tl', its := insI (kOf (x1, x2)) d x1 s.its, n := n + 1 } : DS) = s.add (x1, x2) tl' := by unfold DS.add; rw [HDD.out, HNN.out]
    rw [h9] at h8
    refine ⟨⟨_, rfl⟩, tl', h8, ?_, b3⟩
    refine MovD.ahead h4 (h5.moved h8 (hoT.mono (fun y _ e => .inl e)) rfl rfl rfl (.inr (fun g hg => ?_)))
    have := row_base b2 g hg
    have h10 := hoS.size
    omega
  have HMV := Lib.hid hmv
  have HCL := Lib.hid (fun (w4 : World) (h4 : Only (fun _ => False) W w4) => (HBX.out.only h4 id).only ((Only.refl (· = rb) w4).setCell (p := ⟨rb, 3, none⟩) (.inl rfl) (.int .i64 (n + 1 : Int))) hbn)
  clear h hk hdd hdv hmv hO0 hbx hrb hnn hdl
  rcases hdraw with ⟨hlt, dg, rfl, hcd⟩ | ⟨hlt, rfl⟩
  · have hcd := cell_al hcd HO.out
    go_enter Try.func65, Try.ntmps65
    go_wp2_with fail
    go_quiet ((fail))
    go_wp2_with fail
    go_quiet ((fail))
    go_wp2_with fail
    refine wp_region_held_drew (S := (fun W' => W'.cell? ⟨B, 0, none⟩ = some (.int .i64 x1) ∧ W'.cell? ⟨B, 1, none⟩ = some (.int .i64 x2))) (by kernel_rfl) ⟨(HCL.out _ ⟨rfl, rfl, rfl, Nat.le_refl _, fun _ _ _ => rfl⟩).cell 0, (HCL.out _ ⟨rfl, rfl, rfl, Nat.le_refl _, fun _ _ _ => rfl⟩).cell 1⟩ (fun hHeld => ?_)
    refine wpAnyH_take (i := 0) (v := (.pointer (some ⟨rb, 0, none⟩))) rfl (by kernel_rfl) (by kernel_rfl) (by kernel_rfl) (fun _ _ _ h => h) (Or.inl ⟨by rfl, fun W hS => by first | rfl | (go_simp; done)⟩) hHeld ?_
    try simp only [Act.put, List.getElem_toArray, List.getElem_cons_succ, List.getElem_cons_zero, List.setIfInBounds_toArray, List.set_cons_zero, List.set_cons_succ]
    refine wpAnyH_take (i := 1) (v := (.pointer (some ⟨rb, 0, none⟩))) rfl (by kernel_rfl) (by kernel_rfl) (by kernel_rfl) (fun _ _ _ h => h) (Or.inl ⟨by rfl, fun W hS => by first | rfl | (go_simp; done)⟩) hHeld ?_
    try simp only [Act.put, List.getElem_toArray, List.getElem_cons_succ, List.getElem_cons_zero, List.setIfInBounds_toArray, List.set_cons_zero, List.set_cons_succ]
    refine wpAnyH_take (i := 2) (v := (.pointer (some ⟨rb, 1, none⟩))) rfl (by kernel_rfl) (by kernel_rfl) (by kernel_rfl) (fun _ _ _ h => h) (Or.inl ⟨by rfl, fun W hS => by first | rfl | (go_simp; done)⟩) hHeld ?_
    try simp only [Act.put, List.getElem_toArray, List.getElem_cons_succ, List.getElem_cons_zero, List.setIfInBounds_toArray, List.set_cons_zero, List.set_cons_succ]
    refine wpAnyH_take (i := 3) (v := (.pointer (some ⟨B, 1, none⟩))) rfl (by kernel_rfl) (by kernel_rfl) (by kernel_rfl) (fun _ _ _ h => h) (Or.inl ⟨by rfl, fun W hS => by first | rfl | (go_simp; done)⟩) hHeld ?_
    try simp only [Act.put, List.getElem_toArray, List.getElem_cons_succ, List.getElem_cons_zero, List.setIfInBounds_toArray, List.set_cons_zero, List.set_cons_succ]
    refine wpAnyH_take (i := 4) (v := (.int .i64 x2)) rfl (by kernel_rfl) (by kernel_rfl) (by kernel_rfl) (fun _ _ _ h => h) (Or.inl ⟨by rfl, fun W hS => by (obtain ⟨q1, q2⟩ := hS; go_simp; done)⟩) hHeld ?_
    try simp only [Act.put, List.getElem_toArray, List.getElem_cons_succ, List.getElem_cons_zero, List.setIfInBounds_toArray, List.set_cons_zero, List.set_cons_succ]
    refine wpAnyH_take (i := 5) (v := (.int .i64 (8192 * x2))) rfl (by kernel_rfl) (by kernel_rfl) (by kernel_rfl) (fun _ _ _ h => h) (Or.inl ⟨by rfl, fun W hS => by (go_simp; done)⟩) hHeld ?_
    try simp only [Act.put, List.getElem_toArray, List.getElem_cons_succ, List.getElem_cons_zero, List.setIfInBounds_toArray, List.set_cons_zero, List.set_cons_succ]
    refine wpAnyH_take (i := 6) (v := (.pointer (some ⟨B, 0, none⟩))) rfl (by kernel_rfl) (by kernel_rfl) (by kernel_rfl) (fun _ _ _ h => h) (Or.inl ⟨by rfl, fun W hS => by first | rfl | (go_simp; done)⟩) hHeld ?_
    try simp only [Act.put, List.getElem_toArray, List.getElem_cons_succ, List.getElem_cons_zero, List.setIfInBounds_toArray, List.set_cons_zero, List.set_cons_succ]
    refine wpAnyH_take (i := 7) (v := (.int .i64 x1)) rfl (by kernel_rfl) (by kernel_rfl) (by kernel_rfl) (fun _ _ _ h => h) (Or.inl ⟨by rfl, fun W hS => by (obtain ⟨q1, q2⟩ := hS; go_simp; done)⟩) hHeld ?_
    try simp only [Act.put, List.getElem_toArray, List.getElem_cons_succ, List.getElem_cons_zero, List.setIfInBounds_toArray, List.set_cons_zero, List.set_cons_succ]
    refine wpAnyH_take (i := 8) (v := (.int .i64 (8192 * x2 + x1))) rfl (by kernel_rfl) (by kernel_rfl) (by kernel_rfl) (fun _ _ _ h => h) (Or.inl ⟨by rfl, fun W hS => by (go_simp; done)⟩) hHeld ?_
    try simp only [Act.put, List.getElem_toArray, List.getElem_cons_succ, List.getElem_cons_zero, List.setIfInBounds_toArray, List.set_cons_zero, List.set_cons_succ]
    refine wpAnyH_take (i := 9) (v := (.int .u32 d)) rfl (by kernel_rfl) (by kernel_rfl) (by kernel_rfl) (fun _ _ _ h => h) (Or.inl ⟨by rfl, fun W hS => by first | rfl | (go_simp; done)⟩) hHeld ?_
    try simp only [Act.put, List.getElem_toArray, List.getElem_cons_succ, List.getElem_cons_zero, List.setIfInBounds_toArray, List.set_cons_zero, List.set_cons_succ]
    refine wpAnyH_take (i := 10) (v := (.pointer (some ⟨B, 0, none⟩))) rfl (by kernel_rfl) (by kernel_rfl) (by kernel_rfl) (fun _ _ _ h => h) (Or.inl ⟨by rfl, fun W hS => by first | rfl | (go_simp; done)⟩) hHeld ?_
    try simp only [Act.put, List.getElem_toArray, List.getElem_cons_succ, List.getElem_cons_zero, List.setIfInBounds_toArray, List.set_cons_zero, List.set_cons_succ]
    refine wpAnyH_take (i := 11) (v := (.int .i64 x1)) rfl (by kernel_rfl) (by kernel_rfl) (by kernel_rfl) (fun _ _ _ h => h) (Or.inl ⟨by rfl, fun W hS => by (obtain ⟨q1, q2⟩ := hS; go_simp; done)⟩) hHeld ?_
    try simp only [Act.put, List.getElem_toArray, List.getElem_cons_succ, List.getElem_cons_zero, List.setIfInBounds_toArray, List.set_cons_zero, List.set_cons_succ]
    refine wpAnyH_ready (rs := [12]) (by kernel_rfl) (by simp) (AllReadyH.cons rfl (fun K hK => ?_) AllReadyH.nil)
    simp only [List.getElem_toArray, List.getElem_cons_succ, List.getElem_cons_zero]
    go_simp
    rw [show ∀ (w : World) p v, (w.setCell p v).drew = w.drew.setCell p v from fun _ _ _ => rfl]
    refine (HMV.out (World.drew (World.drewN W _)) ⟨rfl, rfl, rfl, Nat.le_refl _, fun _ _ _ => rfl⟩).mono ?_
    rintro e w8 ⟨⟨v, rfl⟩, lv, h8, m8, ho8⟩
    refine hK.out _ _ ⟨(ho8.cellF (p := ⟨B, 0, none⟩) (cell_lt hHeld.1) hbn).trans hHeld.1, (ho8.cellF (p := ⟨B, 1, none⟩) (cell_lt hHeld.2) hbn).trans hHeld.2⟩ (fun hHeld => ?_)
    clear hK K
    try simp only [Act.put, List.getElem_toArray, List.getElem_cons_succ, List.getElem_cons_zero, List.setIfInBounds_toArray, List.set_cons_zero, List.set_cons_succ]
    refine wpAnyH_done (by kernel_rfl) ?_ _
    go_wp2_with fail
    go_end0
    exact ⟨⟨_, rfl⟩, lv, h8, MovD.ahead HO.out m8⟩
  · have hlt' : decide ((n : Int) < (dl : Int)) = false := by simpa using hlt
    go_enter Try.func65, Try.ntmps65
    go_wp2_with fail
    go_quiet ((fail))
    go_wp2_with fail
    refine wp_region_held_drew (S := (fun W' => W'.cell? ⟨B, 0, none⟩ = some (.int .i64 x1) ∧ W'.cell? ⟨B, 1, none⟩ = some (.int .i64 x2))) (by kernel_rfl) ⟨(HCL.out _ ⟨rfl, rfl, rfl, Nat.le_refl _, fun _ _ _ => rfl⟩).cell 0, (HCL.out _ ⟨rfl, rfl, rfl, Nat.le_refl _, fun _ _ _ => rfl⟩).cell 1⟩ (fun hHeld => ?_)
    refine wpAnyH_take (i := 0) (v := (.pointer (some ⟨rb, 0, none⟩))) rfl (by kernel_rfl) (by kernel_rfl) (by kernel_rfl) (fun _ _ _ h => h) (Or.inl ⟨by rfl, fun W hS => by first | rfl | (go_simp; done)⟩) hHeld ?_
    try simp only [Act.put, List.getElem_toArray, List.getElem_cons_succ, List.getElem_cons_zero, List.setIfInBounds_toArray, List.set_cons_zero, List.set_cons_succ]
    refine wpAnyH_take (i := 1) (v := (.pointer (some ⟨rb, 0, none⟩))) rfl (by kernel_rfl) (by kernel_rfl) (by kernel_rfl) (fun _ _ _ h => h) (Or.inl ⟨by rfl, fun W hS => by first | rfl | (go_simp; done)⟩) hHeld ?_
    try simp only [Act.put, List.getElem_toArray, List.getElem_cons_succ, List.getElem_cons_zero, List.setIfInBounds_toArray, List.set_cons_zero, List.set_cons_succ]
    refine wpAnyH_take (i := 2) (v := (.pointer (some ⟨rb, 1, none⟩))) rfl (by kernel_rfl) (by kernel_rfl) (by kernel_rfl) (fun _ _ _ h => h) (Or.inl ⟨by rfl, fun W hS => by first | rfl | (go_simp; done)⟩) hHeld ?_
    try simp only [Act.put, List.getElem_toArray, List.getElem_cons_succ, List.getElem_cons_zero, List.setIfInBounds_toArray, List.set_cons_zero, List.set_cons_succ]
    refine wpAnyH_take (i := 3) (v := (.pointer (some ⟨B, 1, none⟩))) rfl (by kernel_rfl) (by kernel_rfl) (by kernel_rfl) (fun _ _ _ h => h) (Or.inl ⟨by rfl, fun W hS => by first | rfl | (go_simp; done)⟩) hHeld ?_
    try simp only [Act.put, List.getElem_toArray, List.getElem_cons_succ, List.getElem_cons_zero, List.setIfInBounds_toArray, List.set_cons_zero, List.set_cons_succ]
    refine wpAnyH_take (i := 4) (v := (.int .i64 x2)) rfl (by kernel_rfl) (by kernel_rfl) (by kernel_rfl) (fun _ _ _ h => h) (Or.inl ⟨by rfl, fun W hS => by (obtain ⟨q1, q2⟩ := hS; go_simp; done)⟩) hHeld ?_
    try simp only [Act.put, List.getElem_toArray, List.getElem_cons_succ, List.getElem_cons_zero, List.setIfInBounds_toArray, List.set_cons_zero, List.set_cons_succ]
    refine wpAnyH_take (i := 5) (v := (.int .i64 (8192 * x2))) rfl (by kernel_rfl) (by kernel_rfl) (by kernel_rfl) (fun _ _ _ h => h) (Or.inl ⟨by rfl, fun W hS => by (go_simp; done)⟩) hHeld ?_
    try simp only [Act.put, List.getElem_toArray, List.getElem_cons_succ, List.getElem_cons_zero, List.setIfInBounds_toArray, List.set_cons_zero, List.set_cons_succ]
    refine wpAnyH_take (i := 6) (v := (.pointer (some ⟨B, 0, none⟩))) rfl (by kernel_rfl) (by kernel_rfl) (by kernel_rfl) (fun _ _ _ h => h) (Or.inl ⟨by rfl, fun W hS => by first | rfl | (go_simp; done)⟩) hHeld ?_
    try simp only [Act.put, List.getElem_toArray, List.getElem_cons_succ, List.getElem_cons_zero, List.setIfInBounds_toArray, List.set_cons_zero, List.set_cons_succ]
    refine wpAnyH_take (i := 7) (v := (.int .i64 x1)) rfl (by kernel_rfl) (by kernel_rfl) (by kernel_rfl) (fun _ _ _ h => h) (Or.inl ⟨by rfl, fun W hS => by (obtain ⟨q1, q2⟩ := hS; go_simp; done)⟩) hHeld ?_
    try simp only [Act.put, List.getElem_toArray, List.getElem_cons_succ, List.getElem_cons_zero, List.setIfInBounds_toArray, List.set_cons_zero, List.set_cons_succ]
    refine wpAnyH_take (i := 8) (v := (.int .i64 (8192 * x2 + x1))) rfl (by kernel_rfl) (by kernel_rfl) (by kernel_rfl) (fun _ _ _ h => h) (Or.inl ⟨by rfl, fun W hS => by (go_simp; done)⟩) hHeld ?_
    try simp only [Act.put, List.getElem_toArray, List.getElem_cons_succ, List.getElem_cons_zero, List.setIfInBounds_toArray, List.set_cons_zero, List.set_cons_succ]
    refine wpAnyH_take (i := 9) (v := (.int .u32 0)) rfl (by kernel_rfl) (by kernel_rfl) (by kernel_rfl) (fun _ _ _ h => h) (Or.inl ⟨by rfl, fun W hS => by first | rfl | (go_simp; done)⟩) hHeld ?_
    try simp only [Act.put, List.getElem_toArray, List.getElem_cons_succ, List.getElem_cons_zero, List.setIfInBounds_toArray, List.set_cons_zero, List.set_cons_succ]
    refine wpAnyH_take (i := 10) (v := (.pointer (some ⟨B, 0, none⟩))) rfl (by kernel_rfl) (by kernel_rfl) (by kernel_rfl) (fun _ _ _ h => h) (Or.inl ⟨by rfl, fun W hS => by first | rfl | (go_simp; done)⟩) hHeld ?_
    try simp only [Act.put, List.getElem_toArray, List.getElem_cons_succ, List.getElem_cons_zero, List.setIfInBounds_toArray, List.set_cons_zero, List.set_cons_succ]
    refine wpAnyH_take (i := 11) (v := (.int .i64 x1)) rfl (by kernel_rfl) (by kernel_rfl) (by kernel_rfl) (fun _ _ _ h => h) (Or.inl ⟨by rfl, fun W hS => by (obtain ⟨q1, q2⟩ := hS; go_simp; done)⟩) hHeld ?_
    try simp only [Act.put, List.getElem_toArray, List.getElem_cons_succ, List.getElem_cons_zero, List.setIfInBounds_toArray, List.set_cons_zero, List.set_cons_succ]
    refine wpAnyH_ready (rs := [12]) (by kernel_rfl) (by simp) (AllReadyH.cons rfl (fun K hK => ?_) AllReadyH.nil)
    simp only [List.getElem_toArray, List.getElem_cons_succ, List.getElem_cons_zero]
    go_simp
    rw [show ∀ (w : World) p v, (w.setCell p v).drew = w.drew.setCell p v from fun _ _ _ => rfl]
    refine (HMV.out (World.drew (World.drewN W _)) ⟨rfl, rfl, rfl, Nat.le_refl _, fun _ _ _ => rfl⟩).mono ?_
    rintro e w8 ⟨⟨v, rfl⟩, lv, h8, m8, ho8⟩
    refine hK.out _ _ ⟨(ho8.cellF (p := ⟨B, 0, none⟩) (cell_lt hHeld.1) hbn).trans hHeld.1, (ho8.cellF (p := ⟨B, 1, none⟩) (cell_lt hHeld.2) hbn).trans hHeld.2⟩ (fun hHeld => ?_)
    clear hK K
    try simp only [Act.put, List.getElem_toArray, List.getElem_cons_succ, List.getElem_cons_zero, List.setIfInBounds_toArray, List.set_cons_zero, List.set_cons_succ]
    refine wpAnyH_done (by kernel_rfl) ?_ _
    go_wp2_with fail
    go_end0
    exact ⟨⟨_, rfl⟩, lv, h8, MovD.ahead HO.out m8⟩
def delI (key : Int) (xs : List It) : List It := xs.take (plc key xs) ++ xs.drop (plc key xs + 1)
theorem delI_len (key : Int) (xs : List It) : (delI key xs).length ≤ xs.length := by
  unfold delI; simp only [List.length_append, List.length_take, List.length_drop]; omega
def DS.del (s : DS) (key : Int) (lv : Value) : DS := { s with lv := lv, its := delI key s.its }
theorem hasK_at {key : Int} {xs : List It} (h : hasK key xs = true) : ∃ x, xs[plc key xs]? = some x ∧ x.1 = key := by
  unfold hasK at h
  cases hx : xs[plc key xs]? with
  | none => rw [hx] at h; cases h
  | some x => rw [hx] at h; exact ⟨x, rfl, by simpa using h⟩
theorem drop9D_any {w : World} {s : DS} (h : IsDoc w s) {key : Int} (hk : hasK key s.its = true) :
    Calls Try.prog 67 #[.pointer (some ⟨s.rb, 1, none⟩), .int .i64 key] w fun e w' => (∃ v, e = .returned v) ∧ ∃ lv, IsDoc w' (s.del key lv) ∧ MovD s (s.del key lv) w w' ∧ Only (· = s.rb) w w' := by
  obtain ⟨x, hx, hxk⟩ := hasK_at hk
  have hlt := (List.getElem?_eq_some_iff.1 hx).1
  have hil := h.il
  refine (drop9_any h.blk h.row (by omega) hx hxk).mono ?_
  rintro e w' ⟨rfl, ⟨tl', b1, b2⟩, b3⟩
  have hl : (delI key s.its).length = s.its.length - 1 := by
    unfold delI; simp only [List.length_append, List.length_take, List.length_drop]; omega
  have h8 := h.turn (lv := tl') (its := delI key s.its) (n := s.n) b3 b1 (by rw [hl]; exact ownsRow_base0 b2) (by omega)
  exact ⟨⟨_, rfl⟩, tl', h8, h.moved h8 (b3.mono (fun y _ e => .inl e)) rfl rfl rfl (.inr (fun g hg => row_base b2 g hg)), b3⟩
/-- Pages turned, one behind the other. -/
def setTo (fr : List Bool) (a : Nat) (b : Bool) : Nat → List Bool
  | 0 => fr
  | k + 1 => (setTo fr a b k).set (a + k) b
theorem setTo_len (fr : List Bool) (a : Nat) (b : Bool) : ∀ k, (setTo fr a b k).length = fr.length
  | 0 => rfl
  | k + 1 => by rw [setTo, List.length_set, setTo_len fr a b k]
theorem setTo_at (fr : List Bool) (a : Nat) (b : Bool) (p : Nat) : ∀ k, a + k ≤ fr.length → (setTo fr a b k).getD p false = if a ≤ p ∧ p < a + k then b else fr.getD p false
  | 0, _ => by rw [if_neg (by omega)]; rfl
  | k + 1, h => by
    have ih := setTo_at fr a b p k (by omega)
    rw [setTo, List.getD_eq_getElem?_getD, List.getElem?_set]
    by_cases hp : a + k = p
    · rw [if_pos hp, if_pos (by rw [setTo_len]; omega), if_pos (by omega)]; rfl
    · rw [if_neg hp, ← List.getD_eq_getElem?_getD, ih]
      by_cases h2 : a ≤ p ∧ p < a + k
      · rw [if_pos h2, if_pos (by omega)]
      · rw [if_neg h2, if_neg (by omega)]
def DS.setF (s : DS) (a : Nat) (b : Bool) (k : Nat) : DS := { s with fr := setTo s.fr a b k }
/-- One page more is turned. -/
theorem IsDoc.page {w : World} {s : DS} {a : Nat} {b : Bool} {k : Nat} (h : IsDoc w (s.setF a b k)) (v : Value) (hv : v = .bool b) : IsDoc (w.setCell ⟨s.fb, a + k, none⟩ v) (s.setF a b (k + 1)) := by
  subst hv
  have ho : Only (· = s.fb) w (w.setCell ⟨s.fb, a + k, none⟩ (.bool b)) := (Only.refl (· = s.fb) w).setCell (p := ⟨s.fb, a + k, none⟩) (.inl rfl) _
  have hl1 : (setTo s.fr a b (k + 1)).length = s.fr.length := setTo_len ..
  have hl2 : (setTo s.fr a b k).length = s.fr.length := setTo_len ..
  have hb := h.blk.only ho h.ne
  have hfv : (s.setF a b (k + 1)).fv = (s.setF a b k).fv := by unfold DS.setF DS.fv; simp only [hl1, hl2]
  refine ⟨by rw [hfv]; exact hb, ?_, row_only2 h.drs ho (fun g hg e => blk_not_row h.fre (by decide) h.drs ((congrArg some e).symm.trans hg)), row_only2 h.row ho (fun g hg e => blk_not_row h.fre (by decide) h.row ((congrArg some e).symm.trans hg)), h.ne, ?_, ?_, h.il, h.dl⟩
  · have h1 := h.fre.setCell (a + k) (.bool b)
    have h2 : ((setTo s.fr a b k).map Value.bool).toArray.setIfInBounds (a + k) (.bool b) = ((setTo s.fr a b (k + 1)).map Value.bool).toArray := by
      rw [setTo, List.map_set]; simp
    exact h2 ▸ h1
  · have := h.P1; rw [show (s.setF a b k).fr.length = s.fr.length from hl2] at this; rw [show (s.setF a b (k + 1)).fr.length = s.fr.length from hl1]; exact this
  · have := h.P2; rw [show (s.setF a b k).fr.length = s.fr.length from hl2] at this; rw [show (s.setF a b (k + 1)).fr.length = s.fr.length from hl1]; exact this
theorem lt_big {a k m P : Nat} (h : a + m ≤ P) (hP : P ≤ 4096) (hk : k ≤ m) : a + k < 1000000 := by omega
theorem lt_len {a k m P : Nat} (h : a + m ≤ P) (hk : k < m) : a + k < P := by omega
theorem wrapB {x : Int} (h : -100000000 ≤ x ∧ x ≤ 100000000) : IntKind.i64.wrap x = x ∧ wrap64 x = x := ⟨wrap_ok x (by omega) (by omega), wrap64_ok x (by omega) (by omega)⟩
theorem pageD {w wr : World} {s D : DS} {a k : Nat} {b : Bool} (hR : IsDoc wr (D.setF a b k)) (hM : MovD s (D.setF a b k) w wr) (hf : D.fb = s.fb) : IsDoc (wr.setCell ⟨s.fb, a + k, none⟩ (.bool b)) (D.setF a b (k + 1)) ∧ MovD s (D.setF a b (k + 1)) w (wr.setCell ⟨s.fb, a + k, none⟩ (.bool b)) :=
  ⟨hf ▸ hR.page (.bool b) rfl, hM.only.setCell (p := ⟨s.fb, a + k, none⟩) (.inl (.inr rfl)) _, hM.rb, hM.fb, hM.all⟩
theorem stepI (a k : Nat) : Value.int .i64 ((a : Int) + (k : Int) + 1) = Value.int .i64 ((a + (k + 1) : Nat) : Int) := by congr 1
theorem less_i {a k m : Nat} (h : k < m) : a + m - (intOf (Value.int .i64 ((a : Int) + (k : Int) + 1))).toNat < a + m - (intOf (Value.int .i64 ((a + k : Nat) : Int))).toNat := by simp only [intOf]; omega
theorem rest_ok {a k P : Nat} {x2 : Int} (h : 0 ≤ (a : Int) ∧ 1 ≤ x2 ∧ (a : Int) + x2 ≤ (P : Int)) (hP : P ≤ 4096) (hk : (k : Int) < x2) : 0 ≤ ((a : Int) + (k : Int), x2 - (k : Int)).1 ∧ 1 ≤ ((a : Int) + (k : Int), x2 - (k : Int)).2 ∧ ((a : Int) + (k : Int), x2 - (k : Int)).1 + ((a : Int) + (k : Int), x2 - (k : Int)).2 ≤ 4096 := by
  simp only; omega
/-- What the document's Take leaves. -/
def TakeD (s : DS) (n at_ c : Int) (s' : DS) : Prop :=
  (n < 1 ∧ at_ = 0 ∧ c = 1 ∧ s' = s) ∨ (1 ≤ n ∧ (∀ y ∈ lstN s.fr s.fr.length, y.2 < n) ∧ at_ = 0 ∧ c = 3 ∧ s' = s) ∨
  (1 ≤ n ∧ ∃ x, IsBest n (lstN s.fr s.fr.length) x ∧ at_ = x.1 ∧ c = 0 ∧ ∃ lv, (x.2 ≤ n ∧ s' = (s.del (kOf x) lv).setF x.1.toNat false n.toNat) ∨ (n < x.2 ∧ ∃ lv', s' = ((s.del (kOf x) lv).setF x.1.toNat false n.toNat).add (x.1 + n, x.2 - n) lv'))
def TakeDPost (s : DS) (n : Int) (w : World) (e : Ending) (w' : World) : Prop := ∃ at_ c s', e = .returned (.tuple #[.int .i64 at_, .int .i64 c]) ∧ TakeD s n at_ c s' ∧ IsDoc w' s' ∧ MovD s s' w w'
/-- What Take wants of the items. -/
def TakeAsk (s : DS) (n : Int) : Prop := ∀ x, IsBest n (lstN s.fr s.fr.length) x → hasK (kOf x) s.its = true ∧ (n < x.2 → hasK (kOf (x.1 + n, x.2 - n)) (delI (kOf x) s.its) = false)
theorem take_more {s D : DS} {a k : Nat} {x2 : Int} {lv lv' : Value} {w wr W : World} (hb : IsBest (k : Int) (lstN s.fr s.fr.length) ((a : Int), x2)) (h1 : 1 ≤ (k : Int)) (hx : (k : Int) < x2) (hD : s.del (kOf ((a : Int), x2)) lv = D) (hDf : D.fb = s.fb)
    (h5 : IsDoc W ((D.setF a false k).add ((a : Int) + (k : Int), x2 - (k : Int)) lv')) (m5 : MovD (D.setF a false k) ((D.setF a false k).add ((a : Int) + (k : Int), x2 - (k : Int)) lv') wr W) (hM : MovD s (D.setF a false k) w wr) : TakeDPost s (k : Int) w (.returned (.tuple #[.int .i64 (a : Int), .int .i64 0])) W :=
  ⟨(a : Int), 0, _, rfl, .inr (.inr ⟨h1, _, hb, rfl, rfl, lv, .inr ⟨hx, lv', by rw [hD]; rfl⟩⟩), h5, hM.trans m5⟩
theorem take_less {s D : DS} {a k : Nat} {x2 : Int} {lv : Value} {w wr : World} (hb : IsBest (k : Int) (lstN s.fr s.fr.length) ((a : Int), x2)) (h1 : 1 ≤ (k : Int)) (hx : x2 ≤ (k : Int)) (hD : s.del (kOf ((a : Int), x2)) lv = D)
    (hR : IsDoc wr (D.setF a false k)) (hM : MovD s (D.setF a false k) w wr) : TakeDPost s (k : Int) w (.returned (.tuple #[.int .i64 (a : Int), .int .i64 0])) wr :=
  ⟨(a : Int), 0, _, rfl, .inr (.inr ⟨h1, _, hb, rfl, rfl, lv, .inl ⟨hx, by rw [hD]; rfl⟩⟩), hR, hM⟩
set_option maxRecDepth 100000 in
set_option maxHeartbeats 8000000 in
theorem take9_any {w : World} {s : DS} (h : IsDoc w s) (n : Int) (ha : 1 ≤ n → TakeAsk s n) (hn : s.n < 1000000) (hil : s.its.length < 800000) :
    Calls Try.prog 39 #[.pointer (some ⟨s.rb, 0, none⟩), .int .i64 n] w (TakeDPost s n w) := by
  have HB := Lib.hid (best9_any h n)
  have H := Lib.hid h
  have HA := Lib.hid ha
  clear h ha
  by_cases h1 : n < 1
  · go_enter Try.func39, Try.ntmps39
    go_wp2_with fail
    go_ret2
    exact ⟨0, 1, s, rfl, .inl ⟨h1, rfl, rfl, rfl⟩, H.out, MovD.refl _ (Only.refl _ _)⟩
  · go_enter Try.func39, Try.ntmps39
    go_wp2_with fail
    refine HB.out.mono ?_
    rintro e V ⟨⟨x, ok, rfl, hb⟩, hV⟩
    rcases hb with ⟨h2, _⟩ | ⟨-, ⟨rfl, hb⟩ | ⟨rfl, rfl, hb⟩⟩
    · omega
    · obtain ⟨hk, hk2⟩ := HA.out (by omega) x hb
      obtain ⟨x1, x2⟩ := x
      have hxb := (lstN_ok s.fr s.fr.length).1.bd _ hb.mem
      have hP2 := H.out.P2
      have hlong := hb.long
      simp only at hxb hlong hk2
      obtain ⟨a, rfl⟩ : ∃ a : Nat, x1 = a := ⟨x1.toNat, by omega⟩
      obtain ⟨m, rfl⟩ : ∃ m : Nat, n = m := ⟨n.toNat, by omega⟩
      have hO : Adds w (V.alloc (.cells #[.int .i64 (a : Int), .int .i64 x2] 63)) := hV.thenF ((Only.refl (fun _ => False) V).alloc _)
      obtain ⟨B, hB⟩ : ∃ B, V.heap.size = B := ⟨_, rfl⟩
      obtain ⟨W, hW⟩ : ∃ W, V.alloc (.cells #[.int .i64 (a : Int), .int .i64 x2] 63) = W := ⟨_, rfl⟩
      have hbx : Blk W B #[.int .i64 (a : Int), .int .i64 x2] 63 := by rw [← hW, ← hB]; exact Blk.new V _ _
      rw [hW] at hO
      have hBl : w.heap.size ≤ B := by rw [← hB]; exact hV.size
      have HI := Lib.hid (H.out.adds hO)
      have HO := Lib.hid hO; have HBX := Lib.hid hbx; have HBB := Lib.hid hb; have HK := Lib.hid hk; have HK2 := Lib.hid hk2
      have b0 := hbx.cell 0; have b1 := hbx.cell 1
      have hBr : B ≠ s.rb := by have := H.out.blk.lt; omega
      have hBf : B ≠ s.fb := by have := H.out.fre.lt; omega
      have ham : a + m ≤ s.fr.length := by omega
      have HX1 := Lib.hid h1
      have g1 : -100000000 ≤ 8192 * x2 ∧ 8192 * x2 ≤ 100000000 := by constructor <;> omega
      have g2 : -100000000 ≤ 8192 * x2 + (a : Int) ∧ 8192 * x2 + (a : Int) ≤ 100000000 := by constructor <;> omega
      have g3 : -100000000 ≤ (a : Int) + (m : Int) ∧ (a : Int) + (m : Int) ≤ 100000000 := by constructor <;> omega
      have g4 : -100000000 ≤ x2 - (m : Int) ∧ x2 - (m : Int) ≤ 100000000 := by constructor <;> omega
      obtain ⟨hw1, hw1'⟩ := wrapB g1; obtain ⟨hw2, hw2'⟩ := wrapB g2; obtain ⟨hw3, hw3'⟩ := wrapB g3; obtain ⟨hw4, hw4'⟩ := wrapB g4
      clear g1 g2 g3 g4
      clear hO hbx hb hk hk2 hV
      go_upto_region 6 with fail
      refine wp_region_held_drew (S := (fun W' => W'.cell? ⟨B, 0, none⟩ = some (.int .i64 (a : Int)) ∧ W'.cell? ⟨B, 1, none⟩ = some (.int .i64 x2))) (by kernel_rfl) ⟨b0, b1⟩ (fun hHeld => ?_)
      refine wpAnyH_take (i := 0) (v := (.pointer (some ⟨s.rb, 0, none⟩))) rfl (by kernel_rfl) (by kernel_rfl) (by kernel_rfl) (fun _ _ _ h => h) (Or.inl ⟨by rfl, fun W hS => by first | rfl | (go_simp; done)⟩) hHeld ?_
      try simp only [Act.put, List.getElem_toArray, List.getElem_cons_succ, List.getElem_cons_zero, List.setIfInBounds_toArray, List.set_cons_zero, List.set_cons_succ]
      refine wpAnyH_take (i := 1) (v := (.pointer (some ⟨s.rb, 0, none⟩))) rfl (by kernel_rfl) (by kernel_rfl) (by kernel_rfl) (fun _ _ _ h => h) (Or.inl ⟨by rfl, fun W hS => by first | rfl | (go_simp; done)⟩) hHeld ?_
      try simp only [Act.put, List.getElem_toArray, List.getElem_cons_succ, List.getElem_cons_zero, List.setIfInBounds_toArray, List.set_cons_zero, List.set_cons_succ]
      refine wpAnyH_take (i := 2) (v := (.pointer (some ⟨s.rb, 1, none⟩))) rfl (by kernel_rfl) (by kernel_rfl) (by kernel_rfl) (fun _ _ _ h => h) (Or.inl ⟨by rfl, fun W hS => by first | rfl | (go_simp; done)⟩) hHeld ?_
      try simp only [Act.put, List.getElem_toArray, List.getElem_cons_succ, List.getElem_cons_zero, List.setIfInBounds_toArray, List.set_cons_zero, List.set_cons_succ]
      refine wpAnyH_take (i := 3) (v := (.pointer (some ⟨B, 1, none⟩))) rfl (by kernel_rfl) (by kernel_rfl) (by kernel_rfl) (fun _ _ _ h => h) (Or.inl ⟨by rfl, fun W hS => by first | rfl | (go_simp; done)⟩) hHeld ?_
      try simp only [Act.put, List.getElem_toArray, List.getElem_cons_succ, List.getElem_cons_zero, List.setIfInBounds_toArray, List.set_cons_zero, List.set_cons_succ]
      refine wpAnyH_take (i := 4) (v := (.int .i64 x2)) rfl (by kernel_rfl) (by kernel_rfl) (by kernel_rfl) (fun _ _ _ h => h) (Or.inl ⟨by rfl, fun W hS => by (obtain ⟨q1, q2⟩ := hS; go_simp; done)⟩) hHeld ?_
      try simp only [Act.put, List.getElem_toArray, List.getElem_cons_succ, List.getElem_cons_zero, List.setIfInBounds_toArray, List.set_cons_zero, List.set_cons_succ]
      refine wpAnyH_take (i := 5) (v := (.int .i64 (8192 * x2))) rfl (by kernel_rfl) (by kernel_rfl) (by kernel_rfl) (fun _ _ _ h => h) (Or.inl ⟨by rfl, fun W hS => by (go_simp; done)⟩) hHeld ?_
      try simp only [Act.put, List.getElem_toArray, List.getElem_cons_succ, List.getElem_cons_zero, List.setIfInBounds_toArray, List.set_cons_zero, List.set_cons_succ]
      refine wpAnyH_take (i := 6) (v := (.pointer (some ⟨B, 0, none⟩))) rfl (by kernel_rfl) (by kernel_rfl) (by kernel_rfl) (fun _ _ _ h => h) (Or.inl ⟨by rfl, fun W hS => by first | rfl | (go_simp; done)⟩) hHeld ?_
      try simp only [Act.put, List.getElem_toArray, List.getElem_cons_succ, List.getElem_cons_zero, List.setIfInBounds_toArray, List.set_cons_zero, List.set_cons_succ]
      refine wpAnyH_take (i := 7) (v := (.int .i64 (a : Int))) rfl (by kernel_rfl) (by kernel_rfl) (by kernel_rfl) (fun _ _ _ h => h) (Or.inl ⟨by rfl, fun W hS => by (obtain ⟨q1, q2⟩ := hS; go_simp; done)⟩) hHeld ?_
      try simp only [Act.put, List.getElem_toArray, List.getElem_cons_succ, List.getElem_cons_zero, List.setIfInBounds_toArray, List.set_cons_zero, List.set_cons_succ]
      refine wpAnyH_take (i := 8) (v := (.int .i64 (8192 * x2 + (a : Int)))) rfl (by kernel_rfl) (by kernel_rfl) (by kernel_rfl) (fun _ _ _ h => h) (Or.inl ⟨by rfl, fun W hS => by (go_simp; done)⟩) hHeld ?_
      try simp only [Act.put, List.getElem_toArray, List.getElem_cons_succ, List.getElem_cons_zero, List.setIfInBounds_toArray, List.set_cons_zero, List.set_cons_succ]
      refine wpAnyH_ready (rs := [9]) (by kernel_rfl) (by simp) (AllReadyH.cons rfl (fun K hK => ?_) AllReadyH.nil)
      simp only [List.getElem_toArray, List.getElem_cons_succ, List.getElem_cons_zero]
      go_simp
      refine (drop9D_any (HI.out.adds ((Only.refl (fun _ => False) W).drew)) HK.out).mono ?_
      rintro e W2 ⟨⟨v, rfl⟩, lv, h2, m2, ho2⟩
      refine hK.out _ _ ⟨(ho2.cellF (p := ⟨B, 0, none⟩) (cell_lt hHeld.1) hBr).trans hHeld.1, (ho2.cellF (p := ⟨B, 1, none⟩) (cell_lt hHeld.2) hBr).trans hHeld.2⟩ (fun hHeld => ?_)
      clear hK K
      try simp only [Act.put, List.getElem_toArray, List.getElem_cons_succ, List.getElem_cons_zero, List.setIfInBounds_toArray, List.set_cons_zero, List.set_cons_succ]
      refine wpAnyH_done (by kernel_rfl) ?_ _
      have hbx2 := (HBX.out.only ((Only.refl (fun _ => False) W).drew) id).only ho2 hBr
      have H2 := Lib.hid h2; have M2 := Lib.hid (MovD.ahead (HO.out.thenF ((Only.refl (fun _ => False) W).drew)) m2); have HBX2 := Lib.hid hbx2
      have c0 : W2.cell? ⟨B, 0, none⟩ = some (.int .i64 (a : Int)) := hbx2.cell 0
      clear hHeld h2 m2 ho2 hbx2 b0 b1
      obtain ⟨D, hD⟩ : ∃ D, s.del (kOf ((a : Int), x2)) lv = D := ⟨_, rfl⟩
      rw [hD] at H2 M2
      have hDr : D.rb = s.rb := by rw [← hD]; rfl
      have hDf : D.fb = s.fb := by rw [← hD]; rfl
      have hDl : D.fr.length = s.fr.length := by rw [← hD]; rfl
      obtain ⟨P, hP⟩ : ∃ P, s.fr.length = P := ⟨_, rfl⟩
      rw [hP] at hDl hP2 hxb ham
      clear hw1 hw1' hw2 hw2' 
      have HW3 := Lib.hid hw3; have HW3' := Lib.hid hw3'; have HW4 := Lib.hid hw4; have HW4' := Lib.hid hw4'; have HAM := Lib.hid ham; have HXB := Lib.hid hxb; have HLG := Lib.hid hlong; have HP2 := Lib.hid hP2
      clear hw4 hw4' ham hxb hlong hP2
      have HD := Lib.hid hD; have HP := Lib.hid hP; have HDL := Lib.hid hDl
      clear hD hP
      go_wp2_with fail
      go_loopw [8] (fun iv wr => ∃ k : Nat, iv = .int .i64 ((a + k : Nat) : Int) ∧ k ≤ m ∧ Hid (IsDoc wr (D.setF a false k)) ∧ Hid (MovD s (D.setF a false k) w wr) ∧ Hid (Blk wr B #[.int .i64 (a : Int), .int .i64 x2] 63)) (fun iv _ => a + m - (intOf iv).toNat)
      case atStart => exact ⟨0, rfl, Nat.zero_le _, H2, M2, HBX2⟩
      case round =>
        obtain ⟨k, rfl, hkm, HR, HMV, HBR⟩ := hrel
        have c0 : wr.cell? ⟨B, 0, none⟩ = some (.int .i64 (a : Int)) := HBR.out.cell 0
        have c1 : wr.cell? ⟨B, 1, none⟩ = some (.int .i64 x2) := HBR.out.cell 1
        have hlf : (setTo D.fr a false k).length = P := by rw [setTo_len]; exact hDl
        have d0 : wr.cell? ⟨s.rb, 0, none⟩ = some (.slice (some ⟨s.fb, 0, none⟩) P P) := by
          have h9 := HR.out.blk.cell 0
          rw [show (D.setF a false k).rb = s.rb from hDr, show (D.setF a false k).fv = .slice (some ⟨s.fb, 0, none⟩) P P by unfold DS.setF DS.fv; simp only [hlf, hDf]] at h9
          exact h9
        have hka : a + k < 1000000 := lt_big HAM.out HP2.out hkm
        have hwk := wrap_succ (a + k) hka
        by_cases hk2 : k < m
        · have hap : a + k < P := lt_len HAM.out hk2
          have e0 := HR.out.freeCell (i := a + k) (by show a + k < (setTo D.fr a false k).length; rw [hlf]; exact hap)
          rw [show (D.setF a false k).fb = s.fb from hDf] at e0
          generalize (D.setF a false k).fr.getD (a + k) false = ob at e0
          have fe : wr.frozen? ⟨s.fb, a + k, none⟩ = false := by have := HR.out.fre.frozen (a + k); rwa [show (D.setF a false k).fb = s.fb from hDf] at this
          go_wp2_with fail
          go_roundw
          case rel =>
            obtain ⟨n1, n2⟩ := pageD HR.out HMV.out hDf
            exact ⟨k + 1, stepI a k, hk2, Lib.hid n1, Lib.hid n2, Lib.hid (HBR.out.only ((Only.refl (· = s.fb) wr).setCell (p := ⟨s.fb, a + k, none⟩) (.inl rfl) _) hBf)⟩
          case measure => exact less_i hk2
        · obtain rfl : k = m := Nat.le_antisymm hkm (Nat.le_of_not_lt hk2)
          by_cases hx2 : (k : Int) < x2
          · have hxk : x2 ≠ 0 := by intro e; rw [e] at hx2; exact absurd (Int.lt_of_le_of_lt (Int.natCast_nonneg k) hx2) (by decide)
            have q1 := rest_ok HXB.out HP2.out hx2
            have q2 : hasK (kOf ((a : Int) + (k : Int), x2 - (k : Int))) (D.setF a false k).its = false := by
              have e9 : (D.setF a false k).its = delI (kOf ((a : Int), x2)) s.its := by rw [← HD.out]; rfl
              rw [e9]; exact HK2.out hx2
            have q3 : (D.setF a false k).n < 1000000 := by
              have e9 : (D.setF a false k).n = s.n := by rw [← HD.out]; rfl
              rw [e9]; exact hn
            have q4 : (D.setF a false k).its.length < 800000 := by
              have e9 : (D.setF a false k).its = delI (kOf ((a : Int), x2)) s.its := by rw [← HD.out]; rfl
              rw [e9]; exact Nat.lt_of_le_of_lt (delI_len _ _) hil
            have had := add9_any HR.out ((a : Int) + (k : Int), x2 - (k : Int)) q1 q2 q3 q4
            rw [show (D.setF a false k).rb = s.rb from hDr] at had
            simp only at had
            have HAD := Lib.hid had
            clear q1 q2 q3 q4 had
            have h4 := HW4.out; have h4' := HW4'.out; have h3 := HW3.out; have h3' := HW3'.out
            clear hxk
            have hBo : ¬ (D.setF a false k).own B := by
              rintro (e | e)
              · exact hBr (e.trans hDr)
              · exact hBf (e.trans hDf)
            go_wp2_with (go_at_call 65; refine HAD.out.mono ?_; rintro e W3 ⟨⟨v, rfl⟩, lv', h5, m5⟩; have c9 := (m5.only.cellF (p := ⟨B, 0, none⟩) (cell_lt c0) hBo).trans c0; have H5 := Lib.hid h5; have M5 := Lib.hid m5; clear h5 m5)
            go_ret2
            exact take_more HBB.out HX1.out hx2 HD.out hDf H5.out M5.out HMV.out
          · go_wp2_with fail
            go_ret2
            exact take_less HBB.out HX1.out hx2 HD.out HR.out HMV.out
    · go_wp2_with fail
      go_ret2
      have ho := hV.thenF ((Only.refl (fun _ => False) V).alloc (.cells #[.int .i64 0, .int .i64 0] 63))
      exact ⟨0, 3, s, rfl, .inr (.inl ⟨by omega, hb, rfl, rfl, rfl⟩), H.out.adds ho, MovD.refl _ ho⟩
end Go.Proofs.Ytbijbpnhakbeeaa

/- The document's tree: its items in memory; place, Has, at whatever state. By an AI agent. -/
import Derived.Test.YtbijbpnhakbeeaaRunsAwake
namespace Go.Proofs.Ytbijbpnhakbeeaa
open Go.RowKit

/-- A key, its draw, its value. -/
abbrev It := Int × Int × Int
def itCells : List It → List Value
  | [] => []
  | x :: r => .int .i64 x.1 :: .int .u32 x.2.1 :: .int .i64 x.2.2 :: itCells r
theorem itCells_append (a b : List It) : itCells (a ++ b) = itCells a ++ itCells b := by
  induction a with
  | nil => rfl
  | cons x r ih => simp [itCells, ih]
theorem itCells_len (xs : List It) : (itCells xs).length = xs.length * 3 := by
  induction xs with
  | nil => rfl
  | cons x r ih => simp [itCells, ih]; omega
theorem itCells_one (xs : List It) : ∀ v ∈ itCells xs, v.oneCell' = true := by
  induction xs with
  | nil => intro v h; cases h
  | cons x r ih =>
    intro v hv
    simp only [itCells, List.mem_cons] at hv
    rcases hv with rfl | rfl | rfl | hv
    · rfl
    · rfl
    · rfl
    · exact ih v hv
theorem itCells_at (xs : List It) : ∀ (j : Nat) (x : It), xs[j]? = some x → (itCells xs)[j * 3]? = some (.int .i64 x.1) ∧ (itCells xs)[j * 3 + 1]? = some (.int .u32 x.2.1) ∧ (itCells xs)[j * 3 + 2]? = some (.int .i64 x.2.2) := by
  induction xs with
  | nil => intro j x h; simp at h
  | cons y r ih =>
    intro j x h
    cases j with
    | zero => simp at h; subst h; simp [itCells]
    | succ j =>
      have := ih j x (by simpa using h)
      rw [show (j + 1) * 3 = j * 3 + 1 + 1 + 1 by omega]
      simpa [itCells] using this
theorem itCells_take (xs : List It) : ∀ i, (itCells xs).take (i * 3) = itCells (xs.take i) := by
  induction xs with
  | nil => intro i; simp [itCells]
  | cons x r ih =>
    intro i
    cases i with
    | zero => simp [itCells]
    | succ i => rw [show (i + 1) * 3 = i * 3 + 1 + 1 + 1 by omega]; simp [itCells, ih]
theorem itCells_drop (xs : List It) : ∀ i, (itCells xs).drop (i * 3) = itCells (xs.drop i) := by
  induction xs with
  | nil => intro i; simp [itCells]
  | cons x r ih =>
    intro i
    cases i with
    | zero => simp [itCells]
    | succ i => rw [show (i + 1) * 3 = i * 3 + 1 + 1 + 1 by omega]; simp [itCells, ih]
/-- A slice of items: what its cells hold. -/
def ItAt (w : World) (v : Value) (xs : List It) : Prop :=
  ∃ a cap, v = .slice a xs.length cap ∧ xs.length ≤ cap ∧ cap ≤ maxLen ∧ (a = none → cap = 0) ∧ ∀ i x, xs[i]? = some x → ∃ b off, a = some ⟨b, off, none⟩ ∧ w.cell? ⟨b, off + i * 3, none⟩ = some (.int .i64 x.1) ∧ w.cell? ⟨b, off + i * 3 + 1, none⟩ = some (.int .u32 x.2.1) ∧ w.cell? ⟨b, off + i * 3 + 2, none⟩ = some (.int .i64 x.2.2)
theorem ItAt.adds {w w' : World} {v : Value} {xs : List It} (h : ItAt w v xs) (ho : Adds w w') : ItAt w' v xs := by
  obtain ⟨a, cap, h1, h2, h2', h3, h4⟩ := h
  refine ⟨a, cap, h1, h2, h2', h3, fun i x hx => ?_⟩
  obtain ⟨b, off, h5, h6, h7, h8⟩ := h4 i x hx
  exact ⟨b, off, h5, cell_al h6 ho, cell_al h7 ho, cell_al h8 ho⟩
theorem ItAt.of_owns {w : World} {base : Nat} {e : TypeId} {v : Value} {n : Nat} {xs : List It} (h : w.ownsRow base e 3 v n (itCells xs)) : ItAt w v xs ∧ n = xs.length := by
  have hl : (itCells xs).length = n * 3 := h.1
  rw [itCells_len] at hl
  obtain rfl : n = xs.length := by omega
  refine ⟨?_, rfl⟩
  rcases h.2 with ⟨h0, h1⟩ | ⟨g, cap, cur, h1, h2, h3, h4, h4', h4'', h5⟩
  · have : xs = [] := List.eq_nil_of_length_eq_zero h1
    subst this
    exact ⟨none, 0, h0, Nat.le_refl _, Nat.zero_le _, fun _ => rfl, fun i x hx => by simp at hx⟩
  · refine ⟨_, cap, h1, ?_, ?_, fun h => (by cases h), fun i x hx => ⟨g, 0, rfl, ?_⟩⟩
    · omega
    · omega
    have hi : i < xs.length := (List.getElem?_eq_some_iff.1 hx).1
    obtain ⟨e1, e2, e3⟩ := itCells_at xs i x hx
    rw [← h5, List.getElem?_take_of_lt (by omega)] at e1 e2 e3
    rw [Nat.zero_add]
    exact ⟨by simpa [World.cell?, h3] using e1, by simpa [World.cell?, h3] using e2, by simpa [World.cell?, h3] using e3⟩
/-- The first item's place that is not below a key. -/
def plc (key : Int) : List It → Nat
  | [] => 0
  | x :: r => if x.1 < key then plc key r + 1 else 0
theorem plc_le (key : Int) : ∀ xs : List It, plc key xs ≤ xs.length
  | [] => Nat.le_refl _
  | x :: r => by
    have := plc_le key r
    unfold plc
    split
    · simp; omega
    · simp
theorem plc_lt (key : Int) : ∀ (xs : List It) (j : Nat) (x : It), xs[j]? = some x → j < plc key xs → x.1 < key
  | [], j, x, h, _ => by simp at h
  | y :: r, j, x, h, hj => by
    unfold plc at hj
    split at hj
    · cases j with
      | zero => simp at h; subst h; assumption
      | succ j => exact plc_lt key r j x (by simpa using h) (by omega)
    · omega
theorem plc_at (key : Int) : ∀ (xs : List It) (x : It), xs[plc key xs]? = some x → ¬ x.1 < key
  | [], x, h => by simp at h
  | y :: r, x, h => by
    unfold plc at h
    split at h
    · exact plc_at key r x (by simpa using h)
    · simp at h; subst h; assumption
/-- Is a key there? -/
def hasK (key : Int) (xs : List It) : Bool := match xs[plc key xs]? with | some x => decide (x.1 = key) | none => false
section
variable {w : World} {rb : Nat} {fr tl dr : Value} {n : Int} {xs : List It}
abbrev rCells (fr tl dr : Value) (n : Int) : Array Value := #[fr, tl, dr, .int .i64 n]
set_option maxHeartbeats 2000000 in
theorem place9_any (h : Blk w rb (rCells fr tl dr n) 104) (hx : ItAt w tl xs) (hl : xs.length < 1000000) (key : Int) : Calls Try.prog 88 #[.pointer (some ⟨rb, 1, none⟩), .int .i64 key] w fun e w' => e = .returned (.int .i64 (plc key xs)) ∧ w = w' := by
  obtain ⟨a, c, rfl, -, -, -, hv⟩ := hx
  have c1 : w.cell? ⟨rb, 1, none⟩ = some (.slice a xs.length c) := h.cell 1
  have HV := Lib.hid hv
  obtain ⟨p, hp⟩ : ∃ p, p = plc key xs := ⟨_, rfl⟩
  have HP := Lib.hid hp
  have hple : p ≤ xs.length := hp ▸ plc_le key xs
  rw [← hp]
  clear h hv hp
  go_enter Try.func88, Try.ntmps88
  go_wp2
  go_loopw [5] (fun i wr => ∃ k : Nat, k ≤ p ∧ i = .int .i64 k ∧ wr = w) (fun i _ => p - (intOf i).toNat)
  case atStart => exact ⟨0, Nat.zero_le _, rfl, rfl⟩
  case round =>
    obtain ⟨k, hk, rfl, rfl⟩ := hrel
    have hk4 : k < 1000000 := by omega
    have hwk := wrap_succ k hk4
    by_cases hkn : k < xs.length
    · obtain ⟨x, hx⟩ : ∃ x, xs[k]? = some x := ⟨_, List.getElem?_eq_getElem hkn⟩
      obtain ⟨b, o, rfl, p1, -, -⟩ := HV.out k x hx
      by_cases hkp : k < p
      · have h1 : x.1 < key := plc_lt key xs k x hx (HP.out ▸ hkp)
        clear hx
        go_wp2
        go_roundw
        case rel => exact ⟨k + 1, by omega, by simp, trivial⟩
        case measure => simp [intOf]; omega
      · obtain rfl : k = p := by omega
        have h1 : ¬ x.1 < key := plc_at key xs x (by rw [← HP.out]; exact hx)
        clear hx
        go_wp2
        go_ret
        exact ⟨rfl, rfl⟩
    · obtain rfl : k = p := by omega
      go_wp2
      go_ret
      exact ⟨rfl, rfl⟩
set_option maxHeartbeats 2000000 in
theorem has9_any (h : Blk w rb (rCells fr tl dr n) 104) (hx : ItAt w tl xs) (hl : xs.length < 1000000) (key : Int) : Calls Try.prog 87 #[.pointer (some ⟨rb, 1, none⟩), .int .i64 key] w fun e w' => e = .returned (.bool (hasK key xs)) ∧ w = w' := by
  have HPL := Lib.hid (place9_any h hx hl key)
  obtain ⟨a, c, rfl, -, -, -, hv⟩ := hx
  have c1 : w.cell? ⟨rb, 1, none⟩ = some (.slice a xs.length c) := h.cell 1
  obtain ⟨p, hp⟩ : ∃ p, plc key xs = p := ⟨_, rfl⟩
  have hple : p ≤ xs.length := hp ▸ plc_le key xs
  rw [hp] at HPL
  by_cases hkn : p < xs.length
  · obtain ⟨x, hx⟩ : ∃ x, xs[p]? = some x := ⟨_, List.getElem?_eq_getElem hkn⟩
    obtain ⟨b, o, rfl, p1, -, -⟩ := hv p x hx
    have hh : hasK key xs = decide (x.1 = key) := by unfold hasK; rw [hp, hx]
    rw [hh]
    clear hx hh hp h hv
    go_enter Try.func87, Try.ntmps87
    go_wp2_with (go_at_call 88; refine HPL.out.mono ?_; rintro e w1 ⟨rfl, rfl⟩)
    go_ret
    exact ⟨rfl, rfl⟩
  · have hh : hasK key xs = false := by unfold hasK; rw [hp, List.getElem?_eq_none (by omega)]
    rw [hh]
    clear hh hp h hv
    go_enter Try.func87, Try.ntmps87
    go_wp2_with (go_at_call 88; refine HPL.out.mono ?_; rintro e w1 ⟨rfl, rfl⟩)
    go_ret
    exact ⟨rfl, rfl⟩
end
end Go.Proofs.Ytbijbpnhakbeeaa

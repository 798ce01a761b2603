/- The nodes of a tree from its root on, and by rising keys: as an iterator hands them out. By an AI agent. -/
import Derived.RangeFuncKeeps
import Derived.Test.YtbijbpnhakbeeaaTreeMem
namespace Go.Proofs.Ytbijbpnhakbeeaa
open Go.RowKit
/-- A node that stands in the world: its block, its key, how many stand above it. -/
structure Nd (w : World) where
  b : Nat
  k : Int
  dep : Nat
  hc : w.cell? ⟨b, 0, none⟩ = some (.int .i64 k)
def Nd.enc {w : World} (x : Nd w) : Array Value := #[.pointer (some ⟨x.b, 0, none⟩), .int .i64 x.dep]
def Nd.enc1 {w : World} (x : Nd w) : Array Value := #[.pointer (some ⟨x.b, 0, none⟩)]
theorem Nd.lt {w : World} (x : Nd w) : x.b < w.heap.size := cell_lt x.hc
/-- From the root on. -/
def nds {T : TypeId} {w : World} : (t : Tr) → IsTr T w t → Nat → List (Nd w)
  | .nil, _, _ => []
  | .node b k _ _ l r, h, dep => ⟨b, k, dep, h.1.cell 0⟩ :: (nds l h.2.1 (dep + 1) ++ nds r h.2.2 (dep + 1))
/-- By rising keys. -/
def ris {T : TypeId} {w : World} : (t : Tr) → IsTr T w t → List (Nd w)
  | .nil, _ => []
  | .node b k _ _ l r, h => ris l h.2.1 ++ ⟨b, k, 0, h.1.cell 0⟩ :: ris r h.2.2
theorem nds_shape {T : TypeId} {w : World} (t : Tr) : ∀ (h : IsTr T w t) (dep : Nat), (nds t h dep).map (fun x => (x.k, (x.dep : Int))) = Tr.shape dep t := by
  induction t with
  | nil => intro _ _; rfl
  | node b k d v l r ihl ihr => intro h dep; simp [nds, Tr.shape, ihl, ihr]
theorem nds_len {T : TypeId} {w : World} (t : Tr) (h : IsTr T w t) (dep : Nat) : (nds t h dep).length = t.size := by
  rw [← Tr.shape_len dep t, ← nds_shape t h dep, List.length_map]
theorem ris_keys {T : TypeId} {w : World} (t : Tr) : ∀ (h : IsTr T w t), (ris t h).map (fun x => x.k) = t.ins.map (·.1) := by
  induction t with
  | nil => intro _; rfl
  | node b k d v l r ihl ihr => intro h; simp [ris, Tr.ins, ihl, ihr]
theorem ris_len {T : TypeId} {w : World} (t : Tr) (h : IsTr T w t) : (ris t h).length = t.size := by
  rw [← Tr.size_ins t, ← List.length_map (f := fun x : Nd w => x.k), ris_keys, List.length_map]

/-- Where no depth is asked the figures are all one. -/
theorem room_of_none {F : Fence} (hd : F.depth = none) (k : Nat) : F.room k := fun d h => by rw [hd] at h; cases h
theorem roundIn_anyDepth {F : Fence} (hd : F.depth = none) {m m' : Nat} {P : Program} {l : Nat} {f : FuncId} {tmps : Array Value} {assign body : Code} {w : World} {R : Ending → World → Prop}
    (h : RoundIn F m P l f tmps assign body w R) : RoundIn F m' P l f tmps assign body w R := ⟨h.1, fun c cs _ => h.2 c cs (room_of_none hd _)⟩
theorem yieldAt_anyDepth {F : Fence} (hd : F.depth = none) {m : Nat} (m' : Nat) {P : Program} {l : Nat} {args : Array Value} {W : World} {R : Ending → World → Prop} (h : YieldAt F m P l args W R) : YieldAt F m' P l args W R := by
  obtain ⟨fn, tmps, assign, body, hy, hR⟩ := h
  exact ⟨fn, tmps, assign, body, hy, roundIn_anyDepth hd hR⟩
/-- The cells of the nodes that are told. -/
def shCells : List (Int × Int) → List Value
  | [] => []
  | x :: xs => .int .i64 x.1 :: .int .i64 x.2 :: shCells xs

def ndCells {w : World} (l : List (Nd w)) : List Value := shCells (l.map fun x => (x.k, (x.dep : Int)))
theorem ndCells_snoc {w : World} (l : List (Nd w)) (x : Nd w) : ndCells (l ++ [x]) = ndCells l ++ [.int .i64 x.k, .int .i64 x.dep] := by
  unfold ndCells
  induction l with
  | nil => rfl
  | cons y l ih => simp only [List.cons_append, List.map_cons, shCells, ih]

theorem ownsRow_slice {W : World} {base : Nat} {e : TypeId} {size : Nat} {v : Value} {k : Nat} {xs : List Value} (h : W.ownsRow base e size v k xs) : ∃ a l c, v = .slice a l c := by
  rcases h.2 with ⟨rfl, _⟩ | ⟨g, cap, _, rfl, _⟩
  · exact ⟨_, _, _, rfl⟩
  · exact ⟨_, _, _, rfl⟩

def kyCells {w : World} (l : List (Nd w)) : List Value := l.map fun x => .int .i64 x.k
theorem kyCells_snoc {w : World} (l : List (Nd w)) (x : Nd w) : kyCells (l ++ [x]) = kyCells l ++ [.int .i64 x.k] := by simp [kyCells]
theorem kyCells_ris {T : TypeId} {w : World} (t : Tr) (h : IsTr T w t) : kyCells (ris t h) = t.ins.map fun e => .int .i64 e.1 := by
  have := congrArg (List.map (Value.int .i64)) (ris_keys t h)
  rw [List.map_map, List.map_map] at this
  exact this
end Go.Proofs.Ytbijbpnhakbeeaa

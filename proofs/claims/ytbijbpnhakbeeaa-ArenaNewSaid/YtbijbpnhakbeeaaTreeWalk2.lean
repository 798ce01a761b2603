/- The nodes of a tree from its root on, and by rising keys: as an iterator hands them out. By an AI agent. -/
import Derived.Test.YtbijbpnhakbeeaaTreeMem2
import Derived.Test.YtbijbpnhakbeeaaTreeWalk
namespace Go.Proofs.Ytbijbpnhakbeeaa
open Go.RowKit
/-- From the root on. -/
def nds2 {T : TypeId} {w : World} : (t : Tr) → IsTr2 T w t → Nat → List (Nd w)
  | .nil, _, _ => []
  | .node b k _ _ l r, h, dep => ⟨b, k, dep, h.1.cell 0⟩ :: (nds2 l h.2.1 (dep + 1) ++ nds2 r h.2.2 (dep + 1))
theorem nds2_shape {T : TypeId} {w : World} (t : Tr) : ∀ (h : IsTr2 T w t) (dep : Nat), (nds2 t h dep).map (fun x => (x.k, (x.dep : Int))) = Tr.shape dep t := by
  induction t with
  | nil => intro _ _; rfl
  | node b k d v l r ihl ihr => intro h dep; simp [nds2, Tr.shape, ihl, ihr]
theorem nds2_len {T : TypeId} {w : World} (t : Tr) (h : IsTr2 T w t) (dep : Nat) : (nds2 t h dep).length = t.size := by
  rw [← Tr.shape_len dep t, ← nds2_shape t h dep, List.length_map]
end Go.Proofs.Ytbijbpnhakbeeaa

/- The example of chapter 9 holds. By an AI agent. -/
import Derived.Test.YtkjehmbaolhmnaaTreapHereI
import Derived.Test.YtkjehmbaolhmnaaTreapShapeI
import Derived.Test.YtkjehmbaolhmnaaTreapSame
namespace Go.Proofs.Ytkjehmbaolhmnaa
open Go.RowKit
theorem NodesAt.lit (w : World) (xs : List (Int × Int)) (t : TypeId) : NodesAt (w.alloc (.cells (shCells xs).toArray t)) (.slice (some ⟨w.heap.size, 0, none⟩) xs.length xs.length) xs :=
  ⟨_, _, rfl, fun i x hx => ⟨w.heap.size, 0, rfl, by
    obtain ⟨e1, e2⟩ := shCells_get xs i x hx
    rw [Nat.zero_add, World.cell?_alloc_new, World.cell?_alloc_new]
    simp only [List.getElem?_toArray]
    exact ⟨e1, e2⟩⟩⟩
theorem ex1 (n1 : Nat) : Tr.put n1 1 5 (.int .i64 1) .nil = .node n1 1 5 (.int .i64 1) .nil .nil := rfl
theorem ex2 (n1 n2 : Nat) : Tr.put n2 2 9 (.int .i64 2) (.node n1 1 5 (.int .i64 1) .nil .nil) = .node n2 2 9 (.int .i64 2) (.node n1 1 5 (.int .i64 1) .nil .nil) .nil := rfl
theorem ex3 (n1 n2 n3 : Nat) : Tr.put n3 3 5 (.int .i64 3) (.node n2 2 9 (.int .i64 2) (.node n1 1 5 (.int .i64 1) .nil .nil) .nil) = .node n2 2 9 (.int .i64 2) (.node n1 1 5 (.int .i64 1) .nil .nil) (.node n3 3 5 (.int .i64 3) .nil .nil) := rfl
theorem ex_shape (n1 n2 n3 : Nat) (a b c : Value) : Tr.shape 0 (.node n2 2 9 b (.node n1 1 5 a .nil .nil) (.node n3 3 5 c .nil .nil)) = [(2, 0), (1, 1), (3, 1)] := rfl
set_option maxRecDepth 100000 in
set_option maxHeartbeats 4000000 in
theorem awake9_any (w : World) : Calls Try.prog 11 #[] w fun e w' => e = .returned (.bool true) ∧ Adds w w' := by
  go_enter Try.func11, Try.ntmps11
  go_wp2_with (first
    | (go_at_call 12; refine (newI_any _).mono ?_; rintro e w1 ⟨rfl, h1, ho⟩; have H1 := Lib.hid (Here.new h1 ho); clear h1 ho)
    | (go_at_call 13; refine (putI_new H1.out (by decide) 1 5 1 rfl).mono ?_; clear H1; rintro e w2 ⟨rfl, n1, -, h2⟩; rw [ex1] at h2; have H2 := Lib.hid h2; clear h2)
    | (go_at_call 13; refine (putI_new H2.out (by simp [Tr.size]) 2 9 2 rfl).mono ?_; clear H2; rintro e w3 ⟨rfl, n2, -, h3⟩; rw [ex2] at h3; have H3 := Lib.hid h3; clear h3)
    | (go_at_call 13; refine (putI_new H3.out (by simp [Tr.size]) 3 5 3 rfl).mono ?_; clear H3; rintro e w4 ⟨rfl, n3, -, h4⟩; rw [ex3] at h4; have H4 := Lib.hid h4; clear h4)
    | (go_at_call 15; refine (shapeI_any _ _ _ _ H4.out.treap (by simp [Tr.size])).mono ?_; rintro e w5 ⟨v, rfl, hv, ho5⟩; rw [ex_shape] at hv; have HV := Lib.hid (NodesAt.of_owns (xs := [(2, 0), (1, 1), (3, 1)]) hv); have HO := Lib.hid (H4.out.adds.thenF ho5); clear hv ho5 H4)
    | (go_at_call 17; refine (sameNodes_any _ _ [(2, 0), (1, 1), (3, 1)] [(2, 0), (1, 1), (3, 1)] _ (HV.out.adds ((Only.refl _ _).alloc _)) (NodesAt.lit _ _ _) (by decide) (by decide)).mono ?_; rintro e w6 ⟨rfl, n, rfl⟩))
  go_ret
  exact ⟨rfl, (HO.out.alloc _).drewN _⟩
end Go.Proofs.Ytkjehmbaolhmnaa

/- Package store: Load, Put, Cas, Add, Last, Count, Len, Words, Peek, for every argument. By an AI agent. -/
import Derived.Test.YtcikhlihgebnbaaDoorStore
namespace Go.Proofs.YtcikhlihgebnbaaDoor
open Go.RowKit

/-- The blocks of a store. -/
def SB (b m : Nat) : Nat → Prop := fun j => j = b ∨ j = m
theorem Only.thenSB {S : Nat → Prop} {a b c : World} {x y : Nat} (h : Only S a b) (k : Only (SB x y) b c) (hx : a.heap.size ≤ x) (hy : a.heap.size ≤ y) : Only S a c :=
  h.andThen k (fun i hi hT => by rcases hT with rfl | rfl <;> omega)

set_option maxHeartbeats 1000000 in
theorem put_in (b m : Nat) (i v : Int) (s : StoreS) (w : World) (h : IsStore w b m s) (hi : s.inR i) (hv0 : 0 ≤ v) (hv1 : v < 18446744073709551616) :
    Calls Tryd.prog 78 #[.pointer (some ⟨b, 0, none⟩), .int .i64 i, .int .u64 v] w fun e w' => e = .returned (.int .i64 0) ∧ IsStore w' b m (s.acc 2 i v) ∧ Only (SB b m) w w' := by
  go_enter Tryd.func78, Tryd.ntmps78
  go_wp2_with (first
    | (go_at_call 50; refine (check_in b m _ s _ h hi).mono ?_; rintro e w' ⟨rfl, rfl⟩)
    | (go_at_call 95; refine (access_any b m _ _ _ s _ h hi hv0 hv1).mono ?_; rintro e w' ⟨rfl, hs, ho⟩))
  go_ret
  exact ⟨rfl, by assumption, by assumption⟩
set_option maxHeartbeats 400000 in
theorem put_out (b m : Nat) (i v : Int) (s : StoreS) (w : World) (h : IsStore w b m s) (hi : ¬ s.inR i) :
    Calls Tryd.prog 78 #[.pointer (some ⟨b, 0, none⟩), .int .i64 i, .int .u64 v] w fun e w' => e = .returned (.int .i64 1) ∧ w = w' := by
  go_enter Tryd.func78, Tryd.ntmps78
  go_wp2_with (go_at_call 50; refine (check_out b m _ s _ h hi).mono ?_; rintro e w' ⟨rfl, rfl⟩)
  go_ret
  exact ⟨rfl, rfl⟩
set_option maxHeartbeats 400000 in
theorem put_nil (i v : Int) (w : World) :
    Calls Tryd.prog 78 #[.pointer none, .int .i64 i, .int .u64 v] w fun e w' => e = .returned (.int .i64 2) ∧ w = w' := by
  go_enter Tryd.func78, Tryd.ntmps78
  go_wp2_with (go_at_call 50; refine (check_nil _ _).mono ?_; rintro e w' ⟨rfl, rfl⟩)
  go_ret
  exact ⟨rfl, rfl⟩
end Go.Proofs.YtcikhlihgebnbaaDoor

/- Package store: Load, Put, Cas, Add, Last, Count, Len, Words, Peek, for every argument. By an AI agent. -/
import Derived.Test.YtffhoaimcjpjhaaGreatStore
namespace Go.Proofs.YtffhoaimcjpjhaaGreat
open Go.RowKit

/-- The blocks of a store. -/
def SB (b m : Nat) : Nat → Prop := fun j => j = b ∨ j = m
theorem Only.thenSB {S : Nat → Prop} {a b c : World} {x y : Nat} (h : Only S a b) (k : Only (SB x y) b c) (hx : a.heap.size ≤ x) (hy : a.heap.size ≤ y) : Only S a c :=
  h.andThen k (fun i hi hT => by rcases hT with rfl | rfl <;> omega)

set_option maxHeartbeats 1000000 in
theorem load_in (b m : Nat) (i : Int) (s : StoreS) (w : World) (h : IsStore w b m s) (hi : s.inR i) :
    Calls Tryz.prog 166 #[.pointer (some ⟨b, 0, none⟩), .int .i64 i] w fun e w' => e = .returned (.tuple #[.int .u64 (s.word i), .int .i64 0]) ∧ IsStore w' b m (s.acc 1 i (s.word i)) ∧ Only (SB b m) w w' := by
  have hc0 := h.cells.1
  have hx := h.wordCell hi
  have hn := h.fit.1
  have hw := StoreS.word_bd h.fit i
  have hi' := hi
  obtain ⟨hi0, hi1⟩ := hi'
  go_enter Tryz.func166, Tryz.ntmps166
  go_wp2_with (first
    | (go_at_call 100; refine (check_in b m _ s _ h hi).mono ?_; rintro e w' ⟨rfl, rfl⟩)
    | (go_at_call 101; refine (access_any b m _ _ _ s _ h hi hw.1 hw.2).mono ?_; rintro e w' ⟨rfl, hs, ho⟩))
  go_ret2
  exact ⟨rfl, by assumption, by assumption⟩
set_option maxHeartbeats 400000 in
theorem load_out (b m : Nat) (i : Int) (s : StoreS) (w : World) (h : IsStore w b m s) (hi : ¬ s.inR i) :
    Calls Tryz.prog 166 #[.pointer (some ⟨b, 0, none⟩), .int .i64 i] w fun e w' => e = .returned (.tuple #[.int .u64 0, .int .i64 1]) ∧ w = w' := by
  go_enter Tryz.func166, Tryz.ntmps166
  go_wp2_with (go_at_call 100; refine (check_out b m _ s _ h hi).mono ?_; rintro e w' ⟨rfl, rfl⟩)
  go_ret2
  exact ⟨rfl, rfl⟩
set_option maxHeartbeats 400000 in
theorem load_nil (i : Int) (w : World) :
    Calls Tryz.prog 166 #[.pointer none, .int .i64 i] w fun e w' => e = .returned (.tuple #[.int .u64 0, .int .i64 2]) ∧ w = w' := by
  go_enter Tryz.func166, Tryz.ntmps166
  go_wp2_with (go_at_call 100; refine (check_nil _ _).mono ?_; rintro e w' ⟨rfl, rfl⟩)
  go_ret2
  exact ⟨rfl, rfl⟩
set_option maxHeartbeats 1000000 in
theorem put_in (b m : Nat) (i v : Int) (s : StoreS) (w : World) (h : IsStore w b m s) (hi : s.inR i) (hv0 : 0 ≤ v) (hv1 : v < 18446744073709551616) :
    Calls Tryz.prog 49 #[.pointer (some ⟨b, 0, none⟩), .int .i64 i, .int .u64 v] w fun e w' => e = .returned (.int .i64 0) ∧ IsStore w' b m (s.acc 2 i v) ∧ Only (SB b m) w w' := by
  go_enter Tryz.func49, Tryz.ntmps49
  go_wp2_with (first
    | (go_at_call 100; refine (check_in b m _ s _ h hi).mono ?_; rintro e w' ⟨rfl, rfl⟩)
    | (go_at_call 101; refine (access_any b m _ _ _ s _ h hi hv0 hv1).mono ?_; rintro e w' ⟨rfl, hs, ho⟩))
  go_ret
  exact ⟨rfl, by assumption, by assumption⟩
set_option maxHeartbeats 400000 in
theorem put_out (b m : Nat) (i v : Int) (s : StoreS) (w : World) (h : IsStore w b m s) (hi : ¬ s.inR i) :
    Calls Tryz.prog 49 #[.pointer (some ⟨b, 0, none⟩), .int .i64 i, .int .u64 v] w fun e w' => e = .returned (.int .i64 1) ∧ w = w' := by
  go_enter Tryz.func49, Tryz.ntmps49
  go_wp2_with (go_at_call 100; refine (check_out b m _ s _ h hi).mono ?_; rintro e w' ⟨rfl, rfl⟩)
  go_ret
  exact ⟨rfl, rfl⟩
set_option maxHeartbeats 400000 in
theorem put_nil (i v : Int) (w : World) :
    Calls Tryz.prog 49 #[.pointer none, .int .i64 i, .int .u64 v] w fun e w' => e = .returned (.int .i64 2) ∧ w = w' := by
  go_enter Tryz.func49, Tryz.ntmps49
  go_wp2_with (go_at_call 100; refine (check_nil _ _).mono ?_; rintro e w' ⟨rfl, rfl⟩)
  go_ret
  exact ⟨rfl, rfl⟩
set_option maxHeartbeats 1000000 in
theorem cas_win (b m : Nat) (i o v : Int) (s : StoreS) (w : World) (h : IsStore w b m s) (hi : s.inR i) (hne : (s.word i != o) = false) (hv0 : 0 ≤ v) (hv1 : v < 18446744073709551616) :
    Calls Tryz.prog 164 #[.pointer (some ⟨b, 0, none⟩), .int .i64 i, .int .u64 o, .int .u64 v] w fun e w' => e = .returned (.tuple #[.int .u64 (s.word i), .int .i64 0]) ∧ IsStore w' b m (s.acc 3 i v) ∧ Only (SB b m) w w' := by
  have hc0 := h.cells.1
  have hx := h.wordCell hi
  have hn := h.fit.1
  have hi' := hi
  obtain ⟨hi0, hi1⟩ := hi'
  go_enter Tryz.func164, Tryz.ntmps164
  go_wp2_with (first
    | (go_at_call 100; refine (check_in b m _ s _ h hi).mono ?_; rintro e w' ⟨rfl, rfl⟩)
    | (go_at_call 101; refine (access_any b m _ _ _ s _ h hi hv0 hv1).mono ?_; rintro e w' ⟨rfl, hs, ho⟩))
  go_ret2
  exact ⟨rfl, by assumption, by assumption⟩
set_option maxHeartbeats 1000000 in
theorem cas_lost (b m : Nat) (i o v : Int) (s : StoreS) (w : World) (h : IsStore w b m s) (hi : s.inR i) (hne : (s.word i != o) = true) :
    Calls Tryz.prog 164 #[.pointer (some ⟨b, 0, none⟩), .int .i64 i, .int .u64 o, .int .u64 v] w fun e w' => e = .returned (.tuple #[.int .u64 (s.word i), .int .i64 5]) ∧ IsStore w' b m (s.acc 4 i (s.word i)) ∧ Only (SB b m) w w' := by
  have hc0 := h.cells.1
  have hx := h.wordCell hi
  have hn := h.fit.1
  have hw := StoreS.word_bd h.fit i
  have hi' := hi
  obtain ⟨hi0, hi1⟩ := hi'
  go_enter Tryz.func164, Tryz.ntmps164
  go_wp2_with (first
    | (go_at_call 100; refine (check_in b m _ s _ h hi).mono ?_; rintro e w' ⟨rfl, rfl⟩)
    | (go_at_call 101; refine (access_any b m _ _ _ s _ h hi hw.1 hw.2).mono ?_; rintro e w' ⟨rfl, hs, ho⟩))
  go_ret2
  exact ⟨rfl, by assumption, by assumption⟩
set_option maxHeartbeats 400000 in
theorem cas_out (b m : Nat) (i o v : Int) (s : StoreS) (w : World) (h : IsStore w b m s) (hi : ¬ s.inR i) :
    Calls Tryz.prog 164 #[.pointer (some ⟨b, 0, none⟩), .int .i64 i, .int .u64 o, .int .u64 v] w fun e w' => e = .returned (.tuple #[.int .u64 0, .int .i64 1]) ∧ w = w' := by
  go_enter Tryz.func164, Tryz.ntmps164
  go_wp2_with (go_at_call 100; refine (check_out b m _ s _ h hi).mono ?_; rintro e w' ⟨rfl, rfl⟩)
  go_ret2
  exact ⟨rfl, rfl⟩
set_option maxHeartbeats 400000 in
theorem cas_nil (i o v : Int) (w : World) :
    Calls Tryz.prog 164 #[.pointer none, .int .i64 i, .int .u64 o, .int .u64 v] w fun e w' => e = .returned (.tuple #[.int .u64 0, .int .i64 2]) ∧ w = w' := by
  go_enter Tryz.func164, Tryz.ntmps164
  go_wp2_with (go_at_call 100; refine (check_nil _ _).mono ?_; rintro e w' ⟨rfl, rfl⟩)
  go_ret2
  exact ⟨rfl, rfl⟩
set_option maxHeartbeats 1000000 in
theorem add_in (b m : Nat) (i v : Int) (s : StoreS) (w : World) (h : IsStore w b m s) (hi : s.inR i) :
    Calls Tryz.prog 161 #[.pointer (some ⟨b, 0, none⟩), .int .i64 i, .int .u64 v] w fun e w' => e = .returned (.tuple #[.int .u64 (s.word i), .int .i64 0]) ∧ IsStore w' b m (s.acc 5 i ((s.word i + v) % 18446744073709551616)) ∧ Only (SB b m) w w' := by
  have hc0 := h.cells.1
  have hx := h.wordCell hi
  have hn := h.fit.1
  have hi' := hi
  obtain ⟨hi0, hi1⟩ := hi'
  have hv0 : 0 ≤ (s.word i + v) % 18446744073709551616 := by omega
  have hv1 : (s.word i + v) % 18446744073709551616 < 18446744073709551616 := by omega
  go_enter Tryz.func161, Tryz.ntmps161
  go_wp2_with (first
    | (go_at_call 100; refine (check_in b m _ s _ h hi).mono ?_; rintro e w' ⟨rfl, rfl⟩)
    | (go_at_call 101; refine (access_any b m _ _ _ s _ h hi hv0 hv1).mono ?_; rintro e w' ⟨rfl, hs, ho⟩))
  go_ret2
  exact ⟨rfl, by assumption, by assumption⟩
set_option maxHeartbeats 400000 in
theorem add_out (b m : Nat) (i v : Int) (s : StoreS) (w : World) (h : IsStore w b m s) (hi : ¬ s.inR i) :
    Calls Tryz.prog 161 #[.pointer (some ⟨b, 0, none⟩), .int .i64 i, .int .u64 v] w fun e w' => e = .returned (.tuple #[.int .u64 0, .int .i64 1]) ∧ w = w' := by
  go_enter Tryz.func161, Tryz.ntmps161
  go_wp2_with (go_at_call 100; refine (check_out b m _ s _ h hi).mono ?_; rintro e w' ⟨rfl, rfl⟩)
  go_ret2
  exact ⟨rfl, rfl⟩
set_option maxHeartbeats 400000 in
theorem add_nil (i v : Int) (w : World) :
    Calls Tryz.prog 161 #[.pointer none, .int .i64 i, .int .u64 v] w fun e w' => e = .returned (.tuple #[.int .u64 0, .int .i64 2]) ∧ w = w' := by
  go_enter Tryz.func161, Tryz.ntmps161
  go_wp2_with (go_at_call 100; refine (check_nil _ _).mono ?_; rintro e w' ⟨rfl, rfl⟩)
  go_ret2
  exact ⟨rfl, rfl⟩
end Go.Proofs.YtffhoaimcjpjhaaGreat

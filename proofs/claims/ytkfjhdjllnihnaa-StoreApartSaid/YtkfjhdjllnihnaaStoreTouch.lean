/- An access turns no other word. By an AI agent. -/
import Derived.Test.YtkfjhdjllnihnaaStoreAwake
namespace Go.Proofs.Ytkfjhdjllnihnaa
open Go.RowKit
/-- The store is as it was but for one word. -/
def Touched (b m : Nat) (s : StoreS) (i : Int) (w w' : World) : Prop :=
  ∃ s', IsStore w' b m s' ∧ s'.ws.length = s.ws.length ∧ (∀ j : Int, 0 ≤ j → j ≠ i → s'.word j = s.word j) ∧ Only (SB b m) w w'
theorem Touched.acc {b m : Nat} {s : StoreS} {i k v : Int} {w w' : World} (hi : s.inR i) (h : IsStore w' b m (s.acc k i v)) (ho : Only (SB b m) w w') : Touched b m s i w w' :=
  ⟨_, h, by simp [StoreS.acc], fun _ hj hne => StoreS.acc_word_other hi.1 hj hne _ _, ho⟩
theorem Touched.same {b m : Nat} {s : StoreS} {i : Int} {w : World} (h : IsStore w b m s) : Touched b m s i w w := ⟨s, h, rfl, fun _ _ _ => rfl, Only.refl _ _⟩
theorem load_touch (b m : Nat) (i : Int) (s : StoreS) (w : World) (h : IsStore w b m s) :
    Calls Try.prog 12 #[.pointer (some ⟨b, 0, none⟩), .int .i64 i] w fun e w' => (∃ v, e = .returned v) ∧ Touched b m s i w w' := by
  by_cases hi : s.inR i
  · exact (load_in b m i s w h hi).mono fun _ _ ⟨he, h1, h2⟩ => ⟨⟨_, he⟩, Touched.acc hi h1 h2⟩
  · exact (load_out b m i s w h hi).mono fun _ _ ⟨he, h1⟩ => ⟨⟨_, he⟩, h1 ▸ Touched.same h⟩
theorem put_touch (b m : Nat) (i v : Int) (s : StoreS) (w : World) (h : IsStore w b m s) (hv0 : 0 ≤ v) (hv1 : v < 18446744073709551616) :
    Calls Try.prog 9 #[.pointer (some ⟨b, 0, none⟩), .int .i64 i, .int .u64 v] w fun e w' => (∃ v, e = .returned v) ∧ Touched b m s i w w' := by
  by_cases hi : s.inR i
  · exact (put_in b m i v s w h hi hv0 hv1).mono fun _ _ ⟨he, h1, h2⟩ => ⟨⟨_, he⟩, Touched.acc hi h1 h2⟩
  · exact (put_out b m i v s w h hi).mono fun _ _ ⟨he, h1⟩ => ⟨⟨_, he⟩, h1 ▸ Touched.same h⟩
theorem cas_touch (b m : Nat) (i o v : Int) (s : StoreS) (w : World) (h : IsStore w b m s) (hv0 : 0 ≤ v) (hv1 : v < 18446744073709551616) :
    Calls Try.prog 10 #[.pointer (some ⟨b, 0, none⟩), .int .i64 i, .int .u64 o, .int .u64 v] w fun e w' => (∃ v, e = .returned v) ∧ Touched b m s i w w' := by
  by_cases hi : s.inR i
  · cases hne : (s.word i != o)
    · exact (cas_win b m i o v s w h hi hne hv0 hv1).mono fun _ _ ⟨he, h1, h2⟩ => ⟨⟨_, he⟩, Touched.acc hi h1 h2⟩
    · exact (cas_lost b m i o v s w h hi hne).mono fun _ _ ⟨he, h1, h2⟩ => ⟨⟨_, he⟩, Touched.acc hi h1 h2⟩
  · exact (cas_out b m i o v s w h hi).mono fun _ _ ⟨he, h1⟩ => ⟨⟨_, he⟩, h1 ▸ Touched.same h⟩
theorem add_touch (b m : Nat) (i v : Int) (s : StoreS) (w : World) (h : IsStore w b m s) :
    Calls Try.prog 11 #[.pointer (some ⟨b, 0, none⟩), .int .i64 i, .int .u64 v] w fun e w' => (∃ v, e = .returned v) ∧ Touched b m s i w w' := by
  by_cases hi : s.inR i
  · exact (add_in b m i v s w h hi).mono fun _ _ ⟨he, h1, h2⟩ => ⟨⟨_, he⟩, Touched.acc hi h1 h2⟩
  · exact (add_out b m i v s w h hi).mono fun _ _ ⟨he, h1⟩ => ⟨⟨_, he⟩, h1 ▸ Touched.same h⟩
end Go.Proofs.Ytkfjhdjllnihnaa

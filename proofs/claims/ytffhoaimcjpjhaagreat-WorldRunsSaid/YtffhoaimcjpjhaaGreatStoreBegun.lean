/- Package store: Begun. By an AI agent. -/
import Derived.Test.YtffhoaimcjpjhaaGreatStoreMisc
namespace Go.Proofs.YtffhoaimcjpjhaaGreat
open Go.RowKit
/-- A store of noughts, but one word. -/
def StoreS.begun (n : Nat) (at_ : Nat) (v : Int) : StoreS := ⟨(StoreS.fresh n).ws.set at_ v, 0, 0, 0, 0, 0⟩
theorem StoreS.begun_fit {n at_ : Nat} {v : Int} (h : n ≤ 65536) (h0 : 0 ≤ v) (h1 : v < 18446744073709551616) : (StoreS.begun n at_ v).fit := by
  refine ⟨by simpa [StoreS.begun, StoreS.fresh] using h, fun x hx => ?_⟩
  rcases List.mem_or_eq_of_mem_set hx with hx | rfl
  · exact (StoreS.fresh_fit h).2 x hx
  · exact ⟨h0, h1⟩
set_option maxHeartbeats 1000000 in
theorem begun_ok (n : Int) (at_ : Nat) (v : Int) (w : World) (h1 : 1 ≤ n) (h2 : n ≤ 65536) (ha : (at_ : Int) < n) (h0 : 0 ≤ v) (hv : v < 18446744073709551616) :
    Calls Tryz.prog 93 #[.int .i64 n, .int .i64 at_, .int .u64 v] w fun e w' => e = .returned (.pointer (some ⟨w.heap.size + 1, 0, none⟩)) ∧ IsStore w' (w.heap.size + 1) w.heap.size (StoreS.begun n.toNat at_ v) ∧ Only (fun _ => False) w w' ∧ w'.heap.size = w.heap.size + 2 := by
  go_enter Tryz.func93, Tryz.ntmps93
  go_wp2_with fail
  refine (storeNew_ok n _ h1 h2).mono ?_; rintro e w1 ⟨rfl, hs, ho, hz⟩
  have hi : (StoreS.fresh n.toNat).inR at_ := StoreS.fresh_inR (by omega) (by omega)
  have hc := check_in _ _ at_ _ w1 hs hi
  have hc0 := hs.cells.1
  have hx := hs.wordCell hi
  have hf := hs.row.frozen at_
  rw [Int.toNat_natCast] at hx
  have hl : (StoreS.fresh n.toNat).ws.length = n.toNat := by simp [StoreS.fresh]
  rw [hl] at hc0
  have ht : at_ < n.toNat := by omega
  have HS := Lib.hid hs; have HO := Lib.hid ho; have HZ := Lib.hid hz
  clear hs ho hz hl
  go_wp2_with (go_at_call 100; refine hc.mono ?_; rintro e w2 ⟨rfl, rfl⟩)
  go_ret
  have hne := HS.out.ne
  refine ⟨rfl, ⟨?_, ?_, hne, StoreS.begun_fit (by omega) h0 hv⟩, HO.out.setCell (.inr (Nat.le_refl _)) _, by simpa [World.setCell] using HZ.out⟩
  · have h9 := HS.out.head.setCell_other hne at_ (.int .u64 v)
    simpa [StoreS.arr, StoreS.begun, StoreS.fresh] using h9
  · have h9 := HS.out.row.setCell at_ (.int .u64 v)
    simpa [StoreS.begun] using h9
end Go.Proofs.YtffhoaimcjpjhaaGreat

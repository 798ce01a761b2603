/- Package treap at dustpan/api.Run: Ceil, for every tree. By an AI agent. -/
import Derived.OwnWalk
import Derived.Test.YtbijbpnhakbeeaaTreapHereR
import Derived.Test.YtbijbpnhakbeeaaTreeCeil
namespace Go.Proofs.Ytbijbpnhakbeeaa
open Go.RowKit
theorem ceil_cells2 {T : TypeId} {w : World} {key : Int} (t : Tr) : ∀ best, IsTr2 T w best → IsTr2 T w t → IsTr2 T w (Tr.ceil key best t) := by
  induction t with
  | nil => intro best h _; exact h
  | node b k d v l r ihl ihr =>
    intro best h h2
    unfold Tr.ceil
    split
    · exact ihr best h h2.2.2
    · exact ihl _ h2 h2.2.1
set_option maxRecDepth 100000 in
set_option maxHeartbeats 4000000 in
theorem ceilR_any (tb : Nat) (t : Tr) (m key : Int) (w : World) (h : IsTreap2 125 122 w tb t m) (hb : t.bst) (hv : ∀ e ∈ t.ins, ∃ (x z : Int), e.2.2 = .agg #[.int .i64 x, .int .i64 z]) :
    Calls Try.prog 77 #[.pointer (some ⟨tb, 0, none⟩), .int .i64 key] w fun e w' => Adds w w' ∧ ∃ (k : Int) (x z : Int) (ok : Bool), e = .returned (.tuple #[.int .i64 k, .agg #[.int .i64 x, .int .i64 z], .bool ok]) ∧
      ((ok = true ∧ ∃ d, Tr.least key t = some (k, d, .agg #[.int .i64 x, .int .i64 z])) ∨ (ok = false ∧ Tr.least key t = none ∧ x = 0 ∧ z = 0)) := by
  replace h := h.alloc (.cells #[.int .i64 0, .int .i64 0] 63)
  have hZ := Blk.new w #[.int .i64 0, .int .i64 0] 63
  have z0 := hZ.cell 0; have z1 := hZ.cell 1; have y0 := hZ.frozen 0; have y1 := hZ.frozen 1
  obtain ⟨c0, c1, _, _⟩ := h.cells
  have HT := Lib.hid h.tr
  have hit := Tr.ceil_item key t .nil hb
  simp only [Tr.item, Option.or_none] at hit
  have hci := ceil_cells2 (key := key) t .nil trivial h.tr
  have HI := Lib.hid hit; have HCI := Lib.hid hci; have HV := Lib.hid hv
  clear h hb hit hci hv hZ
  go_enter Try.func77, Try.ntmps77
  go_wp2_with fail
  go_loopw [7, 8] (fun q p wr => ∃ (s best : Tr) (n : Nat), p = .pointer s.adr ∧ q = .pointer best.adr ∧ wr = (w.alloc (.cells #[.int .i64 0, .int .i64 0] 63)).drewN n ∧ IsTr2 125 (w.alloc (.cells #[.int .i64 0, .int .i64 0] 63)) s ∧ IsTr2 125 (w.alloc (.cells #[.int .i64 0, .int .i64 0] 63)) best ∧ Tr.ceil key best s = Tr.ceil key .nil t) (fun _ p _ => trSize2 125 (w.alloc (.cells #[.int .i64 0, .int .i64 0] 63)) p)
  case atStart => exact ⟨t, .nil, 0, rfl, rfl, rfl, HT.out, trivial, rfl⟩
  case round =>
    obtain ⟨s, best, n, rfl, rfl, rfl, hs, hbs, hf⟩ := hrel
    cases s with
    | nil =>
      rw [show Tr.nil.adr = none from rfl]
      have HF := Lib.hid hf; have HBS := Lib.hid hbs
      cases best with
      | nil =>
        rw [show Tr.nil.adr = none from rfl]
        clear hf hbs hs
        go_wp2
        go_region
        all_goals (
          go_wp2
          exact bodyPost_ret (v := .tuple #[.int .i64 0, .agg #[.int .i64 0, .int .i64 0], .bool false]) (by simp [results, Try.results77, go_sem]) rfl ⟨by first | exact (HA.out.drewN _) | exact (((Only.refl _ w).alloc _).drewN _) | exact ((((Only.refl (fun _ => False) w).alloc _).drewN _).setCell (.inr (Nat.le_refl _)) _).setCell (.inr (Nat.le_refl _)) _ | exact (((((Only.refl (fun _ => False) w).alloc _).drewN _).setCell (.inr (Nat.le_refl _)) _).setCell (.inr (Nat.le_refl _)) _).drew, _, _, _, _, rfl, .inr ⟨rfl, by rw [← HI.out, ← HF.out]; rfl, rfl, rfl⟩⟩)
      | node b k d v l r =>
        rw [show (Tr.node b k d v l r).adr = some ⟨b, 0, none⟩ from rfl]
        obtain ⟨c0, c1, c2, _, _, _, _⟩ := hbs.cells
        have c2b := hbs.1.cell 3
        have hit : Tr.least key t = some (k, d, v) := by rw [← HI.out, ← HF.out]; rfl
        obtain ⟨x, z, hx⟩ := HV.out _ (Tr.least_mem hit).1
        simp only at hx
        subst hx
        replace c2 : (w.alloc (.cells #[.int .i64 0, .int .i64 0] 63)).cell? ⟨b, 2, none⟩ = some (.int .i64 x) := c2
        replace c2b : (w.alloc (.cells #[.int .i64 0, .int .i64 0] 63)).cell? ⟨b, 3, none⟩ = some (.int .i64 z) := c2b
        have HIT := Lib.hid hit
        clear hf hbs hs hit
        go_wp2
        go_region
        all_goals (
          go_wp2
          exact bodyPost_ret (v := .tuple #[.int .i64 k, .agg #[.int .i64 x, .int .i64 z], .bool true]) (by simp [results, Try.results77, go_sem]) rfl ⟨by first | exact (HA.out.drewN _) | exact (((Only.refl _ w).alloc _).drewN _) | exact ((((Only.refl (fun _ => False) w).alloc _).drewN _).setCell (.inr (Nat.le_refl _)) _).setCell (.inr (Nat.le_refl _)) _ | exact (((((Only.refl (fun _ => False) w).alloc _).drewN _).setCell (.inr (Nat.le_refl _)) _).setCell (.inr (Nat.le_refl _)) _).drew, _, _, _, _, rfl, .inl ⟨rfl, d, HIT.out⟩⟩)
    | node b k d v l r =>
      have hz := trSize2_eq hs
      have hzl := trSize2_eq hs.2.1
      have hzr := trSize2_eq hs.2.2
      have HS := Lib.hid hs; have HBS := Lib.hid hbs
      obtain ⟨c0, c1, c2, c3, c4, f3, f4⟩ := hs.cells
      clear hs hbs c1 c2 f3 f4
      rw [show (Tr.node b k d v l r).adr = some ⟨b, 0, none⟩ from rfl] at hz ⊢
      simp only [Tr.size] at hz
      have HZ := Lib.hid (And.intro hz (And.intro hzl hzr))
      clear hz hzl hzr
      rw [Tr.ceil] at hf
      by_cases hlt : k < key
      · rw [if_pos hlt] at hf
        have HF := Lib.hid hf
        clear hf
        go_wp2
        go_roundw
        case rel => exact ⟨r, best, _, rfl, rfl, rfl, HS.out.2.2, HBS.out, HF.out⟩
        case measure => obtain ⟨hz, hzl, hzr⟩ := HZ.out; rw [hz, hzr]; omega
      · rw [if_neg hlt] at hf
        have HF := Lib.hid hf
        clear hf
        go_wp2
        go_quiet ((fail))
        go_wp2
        go_roundw
        case rel => exact ⟨l, .node b k d v l r, _, rfl, rfl, World.drewN_drewN .., HS.out.2.1, HS.out, HF.out⟩
        case measure => obtain ⟨hz, hzl, hzr⟩ := HZ.out; rw [hz, hzl]; omega
end Go.Proofs.Ytbijbpnhakbeeaa

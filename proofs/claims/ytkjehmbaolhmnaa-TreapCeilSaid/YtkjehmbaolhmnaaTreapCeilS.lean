/- Package treap at string: Ceil, for every tree. By an AI agent. -/
import Derived.OwnWalk
import Derived.Test.YtkjehmbaolhmnaaTreapHereS
import Derived.Test.YtkjehmbaolhmnaaTreeCeil
namespace Go.Proofs.Ytkjehmbaolhmnaa
open Go.RowKit
theorem ceil_cells {T : TypeId} {w : World} {key : Int} (t : Tr) : ∀ best, IsTr T w best → IsTr T w t → IsTr T w (Tr.ceil key best t) := by
  induction t with
  | nil => intro best h _; exact h
  | node b k d v l r ihl ihr =>
    intro best h h2
    unfold Tr.ceil
    split
    · exact ihr best h h2.2.2
    · exact ihl _ h2 h2.2.1
set_option maxRecDepth 100000 in
set_option maxHeartbeats 4000000 in
theorem ceilS_any (tb : Nat) (t : Tr) (m key : Int) (w : World) (h : IsTreap 84 78 w tb t m) (hb : t.bst) (hv : ∀ e ∈ t.ins, ∃ x : ByteArray, e.2.2 = .string x) :
    Calls Try.prog 21 #[.pointer (some ⟨tb, 0, none⟩), .int .i64 key] w fun e w' => (∃ n, w' = w.drewN n) ∧ ∃ (k : Int) (x : ByteArray) (ok : Bool), e = .returned (.tuple #[.int .i64 k, .string x, .bool ok]) ∧
      ((ok = true ∧ ∃ d, Tr.least key t = some (k, d, .string x)) ∨ (ok = false ∧ Tr.least key t = none)) := by
  obtain ⟨c0, c1, _, _⟩ := h.cells
  have HT := Lib.hid h.tr
  have hit := Tr.ceil_item key t .nil hb
  simp only [Tr.item, Option.or_none] at hit
  have hci := ceil_cells (key := key) t .nil trivial h.tr
  have HI := Lib.hid hit; have HCI := Lib.hid hci; have HV := Lib.hid hv
  clear h hb hit hci hv
  go_enter Try.func21, Try.ntmps21
  go_wp2_with fail
  go_loopw [7, 8] (fun q p wr => ∃ (s best : Tr) (n : Nat), p = .pointer s.adr ∧ q = .pointer best.adr ∧ wr = w.drewN n ∧ IsTr 84 w s ∧ IsTr 84 w best ∧ Tr.ceil key best s = Tr.ceil key .nil t) (fun _ p _ => trSize 84 w p)
  case atStart => exact ⟨t, .nil, 0, rfl, rfl, rfl, HT.out, trivial, rfl⟩
  case round =>
    obtain ⟨s, best, n, rfl, rfl, rfl, hs, hbs, hf⟩ := hrel
    cases s with
    | nil =>
      rw [show Tr.nil.adr = none from rfl]
      have HF := Lib.hid hf; have HBS := Lib.hid hbs
      cases best with
      | nil =>
        rw [show Tr.nil.adr = none from rfl]
        clear hf hbs hs
        go_wp2
        refine bodyPost_ret (results_tmp3 rfl _ _ _) rfl ?_
        refine ⟨⟨_, rfl⟩, _, _, _, rfl, .inr ⟨rfl, ?_⟩⟩
        rw [← HI.out, ← HF.out]; rfl
      | node b k d v l r =>
        rw [show (Tr.node b k d v l r).adr = some ⟨b, 0, none⟩ from rfl]
        obtain ⟨c0, c1, c2, _, _, _, _⟩ := hbs.cells
        have hit : Tr.least key t = some (k, d, v) := by rw [← HI.out, ← HF.out]; rfl
        obtain ⟨x, hx⟩ := HV.out _ (Tr.least_mem hit).1
        simp only at hx
        subst hx
        have HIT := Lib.hid hit
        clear hf hbs hs hit
        go_wp2
        go_quiet ((fail))
        go_wp2
        refine bodyPost_ret (results_tmp3 rfl _ _ _) rfl ?_
        exact ⟨⟨_, World.drewN_drewN ..⟩, _, _, _, rfl, .inl ⟨rfl, d, HIT.out⟩⟩
    | node b k d v l r =>
      have hz := trSize_eq hs
      have hzl := trSize_eq hs.2.1
      have hzr := trSize_eq hs.2.2
      have HS := Lib.hid hs; have HBS := Lib.hid hbs
      obtain ⟨c0, c1, c2, c3, c4, f3, f4⟩ := hs.cells
      clear hs hbs c1 c2 f3 f4
      rw [show (Tr.node b k d v l r).adr = some ⟨b, 0, none⟩ from rfl] at hz ⊢
      simp only [Tr.size] at hz
      have HZ := Lib.hid (And.intro hz (And.intro hzl hzr))
      clear hz hzl hzr
      rw [Tr.ceil] at hf
      by_cases hlt : k < key
      · rw [if_pos hlt] at hf
        have HF := Lib.hid hf
        clear hf
        go_wp2
        go_roundw
        case rel => exact ⟨r, best, _, rfl, rfl, rfl, HS.out.2.2, HBS.out, HF.out⟩
        case measure => obtain ⟨hz, hzl, hzr⟩ := HZ.out; rw [hz, hzr]; omega
      · rw [if_neg hlt] at hf
        have HF := Lib.hid hf
        clear hf
        go_wp2
        go_quiet ((fail))
        go_wp2
        go_roundw
        case rel => exact ⟨l, .node b k d v l r, _, rfl, rfl, World.drewN_drewN .., HS.out.2.1, HS.out, HF.out⟩
        case measure => obtain ⟨hz, hzl, hzr⟩ := HZ.out; rw [hz, hzl]; omega
end Go.Proofs.Ytkjehmbaolhmnaa

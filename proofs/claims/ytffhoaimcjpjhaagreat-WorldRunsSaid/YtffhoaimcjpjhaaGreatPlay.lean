/- Package dustpanplay: Word, Read. By an AI agent. -/
import Derived.Test.YtffhoaimcjpjhaaGreatLayoutRef
import Derived.Test.YtffhoaimcjpjhaaGreatYards
namespace Go.Proofs.YtffhoaimcjpjhaaGreat
open Go.RowKit
theorem Adds.any {S : Nat → Prop} {a b : World} (h : Adds a b) : Only S a b := h.mono (fun _ _ e => e.elim)
theorem heldMS2 {S : Nat → Prop} {w W w' : World} {b : Nat} {x y : Value} (hb : ¬ S b) (h : W.cell? ⟨b, 0, none⟩ = some x ∧ W.cell? ⟨b, 1, none⟩ = some y ∧ Only S w W) (ho : Only S W w') :
    w'.cell? ⟨b, 0, none⟩ = some x ∧ w'.cell? ⟨b, 1, none⟩ = some y ∧ Only S w w' :=
  ⟨(ho.cellF (p := ⟨b, 0, none⟩) (cell_lt h.1) hb).trans h.1, (ho.cellF (p := ⟨b, 1, none⟩) (cell_lt h.2.1) hb).trans h.2.1, h.2.2.trans ho⟩
theorem row_at {w : World} {base : Nat} {e : TypeId} {v : Value} {n : Nat} {xs : List Value} (h : w.ownsRow base e 1 v n xs) {k : Nat} {x : Value} (hk : k < n) (hx : xs[k]? = some x) :
    ∃ g cp, v = .slice (some ⟨g, 0, none⟩) n cp ∧ w.cell? ⟨g, k, none⟩ = some x := by
  obtain ⟨_, ⟨_, h1⟩ | ⟨g, cap, cur, h1, h2, h3, _, _, _, h5⟩⟩ := h
  · omega
  · have e1 : (cur.toList.take (n * 1))[k]? = some x := by rw [h5]; exact hx
    rw [List.getElem?_take_of_lt (by omega)] at e1
    exact ⟨g, cap, h1, by simpa [World.cell?, h3] using e1⟩
set_option maxHeartbeats 400000 in
theorem playWord_any (P T k p : Int) (w : World) (h : Lay.pageOk P T k p = true) :
    Calls Tryz.prog 34 #[.agg #[.int .i64 P, .int .i64 T], .int .i64 k, .int .i64 p] w fun e w' => e = .returned (.int .i64 (Lay.pageAt P T k p)) ∧ Adds w w' := by
  have H := Lib.hid h
  obtain ⟨x, hx⟩ : ∃ x, x = Lay.pageAt P T k p := ⟨_, rfl⟩
  have HX := Lib.hid hx
  rw [← hx]
  clear h hx
  go_enter Tryz.func34, Tryz.ntmps34
  go_wp2_with (go_at_call 86; refine (r6PageWord_any P T k p _).mono ?_; rintro e w1 ⟨rfl, ho⟩; rw [atOf_yes H.out, ← HX.out])
  go_ret
  exact ⟨rfl, Adds.box ho⟩
set_option maxHeartbeats 1000000 in
theorem playRead_any {w : World} {ab sb sm rb : Nat} {P T i : Int} {s : StoreS} (hY : Yard w ab sb sm rb P T s) (hi : s.inR i) :
    Calls Tryz.prog 29 #[.pointer (some ⟨ab, 0, none⟩), .int .i64 i] w fun e w' => e = .returned (.int .u64 (s.word i)) ∧ Adds w w' := by
  obtain ⟨hi0, hi1⟩ := id hi
  have hn := hY.st.fit.1
  have hpos : s.ws.length ≠ 0 := by omega
  have hx : s.ws[i.toNat]? = some (s.word i) := by
    have hlt : i.toNat < s.ws.length := by omega
    simp [StoreS.word, List.getElem?_eq_getElem hlt]
  obtain ⟨x, hxx⟩ : ∃ x, x = s.word i := ⟨_, rfl⟩
  rw [← hxx] at hx ⊢
  obtain ⟨k, rfl⟩ := Int.eq_ofNat_of_zero_le hi0
  rw [Int.toNat_natCast] at hx
  have HY := Lib.hid hY; have HX := Lib.hid hx
  obtain ⟨n, hnn⟩ : ∃ n, n = s.ws.length := ⟨_, rfl⟩
  have HN := Lib.hid hnn
  rw [← hnn] at hi1 hn hpos
  clear hY hi hx hxx hnn
  go_enter Tryz.func29, Tryz.ntmps29
  go_wp2_with (first
    | (go_at_call 47; refine (arenaStore_any HY.out.ar).mono ?_; rintro e w1 ⟨rfl, rfl⟩)
    | (go_at_call 68; refine (words_any _ _ _ _ HY.out.st).mono ?_; rintro e w2 ⟨v, rfl, hv, ho⟩; rw [← HN.out] at hv; obtain ⟨g, cp, rfl, hg⟩ := row_at hv (k := k) (x := .int .u64 x) (by omega) (by simp [HX.out]); have HO := Lib.hid ho; clear ho hv))
  go_ret
  exact ⟨rfl, HO.out⟩
end Go.Proofs.YtffhoaimcjpjhaaGreat

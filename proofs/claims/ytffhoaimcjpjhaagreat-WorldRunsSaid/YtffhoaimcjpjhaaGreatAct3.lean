/- Package act: what a region keeps. By an AI agent. -/
import Derived.Test.YtffhoaimcjpjhaaGreatAct2
import Derived.Test.YtffhoaimcjpjhaaGreatStoreOps
namespace Go.Proofs.YtffhoaimcjpjhaaGreat
open Go.RowKit
theorem heldS1 {S : Nat → Prop} {w W w' : World} {p : Nat} {x : Value} (hp : ¬ S p)
    (h : W.cell? ⟨p, 0, none⟩ = some x ∧ Only S w W) (ho : Only S W w') : w'.cell? ⟨p, 0, none⟩ = some x ∧ Only S w w' :=
  ⟨(ho.cellF (p := ⟨p, 0, none⟩) (cell_lt h.1) hp).trans h.1, h.2.trans ho⟩
theorem heldS2 {S : Nat → Prop} {w W w' : World} {p q : Nat} {x y : Value} (hp : ¬ S p) (hq : ¬ S q)
    (h : W.cell? ⟨p, 0, none⟩ = some x ∧ W.cell? ⟨q, 0, none⟩ = some y ∧ Only S w W) (ho : Only S W w') :
    w'.cell? ⟨p, 0, none⟩ = some x ∧ w'.cell? ⟨q, 0, none⟩ = some y ∧ Only S w w' :=
  ⟨(ho.cellF (p := ⟨p, 0, none⟩) (cell_lt h.1) hp).trans h.1, (ho.cellF (p := ⟨q, 0, none⟩) (cell_lt h.2.1) hq).trans h.2.1, h.2.2.trans ho⟩
theorem heldS3 {S : Nat → Prop} {w W w' : World} {p q r : Nat} {x y z : Value} (hp : ¬ S p) (hq : ¬ S q) (hr : ¬ S r)
    (h : W.cell? ⟨p, 0, none⟩ = some x ∧ W.cell? ⟨q, 0, none⟩ = some y ∧ W.cell? ⟨r, 0, none⟩ = some z ∧ Only S w W) (ho : Only S W w') :
    w'.cell? ⟨p, 0, none⟩ = some x ∧ w'.cell? ⟨q, 0, none⟩ = some y ∧ w'.cell? ⟨r, 0, none⟩ = some z ∧ Only S w w' :=
  ⟨(ho.cellF (p := ⟨p, 0, none⟩) (cell_lt h.1) hp).trans h.1, (ho.cellF (p := ⟨q, 0, none⟩) (cell_lt h.2.1) hq).trans h.2.1, (ho.cellF (p := ⟨r, 0, none⟩) (cell_lt h.2.2.1) hr).trans h.2.2.1, h.2.2.2.trans ho⟩
theorem Blk.one {w : World} {b : Nat} {v : Value} {t : TypeId} (h : Blk w b #[v] t) : w.cell? ⟨b, 0, none⟩ = some v := h.cell 0
/-- A block of another type is none of the store's. -/
theorem Yard.not {w : World} {ab sb sm rb : Nat} {P T : Int} {s : StoreS} (h : Yard w ab sb sm rb P T s) {b : Nat} {c : Array Value} {t : TypeId} (hb : Blk w b c t) (ht : t ≠ 186) (hc : t ≠ 33 ∨ c.size ≠ s.ws.length) : ¬ SB sb sm b := by
  rintro (rfl | rfl)
  · exact ht (hb.uniq h.st.head).2
  · rcases hc with hc | hc
    · exact hc (hb.uniq h.st.row).2
    · have e := (hb.uniq h.st.row).1; rw [e] at hc; simp at hc
end Go.Proofs.YtffhoaimcjpjhaaGreat

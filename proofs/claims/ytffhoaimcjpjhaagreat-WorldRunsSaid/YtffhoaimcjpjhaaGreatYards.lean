/- What is none of an arena's blocks. By an AI agent. -/
import Derived.Test.YtffhoaimcjpjhaaGreatAct3
namespace Go.Proofs.YtffhoaimcjpjhaaGreat
open Go.RowKit
section
variable {w : World} {ab sb sm rb : Nat} {P T : Int} {s : StoreS}
theorem Yard.multi (hY : Yard w ab sb sm rb P T s) (hbig : 1 < s.ws.length) {b : Nat} {x : Value} {t : TypeId} (h : Blk w b #[x] t) : ¬ SB sb sm b := by
  rintro (rfl | rfl)
  · have e := congrArg Array.size (h.uniq hY.st.head).1; simp [StoreS.arr] at e
  · have e := congrArg Array.size (h.uniq hY.st.row).1; simp at e; omega
theorem Yard.mach (hY : Yard w ab sb sm rb P T s) {b : Nat} {c : Array Value} {t : TypeId} (h : Blk w b c t) (h1 : t ≠ 186) (h2 : t ≠ 33) (h3 : t ≠ 152) : b ≠ ab ∧ b ≠ sb ∧ b ≠ sm := by
  refine ⟨?_, ?_, ?_⟩ <;> rintro rfl
  · exact h3 (h.uniq hY.ar.head).2
  · exact h1 (h.uniq hY.st.head).2
  · exact h2 (h.uniq hY.st.row).2
end
end Go.Proofs.YtffhoaimcjpjhaaGreat

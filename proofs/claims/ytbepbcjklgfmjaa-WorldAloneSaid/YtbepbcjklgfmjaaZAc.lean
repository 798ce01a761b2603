/- An access of a store. By an AI agent. -/
import Derived.Test.YtbepbcjklgfmjaaZ1
namespace Go.Proofs.Ytbepbcjklgfmjaa
open Go.RowKit
set_option linter.unusedSimpArgs false
set_option linter.unusedVariables false
/-- An access. -/
inductive Ac where
  | load (at_ : Int)
  | put (at_ v : Int)
  | cas (at_ o v : Int)
  | add (at_ v : Int)
namespace Ac
def pos : Ac → Int
  | load a => a
  | put a _ => a
  | cas a _ _ => a
  | add a _ => a
/-- What is put fits a word. -/
def fit : Ac → Prop
  | load _ => True
  | put _ v => 0 ≤ v ∧ v < 18446744073709551616
  | cas _ _ v => 0 ≤ v ∧ v < 18446744073709551616
  | add _ _ => True
/-- What it leaves of a store. -/
def act : Ac → StoreS → StoreS
  | load a, s => s.acc 1 a (s.word a)
  | put a v, s => s.acc 2 a v
  | cas a o v, s => if s.word a = o then s.acc 3 a v else s.acc 4 a (s.word a)
  | add a v, s => s.acc 5 a ((s.word a + v) % 18446744073709551616)
theorem act_old (c : Ac) (s : StoreS) : (c.act s).old = s.word c.pos := by
  cases c <;> simp only [act, pos] <;> first | rfl | (split <;> rfl)
theorem act_pos (c : Ac) (s : StoreS) : (c.act s).pos = c.pos := by
  cases c <;> simp only [act, pos] <;> first | rfl | (split <;> rfl)
theorem act_fit {c : Ac} {s : StoreS} (h : s.fit) (hc : c.fit) : (c.act s).fit := by
  cases c with
  | load a => exact StoreS.acc_fit h 1 a (StoreS.word_bd h a).1 (StoreS.word_bd h a).2
  | put a v => exact StoreS.acc_fit h 2 a hc.1 hc.2
  | cas a o v =>
    simp only [act]
    split
    · exact StoreS.acc_fit h 3 a hc.1 hc.2
    · exact StoreS.acc_fit h 4 a (StoreS.word_bd h a).1 (StoreS.word_bd h a).2
  | add a v => exact StoreS.acc_fit h 5 a (by omega) (by omega)
theorem act_len (c : Ac) (s : StoreS) : (c.act s).ws.length = s.ws.length := by
  cases c <;> simp only [act] <;> first | (split <;> simp [StoreS.acc]) | simp [StoreS.acc]
end Ac
end Go.Proofs.Ytbepbcjklgfmjaa

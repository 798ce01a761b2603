/- Package stack: machines beside one that steps; the words of heads. By an AI agent. -/
import Derived.Test.YtbcfeaimopijfaaStackPush
import Derived.Test.YtbcfeaimopijfaaSameInts
namespace Go.Proofs.Ytbcfeaimopijfaa
open Go.RowKit
/-- Blocks of which none is a single cell. -/
def Aloof (w : World) (M : Nat → Prop) : Prop := ∀ (b : Nat) (x : Value) (t : TypeId), Blk w b #[x] t → ¬ M b
section
variable {w w' : World} {ab sb sm rb mb m2 : Nat} {P T hd H was pg x : Int} {f g : Int → Int} {M : Nat → Prop}
theorem Aloof.none : Aloof w (fun _ => False) := fun _ _ _ _ h => h
theorem Aloof.desk {c : Value → Array Value} {t : TypeId} {k : DK} (h : Desk w mb c t k) (hc : ∀ nx, (c nx).size ≠ 1) : Aloof w (· = mb) := fun b x t hb => by
  obtain ⟨nx, h1, _⟩ := h.blk
  exact h1.multi' (hc nx) hb
theorem Aloof.pop1 (h : Pop1 w mb P T hd was pg) : Aloof w (· = mb) := Aloof.desk h (fun _ => by simp)
theorem Aloof.pop2 (h : Pop2 w mb P T hd was pg) : Aloof w (· = mb) := Aloof.desk h (fun _ => by simp)
theorem Aloof.pop3 (h : Pop3 w mb P T hd was pg x) : Aloof w (· = mb) := by obtain ⟨_, _, h⟩ := h; exact Aloof.desk h (fun _ => by simp)
theorem Aloof.push1 (h : Push1 w mb P T hd pg) : Aloof w (· = mb) := Aloof.desk h (fun _ => by simp)
theorem Aloof.push2 (h : Push2 w mb P T hd pg x) : Aloof w (· = mb) := by obtain ⟨_, _, _, _, h⟩ := h; exact Aloof.desk h (fun _ => by simp)
theorem Aloof.push3 (h : Push3 w mb P T hd pg x) : Aloof w (· = mb) := by obtain ⟨_, _, h⟩ := h; exact Aloof.desk h (fun _ => by simp)
theorem YS.desk (h : YS w ab sb sm rb P T hd H f) (hh : HD P T hd) {c2 : Value → Array Value} {t2 : TypeId} {k2 : DK} (h2 : Desk w m2 c2 t2 k2) (ht : MachT t2) (h3 : ¬ M m2) (h4 : Aloof w M) (ho : Only (fun j => SB sb sm j ∨ M j) w w') : Desk w' m2 c2 t2 k2 := by
  obtain ⟨s, hY, hS⟩ := h
  obtain ⟨nx, hb, _⟩ := h2.blk
  have hmb := hY.mach hb ht.1 ht.2.1 ht.2.2.1
  exact h2.only ho (fun e => e.elim (fun e => e.elim hmb.2.1 hmb.2.2) h3) (fun b x t h e => e.elim (hY.multi (hS.big hh) h) (h4 _ _ _ h))
theorem YS.one (h : YS w ab sb sm rb P T hd H f) (hh : HD P T hd) {b : Nat} {v : Value} {t : TypeId} (hb : Blk w b #[v] t) (h4 : Aloof w M) (ho : Only (fun j => SB sb sm j ∨ M j) w w') : Blk w' b #[v] t := by
  obtain ⟨s, hY, hS⟩ := h
  exact hb.only ho (fun e => e.elim (hY.multi (hS.big hh) hb) (h4 _ _ _ hb))
theorem YS.pop1 (h : YS w ab sb sm rb P T hd H f) (hh : HD P T hd) (h2 : Pop1 w m2 P T hd was pg) (h3 : ¬ M m2) (h4 : Aloof w M) (ho : Only (fun j => SB sb sm j ∨ M j) w w') : Pop1 w' m2 P T hd was pg := h.desk hh h2 (by decide) h3 h4 ho
theorem YS.pop2 (h : YS w ab sb sm rb P T hd H f) (hh : HD P T hd) (h2 : Pop2 w m2 P T hd was pg) (h3 : ¬ M m2) (h4 : Aloof w M) (ho : Only (fun j => SB sb sm j ∨ M j) w w') : Pop2 w' m2 P T hd was pg := h.desk hh h2 (by decide) h3 h4 ho
theorem YS.pop3 (h : YS w ab sb sm rb P T hd H f) (hh : HD P T hd) (h2 : Pop3 w m2 P T hd was pg x) (h3 : ¬ M m2) (h4 : Aloof w M) (ho : Only (fun j => SB sb sm j ∨ M j) w w') : Pop3 w' m2 P T hd was pg x := by
  obtain ⟨jm, hj, h2⟩ := h2
  exact ⟨jm, h.one hh hj h4 ho, h.desk hh h2 (by decide) h3 h4 ho⟩
theorem YS.push1 (h : YS w ab sb sm rb P T hd H f) (hh : HD P T hd) (h2 : Push1 w m2 P T hd pg) (h3 : ¬ M m2) (h4 : Aloof w M) (ho : Only (fun j => SB sb sm j ∨ M j) w w') : Push1 w' m2 P T hd pg := h.desk hh h2 (by decide) h3 h4 ho
theorem YS.push2 (h : YS w ab sb sm rb P T hd H f) (hh : HD P T hd) (h2 : Push2 w m2 P T hd pg x) (h3 : ¬ M m2) (h4 : Aloof w M) (ho : Only (fun j => SB sb sm j ∨ M j) w w') : Push2 w' m2 P T hd pg x := by
  obtain ⟨jw, jm, hw, hj, h2⟩ := h2
  exact ⟨jw, jm, h.one hh hw h4 ho, h.one hh hj h4 ho, h.desk hh h2 (by decide) h3 h4 ho⟩
theorem YS.push3 (h : YS w ab sb sm rb P T hd H f) (hh : HD P T hd) (h2 : Push3 w m2 P T hd pg x) (h3 : ¬ M m2) (h4 : Aloof w M) (ho : Only (fun j => SB sb sm j ∨ M j) w w') : Push3 w' m2 P T hd pg x := by
  obtain ⟨jm, hj, h2⟩ := h2
  exact ⟨jm, h.one hh hj h4 ho, h.desk hh h2 (by decide) h3 h4 ho⟩
theorem YS.conv (h : YS w ab sb sm rb P T hd H f) (e : ∀ q, 0 ≤ q → q < P → f q = g q) : YS w ab sb sm rb P T hd H g := by
  obtain ⟨s, h1, h2⟩ := h
  exact ⟨s, h1, h2.len, h2.top, fun q h0 h1 => (h2.nx q h0 h1).trans (e q h0 h1)⟩
theorem YS.new (h : Yard w ab sb sm rb P T (StoreS.begun (Lay.words P T).toNat 0 1)) (hh : HD P T hd) : YS w ab sb sm rb P T hd 0 (fun _ => 0) := by
  have hl := hh.lo
  have hw := hh.words
  exact ⟨_, h, begun_len _ _ _, begun_other _ _ _ (by omega), fun q h0 h1 => begun_other _ _ _ (by have := Lay.nextAt_eq hh.may h0 h1; omega)⟩
theorem Pop3.adds (h : Pop3 w mb P T hd was pg x) (ho : Adds w w') : Pop3 w' mb P T hd was pg x := by
  obtain ⟨jm, hj, h2⟩ := h; exact ⟨jm, hj.only ho id, Desk.adds h2 ho⟩
theorem Push3.adds (h : Push3 w mb P T hd pg x) (ho : Adds w w') : Push3 w' mb P T hd pg x := by
  obtain ⟨jm, hj, h2⟩ := h; exact ⟨jm, hj.only ho id, Desk.adds h2 ho⟩
theorem Desk.lt {c : Value → Array Value} {t : TypeId} {k : DK} (h : Desk w mb c t k) : mb < w.heap.size := by
  obtain ⟨nx, h1, _⟩ := h.blk; exact h1.lt
/-- What lies in a stack. -/
def Lies (f : Int → Int) (P : Int) : Int → List Int → Prop
  | p, [] => ¬ (0 ≤ p ∧ p < P)
  | p, q :: L => p = q ∧ (0 ≤ p ∧ p < P) ∧ Lies f P (underV (f p)) L
theorem SW.chain {s : StoreS} (h : SW s P T hd H f) : ∀ {L : List Int} {p : Int}, Lies f P p L → Chain s P T p L
  | [], _, hl => hl
  | _ :: _, _, ⟨e, hb, hl⟩ => ⟨e, hb, by rw [h.nx _ hb.1 hb.2]; exact h.chain hl⟩
theorem list_any (h : YS w ab sb sm rb P T hd H f) (hh : HD P T hd) {L : List Int} (hl : Lies f P (Tag.pg H) L) (hn : (L.length : Int) ≤ P) :
    Calls Try.prog 14 #[.pointer (some ⟨ab, 0, none⟩), .int .i64 hd] w fun e w' => ∃ v, e = .returned v ∧ Ints w' v L ∧ Adds w w' := by
  obtain ⟨s, hY, hS⟩ := h
  exact (stackList_any hY hh.to hS.len L (by rw [hS.top]; exact hS.chain hl) hn).mono (fun e w2 ⟨v, e1, h1, h2⟩ => ⟨v, e1, Ints.row h1, h2⟩)
end
theorem Ints.lit2 (w : World) (a b : Int) : Ints (w.alloc (.cells #[.int .i64 a, .int .i64 b] 3)) (.slice (some ⟨w.heap.size, 0, none⟩) 2 2) [a, b] := by
  have h := Blk.new w #[.int .i64 a, .int .i64 b] 3
  refine ⟨_, _, rfl, fun i hi => ⟨_, _, rfl, by simp, ?_⟩⟩
  have hi' : i = 0 ∨ i = 1 := by simp at hi; omega
  rcases hi' with rfl | rfl
  · exact h.cell 0
  · exact h.cell 1
theorem sameInts_lit2 {w : World} {v : Value} {a b : Int} (h : Ints w v [a, b]) :
    Calls Try.prog 13 #[v, .slice (some ⟨w.heap.size, 0, none⟩) 2 2] (w.alloc (.cells #[.int .i64 a, .int .i64 b] 3)) fun e w' => e = .returned (.bool true) ∧ ∃ k, w' = (w.alloc (.cells #[.int .i64 a, .int .i64 b] 3)).drewN k :=
  sameInts_yes (xs := [a, b]) (h.adds ((Only.refl _ _).alloc _)) (Ints.lit2 w a b) (by simp)
namespace Tag
theorem nx_eq {x p : Int} (h : -1 ≤ p ∧ p < 4096) : nx x p = ((x / 4294967296 + 1) % 4294967296) * 4294967296 + (p + 1) := by
  unfold nx mk tg okB
  rw [if_pos (by simpa using h)]
theorem pg_nx {x p : Int} (h : -1 ≤ p ∧ p < 4096) : pg (nx x p) = p := by
  rw [nx_eq h]; unfold pg
  have : ((x / 4294967296 + 1) % 4294967296 * 4294967296 + (p + 1)) % 4294967296 = p + 1 := by omega
  rw [this, if_neg (by omega)]; omega
theorem tg_nx {x p : Int} (h : -1 ≤ p ∧ p < 4096) : tg (nx x p) = (tg x + 1) % 4294967296 := by
  rw [nx_eq h]; unfold tg; omega
end Tag
end Go.Proofs.Ytbcfeaimopijfaa

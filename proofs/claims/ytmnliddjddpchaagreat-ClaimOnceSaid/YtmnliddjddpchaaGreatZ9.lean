/- Package sweep: a sweep, step by step. And, or, and-not of 64 bits. Package sweep: NewSweep, its four steps, what it does where it may not. Package sweep: NewSweep; sweeps that may not be there. By an AI agent. -/
import Derived.Test.YtmnliddjddpchaaGreatZ3
import Derived.Test.YtmnliddjddpchaaGreatZ7
import Derived.Test.YtmnliddjddpchaaGreatZ1
import Derived.Test.YtmnliddjddpchaaGreatZ4
import Derived.Test.YtmnliddjddpchaaGreatZ2
namespace Go.Proofs.YtmnliddjddpchaaGreat
open Go.RowKit
set_option linter.unusedSimpArgs false
set_option linter.unusedVariables false
abbrev andU (a b : Int) : Int := bits BinOp.and .u64 a b
abbrev clrU (a b : Int) : Int := bits BinOp.andNot .u64 a b
/-- What all steps of a sweep see: its block, where its words are. -/
structure SwBox (w : World) (mb jm ja jk : Nat) (al mk : Int) : Prop where
  m : Blk w jm #[.pointer (some ⟨mb, 0, none⟩)] 190
  a : Blk w ja #[.int .i64 al] 3
  k : Blk w jk #[.int .i64 mk] 3
abbrev swCells (P T : Int) (nx : Value) (fr : Int) : Array Value := #[.int .i64 P, .int .i64 T, nx, .int .u64 fr]
theorem SwBox.only {S : Nat → Prop} {w w' : World} {mb jm ja jk : Nat} {al mk : Int} (h : SwBox w mb jm ja jk al mk) (ho : Only S w w') (hs : ∀ b x t, Blk w b #[x] t → ¬ S b) : SwBox w' mb jm ja jk al mk :=
  ⟨h.m.only ho (hs _ _ _ h.m), h.a.only ho (hs _ _ _ h.a), h.k.only ho (hs _ _ _ h.k)⟩
theorem SwBox.dids {w w' : World} {mb jm ja jk : Nat} {al mk : Int} (h : SwBox w mb jm ja jk al mk) (ho : Only (Dids w) w w') : SwBox w' mb jm ja jk al mk :=
  ⟨h.m.dids ho (by decide), h.a.dids ho (by decide), h.k.dids ho (by decide)⟩
def Sw1 (w : World) (mb : Nat) (P T al mk : Int) : Prop := ∃ n jm ja jk, SwBox w mb jm ja jk al mk ∧ Blk w mb (swCells P T (loadF n) 0) 219 ∧ HasLoad w n mk (.func (.func 192) #[] #[.pointer (some ⟨jm, 0, none⟩), .pointer (some ⟨ja, 0, none⟩), .pointer (some ⟨jk, 0, none⟩)])
theorem Sw1.only {S : Nat → Prop} {w w' : World} {mb : Nat} {P T al mk : Int} (h : Sw1 w mb P T al mk) (ho : Only S w w') (hm : ¬ S mb) (hs : ∀ b x t, Blk w b #[x] t → ¬ S b) : Sw1 w' mb P T al mk := by
  obtain ⟨n, jm, ja, jk, h0, h1, h2⟩ := h
  exact ⟨n, jm, ja, jk, h0.only ho hs, h1.only ho hm, ⟨h2.b0.only ho (hs _ _ _ h2.b0), h2.b1.only ho (hs _ _ _ h2.b1)⟩⟩
theorem Sw1.adds {w w' : World} {mb : Nat} {P T al mk : Int} (h : Sw1 w mb P T al mk) (ho : Adds w w') : Sw1 w' mb P T al mk := h.only ho id (fun _ _ _ _ => id)
theorem Sw1.stays (mb : Nat) (P T al mk : Int) : Stays (fun w => Sw1 w mb P T al mk) := fun _ _ ho => by
  rintro ⟨n, jm, ja, jk, h0, h1, h2⟩
  exact ⟨n, jm, ja, jk, h0.dids ho, h1.dids ho (by decide), h2.dids ho⟩
theorem Sw1.live {w : World} {mb : Nat} {P T al mk : Int} (h : Sw1 w mb P T al mk) : ∃ nx fn f c, nx = Value.func fn f c ∧ Blk w mb (swCells P T nx 0) 219 := by
  obtain ⟨n, jm, ja, jk, h0, h1, h2⟩ := h
  exact ⟨_, _, _, _, rfl, h1⟩
def Sw2 (w : World) (mb : Nat) (P T al mk b : Int) : Prop := ∃ n jm ja jk jb, SwBox w mb jm ja jk al mk ∧ Blk w jb #[.int .u64 b] 39 ∧ Blk w mb (swCells P T (loadF n) 0) 219 ∧ HasLoad w n al (.func (.func 193) #[] #[.pointer (some ⟨jm, 0, none⟩), .pointer (some ⟨ja, 0, none⟩), .pointer (some ⟨jb, 0, none⟩), .pointer (some ⟨jk, 0, none⟩)])
theorem Sw2.only {S : Nat → Prop} {w w' : World} {mb : Nat} {P T al mk b : Int} (h : Sw2 w mb P T al mk b) (ho : Only S w w') (hm : ¬ S mb) (hs : ∀ b x t, Blk w b #[x] t → ¬ S b) : Sw2 w' mb P T al mk b := by
  obtain ⟨n, jm, ja, jk, jb, h0, h1, h2, h3⟩ := h
  exact ⟨n, jm, ja, jk, jb, h0.only ho hs, h1.only ho (hs _ _ _ h1), h2.only ho hm, ⟨h3.b0.only ho (hs _ _ _ h3.b0), h3.b1.only ho (hs _ _ _ h3.b1)⟩⟩
theorem Sw2.adds {w w' : World} {mb : Nat} {P T al mk b : Int} (h : Sw2 w mb P T al mk b) (ho : Adds w w') : Sw2 w' mb P T al mk b := h.only ho id (fun _ _ _ _ => id)
theorem Sw2.stays (mb : Nat) (P T al mk b : Int) : Stays (fun w => Sw2 w mb P T al mk b) := fun _ _ ho => by
  rintro ⟨n, jm, ja, jk, jb, h0, h1, h2, h3⟩
  exact ⟨n, jm, ja, jk, jb, h0.dids ho, h1.dids ho (by decide), h2.dids ho (by decide), h3.dids ho⟩
theorem Sw2.live {w : World} {mb : Nat} {P T al mk b : Int} (h : Sw2 w mb P T al mk b) : ∃ nx fn f c, nx = Value.func fn f c ∧ Blk w mb (swCells P T nx 0) 219 := by
  obtain ⟨n, jm, ja, jk, jb, h0, h1, h2, h3⟩ := h
  exact ⟨_, _, _, _, rfl, h2⟩
def Sw3 (w : World) (mb : Nat) (P T al mk b a : Int) : Prop := ∃ n jm ja jk jb jx, SwBox w mb jm ja jk al mk ∧ Blk w jb #[.int .u64 b] 39 ∧ Blk w jx #[.int .u64 a] 39 ∧ Blk w mb (swCells P T (putF n) 0) 219 ∧ HasPut w n al (andU a b) (.func (.func 194) #[] #[.pointer (some ⟨jx, 0, none⟩), .pointer (some ⟨jb, 0, none⟩), .pointer (some ⟨jm, 0, none⟩), .pointer (some ⟨jk, 0, none⟩)])
theorem Sw3.only {S : Nat → Prop} {w w' : World} {mb : Nat} {P T al mk b a : Int} (h : Sw3 w mb P T al mk b a) (ho : Only S w w') (hm : ¬ S mb) (hs : ∀ b x t, Blk w b #[x] t → ¬ S b) : Sw3 w' mb P T al mk b a := by
  obtain ⟨n, jm, ja, jk, jb, jx, h0, h1, h2, h3, h4⟩ := h
  exact ⟨n, jm, ja, jk, jb, jx, h0.only ho hs, h1.only ho (hs _ _ _ h1), h2.only ho (hs _ _ _ h2), h3.only ho hm, ⟨h4.b0.only ho (hs _ _ _ h4.b0), h4.b1.only ho (hs _ _ _ h4.b1), h4.b2.only ho (hs _ _ _ h4.b2)⟩⟩
theorem Sw3.adds {w w' : World} {mb : Nat} {P T al mk b a : Int} (h : Sw3 w mb P T al mk b a) (ho : Adds w w') : Sw3 w' mb P T al mk b a := h.only ho id (fun _ _ _ _ => id)
theorem Sw3.stays (mb : Nat) (P T al mk b a : Int) : Stays (fun w => Sw3 w mb P T al mk b a) := fun _ _ ho => by
  rintro ⟨n, jm, ja, jk, jb, jx, h0, h1, h2, h3, h4⟩
  exact ⟨n, jm, ja, jk, jb, jx, h0.dids ho, h1.dids ho (by decide), h2.dids ho (by decide), h3.dids ho (by decide), h4.dids ho⟩
theorem Sw3.live {w : World} {mb : Nat} {P T al mk b a : Int} (h : Sw3 w mb P T al mk b a) : ∃ nx fn f c, nx = Value.func fn f c ∧ Blk w mb (swCells P T nx 0) 219 := by
  obtain ⟨n, jm, ja, jk, jb, jx, h0, h1, h2, h3, h4⟩ := h
  exact ⟨_, _, _, _, rfl, h3⟩
def Sw4 (w : World) (mb : Nat) (P T mk b a : Int) : Prop := ∃ n, Blk w mb (swCells P T (putF n) (clrU a b)) 219 ∧ HasPut w n mk 0 (.func (.func 52) #[.pointer (some ⟨mb, 0, none⟩)] #[])
theorem Sw4.only {S : Nat → Prop} {w w' : World} {mb : Nat} {P T mk b a : Int} (h : Sw4 w mb P T mk b a) (ho : Only S w w') (hm : ¬ S mb) (hs : ∀ b x t, Blk w b #[x] t → ¬ S b) : Sw4 w' mb P T mk b a := by
  obtain ⟨n, h0, h1⟩ := h
  exact ⟨n, h0.only ho hm, ⟨h1.b0.only ho (hs _ _ _ h1.b0), h1.b1.only ho (hs _ _ _ h1.b1), h1.b2.only ho (hs _ _ _ h1.b2)⟩⟩
theorem Sw4.adds {w w' : World} {mb : Nat} {P T mk b a : Int} (h : Sw4 w mb P T mk b a) (ho : Adds w w') : Sw4 w' mb P T mk b a := h.only ho id (fun _ _ _ _ => id)
theorem Sw4.stays (mb : Nat) (P T mk b a : Int) : Stays (fun w => Sw4 w mb P T mk b a) := fun _ _ ho => by
  rintro ⟨n, h0, h1⟩
  exact ⟨n, h0.dids ho (by decide), h1.dids ho⟩
theorem Sw4.live {w : World} {mb : Nat} {P T mk b a : Int} (h : Sw4 w mb P T mk b a) : ∃ nx fn f c, nx = Value.func fn f c ∧ Blk w mb (swCells P T nx (clrU a b)) 219 := by
  obtain ⟨n, h0, h1⟩ := h
  exact ⟨_, _, _, _, rfl, h0⟩
theorem Blk.multi {w : World} {m b : Nat} {c : Array Value} {x : Value} {t u : TypeId} (h : Blk w m c t) (hc : c.size ≠ 1) (hb : Blk w b #[x] u) : ¬ b = m := by
  rintro rfl
  exact hc (by rw [← (hb.uniq h).1]; rfl)
theorem sw_keep2 {w W w' : World} {m b : Nat} {x : Value} {t : TypeId} (h : Blk w b #[x] t) (ho : Only (fun j => j = m) W w') (hne : Blk w b #[x] t → ¬ b = m) (hW : W = w.drew := by rfl) : w'.cell? ⟨b, 0, none⟩ = some x := by
  subst hW
  exact (Blk.only (w := w.drew) h ho (hne h)).one
section
variable {w : World} {mb jm ja jk jb jx : Nat} {P T al mk a b : Int} {nx : Value}
set_option maxHeartbeats 2000000 in
theorem sw_one (hB : SwBox w mb jm ja jk al mk) (h : Blk w mb (swCells P T nx 0) 219) :
    Calls Tryz.prog 192 #[.int .u64 b, .pointer (some ⟨jm, 0, none⟩), .pointer (some ⟨ja, 0, none⟩), .pointer (some ⟨jk, 0, none⟩)] w fun e w' => e = .returned (.tuple #[]) ∧ Sw2 w' mb P T al mk b ∧ Only (· = mb) w w' := by
  obtain ⟨wB, hW⟩ : ∃ wB, wB = w.alloc (.cells #[.int .u64 b] 39) := ⟨_, rfl⟩
  have hA : Hid (Adds w wB) := by rw [hW]; exact Lib.hid ((Only.refl _ _).alloc _)
  have HB := Lib.hid (hB.only hA.out (fun _ _ _ _ => id)); have HM := Lib.hid (h.only hA.out id)
  have HX : Hid (Blk wB w.heap.size #[.int .u64 b] 39) := by rw [hW]; exact Lib.hid (Blk.new w _ _)
  have c0 := HB.out.m.one; have c1 := HB.out.a.one
  have HW := Lib.hid hW
  clear hB h
  go_enter Tryz.func192, Tryz.ntmps192
  go_wp2
  rw [← HW.out]
  clear hW
  go_region_held3 (fun W => W.cell? ⟨jm, 0, none⟩ = some (.pointer (some ⟨mb, 0, none⟩)) ∧ W.cell? ⟨ja, 0, none⟩ = some (.int .i64 al))
    (first | (exact ⟨c0, c1⟩) | (exact ⟨sw_keep2 HB.out.m (by assumption) (HM.out.multi (by simp)), sw_keep2 HB.out.a (by assumption) (HM.out.multi (by simp))⟩))
    (first | (go_at_call 96; refine (deskLoad_any HM.out.drew (by simp) al _ _ _).mono ?_; rintro e w3 ⟨rfl, hb3, hc3, ho3⟩; have HC := Lib.hid (And.intro hb3 (And.intro hc3 ho3)); clear hb3 hc3))
  clear ho3
  go_wp2
  go_end0
  obtain ⟨b3, c3, o3'⟩ := HC.out
  have o3 := ((Only.refl (fun x => x = mb) wB).drew).trans o3'
  have hs : ∀ (q : Nat) (x : Value) (t : TypeId), Blk wB q #[x] t → ¬ q = mb := fun q x t hq => HM.out.multi (by simp) hq
  exact ⟨rfl, ⟨_, jm, ja, jk, w.heap.size, HB.out.only o3 hs, HX.out.only o3 (hs _ _ _ HX.out), by simpa using b3, c3⟩, (hA.out.mono (fun _ _ e => e.elim)).trans o3⟩
set_option maxHeartbeats 2000000 in
theorem sw_two (hB : SwBox w mb jm ja jk al mk) (hb : Blk w jb #[.int .u64 b] 39) (h : Blk w mb (swCells P T nx 0) 219) :
    Calls Tryz.prog 193 #[.int .u64 a, .pointer (some ⟨jm, 0, none⟩), .pointer (some ⟨ja, 0, none⟩), .pointer (some ⟨jb, 0, none⟩), .pointer (some ⟨jk, 0, none⟩)] w fun e w' => e = .returned (.tuple #[]) ∧ Sw3 w' mb P T al mk b a ∧ Only (· = mb) w w' := by
  obtain ⟨wB, hW⟩ : ∃ wB, wB = w.alloc (.cells #[.int .u64 a] 39) := ⟨_, rfl⟩
  have hA : Hid (Adds w wB) := by rw [hW]; exact Lib.hid ((Only.refl _ _).alloc _)
  have HB := Lib.hid (hB.only hA.out (fun _ _ _ _ => id)); have HM := Lib.hid (h.only hA.out id); have HJ := Lib.hid (hb.only hA.out id)
  have HX : Hid (Blk wB w.heap.size #[.int .u64 a] 39) := by rw [hW]; exact Lib.hid (Blk.new w _ _)
  have c0 := HB.out.m.one; have c1 := HB.out.a.one; have c2 := HJ.out.one; have c3 := HX.out.one
  have HW := Lib.hid hW
  clear hB h hb
  go_enter Tryz.func193, Tryz.ntmps193
  go_wp2
  rw [← HW.out]
  clear hW
  go_region_held3 (fun W => W.cell? ⟨jm, 0, none⟩ = some (.pointer (some ⟨mb, 0, none⟩)) ∧ W.cell? ⟨ja, 0, none⟩ = some (.int .i64 al) ∧ W.cell? ⟨jb, 0, none⟩ = some (.int .u64 b) ∧ W.cell? ⟨w.heap.size, 0, none⟩ = some (.int .u64 a))
    (first | (exact ⟨c0, c1, c2, c3⟩) | (exact ⟨sw_keep2 HB.out.m (by assumption) (HM.out.multi (by simp)), sw_keep2 HB.out.a (by assumption) (HM.out.multi (by simp)), sw_keep2 HJ.out (by assumption) (HM.out.multi (by simp)), sw_keep2 HX.out (by assumption) (HM.out.multi (by simp))⟩))
    (first | (go_at_call 158; refine (deskPut_any HM.out.drew (by simp) al _ _ _ _).mono ?_; rintro e w3 ⟨rfl, hb3, hc3, ho3⟩; have HC := Lib.hid (And.intro hb3 (And.intro hc3 ho3)); clear hb3 hc3))
  clear ho3
  go_wp2
  go_end0
  obtain ⟨b3, c3, o3'⟩ := HC.out
  have o3 := ((Only.refl (fun x => x = mb) wB).drew).trans o3'
  have hs : ∀ (q : Nat) (x : Value) (t : TypeId), Blk wB q #[x] t → ¬ q = mb := fun q x t hq => HM.out.multi (by simp) hq
  exact ⟨rfl, ⟨_, jm, ja, jk, jb, w.heap.size, HB.out.only o3 hs, HJ.out.only o3 (hs _ _ _ HJ.out), HX.out.only o3 (hs _ _ _ HX.out), by simpa using b3, c3⟩, (hA.out.mono (fun _ _ e => e.elim)).trans o3⟩
set_option maxHeartbeats 2000000 in
theorem sw_three (hB : SwBox w mb jm ja jk al mk) (hb : Blk w jb #[.int .u64 b] 39) (hx : Blk w jx #[.int .u64 a] 39) (h : Blk w mb (swCells P T nx 0) 219) :
    Calls Tryz.prog 194 #[.pointer (some ⟨jx, 0, none⟩), .pointer (some ⟨jb, 0, none⟩), .pointer (some ⟨jm, 0, none⟩), .pointer (some ⟨jk, 0, none⟩)] w fun e w' => e = .returned (.tuple #[]) ∧ Sw4 w' mb P T mk b a ∧ Only (· = mb) w w' := by
  have q0 := hB.m.one; have q1 := hB.k.one; have q2 := hb.one; have q3 := hx.one
  have m3 : w.cell? ⟨mb, 3, none⟩ = some (.int .u64 0) := h.cell 3
  have f3 := h.frozen 3
  have hs : ∀ (q : Nat) (x : Value) (t : TypeId), Blk w q #[x] t → ¬ q = mb := fun q x t hq => h.multi (by simp) hq
  obtain ⟨wB, hW⟩ : ∃ wB, wB = w.setCell ⟨mb, 3, none⟩ (.int .u64 (clrU a b)) := ⟨_, rfl⟩
  have hA : Hid (Only (· = mb) w wB) := by rw [hW]; exact Lib.hid ((Only.refl (fun x => x = mb) _).setCell (.inl rfl) _)
  have HB := Lib.hid (hB.only hA.out hs)
  have HM : Hid (Blk wB mb (swCells P T nx (clrU a b)) 219) := by rw [hW]; exact Lib.hid (h.setCell 3 _)
  have c0 := HB.out.m.one; have c1 := HB.out.k.one
  have HW := Lib.hid hW
  clear hB h hb hx hs
  go_enter Tryz.func194, Tryz.ntmps194
  go_wp2
  rw [← HW.out]
  clear hW q0 q1 q2 q3 m3 f3
  go_region_held3 (fun W => W.cell? ⟨jm, 0, none⟩ = some (.pointer (some ⟨mb, 0, none⟩)) ∧ W.cell? ⟨jk, 0, none⟩ = some (.int .i64 mk))
    (first | (exact ⟨c0, c1⟩) | (exact ⟨sw_keep2 HB.out.m (by assumption) (HM.out.multi (by simp)), sw_keep2 HB.out.k (by assumption) (HM.out.multi (by simp))⟩))
    (first | (go_at_call 158; refine (deskPut_any HM.out.drew (by simp) mk 0 _ _ _).mono ?_; rintro e w3 ⟨rfl, hb3, hc3, ho3⟩; have HC := Lib.hid (And.intro hb3 (And.intro hc3 ho3)); clear hb3 hc3))
  clear ho3
  go_wp2
  go_end0
  obtain ⟨b3, c3, o3'⟩ := HC.out
  have o3 := ((Only.refl (fun x => x = mb) wB).drew).trans o3'
  exact ⟨rfl, ⟨_, by simpa using b3, c3⟩, hA.out.trans o3⟩
end
theorem wrapNat {x : Nat} (h : x < 18446744073709551616) : IntKind.u64.wrap (x : Int) = (x : Int) := by
  simp only [IntKind.wrap_u64]; omega
theorem bv_of {a : Int} (h0 : 0 ≤ a) (h1 : a < 18446744073709551616) : ((BitVec.ofInt 64 a).toNat : Int) = a := by
  rw [BitVec.toNat_ofInt]; omega
theorem and_eq (a b : Int) : bits BinOp.and .u64 a b = ((BitVec.ofInt 64 a &&& BitVec.ofInt 64 b).toNat : Int) := wrapNat (BitVec.isLt _)
theorem or_eq (a b : Int) : bits BinOp.or .u64 a b = ((BitVec.ofInt 64 a ||| BitVec.ofInt 64 b).toNat : Int) := wrapNat (BitVec.isLt _)
theorem clr_eq (a b : Int) : bits BinOp.andNot .u64 a b = ((BitVec.ofInt 64 a &&& ~~~ BitVec.ofInt 64 b).toNat : Int) := wrapNat (BitVec.isLt _)
theorem bv_back (x : BitVec 64) : BitVec.ofInt 64 (x.toNat : Int) = x := by
  apply BitVec.eq_of_toNat_eq
  rw [BitVec.toNat_ofInt]
  have := x.isLt
  omega
theorem and_bd (a b : Int) : 0 ≤ bits BinOp.and .u64 a b ∧ bits BinOp.and .u64 a b < 18446744073709551616 := by
  rw [and_eq]; have := (BitVec.ofInt 64 a &&& BitVec.ofInt 64 b).isLt; omega
theorem clr_bd (a b : Int) : 0 ≤ bits BinOp.andNot .u64 a b ∧ bits BinOp.andNot .u64 a b < 18446744073709551616 := by
  rw [clr_eq]; have := (BitVec.ofInt 64 a &&& ~~~ BitVec.ofInt 64 b).isLt; omega
theorem and_or_clr {a : Int} (b : Int) (h0 : 0 ≤ a) (h1 : a < 18446744073709551616) : bits BinOp.or .u64 (bits BinOp.and .u64 a b) (bits BinOp.andNot .u64 a b) = a := by
  rw [or_eq, and_eq, clr_eq, bv_back, bv_back]
  have e : (BitVec.ofInt 64 a &&& BitVec.ofInt 64 b) ||| (BitVec.ofInt 64 a &&& ~~~ BitVec.ofInt 64 b) = BitVec.ofInt 64 a := by
    apply BitVec.eq_of_getLsbD_eq
    intro i hi
    simp only [BitVec.getLsbD_or, BitVec.getLsbD_and, BitVec.getLsbD_not, hi, decide_true, Bool.true_and]
    cases (BitVec.ofInt 64 a).getLsbD i <;> cases (BitVec.ofInt 64 b).getLsbD i <;> rfl
  rw [e]; exact bv_of h0 h1
theorem and_and_clr (a b : Int) : bits BinOp.and .u64 (bits BinOp.and .u64 a b) (bits BinOp.andNot .u64 a b) = 0 := by
  rw [and_eq, and_eq, clr_eq, bv_back, bv_back]
  have e : (BitVec.ofInt 64 a &&& BitVec.ofInt 64 b) &&& (BitVec.ofInt 64 a &&& ~~~ BitVec.ofInt 64 b) = 0#64 := by
    apply BitVec.eq_of_getLsbD_eq
    intro i hi
    simp only [BitVec.getLsbD_and, BitVec.getLsbD_not, hi, decide_true, Bool.true_and, BitVec.getLsbD_zero]
    cases (BitVec.ofInt 64 a).getLsbD i <;> cases (BitVec.ofInt 64 b).getLsbD i <;> rfl
  rw [e]; rfl
theorem and_zero (a : Int) : bits BinOp.and .u64 a 0 = 0 := by
  rw [and_eq]
  have e : BitVec.ofInt 64 a &&& BitVec.ofInt 64 0 = 0#64 := by
    apply BitVec.eq_of_getLsbD_eq
    intro i hi
    simp
  rw [e]; rfl
theorem clr_zero {a : Int} (h0 : 0 ≤ a) (h1 : a < 18446744073709551616) : bits BinOp.andNot .u64 a 0 = a := by
  rw [clr_eq]
  have e : BitVec.ofInt 64 a &&& ~~~ BitVec.ofInt 64 0 = BitVec.ofInt 64 a := by
    apply BitVec.eq_of_getLsbD_eq
    intro i hi
    rw [show BitVec.ofInt 64 0 = 0#64 from rfl]
    simp only [BitVec.getLsbD_and, BitVec.getLsbD_not, hi, decide_true, Bool.true_and, BitVec.getLsbD_zero, Bool.not_false, Bool.and_true]
  rw [e]; exact bv_of h0 h1
section
variable {w : World} {mb ab sb sm rb : Nat} {P T al mk a b : Int} {s : StoreS}
theorem sweepStep_one (h : Sw1 w mb P T al mk) (hY : Yard w ab sb sm rb P T s) (hi : s.inR mk) (hbig : 1 < s.ws.length) :
    Calls Tryz.prog 243 #[.pointer (some ⟨mb, 0, none⟩), .pointer (some ⟨ab, 0, none⟩)] w fun e w' => e = .returned (.agg #[.int .i64 1, .int .i64 mk, .int .u64 (s.word mk), .int .u64 (s.word mk)]) ∧
      (Sw2 w' mb P T al mk (s.word mk) ∧ Yard w' ab sb sm rb P T (s.acc 1 mk (s.word mk))) ∧ Only (fun j => SB sb sm j ∨ j = mb) w w' := by
  have hlt := hY.st.head.lt; have hlt2 := hY.st.row.lt
  obtain ⟨n, jm, ja, jk, h0, h1, h2⟩ := h
  have hmb := hY.mach h1 (by decide) (by decide) (by decide)
  refine sweepSweepStep_some (Q := fun w' => Sw2 w' mb P T al mk (s.word mk) ∧ Yard w' ab sb sm rb P T (s.acc 1 mk (s.word mk))) (S := fun j => SB sb sm j ∨ j = mb) ((Sw2.stays _ _ _ _ _ _).and (fun _ _ ho h => Yard.dids h ho)) (fun j hj => hj.elim (fun e => e.elim (· ▸ hlt) (· ▸ hlt2)) (· ▸ h1.lt)) (fun w1 ho => ?_)
  have g1 := h1.only ho id
  refine (stepLoad (s' := s.acc 1 mk (s.word mk)) (n := n) (g1.cell 2) (g1.cell 0) (g1.cell 1) (hY.adds ho) (h2.only ho (fun _ _ _ => id)) hbig
    (fun W hs => load_in sb sm mk s W hs hi) (Q := fun w => Sw2 w mb P T al mk (s.word mk)) (Sw2.stays _ _ _ _ _ _) (M := (· = mb)) (fun j e => by subst e; exact ⟨g1.lt, hmb⟩)
    (enters_of Tryz.func192 (by kernel_rfl) rfl) (fun w2 ho2 _ => ?_)).mono ?_
  · have g2 := g1.only ho2 (fun e => e.elim hmb.2.1 hmb.2.2)
    refine (sw_one ((h0.only ho (fun _ _ _ _ => id)).only ho2 (fun _ _ _ hb => (hY.adds ho).multi hbig hb)) g2).mono ?_
    rintro e w3 ⟨rfl, h3, ho3⟩
    exact ⟨rfl, h3, ho3⟩
  · rintro e w2 ⟨rfl, hq, ho2⟩
    exact ⟨rfl, hq, ho2⟩
theorem sweepStep_two (h : Sw2 w mb P T al mk b) (hY : Yard w ab sb sm rb P T s) (hi : s.inR al) (hbig : 1 < s.ws.length) :
    Calls Tryz.prog 243 #[.pointer (some ⟨mb, 0, none⟩), .pointer (some ⟨ab, 0, none⟩)] w fun e w' => e = .returned (.agg #[.int .i64 1, .int .i64 al, .int .u64 (s.word al), .int .u64 (s.word al)]) ∧
      (Sw3 w' mb P T al mk b (s.word al) ∧ Yard w' ab sb sm rb P T (s.acc 1 al (s.word al))) ∧ Only (fun j => SB sb sm j ∨ j = mb) w w' := by
  have hlt := hY.st.head.lt; have hlt2 := hY.st.row.lt
  obtain ⟨n, jm, ja, jk, jb, h0, hb, h1, h2⟩ := h
  have hmb := hY.mach h1 (by decide) (by decide) (by decide)
  refine sweepSweepStep_some (Q := fun w' => Sw3 w' mb P T al mk b (s.word al) ∧ Yard w' ab sb sm rb P T (s.acc 1 al (s.word al))) (S := fun j => SB sb sm j ∨ j = mb) ((Sw3.stays _ _ _ _ _ _ _).and (fun _ _ ho h => Yard.dids h ho)) (fun j hj => hj.elim (fun e => e.elim (· ▸ hlt) (· ▸ hlt2)) (· ▸ h1.lt)) (fun w1 ho => ?_)
  have g1 := h1.only ho id
  refine (stepLoad (s' := s.acc 1 al (s.word al)) (n := n) (g1.cell 2) (g1.cell 0) (g1.cell 1) (hY.adds ho) (h2.only ho (fun _ _ _ => id)) hbig
    (fun W hs => load_in sb sm al s W hs hi) (Q := fun w => Sw3 w mb P T al mk b (s.word al)) (Sw3.stays _ _ _ _ _ _ _) (M := (· = mb)) (fun j e => by subst e; exact ⟨g1.lt, hmb⟩)
    (enters_of Tryz.func193 (by kernel_rfl) rfl) (fun w2 ho2 _ => ?_)).mono ?_
  · have g2 := g1.only ho2 (fun e => e.elim hmb.2.1 hmb.2.2)
    have hs := fun (q : Nat) (x : Value) (t : TypeId) (hb : Blk w1 q #[x] t) => (hY.adds ho).multi hbig hb
    refine (sw_two ((h0.only ho (fun _ _ _ _ => id)).only ho2 hs) ((hb.only ho id).only ho2 (hs _ _ _ (hb.only ho id))) g2).mono ?_
    rintro e w3 ⟨rfl, h3, ho3⟩
    exact ⟨rfl, h3, ho3⟩
  · rintro e w2 ⟨rfl, hq, ho2⟩
    exact ⟨rfl, hq, ho2⟩
theorem sweepStep_three (h : Sw3 w mb P T al mk b a) (hY : Yard w ab sb sm rb P T s) (hi : s.inR al) (hbig : 1 < s.ws.length) :
    Calls Tryz.prog 243 #[.pointer (some ⟨mb, 0, none⟩), .pointer (some ⟨ab, 0, none⟩)] w fun e w' => e = .returned (.agg #[.int .i64 2, .int .i64 al, .int .u64 (s.word al), .int .u64 (andU a b)]) ∧
      (Sw4 w' mb P T mk b a ∧ Yard w' ab sb sm rb P T (s.acc 2 al (andU a b))) ∧ Only (fun j => SB sb sm j ∨ j = mb) w w' := by
  have hlt := hY.st.head.lt; have hlt2 := hY.st.row.lt
  obtain ⟨n, jm, ja, jk, jb, jx, h0, hb, hx, h1, h2⟩ := h
  have hmb := hY.mach h1 (by decide) (by decide) (by decide)
  refine sweepSweepStep_some (Q := fun w' => Sw4 w' mb P T mk b a ∧ Yard w' ab sb sm rb P T (s.acc 2 al (andU a b))) (S := fun j => SB sb sm j ∨ j = mb) ((Sw4.stays _ _ _ _ _ _).and (fun _ _ ho h => Yard.dids h ho)) (fun j hj => hj.elim (fun e => e.elim (· ▸ hlt) (· ▸ hlt2)) (· ▸ h1.lt)) (fun w1 ho => ?_)
  have g1 := h1.only ho id
  refine (stepPut (s' := s.acc 2 al (andU a b)) (n := n) (g1.cell 2) (g1.cell 0) (g1.cell 1) (hY.adds ho) (h2.only ho (fun _ _ _ => id)) hbig
    (fun W hs => put_in sb sm al _ s W hs hi (and_bd a b).1 (and_bd a b).2) (Q := fun w => Sw4 w mb P T mk b a) (Sw4.stays _ _ _ _ _ _) (M := (· = mb)) (fun j e => by subst e; exact ⟨g1.lt, hmb⟩)
    (enters_of Tryz.func194 (by kernel_rfl) rfl) (fun w2 ho2 _ => ?_)).mono ?_
  · have g2 := g1.only ho2 (fun e => e.elim hmb.2.1 hmb.2.2)
    have hs := fun (q : Nat) (x : Value) (t : TypeId) (hb : Blk w1 q #[x] t) => (hY.adds ho).multi hbig hb
    refine (sw_three ((h0.only ho (fun _ _ _ _ => id)).only ho2 hs) ((hb.only ho id).only ho2 (hs _ _ _ (hb.only ho id))) ((hx.only ho id).only ho2 (hs _ _ _ (hx.only ho id))) g2).mono ?_
    rintro e w3 ⟨rfl, h3, ho3⟩
    exact ⟨rfl, h3, ho3⟩
  · rintro e w2 ⟨rfl, hq, ho2⟩
    exact ⟨rfl, hq, ho2⟩
theorem sweepStep_four (h : Sw4 w mb P T mk b a) (hY : Yard w ab sb sm rb P T s) (hi : s.inR mk) (hbig : 1 < s.ws.length) :
    Calls Tryz.prog 243 #[.pointer (some ⟨mb, 0, none⟩), .pointer (some ⟨ab, 0, none⟩)] w fun e w' => e = .returned (.agg #[.int .i64 2, .int .i64 mk, .int .u64 (s.word mk), .int .u64 0]) ∧
      (Blk w' mb (swCells P T .nilFunc (clrU a b)) 219 ∧ Yard w' ab sb sm rb P T (s.acc 2 mk 0)) ∧ Only (fun j => SB sb sm j ∨ j = mb) w w' := by
  have hlt := hY.st.head.lt; have hlt2 := hY.st.row.lt
  obtain ⟨n, h1, h2⟩ := h
  have hmb := hY.mach h1 (by decide) (by decide) (by decide)
  refine sweepSweepStep_some (Q := fun w' => Blk w' mb (swCells P T .nilFunc (clrU a b)) 219 ∧ Yard w' ab sb sm rb P T (s.acc 2 mk 0)) (S := fun j => SB sb sm j ∨ j = mb) ((stays_blk _ _ _ (by decide)).and (fun _ _ ho h => Yard.dids h ho)) (fun j hj => hj.elim (fun e => e.elim (· ▸ hlt) (· ▸ hlt2)) (· ▸ h1.lt)) (fun w1 ho => ?_)
  have g1 := h1.only ho id
  refine (stepPut (s' := s.acc 2 mk 0) (n := n) (g1.cell 2) (g1.cell 0) (g1.cell 1) (hY.adds ho) (h2.only ho (fun _ _ _ => id)) hbig
    (fun W hs => put_in sb sm mk 0 s W hs hi (by omega) (by omega)) (Q := fun w => Blk w mb (swCells P T .nilFunc (clrU a b)) 219) (stays_blk _ _ _ (by decide)) (M := (· = mb)) (fun j e => by subst e; exact ⟨g1.lt, hmb⟩)
    (enters_of Tryz.func52 (by kernel_rfl) rfl) (fun w2 ho2 _ => ?_)).mono ?_
  · have g2 := g1.only ho2 (fun e => e.elim hmb.2.1 hmb.2.2)
    refine (deskEnd_any g2 (by simp)).mono ?_
    rintro e w3 ⟨rfl, rfl⟩
    exact ⟨rfl, g2.setCell 2 _, (Only.refl (fun x => x = mb) _).setCell (.inl rfl) _⟩
  · rintro e w2 ⟨rfl, hq, ho2⟩
    exact ⟨rfl, hq, ho2⟩
theorem sweepStep_nilA {nx : Value} {fn : Fn} {f c : Array Value} {fr : Int} (hn : nx = .func fn f c) (h : Blk w mb (swCells P T nx fr) 219) :
    Calls Tryz.prog 243 #[.pointer (some ⟨mb, 0, none⟩), .pointer none] w fun e w' => e = .returned (.agg #[.int .i64 0, .int .i64 0, .int .u64 0, .int .u64 0]) ∧ Adds w w' := by
  subst hn
  exact (sweepSweepStep_some (Q := fun _ => True) (S := fun _ => False) (fun _ _ _ _ => trivial) (fun _ e => e.elim) (fun w1 ho => (deskStep_nilA ((h.only ho id).cell 2)).mono (fun _ _ h => ⟨h.1, trivial, h.2⟩))).mono (fun _ _ h => ⟨h.1, h.2.2⟩)
theorem sweepStep_other {P' T' : Int} {nx : Value} {fn : Fn} {f c : Array Value} {fr : Int} (hn : nx = .func fn f c) (h : Blk w mb (swCells P T nx fr) 219) (hA : IsArena w ab sb rb P' T') (hne : (P' == P && T' == T) = false) :
    Calls Tryz.prog 243 #[.pointer (some ⟨mb, 0, none⟩), .pointer (some ⟨ab, 0, none⟩)] w fun e w' => e = .returned (.agg #[.int .i64 0, .int .i64 0, .int .u64 0, .int .u64 0]) ∧ Adds w w' := by
  subst hn
  exact (sweepSweepStep_some (Q := fun _ => True) (S := fun _ => False) (fun _ _ _ _ => trivial) (fun _ e => e.elim) (fun w1 ho => (deskStep_other ((h.only ho id).cell 2) ((h.only ho id).cell 0) ((h.only ho id).cell 1) (hA.only ho id) hne).mono (fun _ _ h => ⟨h.1, trivial, h.2⟩))).mono (fun _ _ h => ⟨h.1, h.2.2⟩)
end
theorem pageOk12 (P T p : Int) : Lay.pageOk P T 12 p = (Lay.may P T && decide (0 ≤ p ∧ p < P)) := by
  unfold Lay.pageOk; congr 1; simp
theorem pageOk13 (P T p : Int) : Lay.pageOk P T 13 p = (Lay.may P T && decide (0 ≤ p ∧ p < P)) := by
  unfold Lay.pageOk; congr 1; simp
set_option maxHeartbeats 1000000 in
theorem newSweep_no (P T p : Int) (w : World) (h : (Lay.may P T && decide (0 ≤ p ∧ p < P)) = false) :
    Calls Tryz.prog 153 #[.agg #[.int .i64 P, .int .i64 T], .int .i64 p] w fun e w' => e = .returned (.pointer none) ∧ Adds w w' := by
  have h12 := pageOk12 P T p; have h13 := pageOk13 P T p
  rw [h] at h12 h13
  have H12 := Lib.hid h12; have H13 := Lib.hid h13
  clear h h12 h13
  go_enter Tryz.func153, Tryz.ntmps153
  go_wp2_with (first
    | (go_at_call 53; with_reducible refine (layPage_any P T 13 p _).mono ?_; rintro e w1 ⟨rfl, ho1⟩; rw [atOf_no H13.out]; obtain ⟨x0, x1, ho2⟩ := box2_cells ho1; have HO2 := Lib.hid ho2; clear ho1 ho2; have hlx := cell_lt x0)
    | (go_at_call 53; with_reducible refine (layPage_any P T 12 p _).mono ?_; rintro e w2 ⟨rfl, ho3⟩; rw [atOf_no H12.out]))
  go_ret
  exact ⟨rfl, ((HO2.out.alloc _).thenF ho3).alloc _⟩
set_option maxHeartbeats 2000000 in
theorem newSweep_ok (P T p : Int) (w : World) (h : (Lay.may P T && decide (0 ≤ p ∧ p < P)) = true) :
    Calls Tryz.prog 153 #[.agg #[.int .i64 P, .int .i64 T], .int .i64 p] w fun e w' => ∃ mb, e = .returned (.pointer (some ⟨mb, 0, none⟩)) ∧ Sw1 w' mb P T (Lay.pageAt P T 12 p) (Lay.pageAt P T 13 p) ∧ Adds w w' ∧ w.heap.size ≤ mb := by
  have h12 := pageOk12 P T p; have h13 := pageOk13 P T p
  rw [h] at h12 h13
  have H12 := Lib.hid h12; have H13 := Lib.hid h13
  obtain ⟨al, hal⟩ : ∃ al, al = Lay.pageAt P T 12 p := ⟨_, rfl⟩
  obtain ⟨mk, hmk⟩ : ∃ mk, mk = Lay.pageAt P T 13 p := ⟨_, rfl⟩
  have HAL := Lib.hid hal; have HMK := Lib.hid hmk
  rw [← hal, ← hmk]
  clear h h12 h13 hal hmk
  go_enter Tryz.func153, Tryz.ntmps153
  go_wp2_with (first
    | (go_at_call 53; with_reducible refine (layPage_any P T 13 p _).mono ?_; rintro e w1 ⟨rfl, ho1⟩; rw [atOf_yes H13.out, ← HMK.out]; obtain ⟨x0, x1, ho2⟩ := box2_cells ho1; have HO2 := Lib.hid ho2; clear ho1 ho2; have hlx := cell_lt x0)
    | (go_at_call 53; with_reducible refine (layPage_any P T 12 p _).mono ?_; rintro e w2 ⟨rfl, ho3⟩; rw [atOf_yes H12.out, ← HAL.out]; have y0 := (((Only.refl (fun _ => False) w1).alloc (.cells #[.int .i64 mk] 3)).thenF ho3).cellF (p := ⟨w.heap.size, 0, none⟩) hlx id |>.trans x0; have y1 := (((Only.refl (fun _ => False) w1).alloc (.cells #[.int .i64 mk] 3)).thenF ho3).cellF (p := ⟨w.heap.size, 1, none⟩) hlx id |>.trans x1; have HK := Lib.hid ((Blk.new w1 #[.int .i64 mk] 3).only ho3 id); have HO3 := Lib.hid ((HO2.out.alloc (.cells #[.int .i64 mk] 3)).thenF ho3); clear ho3 x0 x1; have hly := cell_lt y0))
  have hkl := HK.out.lt
  have hB := (((HK.out.alloc (.cells #[.int .i64 al] 3)).alloc (.cells (swCells P T .nilFunc 0) 219)).alloc (.cells #[.pointer (some ⟨w2.heap.size + 1, 0, none⟩)] 190))
  have hA := ((Blk.new w2 #[.int .i64 al] 3).alloc (.cells (swCells P T .nilFunc 0) 219)).alloc (.cells #[.pointer (some ⟨w2.heap.size + 1, 0, none⟩)] 190)
  have hM := (Blk.new (w2.alloc (.cells #[.int .i64 al] 3)) (swCells P T .nilFunc 0) 219).alloc (.cells #[.pointer (some ⟨w2.heap.size + 1, 0, none⟩)] 190)
  have hJ := Blk.new ((w2.alloc (.cells #[.int .i64 al] 3)).alloc (.cells (swCells P T .nilFunc 0) 219)) #[.pointer (some ⟨w2.heap.size + 1, 0, none⟩)] 190
  simp only [World.size_alloc] at hM hJ
  have hO := ((HO3.out.alloc (.cells #[.int .i64 al] 3)).alloc (.cells (swCells P T .nilFunc 0) 219)).alloc (.cells #[.pointer (some ⟨w2.heap.size + 1, 0, none⟩)] 190)
  have hz := HO3.out.size
  obtain ⟨wB, hW⟩ : ∃ wB, wB = ((w2.alloc (.cells #[.int .i64 al] 3)).alloc (.cells (swCells P T .nilFunc 0) 219)).alloc (.cells #[.pointer (some ⟨w2.heap.size + 1, 0, none⟩)] 190) := ⟨_, rfl⟩
  rw [← hW] at hB hA hM hJ hO
  rw [← hW]
  have HB := Lib.hid hB; have HA := Lib.hid hA; have HM := Lib.hid hM; have HJ := Lib.hid hJ; have HO := Lib.hid hO; have HZ := Lib.hid hz
  have c0 := hJ.one; have c1 := hB.one
  clear hB hA hM hJ hO hz hW y0 y1 hkl HK hly hlx
  go_region_held3 (fun W => W.cell? ⟨w2.heap.size + 1 + 1, 0, none⟩ = some (.pointer (some ⟨w2.heap.size + 1, 0, none⟩)) ∧ W.cell? ⟨w1.heap.size, 0, none⟩ = some (.int .i64 mk))
    (first | (exact ⟨c0, c1⟩) | (exact ⟨sw_keep2 HJ.out (by assumption) (HM.out.multi (by simp)), sw_keep2 HB.out (by assumption) (HM.out.multi (by simp))⟩))
    (first | (go_at_call 96; refine (deskLoad_any HM.out.drew (by simp) mk _ _ _).mono ?_; rintro e w3 ⟨rfl, hb3, hc3, ho3⟩; have HC := Lib.hid (And.intro hb3 (And.intro hc3 ho3)); clear hb3 hc3; have j3 := sw_keep2 HJ.out ho3 (HM.out.multi (by simp))))
  clear ho3
  go_wp2
  go_ret
  obtain ⟨b3, c3, o3'⟩ := HC.out
  have o3 := ((Only.refl (fun x => x = w2.heap.size + 1) wB).drew).trans o3'
  have hs : ∀ (q : Nat) (x : Value) (t : TypeId), Blk wB q #[x] t → ¬ q = w2.heap.size + 1 := fun q x t hq => HM.out.multi (by simp) hq
  have hzz := HZ.out
  exact ⟨_, rfl, ⟨_, _, _, _, ⟨HJ.out.only o3 (hs _ _ _ HJ.out), HA.out.only o3 (hs _ _ _ HA.out), HB.out.only o3 (hs _ _ _ HB.out)⟩, by simpa using b3, c3⟩, HO.out.andThen o3 (fun i hi e => by omega), by omega⟩
/-- A sweep that has not begun, or none. -/
def SweepP (w : World) (p : Option Addr) (P T : Int) : Prop := p = none ∨ ∃ mb al mk, p = some ⟨mb, 0, none⟩ ∧ Sw1 w mb P T al mk
section
variable {w w' : World} {p : Option Addr} {P T : Int}
theorem SweepP.adds (h : SweepP w p P T) (ho : Adds w w') : SweepP w' p P T := h.imp id (fun ⟨mb, al, mk, e, h⟩ => ⟨mb, al, mk, e, h.adds ho⟩)
theorem newSweepP (P T q : Int) (w : World) :
    Calls Tryz.prog 153 #[.agg #[.int .i64 P, .int .i64 T], .int .i64 q] w fun e w' => ∃ p, e = .returned (.pointer p) ∧ p.isSome = (Lay.may P T && decide (0 ≤ q ∧ q < P)) ∧ SweepP w' p P T ∧ Adds w w' := by
  cases h : (Lay.may P T && decide (0 ≤ q ∧ q < P))
  · exact (newSweep_no P T q w h).mono (fun _ _ ⟨he, ho⟩ => ⟨none, he, rfl, .inl rfl, ho⟩)
  · exact (newSweep_ok P T q w h).mono (fun _ _ ⟨mb, he, hi, ho, _⟩ => ⟨_, he, rfl, .inr ⟨mb, _, _, rfl, hi⟩, ho⟩)
theorem sweepP_nilA (h : SweepP w p P T) : Calls Tryz.prog 243 #[.pointer p, .pointer none] w fun e w' => e = .returned (.agg #[.int .i64 0, .int .i64 0, .int .u64 0, .int .u64 0]) ∧ Adds w w' := by
  obtain rfl | ⟨mb, al, mk, rfl, h⟩ := h
  · exact sweepSweepStep_nil _ _
  · obtain ⟨nx, fn, f, c, hn, hb⟩ := h.live
    exact sweepStep_nilA hn hb
theorem sweepP_other {ab sb rb : Nat} {P' T' : Int} (h : SweepP w p P T) (hA : IsArena w ab sb rb P' T') (hne : (P' == P && T' == T) = false) :
    Calls Tryz.prog 243 #[.pointer p, .pointer (some ⟨ab, 0, none⟩)] w fun e w' => e = .returned (.agg #[.int .i64 0, .int .i64 0, .int .u64 0, .int .u64 0]) ∧ Adds w w' := by
  obtain rfl | ⟨mb, al, mk, rfl, h⟩ := h
  · exact sweepSweepStep_nil _ _
  · obtain ⟨nx, fn, f, c, hn, hb⟩ := h.live
    exact sweepStep_other hn hb hA hne
theorem sweepP_done (h : SweepP w p P T) : Calls Tryz.prog 242 #[.pointer p] w fun e w' => e = .returned (.bool false) ∧ w = w' := by
  obtain rfl | ⟨mb, al, mk, rfl, h⟩ := h
  · exact sweepSweepDone_nil _
  · obtain ⟨nx, fn, f, c, hn, hb⟩ := h.live
    subst hn
    exact sweepSweepDone_no (hb.cell 2)
theorem sweep_nonnil (p : Option Addr) (W : World) : Sem.run Tryz.prog (binOp .neq 190 (.pointer p) (.pointer none)) W = .ok (.bool p.isSome) W := by cases p <;> kernel_rfl
end
end Go.Proofs.YtmnliddjddpchaaGreat

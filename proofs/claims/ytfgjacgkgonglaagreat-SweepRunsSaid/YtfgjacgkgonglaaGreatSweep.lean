/- Package sweep: a sweep, step by step. By an AI agent. -/
import Derived.Test.YtfgjacgkgonglaaGreatActLoad
import Derived.Test.YtfgjacgkgonglaaGreatActPut
import Derived.Test.YtfgjacgkgonglaaGreatMach
namespace Go.Proofs.YtfgjacgkgonglaaGreat
open Go.RowKit
abbrev andU (a b : Int) : Int := bits BinOp.and .u64 a b
abbrev clrU (a b : Int) : Int := bits BinOp.andNot .u64 a b
/-- What all steps of a sweep see: its block, where its words are. -/
structure SwBox (w : World) (mb jm ja jk : Nat) (al mk : Int) : Prop where
  m : Blk w jm #[.pointer (some ⟨mb, 0, none⟩)] 31
  a : Blk w ja #[.int .i64 al] 3
  k : Blk w jk #[.int .i64 mk] 3
abbrev swCells (P T : Int) (nx : Value) (fr : Int) : Array Value := #[.int .i64 P, .int .i64 T, nx, .int .u64 fr]
theorem SwBox.only {S : Nat → Prop} {w w' : World} {mb jm ja jk : Nat} {al mk : Int} (h : SwBox w mb jm ja jk al mk) (ho : Only S w w') (hs : ∀ b x t, Blk w b #[x] t → ¬ S b) : SwBox w' mb jm ja jk al mk :=
  ⟨h.m.only ho (hs _ _ _ h.m), h.a.only ho (hs _ _ _ h.a), h.k.only ho (hs _ _ _ h.k)⟩
theorem SwBox.dids {w w' : World} {mb jm ja jk : Nat} {al mk : Int} (h : SwBox w mb jm ja jk al mk) (ho : Only (Dids w) w w') : SwBox w' mb jm ja jk al mk :=
  ⟨h.m.dids ho (by decide), h.a.dids ho (by decide), h.k.dids ho (by decide)⟩
def Sw1 (w : World) (mb : Nat) (P T al mk : Int) : Prop := ∃ n jm ja jk, SwBox w mb jm ja jk al mk ∧ Blk w mb (swCells P T (loadF n) 0) 126 ∧ HasLoad w n mk (.func (.func 67) #[] #[.pointer (some ⟨jm, 0, none⟩), .pointer (some ⟨ja, 0, none⟩), .pointer (some ⟨jk, 0, none⟩)])
theorem Sw1.only {S : Nat → Prop} {w w' : World} {mb : Nat} {P T al mk : Int} (h : Sw1 w mb P T al mk) (ho : Only S w w') (hm : ¬ S mb) (hs : ∀ b x t, Blk w b #[x] t → ¬ S b) : Sw1 w' mb P T al mk := by
  obtain ⟨n, jm, ja, jk, h0, h1, h2⟩ := h
  exact ⟨n, jm, ja, jk, h0.only ho hs, h1.only ho hm, ⟨h2.b0.only ho (hs _ _ _ h2.b0), h2.b1.only ho (hs _ _ _ h2.b1)⟩⟩
theorem Sw1.adds {w w' : World} {mb : Nat} {P T al mk : Int} (h : Sw1 w mb P T al mk) (ho : Adds w w') : Sw1 w' mb P T al mk := h.only ho id (fun _ _ _ _ => id)
theorem Sw1.stays (mb : Nat) (P T al mk : Int) : Stays (fun w => Sw1 w mb P T al mk) := fun _ _ ho => by
  rintro ⟨n, jm, ja, jk, h0, h1, h2⟩
  exact ⟨n, jm, ja, jk, h0.dids ho, h1.dids ho (by decide), h2.dids ho⟩
theorem Sw1.live {w : World} {mb : Nat} {P T al mk : Int} (h : Sw1 w mb P T al mk) : ∃ nx fn f c, nx = Value.func fn f c ∧ Blk w mb (swCells P T nx 0) 126 := by
  obtain ⟨n, jm, ja, jk, h0, h1, h2⟩ := h
  exact ⟨_, _, _, _, rfl, h1⟩
def Sw2 (w : World) (mb : Nat) (P T al mk b : Int) : Prop := ∃ n jm ja jk jb, SwBox w mb jm ja jk al mk ∧ Blk w jb #[.int .u64 b] 43 ∧ Blk w mb (swCells P T (loadF n) 0) 126 ∧ HasLoad w n al (.func (.func 68) #[] #[.pointer (some ⟨jm, 0, none⟩), .pointer (some ⟨ja, 0, none⟩), .pointer (some ⟨jb, 0, none⟩), .pointer (some ⟨jk, 0, none⟩)])
theorem Sw2.only {S : Nat → Prop} {w w' : World} {mb : Nat} {P T al mk b : Int} (h : Sw2 w mb P T al mk b) (ho : Only S w w') (hm : ¬ S mb) (hs : ∀ b x t, Blk w b #[x] t → ¬ S b) : Sw2 w' mb P T al mk b := by
  obtain ⟨n, jm, ja, jk, jb, h0, h1, h2, h3⟩ := h
  exact ⟨n, jm, ja, jk, jb, h0.only ho hs, h1.only ho (hs _ _ _ h1), h2.only ho hm, ⟨h3.b0.only ho (hs _ _ _ h3.b0), h3.b1.only ho (hs _ _ _ h3.b1)⟩⟩
theorem Sw2.adds {w w' : World} {mb : Nat} {P T al mk b : Int} (h : Sw2 w mb P T al mk b) (ho : Adds w w') : Sw2 w' mb P T al mk b := h.only ho id (fun _ _ _ _ => id)
theorem Sw2.stays (mb : Nat) (P T al mk b : Int) : Stays (fun w => Sw2 w mb P T al mk b) := fun _ _ ho => by
  rintro ⟨n, jm, ja, jk, jb, h0, h1, h2, h3⟩
  exact ⟨n, jm, ja, jk, jb, h0.dids ho, h1.dids ho (by decide), h2.dids ho (by decide), h3.dids ho⟩
theorem Sw2.live {w : World} {mb : Nat} {P T al mk b : Int} (h : Sw2 w mb P T al mk b) : ∃ nx fn f c, nx = Value.func fn f c ∧ Blk w mb (swCells P T nx 0) 126 := by
  obtain ⟨n, jm, ja, jk, jb, h0, h1, h2, h3⟩ := h
  exact ⟨_, _, _, _, rfl, h2⟩
def Sw3 (w : World) (mb : Nat) (P T al mk b a : Int) : Prop := ∃ n jm ja jk jb jx, SwBox w mb jm ja jk al mk ∧ Blk w jb #[.int .u64 b] 43 ∧ Blk w jx #[.int .u64 a] 43 ∧ Blk w mb (swCells P T (putF n) 0) 126 ∧ HasPut w n al (andU a b) (.func (.func 70) #[] #[.pointer (some ⟨jx, 0, none⟩), .pointer (some ⟨jb, 0, none⟩), .pointer (some ⟨jm, 0, none⟩), .pointer (some ⟨jk, 0, none⟩)])
theorem Sw3.only {S : Nat → Prop} {w w' : World} {mb : Nat} {P T al mk b a : Int} (h : Sw3 w mb P T al mk b a) (ho : Only S w w') (hm : ¬ S mb) (hs : ∀ b x t, Blk w b #[x] t → ¬ S b) : Sw3 w' mb P T al mk b a := by
  obtain ⟨n, jm, ja, jk, jb, jx, h0, h1, h2, h3, h4⟩ := h
  exact ⟨n, jm, ja, jk, jb, jx, h0.only ho hs, h1.only ho (hs _ _ _ h1), h2.only ho (hs _ _ _ h2), h3.only ho hm, ⟨h4.b0.only ho (hs _ _ _ h4.b0), h4.b1.only ho (hs _ _ _ h4.b1), h4.b2.only ho (hs _ _ _ h4.b2)⟩⟩
theorem Sw3.adds {w w' : World} {mb : Nat} {P T al mk b a : Int} (h : Sw3 w mb P T al mk b a) (ho : Adds w w') : Sw3 w' mb P T al mk b a := h.only ho id (fun _ _ _ _ => id)
theorem Sw3.stays (mb : Nat) (P T al mk b a : Int) : Stays (fun w => Sw3 w mb P T al mk b a) := fun _ _ ho => by
  rintro ⟨n, jm, ja, jk, jb, jx, h0, h1, h2, h3, h4⟩
  exact ⟨n, jm, ja, jk, jb, jx, h0.dids ho, h1.dids ho (by decide), h2.dids ho (by decide), h3.dids ho (by decide), h4.dids ho⟩
theorem Sw3.live {w : World} {mb : Nat} {P T al mk b a : Int} (h : Sw3 w mb P T al mk b a) : ∃ nx fn f c, nx = Value.func fn f c ∧ Blk w mb (swCells P T nx 0) 126 := by
  obtain ⟨n, jm, ja, jk, jb, jx, h0, h1, h2, h3, h4⟩ := h
  exact ⟨_, _, _, _, rfl, h3⟩
def Sw4 (w : World) (mb : Nat) (P T mk b a : Int) : Prop := ∃ n, Blk w mb (swCells P T (putF n) (clrU a b)) 126 ∧ HasPut w n mk 0 (.func (.func 71) #[.pointer (some ⟨mb, 0, none⟩)] #[])
theorem Sw4.only {S : Nat → Prop} {w w' : World} {mb : Nat} {P T mk b a : Int} (h : Sw4 w mb P T mk b a) (ho : Only S w w') (hm : ¬ S mb) (hs : ∀ b x t, Blk w b #[x] t → ¬ S b) : Sw4 w' mb P T mk b a := by
  obtain ⟨n, h0, h1⟩ := h
  exact ⟨n, h0.only ho hm, ⟨h1.b0.only ho (hs _ _ _ h1.b0), h1.b1.only ho (hs _ _ _ h1.b1), h1.b2.only ho (hs _ _ _ h1.b2)⟩⟩
theorem Sw4.adds {w w' : World} {mb : Nat} {P T mk b a : Int} (h : Sw4 w mb P T mk b a) (ho : Adds w w') : Sw4 w' mb P T mk b a := h.only ho id (fun _ _ _ _ => id)
theorem Sw4.stays (mb : Nat) (P T mk b a : Int) : Stays (fun w => Sw4 w mb P T mk b a) := fun _ _ ho => by
  rintro ⟨n, h0, h1⟩
  exact ⟨n, h0.dids ho (by decide), h1.dids ho⟩
theorem Sw4.live {w : World} {mb : Nat} {P T mk b a : Int} (h : Sw4 w mb P T mk b a) : ∃ nx fn f c, nx = Value.func fn f c ∧ Blk w mb (swCells P T nx (clrU a b)) 126 := by
  obtain ⟨n, h0, h1⟩ := h
  exact ⟨_, _, _, _, rfl, h0⟩
theorem Blk.multi {w : World} {m b : Nat} {c : Array Value} {x : Value} {t u : TypeId} (h : Blk w m c t) (hc : c.size ≠ 1) (hb : Blk w b #[x] u) : ¬ b = m := by
  rintro rfl
  exact hc (by rw [← (hb.uniq h).1]; rfl)
theorem sw_keep2 {w W w' : World} {m b : Nat} {x : Value} {t : TypeId} (h : Blk w b #[x] t) (ho : Only (fun j => j = m) W w') (hne : Blk w b #[x] t → ¬ b = m) (hW : W = w.drew := by rfl) : w'.cell? ⟨b, 0, none⟩ = some x := by
  subst hW
  exact (Blk.only (w := w.drew) h ho (hne h)).one
section
variable {w : World} {mb jm ja jk jb jx : Nat} {P T al mk a b : Int} {nx : Value}
set_option maxHeartbeats 2000000 in
theorem sw_one (hB : SwBox w mb jm ja jk al mk) (h : Blk w mb (swCells P T nx 0) 126) :
    Calls Tryz.prog 67 #[.int .u64 b, .pointer (some ⟨jm, 0, none⟩), .pointer (some ⟨ja, 0, none⟩), .pointer (some ⟨jk, 0, none⟩)] w fun e w' => e = .returned (.tuple #[]) ∧ Sw2 w' mb P T al mk b ∧ Only (· = mb) w w' := by
  obtain ⟨wB, hW⟩ : ∃ wB, wB = w.alloc (.cells #[.int .u64 b] 43) := ⟨_, rfl⟩
  have hA : Hid (Adds w wB) := by rw [hW]; exact Lib.hid ((Only.refl _ _).alloc _)
  have HB := Lib.hid (hB.only hA.out (fun _ _ _ _ => id)); have HM := Lib.hid (h.only hA.out id)
  have HX : Hid (Blk wB w.heap.size #[.int .u64 b] 43) := by rw [hW]; exact Lib.hid (Blk.new w _ _)
  have c0 := HB.out.m.one; have c1 := HB.out.a.one
  have HW := Lib.hid hW
  clear hB h
  go_enter Tryz.func67, Tryz.ntmps67
  go_wp2
  rw [← HW.out]
  clear hW
  go_region_held3 (fun W => W.cell? ⟨jm, 0, none⟩ = some (.pointer (some ⟨mb, 0, none⟩)) ∧ W.cell? ⟨ja, 0, none⟩ = some (.int .i64 al))
    (first | (exact ⟨c0, c1⟩) | (exact ⟨sw_keep2 HB.out.m (by assumption) (HM.out.multi (by simp)), sw_keep2 HB.out.a (by assumption) (HM.out.multi (by simp))⟩))
    (first | (go_at_call 66; refine (deskLoad_any HM.out.drew (by simp) al _ _ _).mono ?_; rintro e w3 ⟨rfl, hb3, hc3, ho3⟩; have HC := Lib.hid (And.intro hb3 (And.intro hc3 ho3)); clear hb3 hc3))
  clear ho3
  go_wp2
  go_end0
  obtain ⟨b3, c3, o3'⟩ := HC.out
  have o3 := ((Only.refl (fun x => x = mb) wB).drew).trans o3'
  have hs : ∀ (q : Nat) (x : Value) (t : TypeId), Blk wB q #[x] t → ¬ q = mb := fun q x t hq => HM.out.multi (by simp) hq
  exact ⟨rfl, ⟨_, jm, ja, jk, w.heap.size, HB.out.only o3 hs, HX.out.only o3 (hs _ _ _ HX.out), by simpa using b3, c3⟩, (hA.out.mono (fun _ _ e => e.elim)).trans o3⟩
set_option maxHeartbeats 2000000 in
theorem sw_two (hB : SwBox w mb jm ja jk al mk) (hb : Blk w jb #[.int .u64 b] 43) (h : Blk w mb (swCells P T nx 0) 126) :
    Calls Tryz.prog 68 #[.int .u64 a, .pointer (some ⟨jm, 0, none⟩), .pointer (some ⟨ja, 0, none⟩), .pointer (some ⟨jb, 0, none⟩), .pointer (some ⟨jk, 0, none⟩)] w fun e w' => e = .returned (.tuple #[]) ∧ Sw3 w' mb P T al mk b a ∧ Only (· = mb) w w' := by
  obtain ⟨wB, hW⟩ : ∃ wB, wB = w.alloc (.cells #[.int .u64 a] 43) := ⟨_, rfl⟩
  have hA : Hid (Adds w wB) := by rw [hW]; exact Lib.hid ((Only.refl _ _).alloc _)
  have HB := Lib.hid (hB.only hA.out (fun _ _ _ _ => id)); have HM := Lib.hid (h.only hA.out id); have HJ := Lib.hid (hb.only hA.out id)
  have HX : Hid (Blk wB w.heap.size #[.int .u64 a] 43) := by rw [hW]; exact Lib.hid (Blk.new w _ _)
  have c0 := HB.out.m.one; have c1 := HB.out.a.one; have c2 := HJ.out.one; have c3 := HX.out.one
  have HW := Lib.hid hW
  clear hB h hb
  go_enter Tryz.func68, Tryz.ntmps68
  go_wp2
  rw [← HW.out]
  clear hW
  go_region_held3 (fun W => W.cell? ⟨jm, 0, none⟩ = some (.pointer (some ⟨mb, 0, none⟩)) ∧ W.cell? ⟨ja, 0, none⟩ = some (.int .i64 al) ∧ W.cell? ⟨jb, 0, none⟩ = some (.int .u64 b) ∧ W.cell? ⟨w.heap.size, 0, none⟩ = some (.int .u64 a))
    (first | (exact ⟨c0, c1, c2, c3⟩) | (exact ⟨sw_keep2 HB.out.m (by assumption) (HM.out.multi (by simp)), sw_keep2 HB.out.a (by assumption) (HM.out.multi (by simp)), sw_keep2 HJ.out (by assumption) (HM.out.multi (by simp)), sw_keep2 HX.out (by assumption) (HM.out.multi (by simp))⟩))
    (first | (go_at_call 69; refine (deskPut_any HM.out.drew (by simp) al _ _ _ _).mono ?_; rintro e w3 ⟨rfl, hb3, hc3, ho3⟩; have HC := Lib.hid (And.intro hb3 (And.intro hc3 ho3)); clear hb3 hc3))
  clear ho3
  go_wp2
  go_end0
  obtain ⟨b3, c3, o3'⟩ := HC.out
  have o3 := ((Only.refl (fun x => x = mb) wB).drew).trans o3'
  have hs : ∀ (q : Nat) (x : Value) (t : TypeId), Blk wB q #[x] t → ¬ q = mb := fun q x t hq => HM.out.multi (by simp) hq
  exact ⟨rfl, ⟨_, jm, ja, jk, jb, w.heap.size, HB.out.only o3 hs, HJ.out.only o3 (hs _ _ _ HJ.out), HX.out.only o3 (hs _ _ _ HX.out), by simpa using b3, c3⟩, (hA.out.mono (fun _ _ e => e.elim)).trans o3⟩
set_option maxHeartbeats 2000000 in
theorem sw_three (hB : SwBox w mb jm ja jk al mk) (hb : Blk w jb #[.int .u64 b] 43) (hx : Blk w jx #[.int .u64 a] 43) (h : Blk w mb (swCells P T nx 0) 126) :
    Calls Tryz.prog 70 #[.pointer (some ⟨jx, 0, none⟩), .pointer (some ⟨jb, 0, none⟩), .pointer (some ⟨jm, 0, none⟩), .pointer (some ⟨jk, 0, none⟩)] w fun e w' => e = .returned (.tuple #[]) ∧ Sw4 w' mb P T mk b a ∧ Only (· = mb) w w' := by
  have q0 := hB.m.one; have q1 := hB.k.one; have q2 := hb.one; have q3 := hx.one
  have m3 : w.cell? ⟨mb, 3, none⟩ = some (.int .u64 0) := h.cell 3
  have f3 := h.frozen 3
  have hs : ∀ (q : Nat) (x : Value) (t : TypeId), Blk w q #[x] t → ¬ q = mb := fun q x t hq => h.multi (by simp) hq
  obtain ⟨wB, hW⟩ : ∃ wB, wB = w.setCell ⟨mb, 3, none⟩ (.int .u64 (clrU a b)) := ⟨_, rfl⟩
  have hA : Hid (Only (· = mb) w wB) := by rw [hW]; exact Lib.hid ((Only.refl (fun x => x = mb) _).setCell (.inl rfl) _)
  have HB := Lib.hid (hB.only hA.out hs)
  have HM : Hid (Blk wB mb (swCells P T nx (clrU a b)) 126) := by rw [hW]; exact Lib.hid (h.setCell 3 _)
  have c0 := HB.out.m.one; have c1 := HB.out.k.one
  have HW := Lib.hid hW
  clear hB h hb hx hs
  go_enter Tryz.func70, Tryz.ntmps70
  go_wp2
  rw [← HW.out]
  clear hW q0 q1 q2 q3 m3 f3
  go_region_held3 (fun W => W.cell? ⟨jm, 0, none⟩ = some (.pointer (some ⟨mb, 0, none⟩)) ∧ W.cell? ⟨jk, 0, none⟩ = some (.int .i64 mk))
    (first | (exact ⟨c0, c1⟩) | (exact ⟨sw_keep2 HB.out.m (by assumption) (HM.out.multi (by simp)), sw_keep2 HB.out.k (by assumption) (HM.out.multi (by simp))⟩))
    (first | (go_at_call 69; refine (deskPut_any HM.out.drew (by simp) mk 0 _ _ _).mono ?_; rintro e w3 ⟨rfl, hb3, hc3, ho3⟩; have HC := Lib.hid (And.intro hb3 (And.intro hc3 ho3)); clear hb3 hc3))
  clear ho3
  go_wp2
  go_end0
  obtain ⟨b3, c3, o3'⟩ := HC.out
  have o3 := ((Only.refl (fun x => x = mb) wB).drew).trans o3'
  exact ⟨rfl, ⟨_, by simpa using b3, c3⟩, hA.out.trans o3⟩
end
end Go.Proofs.YtfgjacgkgonglaaGreat

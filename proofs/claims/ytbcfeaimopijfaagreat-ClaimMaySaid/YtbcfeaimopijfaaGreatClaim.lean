/- Package claim: NewClaim; one that has not begun. By an AI agent. -/
import Derived.Test.YtbcfeaimopijfaaGreatActRun
import Derived.Test.YtbcfeaimopijfaaGreatStack2
import Derived.Test.YtbcfeaimopijfaaGreatPhase
import Derived.Deep.RegionWith
import Derived.Deep.DeepCutAuto
import Derived.Deep.CutBlock
namespace Go.Proofs.YtbcfeaimopijfaaGreat
open Go.RowKit
/-- A claim's cells. -/
abbrev clC (P T hd gen st tk pgv held hand : Int) : Value → Array Value := fun nx => #[.int .i64 P, .int .i64 T, nx, .int .i64 hd, .int .i64 gen, .int .i64 st, .int .i64 tk, .int .i64 pgv, .int .u64 held, .int .u64 hand]
abbrev clPop (bp bm : Nat) : Value := .func (.func 51) #[] #[.pointer (some ⟨bp, 0, none⟩), .pointer (some ⟨bm, 0, none⟩)]
abbrev popI (pb : Nat) : Value := .iface 102 (.pointer (some ⟨pb, 0, none⟩))
/-- A claim that has a pop next. -/
structure ClPop (w : World) (mb pb : Nat) (c : Value → Array Value) (n bp bm : Nat) : Prop where
  m : Blk w mb (c (runF n)) 74
  r : HasRun w n (popI pb) (clPop bp bm)
  p : Blk w bp #[.pointer (some ⟨pb, 0, none⟩)] 102
  b : Blk w bm #[.pointer (some ⟨mb, 0, none⟩)] 24
section
variable {w w' : World} {mb pb n bp bm : Nat} {c : Value → Array Value} {P T hd gen st tk pgv held hand : Int} {nx : Value}
theorem ClPop.adds (h : ClPop w mb pb c n bp bm) (ho : Adds w w') : ClPop w' mb pb c n bp bm :=
  ⟨h.m.only ho id, h.r.adds ho, h.p.only ho id, h.b.only ho id⟩
theorem Pop1.apart {b : Nat} {c : Array Value} {t : TypeId} (h : Pop1 w pb P T hd st tk) (hb : Blk w b c t) (ht : t ≠ 127 ∧ t ≠ 3 ∧ t ≠ 129) (ho : Only (· = b) w w') : Pop1 w' pb P T hd st tk := by
  obtain ⟨m, h1, h2⟩ := h
  have key : ∀ {B : Nat} {c : Array Value} {u : TypeId}, Blk w B c u → t ≠ u → ¬ B = b := fun hB ht e => by subst e; exact ht (hB.uniq hb).2.symm
  exact ⟨m, h1.only ho (key h1 ht.1), h2.b0.only ho (key h2.b0 ht.2.1), h2.b1.only ho (key h2.b1 ht.2.2)⟩
set_option maxRecDepth 100000 in
set_option maxHeartbeats 2000000 in
theorem claimPop_any (h : Blk w mb (clC P T hd gen st tk pgv held hand nx) 74) (hh : Lay.isHead P T hd = true) :
    Calls Tryz.prog 27 #[.pointer (some ⟨mb, 0, none⟩)] w fun e w' => e = .returned (.tuple #[]) ∧ (∃ pb n bp bm, ClPop w' mb pb (clC P T hd gen st tk pgv held hand) n bp bm ∧ Pop1 w' pb P T hd 0 (-1) ∧ w.heap.size ≤ pb) ∧ Only (· = mb) w w' := by
  have hl := h.lt
  obtain ⟨wM, hM⟩ : ∃ wM, wM = w.alloc (.cells #[.pointer (some ⟨mb, 0, none⟩)] 24) := ⟨_, rfl⟩
  have hB : Blk wM mb (clC P T hd gen st tk pgv held hand nx) 74 := by rw [hM]; exact h.alloc _
  have hBM : Blk wM w.heap.size #[.pointer (some ⟨mb, 0, none⟩)] 24 := by rw [hM]; exact Blk.new _ _ _
  have hA : Adds w wM := by rw [hM]; exact (Only.refl _ _).alloc _
  have c0 := hB.cell 0; have c1 := hB.cell 1; have c3 := hB.cell 3
  have k0 := hBM.one
  have lM := hBM.lt; have lB := hB.lt
  have HB := Lib.hid hB; have HBM := Lib.hid hBM; have HA := Lib.hid hA; have HM := Lib.hid hM; have HH := Lib.hid hh
  clear h hB hBM hA hM hh
  go_enter Tryz.func27, Tryz.ntmps27
  go_upto_region 1 with fail
  rw [← HM.out]
  go_cut [2, 12] (fun q v wx => ∃ b pb, q = .pointer (some ⟨b, 0, none⟩) ∧ v = .pointer (some ⟨pb, 0, none⟩) ∧ Blk wx b #[.pointer (some ⟨pb, 0, none⟩)] 102 ∧ Pop1 wx pb P T hd 0 (-1) ∧ Adds wM wx ∧ wM.heap.size ≤ pb)
  case first =>
   go_wp2_with fail
   go_region_with ((first
    | (go_at_call 49; with_reducible refine (newPop_ok P T hd wM HH.out).mono ?_; rintro e w1 ⟨pb, rfl, hm, ho, hlow⟩; have HP1 := Lib.hid hm; have HO1 := Lib.hid ho; have HL1 : Hid (wM.heap.size ≤ pb) := Lib.hid (by (try simp only [World.size_drew, World.size_alloc] at hlow); omega); clear hm ho hlow)
    | (go_at_call 49; with_reducible refine (newPop_ok P T hd wM.drew HH.out).mono ?_; rintro e w1 ⟨pb, rfl, hm, ho, hlow⟩; have HP1 := Lib.hid hm; have HO1 := Lib.hid ho; have HL1 : Hid (wM.heap.size ≤ pb) := Lib.hid (by (try simp only [World.size_drew, World.size_alloc] at hlow); omega); clear hm ho hlow)
    | (go_at_call 49; with_reducible refine (newPop_ok P T hd ((wM.alloc (.cells #[.pointer none] 102)).drew) HH.out).mono ?_; rintro e w1 ⟨pb, rfl, hm, ho, hlow⟩; have HP1 := Lib.hid hm; have HO1 := Lib.hid ho; have HL1 : Hid (wM.heap.size ≤ pb) := Lib.hid (by (try simp only [World.size_drew, World.size_alloc] at hlow); omega); have bn := (Blk.new wM #[.pointer none] 102).only (((Only.refl (fun _ => False) _).drew).thenF ho) id; have fb := bn.frozen 0; have cb := bn.one; have lb := bn.lt; have HBN := Lib.hid bn; clear bn; clear hm ho hlow)))
   all_goals (
     go_wp2_with fail
     go_meet
     first
     | exact ⟨_, _, rfl, rfl, HBN.out.setCell 0 _, HP1.out.apart HBN.out (by decide) ((Only.refl (· = wM.heap.size) w1).setCell (p := ⟨wM.heap.size, 0, none⟩) (.inl rfl) _), (((Only.refl (fun _ => False) _).alloc _).drew.thenF HO1.out).setCell (.inr (Nat.le_refl _)) _, HL1.out⟩
     | exact ⟨_, _, rfl, rfl, Blk.new w1 _ _, Desk.adds HP1.out ((Only.refl (fun _ => False) w1).alloc _), (((Only.refl (fun _ => False) _).drew).thenF HO1.out).alloc _, HL1.out⟩
     | exact ⟨_, _, rfl, rfl, Blk.new w1 _ _, Desk.adds HP1.out ((Only.refl (fun _ => False) w1).alloc _), HO1.out.alloc _, HL1.out⟩)
  case rest =>
    obtain ⟨b, pb, rfl, rfl, hb, hp, ho, hpl⟩ := hcut
    have p0 := hb.one
    have m0 := (HBM.out.only ho id).one
    have HB2 := Lib.hid (HB.out.only ho id); have HBM2 := Lib.hid (HBM.out.only ho id); have HBB := Lib.hid hb; have HP := Lib.hid hp; have HO := Lib.hid ho
    clear hb hp ho c0 c1 c3 k0
    go_wp2_with fail
    go_region_with ((first
    | (go_at_call 50; refine (deskRun_any (c := clC P T hd gen st tk pgv held hand nx) (HB2.out.only ((Only.refl (fun _ => False) _).drew) id) (by simp) _ _ _ _ _).mono ?_; rintro e w2 ⟨rfl, hm, hr, ho2⟩)))
    all_goals (
      go_end0
      have ho3 := ((Only.refl (· = mb) wc).drew).trans ho2
      exact ⟨rfl, ⟨pb, _, b, w.heap.size, ⟨hm, hr, HBB.out.only ho3 (fun e => by subst e; exact absurd (HBB.out.uniq HB2.out).2 (by decide)), HBM2.out.only ho3 (fun e => by subst e; exact absurd (HBM2.out.uniq HB2.out).2 (by decide))⟩, HP.out.apart HB2.out (by decide) ho3, by omega⟩, ((HA.out.thenF HO.out).mono (T := (· = mb)) (fun _ _ e => e.elim)).trans ho3⟩)
end
end Go.Proofs.YtbcfeaimopijfaaGreat

/- StackRuns: a step of a thread. By an AI agent. -/
import Derived.Test.YthhnpcniijpfeaaGreatZI
import Derived.Test.YthhnpcniijpfeaaGreatZStackList
import Derived.Deep.DeepCutAuto
namespace Go.Proofs.YthhnpcniijpfeaaGreat
open Go.RowKit
set_option linter.unusedSimpArgs false
set_option linter.unusedVariables false
/-- What every lane has. -/
def AllM (P T : Int) (i : Nat) (L : List (Option SkL)) : Prop := ∀ (j : Nat) (y : SkL), L[j]? = some (some y) → SkM y.x P T i y.k ∧ SkOk P y.k
theorem AllM.mono {P T : Int} {i : Nat} {L : List (Option SkL)} (h : AllM P T i L) : AllM P T (i + 1) L := fun j y e => ⟨(h j y e).1.mono, (h j y e).2⟩
/-- Boxes of results are kept. -/
def DidsK (a b : World) : Prop := ∀ r cc, Blk a r cc 50 → Blk b r cc 50
/-- What a pick leaves. -/
def PickQ (w wr : World) (ab sb sm rb rg bb tb tm ub fb gb hvb mb onb pub n : Nat) (P T : Int) (c i : Nat) (e : Ending) (w' : World) : Prop :=
  DidsK wr w' ∧ ∃ ka kp ko kw : Int, e = .returned (.tuple #[.agg #[.int .i64 ka, .int .i64 kp, .int .u64 ko, .int .u64 kw], .bool true]) ∧ ∃ (s s' : StoreS) (L : List (Option SkL)) (Hv Mc : Nat → Value) (On Pu : Nat → Bool), GH w ab sb sm rb rg bb tb tm ub fb gb hvb mb onb pub n P T c w' s s' L Hv Mc On Pu ∧ Lnk n L Mc On Pu ∧ AllM P T i L ∧ StkOk P T s ∧ s.ws = s'.ws
section
variable {w wr : World} {ab sb sm rb rg bb tb tm ub fb gb hvb mb onb pub n c i t : Nat} {P T k : Int} {s s' : StoreS} {L : List (Option SkL)} {Hv Mc : Nat → Value} {On Pu : Nat → Bool}
theorem begin_any (h : GH w ab sb sm rb rg bb tb tm ub fb gb hvb mb onb pub n P T c wr s s' L Hv Mc On Pu) (hl : Lnk n L Mc On Pu) (ht : t < n) (hm : Lay.may P T = true) (hk : 0 ≤ k ∧ k < 256) (hn : n ≤ 4096) (hc : c ≤ 100000) :
    Calls Tryz.prog 8 #[.pointer (some ⟨gb, 0, none⟩), .int .i64 (t : Int), .int .i64 k] wr (BegQ w ab sb sm rb rg bb tb tm ub fb gb hvb mb onb pub n P T c wr s s' L Hv t) := by
  by_cases h1 : k % 2 = 0
  · by_cases h2 : ∃ a m cap, Hv t = .slice a m cap ∧ 0 < m
    · exact begin_push h hl ht hm hk hn hc h1 h2
    · exact begin_pop h hl ht hm hk hn hc (fun e => h2 e.2)
  · exact begin_pop h hl ht hm hk hn hc (fun e => h1 e.1)
theorem sk_got {P gt : Int} {b : Bool} {k : SkS} (h : SkOk P k) (hb : k.over = b) (hg : k.got = gt) : gt < P ∨ gt = -1 := by
  rcases k with ⟨hd, k | p⟩ | ⟨hd, pg, k | p⟩
  · exact .inr hg.symm
  · exact .inl (by rw [← hg]; exact h.2)
  · exact .inr hg.symm
  · exact .inr hg.symm
theorem Lnk.step (h : Lnk n L Mc On Pu) {z z2 : SkL} (hz : L[t]? = some (some z)) (ha : z2.a = z.a) (hb : z2.b = z.b) (hp : z2.k.isPush = z.k.isPush) : Lnk n (L.set t (some z2)) Mc On Pu := by
  refine ⟨fun j y e => ?_, fun j e => ?_⟩
  · rcases set_cases e with ⟨rfl, e2⟩ | ⟨hj, e2⟩
    · injection e2 with e2; subst e2
      have h1 := h.live j z hz
      rw [ha, hb, hp]; exact h1
    · exact h.live j y e2
  · rw [List.getElem?_set] at e
    by_cases hj : t = j
    · rw [if_pos hj] at e; split at e <;> simp at e
    · rw [if_neg hj] at e; exact h.idle j e
theorem Lnk.drop (h : Lnk n L Mc On Pu) (t : Nat) : Lnk n (L.set t none) Mc (upd On t false) Pu := by
  refine ⟨fun j y e => ?_, fun j e => ?_⟩
  · rcases set_cases e with ⟨_, e2⟩ | ⟨hj, e2⟩
    · cases e2
    · rw [upd_ne _ hj]; exact h.live j y e2
  · by_cases hj : j = t
    · subst hj; exact upd_at _ _ _
    · rw [List.getElem?_set, if_neg (Ne.symm hj)] at e
      rw [upd_ne _ hj]; exact h.idle j e
theorem AllM.drop {P T : Int} {i : Nat} {L : List (Option SkL)} (h : AllM P T i L) (t : Nat) : AllM P T i (L.set t none) := fun j y e => by
  rcases set_cases e with ⟨_, e2⟩ | ⟨_, e2⟩
  · cases e2
  · exact h j y e2
/-- A box of the caller's is turned. -/
theorem GH.did {r : Nat} {cr : Array Value} {w' : World} (h : GH w ab sb sm rb rg bb tb tm ub fb gb hvb mb onb pub n P T c wr s s' L Hv Mc On Pu) (hr : Blk wr r cr 50) (hlow : w.heap.size ≤ r) (ho : Only (· = r) wr w') : GH w ab sb sm rb rg bb tb tm ub fb gb hvb mb onb pub n P T c w' s s' L Hv Mc On Pu :=
  ⟨h.sc.rowK (ty := skTy) hr (by unfold RowOk; decide) (by unfold BT; decide) (fun t z e => (h.sc.lanes.A t z e).rowT hr (by decide) ho) hlow ho, h.ll, h.game.rowT hr (by decide) ho, h.hv.rowT hr (by decide) ho, h.mm.rowT hr (by decide) ho, h.on.rowT hr (by decide) ho, h.pu.rowT hr (by decide) ho, h.ne, h.low, fun j hj => (h.hands j hj).keep hr (by decide) ho⟩
theorem did4 (W : World) (r : Nat) (a b d e : Value) : Only (· = r) W ((((W.setCell ⟨r, 0, none⟩ a).setCell ⟨r, 1, none⟩ b).setCell ⟨r, 2, none⟩ d).setCell ⟨r, 3, none⟩ e) := (((only_at W r 0 a).setCell (p := ⟨r, 1, none⟩) (.inl rfl) b).setCell (p := ⟨r, 2, none⟩) (.inl rfl) d).setCell (p := ⟨r, 3, none⟩) (.inl rfl) e
theorem did4b {W : World} {r : Nat} (h : Blk W r #[.int .i64 0, .int .i64 0, .int .u64 0, .int .u64 0] 50) (a b d e : Value) : Blk ((((W.setCell ⟨r, 0, none⟩ a).setCell ⟨r, 1, none⟩ b).setCell ⟨r, 2, none⟩ d).setCell ⟨r, 3, none⟩ e) r #[a, b, d, e] 50 := (((h.setCell 0 a).setCell 1 b).setCell 2 d).setCell 3 e
theorem skStep_any {L : List (Option SkL)} {z : SkL} (h : SC (SkA P T) w ab sb sm rb rg bb tb tm ub fb P T wr s s' L) (hz : L[t]? = some (some z)) (hm : Lay.may P T = true) (hx : SkM z.x P T i z.k) (hq : SkOk P z.k) (hil : i < 90000) (hs : StkOk P T s) (he : s.ws = s'.ws) :
    Calls Tryz.prog 40 #[.agg (mcC z.k.isPush z.a z.b), .pointer (some ⟨ab, 0, none⟩), .pointer (some ⟨bb, 0, none⟩)] wr (StepQ w ab sb sm rb rg bb tb tm ub fb P T wr s s' L t z i) := by
  rcases hk : z.k with ⟨hd, k | p⟩ | ⟨hd, pg, k | p⟩
  · exact skStepPop h hz hm hk hx hq hil hs he
  · rw [hk] at hx; exact hx.elim
  · exact skStepPush h hz hm hk hx hq hil hs he
  · rw [hk] at hx; exact hx.elim
/-- A step within the game. -/
theorem gameStep (h : GH w ab sb sm rb rg bb tb tm ub fb gb hvb mb onb pub n P T c wr s s' L Hv Mc On Pu) {z : SkL} (hz : L[t]? = some (some z)) (hm : Lay.may P T = true) (hx : SkM z.x P T i z.k) (hq : SkOk P z.k) (hil : i < 90000) (hs : StkOk P T s) (he : s.ws = s'.ws) :
    Calls Tryz.prog 40 #[.agg (mcC z.k.isPush z.a z.b), .pointer (some ⟨ab, 0, none⟩), .pointer (some ⟨bb, 0, none⟩)] wr fun e w' => e = .returned (.tuple #[didV ((z.k.ac P T).act s), .bool true]) ∧ ∃ z2 : SkL, Hid (GH w ab sb sm rb rg bb tb tm ub fb gb hvb mb onb pub n P T c w' ((z.k.ac P T).act s) ((z.k.ac P T).act s') (L.set t (some z2)) Hv Mc On Pu) ∧ Hid (w'.cell? ⟨z.b, 15, none⟩ = some (.bool z2.k.over) ∧ w'.cell? ⟨z.b, 23, none⟩ = some (.int .i64 z2.k.got)) ∧ Hid (z2.k.over = false → SkM z2.x P T (i + 1) z2.k) ∧ Hid (SkOk P z2.k ∧ z2.a = z.a ∧ z2.b = z.b ∧ z2.k.isPush = z.k.isPush) ∧ Hid (∀ r c u, Blk wr r c u → RowOk skTy u → Blk w' r c u) ∧ Hid (StkOk P T ((z.k.ac P T).act s) ∧ ((z.k.ac P T).act s).ws = ((z.k.ac P T).act s').ws) := by
  refine (skStep_any h.sc hz hm hx hq hil hs he).mono (fun e w' c => ?_)
  obtain ⟨c1, z2, ⟨a1, a2, a3⟩, c3, c4, c5, c6⟩ := c
  have hf : ∀ i, 0 ≤ s.word i := fun i => (StoreS.word_bd h.sc.both.yard.st.fit i).1
  exact ⟨c1, z2, Lib.hid (h.kept c5 c6 (by simpa using h.ll)), Lib.hid c4, Lib.hid c3, Lib.hid ⟨by rw [a3]; exact sk_nx hs hm hf hq, a1, a2, by rw [a3, SkS.nx_isPush]⟩, Lib.hid c6, Lib.hid ⟨hs.act hq hm h.sc.len hx.live, (act_same _ he).1⟩⟩
set_option maxRecDepth 100000 in
set_option maxHeartbeats 4000000 in
theorem pick_any (h : GH w ab sb sm rb rg bb tb tm ub fb gb hvb mb onb pub n P T c wr s s' L Hv Mc On Pu) (hl : Lnk n L Mc On Pu) (ht : t < n) (hm : Lay.may P T = true) (hk : 0 ≤ k ∧ k < 256) (hn : n ≤ 4096) (hc : c ≤ 50000) (hil : i < 80000) (ha : AllM P T i L) (hs : StkOk P T s) (he : s.ws = s'.ws) :
    Calls Tryz.prog 20 #[.pointer (some ⟨gb, 0, none⟩), .int .i64 (t : Int), .int .i64 k] wr (PickQ w wr ab sb sm rb rg bb tb tm ub fb gb hvb mb onb pub n P T (c + 1) (i + 1)) := by
  have HM := Lib.hid hm; have HT := Lib.hid ht; have HK := Lib.hid hk; have HN := Lib.hid hn; have HCI := Lib.hid (And.intro hc hil); have HA := Lib.hid ha; have HS := Lib.hid hs; have HE := Lib.hid he; have HLK := Lib.hid hl
  have gt0 : (0 : Int) ≤ (t : Int) := by omega
  have gt1 : (t : Int) < (n : Int) := by omega
  obtain ⟨oz, hLt⟩ : ∃ oz, L[t]? = some oz := ⟨_, List.getElem?_eq_getElem (by rw [h.ll]; exact ht)⟩
  have HLT := Lib.hid hLt
  obtain ⟨r6, hr6⟩ : ∃ r, wr.heap.size = r := ⟨_, rfl⟩
  have HLW6 := Lib.hid (show w.heap.size ≤ r6 by have := h.sc.adds.size; omega)
  obtain ⟨W0, hW0⟩ : ∃ W, wr.alloc (.cells #[.int .i64 0, .int .i64 0, .int .u64 0, .int .u64 0] 50) = W := ⟨_, rfl⟩
  have hA0 : Adds wr W0 := by rw [← hW0]; exact (Only.refl (fun _ => False) wr).alloc _
  have hb6 : Blk W0 r6 #[.int .i64 0, .int .i64 0, .int .u64 0, .int .u64 0] 50 := by rw [← hW0, ← hr6]; exact Blk.new wr _ _
  have HK0 : Hid (DidsK wr W0) := Lib.hid (fun r cc hb => hb.only hA0 id)
  have HRL := Lib.hid (Nat.le_of_eq hr6)
  have h0 := h.add hA0
  have HH := Lib.hid h0; have HB6 := Lib.hid hb6
  obtain ⟨⟨-, o1, -⟩, -⟩ := h0.cells ht
  obtain ⟨g0, g1, g2, g3, g4, g5⟩ := h0.gcells
  obtain ⟨on, hon⟩ : ∃ b, On t = b := ⟨_, rfl⟩
  rw [hon] at o1
  have HON := Lib.hid hon
  clear h hl ht hm hk hn hc hil ha hs he hLt hA0 hb6 h0 hon
  go_enter Tryz.func20, Tryz.ntmps20
  go_upto_region 1 with fail
  try rw [hW0]
  try rw [hr6]
  clear hW0 hr6
  go_cut [25] (fun y wd => y = .bool false ∧ ∃ (z : SkL) (L' : List (Option SkL)) (Hv' Mc' : Nat → Value) (On' Pu' : Nat → Bool), Hid (GH w ab sb sm rb rg bb tb tm ub fb gb hvb mb onb pub n P T c wd s s' L' Hv' Mc' On' Pu') ∧ Hid (Lnk n L' Mc' On' Pu') ∧ Hid (L'[t]? = some (some z)) ∧ Hid (AllM P T i L') ∧ Hid (Blk wd r6 #[.int .i64 0, .int .i64 0, .int .u64 0, .int .u64 0] 50) ∧ Hid (DidsK wr wd))
  case first =>
    cases on
    · obtain rfl : oz = none := by
        rcases oz with _ | z
        · rfl
        · have := (HLK.out.live t z HLT.out).1; rw [HON.out] at this; cases this
      go_wp2_with (go_at_call 8; refine (begin_any HH.out HLK.out HT.out HM.out HK.out HN.out (by have := HCI.out; omega)).mono ?_; rintro e v1 ⟨⟨rfl, hdd⟩, z, Hv', Mc', On', Pu', q1, q2, q3, q4, -⟩)
      go_meet
      refine ⟨rfl, z, _, Hv', Mc', On', Pu', Lib.hid q1, Lib.hid q2, Lib.hid (List.getElem?_set_self (by have := (List.getElem?_eq_some_iff.1 HLT.out).1; exact this)), Lib.hid (fun j y e => ?_), Lib.hid (hdd _ _ _ (.inl rfl) HB6.out), Lib.hid (fun r cc hb => hdd _ _ _ (.inl rfl) (HK0.out r cc hb))⟩
      rcases set_cases e with ⟨rfl, e2⟩ | ⟨hj, e2⟩
      · injection e2 with e2; subst e2
        refine ⟨?_, q4⟩
        have : ∀ d, SkM z.x P T d z.k := fun d => by
          induction d with
          | zero => exact q3
          | succ d ih => exact ih.mono
        exact this i
      · exact HA.out j y e2
    · obtain ⟨z, rfl⟩ : ∃ z, oz = some z := by
        rcases oz with _ | z
        · have := HLK.out.idle t HLT.out; rw [HON.out] at this; cases this
        · exact ⟨z, rfl⟩
      go_wp2_with fail
      go_meet
      exact ⟨rfl, z, L, Hv, Mc, On, Pu, HH, HLK, HLT, HA, HB6, HK0⟩
  case rest =>
    obtain ⟨rfl, z, L', Hv', Mc', On', Pu', HG, HL2, HZ, HA2, HR6, HK1⟩ := hcut
    clear HK0 HLK HLT HH HB6 HA o1 g0 g1 g2 g3 g4 g5 HON
    obtain ⟨⟨p0, o1, p2⟩, m0, m1, m2⟩ := HG.out.cells HT.out
    obtain ⟨l1, l2, l3, l4, l5⟩ := HL2.out.live t z HZ.out
    rw [l3] at m0; rw [l4] at m1; rw [l5] at m2
    obtain ⟨g0, g1, g2, g3, g4, g5⟩ := HG.out.gcells
    obtain ⟨mA, hmA⟩ : ∃ v, ptrV (if z.k.isPush = true then none else some z.a) = v := ⟨_, rfl⟩
    obtain ⟨mB, hmB⟩ : ∃ v, ptrV (if z.k.isPush = true then some z.a else none) = v := ⟨_, rfl⟩
    obtain ⟨S1, hS1⟩ : ∃ q, (z.k.ac P T).act s = q := ⟨_, rfl⟩
    obtain ⟨S2, hS2⟩ : ∃ q, (z.k.ac P T).act s' = q := ⟨_, rfl⟩
    obtain ⟨ka, hka⟩ : ∃ v, S1.k = v := ⟨_, rfl⟩
    obtain ⟨kp, hkp⟩ : ∃ v, S1.pos = v := ⟨_, rfl⟩
    obtain ⟨ko, hko⟩ : ∃ v, S1.old = v := ⟨_, rfl⟩
    obtain ⟨kw, hkw⟩ : ∃ v, S1.new = v := ⟨_, rfl⟩
    have HSTEP : Hid (∀ W, GH w ab sb sm rb rg bb tb tm ub fb gb hvb mb onb pub n P T c W s s' L' Hv' Mc' On' Pu' → Calls Tryz.prog 40 #[.agg #[mA, mB, .pointer (some ⟨z.b, 0, none⟩)], .pointer (some ⟨ab, 0, none⟩), .pointer (some ⟨bb, 0, none⟩)] W fun e w' => e = .returned (.tuple #[.agg #[.int .i64 ka, .int .i64 kp, .int .u64 ko, .int .u64 kw], .bool true]) ∧ ∃ z2 : SkL, Hid (GH w ab sb sm rb rg bb tb tm ub fb gb hvb mb onb pub n P T c w' S1 S2 (L'.set t (some z2)) Hv' Mc' On' Pu') ∧ Hid (w'.cell? ⟨z.b, 15, none⟩ = some (.bool z2.k.over) ∧ w'.cell? ⟨z.b, 23, none⟩ = some (.int .i64 z2.k.got)) ∧ Hid (z2.k.over = false → SkM z2.x P T (i + 1) z2.k) ∧ Hid (SkOk P z2.k ∧ z2.a = z.a ∧ z2.b = z.b ∧ z2.k.isPush = z.k.isPush) ∧ Hid (∀ r c u, Blk W r c u → RowOk skTy u → Blk w' r c u) ∧ Hid (StkOk P T S1 ∧ S1.ws = S2.ws)) := Lib.hid (fun W hW => by
      have hz := HA2.out t z HZ.out
      have := gameStep hW HZ.out HM.out hz.1 hz.2 (by have := HCI.out; omega) HS.out HE.out
      rw [hS1, hS2] at this
      rw [← hmA, ← hmB, ← hka, ← hkp, ← hko, ← hkw]
      exact this)
    have HMC := Lib.hid (And.intro (l3.trans hmA) (And.intro (l4.trans hmB) l5))
    have HCELL : Hid (∀ V S S' L1, GH w ab sb sm rb rg bb tb tm ub fb gb hvb mb onb pub n P T c V S S' L1 Hv' Mc' On' Pu' → V.cell? ⟨gb, 0, none⟩ = some (.pointer (some ⟨ab, 0, none⟩)) ∧ V.cell? ⟨gb, 1, none⟩ = some (.pointer (some ⟨bb, 0, none⟩)) ∧ V.cell? ⟨gb, 3, none⟩ = some (.slice (some ⟨mb, 0, none⟩) n n) ∧ V.cell? ⟨mb, t * 3, none⟩ = some mA ∧ V.cell? ⟨mb, t * 3 + 1, none⟩ = some mB ∧ V.cell? ⟨mb, t * 3 + 2, none⟩ = some (.pointer (some ⟨z.b, 0, none⟩))) := Lib.hid (fun V S S' L1 hV => by
      obtain ⟨-, b0, b1, b2⟩ := hV.cells HT.out
      rw [HMC.out.1] at b0; rw [HMC.out.2.1] at b1; rw [HMC.out.2.2] at b2
      exact ⟨hV.gcells.1, hV.gcells.2.1, hV.gcells.2.2.2.1, b0, b1, b2⟩)
    rw [hmA] at m0; rw [hmB] at m1
    clear hmA hmB hS1 hS2 hka hkp hko hkw
    go_upto_region 3 with fail
    go_cut [8, 9] (fun y8 y9 wd => y9 = .bool true ∧ ∃ (d8 : Nat) (z2 : SkL), y8 = .pointer (some ⟨d8, 0, none⟩) ∧ Hid (GH w ab sb sm rb rg bb tb tm ub fb gb hvb mb onb pub n P T c wd S1 S2 (L'.set t (some z2)) Hv' Mc' On' Pu') ∧ Hid (wd.cell? ⟨z.b, 15, none⟩ = some (.bool z2.k.over) ∧ wd.cell? ⟨z.b, 23, none⟩ = some (.int .i64 z2.k.got)) ∧ Hid (z2.k.over = false → SkM z2.x P T (i + 1) z2.k) ∧ Hid (SkOk P z2.k ∧ z2.a = z.a ∧ z2.b = z.b ∧ z2.k.isPush = z.k.isPush) ∧ Hid (StkOk P T S1 ∧ S1.ws = S2.ws) ∧ Hid (Blk wd r6 #[.int .i64 0, .int .i64 0, .int .u64 0, .int .u64 0] 50 ∧ Blk wd d8 #[.int .i64 ka, .int .i64 kp, .int .u64 ko, .int .u64 kw] 50 ∧ d8 ≠ r6) ∧ Hid (DidsK wr wd))
    case first =>

      refine wp_region_held_drew (S := (fun V => V.cell? ⟨gb, 0, none⟩ = some (.pointer (some ⟨ab, 0, none⟩)) ∧ V.cell? ⟨gb, 1, none⟩ = some (.pointer (some ⟨bb, 0, none⟩)) ∧ V.cell? ⟨gb, 3, none⟩ = some (.slice (some ⟨mb, 0, none⟩) n n) ∧ V.cell? ⟨mb, t * 3, none⟩ = some mA ∧ V.cell? ⟨mb, t * 3 + 1, none⟩ = some mB ∧ V.cell? ⟨mb, t * 3 + 2, none⟩ = some (.pointer (some ⟨z.b, 0, none⟩)))) (by kernel_rfl) (HCELL.out _ _ _ _ (HG.out.add ((Only.refl (fun _ => False) wc).drew))) (fun hHeld => ?_)
      refine wpAnyH_take (i := 0) (v := (.pointer (some ⟨gb, 0, none⟩))) rfl (by kernel_rfl) (by kernel_rfl) (by kernel_rfl) (fun _ _ _ h => h) (Or.inl ⟨by rfl, fun W hS => by first | rfl | (go_simp; done)⟩) hHeld ?_
      try simp only [Act.put, List.getElem_toArray, List.getElem_cons_succ, List.getElem_cons_zero, List.setIfInBounds_toArray, List.set_cons_zero, List.set_cons_succ]
      refine wpAnyH_take (i := 1) (v := (.pointer (some ⟨gb, 0, none⟩))) rfl (by kernel_rfl) (by kernel_rfl) (by kernel_rfl) (fun _ _ _ h => h) (Or.inl ⟨by rfl, fun W hS => by first | rfl | (go_simp; done)⟩) hHeld ?_
      try simp only [Act.put, List.getElem_toArray, List.getElem_cons_succ, List.getElem_cons_zero, List.setIfInBounds_toArray, List.set_cons_zero, List.set_cons_succ]
      refine wpAnyH_take (i := 2) (v := (.pointer (some ⟨gb, 3, none⟩))) rfl (by kernel_rfl) (by kernel_rfl) (by kernel_rfl) (fun _ _ _ h => h) (Or.inl ⟨by rfl, fun W hS => by first | rfl | (go_simp; done)⟩) hHeld ?_
      try simp only [Act.put, List.getElem_toArray, List.getElem_cons_succ, List.getElem_cons_zero, List.setIfInBounds_toArray, List.set_cons_zero, List.set_cons_succ]
      refine wpAnyH_take (i := 3) (v := (.slice (some ⟨mb, 0, none⟩) n n)) rfl (by kernel_rfl) (by kernel_rfl) (by kernel_rfl) (fun _ _ _ h => h) (Or.inl ⟨by rfl, fun W hS => by (obtain ⟨q1, q2, q3, q4, q5, q6⟩ := hS; go_simp; done)⟩) hHeld ?_
      try simp only [Act.put, List.getElem_toArray, List.getElem_cons_succ, List.getElem_cons_zero, List.setIfInBounds_toArray, List.set_cons_zero, List.set_cons_succ]
      refine wpAnyH_take (i := 4) (v := (.int .i64 (t : Int))) rfl (by kernel_rfl) (by kernel_rfl) (by kernel_rfl) (fun _ _ _ h => h) (Or.inl ⟨by rfl, fun W hS => by first | rfl | (go_simp; done)⟩) hHeld ?_
      try simp only [Act.put, List.getElem_toArray, List.getElem_cons_succ, List.getElem_cons_zero, List.setIfInBounds_toArray, List.set_cons_zero, List.set_cons_succ]
      refine wpAnyH_take (i := 5) (v := (.pointer (some ⟨mb, t * 3, none⟩))) rfl (by kernel_rfl) (by kernel_rfl) (by kernel_rfl) (fun _ _ _ h => h) (Or.inl ⟨by rfl, fun W hS => by first | rfl | (go_simp; done)⟩) hHeld ?_
      try simp only [Act.put, List.getElem_toArray, List.getElem_cons_succ, List.getElem_cons_zero, List.setIfInBounds_toArray, List.set_cons_zero, List.set_cons_succ]
      refine wpAnyH_take (i := 6) (v := (.agg #[mA, mB, .pointer (some ⟨z.b, 0, none⟩)])) rfl (by kernel_rfl) (by kernel_rfl) (by kernel_rfl) (fun _ _ _ h => h) (Or.inl ⟨by rfl, fun W hS => by (obtain ⟨q1, q2, q3, q4, q5, q6⟩ := hS; go_simp; done)⟩) hHeld ?_
      try simp only [Act.put, List.getElem_toArray, List.getElem_cons_succ, List.getElem_cons_zero, List.setIfInBounds_toArray, List.set_cons_zero, List.set_cons_succ]
      refine wpAnyH_take (i := 7) (v := (.pointer (some ⟨gb, 0, none⟩))) rfl (by kernel_rfl) (by kernel_rfl) (by kernel_rfl) (fun _ _ _ h => h) (Or.inl ⟨by rfl, fun W hS => by first | rfl | (go_simp; done)⟩) hHeld ?_
      try simp only [Act.put, List.getElem_toArray, List.getElem_cons_succ, List.getElem_cons_zero, List.setIfInBounds_toArray, List.set_cons_zero, List.set_cons_succ]
      refine wpAnyH_take (i := 8) (v := (.pointer (some ⟨gb, 0, none⟩))) rfl (by kernel_rfl) (by kernel_rfl) (by kernel_rfl) (fun _ _ _ h => h) (Or.inl ⟨by rfl, fun W hS => by first | rfl | (go_simp; done)⟩) hHeld ?_
      try simp only [Act.put, List.getElem_toArray, List.getElem_cons_succ, List.getElem_cons_zero, List.setIfInBounds_toArray, List.set_cons_zero, List.set_cons_succ]
      refine wpAnyH_take (i := 9) (v := (.pointer (some ⟨gb, 0, none⟩))) rfl (by kernel_rfl) (by kernel_rfl) (by kernel_rfl) (fun _ _ _ h => h) (Or.inl ⟨by rfl, fun W hS => by first | rfl | (go_simp; done)⟩) hHeld ?_
      try simp only [Act.put, List.getElem_toArray, List.getElem_cons_succ, List.getElem_cons_zero, List.setIfInBounds_toArray, List.set_cons_zero, List.set_cons_succ]
      refine wpAnyH_take (i := 10) (v := (.pointer (some ⟨ab, 0, none⟩))) rfl (by kernel_rfl) (by kernel_rfl) (by kernel_rfl) (fun _ _ _ h => h) (Or.inl ⟨by rfl, fun W hS => by (obtain ⟨q1, q2, q3, q4, q5, q6⟩ := hS; go_simp; done)⟩) hHeld ?_
      try simp only [Act.put, List.getElem_toArray, List.getElem_cons_succ, List.getElem_cons_zero, List.setIfInBounds_toArray, List.set_cons_zero, List.set_cons_succ]
      refine wpAnyH_take (i := 11) (v := (.pointer (some ⟨gb, 0, none⟩))) rfl (by kernel_rfl) (by kernel_rfl) (by kernel_rfl) (fun _ _ _ h => h) (Or.inl ⟨by rfl, fun W hS => by first | rfl | (go_simp; done)⟩) hHeld ?_
      try simp only [Act.put, List.getElem_toArray, List.getElem_cons_succ, List.getElem_cons_zero, List.setIfInBounds_toArray, List.set_cons_zero, List.set_cons_succ]
      refine wpAnyH_take (i := 12) (v := (.pointer (some ⟨gb, 0, none⟩))) rfl (by kernel_rfl) (by kernel_rfl) (by kernel_rfl) (fun _ _ _ h => h) (Or.inl ⟨by rfl, fun W hS => by first | rfl | (go_simp; done)⟩) hHeld ?_
      try simp only [Act.put, List.getElem_toArray, List.getElem_cons_succ, List.getElem_cons_zero, List.setIfInBounds_toArray, List.set_cons_zero, List.set_cons_succ]
      refine wpAnyH_take (i := 13) (v := (.pointer (some ⟨gb, 1, none⟩))) rfl (by kernel_rfl) (by kernel_rfl) (by kernel_rfl) (fun _ _ _ h => h) (Or.inl ⟨by rfl, fun W hS => by first | rfl | (go_simp; done)⟩) hHeld ?_
      try simp only [Act.put, List.getElem_toArray, List.getElem_cons_succ, List.getElem_cons_zero, List.setIfInBounds_toArray, List.set_cons_zero, List.set_cons_succ]
      refine wpAnyH_take (i := 14) (v := (.pointer (some ⟨bb, 0, none⟩))) rfl (by kernel_rfl) (by kernel_rfl) (by kernel_rfl) (fun _ _ _ h => h) (Or.inl ⟨by rfl, fun W hS => by (obtain ⟨q1, q2, q3, q4, q5, q6⟩ := hS; go_simp; done)⟩) hHeld ?_
      try simp only [Act.put, List.getElem_toArray, List.getElem_cons_succ, List.getElem_cons_zero, List.setIfInBounds_toArray, List.set_cons_zero, List.set_cons_succ]
      refine wpAnyH_ready (rs := [15, 19]) (by kernel_rfl) (by simp) (AllReadyH.cons rfl (fun K hK => ?_) (AllReadyH.cons rfl (fun K hK => ?_) AllReadyH.nil))
      · simp only [List.getElem_toArray, List.getElem_cons_succ, List.getElem_cons_zero]
        go_simp
        refine (HSTEP.out _ (HG.out.add ((Only.refl (fun _ => False) wc).drew))).mono ?_
        rintro e v1 ⟨rfl, z2, HG1, HC1, HX1, HO1, HR1, HS1⟩
        refine hK.out _ _ (HCELL.out _ _ _ _ HG1.out) (fun hHeld => ?_)
        clear hK
        try simp only [Act.put, List.getElem_toArray, List.getElem_cons_succ, List.getElem_cons_zero, List.setIfInBounds_toArray, List.set_cons_zero, List.set_cons_succ]
        refine wpAnyH_take (i := 16) (v := (.tuple #[(.agg #[.int .i64 ka, .int .i64 kp, .int .u64 ko, .int .u64 kw]), .bool true])) rfl (by kernel_rfl) (by kernel_rfl) (by kernel_rfl) (fun _ _ _ h => h) (Or.inl ⟨by rfl, fun W hS => by first | rfl | (go_simp; done)⟩) hHeld ?_
        try simp only [Act.put, List.getElem_toArray, List.getElem_cons_succ, List.getElem_cons_zero, List.setIfInBounds_toArray, List.set_cons_zero, List.set_cons_succ]
        refine wpAnyH_take (i := 17) (v := (.agg #[.int .i64 ka, .int .i64 kp, .int .u64 ko, .int .u64 kw])) rfl (by kernel_rfl) (by kernel_rfl) (by kernel_rfl) (fun _ _ _ h => h) (Or.inl ⟨by rfl, fun W hS => by first | rfl | (go_simp; done)⟩) hHeld ?_
        try simp only [Act.put, List.getElem_toArray, List.getElem_cons_succ, List.getElem_cons_zero, List.setIfInBounds_toArray, List.set_cons_zero, List.set_cons_succ]
        refine wpAnyH_take (i := 18) (v := (.bool true)) rfl (by kernel_rfl) (by kernel_rfl) (by kernel_rfl) (fun _ _ _ h => h) (Or.inl ⟨by rfl, fun W hS => by first | rfl | (go_simp; done)⟩) hHeld ?_
        try simp only [Act.put, List.getElem_toArray, List.getElem_cons_succ, List.getElem_cons_zero, List.setIfInBounds_toArray, List.set_cons_zero, List.set_cons_succ]
        refine wpAnyH_ready (rs := [19]) (by kernel_rfl) (by simp) (AllReadyH.cons rfl (fun K hK => ?_) AllReadyH.nil)
        simp only [List.getElem_toArray, List.getElem_cons_succ, List.getElem_cons_zero]
        go_simp
        have hal : Adds v1 (v1.alloc (.cells #[.int .i64 0, .int .i64 0, .int .u64 0, .int .u64 0] 50)) := (Only.refl (fun _ => False) v1).alloc _
        obtain ⟨V2, hV2⟩ : ∃ V, v1.alloc (.cells #[.int .i64 0, .int .i64 0, .int .u64 0, .int .u64 0] 50) = V := ⟨_, rfl⟩
        rw [hV2] at hal
        have HGX := Lib.hid (HG1.out.add hal); have HCX := Lib.hid (And.intro (cellA HC1.out.1 hal) (cellA HC1.out.2 hal))
        have HB8 : Hid (Blk V2 v1.heap.size #[.int .i64 0, .int .i64 0, .int .u64 0, .int .u64 0] 50) := Lib.hid (by rw [← hV2]; exact Blk.new v1 _ _)
        have hr1 := HR1.out _ _ _ (HR6.out.only ((Only.refl (fun _ => False) wc).drew) id) (by unfold RowOk; decide)
        have HRX := Lib.hid (hr1.only hal id)
        have HL8 := Lib.hid (And.intro HG1.out.sc.adds.size (show v1.heap.size ≠ r6 by have := hr1.lt; omega)); have HD8 := Lib.hid hr1.lt
        have HKX : Hid (DidsK wr V2) := Lib.hid (fun r cc hb => (HR1.out _ _ _ ((HK1.out r cc hb).only ((Only.refl (fun _ => False) wc).drew) id) (by unfold RowOk; decide)).only hal id)
        try rw [hV2]
        obtain ⟨d8, hd8⟩ : ∃ d, v1.heap.size = d := ⟨_, rfl⟩
        rw [hd8] at HB8 HL8 HD8
        try rw [hd8]
        refine hK.out _ _ (HCELL.out _ _ _ _ HGX.out) (fun hHeld => ?_)
        clear hK hal hr1 hV2 hd8
        try simp only [Act.put, List.getElem_toArray, List.getElem_cons_succ, List.getElem_cons_zero, List.setIfInBounds_toArray, List.set_cons_zero, List.set_cons_succ]
        have e0 := HB8.out.cell 0; have e1 := HB8.out.cell 1; have e2 := HB8.out.cell 2; have e3 := HB8.out.cell 3; have f0 := HB8.out.frozen 0; have f1 := HB8.out.frozen 1; have f2 := HB8.out.frozen 2; have f3 := HB8.out.frozen 3
        refine wpAnyH_ready (rs := [20]) (by kernel_rfl) (by simp) (AllReadyH.cons rfl (fun K hK => ?_) AllReadyH.nil)
        simp only [List.getElem_toArray, List.getElem_cons_succ, List.getElem_cons_zero]
        rw [if_pos (by rfl)]
        go_simp
        obtain ⟨W9, hW9⟩ : ∃ W, ((((V2.setCell ⟨d8, 0, none⟩ (.int .i64 ka)).setCell ⟨d8, 1, none⟩ (.int .i64 kp)).setCell ⟨d8, 2, none⟩ (.int .u64 ko)).setCell ⟨d8, 3, none⟩ (.int .u64 kw)) = W := ⟨_, rfl⟩
        have ho9 : Only (· = d8) V2 W9 := by rw [← hW9]; exact did4 _ _ _ _ _ _
        have hb9 : Blk W9 d8 #[.int .i64 ka, .int .i64 kp, .int .u64 ko, .int .u64 kw] 50 := by rw [← hW9]; exact did4b HB8.out _ _ _ _
        have hg9 := HGX.out.did HB8.out HL8.out.1 ho9
        have hzb : z.b ≠ d8 := fun e => by
          have h1 := (HGX.out.sc.lanes.B t z2 (List.getElem?_set_self (by have := (List.getElem?_eq_some_iff.1 HZ.out).1; exact this))).blk
          rw [HO1.out.2.2.1, e] at h1
          have := (h1.uniq HB8.out).2; revert this; decide
        have c15 := cellO ho9 hzb HCX.out.1; have c23 := cellO ho9 hzb HCX.out.2
        have hr9 := HRX.out.only ho9 (fun e => HL8.out.2 e.symm)
        have hk9 : DidsK wr W9 := fun r cc hb => (HKX.out r cc hb).only ho9 (fun e => by have := hb.lt; have := HRL.out; have := HD8.out; omega)
        rw [hW9]
        refine hK.out _ _ (HCELL.out _ _ _ _ hg9) (fun hHeld => ?_)
        clear hK
        try simp only [Act.put, List.getElem_toArray, List.getElem_cons_succ, List.getElem_cons_zero, List.setIfInBounds_toArray, List.set_cons_zero, List.set_cons_succ]
        refine wpAnyH_take (i := 21) (v := (.bool true)) rfl (by kernel_rfl) (by kernel_rfl) (by kernel_rfl) (fun _ _ _ h => h) (Or.inl ⟨by rfl, fun W hS => by first | rfl | (go_simp; done)⟩) hHeld ?_
        try simp only [Act.put, List.getElem_toArray, List.getElem_cons_succ, List.getElem_cons_zero, List.setIfInBounds_toArray, List.set_cons_zero, List.set_cons_succ]
        refine wpAnyH_done (by kernel_rfl) ?_ _
        go_wp2_with fail
        go_meet
        exact ⟨rfl, d8, z2, rfl, Lib.hid hg9, Lib.hid ⟨c15, c23⟩, HX1, HO1, HS1, Lib.hid ⟨hr9, hb9, HL8.out.2⟩, Lib.hid hk9⟩
      · simp only [List.getElem_toArray, List.getElem_cons_succ, List.getElem_cons_zero]
        go_simp
        obtain ⟨V2, hV2⟩ : ∃ V, (wc.alloc (.cells #[.int .i64 0, .int .i64 0, .int .u64 0, .int .u64 0] 50)).drew = V := ⟨_, rfl⟩
        have hal : Adds wc V2 := by rw [← hV2]; exact ((Only.refl (fun _ => False) wc).alloc _).drew
        have HGP := Lib.hid (HG.out.add hal)
        have HBP : Hid (Blk V2 wc.heap.size #[.int .i64 0, .int .i64 0, .int .u64 0, .int .u64 0] 50) := Lib.hid (by rw [← hV2]; exact (Blk.new wc #[.int .i64 0, .int .i64 0, .int .u64 0, .int .u64 0] 50).only ((Only.refl (fun _ => False) _).drew) id)
        have HRP := Lib.hid (HR6.out.only hal id)
        have HLP := Lib.hid (And.intro HG.out.sc.adds.size (show wc.heap.size ≠ r6 by have := HR6.out.lt; omega)); have HDP := Lib.hid HR6.out.lt
        have HKP : Hid (DidsK wr V2) := Lib.hid (fun r cc hb => (HK1.out r cc hb).only hal id)
        try rw [hV2]
        obtain ⟨d8, hd8⟩ : ∃ d, wc.heap.size = d := ⟨_, rfl⟩
        rw [hd8] at HBP HLP HDP
        try rw [hd8]
        refine hK.out _ _ (HCELL.out _ _ _ _ HGP.out) (fun hHeld => ?_)
        clear hK hal hV2 hd8
        try simp only [Act.put, List.getElem_toArray, List.getElem_cons_succ, List.getElem_cons_zero, List.setIfInBounds_toArray, List.set_cons_zero, List.set_cons_succ]
        refine wpAnyH_ready (rs := [15]) (by kernel_rfl) (by simp) (AllReadyH.cons rfl (fun K hK => ?_) AllReadyH.nil)
        simp only [List.getElem_toArray, List.getElem_cons_succ, List.getElem_cons_zero]
        go_simp
        refine (HSTEP.out _ HGP.out).mono ?_
        rintro e v1 ⟨rfl, z2, HG1, HC1, HX1, HO1, HR1, HS1⟩
        refine hK.out _ _ (HCELL.out _ _ _ _ HG1.out) (fun hHeld => ?_)
        clear hK
        try simp only [Act.put, List.getElem_toArray, List.getElem_cons_succ, List.getElem_cons_zero, List.setIfInBounds_toArray, List.set_cons_zero, List.set_cons_succ]
        refine wpAnyH_take (i := 16) (v := (.tuple #[(.agg #[.int .i64 ka, .int .i64 kp, .int .u64 ko, .int .u64 kw]), .bool true])) rfl (by kernel_rfl) (by kernel_rfl) (by kernel_rfl) (fun _ _ _ h => h) (Or.inl ⟨by rfl, fun W hS => by first | rfl | (go_simp; done)⟩) hHeld ?_
        try simp only [Act.put, List.getElem_toArray, List.getElem_cons_succ, List.getElem_cons_zero, List.setIfInBounds_toArray, List.set_cons_zero, List.set_cons_succ]
        refine wpAnyH_take (i := 17) (v := (.agg #[.int .i64 ka, .int .i64 kp, .int .u64 ko, .int .u64 kw])) rfl (by kernel_rfl) (by kernel_rfl) (by kernel_rfl) (fun _ _ _ h => h) (Or.inl ⟨by rfl, fun W hS => by first | rfl | (go_simp; done)⟩) hHeld ?_
        try simp only [Act.put, List.getElem_toArray, List.getElem_cons_succ, List.getElem_cons_zero, List.setIfInBounds_toArray, List.set_cons_zero, List.set_cons_succ]
        refine wpAnyH_take (i := 18) (v := (.bool true)) rfl (by kernel_rfl) (by kernel_rfl) (by kernel_rfl) (fun _ _ _ h => h) (Or.inl ⟨by rfl, fun W hS => by first | rfl | (go_simp; done)⟩) hHeld ?_
        try simp only [Act.put, List.getElem_toArray, List.getElem_cons_succ, List.getElem_cons_zero, List.setIfInBounds_toArray, List.set_cons_zero, List.set_cons_succ]
        have HGX := HG1; have HCX := HC1; have HB8 := Lib.hid (HR1.out _ _ _ HBP.out (by unfold RowOk; decide)); have HRX := Lib.hid (HR1.out _ _ _ HRP.out (by unfold RowOk; decide)); have HL8 := HLP; have HD8 := HDP; have HKX : Hid (DidsK wr v1) := Lib.hid (fun r cc hb => HR1.out _ _ _ (HKP.out r cc hb) (by unfold RowOk; decide))
        have e0 := HB8.out.cell 0; have e1 := HB8.out.cell 1; have e2 := HB8.out.cell 2; have e3 := HB8.out.cell 3; have f0 := HB8.out.frozen 0; have f1 := HB8.out.frozen 1; have f2 := HB8.out.frozen 2; have f3 := HB8.out.frozen 3
        refine wpAnyH_ready (rs := [20]) (by kernel_rfl) (by simp) (AllReadyH.cons rfl (fun K hK => ?_) AllReadyH.nil)
        simp only [List.getElem_toArray, List.getElem_cons_succ, List.getElem_cons_zero]
        rw [if_pos (by rfl)]
        go_simp
        obtain ⟨W9, hW9⟩ : ∃ W, ((((v1.setCell ⟨d8, 0, none⟩ (.int .i64 ka)).setCell ⟨d8, 1, none⟩ (.int .i64 kp)).setCell ⟨d8, 2, none⟩ (.int .u64 ko)).setCell ⟨d8, 3, none⟩ (.int .u64 kw)) = W := ⟨_, rfl⟩
        have ho9 : Only (· = d8) v1 W9 := by rw [← hW9]; exact did4 _ _ _ _ _ _
        have hb9 : Blk W9 d8 #[.int .i64 ka, .int .i64 kp, .int .u64 ko, .int .u64 kw] 50 := by rw [← hW9]; exact did4b HB8.out _ _ _ _
        have hg9 := HGX.out.did HB8.out HL8.out.1 ho9
        have hzb : z.b ≠ d8 := fun e => by
          have h1 := (HGX.out.sc.lanes.B t z2 (List.getElem?_set_self (by have := (List.getElem?_eq_some_iff.1 HZ.out).1; exact this))).blk
          rw [HO1.out.2.2.1, e] at h1
          have := (h1.uniq HB8.out).2; revert this; decide
        have c15 := cellO ho9 hzb HCX.out.1; have c23 := cellO ho9 hzb HCX.out.2
        have hr9 := HRX.out.only ho9 (fun e => HL8.out.2 e.symm)
        have hk9 : DidsK wr W9 := fun r cc hb => (HKX.out r cc hb).only ho9 (fun e => by have := hb.lt; have := HRL.out; have := HD8.out; omega)
        rw [hW9]
        refine hK.out _ _ (HCELL.out _ _ _ _ hg9) (fun hHeld => ?_)
        clear hK
        try simp only [Act.put, List.getElem_toArray, List.getElem_cons_succ, List.getElem_cons_zero, List.setIfInBounds_toArray, List.set_cons_zero, List.set_cons_succ]
        refine wpAnyH_take (i := 21) (v := (.bool true)) rfl (by kernel_rfl) (by kernel_rfl) (by kernel_rfl) (fun _ _ _ h => h) (Or.inl ⟨by rfl, fun W hS => by first | rfl | (go_simp; done)⟩) hHeld ?_
        try simp only [Act.put, List.getElem_toArray, List.getElem_cons_succ, List.getElem_cons_zero, List.setIfInBounds_toArray, List.set_cons_zero, List.set_cons_succ]
        refine wpAnyH_done (by kernel_rfl) ?_ _
        go_wp2_with fail
        go_meet
        exact ⟨rfl, d8, z2, rfl, Lib.hid hg9, Lib.hid ⟨c15, c23⟩, HX1, HO1, HS1, Lib.hid ⟨hr9, hb9, HL8.out.2⟩, Lib.hid hk9⟩
    case rest =>
      obtain ⟨rfl, d8, z2, rfl, HG3, HC3, HX3, HO3, HS3, HB3, HK3⟩ := hcut
      have HAM : Hid (AllM P T (i + 1) L') := Lib.hid HA2.out.mono
      clear HK1 HG HA2 HR6 HSTEP HCELL p0 o1 p2 m0 m1 m2 g0 g1 g2 g3 g4 g5 HS HE
      have hz2 : (L'.set t (some z2))[t]? = some (some z2) := List.getElem?_set_self (by have := (List.getElem?_eq_some_iff.1 HZ.out).1; exact this)
      obtain ⟨⟨p0, o1, p2⟩, m0, m1, m2⟩ := HG3.out.cells HT.out
      rw [HMC.out.2.2] at m2
      obtain ⟨g0, g1, g2, g3, g4, g5⟩ := HG3.out.gcells
      obtain ⟨c15, c23⟩ := HC3.out
      have of := HG3.out.on.frozen t
      obtain ⟨dn, hdn⟩ : ∃ b, z2.k.over = b := ⟨_, rfl⟩
      obtain ⟨gt, hgt⟩ : ∃ b, z2.k.got = b := ⟨_, rfl⟩
      rw [hdn] at c15; rw [hgt] at c23
      have HDN := Lib.hid (And.intro hdn hgt); have HZ2 := Lib.hid hz2
      have HL3 := Lib.hid (HL2.out.step HZ.out HO3.out.2.1 HO3.out.2.2.1 HO3.out.2.2.2)
      have hpu : Pu' t = z2.k.isPush := l2.trans HO3.out.2.2.2.symm
      obtain ⟨ip, hip⟩ : ∃ b, z2.k.isPush = b := ⟨_, rfl⟩
      rw [hpu, hip] at p2
      have HIP := Lib.hid hip
      clear hdn hgt hz2 hpu hip l1 l2 l3 l4 l5
      go_upto_if 59 with fail
      go_cut [8] (fun y wd => y = .pointer (some ⟨d8, 0, none⟩) ∧ ∃ (L1 : List (Option SkL)) (Hv1 : Nat → Value) (On1 : Nat → Bool), Hid (GH w ab sb sm rb rg bb tb tm ub fb gb hvb mb onb pub n P T (c + 1) wd S1 S2 L1 Hv1 Mc' On1 Pu') ∧ Hid (Lnk n L1 Mc' On1 Pu') ∧ Hid (AllM P T (i + 1) L1) ∧ Hid (Blk wd r6 #[.int .i64 0, .int .i64 0, .int .u64 0, .int .u64 0] 50 ∧ Blk wd d8 #[.int .i64 ka, .int .i64 kp, .int .u64 ko, .int .u64 kw] 50 ∧ d8 ≠ r6) ∧ Hid (DidsK wr wd))
      case first =>
        have hup := HG3.out.more (d := c + 1) (by omega)
        have hall : dn = false → AllM P T (i + 1) (L'.set t (some z2)) := fun hd j y e => by
          rcases set_cases e with ⟨rfl, e2⟩ | ⟨hj, e2⟩
          · injection e2 with e2; subst e2; exact ⟨HX3.out (by rw [HDN.out.1]; exact hd), HO3.out.1⟩
          · exact HAM.out j y e2
        have hall2 : AllM P T (i + 1) ((L'.set t (some z2)).set t none) := by
          rw [List.set_set]; exact HAM.out.drop t
        cases dn
        · go_wp2_with fail
          go_meet
          exact ⟨rfl, _, Hv', On', Lib.hid hup, HL3, Lib.hid (hall (by trivial)), HB3, HK3⟩
        · go_upto_region 6 with fail
          obtain ⟨W5, hW5⟩ : ∃ W, wc.setCell ⟨onb, t, none⟩ (.bool false) = W := ⟨_, rfl⟩
          have ho5 : Only (· = onb) wc W5 := by rw [← hW5]; exact only_at _ _ _ _
          have h5 := (HG3.out.setOn t false).drop t
          rw [hW5] at h5
          try rw [hW5]
          have hzb : z.b ≠ onb := fun e => by
            have h1 := (HG3.out.sc.lanes.B t z2 HZ2.out).blk
            rw [HO3.out.2.2.1, e] at h1
            have := (h1.uniq HG3.out.on).2; revert this; decide
          have c23' := cellO ho5 hzb c23
          have hb5 : Blk W5 r6 #[.int .i64 0, .int .i64 0, .int .u64 0, .int .u64 0] 50 ∧ Blk W5 d8 #[.int .i64 ka, .int .i64 kp, .int .u64 ko, .int .u64 kw] 50 ∧ d8 ≠ r6 := ⟨HB3.out.1.rowT HG3.out.on (by decide) ho5, HB3.out.2.1.rowT HG3.out.on (by decide) ho5, HB3.out.2.2⟩
          have HK5 : Hid (DidsK wr W5) := Lib.hid (fun r cc hb => (HK3.out r cc hb).rowT HG3.out.on (by decide) ho5)
          have H5 := Lib.hid h5; have HB5 := Lib.hid hb5; have HL5 := Lib.hid (HL3.out.drop t); have HA5 := Lib.hid hall2
          have HGT := Lib.hid (show SkOk P z2.k from HO3.out.1)
          clear ho5 hzb hW5 hb5 hall hall2 hup c15 c23 p0 o1 p2 m0 m1 m2 g0 g1 g2 g3 g4 g5 of
          obtain ⟨⟨p0, -, p2⟩, -, -, m2⟩ := h5.cells HT.out
          obtain ⟨g0, g1, g2, g3, g4, g5⟩ := h5.gcells
          rw [HMC.out.2.2] at m2
          have hpu : Pu' t = ip := (HL3.out.live t z2 HZ2.out).2.1.trans HIP.out
          rw [hpu] at p2
          clear h5 hpu
          have hc : (ip = true ∨ gt < 0) ∨ (ip = false ∧ 0 ≤ gt) := by
            cases ip
            · by_cases e : gt < 0
              · exact .inl (.inr e)
              · exact .inr ⟨rfl, by omega⟩
            · exact .inl (.inl rfl)
          rcases hc with (rfl | hgt) | ⟨rfl, hgt⟩
          · go_wp2_with fail
            go_meet
            exact ⟨rfl, _, Hv', _, Lib.hid (H5.out.more (by omega)), HL5, HA5, HB5, HK5⟩
          · have hgt2 : ¬ 0 ≤ gt := by omega
            cases ip
            · go_wp2_with fail
              go_meet
              exact ⟨rfl, _, Hv', _, Lib.hid (H5.out.more (by omega)), HL5, HA5, HB5, HK5⟩
            · go_wp2_with fail
              go_meet
              exact ⟨rfl, _, Hv', _, Lib.hid (H5.out.more (by omega)), HL5, HA5, HB5, HK5⟩
          · go_upto_region 8 with fail
            obtain ⟨i0, hi, hz0, hz1, hz2⟩ := info_parts infoInt
            obtain ⟨xs, hxs1, hxs2, hxs3⟩ := H5.out.hands t HT.out
            have HXS := Lib.hid (And.intro hxs1 (And.intro hxs2 hxs3))
            have HGB := Lib.hid (sk_got HGT.out HDN.out.1 HDN.out.2)
            clear hxs1 hxs2 hxs3
            refine wp_region_held_drew (S := (fun V => V.cell? ⟨gb, 2, none⟩ = some (.slice (some ⟨hvb, 0, none⟩) n n))) (by kernel_rfl) g2 (fun hHeld => ?_)
            obtain ⟨D, hD⟩ : ∃ D, World.drew W5 = D := ⟨_, rfl⟩
            have HAD : Hid (Adds W5 D) := Lib.hid (by rw [← hD]; exact (Only.refl (fun _ => False) W5).drew)
            rw [hD] at hHeld
            rw [hD]
            clear hD
            refine wpAnyH_take (i := 0) (v := (.pointer (some ⟨gb, 0, none⟩))) rfl (by kernel_rfl) (by kernel_rfl) (by kernel_rfl) (fun _ _ _ h => h) (Or.inl ⟨by rfl, fun W hS => by first | rfl | (go_simp; done)⟩) hHeld ?_
            try simp only [Act.put, List.getElem_toArray, List.getElem_cons_succ, List.getElem_cons_zero, List.setIfInBounds_toArray, List.set_cons_zero, List.set_cons_succ]
            refine wpAnyH_take (i := 1) (v := (.pointer (some ⟨gb, 0, none⟩))) rfl (by kernel_rfl) (by kernel_rfl) (by kernel_rfl) (fun _ _ _ h => h) (Or.inl ⟨by rfl, fun W hS => by first | rfl | (go_simp; done)⟩) hHeld ?_
            try simp only [Act.put, List.getElem_toArray, List.getElem_cons_succ, List.getElem_cons_zero, List.setIfInBounds_toArray, List.set_cons_zero, List.set_cons_succ]
            refine wpAnyH_take (i := 2) (v := (.pointer (some ⟨gb, 2, none⟩))) rfl (by kernel_rfl) (by kernel_rfl) (by kernel_rfl) (fun _ _ _ h => h) (Or.inl ⟨by rfl, fun W hS => by first | rfl | (go_simp; done)⟩) hHeld ?_
            try simp only [Act.put, List.getElem_toArray, List.getElem_cons_succ, List.getElem_cons_zero, List.setIfInBounds_toArray, List.set_cons_zero, List.set_cons_succ]
            refine wpAnyH_take (i := 3) (v := (.slice (some ⟨hvb, 0, none⟩) n n)) rfl (by kernel_rfl) (by kernel_rfl) (by kernel_rfl) (fun _ _ _ h => h) (Or.inl ⟨by rfl, fun W hS => by (obtain q1 := hS; go_simp; done)⟩) hHeld ?_
            try simp only [Act.put, List.getElem_toArray, List.getElem_cons_succ, List.getElem_cons_zero, List.setIfInBounds_toArray, List.set_cons_zero, List.set_cons_succ]
            refine wpAnyH_take (i := 4) (v := (.int .i64 (t : Int))) rfl (by kernel_rfl) (by kernel_rfl) (by kernel_rfl) (fun _ _ _ h => h) (Or.inl ⟨by rfl, fun W hS => by first | rfl | (go_simp; done)⟩) hHeld ?_
            try simp only [Act.put, List.getElem_toArray, List.getElem_cons_succ, List.getElem_cons_zero, List.setIfInBounds_toArray, List.set_cons_zero, List.set_cons_succ]
            refine wpAnyH_take (i := 6) (v := (.pointer (some ⟨gb, 0, none⟩))) rfl (by kernel_rfl) (by kernel_rfl) (by kernel_rfl) (fun _ _ _ h => h) (Or.inl ⟨by rfl, fun W hS => by first | rfl | (go_simp; done)⟩) hHeld ?_
            try simp only [Act.put, List.getElem_toArray, List.getElem_cons_succ, List.getElem_cons_zero, List.setIfInBounds_toArray, List.set_cons_zero, List.set_cons_succ]
            refine wpAnyH_take (i := 7) (v := (.pointer (some ⟨gb, 0, none⟩))) rfl (by kernel_rfl) (by kernel_rfl) (by kernel_rfl) (fun _ _ _ h => h) (Or.inl ⟨by rfl, fun W hS => by first | rfl | (go_simp; done)⟩) hHeld ?_
            try simp only [Act.put, List.getElem_toArray, List.getElem_cons_succ, List.getElem_cons_zero, List.setIfInBounds_toArray, List.set_cons_zero, List.set_cons_succ]
            refine wpAnyH_take (i := 8) (v := (.pointer (some ⟨gb, 2, none⟩))) rfl (by kernel_rfl) (by kernel_rfl) (by kernel_rfl) (fun _ _ _ h => h) (Or.inl ⟨by rfl, fun W hS => by first | rfl | (go_simp; done)⟩) hHeld ?_
            try simp only [Act.put, List.getElem_toArray, List.getElem_cons_succ, List.getElem_cons_zero, List.setIfInBounds_toArray, List.set_cons_zero, List.set_cons_succ]
            refine wpAnyH_take (i := 9) (v := (.slice (some ⟨hvb, 0, none⟩) n n)) rfl (by kernel_rfl) (by kernel_rfl) (by kernel_rfl) (fun _ _ _ h => h) (Or.inl ⟨by rfl, fun W hS => by (obtain q1 := hS; go_simp; done)⟩) hHeld ?_
            try simp only [Act.put, List.getElem_toArray, List.getElem_cons_succ, List.getElem_cons_zero, List.setIfInBounds_toArray, List.set_cons_zero, List.set_cons_succ]
            refine wpAnyH_take (i := 10) (v := (.int .i64 (t : Int))) rfl (by kernel_rfl) (by kernel_rfl) (by kernel_rfl) (fun _ _ _ h => h) (Or.inl ⟨by rfl, fun W hS => by first | rfl | (go_simp; done)⟩) hHeld ?_
            try simp only [Act.put, List.getElem_toArray, List.getElem_cons_succ, List.getElem_cons_zero, List.setIfInBounds_toArray, List.set_cons_zero, List.set_cons_succ]
            refine wpAnyH_take (i := 11) (v := (.pointer (some ⟨hvb, t, none⟩))) rfl (by kernel_rfl) (by kernel_rfl) (by kernel_rfl) (fun _ _ _ h => h) (Or.inl ⟨by rfl, fun W hS => by first | rfl | (go_simp; done)⟩) hHeld ?_
            try simp only [Act.put, List.getElem_toArray, List.getElem_cons_succ, List.getElem_cons_zero, List.setIfInBounds_toArray, List.set_cons_zero, List.set_cons_succ]
            refine wpAnyH_take (i := 14) (v := (.int .i64 gt)) rfl (by kernel_rfl) (by kernel_rfl) (by kernel_rfl) (fun _ _ _ h => h) (Or.inl ⟨by rfl, fun W hS => by first | rfl | (go_simp; done)⟩) hHeld ?_
            try simp only [Act.put, List.getElem_toArray, List.getElem_cons_succ, List.getElem_cons_zero, List.setIfInBounds_toArray, List.set_cons_zero, List.set_cons_succ]
            refine wpAnyH_ready (rs := [5, 12, 15]) (by kernel_rfl) (by simp) (AllReadyH.cons rfl (fun K hK => ?_) (AllReadyH.cons rfl (fun K hK => ?_) (AllReadyH.cons rfl (fun K hK => ?_) AllReadyH.nil)))
            · simp only [List.getElem_toArray, List.getElem_cons_succ, List.getElem_cons_zero]
              go_simp
              obtain ⟨Y1, hV2⟩ : ∃ V, D.alloc (.cells #[] 3) = V := ⟨_, rfl⟩
              have hA2 : Adds D Y1 := by rw [← hV2]; exact (Only.refl (fun _ => False) D).alloc _
              obtain ⟨e8, hbb⟩ : ∃ q, D.heap.size = q := ⟨_, rfl⟩
              have hblk8 : Blk Y1 e8 #[] 3 := by rw [← hV2, ← hbb]; exact Blk.new D _ _
              have hlow8 : W5.heap.size ≤ e8 := by rw [← hbb]; exact HAD.out.size
              have HE8 : Hid (Y1.ownsRow W5.heap.size 3 1 (.slice (some ⟨e8, 0, none⟩) 0 0) 0 []) := Lib.hid ⟨rfl, .inr ⟨e8, 0, #[], rfl, hlow8, hblk8, Nat.le_refl _, Nat.zero_le _, rfl, rfl⟩⟩
              try rw [hV2]
              try rw [hbb]
              have hg9 := cellA hHeld hA2
              replace HAD := Lib.hid (HAD.out.thenF hA2)
              refine hK.out _ _ hg9 (fun hHeld => ?_)
              clear hK hV2 hA2 hblk8 hlow8 hbb hg9
              try simp only [Act.put, List.getElem_toArray, List.getElem_cons_succ, List.getElem_cons_zero, List.setIfInBounds_toArray, List.set_cons_zero, List.set_cons_succ]
              refine wpAnyH_ready (rs := [12, 15]) (by kernel_rfl) (by simp) (AllReadyH.cons rfl (fun K hK => ?_) (AllReadyH.cons rfl (fun K hK => ?_) AllReadyH.nil))
              · simp only [List.getElem_toArray, List.getElem_cons_succ, List.getElem_cons_zero]
                rw [if_pos (by rfl)]
                have p9 : Y1.cell? ⟨hvb, t, none⟩ = some (Hv' t) := cellA p0 HAD.out
                go_simp
                refine hK.out _ _ hHeld (fun hHeld => ?_)
                clear hK p9
                try simp only [Act.put, List.getElem_toArray, List.getElem_cons_succ, List.getElem_cons_zero, List.setIfInBounds_toArray, List.set_cons_zero, List.set_cons_succ]
                refine wpAnyH_ready (rs := [13, 15]) (by kernel_rfl) (by simp) (AllReadyH.cons rfl (fun K hK => ?_) (AllReadyH.cons rfl (fun K hK => ?_) AllReadyH.nil))
                · simp only [List.getElem_toArray, List.getElem_cons_succ, List.getElem_cons_zero]
                  rw [if_pos (by rfl)]
                  refine wp_append_src _ _ 54 3 rfl i0 (.int .i64 0) 1 8 Tryz.underlying54 hi hz0 hz1 hz2 rfl (by decide) W5.heap.size _ _ _ rfl HE8.out (Hv' t) _ (xs.map (Value.int .i64)) rfl (Src.of_owns (row_adds HXS.out.1 HAD.out)) (by simp) (by intro y hy; obtain ⟨z, _, rfl⟩ := List.mem_map.1 hy; rfl) (by have := HXS.out.2.2; have := HCI.out; unfold maxLen; omega) (by have := HXS.out.2.2; have := HCI.out; omega) HAD.out.size ?_
                  intro v8 Y3 hR9 hO9
                  have hAo : Adds W5 Y3 := HAD.out.andThen hO9 (fun i hi e => by have := row_base9 HE8.out _ e; omega)
                  have g9 : Y3.cell? ⟨gb, 2, none⟩ = some (.slice (some ⟨hvb, 0, none⟩) n n) := (hAo.cellF (p := ⟨gb, 2, none⟩) (cell_lt g2) id).trans g2
                  refine hK.out _ _ g9 (fun hHeld => ?_)
                  replace HAD := Lib.hid hAo
                  replace HE8 := Lib.hid hR9
                  clear hK hAo hO9 hR9 g9
                  try simp only [Act.put, List.getElem_toArray, List.getElem_cons_succ, List.getElem_cons_zero, List.setIfInBounds_toArray, List.set_cons_zero, List.set_cons_succ]
                  refine wpAnyH_ready (rs := [15]) (by kernel_rfl) (by simp) (AllReadyH.cons rfl (fun K hK => ?_) AllReadyH.nil)
                  simp only [List.getElem_toArray, List.getElem_cons_succ, List.getElem_cons_zero]
                  go_simp
                  obtain ⟨Y4, hV2⟩ : ∃ V, Y3.alloc (.cells #[.int .i64 gt] 3) = V := ⟨_, rfl⟩
                  have hA2 : Adds Y3 Y4 := by rw [← hV2]; exact (Only.refl (fun _ => False) Y3).alloc _
                  obtain ⟨g8, hbb⟩ : ∃ q, Y3.heap.size = q := ⟨_, rfl⟩
                  have hblk8 : Blk Y4 g8 #[.int .i64 gt] 3 := by rw [← hV2, ← hbb]; exact Blk.new Y3 _ _
                  have hlow8 : W5.heap.size ≤ g8 := by rw [← hbb]; exact HAD.out.size
                  replace HE8 := Lib.hid (row_adds HE8.out hA2)
                  have HG8 : Hid (Y4.cell? ⟨g8, 0, none⟩ = some (.int .i64 gt)) := Lib.hid (hblk8.cell 0)
                  try rw [hV2]
                  try rw [hbb]
                  have hg9 := cellA hHeld hA2
                  replace HAD := Lib.hid (HAD.out.thenF hA2)
                  refine hK.out _ _ hg9 (fun hHeld => ?_)
                  clear hK hV2 hA2 hblk8 hlow8 hbb hg9
                  try simp only [Act.put, List.getElem_toArray, List.getElem_cons_succ, List.getElem_cons_zero, List.setIfInBounds_toArray, List.set_cons_zero, List.set_cons_succ]
                  refine wpAnyH_ready (rs := [16]) (by kernel_rfl) (by simp) (AllReadyH.cons rfl (fun K hK => ?_) AllReadyH.nil)
                  simp only [List.getElem_toArray, List.getElem_cons_succ, List.getElem_cons_zero]
                  rw [if_pos (by rfl)]
                  refine wp_append_src _ _ 54 3 rfl i0 (.int .i64 0) 1 8 Tryz.underlying54 hi hz0 hz1 hz2 rfl (by decide) W5.heap.size _ _ _ rfl HE8.out (.slice (some ⟨g8, 0, none⟩) 1 1) 1 [.int .i64 gt] rfl (.inr (.inl ⟨g8, 0, 1, rfl, fun j y hj => by cases j with | zero => (simp at hj; subst hj; exact HG8.out) | succ j => simp at hj⟩)) rfl (by intro y hy; simp at hy; subst hy; rfl) (by have := HXS.out.2.2; have := HCI.out; unfold maxLen; omega) (by have := HXS.out.2.2; have := HCI.out; omega) HAD.out.size ?_
                  intro v9 V9 hR9 hO9
                  have hAo : Adds W5 V9 := HAD.out.andThen hO9 (fun i hi e => by have := row_base9 HE8.out _ e; omega)
                  have g9 : V9.cell? ⟨gb, 2, none⟩ = some (.slice (some ⟨hvb, 0, none⟩) n n) := (hAo.cellF (p := ⟨gb, 2, none⟩) (cell_lt g2) id).trans g2
                  refine hK.out _ _ g9 (fun hHeld => ?_)
                  replace HAD := Lib.hid hAo
                  have HR9 := Lib.hid hR9
                  clear hK hAo hO9 hR9 g9
                  try simp only [Act.put, List.getElem_toArray, List.getElem_cons_succ, List.getElem_cons_zero, List.setIfInBounds_toArray, List.set_cons_zero, List.set_cons_succ]
                  refine wpAnyH_take (i := 17) (v := (.pointer (some ⟨hvb, t, none⟩))) rfl (by kernel_rfl) (by kernel_rfl) (by kernel_rfl) (fun _ _ _ h => h) (Or.inl ⟨by rfl, fun W hS => by first | rfl | (go_simp; done)⟩) hHeld ?_
                  try simp only [Act.put, List.getElem_toArray, List.getElem_cons_succ, List.getElem_cons_zero, List.setIfInBounds_toArray, List.set_cons_zero, List.set_cons_succ]
                  obtain ⟨a9, c9, rfl⟩ := ownsRow_slice HR9.out
                  have h9 := (H5.out.add HAD.out).more (d := c + 1) (by omega)
                  have vf := h9.hv.frozen t; have vc := cellA p0 HAD.out
                  have hnd : HandOk V9 P (c + 1) (.slice a9 _ c9) := ⟨xs ++ [gt], by
                    have := row_zero HR9.out
                    simpa using this, fun x hx => by
                    rcases List.mem_append.1 hx with hx | hx
                    · exact HXS.out.2.1 x hx
                    · simp at hx; subst hx; exact ⟨hgt, by rcases HGB.out with e | e <;> omega⟩, by have := HXS.out.2.2; simp; omega⟩
                  have h10 := h9.setHv t hnd
                  have HB10 := Lib.hid (And.intro ((HB5.out.1.only HAD.out id).rowT h9.hv (by decide) (only_at V9 hvb t (Value.slice a9 (xs.length + 1) c9))) (And.intro ((HB5.out.2.1.only HAD.out id).rowT h9.hv (by decide) (only_at V9 hvb t (Value.slice a9 (xs.length + 1) c9))) HB5.out.2.2))
                  have HK10 : Hid (DidsK wr (V9.setCell ⟨hvb, t, none⟩ (Value.slice a9 (xs.length + 1) c9))) := Lib.hid (fun r cc hb => ((HK5.out r cc hb).only HAD.out id).rowT h9.hv (by decide) (only_at V9 hvb t (Value.slice a9 (xs.length + 1) c9)))
                  have HG10 := Lib.hid h10
                  clear h9 h10
                  refine wpAnyH_ready (rs := [18]) (by kernel_rfl) (by simp) (AllReadyH.cons rfl (fun K hK => ?_) AllReadyH.nil)
                  simp only [List.getElem_toArray, List.getElem_cons_succ, List.getElem_cons_zero]
                  rw [if_pos (by rfl)]
                  go_simp
                  refine hK.out _ _ HG10.out.gcells.2.2.1 (fun hHeld => ?_)
                  clear hK
                  try simp only [Act.put, List.getElem_toArray, List.getElem_cons_succ, List.getElem_cons_zero, List.setIfInBounds_toArray, List.set_cons_zero, List.set_cons_succ]
                  refine wpAnyH_done (by kernel_rfl) ?_ _
                  go_wp2_with fail
                  go_meet
                  exact ⟨rfl, _, _, _, HG10, HL5, HA5, HB10, HK10⟩
                · simp only [List.getElem_toArray, List.getElem_cons_succ, List.getElem_cons_zero]
                  go_simp
                  obtain ⟨Y5, hV2⟩ : ∃ V, Y1.alloc (.cells #[.int .i64 gt] 3) = V := ⟨_, rfl⟩
                  have hA2 : Adds Y1 Y5 := by rw [← hV2]; exact (Only.refl (fun _ => False) Y1).alloc _
                  obtain ⟨g8, hbb⟩ : ∃ q, Y1.heap.size = q := ⟨_, rfl⟩
                  have hblk8 : Blk Y5 g8 #[.int .i64 gt] 3 := by rw [← hV2, ← hbb]; exact Blk.new Y1 _ _
                  have hlow8 : W5.heap.size ≤ g8 := by rw [← hbb]; exact HAD.out.size
                  have HNE := Lib.hid (show g8 ≠ e8 by obtain ⟨c9, hb9⟩ := ownsRow_blk HE8.out (g := e8) rfl; have := hb9.lt; omega)
                  replace HE8 := Lib.hid (row_adds HE8.out hA2)
                  have HG8 : Hid (Y5.cell? ⟨g8, 0, none⟩ = some (.int .i64 gt)) := Lib.hid (hblk8.cell 0)
                  try rw [hV2]
                  try rw [hbb]
                  have hg9 := cellA hHeld hA2
                  replace HAD := Lib.hid (HAD.out.thenF hA2)
                  refine hK.out _ _ hg9 (fun hHeld => ?_)
                  clear hK hV2 hA2 hblk8 hlow8 hbb hg9
                  try simp only [Act.put, List.getElem_toArray, List.getElem_cons_succ, List.getElem_cons_zero, List.setIfInBounds_toArray, List.set_cons_zero, List.set_cons_succ]
                  refine wpAnyH_ready (rs := [13]) (by kernel_rfl) (by simp) (AllReadyH.cons rfl (fun K hK => ?_) AllReadyH.nil)
                  simp only [List.getElem_toArray, List.getElem_cons_succ, List.getElem_cons_zero]
                  rw [if_pos (by rfl)]
                  refine wp_append_src _ _ 54 3 rfl i0 (.int .i64 0) 1 8 Tryz.underlying54 hi hz0 hz1 hz2 rfl (by decide) W5.heap.size _ _ _ rfl HE8.out (Hv' t) _ (xs.map (Value.int .i64)) rfl (Src.of_owns (row_adds HXS.out.1 HAD.out)) (by simp) (by intro y hy; obtain ⟨z, _, rfl⟩ := List.mem_map.1 hy; rfl) (by have := HXS.out.2.2; have := HCI.out; unfold maxLen; omega) (by have := HXS.out.2.2; have := HCI.out; omega) HAD.out.size ?_
                  intro v8 Y6 hR9 hO9
                  have hAo : Adds W5 Y6 := HAD.out.andThen hO9 (fun i hi e => by have := row_base9 HE8.out _ e; omega)
                  have g9 : Y6.cell? ⟨gb, 2, none⟩ = some (.slice (some ⟨hvb, 0, none⟩) n n) := (hAo.cellF (p := ⟨gb, 2, none⟩) (cell_lt g2) id).trans g2
                  replace HG8 := Lib.hid ((hO9.cellF (p := ⟨g8, 0, none⟩) (cell_lt HG8.out) (fun e => HNE.out (by have e9 : some g8 = (Value.slice (some ⟨e8, 0, none⟩) 0 0).ownBlock := e; simpa [Value.ownBlock] using e9))).trans HG8.out)
                  refine hK.out _ _ g9 (fun hHeld => ?_)
                  replace HAD := Lib.hid hAo
                  replace HE8 := Lib.hid hR9
                  clear hK hAo hO9 hR9 g9
                  try simp only [Act.put, List.getElem_toArray, List.getElem_cons_succ, List.getElem_cons_zero, List.setIfInBounds_toArray, List.set_cons_zero, List.set_cons_succ]
                  refine wpAnyH_ready (rs := [16]) (by kernel_rfl) (by simp) (AllReadyH.cons rfl (fun K hK => ?_) AllReadyH.nil)
                  simp only [List.getElem_toArray, List.getElem_cons_succ, List.getElem_cons_zero]
                  rw [if_pos (by rfl)]
                  refine wp_append_src _ _ 54 3 rfl i0 (.int .i64 0) 1 8 Tryz.underlying54 hi hz0 hz1 hz2 rfl (by decide) W5.heap.size _ _ _ rfl HE8.out (.slice (some ⟨g8, 0, none⟩) 1 1) 1 [.int .i64 gt] rfl (.inr (.inl ⟨g8, 0, 1, rfl, fun j y hj => by cases j with | zero => (simp at hj; subst hj; exact HG8.out) | succ j => simp at hj⟩)) rfl (by intro y hy; simp at hy; subst hy; rfl) (by have := HXS.out.2.2; have := HCI.out; unfold maxLen; omega) (by have := HXS.out.2.2; have := HCI.out; omega) HAD.out.size ?_
                  intro v9 V9 hR9 hO9
                  have hAo : Adds W5 V9 := HAD.out.andThen hO9 (fun i hi e => by have := row_base9 HE8.out _ e; omega)
                  have g9 : V9.cell? ⟨gb, 2, none⟩ = some (.slice (some ⟨hvb, 0, none⟩) n n) := (hAo.cellF (p := ⟨gb, 2, none⟩) (cell_lt g2) id).trans g2
                  refine hK.out _ _ g9 (fun hHeld => ?_)
                  replace HAD := Lib.hid hAo
                  have HR9 := Lib.hid hR9
                  clear hK hAo hO9 hR9 g9
                  try simp only [Act.put, List.getElem_toArray, List.getElem_cons_succ, List.getElem_cons_zero, List.setIfInBounds_toArray, List.set_cons_zero, List.set_cons_succ]
                  refine wpAnyH_take (i := 17) (v := (.pointer (some ⟨hvb, t, none⟩))) rfl (by kernel_rfl) (by kernel_rfl) (by kernel_rfl) (fun _ _ _ h => h) (Or.inl ⟨by rfl, fun W hS => by first | rfl | (go_simp; done)⟩) hHeld ?_
                  try simp only [Act.put, List.getElem_toArray, List.getElem_cons_succ, List.getElem_cons_zero, List.setIfInBounds_toArray, List.set_cons_zero, List.set_cons_succ]
                  obtain ⟨a9, c9, rfl⟩ := ownsRow_slice HR9.out
                  have h9 := (H5.out.add HAD.out).more (d := c + 1) (by omega)
                  have vf := h9.hv.frozen t; have vc := cellA p0 HAD.out
                  have hnd : HandOk V9 P (c + 1) (.slice a9 _ c9) := ⟨xs ++ [gt], by
                    have := row_zero HR9.out
                    simpa using this, fun x hx => by
                    rcases List.mem_append.1 hx with hx | hx
                    · exact HXS.out.2.1 x hx
                    · simp at hx; subst hx; exact ⟨hgt, by rcases HGB.out with e | e <;> omega⟩, by have := HXS.out.2.2; simp; omega⟩
                  have h10 := h9.setHv t hnd
                  have HB10 := Lib.hid (And.intro ((HB5.out.1.only HAD.out id).rowT h9.hv (by decide) (only_at V9 hvb t (Value.slice a9 (xs.length + 1) c9))) (And.intro ((HB5.out.2.1.only HAD.out id).rowT h9.hv (by decide) (only_at V9 hvb t (Value.slice a9 (xs.length + 1) c9))) HB5.out.2.2))
                  have HK10 : Hid (DidsK wr (V9.setCell ⟨hvb, t, none⟩ (Value.slice a9 (xs.length + 1) c9))) := Lib.hid (fun r cc hb => ((HK5.out r cc hb).only HAD.out id).rowT h9.hv (by decide) (only_at V9 hvb t (Value.slice a9 (xs.length + 1) c9)))
                  have HG10 := Lib.hid h10
                  clear h9 h10
                  refine wpAnyH_ready (rs := [18]) (by kernel_rfl) (by simp) (AllReadyH.cons rfl (fun K hK => ?_) AllReadyH.nil)
                  simp only [List.getElem_toArray, List.getElem_cons_succ, List.getElem_cons_zero]
                  rw [if_pos (by rfl)]
                  go_simp
                  refine hK.out _ _ HG10.out.gcells.2.2.1 (fun hHeld => ?_)
                  clear hK
                  try simp only [Act.put, List.getElem_toArray, List.getElem_cons_succ, List.getElem_cons_zero, List.setIfInBounds_toArray, List.set_cons_zero, List.set_cons_succ]
                  refine wpAnyH_done (by kernel_rfl) ?_ _
                  go_wp2_with fail
                  go_meet
                  exact ⟨rfl, _, _, _, HG10, HL5, HA5, HB10, HK10⟩
              · simp only [List.getElem_toArray, List.getElem_cons_succ, List.getElem_cons_zero]
                go_simp
                obtain ⟨Y7, hV2⟩ : ∃ V, Y1.alloc (.cells #[.int .i64 gt] 3) = V := ⟨_, rfl⟩
                have hA2 : Adds Y1 Y7 := by rw [← hV2]; exact (Only.refl (fun _ => False) Y1).alloc _
                obtain ⟨g8, hbb⟩ : ∃ q, Y1.heap.size = q := ⟨_, rfl⟩
                have hblk8 : Blk Y7 g8 #[.int .i64 gt] 3 := by rw [← hV2, ← hbb]; exact Blk.new Y1 _ _
                have hlow8 : W5.heap.size ≤ g8 := by rw [← hbb]; exact HAD.out.size
                have HNE := Lib.hid (show g8 ≠ e8 by obtain ⟨c9, hb9⟩ := ownsRow_blk HE8.out (g := e8) rfl; have := hb9.lt; omega)
                replace HE8 := Lib.hid (row_adds HE8.out hA2)
                have HG8 : Hid (Y7.cell? ⟨g8, 0, none⟩ = some (.int .i64 gt)) := Lib.hid (hblk8.cell 0)
                try rw [hV2]
                try rw [hbb]
                have hg9 := cellA hHeld hA2
                replace HAD := Lib.hid (HAD.out.thenF hA2)
                refine hK.out _ _ hg9 (fun hHeld => ?_)
                clear hK hV2 hA2 hblk8 hlow8 hbb hg9
                try simp only [Act.put, List.getElem_toArray, List.getElem_cons_succ, List.getElem_cons_zero, List.setIfInBounds_toArray, List.set_cons_zero, List.set_cons_succ]
                refine wpAnyH_ready (rs := [12]) (by kernel_rfl) (by simp) (AllReadyH.cons rfl (fun K hK => ?_) AllReadyH.nil)
                simp only [List.getElem_toArray, List.getElem_cons_succ, List.getElem_cons_zero]
                rw [if_pos (by rfl)]
                have p9 : Y7.cell? ⟨hvb, t, none⟩ = some (Hv' t) := cellA p0 HAD.out
                go_simp
                refine hK.out _ _ hHeld (fun hHeld => ?_)
                clear hK p9
                try simp only [Act.put, List.getElem_toArray, List.getElem_cons_succ, List.getElem_cons_zero, List.setIfInBounds_toArray, List.set_cons_zero, List.set_cons_succ]
                refine wpAnyH_ready (rs := [13]) (by kernel_rfl) (by simp) (AllReadyH.cons rfl (fun K hK => ?_) AllReadyH.nil)
                simp only [List.getElem_toArray, List.getElem_cons_succ, List.getElem_cons_zero]
                rw [if_pos (by rfl)]
                refine wp_append_src _ _ 54 3 rfl i0 (.int .i64 0) 1 8 Tryz.underlying54 hi hz0 hz1 hz2 rfl (by decide) W5.heap.size _ _ _ rfl HE8.out (Hv' t) _ (xs.map (Value.int .i64)) rfl (Src.of_owns (row_adds HXS.out.1 HAD.out)) (by simp) (by intro y hy; obtain ⟨z, _, rfl⟩ := List.mem_map.1 hy; rfl) (by have := HXS.out.2.2; have := HCI.out; unfold maxLen; omega) (by have := HXS.out.2.2; have := HCI.out; omega) HAD.out.size ?_
                intro v8 Y9 hR9 hO9
                have hAo : Adds W5 Y9 := HAD.out.andThen hO9 (fun i hi e => by have := row_base9 HE8.out _ e; omega)
                have g9 : Y9.cell? ⟨gb, 2, none⟩ = some (.slice (some ⟨hvb, 0, none⟩) n n) := (hAo.cellF (p := ⟨gb, 2, none⟩) (cell_lt g2) id).trans g2
                replace HG8 := Lib.hid ((hO9.cellF (p := ⟨g8, 0, none⟩) (cell_lt HG8.out) (fun e => HNE.out (by have e9 : some g8 = (Value.slice (some ⟨e8, 0, none⟩) 0 0).ownBlock := e; simpa [Value.ownBlock] using e9))).trans HG8.out)
                refine hK.out _ _ g9 (fun hHeld => ?_)
                replace HAD := Lib.hid hAo
                replace HE8 := Lib.hid hR9
                clear hK hAo hO9 hR9 g9
                try simp only [Act.put, List.getElem_toArray, List.getElem_cons_succ, List.getElem_cons_zero, List.setIfInBounds_toArray, List.set_cons_zero, List.set_cons_succ]
                refine wpAnyH_ready (rs := [16]) (by kernel_rfl) (by simp) (AllReadyH.cons rfl (fun K hK => ?_) AllReadyH.nil)
                simp only [List.getElem_toArray, List.getElem_cons_succ, List.getElem_cons_zero]
                rw [if_pos (by rfl)]
                refine wp_append_src _ _ 54 3 rfl i0 (.int .i64 0) 1 8 Tryz.underlying54 hi hz0 hz1 hz2 rfl (by decide) W5.heap.size _ _ _ rfl HE8.out (.slice (some ⟨g8, 0, none⟩) 1 1) 1 [.int .i64 gt] rfl (.inr (.inl ⟨g8, 0, 1, rfl, fun j y hj => by cases j with | zero => (simp at hj; subst hj; exact HG8.out) | succ j => simp at hj⟩)) rfl (by intro y hy; simp at hy; subst hy; rfl) (by have := HXS.out.2.2; have := HCI.out; unfold maxLen; omega) (by have := HXS.out.2.2; have := HCI.out; omega) HAD.out.size ?_
                intro v9 V9 hR9 hO9
                have hAo : Adds W5 V9 := HAD.out.andThen hO9 (fun i hi e => by have := row_base9 HE8.out _ e; omega)
                have g9 : V9.cell? ⟨gb, 2, none⟩ = some (.slice (some ⟨hvb, 0, none⟩) n n) := (hAo.cellF (p := ⟨gb, 2, none⟩) (cell_lt g2) id).trans g2
                refine hK.out _ _ g9 (fun hHeld => ?_)
                replace HAD := Lib.hid hAo
                have HR9 := Lib.hid hR9
                clear hK hAo hO9 hR9 g9
                try simp only [Act.put, List.getElem_toArray, List.getElem_cons_succ, List.getElem_cons_zero, List.setIfInBounds_toArray, List.set_cons_zero, List.set_cons_succ]
                refine wpAnyH_take (i := 17) (v := (.pointer (some ⟨hvb, t, none⟩))) rfl (by kernel_rfl) (by kernel_rfl) (by kernel_rfl) (fun _ _ _ h => h) (Or.inl ⟨by rfl, fun W hS => by first | rfl | (go_simp; done)⟩) hHeld ?_
                try simp only [Act.put, List.getElem_toArray, List.getElem_cons_succ, List.getElem_cons_zero, List.setIfInBounds_toArray, List.set_cons_zero, List.set_cons_succ]
                obtain ⟨a9, c9, rfl⟩ := ownsRow_slice HR9.out
                have h9 := (H5.out.add HAD.out).more (d := c + 1) (by omega)
                have vf := h9.hv.frozen t; have vc := cellA p0 HAD.out
                have hnd : HandOk V9 P (c + 1) (.slice a9 _ c9) := ⟨xs ++ [gt], by
                  have := row_zero HR9.out
                  simpa using this, fun x hx => by
                  rcases List.mem_append.1 hx with hx | hx
                  · exact HXS.out.2.1 x hx
                  · simp at hx; subst hx; exact ⟨hgt, by rcases HGB.out with e | e <;> omega⟩, by have := HXS.out.2.2; simp; omega⟩
                have h10 := h9.setHv t hnd
                have HB10 := Lib.hid (And.intro ((HB5.out.1.only HAD.out id).rowT h9.hv (by decide) (only_at V9 hvb t (Value.slice a9 (xs.length + 1) c9))) (And.intro ((HB5.out.2.1.only HAD.out id).rowT h9.hv (by decide) (only_at V9 hvb t (Value.slice a9 (xs.length + 1) c9))) HB5.out.2.2))
                have HK10 : Hid (DidsK wr (V9.setCell ⟨hvb, t, none⟩ (Value.slice a9 (xs.length + 1) c9))) := Lib.hid (fun r cc hb => ((HK5.out r cc hb).only HAD.out id).rowT h9.hv (by decide) (only_at V9 hvb t (Value.slice a9 (xs.length + 1) c9)))
                have HG10 := Lib.hid h10
                clear h9 h10
                refine wpAnyH_ready (rs := [18]) (by kernel_rfl) (by simp) (AllReadyH.cons rfl (fun K hK => ?_) AllReadyH.nil)
                simp only [List.getElem_toArray, List.getElem_cons_succ, List.getElem_cons_zero]
                rw [if_pos (by rfl)]
                go_simp
                refine hK.out _ _ HG10.out.gcells.2.2.1 (fun hHeld => ?_)
                clear hK
                try simp only [Act.put, List.getElem_toArray, List.getElem_cons_succ, List.getElem_cons_zero, List.setIfInBounds_toArray, List.set_cons_zero, List.set_cons_succ]
                refine wpAnyH_done (by kernel_rfl) ?_ _
                go_wp2_with fail
                go_meet
                exact ⟨rfl, _, _, _, HG10, HL5, HA5, HB10, HK10⟩
            · simp only [List.getElem_toArray, List.getElem_cons_succ, List.getElem_cons_zero]
              rw [if_pos (by rfl)]
              have p9 : D.cell? ⟨hvb, t, none⟩ = some (Hv' t) := cellA p0 HAD.out
              go_simp
              refine hK.out _ _ hHeld (fun hHeld => ?_)
              clear hK p9
              try simp only [Act.put, List.getElem_toArray, List.getElem_cons_succ, List.getElem_cons_zero, List.setIfInBounds_toArray, List.set_cons_zero, List.set_cons_succ]
              refine wpAnyH_ready (rs := [5, 15]) (by kernel_rfl) (by simp) (AllReadyH.cons rfl (fun K hK => ?_) (AllReadyH.cons rfl (fun K hK => ?_) AllReadyH.nil))
              · simp only [List.getElem_toArray, List.getElem_cons_succ, List.getElem_cons_zero]
                go_simp
                obtain ⟨Y11, hV2⟩ : ∃ V, D.alloc (.cells #[] 3) = V := ⟨_, rfl⟩
                have hA2 : Adds D Y11 := by rw [← hV2]; exact (Only.refl (fun _ => False) D).alloc _
                obtain ⟨e8, hbb⟩ : ∃ q, D.heap.size = q := ⟨_, rfl⟩
                have hblk8 : Blk Y11 e8 #[] 3 := by rw [← hV2, ← hbb]; exact Blk.new D _ _
                have hlow8 : W5.heap.size ≤ e8 := by rw [← hbb]; exact HAD.out.size
                have HE8 : Hid (Y11.ownsRow W5.heap.size 3 1 (.slice (some ⟨e8, 0, none⟩) 0 0) 0 []) := Lib.hid ⟨rfl, .inr ⟨e8, 0, #[], rfl, hlow8, hblk8, Nat.le_refl _, Nat.zero_le _, rfl, rfl⟩⟩
                try rw [hV2]
                try rw [hbb]
                have hg9 := cellA hHeld hA2
                replace HAD := Lib.hid (HAD.out.thenF hA2)
                refine hK.out _ _ hg9 (fun hHeld => ?_)
                clear hK hV2 hA2 hblk8 hlow8 hbb hg9
                try simp only [Act.put, List.getElem_toArray, List.getElem_cons_succ, List.getElem_cons_zero, List.setIfInBounds_toArray, List.set_cons_zero, List.set_cons_succ]
                refine wpAnyH_ready (rs := [13, 15]) (by kernel_rfl) (by simp) (AllReadyH.cons rfl (fun K hK => ?_) (AllReadyH.cons rfl (fun K hK => ?_) AllReadyH.nil))
                · simp only [List.getElem_toArray, List.getElem_cons_succ, List.getElem_cons_zero]
                  rw [if_pos (by rfl)]
                  refine wp_append_src _ _ 54 3 rfl i0 (.int .i64 0) 1 8 Tryz.underlying54 hi hz0 hz1 hz2 rfl (by decide) W5.heap.size _ _ _ rfl HE8.out (Hv' t) _ (xs.map (Value.int .i64)) rfl (Src.of_owns (row_adds HXS.out.1 HAD.out)) (by simp) (by intro y hy; obtain ⟨z, _, rfl⟩ := List.mem_map.1 hy; rfl) (by have := HXS.out.2.2; have := HCI.out; unfold maxLen; omega) (by have := HXS.out.2.2; have := HCI.out; omega) HAD.out.size ?_
                  intro v8 Y12 hR9 hO9
                  have hAo : Adds W5 Y12 := HAD.out.andThen hO9 (fun i hi e => by have := row_base9 HE8.out _ e; omega)
                  have g9 : Y12.cell? ⟨gb, 2, none⟩ = some (.slice (some ⟨hvb, 0, none⟩) n n) := (hAo.cellF (p := ⟨gb, 2, none⟩) (cell_lt g2) id).trans g2
                  refine hK.out _ _ g9 (fun hHeld => ?_)
                  replace HAD := Lib.hid hAo
                  replace HE8 := Lib.hid hR9
                  clear hK hAo hO9 hR9 g9
                  try simp only [Act.put, List.getElem_toArray, List.getElem_cons_succ, List.getElem_cons_zero, List.setIfInBounds_toArray, List.set_cons_zero, List.set_cons_succ]
                  refine wpAnyH_ready (rs := [15]) (by kernel_rfl) (by simp) (AllReadyH.cons rfl (fun K hK => ?_) AllReadyH.nil)
                  simp only [List.getElem_toArray, List.getElem_cons_succ, List.getElem_cons_zero]
                  go_simp
                  obtain ⟨Y13, hV2⟩ : ∃ V, Y12.alloc (.cells #[.int .i64 gt] 3) = V := ⟨_, rfl⟩
                  have hA2 : Adds Y12 Y13 := by rw [← hV2]; exact (Only.refl (fun _ => False) Y12).alloc _
                  obtain ⟨g8, hbb⟩ : ∃ q, Y12.heap.size = q := ⟨_, rfl⟩
                  have hblk8 : Blk Y13 g8 #[.int .i64 gt] 3 := by rw [← hV2, ← hbb]; exact Blk.new Y12 _ _
                  have hlow8 : W5.heap.size ≤ g8 := by rw [← hbb]; exact HAD.out.size
                  replace HE8 := Lib.hid (row_adds HE8.out hA2)
                  have HG8 : Hid (Y13.cell? ⟨g8, 0, none⟩ = some (.int .i64 gt)) := Lib.hid (hblk8.cell 0)
                  try rw [hV2]
                  try rw [hbb]
                  have hg9 := cellA hHeld hA2
                  replace HAD := Lib.hid (HAD.out.thenF hA2)
                  refine hK.out _ _ hg9 (fun hHeld => ?_)
                  clear hK hV2 hA2 hblk8 hlow8 hbb hg9
                  try simp only [Act.put, List.getElem_toArray, List.getElem_cons_succ, List.getElem_cons_zero, List.setIfInBounds_toArray, List.set_cons_zero, List.set_cons_succ]
                  refine wpAnyH_ready (rs := [16]) (by kernel_rfl) (by simp) (AllReadyH.cons rfl (fun K hK => ?_) AllReadyH.nil)
                  simp only [List.getElem_toArray, List.getElem_cons_succ, List.getElem_cons_zero]
                  rw [if_pos (by rfl)]
                  refine wp_append_src _ _ 54 3 rfl i0 (.int .i64 0) 1 8 Tryz.underlying54 hi hz0 hz1 hz2 rfl (by decide) W5.heap.size _ _ _ rfl HE8.out (.slice (some ⟨g8, 0, none⟩) 1 1) 1 [.int .i64 gt] rfl (.inr (.inl ⟨g8, 0, 1, rfl, fun j y hj => by cases j with | zero => (simp at hj; subst hj; exact HG8.out) | succ j => simp at hj⟩)) rfl (by intro y hy; simp at hy; subst hy; rfl) (by have := HXS.out.2.2; have := HCI.out; unfold maxLen; omega) (by have := HXS.out.2.2; have := HCI.out; omega) HAD.out.size ?_
                  intro v9 V9 hR9 hO9
                  have hAo : Adds W5 V9 := HAD.out.andThen hO9 (fun i hi e => by have := row_base9 HE8.out _ e; omega)
                  have g9 : V9.cell? ⟨gb, 2, none⟩ = some (.slice (some ⟨hvb, 0, none⟩) n n) := (hAo.cellF (p := ⟨gb, 2, none⟩) (cell_lt g2) id).trans g2
                  refine hK.out _ _ g9 (fun hHeld => ?_)
                  replace HAD := Lib.hid hAo
                  have HR9 := Lib.hid hR9
                  clear hK hAo hO9 hR9 g9
                  try simp only [Act.put, List.getElem_toArray, List.getElem_cons_succ, List.getElem_cons_zero, List.setIfInBounds_toArray, List.set_cons_zero, List.set_cons_succ]
                  refine wpAnyH_take (i := 17) (v := (.pointer (some ⟨hvb, t, none⟩))) rfl (by kernel_rfl) (by kernel_rfl) (by kernel_rfl) (fun _ _ _ h => h) (Or.inl ⟨by rfl, fun W hS => by first | rfl | (go_simp; done)⟩) hHeld ?_
                  try simp only [Act.put, List.getElem_toArray, List.getElem_cons_succ, List.getElem_cons_zero, List.setIfInBounds_toArray, List.set_cons_zero, List.set_cons_succ]
                  obtain ⟨a9, c9, rfl⟩ := ownsRow_slice HR9.out
                  have h9 := (H5.out.add HAD.out).more (d := c + 1) (by omega)
                  have vf := h9.hv.frozen t; have vc := cellA p0 HAD.out
                  have hnd : HandOk V9 P (c + 1) (.slice a9 _ c9) := ⟨xs ++ [gt], by
                    have := row_zero HR9.out
                    simpa using this, fun x hx => by
                    rcases List.mem_append.1 hx with hx | hx
                    · exact HXS.out.2.1 x hx
                    · simp at hx; subst hx; exact ⟨hgt, by rcases HGB.out with e | e <;> omega⟩, by have := HXS.out.2.2; simp; omega⟩
                  have h10 := h9.setHv t hnd
                  have HB10 := Lib.hid (And.intro ((HB5.out.1.only HAD.out id).rowT h9.hv (by decide) (only_at V9 hvb t (Value.slice a9 (xs.length + 1) c9))) (And.intro ((HB5.out.2.1.only HAD.out id).rowT h9.hv (by decide) (only_at V9 hvb t (Value.slice a9 (xs.length + 1) c9))) HB5.out.2.2))
                  have HK10 : Hid (DidsK wr (V9.setCell ⟨hvb, t, none⟩ (Value.slice a9 (xs.length + 1) c9))) := Lib.hid (fun r cc hb => ((HK5.out r cc hb).only HAD.out id).rowT h9.hv (by decide) (only_at V9 hvb t (Value.slice a9 (xs.length + 1) c9)))
                  have HG10 := Lib.hid h10
                  clear h9 h10
                  refine wpAnyH_ready (rs := [18]) (by kernel_rfl) (by simp) (AllReadyH.cons rfl (fun K hK => ?_) AllReadyH.nil)
                  simp only [List.getElem_toArray, List.getElem_cons_succ, List.getElem_cons_zero]
                  rw [if_pos (by rfl)]
                  go_simp
                  refine hK.out _ _ HG10.out.gcells.2.2.1 (fun hHeld => ?_)
                  clear hK
                  try simp only [Act.put, List.getElem_toArray, List.getElem_cons_succ, List.getElem_cons_zero, List.setIfInBounds_toArray, List.set_cons_zero, List.set_cons_succ]
                  refine wpAnyH_done (by kernel_rfl) ?_ _
                  go_wp2_with fail
                  go_meet
                  exact ⟨rfl, _, _, _, HG10, HL5, HA5, HB10, HK10⟩
                · simp only [List.getElem_toArray, List.getElem_cons_succ, List.getElem_cons_zero]
                  go_simp
                  obtain ⟨Y14, hV2⟩ : ∃ V, Y11.alloc (.cells #[.int .i64 gt] 3) = V := ⟨_, rfl⟩
                  have hA2 : Adds Y11 Y14 := by rw [← hV2]; exact (Only.refl (fun _ => False) Y11).alloc _
                  obtain ⟨g8, hbb⟩ : ∃ q, Y11.heap.size = q := ⟨_, rfl⟩
                  have hblk8 : Blk Y14 g8 #[.int .i64 gt] 3 := by rw [← hV2, ← hbb]; exact Blk.new Y11 _ _
                  have hlow8 : W5.heap.size ≤ g8 := by rw [← hbb]; exact HAD.out.size
                  have HNE := Lib.hid (show g8 ≠ e8 by obtain ⟨c9, hb9⟩ := ownsRow_blk HE8.out (g := e8) rfl; have := hb9.lt; omega)
                  replace HE8 := Lib.hid (row_adds HE8.out hA2)
                  have HG8 : Hid (Y14.cell? ⟨g8, 0, none⟩ = some (.int .i64 gt)) := Lib.hid (hblk8.cell 0)
                  try rw [hV2]
                  try rw [hbb]
                  have hg9 := cellA hHeld hA2
                  replace HAD := Lib.hid (HAD.out.thenF hA2)
                  refine hK.out _ _ hg9 (fun hHeld => ?_)
                  clear hK hV2 hA2 hblk8 hlow8 hbb hg9
                  try simp only [Act.put, List.getElem_toArray, List.getElem_cons_succ, List.getElem_cons_zero, List.setIfInBounds_toArray, List.set_cons_zero, List.set_cons_succ]
                  refine wpAnyH_ready (rs := [13]) (by kernel_rfl) (by simp) (AllReadyH.cons rfl (fun K hK => ?_) AllReadyH.nil)
                  simp only [List.getElem_toArray, List.getElem_cons_succ, List.getElem_cons_zero]
                  rw [if_pos (by rfl)]
                  refine wp_append_src _ _ 54 3 rfl i0 (.int .i64 0) 1 8 Tryz.underlying54 hi hz0 hz1 hz2 rfl (by decide) W5.heap.size _ _ _ rfl HE8.out (Hv' t) _ (xs.map (Value.int .i64)) rfl (Src.of_owns (row_adds HXS.out.1 HAD.out)) (by simp) (by intro y hy; obtain ⟨z, _, rfl⟩ := List.mem_map.1 hy; rfl) (by have := HXS.out.2.2; have := HCI.out; unfold maxLen; omega) (by have := HXS.out.2.2; have := HCI.out; omega) HAD.out.size ?_
                  intro v8 Y15 hR9 hO9
                  have hAo : Adds W5 Y15 := HAD.out.andThen hO9 (fun i hi e => by have := row_base9 HE8.out _ e; omega)
                  have g9 : Y15.cell? ⟨gb, 2, none⟩ = some (.slice (some ⟨hvb, 0, none⟩) n n) := (hAo.cellF (p := ⟨gb, 2, none⟩) (cell_lt g2) id).trans g2
                  replace HG8 := Lib.hid ((hO9.cellF (p := ⟨g8, 0, none⟩) (cell_lt HG8.out) (fun e => HNE.out (by have e9 : some g8 = (Value.slice (some ⟨e8, 0, none⟩) 0 0).ownBlock := e; simpa [Value.ownBlock] using e9))).trans HG8.out)
                  refine hK.out _ _ g9 (fun hHeld => ?_)
                  replace HAD := Lib.hid hAo
                  replace HE8 := Lib.hid hR9
                  clear hK hAo hO9 hR9 g9
                  try simp only [Act.put, List.getElem_toArray, List.getElem_cons_succ, List.getElem_cons_zero, List.setIfInBounds_toArray, List.set_cons_zero, List.set_cons_succ]
                  refine wpAnyH_ready (rs := [16]) (by kernel_rfl) (by simp) (AllReadyH.cons rfl (fun K hK => ?_) AllReadyH.nil)
                  simp only [List.getElem_toArray, List.getElem_cons_succ, List.getElem_cons_zero]
                  rw [if_pos (by rfl)]
                  refine wp_append_src _ _ 54 3 rfl i0 (.int .i64 0) 1 8 Tryz.underlying54 hi hz0 hz1 hz2 rfl (by decide) W5.heap.size _ _ _ rfl HE8.out (.slice (some ⟨g8, 0, none⟩) 1 1) 1 [.int .i64 gt] rfl (.inr (.inl ⟨g8, 0, 1, rfl, fun j y hj => by cases j with | zero => (simp at hj; subst hj; exact HG8.out) | succ j => simp at hj⟩)) rfl (by intro y hy; simp at hy; subst hy; rfl) (by have := HXS.out.2.2; have := HCI.out; unfold maxLen; omega) (by have := HXS.out.2.2; have := HCI.out; omega) HAD.out.size ?_
                  intro v9 V9 hR9 hO9
                  have hAo : Adds W5 V9 := HAD.out.andThen hO9 (fun i hi e => by have := row_base9 HE8.out _ e; omega)
                  have g9 : V9.cell? ⟨gb, 2, none⟩ = some (.slice (some ⟨hvb, 0, none⟩) n n) := (hAo.cellF (p := ⟨gb, 2, none⟩) (cell_lt g2) id).trans g2
                  refine hK.out _ _ g9 (fun hHeld => ?_)
                  replace HAD := Lib.hid hAo
                  have HR9 := Lib.hid hR9
                  clear hK hAo hO9 hR9 g9
                  try simp only [Act.put, List.getElem_toArray, List.getElem_cons_succ, List.getElem_cons_zero, List.setIfInBounds_toArray, List.set_cons_zero, List.set_cons_succ]
                  refine wpAnyH_take (i := 17) (v := (.pointer (some ⟨hvb, t, none⟩))) rfl (by kernel_rfl) (by kernel_rfl) (by kernel_rfl) (fun _ _ _ h => h) (Or.inl ⟨by rfl, fun W hS => by first | rfl | (go_simp; done)⟩) hHeld ?_
                  try simp only [Act.put, List.getElem_toArray, List.getElem_cons_succ, List.getElem_cons_zero, List.setIfInBounds_toArray, List.set_cons_zero, List.set_cons_succ]
                  obtain ⟨a9, c9, rfl⟩ := ownsRow_slice HR9.out
                  have h9 := (H5.out.add HAD.out).more (d := c + 1) (by omega)
                  have vf := h9.hv.frozen t; have vc := cellA p0 HAD.out
                  have hnd : HandOk V9 P (c + 1) (.slice a9 _ c9) := ⟨xs ++ [gt], by
                    have := row_zero HR9.out
                    simpa using this, fun x hx => by
                    rcases List.mem_append.1 hx with hx | hx
                    · exact HXS.out.2.1 x hx
                    · simp at hx; subst hx; exact ⟨hgt, by rcases HGB.out with e | e <;> omega⟩, by have := HXS.out.2.2; simp; omega⟩
                  have h10 := h9.setHv t hnd
                  have HB10 := Lib.hid (And.intro ((HB5.out.1.only HAD.out id).rowT h9.hv (by decide) (only_at V9 hvb t (Value.slice a9 (xs.length + 1) c9))) (And.intro ((HB5.out.2.1.only HAD.out id).rowT h9.hv (by decide) (only_at V9 hvb t (Value.slice a9 (xs.length + 1) c9))) HB5.out.2.2))
                  have HK10 : Hid (DidsK wr (V9.setCell ⟨hvb, t, none⟩ (Value.slice a9 (xs.length + 1) c9))) := Lib.hid (fun r cc hb => ((HK5.out r cc hb).only HAD.out id).rowT h9.hv (by decide) (only_at V9 hvb t (Value.slice a9 (xs.length + 1) c9)))
                  have HG10 := Lib.hid h10
                  clear h9 h10
                  refine wpAnyH_ready (rs := [18]) (by kernel_rfl) (by simp) (AllReadyH.cons rfl (fun K hK => ?_) AllReadyH.nil)
                  simp only [List.getElem_toArray, List.getElem_cons_succ, List.getElem_cons_zero]
                  rw [if_pos (by rfl)]
                  go_simp
                  refine hK.out _ _ HG10.out.gcells.2.2.1 (fun hHeld => ?_)
                  clear hK
                  try simp only [Act.put, List.getElem_toArray, List.getElem_cons_succ, List.getElem_cons_zero, List.setIfInBounds_toArray, List.set_cons_zero, List.set_cons_succ]
                  refine wpAnyH_done (by kernel_rfl) ?_ _
                  go_wp2_with fail
                  go_meet
                  exact ⟨rfl, _, _, _, HG10, HL5, HA5, HB10, HK10⟩
              · simp only [List.getElem_toArray, List.getElem_cons_succ, List.getElem_cons_zero]
                go_simp
                obtain ⟨Y16, hV2⟩ : ∃ V, D.alloc (.cells #[.int .i64 gt] 3) = V := ⟨_, rfl⟩
                have hA2 : Adds D Y16 := by rw [← hV2]; exact (Only.refl (fun _ => False) D).alloc _
                obtain ⟨g8, hbb⟩ : ∃ q, D.heap.size = q := ⟨_, rfl⟩
                have hblk8 : Blk Y16 g8 #[.int .i64 gt] 3 := by rw [← hV2, ← hbb]; exact Blk.new D _ _
                have hlow8 : W5.heap.size ≤ g8 := by rw [← hbb]; exact HAD.out.size
                have HG8 : Hid (Y16.cell? ⟨g8, 0, none⟩ = some (.int .i64 gt)) := Lib.hid (hblk8.cell 0)
                try rw [hV2]
                try rw [hbb]
                have hg9 := cellA hHeld hA2
                replace HAD := Lib.hid (HAD.out.thenF hA2)
                refine hK.out _ _ hg9 (fun hHeld => ?_)
                clear hK hV2 hA2 hblk8 hlow8 hbb hg9
                try simp only [Act.put, List.getElem_toArray, List.getElem_cons_succ, List.getElem_cons_zero, List.setIfInBounds_toArray, List.set_cons_zero, List.set_cons_succ]
                refine wpAnyH_ready (rs := [5]) (by kernel_rfl) (by simp) (AllReadyH.cons rfl (fun K hK => ?_) AllReadyH.nil)
                simp only [List.getElem_toArray, List.getElem_cons_succ, List.getElem_cons_zero]
                go_simp
                obtain ⟨Y17, hV2⟩ : ∃ V, Y16.alloc (.cells #[] 3) = V := ⟨_, rfl⟩
                have hA2 : Adds Y16 Y17 := by rw [← hV2]; exact (Only.refl (fun _ => False) Y16).alloc _
                obtain ⟨e8, hbb⟩ : ∃ q, Y16.heap.size = q := ⟨_, rfl⟩
                have hblk8 : Blk Y17 e8 #[] 3 := by rw [← hV2, ← hbb]; exact Blk.new Y16 _ _
                have hlow8 : W5.heap.size ≤ e8 := by rw [← hbb]; exact HAD.out.size
                have HNE := Lib.hid (show g8 ≠ e8 by have := cell_lt HG8.out; omega)
                have HE8 : Hid (Y17.ownsRow W5.heap.size 3 1 (.slice (some ⟨e8, 0, none⟩) 0 0) 0 []) := Lib.hid ⟨rfl, .inr ⟨e8, 0, #[], rfl, hlow8, hblk8, Nat.le_refl _, Nat.zero_le _, rfl, rfl⟩⟩
                replace HG8 := Lib.hid (cellA HG8.out hA2)
                try rw [hV2]
                try rw [hbb]
                have hg9 := cellA hHeld hA2
                replace HAD := Lib.hid (HAD.out.thenF hA2)
                refine hK.out _ _ hg9 (fun hHeld => ?_)
                clear hK hV2 hA2 hblk8 hlow8 hbb hg9
                try simp only [Act.put, List.getElem_toArray, List.getElem_cons_succ, List.getElem_cons_zero, List.setIfInBounds_toArray, List.set_cons_zero, List.set_cons_succ]
                refine wpAnyH_ready (rs := [13]) (by kernel_rfl) (by simp) (AllReadyH.cons rfl (fun K hK => ?_) AllReadyH.nil)
                simp only [List.getElem_toArray, List.getElem_cons_succ, List.getElem_cons_zero]
                rw [if_pos (by rfl)]
                refine wp_append_src _ _ 54 3 rfl i0 (.int .i64 0) 1 8 Tryz.underlying54 hi hz0 hz1 hz2 rfl (by decide) W5.heap.size _ _ _ rfl HE8.out (Hv' t) _ (xs.map (Value.int .i64)) rfl (Src.of_owns (row_adds HXS.out.1 HAD.out)) (by simp) (by intro y hy; obtain ⟨z, _, rfl⟩ := List.mem_map.1 hy; rfl) (by have := HXS.out.2.2; have := HCI.out; unfold maxLen; omega) (by have := HXS.out.2.2; have := HCI.out; omega) HAD.out.size ?_
                intro v8 Y18 hR9 hO9
                have hAo : Adds W5 Y18 := HAD.out.andThen hO9 (fun i hi e => by have := row_base9 HE8.out _ e; omega)
                have g9 : Y18.cell? ⟨gb, 2, none⟩ = some (.slice (some ⟨hvb, 0, none⟩) n n) := (hAo.cellF (p := ⟨gb, 2, none⟩) (cell_lt g2) id).trans g2
                replace HG8 := Lib.hid ((hO9.cellF (p := ⟨g8, 0, none⟩) (cell_lt HG8.out) (fun e => HNE.out (by have e9 : some g8 = (Value.slice (some ⟨e8, 0, none⟩) 0 0).ownBlock := e; simpa [Value.ownBlock] using e9))).trans HG8.out)
                refine hK.out _ _ g9 (fun hHeld => ?_)
                replace HAD := Lib.hid hAo
                replace HE8 := Lib.hid hR9
                clear hK hAo hO9 hR9 g9
                try simp only [Act.put, List.getElem_toArray, List.getElem_cons_succ, List.getElem_cons_zero, List.setIfInBounds_toArray, List.set_cons_zero, List.set_cons_succ]
                refine wpAnyH_ready (rs := [16]) (by kernel_rfl) (by simp) (AllReadyH.cons rfl (fun K hK => ?_) AllReadyH.nil)
                simp only [List.getElem_toArray, List.getElem_cons_succ, List.getElem_cons_zero]
                rw [if_pos (by rfl)]
                refine wp_append_src _ _ 54 3 rfl i0 (.int .i64 0) 1 8 Tryz.underlying54 hi hz0 hz1 hz2 rfl (by decide) W5.heap.size _ _ _ rfl HE8.out (.slice (some ⟨g8, 0, none⟩) 1 1) 1 [.int .i64 gt] rfl (.inr (.inl ⟨g8, 0, 1, rfl, fun j y hj => by cases j with | zero => (simp at hj; subst hj; exact HG8.out) | succ j => simp at hj⟩)) rfl (by intro y hy; simp at hy; subst hy; rfl) (by have := HXS.out.2.2; have := HCI.out; unfold maxLen; omega) (by have := HXS.out.2.2; have := HCI.out; omega) HAD.out.size ?_
                intro v9 V9 hR9 hO9
                have hAo : Adds W5 V9 := HAD.out.andThen hO9 (fun i hi e => by have := row_base9 HE8.out _ e; omega)
                have g9 : V9.cell? ⟨gb, 2, none⟩ = some (.slice (some ⟨hvb, 0, none⟩) n n) := (hAo.cellF (p := ⟨gb, 2, none⟩) (cell_lt g2) id).trans g2
                refine hK.out _ _ g9 (fun hHeld => ?_)
                replace HAD := Lib.hid hAo
                have HR9 := Lib.hid hR9
                clear hK hAo hO9 hR9 g9
                try simp only [Act.put, List.getElem_toArray, List.getElem_cons_succ, List.getElem_cons_zero, List.setIfInBounds_toArray, List.set_cons_zero, List.set_cons_succ]
                refine wpAnyH_take (i := 17) (v := (.pointer (some ⟨hvb, t, none⟩))) rfl (by kernel_rfl) (by kernel_rfl) (by kernel_rfl) (fun _ _ _ h => h) (Or.inl ⟨by rfl, fun W hS => by first | rfl | (go_simp; done)⟩) hHeld ?_
                try simp only [Act.put, List.getElem_toArray, List.getElem_cons_succ, List.getElem_cons_zero, List.setIfInBounds_toArray, List.set_cons_zero, List.set_cons_succ]
                obtain ⟨a9, c9, rfl⟩ := ownsRow_slice HR9.out
                have h9 := (H5.out.add HAD.out).more (d := c + 1) (by omega)
                have vf := h9.hv.frozen t; have vc := cellA p0 HAD.out
                have hnd : HandOk V9 P (c + 1) (.slice a9 _ c9) := ⟨xs ++ [gt], by
                  have := row_zero HR9.out
                  simpa using this, fun x hx => by
                  rcases List.mem_append.1 hx with hx | hx
                  · exact HXS.out.2.1 x hx
                  · simp at hx; subst hx; exact ⟨hgt, by rcases HGB.out with e | e <;> omega⟩, by have := HXS.out.2.2; simp; omega⟩
                have h10 := h9.setHv t hnd
                have HB10 := Lib.hid (And.intro ((HB5.out.1.only HAD.out id).rowT h9.hv (by decide) (only_at V9 hvb t (Value.slice a9 (xs.length + 1) c9))) (And.intro ((HB5.out.2.1.only HAD.out id).rowT h9.hv (by decide) (only_at V9 hvb t (Value.slice a9 (xs.length + 1) c9))) HB5.out.2.2))
                have HK10 : Hid (DidsK wr (V9.setCell ⟨hvb, t, none⟩ (Value.slice a9 (xs.length + 1) c9))) := Lib.hid (fun r cc hb => ((HK5.out r cc hb).only HAD.out id).rowT h9.hv (by decide) (only_at V9 hvb t (Value.slice a9 (xs.length + 1) c9)))
                have HG10 := Lib.hid h10
                clear h9 h10
                refine wpAnyH_ready (rs := [18]) (by kernel_rfl) (by simp) (AllReadyH.cons rfl (fun K hK => ?_) AllReadyH.nil)
                simp only [List.getElem_toArray, List.getElem_cons_succ, List.getElem_cons_zero]
                rw [if_pos (by rfl)]
                go_simp
                refine hK.out _ _ HG10.out.gcells.2.2.1 (fun hHeld => ?_)
                clear hK
                try simp only [Act.put, List.getElem_toArray, List.getElem_cons_succ, List.getElem_cons_zero, List.setIfInBounds_toArray, List.set_cons_zero, List.set_cons_succ]
                refine wpAnyH_done (by kernel_rfl) ?_ _
                go_wp2_with fail
                go_meet
                exact ⟨rfl, _, _, _, HG10, HL5, HA5, HB10, HK10⟩
            · simp only [List.getElem_toArray, List.getElem_cons_succ, List.getElem_cons_zero]
              go_simp
              obtain ⟨Y19, hV2⟩ : ∃ V, D.alloc (.cells #[.int .i64 gt] 3) = V := ⟨_, rfl⟩
              have hA2 : Adds D Y19 := by rw [← hV2]; exact (Only.refl (fun _ => False) D).alloc _
              obtain ⟨g8, hbb⟩ : ∃ q, D.heap.size = q := ⟨_, rfl⟩
              have hblk8 : Blk Y19 g8 #[.int .i64 gt] 3 := by rw [← hV2, ← hbb]; exact Blk.new D _ _
              have hlow8 : W5.heap.size ≤ g8 := by rw [← hbb]; exact HAD.out.size
              have HG8 : Hid (Y19.cell? ⟨g8, 0, none⟩ = some (.int .i64 gt)) := Lib.hid (hblk8.cell 0)
              try rw [hV2]
              try rw [hbb]
              have hg9 := cellA hHeld hA2
              replace HAD := Lib.hid (HAD.out.thenF hA2)
              refine hK.out _ _ hg9 (fun hHeld => ?_)
              clear hK hV2 hA2 hblk8 hlow8 hbb hg9
              try simp only [Act.put, List.getElem_toArray, List.getElem_cons_succ, List.getElem_cons_zero, List.setIfInBounds_toArray, List.set_cons_zero, List.set_cons_succ]
              refine wpAnyH_ready (rs := [5, 12]) (by kernel_rfl) (by simp) (AllReadyH.cons rfl (fun K hK => ?_) (AllReadyH.cons rfl (fun K hK => ?_) AllReadyH.nil))
              · simp only [List.getElem_toArray, List.getElem_cons_succ, List.getElem_cons_zero]
                go_simp
                obtain ⟨Y20, hV2⟩ : ∃ V, Y19.alloc (.cells #[] 3) = V := ⟨_, rfl⟩
                have hA2 : Adds Y19 Y20 := by rw [← hV2]; exact (Only.refl (fun _ => False) Y19).alloc _
                obtain ⟨e8, hbb⟩ : ∃ q, Y19.heap.size = q := ⟨_, rfl⟩
                have hblk8 : Blk Y20 e8 #[] 3 := by rw [← hV2, ← hbb]; exact Blk.new Y19 _ _
                have hlow8 : W5.heap.size ≤ e8 := by rw [← hbb]; exact HAD.out.size
                have HNE := Lib.hid (show g8 ≠ e8 by have := cell_lt HG8.out; omega)
                have HE8 : Hid (Y20.ownsRow W5.heap.size 3 1 (.slice (some ⟨e8, 0, none⟩) 0 0) 0 []) := Lib.hid ⟨rfl, .inr ⟨e8, 0, #[], rfl, hlow8, hblk8, Nat.le_refl _, Nat.zero_le _, rfl, rfl⟩⟩
                replace HG8 := Lib.hid (cellA HG8.out hA2)
                try rw [hV2]
                try rw [hbb]
                have hg9 := cellA hHeld hA2
                replace HAD := Lib.hid (HAD.out.thenF hA2)
                refine hK.out _ _ hg9 (fun hHeld => ?_)
                clear hK hV2 hA2 hblk8 hlow8 hbb hg9
                try simp only [Act.put, List.getElem_toArray, List.getElem_cons_succ, List.getElem_cons_zero, List.setIfInBounds_toArray, List.set_cons_zero, List.set_cons_succ]
                refine wpAnyH_ready (rs := [12]) (by kernel_rfl) (by simp) (AllReadyH.cons rfl (fun K hK => ?_) AllReadyH.nil)
                simp only [List.getElem_toArray, List.getElem_cons_succ, List.getElem_cons_zero]
                rw [if_pos (by rfl)]
                have p9 : Y20.cell? ⟨hvb, t, none⟩ = some (Hv' t) := cellA p0 HAD.out
                go_simp
                refine hK.out _ _ hHeld (fun hHeld => ?_)
                clear hK p9
                try simp only [Act.put, List.getElem_toArray, List.getElem_cons_succ, List.getElem_cons_zero, List.setIfInBounds_toArray, List.set_cons_zero, List.set_cons_succ]
                refine wpAnyH_ready (rs := [13]) (by kernel_rfl) (by simp) (AllReadyH.cons rfl (fun K hK => ?_) AllReadyH.nil)
                simp only [List.getElem_toArray, List.getElem_cons_succ, List.getElem_cons_zero]
                rw [if_pos (by rfl)]
                refine wp_append_src _ _ 54 3 rfl i0 (.int .i64 0) 1 8 Tryz.underlying54 hi hz0 hz1 hz2 rfl (by decide) W5.heap.size _ _ _ rfl HE8.out (Hv' t) _ (xs.map (Value.int .i64)) rfl (Src.of_owns (row_adds HXS.out.1 HAD.out)) (by simp) (by intro y hy; obtain ⟨z, _, rfl⟩ := List.mem_map.1 hy; rfl) (by have := HXS.out.2.2; have := HCI.out; unfold maxLen; omega) (by have := HXS.out.2.2; have := HCI.out; omega) HAD.out.size ?_
                intro v8 Y22 hR9 hO9
                have hAo : Adds W5 Y22 := HAD.out.andThen hO9 (fun i hi e => by have := row_base9 HE8.out _ e; omega)
                have g9 : Y22.cell? ⟨gb, 2, none⟩ = some (.slice (some ⟨hvb, 0, none⟩) n n) := (hAo.cellF (p := ⟨gb, 2, none⟩) (cell_lt g2) id).trans g2
                replace HG8 := Lib.hid ((hO9.cellF (p := ⟨g8, 0, none⟩) (cell_lt HG8.out) (fun e => HNE.out (by have e9 : some g8 = (Value.slice (some ⟨e8, 0, none⟩) 0 0).ownBlock := e; simpa [Value.ownBlock] using e9))).trans HG8.out)
                refine hK.out _ _ g9 (fun hHeld => ?_)
                replace HAD := Lib.hid hAo
                replace HE8 := Lib.hid hR9
                clear hK hAo hO9 hR9 g9
                try simp only [Act.put, List.getElem_toArray, List.getElem_cons_succ, List.getElem_cons_zero, List.setIfInBounds_toArray, List.set_cons_zero, List.set_cons_succ]
                refine wpAnyH_ready (rs := [16]) (by kernel_rfl) (by simp) (AllReadyH.cons rfl (fun K hK => ?_) AllReadyH.nil)
                simp only [List.getElem_toArray, List.getElem_cons_succ, List.getElem_cons_zero]
                rw [if_pos (by rfl)]
                refine wp_append_src _ _ 54 3 rfl i0 (.int .i64 0) 1 8 Tryz.underlying54 hi hz0 hz1 hz2 rfl (by decide) W5.heap.size _ _ _ rfl HE8.out (.slice (some ⟨g8, 0, none⟩) 1 1) 1 [.int .i64 gt] rfl (.inr (.inl ⟨g8, 0, 1, rfl, fun j y hj => by cases j with | zero => (simp at hj; subst hj; exact HG8.out) | succ j => simp at hj⟩)) rfl (by intro y hy; simp at hy; subst hy; rfl) (by have := HXS.out.2.2; have := HCI.out; unfold maxLen; omega) (by have := HXS.out.2.2; have := HCI.out; omega) HAD.out.size ?_
                intro v9 V9 hR9 hO9
                have hAo : Adds W5 V9 := HAD.out.andThen hO9 (fun i hi e => by have := row_base9 HE8.out _ e; omega)
                have g9 : V9.cell? ⟨gb, 2, none⟩ = some (.slice (some ⟨hvb, 0, none⟩) n n) := (hAo.cellF (p := ⟨gb, 2, none⟩) (cell_lt g2) id).trans g2
                refine hK.out _ _ g9 (fun hHeld => ?_)
                replace HAD := Lib.hid hAo
                have HR9 := Lib.hid hR9
                clear hK hAo hO9 hR9 g9
                try simp only [Act.put, List.getElem_toArray, List.getElem_cons_succ, List.getElem_cons_zero, List.setIfInBounds_toArray, List.set_cons_zero, List.set_cons_succ]
                refine wpAnyH_take (i := 17) (v := (.pointer (some ⟨hvb, t, none⟩))) rfl (by kernel_rfl) (by kernel_rfl) (by kernel_rfl) (fun _ _ _ h => h) (Or.inl ⟨by rfl, fun W hS => by first | rfl | (go_simp; done)⟩) hHeld ?_
                try simp only [Act.put, List.getElem_toArray, List.getElem_cons_succ, List.getElem_cons_zero, List.setIfInBounds_toArray, List.set_cons_zero, List.set_cons_succ]
                obtain ⟨a9, c9, rfl⟩ := ownsRow_slice HR9.out
                have h9 := (H5.out.add HAD.out).more (d := c + 1) (by omega)
                have vf := h9.hv.frozen t; have vc := cellA p0 HAD.out
                have hnd : HandOk V9 P (c + 1) (.slice a9 _ c9) := ⟨xs ++ [gt], by
                  have := row_zero HR9.out
                  simpa using this, fun x hx => by
                  rcases List.mem_append.1 hx with hx | hx
                  · exact HXS.out.2.1 x hx
                  · simp at hx; subst hx; exact ⟨hgt, by rcases HGB.out with e | e <;> omega⟩, by have := HXS.out.2.2; simp; omega⟩
                have h10 := h9.setHv t hnd
                have HB10 := Lib.hid (And.intro ((HB5.out.1.only HAD.out id).rowT h9.hv (by decide) (only_at V9 hvb t (Value.slice a9 (xs.length + 1) c9))) (And.intro ((HB5.out.2.1.only HAD.out id).rowT h9.hv (by decide) (only_at V9 hvb t (Value.slice a9 (xs.length + 1) c9))) HB5.out.2.2))
                have HK10 : Hid (DidsK wr (V9.setCell ⟨hvb, t, none⟩ (Value.slice a9 (xs.length + 1) c9))) := Lib.hid (fun r cc hb => ((HK5.out r cc hb).only HAD.out id).rowT h9.hv (by decide) (only_at V9 hvb t (Value.slice a9 (xs.length + 1) c9)))
                have HG10 := Lib.hid h10
                clear h9 h10
                refine wpAnyH_ready (rs := [18]) (by kernel_rfl) (by simp) (AllReadyH.cons rfl (fun K hK => ?_) AllReadyH.nil)
                simp only [List.getElem_toArray, List.getElem_cons_succ, List.getElem_cons_zero]
                rw [if_pos (by rfl)]
                go_simp
                refine hK.out _ _ HG10.out.gcells.2.2.1 (fun hHeld => ?_)
                clear hK
                try simp only [Act.put, List.getElem_toArray, List.getElem_cons_succ, List.getElem_cons_zero, List.setIfInBounds_toArray, List.set_cons_zero, List.set_cons_succ]
                refine wpAnyH_done (by kernel_rfl) ?_ _
                go_wp2_with fail
                go_meet
                exact ⟨rfl, _, _, _, HG10, HL5, HA5, HB10, HK10⟩
              · simp only [List.getElem_toArray, List.getElem_cons_succ, List.getElem_cons_zero]
                rw [if_pos (by rfl)]
                have p9 : Y19.cell? ⟨hvb, t, none⟩ = some (Hv' t) := cellA p0 HAD.out
                go_simp
                refine hK.out _ _ hHeld (fun hHeld => ?_)
                clear hK p9
                try simp only [Act.put, List.getElem_toArray, List.getElem_cons_succ, List.getElem_cons_zero, List.setIfInBounds_toArray, List.set_cons_zero, List.set_cons_succ]
                refine wpAnyH_ready (rs := [5]) (by kernel_rfl) (by simp) (AllReadyH.cons rfl (fun K hK => ?_) AllReadyH.nil)
                simp only [List.getElem_toArray, List.getElem_cons_succ, List.getElem_cons_zero]
                go_simp
                obtain ⟨Y24, hV2⟩ : ∃ V, Y19.alloc (.cells #[] 3) = V := ⟨_, rfl⟩
                have hA2 : Adds Y19 Y24 := by rw [← hV2]; exact (Only.refl (fun _ => False) Y19).alloc _
                obtain ⟨e8, hbb⟩ : ∃ q, Y19.heap.size = q := ⟨_, rfl⟩
                have hblk8 : Blk Y24 e8 #[] 3 := by rw [← hV2, ← hbb]; exact Blk.new Y19 _ _
                have hlow8 : W5.heap.size ≤ e8 := by rw [← hbb]; exact HAD.out.size
                have HNE := Lib.hid (show g8 ≠ e8 by have := cell_lt HG8.out; omega)
                have HE8 : Hid (Y24.ownsRow W5.heap.size 3 1 (.slice (some ⟨e8, 0, none⟩) 0 0) 0 []) := Lib.hid ⟨rfl, .inr ⟨e8, 0, #[], rfl, hlow8, hblk8, Nat.le_refl _, Nat.zero_le _, rfl, rfl⟩⟩
                replace HG8 := Lib.hid (cellA HG8.out hA2)
                try rw [hV2]
                try rw [hbb]
                have hg9 := cellA hHeld hA2
                replace HAD := Lib.hid (HAD.out.thenF hA2)
                refine hK.out _ _ hg9 (fun hHeld => ?_)
                clear hK hV2 hA2 hblk8 hlow8 hbb hg9
                try simp only [Act.put, List.getElem_toArray, List.getElem_cons_succ, List.getElem_cons_zero, List.setIfInBounds_toArray, List.set_cons_zero, List.set_cons_succ]
                refine wpAnyH_ready (rs := [13]) (by kernel_rfl) (by simp) (AllReadyH.cons rfl (fun K hK => ?_) AllReadyH.nil)
                simp only [List.getElem_toArray, List.getElem_cons_succ, List.getElem_cons_zero]
                rw [if_pos (by rfl)]
                refine wp_append_src _ _ 54 3 rfl i0 (.int .i64 0) 1 8 Tryz.underlying54 hi hz0 hz1 hz2 rfl (by decide) W5.heap.size _ _ _ rfl HE8.out (Hv' t) _ (xs.map (Value.int .i64)) rfl (Src.of_owns (row_adds HXS.out.1 HAD.out)) (by simp) (by intro y hy; obtain ⟨z, _, rfl⟩ := List.mem_map.1 hy; rfl) (by have := HXS.out.2.2; have := HCI.out; unfold maxLen; omega) (by have := HXS.out.2.2; have := HCI.out; omega) HAD.out.size ?_
                intro v8 Y25 hR9 hO9
                have hAo : Adds W5 Y25 := HAD.out.andThen hO9 (fun i hi e => by have := row_base9 HE8.out _ e; omega)
                have g9 : Y25.cell? ⟨gb, 2, none⟩ = some (.slice (some ⟨hvb, 0, none⟩) n n) := (hAo.cellF (p := ⟨gb, 2, none⟩) (cell_lt g2) id).trans g2
                replace HG8 := Lib.hid ((hO9.cellF (p := ⟨g8, 0, none⟩) (cell_lt HG8.out) (fun e => HNE.out (by have e9 : some g8 = (Value.slice (some ⟨e8, 0, none⟩) 0 0).ownBlock := e; simpa [Value.ownBlock] using e9))).trans HG8.out)
                refine hK.out _ _ g9 (fun hHeld => ?_)
                replace HAD := Lib.hid hAo
                replace HE8 := Lib.hid hR9
                clear hK hAo hO9 hR9 g9
                try simp only [Act.put, List.getElem_toArray, List.getElem_cons_succ, List.getElem_cons_zero, List.setIfInBounds_toArray, List.set_cons_zero, List.set_cons_succ]
                refine wpAnyH_ready (rs := [16]) (by kernel_rfl) (by simp) (AllReadyH.cons rfl (fun K hK => ?_) AllReadyH.nil)
                simp only [List.getElem_toArray, List.getElem_cons_succ, List.getElem_cons_zero]
                rw [if_pos (by rfl)]
                refine wp_append_src _ _ 54 3 rfl i0 (.int .i64 0) 1 8 Tryz.underlying54 hi hz0 hz1 hz2 rfl (by decide) W5.heap.size _ _ _ rfl HE8.out (.slice (some ⟨g8, 0, none⟩) 1 1) 1 [.int .i64 gt] rfl (.inr (.inl ⟨g8, 0, 1, rfl, fun j y hj => by cases j with | zero => (simp at hj; subst hj; exact HG8.out) | succ j => simp at hj⟩)) rfl (by intro y hy; simp at hy; subst hy; rfl) (by have := HXS.out.2.2; have := HCI.out; unfold maxLen; omega) (by have := HXS.out.2.2; have := HCI.out; omega) HAD.out.size ?_
                intro v9 V9 hR9 hO9
                have hAo : Adds W5 V9 := HAD.out.andThen hO9 (fun i hi e => by have := row_base9 HE8.out _ e; omega)
                have g9 : V9.cell? ⟨gb, 2, none⟩ = some (.slice (some ⟨hvb, 0, none⟩) n n) := (hAo.cellF (p := ⟨gb, 2, none⟩) (cell_lt g2) id).trans g2
                refine hK.out _ _ g9 (fun hHeld => ?_)
                replace HAD := Lib.hid hAo
                have HR9 := Lib.hid hR9
                clear hK hAo hO9 hR9 g9
                try simp only [Act.put, List.getElem_toArray, List.getElem_cons_succ, List.getElem_cons_zero, List.setIfInBounds_toArray, List.set_cons_zero, List.set_cons_succ]
                refine wpAnyH_take (i := 17) (v := (.pointer (some ⟨hvb, t, none⟩))) rfl (by kernel_rfl) (by kernel_rfl) (by kernel_rfl) (fun _ _ _ h => h) (Or.inl ⟨by rfl, fun W hS => by first | rfl | (go_simp; done)⟩) hHeld ?_
                try simp only [Act.put, List.getElem_toArray, List.getElem_cons_succ, List.getElem_cons_zero, List.setIfInBounds_toArray, List.set_cons_zero, List.set_cons_succ]
                obtain ⟨a9, c9, rfl⟩ := ownsRow_slice HR9.out
                have h9 := (H5.out.add HAD.out).more (d := c + 1) (by omega)
                have vf := h9.hv.frozen t; have vc := cellA p0 HAD.out
                have hnd : HandOk V9 P (c + 1) (.slice a9 _ c9) := ⟨xs ++ [gt], by
                  have := row_zero HR9.out
                  simpa using this, fun x hx => by
                  rcases List.mem_append.1 hx with hx | hx
                  · exact HXS.out.2.1 x hx
                  · simp at hx; subst hx; exact ⟨hgt, by rcases HGB.out with e | e <;> omega⟩, by have := HXS.out.2.2; simp; omega⟩
                have h10 := h9.setHv t hnd
                have HB10 := Lib.hid (And.intro ((HB5.out.1.only HAD.out id).rowT h9.hv (by decide) (only_at V9 hvb t (Value.slice a9 (xs.length + 1) c9))) (And.intro ((HB5.out.2.1.only HAD.out id).rowT h9.hv (by decide) (only_at V9 hvb t (Value.slice a9 (xs.length + 1) c9))) HB5.out.2.2))
                have HK10 : Hid (DidsK wr (V9.setCell ⟨hvb, t, none⟩ (Value.slice a9 (xs.length + 1) c9))) := Lib.hid (fun r cc hb => ((HK5.out r cc hb).only HAD.out id).rowT h9.hv (by decide) (only_at V9 hvb t (Value.slice a9 (xs.length + 1) c9)))
                have HG10 := Lib.hid h10
                clear h9 h10
                refine wpAnyH_ready (rs := [18]) (by kernel_rfl) (by simp) (AllReadyH.cons rfl (fun K hK => ?_) AllReadyH.nil)
                simp only [List.getElem_toArray, List.getElem_cons_succ, List.getElem_cons_zero]
                rw [if_pos (by rfl)]
                go_simp
                refine hK.out _ _ HG10.out.gcells.2.2.1 (fun hHeld => ?_)
                clear hK
                try simp only [Act.put, List.getElem_toArray, List.getElem_cons_succ, List.getElem_cons_zero, List.setIfInBounds_toArray, List.set_cons_zero, List.set_cons_succ]
                refine wpAnyH_done (by kernel_rfl) ?_ _
                go_wp2_with fail
                go_meet
                exact ⟨rfl, _, _, _, HG10, HL5, HA5, HB10, HK10⟩
      case rest =>
        obtain ⟨rfl, L1, Hv1, On1, HG4, HL4, HA4, HB4, HK4⟩ := hcut
        have e0 := HB4.out.1.cell 0; have e1 := HB4.out.1.cell 1; have e2 := HB4.out.1.cell 2; have e3 := HB4.out.1.cell 3
        have f0 := HB4.out.1.frozen 0; have f1 := HB4.out.1.frozen 1; have f2 := HB4.out.1.frozen 2; have f3 := HB4.out.1.frozen 3
        have d0 := HB4.out.2.1.cell 0; have d1 := HB4.out.2.1.cell 1; have d2 := HB4.out.2.1.cell 2; have d3 := HB4.out.2.1.cell 3
        go_wp2_with fail
        obtain ⟨W9, hW9⟩ : ∃ W, ((((wc.setCell ⟨r6, 0, none⟩ (.int .i64 ka)).setCell ⟨r6, 1, none⟩ (.int .i64 kp)).setCell ⟨r6, 2, none⟩ (.int .u64 ko)).setCell ⟨r6, 3, none⟩ (.int .u64 kw)) = W := ⟨_, rfl⟩
        have hb9 := did4b HB4.out.1 (.int .i64 ka) (.int .i64 kp) (.int .u64 ko) (.int .u64 kw)
        have ho9 := did4 wc r6 (.int .i64 ka) (.int .i64 kp) (.int .u64 ko) (.int .u64 kw)
        rw [hW9] at hb9 ho9
        try rw [hW9]
        have y0 := hb9.cell 0; have y1 := hb9.cell 1; have y2 := hb9.cell 2; have y3 := hb9.cell 3
        have hg9 := HG4.out.did HB4.out.1 HLW6.out ho9
        have hk9 : DidsK wr W9 := fun r cc hb => (HK4.out r cc hb).only ho9 (fun e => by have := hb.lt; have := HRL.out; omega)
        exact bodyPost_ret (v := .tuple #[.agg #[.int .i64 ka, .int .i64 kp, .int .u64 ko, .int .u64 kw], .bool true]) (by simp [y0, y1, y2, y3, results, Tryz.results20, go_sem]) rfl ⟨hk9, _, _, _, _, rfl, S1, S2, L1, Hv1, Mc', On1, Pu', hg9, HL4.out, HA4.out, HS3.out.1, HS3.out.2⟩
end
end Go.Proofs.YthhnpcniijpfeaaGreat

/- Lanes whose machine of the program has blocks of its own beside it: what it runs. By an AI agent. -/
import Derived.Test.YtmnliddjddpchaaGreatZLanes
namespace Go.Proofs.YtmnliddjddpchaaGreat
open Go.RowKit
set_option linter.unusedSimpArgs false
set_option linter.unusedVariables false
/-- What is asked of the states of the program's machines; fp: their other blocks. -/
structure FOps {κ : Type} (LA : World → Nat → κ → Prop) (ty : TypeId → Prop) (fp : κ → Nat → Prop) : Prop where
  keep : ∀ {S : Nat → Prop} {w w' : World} {m : Nat} {k : κ}, LA w m k → Only S w w' → ¬ S m → (∀ j, fp k j → ¬ S j) → (∀ b x t, Blk w b #[x] t → ¬ S b) → LA w' m k
  blk : ∀ {w : World} {m : Nat} {k : κ}, LA w m k → ∃ c t, Blk w m c t ∧ c.size ≠ 1 ∧ ty t
  fblk : ∀ {w : World} {m : Nat} {k : κ}, LA w m k → ∀ j, fp k j → ∃ c t, Blk w j c t ∧ c.size ≠ 1 ∧ ty t
  ty : ∀ t, ty t → MTy t
structure FLanes {κ : Type} (LA : World → Nat → κ → Prop) (fp : κ → Nat → Prop) (w : World) (sm tm : Nat) (L : List (Option (Lane κ))) : Prop where
  A : ∀ (t : Nat) (z : Lane κ), L[t]? = some (some z) → LA w z.a z.k
  B : ∀ (t : Nat) (z : Lane κ), L[t]? = some (some z) → IsM w z.b z.x z.lg z.mr z.mem
  ne : ∀ (t t' : Nat) (z z' : Lane κ), t ≠ t' → L[t]? = some (some z) → L[t']? = some (some z') → z.a ≠ z'.a ∧ z.b ≠ z'.b ∧ (∀ g, z.lg.ownBlock = some g → z'.lg.ownBlock ≠ some g) ∧ ∀ j, fp z.k j → j ≠ z'.a ∧ ¬ fp z'.k j
  nl : ∀ (t : Nat) (z : Lane κ), L[t]? = some (some z) → z.lg.ownBlock ≠ some sm ∧ z.lg.ownBlock ≠ some tm
section
variable {κ : Type} {LA : World → Nat → κ → Prop} {ty : TypeId → Prop} {fp : κ → Nat → Prop} {w w' : World} {ab sb sm rb rg bb tb tm ub fb : Nat} {P T : Int} {s s' s2 : StoreS} {L : List (Option (Lane κ))} {z : Lane κ} {t : Nat}
theorem FLanes.empty (n : Nat) : FLanes LA fp w sm tm (List.replicate n none) := by
  have k : ∀ (t : Nat) (z : Lane κ), (List.replicate n (none : Option (Lane κ)))[t]? = some (some z) → False := fun t z h => by
    rw [List.getElem?_replicate] at h; split at h <;> simp at h
  exact ⟨fun t z h => (k t z h).elim, fun t z h => (k t z h).elim, fun t _ z _ _ h _ => (k t z h).elim, fun t z h => (k t z h).elim⟩
theorem FLanes.keep (O : FOps LA ty fp) (h : FLanes LA fp w sm tm L) {S : Nat → Prop} (ho : Only S w w') (h1 : ∀ (t : Nat) (z : Lane κ), L[t]? = some (some z) → ¬ S z.a ∧ ¬ S z.b ∧ (∀ g, z.lg.ownBlock = some g → ¬ S g) ∧ ∀ j, fp z.k j → ¬ S j) (hs : ∀ b x t, Blk w b #[x] t → ¬ S b) : FLanes LA fp w' sm tm L :=
  ⟨fun t z e => O.keep (h.A t z e) ho (h1 t z e).1 (h1 t z e).2.2.2 hs, fun t z e => (h.B t z e).only ho (h1 t z e).2.1 (h1 t z e).2.2.1, h.ne, h.nl⟩
theorem FLanes.adds (O : FOps LA ty fp) (h : FLanes LA fp w sm tm L) (ho : Adds w w') : FLanes LA fp w' sm tm L := h.keep O ho (fun _ _ _ => ⟨id, id, fun _ _ => id, fun _ _ => id⟩) (fun _ _ _ _ => id)
/-- A block of a type that no lane has is turned: a row's, whatever it holds, if the machines stand it. -/
theorem FLanes.rowK (h : FLanes LA fp w sm tm L) {r : Nat} {c : Array Value} {u : TypeId} (hr : Blk w r c u) (h1 : u ≠ 58) (h2 : u ≠ 39) (ho : Only (· = r) w w') (hk : ∀ (t : Nat) (z : Lane κ), L[t]? = some (some z) → LA w' z.a z.k) : FLanes LA fp w' sm tm L :=
  ⟨hk, fun t z e => (h.B t z e).only ho (fun e2 => by
      have := (h.B t z e).blk
      rw [e2] at this
      exact h1 (hr.uniq this).2) (fun g hg e2 => by
      obtain ⟨c2, hc2⟩ := ownsRow_blk (h.B t z e).row hg
      rw [e2] at hc2
      exact h2 (hr.uniq hc2).2), h.ne, h.nl⟩
/-- A step of the program's machine of lane t. -/
theorem FLanes.stepA (O : FOps LA ty fp) (h : FLanes LA fp w sm tm L) (hY : Yard w ab sb sm rb P T s) (hbig : 1 < s.ws.length) (hz : L[t]? = some (some z)) {k' : κ} (ho : Only (fun j => (SB sb sm j ∨ j = z.a) ∨ fp z.k j) w w') (ha : LA w' z.a k') (hf : ∀ j, fp k' j → fp z.k j ∨ w.heap.size ≤ j) : FLanes LA fp w' sm tm (L.set t (some { z with k := k' })) := by
  obtain ⟨c, u, hb, hc, hty⟩ := O.blk (h.A t z hz)
  obtain ⟨hu1, hu2, hu3, hu4, hu5, hu6, hu7⟩ := O.ty u hty
  have hF := O.fblk (h.A t z hz)
  have hs : ∀ (b : Nat) (x : Value) (t : TypeId), Blk w b #[x] t → ¬ ((SB sb sm b ∨ b = z.a) ∨ fp z.k b) := fun b x t hx e => by
    rcases e with (e | e) | e
    · exact hY.multi hbig hx e
    · subst e; exact hc (by rw [(hb.uniq hx).1]; rfl)
    · obtain ⟨c2, t2, hb2, hc2, _⟩ := hF b e; exact hc2 (by rw [(hb2.uniq hx).1]; rfl)
  have kB : ∀ (j : Nat) (y : Lane κ), L[j]? = some (some y) → IsM w' y.b y.x y.lg y.mr y.mem := fun j y e => (h.B j y e).only ho (fun q => by
      rcases q with ((q | q) | q) | q
      · have := (h.B j y e).blk; rw [q] at this; have := (this.uniq hY.st.head).2; revert this; decide
      · have := (h.B j y e).blk; rw [q] at this; have := (this.uniq hY.st.row).2; revert this; decide
      · have := (h.B j y e).blk; rw [q] at this; exact hu7 (hb.uniq this).2
      · obtain ⟨c2, t2, hb2, _, h2⟩ := hF _ q; exact (O.ty t2 h2).2.2.2.2.2.2 (hb2.uniq (h.B j y e).blk).2) (fun g hg q => by
      obtain ⟨c2, hc2⟩ := ownsRow_blk (h.B j y e).row hg
      rcases q with ((q | q) | q) | q
      · rw [q] at hc2; have := (hc2.uniq hY.st.head).2; revert this; decide
      · exact (h.nl j y e).1 (q ▸ hg)
      · rw [q] at hc2; exact hu4 (hb.uniq hc2).2
      · obtain ⟨c3, t2, hb2, _, h2⟩ := hF _ q; exact (O.ty t2 h2).2.2.2.1 (hb2.uniq hc2).2)
  have lt : ∀ (j : Nat) (y : Lane κ), L[j]? = some (some y) → y.a < w.heap.size ∧ ∀ i, fp y.k i → i < w.heap.size := fun j y e => by
    obtain ⟨c2, t2, h2, _⟩ := O.blk (h.A j y e)
    exact ⟨h2.lt, fun i hi => by obtain ⟨c3, t3, h3, _⟩ := O.fblk (h.A j y e) i hi; exact h3.lt⟩
  have kS : ∀ {i : Nat} {c2 : Array Value} {t2 : TypeId}, Blk w i c2 t2 → ty t2 → ¬ SB sb sm i := fun hx mt q => by
    obtain ⟨m1, m2, m3, m4, _⟩ := O.ty _ mt
    rcases q with q | q
    · rw [q] at hx; exact m2 (hx.uniq hY.st.head).2
    · rw [q] at hx; exact m4 (hx.uniq hY.st.row).2
  refine ⟨fun j y e => ?_, fun j y e => ?_, fun j j' y y' hj e e' => ?_, fun j y e => ?_⟩
  · rcases set_cases e with ⟨rfl, e2⟩ | ⟨hj, e2⟩
    · injection e2 with e2; subst e2; exact ha
    · refine O.keep (h.A j y e2) ho (fun q => ?_) (fun i hi q => ?_) hs
      · rcases q with (q | q) | q
        · obtain ⟨c2, t2, h2, _, mt⟩ := O.blk (h.A j y e2); exact kS h2 mt q
        · exact (h.ne j t y z hj e2 hz).1 q
        · exact ((h.ne t j z y (Ne.symm hj) hz e2).2.2.2 y.a q).1 rfl
      · rcases q with (q | q) | q
        · obtain ⟨c2, t2, h2, _, mt⟩ := O.fblk (h.A j y e2) i hi; exact kS h2 mt q
        · exact ((h.ne j t y z hj e2 hz).2.2.2 i hi).1 q
        · exact ((h.ne j t y z hj e2 hz).2.2.2 i hi).2 q
  · rcases set_cases e with ⟨rfl, e2⟩ | ⟨hj, e2⟩
    · injection e2 with e2; subst e2; exact kB _ z hz
    · exact kB j y e2
  · rcases set_cases e with ⟨rfl, e2⟩ | ⟨hj1, e2⟩
    · rcases set_cases e' with ⟨rfl, e3⟩ | ⟨hj2, e3⟩
      · exact absurd rfl hj
      · injection e2 with e2; subst e2
        obtain ⟨n1, n2, n3, n4⟩ := h.ne j j' z y' hj hz e3
        refine ⟨n1, n2, n3, fun i hi => ?_⟩
        rcases hf i hi with h1 | h1
        · exact n4 i h1
        · have := lt j' y' e3
          exact ⟨fun e => by omega, fun e => by have := this.2 i e; omega⟩
    · rcases set_cases e' with ⟨rfl, e3⟩ | ⟨hj2, e3⟩
      · injection e3 with e3; subst e3
        obtain ⟨n1, n2, n3, n4⟩ := h.ne j j' y z hj e2 hz
        refine ⟨n1, n2, n3, fun i hi => ⟨(n4 i hi).1, fun e => ?_⟩⟩
        rcases hf i e with h1 | h1
        · exact (n4 i hi).2 h1
        · have := (lt j y e2).2 i hi; omega
      · exact h.ne j j' y y' hj e2 e3
  · rcases set_cases e with ⟨rfl, e2⟩ | ⟨hj, e2⟩
    · injection e2 with e2; subst e2; exact h.nl j z hz
    · exact h.nl j y e2
/-- A step of the document's machine of lane t. -/
theorem FLanes.stepB (O : FOps LA ty fp) (h : FLanes LA fp w sm tm L) (hM : IsMem w bb tb tm ub fb P T s) (hbig : 1 < s.ws.length) (hsm : sm < w.heap.size) (hz : L[t]? = some (some z)) {x1 : MS} {s1 : StoreS} (hst : Steps w w' z.b bb tb tm ub fb P T s1 x1 z.lg) :
    ∃ lg1 mk1, FLanes LA fp w' sm tm (L.set t (some { z with x := x1, lg := lg1, mr := mk1, mem := .pointer (some ⟨bb, 0, none⟩) })) ∧ IsMem w' bb tb tm ub fb P T s1 ∧ Only (MT w z.b z.lg tb tm) w w' ∧ Lg w z.lg lg1 := by
  obtain ⟨lg1, mk1, hmm, ho, hl⟩ := hst
  have zb := (h.B t z hz).blk
  have hlt := fun j y e => (h.B j y e).lt
  have hs : ∀ (b : Nat) (x : Value) (u : TypeId), Blk w b #[x] u → ¬ MT w z.b z.lg tb tm b := fun b x u hx e => by
    rcases e with (e | e) | e | ⟨e1, e2⟩
    · subst e; have := congrArg Array.size (hx.uniq hM.st.head).1; simp [StoreS.arr] at this
    · subst e; have := congrArg Array.size (hx.uniq hM.st.row).1; simp at this; omega
    · subst e; have := congrArg Array.size (hx.uniq zb).1; simp [MS.arr] at this
    · exact e2.not hx
  have kM : ∀ {i : Nat} {c : Array Value} {u : TypeId}, Blk w i c u → ty u → ¬ MT w z.b z.lg tb tm i := fun hb hty q => by
    obtain ⟨hu1, hu2, hu3, hu4, hu5, hu6, hu7⟩ := O.ty _ hty
    rcases q with (q | q) | q | ⟨q, _⟩
    · rw [q] at hb; exact hu3 (hb.uniq hM.st.head).2
    · rw [q] at hb; exact hu4 (hb.uniq hM.st.row).2
    · rw [q] at hb; exact hu7 (hb.uniq zb).2
    · obtain ⟨c2, hc2⟩ := ownsRow_blk (h.B t z hz).row q; exact hu4 (hb.uniq hc2).2
  have kA : ∀ (j : Nat) (y : Lane κ), L[j]? = some (some y) → LA w' y.a y.k := fun j y e => by
    obtain ⟨c, u, hb, hc, hty⟩ := O.blk (h.A j y e)
    exact O.keep (h.A j y e) ho (kM hb hty) (fun i hi => by obtain ⟨c2, u2, hb2, _, h2⟩ := O.fblk (h.A j y e) i hi; exact kM hb2 h2) hs
  refine ⟨lg1, mk1, ⟨fun j y e => ?_, fun j y e => ?_, fun j j' y y' hj e e' => ?_, fun j y e => ?_⟩, hmm.mem, ho, hl⟩
  · rcases set_cases e with ⟨rfl, e2⟩ | ⟨hj, e2⟩
    · injection e2 with e2; subst e2; exact kA _ z hz
    · exact kA j y e2
  · rcases set_cases e with ⟨rfl, e2⟩ | ⟨hj, e2⟩
    · injection e2 with e2; subst e2; exact hmm.m
    · refine (h.B j y e2).only ho (fun q => ?_) (fun g hg q => ?_)
      · have yb := (h.B j y e2).blk
        rcases q with (q | q) | q | ⟨q, _⟩
        · rw [q] at yb; have := (yb.uniq hM.st.head).2; revert this; decide
        · rw [q] at yb; have := (yb.uniq hM.st.row).2; revert this; decide
        · exact (h.ne j t y z hj e2 hz).2.1 q
        · obtain ⟨c2, hc2⟩ := ownsRow_blk (h.B t z hz).row q; have := (yb.uniq hc2).2; revert this; decide
      · obtain ⟨c2, hc2⟩ := ownsRow_blk (h.B j y e2).row hg
        rcases q with (q | q) | q | ⟨q, _⟩
        · rw [q] at hc2; have := (hc2.uniq hM.st.head).2; revert this; decide
        · exact (h.nl j y e2).2 (q ▸ hg)
        · rw [q] at hc2; have := (hc2.uniq zb).2; revert this; decide
        · exact (h.ne j t y z hj e2 hz).2.2.1 g hg q
  · have kk : ∀ (j : Nat) (y : Lane κ), j ≠ t → L[j]? = some (some y) → ∀ g, lg1.ownBlock = some g → y.lg.ownBlock ≠ some g := fun j y hj e2 g hg q => by
      rcases hl g hg with h1 | h1
      · exact (h.ne j t y z hj e2 hz).2.2.1 g q h1
      · have := hlt j y e2 g q; omega
    rcases set_cases e with ⟨rfl, e2⟩ | ⟨hj1, e2⟩
    · rcases set_cases e' with ⟨rfl, e3⟩ | ⟨hj2, e3⟩
      · exact absurd rfl hj
      · injection e2 with e2; subst e2
        obtain ⟨n1, n2, n3, n4⟩ := h.ne j j' z y' hj hz e3
        exact ⟨n1, n2, kk j' y' hj2 e3, n4⟩
    · rcases set_cases e' with ⟨rfl, e3⟩ | ⟨hj2, e3⟩
      · injection e3 with e3; subst e3
        obtain ⟨n1, n2, n3, n4⟩ := h.ne j j' y z hj e2 hz
        exact ⟨n1, n2, fun g hg q => kk j y hj1 e2 g q hg, n4⟩
      · exact h.ne j j' y y' hj e2 e3
  · rcases set_cases e with ⟨rfl, e2⟩ | ⟨hj, e2⟩
    · injection e2 with e2; subst e2
      exact ⟨fun q => by
        rcases hl sm q with h1 | h1
        · exact (h.nl j z hz).1 h1
        · omega, hmm.ne⟩
    · exact h.nl j y e2
/-- A lane is given up. -/
theorem FLanes.drop (h : FLanes LA fp w sm tm L) (t : Nat) : FLanes LA fp w sm tm (L.set t none) := by
  have k : ∀ (j : Nat) (y : Lane κ), (L.set t none)[j]? = some (some y) → L[j]? = some (some y) := fun j y e => by
    rcases set_cases e with ⟨_, e2⟩ | ⟨_, e2⟩
    · cases e2
    · exact e2
  exact ⟨fun j y e => h.A j y (k j y e), fun j y e => h.B j y (k j y e), fun j j' y y' hj e e' => h.ne j j' y y' hj (k j y e) (k j' y' e'), fun j y e => h.nl j y (k j y e)⟩
/-- A new lane: its blocks are new. -/
theorem FLanes.add (h : FLanes LA fp w sm tm L) (O : FOps LA ty fp) {w0 : World} (h0 : FLanes LA fp w0 sm tm L) (ha : LA w z.a z.k) (hb : IsM w z.b z.x z.lg z.mr z.mem) (hl : z.lg = .slice none 0 0) (na : w0.heap.size ≤ z.a) (nb : w0.heap.size ≤ z.b) (nf : ∀ j, fp z.k j → w0.heap.size ≤ j) : FLanes LA fp w sm tm (L.set t (some z)) := by
  have k : ∀ (j : Nat) (y : Lane κ), L[j]? = some (some y) → y.a < w0.heap.size ∧ y.b < w0.heap.size ∧ ∀ i, fp y.k i → i < w0.heap.size := fun j y e => by
    obtain ⟨c, u, hb, _⟩ := O.blk (h0.A j y e)
    exact ⟨hb.lt, (h0.B j y e).blk.lt, fun i hi => by obtain ⟨c3, t3, h3, _⟩ := O.fblk (h0.A j y e) i hi; exact h3.lt⟩
  have hn : ∀ g, z.lg.ownBlock ≠ some g := fun g e => by rw [hl] at e; cases e
  refine ⟨fun j y e => ?_, fun j y e => ?_, fun j j' y y' hj e e' => ?_, fun j y e => ?_⟩
  · rcases set_cases e with ⟨rfl, e2⟩ | ⟨hj, e2⟩
    · injection e2 with e2; subst e2; exact ha
    · exact h.A j y e2
  · rcases set_cases e with ⟨rfl, e2⟩ | ⟨hj, e2⟩
    · injection e2 with e2; subst e2; exact hb
    · exact h.B j y e2
  · rcases set_cases e with ⟨rfl, e2⟩ | ⟨hj1, e2⟩
    · rcases set_cases e' with ⟨rfl, e3⟩ | ⟨hj2, e3⟩
      · exact absurd rfl hj
      · injection e2 with e2; subst e2
        have := k j' y' e3
        exact ⟨by omega, by omega, fun g hg => absurd hg (hn g), fun i hi => by
          have h1 := nf i hi
          exact ⟨by omega, fun q => by have := this.2.2 i q; omega⟩⟩
    · rcases set_cases e' with ⟨rfl, e3⟩ | ⟨hj2, e3⟩
      · injection e3 with e3; subst e3
        have := k j y e2
        exact ⟨by omega, by omega, fun g _ q => hn g q, fun i hi => by
          have h2 := this.2.2 i hi
          exact ⟨by omega, fun q => by have := nf i q; omega⟩⟩
      · exact h.ne j j' y y' hj e2 e3
  · rcases set_cases e with ⟨rfl, e2⟩ | ⟨hj, e2⟩
    · injection e2 with e2; subst e2; exact ⟨hn _, hn _⟩
    · exact h.nl j y e2
/-- The two arenas and the machines of both sides; nothing that lay in w has turned. -/
structure FC {κ : Type} (LA : World → Nat → κ → Prop) (fp : κ → Nat → Prop) (w : World) (ab sb sm rb rg bb tb tm ub fb : Nat) (P T : Int) (wr : World) (s s' : StoreS) (L : List (Option (Lane κ))) : Prop where
  both : Both wr ab sb sm rb rg bb tb tm ub fb P T s s'
  len : s.ws.length = (Lay.words P T).toNat
  len' : s'.ws.length = (Lay.words P T).toNat
  lanes : FLanes LA fp wr sm tm L
  lowL : ∀ (t : Nat) (z : Lane κ), L[t]? = some (some z) → w.heap.size ≤ z.a ∧ w.heap.size ≤ z.b ∧ (∀ g, z.lg.ownBlock = some g → w.heap.size ≤ g) ∧ ∀ j, fp z.k j → w.heap.size ≤ j
  low : w.heap.size ≤ ab ∧ w.heap.size ≤ sb ∧ w.heap.size ≤ sm ∧ w.heap.size ≤ bb ∧ w.heap.size ≤ tb ∧ w.heap.size ≤ tm
  adds : Adds w wr
variable {wr : World} {k' : κ}
theorem FC.add (O : FOps LA ty fp) (h : FC LA fp w ab sb sm rb rg bb tb tm ub fb P T wr s s' L) (ho : Adds wr w') : FC LA fp w ab sb sm rb rg bb tb tm ub fb P T w' s s' L :=
  ⟨h.both.adds ho, h.len, h.len', h.lanes.adds O ho, h.lowL, h.low, h.adds.thenF ho⟩
theorem FC.big (h : FC LA fp w ab sb sm rb rg bb tb tm ub fb P T wr s s' L) (hm : Lay.may P T = true) : 1 < s.ws.length ∧ 1 < s'.ws.length := by
  have := (mem_words_bd hm).1
  rw [h.len, h.len']
  omega
/-- A word of both sides. -/
theorem FC.put (O : FOps LA ty fp) (h : FC LA fp w ab sb sm rb rg bb tb tm ub fb P T wr s s' L) (hm : Lay.may P T = true) {s1 s1' : StoreS} (hB : Both w' ab sb sm rb rg bb tb tm ub fb P T s1 s1') (hl : s1.ws.length = s.ws.length) (hl' : s1'.ws.length = s'.ws.length) (ho : Only (fun j => SB sb sm j ∨ SB tb tm j) wr w') :
    FC LA fp w ab sb sm rb rg bb tb tm ub fb P T w' s1 s1' L ∧ (∀ r c u, Blk wr r c u → RowOk ty u → Blk w' r c u) := by
  have hb := h.big hm
  have hY := h.both.yard; have hM := h.both.mem
  have ks : ∀ {b : Nat} {c : Array Value} {u : TypeId}, Blk wr b c u → u ≠ 110 → u ≠ 84 → (u ≠ 39 ∨ (b ≠ sm ∧ b ≠ tm)) → ¬ (SB sb sm b ∨ SB tb tm b) := fun hx h1 h2 h3 e => by
    rcases e with (e | e) | (e | e)
    · subst e; exact h1 (hx.uniq hY.st.head).2
    · rcases h3 with h3 | h3
      · subst e; exact h3 (hx.uniq hY.st.row).2
      · exact h3.1 e
    · subst e; exact h2 (hx.uniq hM.st.head).2
    · rcases h3 with h3 | h3
      · subst e; exact h3 (hx.uniq hM.st.row).2
      · exact h3.2 e
  refine ⟨⟨hB, hl.trans h.len, hl'.trans h.len', h.lanes.keep O ho (fun t z e => ⟨?_, ?_, fun g hg => ?_, fun i hi => ?_⟩) (fun b x u hx e => ?_), h.lowL, h.low, ?_⟩, fun r c u hx hu => hx.only ho (ks hx hu.2.1 hu.2.2.1 (.inl hu.2.2.2.1))⟩
  · obtain ⟨c, u, hx, _, hty⟩ := O.blk (h.lanes.A t z e)
    obtain ⟨hu1, hu2, hu3, hu4, _⟩ := O.ty u hty
    exact ks hx hu2 hu3 (.inl hu4)
  · exact ks (h.lanes.B t z e).blk (by decide) (by decide) (.inl (by decide))
  · obtain ⟨c, hx⟩ := ownsRow_blk (h.lanes.B t z e).row hg
    exact ks hx (by decide) (by decide) (.inr ⟨fun q => (h.lanes.nl t z e).1 (q ▸ hg), fun q => (h.lanes.nl t z e).2 (q ▸ hg)⟩)
  · obtain ⟨c, u, hx, _, hty⟩ := O.fblk (h.lanes.A t z e) i hi
    obtain ⟨hu1, hu2, hu3, hu4, _⟩ := O.ty u hty
    exact ks hx hu2 hu3 (.inl hu4)
  · rcases e with e | (e | e)
    · exact hY.multi hb.1 hx e
    · subst e; have := congrArg Array.size (hx.uniq hM.st.head).1; simp [StoreS.arr] at this
    · subst e; have := congrArg Array.size (hx.uniq hM.st.row).1; simp at this; omega
  · exact h.adds.andThen ho (fun i hi e => by
      have := h.low
      rcases e with (rfl | rfl) | (rfl | rfl) <;> omega)
theorem FC.stepA (O : FOps LA ty fp) (h : FC LA fp w ab sb sm rb rg bb tb tm ub fb P T wr s s' L) (hm : Lay.may P T = true) (hz : L[t]? = some (some z)) (ho : Only (fun j => (SB sb sm j ∨ j = z.a) ∨ fp z.k j) wr w') (ha : LA w' z.a k') (hf : ∀ j, fp k' j → fp z.k j ∨ wr.heap.size ≤ j) (hy : Yard w' ab sb sm rb P T s2) (hl : s2.ws.length = s.ws.length) :
    FC LA fp w ab sb sm rb rg bb tb tm ub fb P T w' s2 s' (L.set t (some { z with k := k' })) ∧ (∀ r c u, Blk wr r c u → RowOk ty u → Blk w' r c u) := by
  obtain ⟨c, u, hb, hc, hty⟩ := O.blk (h.lanes.A t z hz)
  obtain ⟨hu1, hu2, hu3, hu4, hu5, hu6, hu7⟩ := O.ty u hty
  have hF := O.fblk (h.lanes.A t z hz)
  have hY := h.both.yard
  have hlz := h.lowL t z hz
  have hsz := h.adds.size
  refine ⟨⟨h.both.accA (M := fun j => j = z.a ∨ fp z.k j) (fun b c2 u2 hx e => ?_) (ho.mono (fun _ _ e => e.elim (fun e => e.elim .inl (fun e => .inr (.inl e))) (fun e => .inr (.inr e)))) hy, hl.trans h.len, h.len', h.lanes.stepA O hY (h.big hm).1 hz ho ha hf, fun j y e => ?_, h.low, ?_⟩, fun r c2 u2 hx hu => hx.only ho (fun e => ?_)⟩
  · rcases e with rfl | e
    · rw [(hx.uniq hb).2]; exact ⟨hu1, hu3, hu4, hu5⟩
    · obtain ⟨c3, t3, hb3, _, h3⟩ := hF b e
      obtain ⟨m1, m2, m3, m4, m5, _⟩ := O.ty _ h3
      rw [(hx.uniq hb3).2]; exact ⟨m1, m3, m4, m5⟩
  · rcases set_cases e with ⟨rfl, e2⟩ | ⟨hj, e2⟩
    · injection e2 with e2; subst e2
      exact ⟨hlz.1, hlz.2.1, hlz.2.2.1, fun i hi => by
        rcases hf i hi with h1 | h1
        · exact hlz.2.2.2 i h1
        · omega⟩
    · exact h.lowL j y e2
  · have := h.low
    exact h.adds.andThen ho (fun i hi e => by
      rcases e with ((rfl | rfl) | rfl) | e
      · omega
      · omega
      · omega
      · have := hlz.2.2.2 i e; omega)
  · rcases e with ((e | e) | e) | e
    · subst e; exact hu.2.1 (hx.uniq hY.st.head).2
    · subst e; exact hu.2.2.2.1 (hx.uniq hY.st.row).2
    · subst e; exact hu.1 ((hx.uniq hb).2 ▸ hty)
    · obtain ⟨c3, t3, hb3, _, h3⟩ := hF r e; exact hu.1 ((hx.uniq hb3).2 ▸ h3)
theorem FC.stepB (O : FOps LA ty fp) (h : FC LA fp w ab sb sm rb rg bb tb tm ub fb P T wr s s' L) (hm : Lay.may P T = true) (hz : L[t]? = some (some z)) {x1 : MS} {s1 : StoreS} (hst : Steps wr w' z.b bb tb tm ub fb P T s1 x1 z.lg) (hl : s1.ws.length = s'.ws.length) :
    ∃ lg1 mk1, FC LA fp w ab sb sm rb rg bb tb tm ub fb P T w' s s1 (L.set t (some { z with x := x1, lg := lg1, mr := mk1, mem := .pointer (some ⟨bb, 0, none⟩) })) ∧ (∀ r c u, Blk wr r c u → RowOk ty u → Blk w' r c u) := by
  have hM := h.both.mem
  obtain ⟨lg1, mk1, hLs, hmem, ho, hLgs⟩ := h.lanes.stepB O hM (h.big hm).2 h.both.yard.st.row.lt hz hst
  have zb := (h.lanes.B t z hz).blk
  have hlow := h.low; have hlz := h.lowL t z hz
  have hLg : ∀ g, lg1.ownBlock = some g → w.heap.size ≤ g := fun g hg => by
    rcases hLgs g hg with h3 | h3
    · exact hlz.2.2.1 g h3
    · have := h.adds.size; omega
  refine ⟨lg1, mk1, ⟨h.both.accB (M := fun j => j = z.b ∨ (z.lg.ownBlock = some j ∧ Big wr j)) (fun b c2 u2 hx e => ?_) (ho.mono (fun _ _ e => e)) hmem, h.len, hl.trans h.len', hLs, fun j y e => ?_, h.low, ?_⟩, fun r c2 u2 hx hu => hx.only ho (fun e => ?_)⟩
  · rcases e with e | ⟨e, _⟩
    · subst e; rw [(hx.uniq zb).2]; exact ⟨by decide, by decide, .inl (by decide), by decide⟩
    · obtain ⟨c3, h3⟩ := ownsRow_blk (h.lanes.B t z hz).row e
      rw [(hx.uniq h3).2]
      exact ⟨by decide, by decide, .inr (fun q => (h.lanes.nl t z hz).1 (q ▸ e)), by decide⟩
  · rcases set_cases e with ⟨rfl, e2⟩ | ⟨hj, e2⟩
    · injection e2 with e2; subst e2; exact ⟨hlz.1, hlz.2.1, hLg, hlz.2.2.2⟩
    · exact h.lowL j y e2
  · exact h.adds.andThen ho (fun i hi e => by
      rcases e with (e | e) | e | ⟨e, _⟩
      · omega
      · omega
      · omega
      · have := hlz.2.2.1 i e; omega)
  · rcases e with (e | e) | e | ⟨e, _⟩
    · subst e; exact hu.2.2.1 (hx.uniq hM.st.head).2
    · subst e; exact hu.2.2.2.1 (hx.uniq hM.st.row).2
    · subst e; exact hu.2.2.2.2 (hx.uniq zb).2
    · obtain ⟨c3, h3⟩ := ownsRow_blk (h.lanes.B t z hz).row e; exact hu.2.2.2.1 (hx.uniq h3).2
theorem FC.drop (h : FC LA fp w ab sb sm rb rg bb tb tm ub fb P T wr s s' L) (t : Nat) : FC LA fp w ab sb sm rb rg bb tb tm ub fb P T wr s s' (L.set t none) :=
  ⟨h.both, h.len, h.len', h.lanes.drop t, fun j y e => by
    rcases set_cases e with ⟨_, e2⟩ | ⟨_, e2⟩
    · cases e2
    · exact h.lowL j y e2, h.low, h.adds⟩
/-- A row is turned; the machines stand it. -/
theorem FC.rowK (h : FC LA fp w ab sb sm rb rg bb tb tm ub fb P T wr s s' L) {r : Nat} {c : Array Value} {u : TypeId} (hr : Blk wr r c u) (hu : RowOk ty u) (hbt : ¬ BT u ∧ u ≠ 4)
    (hk : ∀ (t : Nat) (z : Lane κ), L[t]? = some (some z) → LA w' z.a z.k) (hlow : w.heap.size ≤ r) (ho : Only (· = r) wr w') : FC LA fp w ab sb sm rb rg bb tb tm ub fb P T w' s s' L :=
  ⟨h.both.keep ho (fun b c2 u2 hx hb e => by subst e; exact hbt.1 ((hr.uniq hx).2 ▸ hb)) (fun e => by subst e; exact hu.2.1 (hr.uniq h.both.yard.st.head).2) (fun e => by subst e; exact hu.2.2.2.1 (hr.uniq h.both.yard.st.row).2) (fun e => by subst e; exact hu.2.2.1 (hr.uniq h.both.mem.st.head).2) (fun e => by subst e; exact hu.2.2.2.1 (hr.uniq h.both.mem.st.row).2) (fun e => by subst e; exact hbt.2 (hr.uniq h.both.mem.fr).2),
   h.len, h.len', h.lanes.rowK hr hu.2.2.2.2 hu.2.2.2.1 ho hk, h.lowL, h.low, h.adds.andThen ho (fun i hi e => by omega)⟩
/-- A lane begins; L stood in an elder world, too. -/
theorem FC.begin {w0 : World} (O : FOps LA ty fp) (h : FC LA fp w ab sb sm rb rg bb tb tm ub fb P T wr s s' L) (h0 : FLanes LA fp w0 sm tm L) (hw : w.heap.size ≤ w0.heap.size) (ha : LA wr z.a z.k) (hb : IsM wr z.b z.x z.lg z.mr z.mem) (hl : z.lg = .slice none 0 0) (na : w0.heap.size ≤ z.a) (nb : w0.heap.size ≤ z.b) (nf : ∀ j, fp z.k j → w0.heap.size ≤ j) : FC LA fp w ab sb sm rb rg bb tb tm ub fb P T wr s s' (L.set t (some z)) :=
  ⟨h.both, h.len, h.len', h.lanes.add O h0 ha hb hl na nb nf, fun j y e => by
    rcases set_cases e with ⟨_, e2⟩ | ⟨_, e2⟩
    · injection e2 with e2; subst e2; exact ⟨by omega, by omega, fun g hg => (by rw [hl] at hg; cases hg), fun i hi => (by have := nf i hi; omega)⟩
    · exact h.lowL j y e2, h.low, h.adds⟩
end
end Go.Proofs.YtmnliddjddpchaaGreat

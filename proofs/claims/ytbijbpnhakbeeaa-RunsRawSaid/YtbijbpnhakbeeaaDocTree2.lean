/- The document's tree: Put, Drop at whatever state. By an AI agent. -/
import Derived.Test.YtbijbpnhakbeeaaDocTree
import Derived.Test.YtbijbpnhakbeeaaHeldU
import Derived.Maps.AppendAt
import Derived.Deep.RegionHeld3
import Derived.Deep.OwnRows
import Derived.BigQuiet
import Derived.Deep.DeepCutAuto
import Derived.Deep.CutBlock
namespace Go.Proofs.Ytbijbpnhakbeeaa
open Go.RowKit
theorem infoItem : (Try.prog.info? 140).map (fun i => (i.zero, i.size, i.bytes)) = some (some (.agg #[.int .i64 0, .int .u32 0, .int .i64 0]), 3, 24) := by kernel_rfl
/-- Nothing appended. -/
theorem run_append_none {P : Program} (w : World) (t ty e : TypeId) (i : TypeInfo) (ht : P.underlying t = some (.slice e)) (hi : P.info? e = some i) (b : Option Addr) (n c : Nat) (hn : n ≤ c) :
    (Builtin.append_ #[t, t] ty #[.slice b n c, .slice none 0 0]).run P w = .ok (.slice b n c) w := by
  cases b <;> simp [Builtin.append_, run_underlying ht, sizeOf, typeInfo, hi, Builtin.lenOf, Builtin.firstCells, loadCells, loadCellsFrom, storeCells, hn]
theorem wp_append_none {P : Program} {op : Oper} {a : Act} {w : World} {K : Act → World → Prop} {Q : Exit → Act → World → Prop} (s x : Operand) (t e : TypeId) (ho : op.op = .call { callee := .builtin .append, args := #[s, x], argTypes := #[t, t] })
    (i : TypeInfo) (ht : P.underlying t = some (.slice e)) (hi : P.info? e = some i) (b : Option Addr) (n c : Nat) (hs : a.eval s = .slice b n c) (hx : a.eval x = .slice none 0 0) (hn : n ≤ c) (h : K (a.put op.dst (.slice b n c)) w) : op.wp P a w K Q := by
  unfold Oper.wp execOp
  simp only [ho, resolve, invoke, builtin, Sem.run_bind, Sem.run_pure, Result.andThen_ok, List.map_toArray, List.map_cons, List.map_nil, hs, hx, run_append_none w t _ e i ht hi b n c hn]
  exact h
/-- What an append reads: nothing, or cells. -/
def Src (w : World) (u : Value) (m : Nat) (news : List Value) : Prop :=
  (u = .slice none 0 0 ∧ m = 0 ∧ news = []) ∨ (∃ g off c, u = .slice (some ⟨g, off, none⟩) m c ∧ ∀ j x, news[j]? = some x → w.cell? ⟨g, off + j, none⟩ = some x) ∨ (m = 0 ∧ news = [] ∧ ∃ ad c, u = .slice (some ad) 0 c)
theorem Src.adds {w w' : World} {u : Value} {m : Nat} {news : List Value} (h : Src w u m news) (ho : Adds w w') : Src w' u m news := by
  rcases h with h | ⟨g, off, c, h1, h2⟩ | h
  · exact .inl h
  · exact .inr (.inl ⟨g, off, c, h1, fun j x hj => cell_al (h2 j x hj) ho⟩)
  · exact .inr (.inr h)
theorem row_base {w : World} {base : Nat} {e : TypeId} {size : Nat} {v : Value} {n : Nat} {xs : List Value} (h : w.ownsRow base e size v n xs) : ∀ g, some g = v.ownBlock → base ≤ g := by
  rcases h.2 with ⟨rfl, _⟩ | ⟨g, cap, cur, rfl, hb, _⟩
  · intro g e; simp [Value.ownBlock] at e
  · intro g' e
    obtain rfl : g' = g := by simpa [Value.ownBlock] using e
    exact hb
/-- Appended: items to a row of one's own. -/
theorem wp_append_src {P : Program} {op : Oper} {a : Act} {w : World} {K : Act → World → Prop} {Q : Exit → Act → World → Prop} (s x : Operand) (t e : TypeId) (ho : op.op = .call { callee := .builtin .append, args := #[s, x], argTypes := #[t, t] })
    (i : TypeInfo) (z : Value) (size bytes : Nat) (ht : P.underlying t = some (.slice e)) (hi : P.info? e = some i) (hz : i.zero = some z)
    (hsize : i.size = size) (hby : i.bytes = bytes) (hzs : z.cells.size = size) (hsz : 0 < size) (base : Nat) (v : Value) (n : Nat) (xs : List Value) (hs : a.eval s = v) (hown : w.ownsRow base e size v n xs)
    (u : Value) (m : Nat) (news : List Value) (hx : a.eval x = u) (hu : Src w u m news) (hl : news.length = m * size) (h1 : ∀ u ∈ news, u.oneCell' = true) (h63 : n + m ≤ maxLen) (hbytes : (n + m) * bytes ≤ 140737488355328) (hbase : base ≤ w.heap.size)
    (h : ∀ v' w', w'.ownsRow base e size v' (n + m) (xs ++ news) → Only (fun y => some y = v.ownBlock) w w' → K (a.put op.dst v') w') : op.wp P a w K Q := by
  rcases hu with ⟨rfl, rfl, rfl⟩ | ⟨g, off, c, rfl, hc⟩ | ⟨rfl, rfl, ad, c, rfl⟩
  · rcases row_shape hown with ⟨rfl, rfl⟩ | ⟨g, cap, rfl⟩
    · exact wp_append_none s x t e ho i ht hi none 0 0 hs hx (Nat.le_refl _) (h _ w (by simpa using hown) (Only.refl _ w))
    · have hcap : n ≤ cap := by
        rcases hown.2 with ⟨h0, _⟩ | ⟨g', cap', cur, h0, _, _, h4, _⟩
        · cases h0
        · cases h0; exact h4
      exact wp_append_none s x t e ho i ht hi (some ⟨g, 0, none⟩) n cap hs hx hcap (h _ w (by simpa using hown) (Only.refl _ w))
  · refine wp_append_own w s x t ho base e i z size bytes ht hi hz hsize hby hzs hsz v n xs hs hown ⟨g, off, none⟩ m c news hx hl (fun j u hj => by rw [Addr.add_lit]; exact hc j u hj) h1 h63 hbytes hbase ?_
    intro v' w' h2 h3 _
    exact h v' w' h2 ⟨h3.os, h3.tape, h3.output, h3.size, h3.block⟩
  · refine wp_append_own w s x t ho base e i z size bytes ht hi hz hsize hby hzs hsz v n xs hs hown ad 0 c [] hx hl (fun j u hj => by simp at hj) h1 h63 hbytes hbase ?_
    intro v' w' h2 h3 _
    exact h v' w' h2 ⟨h3.os, h3.tape, h3.output, h3.size, h3.block⟩
theorem ItAt.take {w : World} {g off cap p : Nat} {xs : List It} (h : ItAt w (.slice (some ⟨g, off, none⟩) xs.length cap) xs) (c : Nat) (hp : p ≤ xs.length) : Src w (.slice (some ⟨g, off, none⟩) p c) p (itCells (xs.take p)) := by
  obtain ⟨a, cap', h1, _, _, _, h4⟩ := h
  cases h1
  refine .inr (.inl ⟨g, off, c, rfl, fun j u hj => ?_⟩)
  obtain ⟨k, r, hk, hr⟩ : ∃ k r, j = k * 3 + r ∧ r < 3 := ⟨j / 3, j % 3, by omega, by omega⟩
  have hl : j < (itCells (xs.take p)).length := (List.getElem?_eq_some_iff.1 hj).1
  rw [itCells_len, List.length_take] at hl
  obtain ⟨x, hx⟩ : ∃ x, (xs.take p)[k]? = some x := ⟨_, List.getElem?_eq_getElem (by rw [List.length_take]; omega)⟩
  obtain ⟨e1, e2, e3⟩ := itCells_at _ k x hx
  rw [List.getElem?_take] at hx
  split at hx
  · obtain ⟨b, o', h5, h6, h7, h8⟩ := h4 k x hx
    cases h5
    subst hk
    rcases (by omega : r = 0 ∨ r = 1 ∨ r = 2) with rfl | rfl | rfl
    · rw [Nat.add_zero] at hj ⊢; rw [e1] at hj; cases hj; exact h6
    · rw [e2] at hj; cases hj; rw [← Nat.add_assoc]; exact h7
    · rw [e3] at hj; cases hj; rw [← Nat.add_assoc]; exact h8
  · cases hx
theorem ItAt.drop {w : World} {g off cap p : Nat} {xs : List It} (h : ItAt w (.slice (some ⟨g, off, none⟩) xs.length cap) xs) (c : Nat) : Src w (.slice (some ⟨g, off + p * 3, none⟩) (xs.length - p) c) (xs.length - p) (itCells (xs.drop p)) := by
  obtain ⟨a, cap', h1, _, _, _, h4⟩ := h
  cases h1
  refine .inr (.inl ⟨g, off + p * 3, c, rfl, fun j u hj => ?_⟩)
  obtain ⟨k, r, hk, hr⟩ : ∃ k r, j = k * 3 + r ∧ r < 3 := ⟨j / 3, j % 3, by omega, by omega⟩
  have hl : j < (itCells (xs.drop p)).length := (List.getElem?_eq_some_iff.1 hj).1
  rw [itCells_len, List.length_drop] at hl
  obtain ⟨x, hx⟩ : ∃ x, (xs.drop p)[k]? = some x := ⟨_, List.getElem?_eq_getElem (by rw [List.length_drop]; omega)⟩
  obtain ⟨e1, e2, e3⟩ := itCells_at _ k x hx
  rw [List.getElem?_drop] at hx
  obtain ⟨b, o', h5, h6, h7, h8⟩ := h4 (p + k) x hx
  cases h5
  subst hk
  rcases (by omega : r = 0 ∨ r = 1 ∨ r = 2) with rfl | rfl | rfl
  · rw [Nat.add_zero] at hj ⊢; rw [e1] at hj; cases hj; rw [show off + p * 3 + k * 3 = off + (p + k) * 3 by omega]; exact h6
  · rw [e2] at hj; cases hj; rw [show off + p * 3 + (k * 3 + 1) = off + (p + k) * 3 + 1 by omega]; exact h7
  · rw [e3] at hj; cases hj; rw [show off + p * 3 + (k * 3 + 2) = off + (p + k) * 3 + 2 by omega]; exact h8
theorem Src.one {w : World} {g : Nat} {t : TypeId} {l : List Value} (h : Blk w g l.toArray t) (c : Nat) : Src w (.slice (some ⟨g, 0, none⟩) 1 c) 1 l :=
  .inr (.inl ⟨g, 0, c, rfl, fun j x hj => by rw [Nat.zero_add, h.cell j]; simpa using hj⟩)
theorem owns_emptyB {W : World} {g b : Nat} {e : TypeId} (h : Blk W g #[] e) (hb : b ≤ g) (sz : Nat) : W.ownsRow b e sz (.slice (some ⟨g, 0, none⟩) 0 0) 0 [] :=
  ⟨by simp, .inr ⟨g, 0, #[], rfl, hb, h, Nat.le_refl _, Nat.zero_le _, by simp, by simp⟩⟩
theorem ownsRow_opened {w : World} {base : Nat} {e : TypeId} {size : Nat} {v : Value} {n : Nat} {xs : List Value} (h : w.ownsRow base e size v n xs) : ∃ a c, v = .slice a n c := by
  rcases h.2 with ⟨h0, h1⟩ | ⟨g, cap, cur, h1, _⟩
  · exact ⟨none, 0, by rw [h0, h1]⟩
  · exact ⟨_, cap, h1⟩
section
variable {w : World} {rb : Nat} {fr tl dr : Value} {n key d v : Int} {xs : List It}

set_option maxRecDepth 100000 in
set_option maxHeartbeats 16000000 in
theorem put9_any (h : Blk w rb (rCells fr tl dr n) 104) (hr : w.ownsRow 0 140 3 tl xs.length (itCells xs)) (hl : xs.length < 1000000) (hk : hasK key xs = false) :
    Calls Try.prog 86 #[.pointer (some ⟨rb, 1, none⟩), .int .i64 key, .int .u32 d, .int .i64 v] w fun e w' => e = .returned (.bool true) ∧ (∃ tl', Blk w' rb (rCells fr tl' dr n) 104 ∧ w'.ownsRow w.heap.size 140 3 tl' (xs.length + 1) (itCells (xs.take (plc key xs) ++ (key, d, v) :: xs.drop (plc key xs)))) ∧ Only (· = rb) w w' := by
  obtain ⟨i0, hi, hz0, hz1, hz2⟩ := info_parts infoItem
  obtain ⟨hit, -⟩ := ItAt.of_owns hr
  have HH := Lib.hid (has9_any h hit hl key)
  have HP := Lib.hid (place9_any h hit hl key)
  obtain ⟨p, hp⟩ : ∃ p, plc key xs = p := ⟨_, rfl⟩
  have hple : p ≤ xs.length := hp ▸ plc_le key xs
  rw [hp] at HP ⊢
  rw [hk] at HH
  have H := Lib.hid h
  obtain ⟨xn, hxn⟩ : ∃ xn, xn = xs.length := ⟨_, rfl⟩
  have HXN := Lib.hid hxn
  rw [← hxn] at hple hl
  have hsrc : ∃ la lc, tl = .slice la xn lc ∧ xn ≤ lc ∧ lc ≤ maxLen ∧ ((la = none ∧ xn = 0 ∧ lc = 0) ∨ ∃ lg, la = some ⟨lg, 0, none⟩) := by
    rcases hr.2 with ⟨h0, h1⟩ | ⟨g, cap, cur, h1, _, _, h4, h5, _⟩
    · exact ⟨none, 0, by rw [h0, hxn, h1], by omega, Nat.zero_le _, .inl ⟨rfl, by omega, rfl⟩⟩
    · exact ⟨_, cap, by rw [h1, hxn], by omega, by omega, .inr ⟨g, rfl⟩⟩
  obtain ⟨la, lc, rfl, hlc, hlm, hla⟩ := hsrc
  have c1 : w.cell? ⟨rb, 1, none⟩ = some (.slice la xn lc) := h.cell 1
  have HIT := Lib.hid hit
  clear h hr hit hk
  rcases hla with ⟨rfl, rfl, rfl⟩ | ⟨lg, rfl⟩
  · obtain rfl : p = 0 := by omega
    obtain rfl : xs = [] := List.eq_nil_of_length_eq_zero HXN.out.symm
    have hS1 : Src w (.slice none 0 0) 0 (itCells (([] : List It).take 0)) := .inl ⟨rfl, rfl, rfl⟩
    have hS2 : Src w (.slice none 0 0) (0 - 0) (itCells (([] : List It).drop 0)) := .inl ⟨rfl, rfl, rfl⟩
    have HS1 := Lib.hid hS1; have HS2 := Lib.hid hS2
    clear hS1 hS2 hxn
    go_enter Try.func86, Try.ntmps86
    go_upto_region 4 with (first
      | (go_at_call 87; refine HH.out.mono ?_; rintro e w1 ⟨rfl, rfl⟩)
      | (go_at_call 88; refine HP.out.mono ?_; rintro e w2 ⟨rfl, rfl⟩))
    refine AnyU.region (S := (fun W => Blk W rb (rCells fr (.slice none 0 0) dr n) 104 ∧ Adds w W)) (k := 24) (by kernel_rfl) ⟨H.out.only ((Only.refl (fun _ => False) w).drew) (id : ¬ False), (Only.refl (fun _ => False) w).drew⟩ (fun hHeld => ?_)
    refine AnyU.take (i := 0) (v := (.pointer (some ⟨rb, 1, none⟩))) rfl rfl (by kernel_rfl) (by kernel_rfl) (by kernel_rfl) (by kernel_rfl) (by kernel_rfl) (by decide) (fun _ _ _ h => h) (Or.inl ⟨by rfl, fun W hS => by first | rfl | (go_simp; done)⟩) hHeld ?_
    try simp only [Act.put, List.getElem_toArray, List.getElem_cons_succ, List.getElem_cons_zero, List.setIfInBounds_toArray, List.set_cons_zero, List.set_cons_succ]
    refine AnyU.take (i := 2) (v := (.pointer (some ⟨rb, 1, none⟩))) rfl rfl (by kernel_rfl) (by kernel_rfl) (by kernel_rfl) (by kernel_rfl) (by kernel_rfl) (by decide) (fun _ _ _ h => h) (Or.inl ⟨by rfl, fun W hS => by first | rfl | (go_simp; done)⟩) hHeld ?_
    try simp only [Act.put, List.getElem_toArray, List.getElem_cons_succ, List.getElem_cons_zero, List.setIfInBounds_toArray, List.set_cons_zero, List.set_cons_succ]
    refine AnyU.take (i := 3) (v := (.pointer (some ⟨rb, 1, none⟩))) rfl rfl (by kernel_rfl) (by kernel_rfl) (by kernel_rfl) (by kernel_rfl) (by kernel_rfl) (by decide) (fun _ _ _ h => h) (Or.inl ⟨by rfl, fun W hS => by first | rfl | (go_simp; done)⟩) hHeld ?_
    try simp only [Act.put, List.getElem_toArray, List.getElem_cons_succ, List.getElem_cons_zero, List.setIfInBounds_toArray, List.set_cons_zero, List.set_cons_succ]
    refine AnyU.take (i := 4) (v := (.pointer (some ⟨rb, 1, none⟩))) rfl rfl (by kernel_rfl) (by kernel_rfl) (by kernel_rfl) (by kernel_rfl) (by kernel_rfl) (by decide) (fun _ _ _ h => h) (Or.inl ⟨by rfl, fun W hS => by first | rfl | (go_simp; done)⟩) hHeld ?_
    try simp only [Act.put, List.getElem_toArray, List.getElem_cons_succ, List.getElem_cons_zero, List.setIfInBounds_toArray, List.set_cons_zero, List.set_cons_succ]
    refine AnyU.take (i := 5) (v := (.slice none 0 0)) rfl rfl (by kernel_rfl) (by kernel_rfl) (by kernel_rfl) (by kernel_rfl) (by kernel_rfl) (by decide) (fun _ _ _ h => h) (Or.inl ⟨by rfl, fun W hS => by (have q1 : W.cell? ⟨rb, 1, none⟩ = some (.slice none 0 0) := hS.1.cell 1; go_simp)⟩) hHeld ?_
    try simp only [Act.put, List.getElem_toArray, List.getElem_cons_succ, List.getElem_cons_zero, List.setIfInBounds_toArray, List.set_cons_zero, List.set_cons_succ]
    refine AnyU.take (i := 6) (v := (.int .i64 0)) rfl rfl (by kernel_rfl) (by kernel_rfl) (by kernel_rfl) (by kernel_rfl) (by kernel_rfl) (by decide) (fun _ _ _ h => h) (Or.inl ⟨by rfl, fun W hS => by first | rfl | (go_simp; done)⟩) hHeld ?_
    try simp only [Act.put, List.getElem_toArray, List.getElem_cons_succ, List.getElem_cons_zero, List.setIfInBounds_toArray, List.set_cons_zero, List.set_cons_succ]
    refine AnyU.take (i := 7) (v := (.slice none 0 0)) rfl rfl (by kernel_rfl) (by kernel_rfl) (by kernel_rfl) (by kernel_rfl) (by kernel_rfl) (by decide) (fun _ _ _ h => h) (Or.inl ⟨by rfl, fun W hS => by (go_simp)⟩) hHeld ?_
    try simp only [Act.put, List.getElem_toArray, List.getElem_cons_succ, List.getElem_cons_zero, List.setIfInBounds_toArray, List.set_cons_zero, List.set_cons_succ]
    refine AnyU.take (i := 9) (v := (.int .i64 key)) rfl rfl (by kernel_rfl) (by kernel_rfl) (by kernel_rfl) (by kernel_rfl) (by kernel_rfl) (by decide) (fun _ _ _ h => h) (Or.inl ⟨by rfl, fun W hS => by first | rfl | (go_simp; done)⟩) hHeld ?_
    try simp only [Act.put, List.getElem_toArray, List.getElem_cons_succ, List.getElem_cons_zero, List.setIfInBounds_toArray, List.set_cons_zero, List.set_cons_succ]
    refine AnyU.take (i := 10) (v := (.int .u32 d)) rfl rfl (by kernel_rfl) (by kernel_rfl) (by kernel_rfl) (by kernel_rfl) (by kernel_rfl) (by decide) (fun _ _ _ h => h) (Or.inl ⟨by rfl, fun W hS => by first | rfl | (go_simp; done)⟩) hHeld ?_
    try simp only [Act.put, List.getElem_toArray, List.getElem_cons_succ, List.getElem_cons_zero, List.setIfInBounds_toArray, List.set_cons_zero, List.set_cons_succ]
    refine AnyU.take (i := 11) (v := (.int .i64 v)) rfl rfl (by kernel_rfl) (by kernel_rfl) (by kernel_rfl) (by kernel_rfl) (by kernel_rfl) (by decide) (fun _ _ _ h => h) (Or.inl ⟨by rfl, fun W hS => by first | rfl | (go_simp; done)⟩) hHeld ?_
    try simp only [Act.put, List.getElem_toArray, List.getElem_cons_succ, List.getElem_cons_zero, List.setIfInBounds_toArray, List.set_cons_zero, List.set_cons_succ]
    refine AnyU.take (i := 12) (v := (.agg #[.int .i64 key, .int .u32 d, .int .i64 v])) rfl rfl (by kernel_rfl) (by kernel_rfl) (by kernel_rfl) (by kernel_rfl) (by kernel_rfl) (by decide) (fun _ _ _ h => h) (Or.inl ⟨by rfl, fun W hS => by (go_simp; done)⟩) hHeld ?_
    try simp only [Act.put, List.getElem_toArray, List.getElem_cons_succ, List.getElem_cons_zero, List.setIfInBounds_toArray, List.set_cons_zero, List.set_cons_succ]
    refine AnyU.take (i := 15) (v := (.pointer (some ⟨rb, 1, none⟩))) rfl rfl (by kernel_rfl) (by kernel_rfl) (by kernel_rfl) (by kernel_rfl) (by kernel_rfl) (by decide) (fun _ _ _ h => h) (Or.inl ⟨by rfl, fun W hS => by first | rfl | (go_simp; done)⟩) hHeld ?_
    try simp only [Act.put, List.getElem_toArray, List.getElem_cons_succ, List.getElem_cons_zero, List.setIfInBounds_toArray, List.set_cons_zero, List.set_cons_succ]
    refine AnyU.take (i := 16) (v := (.pointer (some ⟨rb, 1, none⟩))) rfl rfl (by kernel_rfl) (by kernel_rfl) (by kernel_rfl) (by kernel_rfl) (by kernel_rfl) (by decide) (fun _ _ _ h => h) (Or.inl ⟨by rfl, fun W hS => by first | rfl | (go_simp; done)⟩) hHeld ?_
    try simp only [Act.put, List.getElem_toArray, List.getElem_cons_succ, List.getElem_cons_zero, List.setIfInBounds_toArray, List.set_cons_zero, List.set_cons_succ]
    refine AnyU.take (i := 17) (v := (.pointer (some ⟨rb, 1, none⟩))) rfl rfl (by kernel_rfl) (by kernel_rfl) (by kernel_rfl) (by kernel_rfl) (by kernel_rfl) (by decide) (fun _ _ _ h => h) (Or.inl ⟨by rfl, fun W hS => by first | rfl | (go_simp; done)⟩) hHeld ?_
    try simp only [Act.put, List.getElem_toArray, List.getElem_cons_succ, List.getElem_cons_zero, List.setIfInBounds_toArray, List.set_cons_zero, List.set_cons_succ]
    refine AnyU.take (i := 18) (v := (.slice none 0 0)) rfl rfl (by kernel_rfl) (by kernel_rfl) (by kernel_rfl) (by kernel_rfl) (by kernel_rfl) (by decide) (fun _ _ _ h => h) (Or.inl ⟨by rfl, fun W hS => by (have q1 : W.cell? ⟨rb, 1, none⟩ = some (.slice none 0 0) := hS.1.cell 1; go_simp)⟩) hHeld ?_
    try simp only [Act.put, List.getElem_toArray, List.getElem_cons_succ, List.getElem_cons_zero, List.setIfInBounds_toArray, List.set_cons_zero, List.set_cons_succ]
    refine AnyU.take (i := 19) (v := (.int .i64 0)) rfl rfl (by kernel_rfl) (by kernel_rfl) (by kernel_rfl) (by kernel_rfl) (by kernel_rfl) (by decide) (fun _ _ _ h => h) (Or.inl ⟨by rfl, fun W hS => by first | rfl | (go_simp; done)⟩) hHeld ?_
    try simp only [Act.put, List.getElem_toArray, List.getElem_cons_succ, List.getElem_cons_zero, List.setIfInBounds_toArray, List.set_cons_zero, List.set_cons_succ]
    refine AnyU.take (i := 20) (v := (.slice none 0 0)) rfl rfl (by kernel_rfl) (by kernel_rfl) (by kernel_rfl) (by kernel_rfl) (by kernel_rfl) (by decide) (fun _ _ _ h => h) (Or.inl ⟨by rfl, fun W hS => by (go_simp)⟩) hHeld ?_
    try simp only [Act.put, List.getElem_toArray, List.getElem_cons_succ, List.getElem_cons_zero, List.setIfInBounds_toArray, List.set_cons_zero, List.set_cons_succ]
    refine AnyU.two (i := 1) (j := 13) rfl rfl (by kernel_rfl) (fun K hK => ?_) (fun K hK => ?_)
    · simp only [List.getElem_toArray, List.getElem_cons_succ, List.getElem_cons_zero]
      go_simp
      have hE : Blk (w.drew.alloc (.cells #[] 140)) w.heap.size #[] 140 := Blk.new w.drew _ _
      refine hK.out _ (w.drew.alloc (.cells #[] 140)) ⟨hHeld.1.alloc _, hHeld.2.alloc _⟩ (fun hHeld => ?_)
      clear hK
      try simp only [Act.put, List.getElem_toArray, List.getElem_cons_succ, List.getElem_cons_zero, List.setIfInBounds_toArray, List.set_cons_zero, List.set_cons_succ]
      generalize w.drew.alloc (.cells #[] 140) = W1 at hE hHeld ⊢
      have hW1 : w.heap.size ≤ W1.heap.size := hHeld.2.size
      refine AnyU.two (i := 8) (j := 13) rfl rfl (by kernel_rfl) (fun K hK => ?_) (fun K hK => ?_)
      · simp only [List.getElem_toArray, List.getElem_cons_succ, List.getElem_cons_zero]
        rw [if_pos (by rfl)]
        have hEg : w.heap.size ≤ w.heap.size := Nat.le_refl _
        refine wp_append_src _ _ 100 140 rfl i0 (.agg #[.int .i64 0, .int .u32 0, .int .i64 0]) 3 24 Try.underlying100 hi hz0 hz1 hz2 rfl (by decide) w.heap.size _ 0 [] rfl (owns_emptyB hE hEg 3) (.slice none 0 0) 0 (itCells (([] : List It).take 0)) rfl (HS1.out.adds hHeld.2) (by rw [itCells_len, List.length_take]; first | rfl | (have := HXN.out; omega)) (itCells_one _) (by unfold maxLen; omega) (by omega) hHeld.2.size ?_
        intro v1 w3 hv1 hO'
        have hO := hO'.mono (T := (w.heap.size ≤ ·)) (fun y _ e => row_base (owns_emptyB hE hEg 3) y e)
        rw [Nat.zero_add, List.nil_append] at hv1
        have hrb := H.out.lt
        refine hK.out _ w3 ⟨hHeld.1.only hO (by omega), hHeld.2.andThen hO (fun i hi e => by omega)⟩ (fun hHeld => ?_)
        clear hK hO hO' hE
        try simp only [Act.put, List.getElem_toArray, List.getElem_cons_succ, List.getElem_cons_zero, List.setIfInBounds_toArray, List.set_cons_zero, List.set_cons_succ]
        refine AnyU.one (i := 13) rfl (by kernel_rfl) (fun K hK => ?_)
        simp only [List.getElem_toArray, List.getElem_cons_succ, List.getElem_cons_zero]
        go_simp
        have hN : Blk (w3.alloc (.cells #[.int .i64 key, .int .u32 d, .int .i64 v] 140)) w3.heap.size #[.int .i64 key, .int .u32 d, .int .i64 v] 140 := Blk.new w3 _ _
        have hv1 := row_only2 hv1 ((Only.refl (fun _ => False) w3).alloc (.cells #[.int .i64 key, .int .u32 d, .int .i64 v] 140)) (fun _ _ e => e)
        refine hK.out _ (w3.alloc (.cells #[.int .i64 key, .int .u32 d, .int .i64 v] 140)) ⟨hHeld.1.alloc _, hHeld.2.alloc _⟩ (fun hHeld => ?_)
        clear hK
        try simp only [Act.put, List.getElem_toArray, List.getElem_cons_succ, List.getElem_cons_zero, List.setIfInBounds_toArray, List.set_cons_zero, List.set_cons_succ]
        generalize w3.heap.size = g2 at hN ⊢
        generalize w3.alloc (.cells #[.int .i64 key, .int .u32 d, .int .i64 v] 140) = W3 at hN hv1 hHeld ⊢
        refine AnyU.one (i := 14) rfl (by kernel_rfl) (fun K hK => ?_)
        simp only [List.getElem_toArray, List.getElem_cons_succ, List.getElem_cons_zero]
        rw [if_pos (by rfl)]
        refine wp_append_src _ _ 100 140 rfl i0 (.agg #[.int .i64 0, .int .u32 0, .int .i64 0]) 3 24 Try.underlying100 hi hz0 hz1 hz2 rfl (by decide) w.heap.size v1 0 (itCells (([] : List It).take 0)) rfl hv1 (.slice (some ⟨g2, 0, none⟩) 1 1) 1 [.int .i64 key, .int .u32 d, .int .i64 v] rfl (Src.one hN 1) rfl (by simp [Value.oneCell']) (by unfold maxLen; omega) (by omega) hHeld.2.size ?_
        intro v2 w4 hv2 hO4'
        have hO4 := hO4'.mono (T := (w.heap.size ≤ ·)) (fun y _ e => row_base hv1 y e)
        have hrb := H.out.lt
        refine hK.out _ w4 ⟨hHeld.1.only hO4 (by omega), hHeld.2.andThen hO4 (fun i hi e => by omega)⟩ (fun hHeld => ?_)
        clear hK hO4 hO4' hN hv1
        try simp only [Act.put, List.getElem_toArray, List.getElem_cons_succ, List.getElem_cons_zero, List.setIfInBounds_toArray, List.set_cons_zero, List.set_cons_succ]
        refine AnyU.one (i := 21) rfl (by kernel_rfl) (fun K hK => ?_)
        simp only [List.getElem_toArray, List.getElem_cons_succ, List.getElem_cons_zero]
        rw [if_pos (by rfl)]
        refine wp_append_src _ _ 100 140 rfl i0 (.agg #[.int .i64 0, .int .u32 0, .int .i64 0]) 3 24 Try.underlying100 hi hz0 hz1 hz2 rfl (by decide) w.heap.size v2 (0 + 1) (itCells (([] : List It).take 0) ++ [.int .i64 key, .int .u32 d, .int .i64 v]) rfl hv2 (.slice none 0 0) (0 - 0) (itCells (([] : List It).drop 0)) rfl (HS2.out.adds hHeld.2) (by rw [itCells_len, List.length_drop]; first | rfl | (have := HXN.out; omega)) (itCells_one _) (by unfold maxLen; omega) (by omega) hHeld.2.size ?_
        intro v3 w5 hv3 hO5'
        have hO5 := hO5'.mono (T := (w.heap.size ≤ ·)) (fun y _ e => row_base hv2 y e)
        obtain ⟨k3, hk3⟩ : ∃ k3, 0 + 1 + (0 - 0) = k3 := ⟨_, rfl⟩
        rw [hk3] at hv3
        have HK3 := Lib.hid hk3
        clear hk3
        refine hK.out _ w5 ⟨hHeld.1.only hO5 (by omega), hHeld.2.andThen hO5 (fun i hi e => by omega)⟩ (fun hHeld => ?_)
        clear hK hO5 hO5' hv2
        try simp only [Act.put, List.getElem_toArray, List.getElem_cons_succ, List.getElem_cons_zero, List.setIfInBounds_toArray, List.set_cons_zero, List.set_cons_succ]
        have hv3b := row_base hv3
        obtain ⟨a3, c3, rfl⟩ := ownsRow_opened hv3
        refine AnyU.one (i := 22) rfl (by kernel_rfl) (fun K hK => ?_)
        simp only [List.getElem_toArray, List.getElem_cons_succ, List.getElem_cons_zero]
        go_simp
        refine hK.out _ _ hHeld (fun hHeld => ?_)
        clear hK
        try simp only [Act.put, List.getElem_toArray, List.getElem_cons_succ, List.getElem_cons_zero, List.setIfInBounds_toArray, List.set_cons_zero, List.set_cons_succ]
        refine AnyU.one (i := 23) rfl (by kernel_rfl) (fun K hK => ?_)
        simp only [List.getElem_toArray, List.getElem_cons_succ, List.getElem_cons_zero]
        go_simp
        refine hK.out _ _ hHeld (fun hHeld => ?_)
        clear hK
        try simp only [Act.put, List.getElem_toArray, List.getElem_cons_succ, List.getElem_cons_zero, List.setIfInBounds_toArray, List.set_cons_zero, List.set_cons_succ]
        have q1 : w5.cell? ⟨rb, 1, none⟩ = some (.slice none 0 0) := hHeld.1.cell 1
        have f1 := hHeld.1.frozen 1
        refine AnyU.last rfl (by kernel_rfl) (fun K hK => ?_)
        simp only [List.getElem_toArray, List.getElem_cons_succ, List.getElem_cons_zero]
        go_simp
        refine hK.out _ _ ?_
        clear hK
        refine AnyU.done (by kernel_rfl) ?_ _
        go_wp2_with fail
        go_ret
        refine ⟨rfl, ⟨_, hHeld.1.setCell 1 (.slice a3 k3 c3), ?_⟩, (hHeld.2.mono (T := (· = rb)) (fun _ _ e => e.elim)).setCell (p := ⟨rb, 1, none⟩) (.inl rfl) _⟩
        have h9 := (row_only2 hv3 ((Only.refl (· = rb) w5).setCell (p := ⟨rb, 1, none⟩) (.inl rfl) (.slice a3 k3 c3)) (fun g hg e => by have := hv3b g hg; have := H.out.lt; omega))
        have e1 : k3 = ([] : List It).length + 1 := by exact HK3.out.symm
        rw [itCells_append, itCells]
        rw [e1] at h9 ⊢
        simpa using h9
      · simp only [List.getElem_toArray, List.getElem_cons_succ, List.getElem_cons_zero]
        go_simp
        have hN : Blk (W1.alloc (.cells #[.int .i64 key, .int .u32 d, .int .i64 v] 140)) W1.heap.size #[.int .i64 key, .int .u32 d, .int .i64 v] 140 := Blk.new W1 _ _
        have hls := hE.lt
        have hE := hE.alloc (.cells #[.int .i64 key, .int .u32 d, .int .i64 v] 140)
        refine hK.out _ (W1.alloc (.cells #[.int .i64 key, .int .u32 d, .int .i64 v] 140)) ⟨hHeld.1.alloc _, hHeld.2.alloc _⟩ (fun hHeld => ?_)
        clear hK
        try simp only [Act.put, List.getElem_toArray, List.getElem_cons_succ, List.getElem_cons_zero, List.setIfInBounds_toArray, List.set_cons_zero, List.set_cons_succ]
        have hgz : w.heap.size ≤ W1.heap.size := hW1
        generalize hg2 : W1.heap.size = g2 at hN hls hgz ⊢
        generalize W1.alloc (.cells #[.int .i64 key, .int .u32 d, .int .i64 v] 140) = W2 at hE hN hHeld ⊢
        refine AnyU.one (i := 8) rfl (by kernel_rfl) (fun K hK => ?_)
        simp only [List.getElem_toArray, List.getElem_cons_succ, List.getElem_cons_zero]
        rw [if_pos (by rfl)]
        have hEg : w.heap.size ≤ w.heap.size := Nat.le_refl _
        refine wp_append_src _ _ 100 140 rfl i0 (.agg #[.int .i64 0, .int .u32 0, .int .i64 0]) 3 24 Try.underlying100 hi hz0 hz1 hz2 rfl (by decide) w.heap.size _ 0 [] rfl (owns_emptyB hE hEg 3) (.slice none 0 0) 0 (itCells (([] : List It).take 0)) rfl (HS1.out.adds hHeld.2) (by rw [itCells_len, List.length_take]; first | rfl | (have := HXN.out; omega)) (itCells_one _) (by unfold maxLen; omega) (by omega) hHeld.2.size ?_
        intro v1 w3 hv1 hO'
        have hO := hO'.mono (T := (w.heap.size ≤ ·)) (fun y _ e => row_base (owns_emptyB hE hEg 3) y e)
        rw [Nat.zero_add, List.nil_append] at hv1
        have hrb := H.out.lt
        have hN := hN.only hO' (fun e => by have e2 : some g2 = some w.heap.size := e; have := Option.some.inj e2; omega)
        refine hK.out _ w3 ⟨hHeld.1.only hO (by omega), hHeld.2.andThen hO (fun i hi e => by omega)⟩ (fun hHeld => ?_)
        clear hK hO hO' hE
        try simp only [Act.put, List.getElem_toArray, List.getElem_cons_succ, List.getElem_cons_zero, List.setIfInBounds_toArray, List.set_cons_zero, List.set_cons_succ]
        refine AnyU.one (i := 14) rfl (by kernel_rfl) (fun K hK => ?_)
        simp only [List.getElem_toArray, List.getElem_cons_succ, List.getElem_cons_zero]
        rw [if_pos (by rfl)]
        refine wp_append_src _ _ 100 140 rfl i0 (.agg #[.int .i64 0, .int .u32 0, .int .i64 0]) 3 24 Try.underlying100 hi hz0 hz1 hz2 rfl (by decide) w.heap.size v1 0 (itCells (([] : List It).take 0)) rfl hv1 (.slice (some ⟨g2, 0, none⟩) 1 1) 1 [.int .i64 key, .int .u32 d, .int .i64 v] rfl (Src.one hN 1) rfl (by simp [Value.oneCell']) (by unfold maxLen; omega) (by omega) hHeld.2.size ?_
        intro v2 w4 hv2 hO4'
        have hO4 := hO4'.mono (T := (w.heap.size ≤ ·)) (fun y _ e => row_base hv1 y e)
        have hrb := H.out.lt
        refine hK.out _ w4 ⟨hHeld.1.only hO4 (by omega), hHeld.2.andThen hO4 (fun i hi e => by omega)⟩ (fun hHeld => ?_)
        clear hK hO4 hO4' hN hv1
        try simp only [Act.put, List.getElem_toArray, List.getElem_cons_succ, List.getElem_cons_zero, List.setIfInBounds_toArray, List.set_cons_zero, List.set_cons_succ]
        refine AnyU.one (i := 21) rfl (by kernel_rfl) (fun K hK => ?_)
        simp only [List.getElem_toArray, List.getElem_cons_succ, List.getElem_cons_zero]
        rw [if_pos (by rfl)]
        refine wp_append_src _ _ 100 140 rfl i0 (.agg #[.int .i64 0, .int .u32 0, .int .i64 0]) 3 24 Try.underlying100 hi hz0 hz1 hz2 rfl (by decide) w.heap.size v2 (0 + 1) (itCells (([] : List It).take 0) ++ [.int .i64 key, .int .u32 d, .int .i64 v]) rfl hv2 (.slice none 0 0) (0 - 0) (itCells (([] : List It).drop 0)) rfl (HS2.out.adds hHeld.2) (by rw [itCells_len, List.length_drop]; first | rfl | (have := HXN.out; omega)) (itCells_one _) (by unfold maxLen; omega) (by omega) hHeld.2.size ?_
        intro v3 w5 hv3 hO5'
        have hO5 := hO5'.mono (T := (w.heap.size ≤ ·)) (fun y _ e => row_base hv2 y e)
        obtain ⟨k3, hk3⟩ : ∃ k3, 0 + 1 + (0 - 0) = k3 := ⟨_, rfl⟩
        rw [hk3] at hv3
        have HK3 := Lib.hid hk3
        clear hk3
        refine hK.out _ w5 ⟨hHeld.1.only hO5 (by omega), hHeld.2.andThen hO5 (fun i hi e => by omega)⟩ (fun hHeld => ?_)
        clear hK hO5 hO5' hv2
        try simp only [Act.put, List.getElem_toArray, List.getElem_cons_succ, List.getElem_cons_zero, List.setIfInBounds_toArray, List.set_cons_zero, List.set_cons_succ]
        have hv3b := row_base hv3
        obtain ⟨a3, c3, rfl⟩ := ownsRow_opened hv3
        refine AnyU.one (i := 22) rfl (by kernel_rfl) (fun K hK => ?_)
        simp only [List.getElem_toArray, List.getElem_cons_succ, List.getElem_cons_zero]
        go_simp
        refine hK.out _ _ hHeld (fun hHeld => ?_)
        clear hK
        try simp only [Act.put, List.getElem_toArray, List.getElem_cons_succ, List.getElem_cons_zero, List.setIfInBounds_toArray, List.set_cons_zero, List.set_cons_succ]
        refine AnyU.one (i := 23) rfl (by kernel_rfl) (fun K hK => ?_)
        simp only [List.getElem_toArray, List.getElem_cons_succ, List.getElem_cons_zero]
        go_simp
        refine hK.out _ _ hHeld (fun hHeld => ?_)
        clear hK
        try simp only [Act.put, List.getElem_toArray, List.getElem_cons_succ, List.getElem_cons_zero, List.setIfInBounds_toArray, List.set_cons_zero, List.set_cons_succ]
        have q1 : w5.cell? ⟨rb, 1, none⟩ = some (.slice none 0 0) := hHeld.1.cell 1
        have f1 := hHeld.1.frozen 1
        refine AnyU.last rfl (by kernel_rfl) (fun K hK => ?_)
        simp only [List.getElem_toArray, List.getElem_cons_succ, List.getElem_cons_zero]
        go_simp
        refine hK.out _ _ ?_
        clear hK
        refine AnyU.done (by kernel_rfl) ?_ _
        go_wp2_with fail
        go_ret
        refine ⟨rfl, ⟨_, hHeld.1.setCell 1 (.slice a3 k3 c3), ?_⟩, (hHeld.2.mono (T := (· = rb)) (fun _ _ e => e.elim)).setCell (p := ⟨rb, 1, none⟩) (.inl rfl) _⟩
        have h9 := (row_only2 hv3 ((Only.refl (· = rb) w5).setCell (p := ⟨rb, 1, none⟩) (.inl rfl) (.slice a3 k3 c3)) (fun g hg e => by have := hv3b g hg; have := H.out.lt; omega))
        have e1 : k3 = ([] : List It).length + 1 := by exact HK3.out.symm
        rw [itCells_append, itCells]
        rw [e1] at h9 ⊢
        simpa using h9
    · simp only [List.getElem_toArray, List.getElem_cons_succ, List.getElem_cons_zero]
      go_simp
      have hN : Blk (w.drew.alloc (.cells #[.int .i64 key, .int .u32 d, .int .i64 v] 140)) w.heap.size #[.int .i64 key, .int .u32 d, .int .i64 v] 140 := Blk.new w.drew _ _
      refine hK.out _ (w.drew.alloc (.cells #[.int .i64 key, .int .u32 d, .int .i64 v] 140)) ⟨hHeld.1.alloc _, hHeld.2.alloc _⟩ (fun hHeld => ?_)
      clear hK
      try simp only [Act.put, List.getElem_toArray, List.getElem_cons_succ, List.getElem_cons_zero, List.setIfInBounds_toArray, List.set_cons_zero, List.set_cons_succ]
      generalize w.drew.alloc (.cells #[.int .i64 key, .int .u32 d, .int .i64 v] 140) = W1 at hN hHeld ⊢
      have hW1 : w.heap.size ≤ W1.heap.size := hHeld.2.size
      refine AnyU.one (i := 1) rfl (by kernel_rfl) (fun K hK => ?_)
      simp only [List.getElem_toArray, List.getElem_cons_succ, List.getElem_cons_zero]
      go_simp
      have hE : Blk (W1.alloc (.cells #[] 140)) W1.heap.size #[] 140 := Blk.new W1 _ _
      have hls := hN.lt
      have hN := hN.alloc (.cells #[] 140)
      refine hK.out _ (W1.alloc (.cells #[] 140)) ⟨hHeld.1.alloc _, hHeld.2.alloc _⟩ (fun hHeld => ?_)
      clear hK
      try simp only [Act.put, List.getElem_toArray, List.getElem_cons_succ, List.getElem_cons_zero, List.setIfInBounds_toArray, List.set_cons_zero, List.set_cons_succ]
      generalize hg2 : W1.heap.size = g1 at hE hls ⊢
      generalize W1.alloc (.cells #[] 140) = W2 at hE hN hHeld ⊢
      have hEg : w.heap.size ≤ g1 := by omega
      refine AnyU.one (i := 8) rfl (by kernel_rfl) (fun K hK => ?_)
      simp only [List.getElem_toArray, List.getElem_cons_succ, List.getElem_cons_zero]
      rw [if_pos (by rfl)]
      refine wp_append_src _ _ 100 140 rfl i0 (.agg #[.int .i64 0, .int .u32 0, .int .i64 0]) 3 24 Try.underlying100 hi hz0 hz1 hz2 rfl (by decide) w.heap.size _ 0 [] rfl (owns_emptyB hE hEg 3) (.slice none 0 0) 0 (itCells (([] : List It).take 0)) rfl (HS1.out.adds hHeld.2) (by rw [itCells_len, List.length_take]; first | rfl | (have := HXN.out; omega)) (itCells_one _) (by unfold maxLen; omega) (by omega) hHeld.2.size ?_
      intro v1 w3 hv1 hO'
      have hO := hO'.mono (T := (w.heap.size ≤ ·)) (fun y _ e => row_base (owns_emptyB hE hEg 3) y e)
      rw [Nat.zero_add, List.nil_append] at hv1
      have hrb := H.out.lt
      have hN := hN.only hO' (fun e => by have e2 : some w.heap.size = some g1 := e; have := Option.some.inj e2; omega)
      refine hK.out _ w3 ⟨hHeld.1.only hO (by omega), hHeld.2.andThen hO (fun i hi e => by omega)⟩ (fun hHeld => ?_)
      clear hK hO hO' hE
      try simp only [Act.put, List.getElem_toArray, List.getElem_cons_succ, List.getElem_cons_zero, List.setIfInBounds_toArray, List.set_cons_zero, List.set_cons_succ]
      generalize hg3 : w.heap.size = g2 at hN ⊢
      refine AnyU.one (i := 14) rfl (by kernel_rfl) (fun K hK => ?_)
      simp only [List.getElem_toArray, List.getElem_cons_succ, List.getElem_cons_zero]
      rw [if_pos (by rfl)]
      refine wp_append_src _ _ 100 140 rfl i0 (.agg #[.int .i64 0, .int .u32 0, .int .i64 0]) 3 24 Try.underlying100 hi hz0 hz1 hz2 rfl (by decide) w.heap.size v1 0 (itCells (([] : List It).take 0)) rfl hv1 (.slice (some ⟨g2, 0, none⟩) 1 1) 1 [.int .i64 key, .int .u32 d, .int .i64 v] rfl (Src.one hN 1) rfl (by simp [Value.oneCell']) (by unfold maxLen; omega) (by omega) hHeld.2.size ?_
      intro v2 w4 hv2 hO4'
      have hO4 := hO4'.mono (T := (w.heap.size ≤ ·)) (fun y _ e => row_base hv1 y e)
      have hrb := H.out.lt
      refine hK.out _ w4 ⟨hHeld.1.only hO4 (by omega), hHeld.2.andThen hO4 (fun i hi e => by omega)⟩ (fun hHeld => ?_)
      clear hK hO4 hO4' hN hv1
      try simp only [Act.put, List.getElem_toArray, List.getElem_cons_succ, List.getElem_cons_zero, List.setIfInBounds_toArray, List.set_cons_zero, List.set_cons_succ]
      refine AnyU.one (i := 21) rfl (by kernel_rfl) (fun K hK => ?_)
      simp only [List.getElem_toArray, List.getElem_cons_succ, List.getElem_cons_zero]
      rw [if_pos (by rfl)]
      refine wp_append_src _ _ 100 140 rfl i0 (.agg #[.int .i64 0, .int .u32 0, .int .i64 0]) 3 24 Try.underlying100 hi hz0 hz1 hz2 rfl (by decide) w.heap.size v2 (0 + 1) (itCells (([] : List It).take 0) ++ [.int .i64 key, .int .u32 d, .int .i64 v]) rfl hv2 (.slice none 0 0) (0 - 0) (itCells (([] : List It).drop 0)) rfl (HS2.out.adds hHeld.2) (by rw [itCells_len, List.length_drop]; first | rfl | (have := HXN.out; omega)) (itCells_one _) (by unfold maxLen; omega) (by omega) hHeld.2.size ?_
      intro v3 w5 hv3 hO5'
      have hO5 := hO5'.mono (T := (w.heap.size ≤ ·)) (fun y _ e => row_base hv2 y e)
      obtain ⟨k3, hk3⟩ : ∃ k3, 0 + 1 + (0 - 0) = k3 := ⟨_, rfl⟩
      rw [hk3] at hv3
      have HK3 := Lib.hid hk3
      clear hk3
      refine hK.out _ w5 ⟨hHeld.1.only hO5 (by omega), hHeld.2.andThen hO5 (fun i hi e => by omega)⟩ (fun hHeld => ?_)
      clear hK hO5 hO5' hv2
      try simp only [Act.put, List.getElem_toArray, List.getElem_cons_succ, List.getElem_cons_zero, List.setIfInBounds_toArray, List.set_cons_zero, List.set_cons_succ]
      have hv3b := row_base hv3
      obtain ⟨a3, c3, rfl⟩ := ownsRow_opened hv3
      refine AnyU.one (i := 22) rfl (by kernel_rfl) (fun K hK => ?_)
      simp only [List.getElem_toArray, List.getElem_cons_succ, List.getElem_cons_zero]
      go_simp
      refine hK.out _ _ hHeld (fun hHeld => ?_)
      clear hK
      try simp only [Act.put, List.getElem_toArray, List.getElem_cons_succ, List.getElem_cons_zero, List.setIfInBounds_toArray, List.set_cons_zero, List.set_cons_succ]
      refine AnyU.one (i := 23) rfl (by kernel_rfl) (fun K hK => ?_)
      simp only [List.getElem_toArray, List.getElem_cons_succ, List.getElem_cons_zero]
      go_simp
      refine hK.out _ _ hHeld (fun hHeld => ?_)
      clear hK
      try simp only [Act.put, List.getElem_toArray, List.getElem_cons_succ, List.getElem_cons_zero, List.setIfInBounds_toArray, List.set_cons_zero, List.set_cons_succ]
      have q1 : w5.cell? ⟨rb, 1, none⟩ = some (.slice none 0 0) := hHeld.1.cell 1
      have f1 := hHeld.1.frozen 1
      refine AnyU.last rfl (by kernel_rfl) (fun K hK => ?_)
      simp only [List.getElem_toArray, List.getElem_cons_succ, List.getElem_cons_zero]
      go_simp
      refine hK.out _ _ ?_
      clear hK
      refine AnyU.done (by kernel_rfl) ?_ _
      go_wp2_with fail
      go_ret
      refine ⟨rfl, ⟨_, hHeld.1.setCell 1 (.slice a3 k3 c3), ?_⟩, (hHeld.2.mono (T := (· = rb)) (fun _ _ e => e.elim)).setCell (p := ⟨rb, 1, none⟩) (.inl rfl) _⟩
      have h9 := (row_only2 hv3 ((Only.refl (· = rb) w5).setCell (p := ⟨rb, 1, none⟩) (.inl rfl) (.slice a3 k3 c3)) (fun g hg e => by have := hv3b g hg; have := H.out.lt; omega))
      have e1 : k3 = ([] : List It).length + 1 := by exact HK3.out.symm
      rw [itCells_append, itCells]
      rw [e1] at h9 ⊢
      simpa using h9
  · have hS1 : Src w (.slice (some ⟨lg, 0, none⟩) p lc) p (itCells (xs.take p)) := by have hh := HIT.out; rw [HXN.out] at hh hple; exact hh.take _ hple
    obtain ⟨sa, hsa⟩ : ∃ sa, (if lc = p then (some (⟨lg, 0, none⟩ : Addr)) else some ⟨lg, p * 3, none⟩) = some ⟨lg, sa, none⟩ := by split; exact ⟨_, rfl⟩; exact ⟨_, rfl⟩
    have hS2 : Src w (.slice (some ⟨lg, sa, none⟩) (xn - p) (lc - p)) (xn - p) (itCells (xs.drop p)) := by
      split at hsa
      · refine .inr (.inl ⟨lg, sa, lc - p, rfl, fun j u hj => ?_⟩)
        have := (List.getElem?_eq_some_iff.1 hj).1
        rw [itCells_len, List.length_drop] at this
        have := HXN.out; omega
      · obtain rfl : p * 3 = sa := by simpa using hsa
        have hh := HIT.out; rw [HXN.out] at hh ⊢; have := hh.drop (p := p) (lc - p); rwa [Nat.zero_add] at this
    have hpl : p ≤ lc := by omega
    have hpn : ¬ lc < p := by omega
    have HS1 := Lib.hid hS1; have HS2 := Lib.hid hS2
    clear hS1 hS2 hxn
    go_enter Try.func86, Try.ntmps86
    go_upto_region 4 with (first
      | (go_at_call 87; refine HH.out.mono ?_; rintro e w1 ⟨rfl, rfl⟩)
      | (go_at_call 88; refine HP.out.mono ?_; rintro e w2 ⟨rfl, rfl⟩))
    refine AnyU.region (S := (fun W => Blk W rb (rCells fr (.slice (some ⟨lg, 0, none⟩) xn lc) dr n) 104 ∧ Adds w W)) (k := 24) (by kernel_rfl) ⟨H.out.only ((Only.refl (fun _ => False) w).drew) (id : ¬ False), (Only.refl (fun _ => False) w).drew⟩ (fun hHeld => ?_)
    refine AnyU.take (i := 0) (v := (.pointer (some ⟨rb, 1, none⟩))) rfl rfl (by kernel_rfl) (by kernel_rfl) (by kernel_rfl) (by kernel_rfl) (by kernel_rfl) (by decide) (fun _ _ _ h => h) (Or.inl ⟨by rfl, fun W hS => by first | rfl | (go_simp; done)⟩) hHeld ?_
    try simp only [Act.put, List.getElem_toArray, List.getElem_cons_succ, List.getElem_cons_zero, List.setIfInBounds_toArray, List.set_cons_zero, List.set_cons_succ]
    refine AnyU.take (i := 2) (v := (.pointer (some ⟨rb, 1, none⟩))) rfl rfl (by kernel_rfl) (by kernel_rfl) (by kernel_rfl) (by kernel_rfl) (by kernel_rfl) (by decide) (fun _ _ _ h => h) (Or.inl ⟨by rfl, fun W hS => by first | rfl | (go_simp; done)⟩) hHeld ?_
    try simp only [Act.put, List.getElem_toArray, List.getElem_cons_succ, List.getElem_cons_zero, List.setIfInBounds_toArray, List.set_cons_zero, List.set_cons_succ]
    refine AnyU.take (i := 3) (v := (.pointer (some ⟨rb, 1, none⟩))) rfl rfl (by kernel_rfl) (by kernel_rfl) (by kernel_rfl) (by kernel_rfl) (by kernel_rfl) (by decide) (fun _ _ _ h => h) (Or.inl ⟨by rfl, fun W hS => by first | rfl | (go_simp; done)⟩) hHeld ?_
    try simp only [Act.put, List.getElem_toArray, List.getElem_cons_succ, List.getElem_cons_zero, List.setIfInBounds_toArray, List.set_cons_zero, List.set_cons_succ]
    refine AnyU.take (i := 4) (v := (.pointer (some ⟨rb, 1, none⟩))) rfl rfl (by kernel_rfl) (by kernel_rfl) (by kernel_rfl) (by kernel_rfl) (by kernel_rfl) (by decide) (fun _ _ _ h => h) (Or.inl ⟨by rfl, fun W hS => by first | rfl | (go_simp; done)⟩) hHeld ?_
    try simp only [Act.put, List.getElem_toArray, List.getElem_cons_succ, List.getElem_cons_zero, List.setIfInBounds_toArray, List.set_cons_zero, List.set_cons_succ]
    refine AnyU.take (i := 5) (v := (.slice (some ⟨lg, 0, none⟩) xn lc)) rfl rfl (by kernel_rfl) (by kernel_rfl) (by kernel_rfl) (by kernel_rfl) (by kernel_rfl) (by decide) (fun _ _ _ h => h) (Or.inl ⟨by rfl, fun W hS => by (have q1 : W.cell? ⟨rb, 1, none⟩ = some (.slice (some ⟨lg, 0, none⟩) xn lc) := hS.1.cell 1; go_simp)⟩) hHeld ?_
    try simp only [Act.put, List.getElem_toArray, List.getElem_cons_succ, List.getElem_cons_zero, List.setIfInBounds_toArray, List.set_cons_zero, List.set_cons_succ]
    refine AnyU.take (i := 6) (v := (.int .i64 p)) rfl rfl (by kernel_rfl) (by kernel_rfl) (by kernel_rfl) (by kernel_rfl) (by kernel_rfl) (by decide) (fun _ _ _ h => h) (Or.inl ⟨by rfl, fun W hS => by first | rfl | (go_simp; done)⟩) hHeld ?_
    try simp only [Act.put, List.getElem_toArray, List.getElem_cons_succ, List.getElem_cons_zero, List.setIfInBounds_toArray, List.set_cons_zero, List.set_cons_succ]
    refine AnyU.take (i := 7) (v := (.slice (some ⟨lg, 0, none⟩) p lc)) rfl rfl (by kernel_rfl) (by kernel_rfl) (by kernel_rfl) (by kernel_rfl) (by kernel_rfl) (by decide) (fun _ _ _ h => h) (Or.inl ⟨by rfl, fun W hS => by (go_simp)⟩) hHeld ?_
    try simp only [Act.put, List.getElem_toArray, List.getElem_cons_succ, List.getElem_cons_zero, List.setIfInBounds_toArray, List.set_cons_zero, List.set_cons_succ]
    refine AnyU.take (i := 9) (v := (.int .i64 key)) rfl rfl (by kernel_rfl) (by kernel_rfl) (by kernel_rfl) (by kernel_rfl) (by kernel_rfl) (by decide) (fun _ _ _ h => h) (Or.inl ⟨by rfl, fun W hS => by first | rfl | (go_simp; done)⟩) hHeld ?_
    try simp only [Act.put, List.getElem_toArray, List.getElem_cons_succ, List.getElem_cons_zero, List.setIfInBounds_toArray, List.set_cons_zero, List.set_cons_succ]
    refine AnyU.take (i := 10) (v := (.int .u32 d)) rfl rfl (by kernel_rfl) (by kernel_rfl) (by kernel_rfl) (by kernel_rfl) (by kernel_rfl) (by decide) (fun _ _ _ h => h) (Or.inl ⟨by rfl, fun W hS => by first | rfl | (go_simp; done)⟩) hHeld ?_
    try simp only [Act.put, List.getElem_toArray, List.getElem_cons_succ, List.getElem_cons_zero, List.setIfInBounds_toArray, List.set_cons_zero, List.set_cons_succ]
    refine AnyU.take (i := 11) (v := (.int .i64 v)) rfl rfl (by kernel_rfl) (by kernel_rfl) (by kernel_rfl) (by kernel_rfl) (by kernel_rfl) (by decide) (fun _ _ _ h => h) (Or.inl ⟨by rfl, fun W hS => by first | rfl | (go_simp; done)⟩) hHeld ?_
    try simp only [Act.put, List.getElem_toArray, List.getElem_cons_succ, List.getElem_cons_zero, List.setIfInBounds_toArray, List.set_cons_zero, List.set_cons_succ]
    refine AnyU.take (i := 12) (v := (.agg #[.int .i64 key, .int .u32 d, .int .i64 v])) rfl rfl (by kernel_rfl) (by kernel_rfl) (by kernel_rfl) (by kernel_rfl) (by kernel_rfl) (by decide) (fun _ _ _ h => h) (Or.inl ⟨by rfl, fun W hS => by (go_simp; done)⟩) hHeld ?_
    try simp only [Act.put, List.getElem_toArray, List.getElem_cons_succ, List.getElem_cons_zero, List.setIfInBounds_toArray, List.set_cons_zero, List.set_cons_succ]
    refine AnyU.take (i := 15) (v := (.pointer (some ⟨rb, 1, none⟩))) rfl rfl (by kernel_rfl) (by kernel_rfl) (by kernel_rfl) (by kernel_rfl) (by kernel_rfl) (by decide) (fun _ _ _ h => h) (Or.inl ⟨by rfl, fun W hS => by first | rfl | (go_simp; done)⟩) hHeld ?_
    try simp only [Act.put, List.getElem_toArray, List.getElem_cons_succ, List.getElem_cons_zero, List.setIfInBounds_toArray, List.set_cons_zero, List.set_cons_succ]
    refine AnyU.take (i := 16) (v := (.pointer (some ⟨rb, 1, none⟩))) rfl rfl (by kernel_rfl) (by kernel_rfl) (by kernel_rfl) (by kernel_rfl) (by kernel_rfl) (by decide) (fun _ _ _ h => h) (Or.inl ⟨by rfl, fun W hS => by first | rfl | (go_simp; done)⟩) hHeld ?_
    try simp only [Act.put, List.getElem_toArray, List.getElem_cons_succ, List.getElem_cons_zero, List.setIfInBounds_toArray, List.set_cons_zero, List.set_cons_succ]
    refine AnyU.take (i := 17) (v := (.pointer (some ⟨rb, 1, none⟩))) rfl rfl (by kernel_rfl) (by kernel_rfl) (by kernel_rfl) (by kernel_rfl) (by kernel_rfl) (by decide) (fun _ _ _ h => h) (Or.inl ⟨by rfl, fun W hS => by first | rfl | (go_simp; done)⟩) hHeld ?_
    try simp only [Act.put, List.getElem_toArray, List.getElem_cons_succ, List.getElem_cons_zero, List.setIfInBounds_toArray, List.set_cons_zero, List.set_cons_succ]
    refine AnyU.take (i := 18) (v := (.slice (some ⟨lg, 0, none⟩) xn lc)) rfl rfl (by kernel_rfl) (by kernel_rfl) (by kernel_rfl) (by kernel_rfl) (by kernel_rfl) (by decide) (fun _ _ _ h => h) (Or.inl ⟨by rfl, fun W hS => by (have q1 : W.cell? ⟨rb, 1, none⟩ = some (.slice (some ⟨lg, 0, none⟩) xn lc) := hS.1.cell 1; go_simp)⟩) hHeld ?_
    try simp only [Act.put, List.getElem_toArray, List.getElem_cons_succ, List.getElem_cons_zero, List.setIfInBounds_toArray, List.set_cons_zero, List.set_cons_succ]
    refine AnyU.take (i := 19) (v := (.int .i64 p)) rfl rfl (by kernel_rfl) (by kernel_rfl) (by kernel_rfl) (by kernel_rfl) (by kernel_rfl) (by decide) (fun _ _ _ h => h) (Or.inl ⟨by rfl, fun W hS => by first | rfl | (go_simp; done)⟩) hHeld ?_
    try simp only [Act.put, List.getElem_toArray, List.getElem_cons_succ, List.getElem_cons_zero, List.setIfInBounds_toArray, List.set_cons_zero, List.set_cons_succ]
    refine AnyU.take (i := 20) (v := (.slice (some ⟨lg, sa, none⟩) (xn - p) (lc - p))) rfl rfl (by kernel_rfl) (by kernel_rfl) (by kernel_rfl) (by kernel_rfl) (by kernel_rfl) (by decide) (fun _ _ _ h => h) (Or.inl ⟨by rfl, fun W hS => by (go_simp; done)⟩) hHeld ?_
    try simp only [Act.put, List.getElem_toArray, List.getElem_cons_succ, List.getElem_cons_zero, List.setIfInBounds_toArray, List.set_cons_zero, List.set_cons_succ]
    refine AnyU.two (i := 1) (j := 13) rfl rfl (by kernel_rfl) (fun K hK => ?_) (fun K hK => ?_)
    · simp only [List.getElem_toArray, List.getElem_cons_succ, List.getElem_cons_zero]
      go_simp
      have hE : Blk (w.drew.alloc (.cells #[] 140)) w.heap.size #[] 140 := Blk.new w.drew _ _
      refine hK.out _ (w.drew.alloc (.cells #[] 140)) ⟨hHeld.1.alloc _, hHeld.2.alloc _⟩ (fun hHeld => ?_)
      clear hK
      try simp only [Act.put, List.getElem_toArray, List.getElem_cons_succ, List.getElem_cons_zero, List.setIfInBounds_toArray, List.set_cons_zero, List.set_cons_succ]
      generalize w.drew.alloc (.cells #[] 140) = W1 at hE hHeld ⊢
      have hW1 : w.heap.size ≤ W1.heap.size := hHeld.2.size
      refine AnyU.two (i := 8) (j := 13) rfl rfl (by kernel_rfl) (fun K hK => ?_) (fun K hK => ?_)
      · simp only [List.getElem_toArray, List.getElem_cons_succ, List.getElem_cons_zero]
        rw [if_pos (by rfl)]
        have hEg : w.heap.size ≤ w.heap.size := Nat.le_refl _
        refine wp_append_src _ _ 100 140 rfl i0 (.agg #[.int .i64 0, .int .u32 0, .int .i64 0]) 3 24 Try.underlying100 hi hz0 hz1 hz2 rfl (by decide) w.heap.size _ 0 [] rfl (owns_emptyB hE hEg 3) (.slice (some ⟨lg, 0, none⟩) p lc) p (itCells (xs.take p)) rfl (HS1.out.adds hHeld.2) (by rw [itCells_len, List.length_take]; first | rfl | (have := HXN.out; omega)) (itCells_one _) (by unfold maxLen; omega) (by omega) hHeld.2.size ?_
        intro v1 w3 hv1 hO'
        have hO := hO'.mono (T := (w.heap.size ≤ ·)) (fun y _ e => row_base (owns_emptyB hE hEg 3) y e)
        rw [Nat.zero_add, List.nil_append] at hv1
        have hrb := H.out.lt
        refine hK.out _ w3 ⟨hHeld.1.only hO (by omega), hHeld.2.andThen hO (fun i hi e => by omega)⟩ (fun hHeld => ?_)
        clear hK hO hO' hE
        try simp only [Act.put, List.getElem_toArray, List.getElem_cons_succ, List.getElem_cons_zero, List.setIfInBounds_toArray, List.set_cons_zero, List.set_cons_succ]
        refine AnyU.one (i := 13) rfl (by kernel_rfl) (fun K hK => ?_)
        simp only [List.getElem_toArray, List.getElem_cons_succ, List.getElem_cons_zero]
        go_simp
        have hN : Blk (w3.alloc (.cells #[.int .i64 key, .int .u32 d, .int .i64 v] 140)) w3.heap.size #[.int .i64 key, .int .u32 d, .int .i64 v] 140 := Blk.new w3 _ _
        have hv1 := row_only2 hv1 ((Only.refl (fun _ => False) w3).alloc (.cells #[.int .i64 key, .int .u32 d, .int .i64 v] 140)) (fun _ _ e => e)
        refine hK.out _ (w3.alloc (.cells #[.int .i64 key, .int .u32 d, .int .i64 v] 140)) ⟨hHeld.1.alloc _, hHeld.2.alloc _⟩ (fun hHeld => ?_)
        clear hK
        try simp only [Act.put, List.getElem_toArray, List.getElem_cons_succ, List.getElem_cons_zero, List.setIfInBounds_toArray, List.set_cons_zero, List.set_cons_succ]
        generalize w3.heap.size = g2 at hN ⊢
        generalize w3.alloc (.cells #[.int .i64 key, .int .u32 d, .int .i64 v] 140) = W3 at hN hv1 hHeld ⊢
        refine AnyU.one (i := 14) rfl (by kernel_rfl) (fun K hK => ?_)
        simp only [List.getElem_toArray, List.getElem_cons_succ, List.getElem_cons_zero]
        rw [if_pos (by rfl)]
        refine wp_append_src _ _ 100 140 rfl i0 (.agg #[.int .i64 0, .int .u32 0, .int .i64 0]) 3 24 Try.underlying100 hi hz0 hz1 hz2 rfl (by decide) w.heap.size v1 p (itCells (xs.take p)) rfl hv1 (.slice (some ⟨g2, 0, none⟩) 1 1) 1 [.int .i64 key, .int .u32 d, .int .i64 v] rfl (Src.one hN 1) rfl (by simp [Value.oneCell']) (by unfold maxLen; omega) (by omega) hHeld.2.size ?_
        intro v2 w4 hv2 hO4'
        have hO4 := hO4'.mono (T := (w.heap.size ≤ ·)) (fun y _ e => row_base hv1 y e)
        have hrb := H.out.lt
        refine hK.out _ w4 ⟨hHeld.1.only hO4 (by omega), hHeld.2.andThen hO4 (fun i hi e => by omega)⟩ (fun hHeld => ?_)
        clear hK hO4 hO4' hN hv1
        try simp only [Act.put, List.getElem_toArray, List.getElem_cons_succ, List.getElem_cons_zero, List.setIfInBounds_toArray, List.set_cons_zero, List.set_cons_succ]
        refine AnyU.one (i := 21) rfl (by kernel_rfl) (fun K hK => ?_)
        simp only [List.getElem_toArray, List.getElem_cons_succ, List.getElem_cons_zero]
        rw [if_pos (by rfl)]
        refine wp_append_src _ _ 100 140 rfl i0 (.agg #[.int .i64 0, .int .u32 0, .int .i64 0]) 3 24 Try.underlying100 hi hz0 hz1 hz2 rfl (by decide) w.heap.size v2 (p + 1) (itCells (xs.take p) ++ [.int .i64 key, .int .u32 d, .int .i64 v]) rfl hv2 (.slice (some ⟨lg, sa, none⟩) (xn - p) (lc - p)) (xn - p) (itCells (xs.drop p)) rfl (HS2.out.adds hHeld.2) (by rw [itCells_len, List.length_drop]; first | rfl | (have := HXN.out; omega)) (itCells_one _) (by unfold maxLen; omega) (by omega) hHeld.2.size ?_
        intro v3 w5 hv3 hO5'
        have hO5 := hO5'.mono (T := (w.heap.size ≤ ·)) (fun y _ e => row_base hv2 y e)
        obtain ⟨k3, hk3⟩ : ∃ k3, p + 1 + (xn - p) = k3 := ⟨_, rfl⟩
        rw [hk3] at hv3
        have HK3 := Lib.hid hk3
        clear hk3
        refine hK.out _ w5 ⟨hHeld.1.only hO5 (by omega), hHeld.2.andThen hO5 (fun i hi e => by omega)⟩ (fun hHeld => ?_)
        clear hK hO5 hO5' hv2
        try simp only [Act.put, List.getElem_toArray, List.getElem_cons_succ, List.getElem_cons_zero, List.setIfInBounds_toArray, List.set_cons_zero, List.set_cons_succ]
        have hv3b := row_base hv3
        obtain ⟨a3, c3, rfl⟩ := ownsRow_opened hv3
        refine AnyU.one (i := 22) rfl (by kernel_rfl) (fun K hK => ?_)
        simp only [List.getElem_toArray, List.getElem_cons_succ, List.getElem_cons_zero]
        go_simp
        refine hK.out _ _ hHeld (fun hHeld => ?_)
        clear hK
        try simp only [Act.put, List.getElem_toArray, List.getElem_cons_succ, List.getElem_cons_zero, List.setIfInBounds_toArray, List.set_cons_zero, List.set_cons_succ]
        refine AnyU.one (i := 23) rfl (by kernel_rfl) (fun K hK => ?_)
        simp only [List.getElem_toArray, List.getElem_cons_succ, List.getElem_cons_zero]
        go_simp
        refine hK.out _ _ hHeld (fun hHeld => ?_)
        clear hK
        try simp only [Act.put, List.getElem_toArray, List.getElem_cons_succ, List.getElem_cons_zero, List.setIfInBounds_toArray, List.set_cons_zero, List.set_cons_succ]
        have q1 : w5.cell? ⟨rb, 1, none⟩ = some (.slice (some ⟨lg, 0, none⟩) xn lc) := hHeld.1.cell 1
        have f1 := hHeld.1.frozen 1
        refine AnyU.last rfl (by kernel_rfl) (fun K hK => ?_)
        simp only [List.getElem_toArray, List.getElem_cons_succ, List.getElem_cons_zero]
        go_simp
        refine hK.out _ _ ?_
        clear hK
        refine AnyU.done (by kernel_rfl) ?_ _
        go_wp2_with fail
        go_ret
        refine ⟨rfl, ⟨_, hHeld.1.setCell 1 (.slice a3 k3 c3), ?_⟩, (hHeld.2.mono (T := (· = rb)) (fun _ _ e => e.elim)).setCell (p := ⟨rb, 1, none⟩) (.inl rfl) _⟩
        have h9 := (row_only2 hv3 ((Only.refl (· = rb) w5).setCell (p := ⟨rb, 1, none⟩) (.inl rfl) (.slice a3 k3 c3)) (fun g hg e => by have := hv3b g hg; have := H.out.lt; omega))
        have e1 : k3 = xs.length + 1 := by have := HXN.out; have := HK3.out; omega
        rw [itCells_append, itCells]
        rw [e1] at h9 ⊢
        simpa only [List.nil_append, List.append_assoc, List.cons_append] using h9
      · simp only [List.getElem_toArray, List.getElem_cons_succ, List.getElem_cons_zero]
        go_simp
        have hN : Blk (W1.alloc (.cells #[.int .i64 key, .int .u32 d, .int .i64 v] 140)) W1.heap.size #[.int .i64 key, .int .u32 d, .int .i64 v] 140 := Blk.new W1 _ _
        have hls := hE.lt
        have hE := hE.alloc (.cells #[.int .i64 key, .int .u32 d, .int .i64 v] 140)
        refine hK.out _ (W1.alloc (.cells #[.int .i64 key, .int .u32 d, .int .i64 v] 140)) ⟨hHeld.1.alloc _, hHeld.2.alloc _⟩ (fun hHeld => ?_)
        clear hK
        try simp only [Act.put, List.getElem_toArray, List.getElem_cons_succ, List.getElem_cons_zero, List.setIfInBounds_toArray, List.set_cons_zero, List.set_cons_succ]
        have hgz : w.heap.size ≤ W1.heap.size := hW1
        generalize hg2 : W1.heap.size = g2 at hN hls hgz ⊢
        generalize W1.alloc (.cells #[.int .i64 key, .int .u32 d, .int .i64 v] 140) = W2 at hE hN hHeld ⊢
        refine AnyU.one (i := 8) rfl (by kernel_rfl) (fun K hK => ?_)
        simp only [List.getElem_toArray, List.getElem_cons_succ, List.getElem_cons_zero]
        rw [if_pos (by rfl)]
        have hEg : w.heap.size ≤ w.heap.size := Nat.le_refl _
        refine wp_append_src _ _ 100 140 rfl i0 (.agg #[.int .i64 0, .int .u32 0, .int .i64 0]) 3 24 Try.underlying100 hi hz0 hz1 hz2 rfl (by decide) w.heap.size _ 0 [] rfl (owns_emptyB hE hEg 3) (.slice (some ⟨lg, 0, none⟩) p lc) p (itCells (xs.take p)) rfl (HS1.out.adds hHeld.2) (by rw [itCells_len, List.length_take]; first | rfl | (have := HXN.out; omega)) (itCells_one _) (by unfold maxLen; omega) (by omega) hHeld.2.size ?_
        intro v1 w3 hv1 hO'
        have hO := hO'.mono (T := (w.heap.size ≤ ·)) (fun y _ e => row_base (owns_emptyB hE hEg 3) y e)
        rw [Nat.zero_add, List.nil_append] at hv1
        have hrb := H.out.lt
        have hN := hN.only hO' (fun e => by have e2 : some g2 = some w.heap.size := e; have := Option.some.inj e2; omega)
        refine hK.out _ w3 ⟨hHeld.1.only hO (by omega), hHeld.2.andThen hO (fun i hi e => by omega)⟩ (fun hHeld => ?_)
        clear hK hO hO' hE
        try simp only [Act.put, List.getElem_toArray, List.getElem_cons_succ, List.getElem_cons_zero, List.setIfInBounds_toArray, List.set_cons_zero, List.set_cons_succ]
        refine AnyU.one (i := 14) rfl (by kernel_rfl) (fun K hK => ?_)
        simp only [List.getElem_toArray, List.getElem_cons_succ, List.getElem_cons_zero]
        rw [if_pos (by rfl)]
        refine wp_append_src _ _ 100 140 rfl i0 (.agg #[.int .i64 0, .int .u32 0, .int .i64 0]) 3 24 Try.underlying100 hi hz0 hz1 hz2 rfl (by decide) w.heap.size v1 p (itCells (xs.take p)) rfl hv1 (.slice (some ⟨g2, 0, none⟩) 1 1) 1 [.int .i64 key, .int .u32 d, .int .i64 v] rfl (Src.one hN 1) rfl (by simp [Value.oneCell']) (by unfold maxLen; omega) (by omega) hHeld.2.size ?_
        intro v2 w4 hv2 hO4'
        have hO4 := hO4'.mono (T := (w.heap.size ≤ ·)) (fun y _ e => row_base hv1 y e)
        have hrb := H.out.lt
        refine hK.out _ w4 ⟨hHeld.1.only hO4 (by omega), hHeld.2.andThen hO4 (fun i hi e => by omega)⟩ (fun hHeld => ?_)
        clear hK hO4 hO4' hN hv1
        try simp only [Act.put, List.getElem_toArray, List.getElem_cons_succ, List.getElem_cons_zero, List.setIfInBounds_toArray, List.set_cons_zero, List.set_cons_succ]
        refine AnyU.one (i := 21) rfl (by kernel_rfl) (fun K hK => ?_)
        simp only [List.getElem_toArray, List.getElem_cons_succ, List.getElem_cons_zero]
        rw [if_pos (by rfl)]
        refine wp_append_src _ _ 100 140 rfl i0 (.agg #[.int .i64 0, .int .u32 0, .int .i64 0]) 3 24 Try.underlying100 hi hz0 hz1 hz2 rfl (by decide) w.heap.size v2 (p + 1) (itCells (xs.take p) ++ [.int .i64 key, .int .u32 d, .int .i64 v]) rfl hv2 (.slice (some ⟨lg, sa, none⟩) (xn - p) (lc - p)) (xn - p) (itCells (xs.drop p)) rfl (HS2.out.adds hHeld.2) (by rw [itCells_len, List.length_drop]; first | rfl | (have := HXN.out; omega)) (itCells_one _) (by unfold maxLen; omega) (by omega) hHeld.2.size ?_
        intro v3 w5 hv3 hO5'
        have hO5 := hO5'.mono (T := (w.heap.size ≤ ·)) (fun y _ e => row_base hv2 y e)
        obtain ⟨k3, hk3⟩ : ∃ k3, p + 1 + (xn - p) = k3 := ⟨_, rfl⟩
        rw [hk3] at hv3
        have HK3 := Lib.hid hk3
        clear hk3
        refine hK.out _ w5 ⟨hHeld.1.only hO5 (by omega), hHeld.2.andThen hO5 (fun i hi e => by omega)⟩ (fun hHeld => ?_)
        clear hK hO5 hO5' hv2
        try simp only [Act.put, List.getElem_toArray, List.getElem_cons_succ, List.getElem_cons_zero, List.setIfInBounds_toArray, List.set_cons_zero, List.set_cons_succ]
        have hv3b := row_base hv3
        obtain ⟨a3, c3, rfl⟩ := ownsRow_opened hv3
        refine AnyU.one (i := 22) rfl (by kernel_rfl) (fun K hK => ?_)
        simp only [List.getElem_toArray, List.getElem_cons_succ, List.getElem_cons_zero]
        go_simp
        refine hK.out _ _ hHeld (fun hHeld => ?_)
        clear hK
        try simp only [Act.put, List.getElem_toArray, List.getElem_cons_succ, List.getElem_cons_zero, List.setIfInBounds_toArray, List.set_cons_zero, List.set_cons_succ]
        refine AnyU.one (i := 23) rfl (by kernel_rfl) (fun K hK => ?_)
        simp only [List.getElem_toArray, List.getElem_cons_succ, List.getElem_cons_zero]
        go_simp
        refine hK.out _ _ hHeld (fun hHeld => ?_)
        clear hK
        try simp only [Act.put, List.getElem_toArray, List.getElem_cons_succ, List.getElem_cons_zero, List.setIfInBounds_toArray, List.set_cons_zero, List.set_cons_succ]
        have q1 : w5.cell? ⟨rb, 1, none⟩ = some (.slice (some ⟨lg, 0, none⟩) xn lc) := hHeld.1.cell 1
        have f1 := hHeld.1.frozen 1
        refine AnyU.last rfl (by kernel_rfl) (fun K hK => ?_)
        simp only [List.getElem_toArray, List.getElem_cons_succ, List.getElem_cons_zero]
        go_simp
        refine hK.out _ _ ?_
        clear hK
        refine AnyU.done (by kernel_rfl) ?_ _
        go_wp2_with fail
        go_ret
        refine ⟨rfl, ⟨_, hHeld.1.setCell 1 (.slice a3 k3 c3), ?_⟩, (hHeld.2.mono (T := (· = rb)) (fun _ _ e => e.elim)).setCell (p := ⟨rb, 1, none⟩) (.inl rfl) _⟩
        have h9 := (row_only2 hv3 ((Only.refl (· = rb) w5).setCell (p := ⟨rb, 1, none⟩) (.inl rfl) (.slice a3 k3 c3)) (fun g hg e => by have := hv3b g hg; have := H.out.lt; omega))
        have e1 : k3 = xs.length + 1 := by have := HXN.out; have := HK3.out; omega
        rw [itCells_append, itCells]
        rw [e1] at h9 ⊢
        simpa only [List.nil_append, List.append_assoc, List.cons_append] using h9
    · simp only [List.getElem_toArray, List.getElem_cons_succ, List.getElem_cons_zero]
      go_simp
      have hN : Blk (w.drew.alloc (.cells #[.int .i64 key, .int .u32 d, .int .i64 v] 140)) w.heap.size #[.int .i64 key, .int .u32 d, .int .i64 v] 140 := Blk.new w.drew _ _
      refine hK.out _ (w.drew.alloc (.cells #[.int .i64 key, .int .u32 d, .int .i64 v] 140)) ⟨hHeld.1.alloc _, hHeld.2.alloc _⟩ (fun hHeld => ?_)
      clear hK
      try simp only [Act.put, List.getElem_toArray, List.getElem_cons_succ, List.getElem_cons_zero, List.setIfInBounds_toArray, List.set_cons_zero, List.set_cons_succ]
      generalize w.drew.alloc (.cells #[.int .i64 key, .int .u32 d, .int .i64 v] 140) = W1 at hN hHeld ⊢
      have hW1 : w.heap.size ≤ W1.heap.size := hHeld.2.size
      refine AnyU.one (i := 1) rfl (by kernel_rfl) (fun K hK => ?_)
      simp only [List.getElem_toArray, List.getElem_cons_succ, List.getElem_cons_zero]
      go_simp
      have hE : Blk (W1.alloc (.cells #[] 140)) W1.heap.size #[] 140 := Blk.new W1 _ _
      have hls := hN.lt
      have hN := hN.alloc (.cells #[] 140)
      refine hK.out _ (W1.alloc (.cells #[] 140)) ⟨hHeld.1.alloc _, hHeld.2.alloc _⟩ (fun hHeld => ?_)
      clear hK
      try simp only [Act.put, List.getElem_toArray, List.getElem_cons_succ, List.getElem_cons_zero, List.setIfInBounds_toArray, List.set_cons_zero, List.set_cons_succ]
      generalize hg2 : W1.heap.size = g1 at hE hls ⊢
      generalize W1.alloc (.cells #[] 140) = W2 at hE hN hHeld ⊢
      have hEg : w.heap.size ≤ g1 := by omega
      refine AnyU.one (i := 8) rfl (by kernel_rfl) (fun K hK => ?_)
      simp only [List.getElem_toArray, List.getElem_cons_succ, List.getElem_cons_zero]
      rw [if_pos (by rfl)]
      refine wp_append_src _ _ 100 140 rfl i0 (.agg #[.int .i64 0, .int .u32 0, .int .i64 0]) 3 24 Try.underlying100 hi hz0 hz1 hz2 rfl (by decide) w.heap.size _ 0 [] rfl (owns_emptyB hE hEg 3) (.slice (some ⟨lg, 0, none⟩) p lc) p (itCells (xs.take p)) rfl (HS1.out.adds hHeld.2) (by rw [itCells_len, List.length_take]; first | rfl | (have := HXN.out; omega)) (itCells_one _) (by unfold maxLen; omega) (by omega) hHeld.2.size ?_
      intro v1 w3 hv1 hO'
      have hO := hO'.mono (T := (w.heap.size ≤ ·)) (fun y _ e => row_base (owns_emptyB hE hEg 3) y e)
      rw [Nat.zero_add, List.nil_append] at hv1
      have hrb := H.out.lt
      have hN := hN.only hO' (fun e => by have e2 : some w.heap.size = some g1 := e; have := Option.some.inj e2; omega)
      refine hK.out _ w3 ⟨hHeld.1.only hO (by omega), hHeld.2.andThen hO (fun i hi e => by omega)⟩ (fun hHeld => ?_)
      clear hK hO hO' hE
      try simp only [Act.put, List.getElem_toArray, List.getElem_cons_succ, List.getElem_cons_zero, List.setIfInBounds_toArray, List.set_cons_zero, List.set_cons_succ]
      generalize hg3 : w.heap.size = g2 at hN ⊢
      refine AnyU.one (i := 14) rfl (by kernel_rfl) (fun K hK => ?_)
      simp only [List.getElem_toArray, List.getElem_cons_succ, List.getElem_cons_zero]
      rw [if_pos (by rfl)]
      refine wp_append_src _ _ 100 140 rfl i0 (.agg #[.int .i64 0, .int .u32 0, .int .i64 0]) 3 24 Try.underlying100 hi hz0 hz1 hz2 rfl (by decide) w.heap.size v1 p (itCells (xs.take p)) rfl hv1 (.slice (some ⟨g2, 0, none⟩) 1 1) 1 [.int .i64 key, .int .u32 d, .int .i64 v] rfl (Src.one hN 1) rfl (by simp [Value.oneCell']) (by unfold maxLen; omega) (by omega) hHeld.2.size ?_
      intro v2 w4 hv2 hO4'
      have hO4 := hO4'.mono (T := (w.heap.size ≤ ·)) (fun y _ e => row_base hv1 y e)
      have hrb := H.out.lt
      refine hK.out _ w4 ⟨hHeld.1.only hO4 (by omega), hHeld.2.andThen hO4 (fun i hi e => by omega)⟩ (fun hHeld => ?_)
      clear hK hO4 hO4' hN hv1
      try simp only [Act.put, List.getElem_toArray, List.getElem_cons_succ, List.getElem_cons_zero, List.setIfInBounds_toArray, List.set_cons_zero, List.set_cons_succ]
      refine AnyU.one (i := 21) rfl (by kernel_rfl) (fun K hK => ?_)
      simp only [List.getElem_toArray, List.getElem_cons_succ, List.getElem_cons_zero]
      rw [if_pos (by rfl)]
      refine wp_append_src _ _ 100 140 rfl i0 (.agg #[.int .i64 0, .int .u32 0, .int .i64 0]) 3 24 Try.underlying100 hi hz0 hz1 hz2 rfl (by decide) w.heap.size v2 (p + 1) (itCells (xs.take p) ++ [.int .i64 key, .int .u32 d, .int .i64 v]) rfl hv2 (.slice (some ⟨lg, sa, none⟩) (xn - p) (lc - p)) (xn - p) (itCells (xs.drop p)) rfl (HS2.out.adds hHeld.2) (by rw [itCells_len, List.length_drop]; first | rfl | (have := HXN.out; omega)) (itCells_one _) (by unfold maxLen; omega) (by omega) hHeld.2.size ?_
      intro v3 w5 hv3 hO5'
      have hO5 := hO5'.mono (T := (w.heap.size ≤ ·)) (fun y _ e => row_base hv2 y e)
      obtain ⟨k3, hk3⟩ : ∃ k3, p + 1 + (xn - p) = k3 := ⟨_, rfl⟩
      rw [hk3] at hv3
      have HK3 := Lib.hid hk3
      clear hk3
      refine hK.out _ w5 ⟨hHeld.1.only hO5 (by omega), hHeld.2.andThen hO5 (fun i hi e => by omega)⟩ (fun hHeld => ?_)
      clear hK hO5 hO5' hv2
      try simp only [Act.put, List.getElem_toArray, List.getElem_cons_succ, List.getElem_cons_zero, List.setIfInBounds_toArray, List.set_cons_zero, List.set_cons_succ]
      have hv3b := row_base hv3
      obtain ⟨a3, c3, rfl⟩ := ownsRow_opened hv3
      refine AnyU.one (i := 22) rfl (by kernel_rfl) (fun K hK => ?_)
      simp only [List.getElem_toArray, List.getElem_cons_succ, List.getElem_cons_zero]
      go_simp
      refine hK.out _ _ hHeld (fun hHeld => ?_)
      clear hK
      try simp only [Act.put, List.getElem_toArray, List.getElem_cons_succ, List.getElem_cons_zero, List.setIfInBounds_toArray, List.set_cons_zero, List.set_cons_succ]
      refine AnyU.one (i := 23) rfl (by kernel_rfl) (fun K hK => ?_)
      simp only [List.getElem_toArray, List.getElem_cons_succ, List.getElem_cons_zero]
      go_simp
      refine hK.out _ _ hHeld (fun hHeld => ?_)
      clear hK
      try simp only [Act.put, List.getElem_toArray, List.getElem_cons_succ, List.getElem_cons_zero, List.setIfInBounds_toArray, List.set_cons_zero, List.set_cons_succ]
      have q1 : w5.cell? ⟨rb, 1, none⟩ = some (.slice (some ⟨lg, 0, none⟩) xn lc) := hHeld.1.cell 1
      have f1 := hHeld.1.frozen 1
      refine AnyU.last rfl (by kernel_rfl) (fun K hK => ?_)
      simp only [List.getElem_toArray, List.getElem_cons_succ, List.getElem_cons_zero]
      go_simp
      refine hK.out _ _ ?_
      clear hK
      refine AnyU.done (by kernel_rfl) ?_ _
      go_wp2_with fail
      go_ret
      refine ⟨rfl, ⟨_, hHeld.1.setCell 1 (.slice a3 k3 c3), ?_⟩, (hHeld.2.mono (T := (· = rb)) (fun _ _ e => e.elim)).setCell (p := ⟨rb, 1, none⟩) (.inl rfl) _⟩
      have h9 := (row_only2 hv3 ((Only.refl (· = rb) w5).setCell (p := ⟨rb, 1, none⟩) (.inl rfl) (.slice a3 k3 c3)) (fun g hg e => by have := hv3b g hg; have := H.out.lt; omega))
      have e1 : k3 = xs.length + 1 := by have := HXN.out; have := HK3.out; omega
      rw [itCells_append, itCells]
      rw [e1] at h9 ⊢
      simpa only [List.nil_append, List.append_assoc, List.cons_append] using h9
set_option maxRecDepth 100000 in
set_option maxHeartbeats 16000000 in
theorem drop9_none (h : Blk w rb (rCells fr tl dr n) 104) (hit : ItAt w tl xs) (hl : xs.length < 1000000) (hk : hasK key xs = false) :
    Calls Try.prog 67 #[.pointer (some ⟨rb, 1, none⟩), .int .i64 key] w fun e w' => e = .returned (.tuple #[.int .i64 0, .bool false]) ∧ w = w' := by
  have HH := Lib.hid (has9_any h hit hl key)
  rw [hk] at HH
  clear h hit hk
  go_enter Try.func67, Try.ntmps67
  go_wp2_with (go_at_call 87; refine HH.out.mono ?_; rintro e w1 ⟨rfl, rfl⟩)
  go_ret2
  exact ⟨rfl, rfl⟩
set_option maxRecDepth 100000 in
set_option maxHeartbeats 16000000 in
theorem drop9_any (h : Blk w rb (rCells fr tl dr n) 104) (hr : w.ownsRow 0 140 3 tl xs.length (itCells xs)) (hl : xs.length < 1000000) {x : It} (hx : xs[plc key xs]? = some x) (hk : x.1 = key) :
    Calls Try.prog 67 #[.pointer (some ⟨rb, 1, none⟩), .int .i64 key] w fun e w' => e = .returned (.tuple #[.int .i64 x.2.2, .bool true]) ∧ (∃ tl', Blk w' rb (rCells fr tl' dr n) 104 ∧ w'.ownsRow w.heap.size 140 3 tl' (xs.length - 1) (itCells (xs.take (plc key xs) ++ xs.drop (plc key xs + 1)))) ∧ Only (· = rb) w w' := by
  obtain ⟨i0, hi, hz0, hz1, hz2⟩ := info_parts infoItem
  obtain ⟨hit, -⟩ := ItAt.of_owns hr
  have HH := Lib.hid (has9_any h hit hl key)
  have HP := Lib.hid (place9_any h hit hl key)
  have hkb : hasK key xs = true := by unfold hasK; rw [hx]; simpa using hk
  obtain ⟨p, hp⟩ : ∃ p, plc key xs = p := ⟨_, rfl⟩
  rw [hp] at HP hx ⊢
  rw [hkb] at HH
  have H := Lib.hid h
  obtain ⟨xn, hxn⟩ : ∃ xn, xn = xs.length := ⟨_, rfl⟩
  have hplt : p < xn := by rw [hxn]; exact (List.getElem?_eq_some_iff.1 hx).1
  have HXN := Lib.hid hxn
  rw [← hxn] at hl
  have hsrc : ∃ lg lc, tl = .slice (some ⟨lg, 0, none⟩) xn lc ∧ xn ≤ lc ∧ lc ≤ maxLen := by
    rcases hr.2 with ⟨h0, h1⟩ | ⟨g, cap, cur, h1, _, _, h4, h5, _⟩
    · omega
    · exact ⟨g, cap, by rw [h1, hxn], by omega, by omega⟩
  obtain ⟨lg, lc, rfl, hlc, hlm⟩ := hsrc
  have c1 : w.cell? ⟨rb, 1, none⟩ = some (.slice (some ⟨lg, 0, none⟩) xn lc) := h.cell 1
  obtain ⟨v, hv⟩ : ∃ v, x.2.2 = v := ⟨_, rfl⟩
  have c2 : w.cell? ⟨lg, p * 3 + 2, none⟩ = some (.int .i64 v) := by
    obtain ⟨a, cap', h1, _, _, _, h4⟩ := hit
    obtain ⟨b, o', h5, _, _, h8⟩ := h4 p x hx
    cases h1
    cases h5
    rw [← hv, ← Nat.zero_add (p * 3)]; exact h8
  rw [hv]
  have hS1 : Src w (.slice (some ⟨lg, 0, none⟩) p lc) p (itCells (xs.take p)) := by have hh := hit; rw [hxn] at hh hplt; exact hh.take _ (Nat.le_of_lt hplt)
  obtain ⟨sa, hsa⟩ : ∃ sa, (if lc = p + 1 then (some (⟨lg, 0, none⟩ : Addr)) else some ⟨lg, (p + 1) * 3, none⟩) = some ⟨lg, sa, none⟩ := by split; exact ⟨_, rfl⟩; exact ⟨_, rfl⟩
  have hS2 : Src w (.slice (some ⟨lg, sa, none⟩) (xn - (p + 1)) (lc - (p + 1))) (xn - (p + 1)) (itCells (xs.drop (p + 1))) := by
    split at hsa
    · refine .inr (.inl ⟨lg, sa, lc - (p + 1), rfl, fun j u hj => ?_⟩)
      have := (List.getElem?_eq_some_iff.1 hj).1
      rw [itCells_len, List.length_drop] at this
      omega
    · obtain rfl : (p + 1) * 3 = sa := by simpa using hsa
      have hh := hit; rw [hxn] at hh ⊢; have := hh.drop (p := p + 1) (lc - (p + 1)); rwa [Nat.zero_add] at this
  have HS1 := Lib.hid hS1; have HS2 := Lib.hid hS2
  have hpl : p ≤ lc := by omega
  have hpn : ¬ lc < p := by omega
  have hql : p + 1 ≤ lc := by omega
  have hqn : ¬ lc < p + 1 := by omega
  have hq2 : p + 1 ≤ xn := by omega
  have hwp := wrap_succ p (by omega)
  clear h hr hit hk hkb hxn hS1 hS2 hv hx
  go_enter Try.func67, Try.ntmps67
  go_upto_region 5 with (first
    | (go_at_call 87; refine HH.out.mono ?_; rintro e w1 ⟨rfl, rfl⟩)
    | (go_at_call 88; refine HP.out.mono ?_; rintro e w2 ⟨rfl, rfl⟩))
  refine AnyU.region (S := (fun W => Blk W rb (rCells fr (.slice (some ⟨lg, 0, none⟩) xn lc) dr n) 104 ∧ Adds w W)) (k := 19) (by kernel_rfl) ⟨H.out.only ((Only.refl (fun _ => False) w).drew) (id : ¬ False), (Only.refl (fun _ => False) w).drew⟩ (fun hHeld => ?_)
  refine AnyU.take (i := 0) (v := (.pointer (some ⟨rb, 1, none⟩))) rfl rfl (by kernel_rfl) (by kernel_rfl) (by kernel_rfl) (by kernel_rfl) (by kernel_rfl) (by decide) (fun _ _ _ h => h) (Or.inl ⟨by rfl, fun W hS => by first | rfl | (go_simp; done)⟩) hHeld ?_
  try simp only [Act.put, List.getElem_toArray, List.getElem_cons_succ, List.getElem_cons_zero, List.setIfInBounds_toArray, List.set_cons_zero, List.set_cons_succ]
  refine AnyU.take (i := 2) (v := (.pointer (some ⟨rb, 1, none⟩))) rfl rfl (by kernel_rfl) (by kernel_rfl) (by kernel_rfl) (by kernel_rfl) (by kernel_rfl) (by decide) (fun _ _ _ h => h) (Or.inl ⟨by rfl, fun W hS => by first | rfl | (go_simp; done)⟩) hHeld ?_
  try simp only [Act.put, List.getElem_toArray, List.getElem_cons_succ, List.getElem_cons_zero, List.setIfInBounds_toArray, List.set_cons_zero, List.set_cons_succ]
  refine AnyU.take (i := 3) (v := (.pointer (some ⟨rb, 1, none⟩))) rfl rfl (by kernel_rfl) (by kernel_rfl) (by kernel_rfl) (by kernel_rfl) (by kernel_rfl) (by decide) (fun _ _ _ h => h) (Or.inl ⟨by rfl, fun W hS => by first | rfl | (go_simp; done)⟩) hHeld ?_
  try simp only [Act.put, List.getElem_toArray, List.getElem_cons_succ, List.getElem_cons_zero, List.setIfInBounds_toArray, List.set_cons_zero, List.set_cons_succ]
  refine AnyU.take (i := 4) (v := (.pointer (some ⟨rb, 1, none⟩))) rfl rfl (by kernel_rfl) (by kernel_rfl) (by kernel_rfl) (by kernel_rfl) (by kernel_rfl) (by decide) (fun _ _ _ h => h) (Or.inl ⟨by rfl, fun W hS => by first | rfl | (go_simp; done)⟩) hHeld ?_
  try simp only [Act.put, List.getElem_toArray, List.getElem_cons_succ, List.getElem_cons_zero, List.setIfInBounds_toArray, List.set_cons_zero, List.set_cons_succ]
  refine AnyU.take (i := 5) (v := (.slice (some ⟨lg, 0, none⟩) xn lc)) rfl rfl (by kernel_rfl) (by kernel_rfl) (by kernel_rfl) (by kernel_rfl) (by kernel_rfl) (by decide) (fun _ _ _ h => h) (Or.inl ⟨by rfl, fun W hS => by (have q1 : W.cell? ⟨rb, 1, none⟩ = some (.slice (some ⟨lg, 0, none⟩) xn lc) := hS.1.cell 1; go_simp)⟩) hHeld ?_
  try simp only [Act.put, List.getElem_toArray, List.getElem_cons_succ, List.getElem_cons_zero, List.setIfInBounds_toArray, List.set_cons_zero, List.set_cons_succ]
  refine AnyU.take (i := 6) (v := (.int .i64 p)) rfl rfl (by kernel_rfl) (by kernel_rfl) (by kernel_rfl) (by kernel_rfl) (by kernel_rfl) (by decide) (fun _ _ _ h => h) (Or.inl ⟨by rfl, fun W hS => by first | rfl | (go_simp; done)⟩) hHeld ?_
  try simp only [Act.put, List.getElem_toArray, List.getElem_cons_succ, List.getElem_cons_zero, List.setIfInBounds_toArray, List.set_cons_zero, List.set_cons_succ]
  refine AnyU.take (i := 7) (v := (.slice (some ⟨lg, 0, none⟩) p lc)) rfl rfl (by kernel_rfl) (by kernel_rfl) (by kernel_rfl) (by kernel_rfl) (by kernel_rfl) (by decide) (fun _ _ _ h => h) (Or.inl ⟨by rfl, fun W hS => by (go_simp)⟩) hHeld ?_
  try simp only [Act.put, List.getElem_toArray, List.getElem_cons_succ, List.getElem_cons_zero, List.setIfInBounds_toArray, List.set_cons_zero, List.set_cons_succ]
  refine AnyU.take (i := 9) (v := (.pointer (some ⟨rb, 1, none⟩))) rfl rfl (by kernel_rfl) (by kernel_rfl) (by kernel_rfl) (by kernel_rfl) (by kernel_rfl) (by decide) (fun _ _ _ h => h) (Or.inl ⟨by rfl, fun W hS => by first | rfl | (go_simp; done)⟩) hHeld ?_
  try simp only [Act.put, List.getElem_toArray, List.getElem_cons_succ, List.getElem_cons_zero, List.setIfInBounds_toArray, List.set_cons_zero, List.set_cons_succ]
  refine AnyU.take (i := 10) (v := (.pointer (some ⟨rb, 1, none⟩))) rfl rfl (by kernel_rfl) (by kernel_rfl) (by kernel_rfl) (by kernel_rfl) (by kernel_rfl) (by decide) (fun _ _ _ h => h) (Or.inl ⟨by rfl, fun W hS => by first | rfl | (go_simp; done)⟩) hHeld ?_
  try simp only [Act.put, List.getElem_toArray, List.getElem_cons_succ, List.getElem_cons_zero, List.setIfInBounds_toArray, List.set_cons_zero, List.set_cons_succ]
  refine AnyU.take (i := 11) (v := (.pointer (some ⟨rb, 1, none⟩))) rfl rfl (by kernel_rfl) (by kernel_rfl) (by kernel_rfl) (by kernel_rfl) (by kernel_rfl) (by decide) (fun _ _ _ h => h) (Or.inl ⟨by rfl, fun W hS => by first | rfl | (go_simp; done)⟩) hHeld ?_
  try simp only [Act.put, List.getElem_toArray, List.getElem_cons_succ, List.getElem_cons_zero, List.setIfInBounds_toArray, List.set_cons_zero, List.set_cons_succ]
  refine AnyU.take (i := 12) (v := (.slice (some ⟨lg, 0, none⟩) xn lc)) rfl rfl (by kernel_rfl) (by kernel_rfl) (by kernel_rfl) (by kernel_rfl) (by kernel_rfl) (by decide) (fun _ _ _ h => h) (Or.inl ⟨by rfl, fun W hS => by (have q1 : W.cell? ⟨rb, 1, none⟩ = some (.slice (some ⟨lg, 0, none⟩) xn lc) := hS.1.cell 1; go_simp)⟩) hHeld ?_
  try simp only [Act.put, List.getElem_toArray, List.getElem_cons_succ, List.getElem_cons_zero, List.setIfInBounds_toArray, List.set_cons_zero, List.set_cons_succ]
  refine AnyU.take (i := 13) (v := (.int .i64 p)) rfl rfl (by kernel_rfl) (by kernel_rfl) (by kernel_rfl) (by kernel_rfl) (by kernel_rfl) (by decide) (fun _ _ _ h => h) (Or.inl ⟨by rfl, fun W hS => by first | rfl | (go_simp; done)⟩) hHeld ?_
  try simp only [Act.put, List.getElem_toArray, List.getElem_cons_succ, List.getElem_cons_zero, List.setIfInBounds_toArray, List.set_cons_zero, List.set_cons_succ]
  refine AnyU.take (i := 14) (v := (.int .i64 ((p : Int) + 1))) rfl rfl (by kernel_rfl) (by kernel_rfl) (by kernel_rfl) (by kernel_rfl) (by kernel_rfl) (by decide) (fun _ _ _ h => h) (Or.inl ⟨by rfl, fun W hS => by (go_simp; done)⟩) hHeld ?_
  try simp only [Act.put, List.getElem_toArray, List.getElem_cons_succ, List.getElem_cons_zero, List.setIfInBounds_toArray, List.set_cons_zero, List.set_cons_succ]
  refine AnyU.take (i := 15) (v := (.slice (some ⟨lg, sa, none⟩) (xn - (p + 1)) (lc - (p + 1)))) rfl rfl (by kernel_rfl) (by kernel_rfl) (by kernel_rfl) (by kernel_rfl) (by kernel_rfl) (by decide) (fun _ _ _ h => h) (Or.inl ⟨by rfl, fun W hS => by (go_simp; exact fun h => absurd (h (by omega)) (by omega))⟩) hHeld ?_
  try simp only [Act.put, List.getElem_toArray, List.getElem_cons_succ, List.getElem_cons_zero, List.setIfInBounds_toArray, List.set_cons_zero, List.set_cons_succ]
  refine AnyU.one (i := 1) rfl (by kernel_rfl) (fun K hK => ?_)
  simp only [List.getElem_toArray, List.getElem_cons_succ, List.getElem_cons_zero]
  go_simp
  have hE : Blk (w.drew.alloc (.cells #[] 140)) w.heap.size #[] 140 := Blk.new w.drew _ _
  refine hK.out _ (w.drew.alloc (.cells #[] 140)) ⟨hHeld.1.alloc _, hHeld.2.alloc _⟩ (fun hHeld => ?_)
  clear hK
  try simp only [Act.put, List.getElem_toArray, List.getElem_cons_succ, List.getElem_cons_zero, List.setIfInBounds_toArray, List.set_cons_zero, List.set_cons_succ]
  generalize w.drew.alloc (.cells #[] 140) = W1 at hE hHeld ⊢
  refine AnyU.one (i := 8) rfl (by kernel_rfl) (fun K hK => ?_)
  simp only [List.getElem_toArray, List.getElem_cons_succ, List.getElem_cons_zero]
  rw [if_pos (by rfl)]
  refine wp_append_src _ _ 100 140 rfl i0 (.agg #[.int .i64 0, .int .u32 0, .int .i64 0]) 3 24 Try.underlying100 hi hz0 hz1 hz2 rfl (by decide) w.heap.size _ 0 [] rfl (owns_emptyB hE (Nat.le_refl _) 3) (.slice (some ⟨lg, 0, none⟩) p lc) p (itCells (xs.take p)) rfl (HS1.out.adds hHeld.2) (by rw [itCells_len, List.length_take]; have := HXN.out; omega) (itCells_one _) (by unfold maxLen; omega) (by omega) hHeld.2.size ?_
  intro v1 w3 hv1 hO'
  have hO := hO'.mono (T := (w.heap.size ≤ ·)) (fun y _ e => row_base (owns_emptyB hE (Nat.le_refl _) 3) y e)
  rw [Nat.zero_add, List.nil_append] at hv1
  have hrb := H.out.lt
  refine hK.out _ w3 ⟨hHeld.1.only hO (by omega), hHeld.2.andThen hO (fun i hi e => by omega)⟩ (fun hHeld => ?_)
  clear hK hO hO' hE
  try simp only [Act.put, List.getElem_toArray, List.getElem_cons_succ, List.getElem_cons_zero, List.setIfInBounds_toArray, List.set_cons_zero, List.set_cons_succ]
  refine AnyU.one (i := 16) rfl (by kernel_rfl) (fun K hK => ?_)
  simp only [List.getElem_toArray, List.getElem_cons_succ, List.getElem_cons_zero]
  rw [if_pos (by rfl)]
  refine wp_append_src _ _ 100 140 rfl i0 (.agg #[.int .i64 0, .int .u32 0, .int .i64 0]) 3 24 Try.underlying100 hi hz0 hz1 hz2 rfl (by decide) w.heap.size v1 p (itCells (xs.take p)) rfl hv1 (.slice (some ⟨lg, sa, none⟩) (xn - (p + 1)) (lc - (p + 1))) (xn - (p + 1)) (itCells (xs.drop (p + 1))) rfl (HS2.out.adds hHeld.2) (by rw [itCells_len, List.length_drop]; have := HXN.out; omega) (itCells_one _) (by unfold maxLen; omega) (by omega) hHeld.2.size ?_
  intro v2 w4 hv2 hO'
  have hO := hO'.mono (T := (w.heap.size ≤ ·)) (fun y _ e => row_base hv1 y e)
  refine hK.out _ w4 ⟨hHeld.1.only hO (by omega), hHeld.2.andThen hO (fun i hi e => by omega)⟩ (fun hHeld => ?_)
  clear hK hO hO' hv1
  try simp only [Act.put, List.getElem_toArray, List.getElem_cons_succ, List.getElem_cons_zero, List.setIfInBounds_toArray, List.set_cons_zero, List.set_cons_succ]
  obtain ⟨k3, hk3⟩ : ∃ k3, p + (xn - (p + 1)) = k3 := ⟨_, rfl⟩
  rw [hk3] at hv2
  have HK3 := Lib.hid hk3
  clear hk3
  have hv3b := row_base hv2
  obtain ⟨a3, c3, rfl⟩ := ownsRow_opened hv2
  refine AnyU.one (i := 17) rfl (by kernel_rfl) (fun K hK => ?_)
  simp only [List.getElem_toArray, List.getElem_cons_succ, List.getElem_cons_zero]
  go_simp
  refine hK.out _ _ hHeld (fun hHeld => ?_)
  clear hK
  try simp only [Act.put, List.getElem_toArray, List.getElem_cons_succ, List.getElem_cons_zero, List.setIfInBounds_toArray, List.set_cons_zero, List.set_cons_succ]
  refine AnyU.one (i := 18) rfl (by kernel_rfl) (fun K hK => ?_)
  simp only [List.getElem_toArray, List.getElem_cons_succ, List.getElem_cons_zero]
  go_simp
  refine hK.out _ _ hHeld (fun hHeld => ?_)
  clear hK
  try simp only [Act.put, List.getElem_toArray, List.getElem_cons_succ, List.getElem_cons_zero, List.setIfInBounds_toArray, List.set_cons_zero, List.set_cons_succ]
  have q1 : w4.cell? ⟨rb, 1, none⟩ = some (.slice (some ⟨lg, 0, none⟩) xn lc) := hHeld.1.cell 1
  have f1 := hHeld.1.frozen 1
  refine AnyU.last rfl (by kernel_rfl) (fun K hK => ?_)
  simp only [List.getElem_toArray, List.getElem_cons_succ, List.getElem_cons_zero]
  go_simp
  refine hK.out _ _ ?_
  clear hK
  refine AnyU.done (by kernel_rfl) ?_ _
  go_wp2_with fail
  go_ret2
  refine ⟨rfl, ⟨_, hHeld.1.setCell 1 (.slice a3 k3 c3), ?_⟩, (hHeld.2.mono (T := (· = rb)) (fun _ _ e => e.elim)).setCell (p := ⟨rb, 1, none⟩) (.inl rfl) _⟩
  have h9 := (row_only2 hv2 ((Only.refl (· = rb) w4).setCell (p := ⟨rb, 1, none⟩) (.inl rfl) (.slice a3 k3 c3)) (fun g hg e => by have := hv3b g hg; have := H.out.lt; omega))
  have e1 : k3 = xs.length - 1 := by have := HXN.out; have := HK3.out; omega
  rw [itCells_append]
  rw [e1] at h9 ⊢
  exact h9
end
end Go.Proofs.Ytbijbpnhakbeeaa

/- RunsDraws: its walk. By an AI agent. -/
import Derived.Test.YtbijbpnhakbeeaaRunsSome
namespace Go.Proofs.Ytbijbpnhakbeeaa
open Go.RowKit
/-- Two runs, made by a call, apart, of the same pages. -/
structure Two (w w' : World) (P : Int) (a b : RS) : Prop where
  fa : SomeRuns w w' P a
  fb : SomeRuns w w' P b
  apart : ∀ y, a.all y → ¬ b.all y
  xs : a.xs = b.xs
  dn : a.dn = b.dn
section
variable {w w1 w2 w3 : World} {P : Int} {a b a' b' : RS}
theorem keepB (h : SomeRuns w w1 P b) (ha : ∀ y, a.all y → ¬ b.all y) (m : Moves a a' w1 w2) : IsRuns w2 b := h.is.only m.only (fun y hb ho => ha y (.inl ho) hb)
theorem apartB (h : SomeRuns w w1 P b) (ha : ∀ y, a.all y → ¬ b.all y) (m : Moves a a' w1 w2) : ∀ y, a'.all y → ¬ b.all y := fun y hy hb =>
  (m.all y hy).elim (fun h2 => ha y h2 hb) (fun h2 => by have := h.is.lt y hb; omega)
theorem Two.both (h : Two w w1 P a b) (ia : IsRuns w2 a') (ma : Moves a a' w1 w2) (ib : IsRuns w3 b') (mb : Moves b b' w2 w3) (hx : a'.xs = b'.xs) (hd : a'.dn = b'.dn) : Two w w3 P a' b' := by
  have hA := h.fa.moves ia ma
  have hB2 : SomeRuns w w2 P b := ⟨keepB h.fb h.apart ma, h.fb.P, hA.adds, h.fb.new⟩
  have hap := apartB h.fb h.apart ma
  have hap' : ∀ y, b.all y → ¬ a'.all y := fun y hb ha => hap y ha hb
  have hB := hB2.moves ib mb
  exact ⟨⟨keepB hA hap' mb, hA.P, hB.adds, hA.new⟩, hB, fun y ha hb => apartB hA hap' mb y hb ha, hx, hd⟩
theorem Two.swap (h : Two w w1 P a b) : Two w w1 P b a := ⟨h.fb, h.fa, fun y hb ha => h.apart y ha hb, h.xs.symm, h.dn.symm⟩
theorem Two.keep (h : Two w w1 P a b) (ho : Adds w1 w2) : Two w w2 P a b := ⟨h.fa.keep ho, h.fb.keep ho, h.apart, h.xs, h.dn⟩
end
theorem row_adds {k : IntKind} {w w' : World} {a : Option Addr} {len cap : Nat} {zs : List Int} (h : IsRow k w a len cap zs) (ho : Adds w w') : IsRow k w' a len cap zs := by
  rcases h with h | ⟨x, h1, h2, h3, h4, h5, h6⟩
  · exact .inl h
  · refine .inr ⟨x, h1, h2, h3, h4, fun i hi => ?_, h6⟩
    have := h5 i hi
    refine (ho.cellF (p := x.add i) ?_ id).trans this
    rcases Nat.lt_or_ge (x.add i).block w.heap.size with h7 | h7
    · exact h7
    · simp [World.cell?, Array.getElem?_eq_none h7] at this
theorem take_same {a b a' b' : RS} (ha : a.Ok) (hx : a.xs = b.xs) (hd : a.dn = b.dn) {n x e y f : Int} (h : TakeOf a n x e a') (k : TakeOf b n y f b') : x = y ∧ e = f ∧ a'.xs = b'.xs ∧ a'.dn = b'.dn ∧ a'.dn ≤ a.dn + 1 := by
  have hz : ∀ {c c' : RS} {z g : Int}, TakeOf c n z g c' → (n < 1 ∧ z = 0 ∧ g = 1 ∧ c' = c) ∨ (1 ≤ n ∧ (∀ y ∈ c.xs, y.2 < n) ∧ z = 0 ∧ g = 3 ∧ c' = c) ∨ (1 ≤ n ∧ ∃ q, IsBest n c.xs q ∧ z = q.1 ∧ g = 0 ∧ c'.xs = takeL q n c.xs ∧ c'.dn = c.dn + (if n < q.2 then 1 else 0)) := by
    rintro c c' z g (h | h | ⟨h1, q, hq, rfl, rfl, lv, hh⟩)
    · exact .inl h
    · exact .inr (.inl h)
    · refine .inr (.inr ⟨h1, q, hq, rfl, rfl, ?_⟩)
      rcases hh with ⟨h3, rfl⟩ | ⟨h3, nb, lv', rfl⟩
      · refine ⟨?_, ?_⟩
        · unfold takeL; rw [if_neg (by omega)]; rfl
        · rw [if_neg (by omega)]; rfl
      · refine ⟨?_, ?_⟩
        · unfold takeL; rw [if_pos h3]; rfl
        · rw [if_pos h3]; rfl
  rcases hz h with ⟨h1, rfl, rfl, rfl⟩ | ⟨h1, h2, rfl, rfl, rfl⟩ | ⟨h1, q, hq, rfl, rfl, hx1, hd1⟩
  · rcases hz k with ⟨k1, rfl, rfl, rfl⟩ | ⟨k1, _⟩ | ⟨k1, _⟩
    · exact ⟨rfl, rfl, hx, hd, Nat.le_succ _⟩
    · omega
    · omega
  · rcases hz k with ⟨k1, _⟩ | ⟨k1, k2, rfl, rfl, rfl⟩ | ⟨k1, q, hq, _⟩
    · omega
    · exact ⟨rfl, rfl, hx, hd, Nat.le_succ _⟩
    · have := h2 q (hx ▸ hq.mem); have := hq.long; omega
  · rcases hz k with ⟨k1, _⟩ | ⟨k1, k2, _⟩ | ⟨k1, q', hq', rfl, rfl, kx1, kd1⟩
    · omega
    · have := k2 q (hx ▸ hq.mem); have := hq.long; omega
    · rw [← hx] at hq' kx1
      obtain rfl := IsBest.uniq ha.list ha.P2 hq hq'
      refine ⟨rfl, rfl, hx1.trans kx1.symm, by rw [hd1, kd1, hd], ?_⟩
      rw [hd1]; split <;> omega
theorem free_same {a b a' b' : RS} (hx : a.xs = b.xs) (hd : a.dn = b.dn) (hP : a.P = b.P) {t n e f : Int} (h : FreeOf a t n e a') (k : FreeOf b t n f b') : e = f ∧ a'.xs = b'.xs ∧ a'.dn = b'.dn ∧ a'.dn ≤ a.dn + 1 := by
  rcases h.cases with ⟨rfl, h1, h2, h3, h4⟩ | ⟨_, rfl, ⟨h1, rfl⟩ | ⟨h1, h2, rfl⟩⟩
  · rcases k.cases with ⟨rfl, k1, k2, k3, k4⟩ | ⟨_, rfl, ⟨k1, rfl⟩ | ⟨k1, ⟨y, hy, hh⟩, rfl⟩⟩
    · exact ⟨rfl, by rw [h3, k3, hx], by rw [h4, k4, hd], by omega⟩
    · omega
    · rw [← hx] at hy; exact absurd hh (h2 y hy)
  · rcases k.cases with ⟨rfl, k1, k2, k3, k4⟩ | ⟨_, rfl, ⟨k1, rfl⟩ | ⟨k1, k2, rfl⟩⟩
    · omega
    · exact ⟨rfl, hx, hd, Nat.le_succ _⟩
    · omega
  · rcases k.cases with ⟨rfl, k1, k2, k3, k4⟩ | ⟨_, rfl, ⟨k1, rfl⟩ | ⟨k1, k2, rfl⟩⟩
    · obtain ⟨y, hy, hh⟩ := h2
      rw [hx] at hy; exact absurd hh (k2 y hy)
    · omega
    · exact ⟨rfl, hx, hd, Nat.le_succ _⟩
theorem shape_key {t : Tr} : ∀ (dep : Nat) (k : Int), (∃ x ∈ t.shape dep, x.1 = k) ↔ ∃ e ∈ t.ins, e.1 = k := by
  induction t with
  | nil => intro dep k; simp [Tr.shape, Tr.ins]
  | node b k0 d v l r ihl ihr =>
    intro dep k
    have h1 := ihl (dep + 1) k
    have h2 := ihr (dep + 1) k
    simp only [Tr.shape, Tr.ins, List.mem_cons, List.mem_append]
    constructor
    · rintro ⟨x, rfl | hx | hx, rfl⟩
      · exact ⟨(k0, d, v), .inr (.inl rfl), rfl⟩
      · obtain ⟨e, he, h⟩ := h1.1 ⟨x, hx, rfl⟩; exact ⟨e, .inl he, h⟩
      · obtain ⟨e, he, h⟩ := h2.1 ⟨x, hx, rfl⟩; exact ⟨e, .inr (.inr he), h⟩
    · rintro ⟨e, he | rfl | he, rfl⟩
      · obtain ⟨x, hx, h⟩ := h1.2 ⟨e, he, rfl⟩; exact ⟨x, .inr (.inl hx), h⟩
      · exact ⟨(k0, (dep : Int)), .inl rfl, rfl⟩
      · obtain ⟨x, hx, h⟩ := h2.2 ⟨e, he, rfl⟩; exact ⟨x, .inr (.inr hx), h⟩
/-- The two trees have the same keys. -/
theorem same_keys {a b : RS} (ha : a.Ok) (hb : b.Ok) (hx : a.xs = b.xs) {x : Int × Int} (h : x ∈ a.t.shape 0) : ∃ y ∈ b.t.shape 0, y.1 = x.1 := by
  obtain ⟨e, he, h1⟩ := (shape_key 0 x.1).1 ⟨x, h, rfl⟩
  obtain ⟨z, hz, h2, _⟩ := ha.mem e he
  obtain ⟨f, hf, h3⟩ := hb.have_ z (hx ▸ hz)
  exact (shape_key 0 x.1).2 ⟨f, hf, by rw [h3, ← h1, h2]⟩

set_option maxRecDepth 100000 in
set_option maxHeartbeats 8000000 in
theorem runsDraws_law (p : Int) (w0 : (Lit.int .u8 p).wf = true) (a1 : Option Addr) (l1 c1 : Nat) (z1 : List Int) (a2 : Option Addr) (l2 c2 : Nat) (z2 : List Int) (a3 : Option Addr) (l3 c3 : Nat) (z3 : List Int) (w : World) (h1 : IsRow .u8 w a1 l1 c1 z1) (h2 : IsRow .u8 w a2 l2 c2 z2) (h3 : IsRow .u8 w a3 l3 c3 z3) :
    Calls Try.prog 6 #[.int .u8 p, .slice a1 l1 c1, .slice a2 l2 c2, .slice a3 l3 c3] w fun e w' => e = .returned (.bool true) ∧ Below w.heap.size w w' := by
  obtain ⟨p0, p1⟩ := bd_u8 w0
  have HD1 := Lib.hid (draws_any h1)
  have HD2 := Lib.hid (fun W (ho : Adds w W) => draws_any (row_adds h2 ho))
  have HZ := Lib.hid h3
  obtain ⟨hlc, hc63⟩ := rows_len h3
  obtain ⟨P, hP⟩ : ∃ P, 1 + p % 100 = P := ⟨_, rfl⟩
  have hP1 : 1 ≤ P := by omega
  have hP2 : P ≤ 100 := by omega
  have hPz : P ≠ 0 := by omega
  clear h1 h2 h3 w0
  go_enter Try.func6, Try.ntmps6
  go_wp2_with fail
  refine HD1.out.mono ?_; rintro e u1 ⟨dv, rfl, ⟨n1, hn1, hrow⟩, ho1⟩
  obtain ⟨ds, hds⟩ : ∃ ds, (List.range (min l1 60)).map (fun i => drawZ (z1.getD i 0)) = ds := ⟨_, rfl⟩
  rw [hds] at hrow
  have hdl : ds.length ≤ 60 := by have := hrow.1; simp at this; omega
  have hdr := Draws.row hrow
  have HDR := Lib.hid hdr; have HO1 := Lib.hid ho1
  clear hrow hdr ho1 hds
  go_wp2_with fail
  refine (new_any P hP1 (by omega) HDR.out (by omega)).mono ?_
  rintro e u2 ⟨s0, rfl, h0, hn0, ho2, hfr⟩
  have HA := Lib.hid (show SomeRuns w u2 P s0 from ⟨h0, hn0.eP, HO1.out.thenF ho2, fun y hy => Nat.le_trans HO1.out.size (hfr y hy)⟩)
  have hxa : s0.xs = [(0, P)] := hn0.exs
  have hda : s0.dn = 1 := hn0.edn
  clear h0 hn0 ho2 hfr
  go_wp2_with fail
  refine (HD2.out u2 HA.out.adds).mono ?_; rintro e u3 ⟨dv2, rfl, ⟨n2, hn2, hrow⟩, ho3⟩
  obtain ⟨ds2, hds⟩ : ∃ ds, (List.range (min l2 60)).map (fun i => drawZ (z2.getD i 0)) = ds := ⟨_, rfl⟩
  rw [hds] at hrow
  have hdl2 : ds2.length ≤ 60 := by have := hrow.1; simp at this; omega
  have hdr := Draws.row hrow
  have HDR2 := Lib.hid hdr; have HA3 := Lib.hid (HA.out.keep ho3)
  clear hrow hdr ho3 hds
  go_wp2_with fail
  refine (new_any P hP1 (by omega) HDR2.out (by omega)).mono ?_
  rintro e u4 ⟨t0, rfl, h0, hn0, ho4, hfr⟩
  have HT0 := Lib.hid (show Two w u4 P s0 t0 from ⟨HA3.out.keep ho4, ⟨h0, hn0.eP, HA3.out.adds.thenF ho4, fun y hy => Nat.le_trans HA3.out.adds.size (hfr y hy)⟩, fun y ha hb => by have := hfr y hb; have := HA3.out.is.lt y ha; omega, hxa.trans hn0.exs.symm, hda.trans hn0.edn.symm⟩)
  clear h0 hn0 ho4 hfr
  go_wp2_with fail
  go_loopg [12] 202 (fun kx v wr => ∃ (k : Nat) (s t : RS), v = .int .i64 k ∧ k ≤ 201 ∧ 201 - k ≤ kx ∧ Hid (Two w wr P s t) ∧ s.rb = s0.rb ∧ t.rb = t0.rb ∧ s.dn ≤ 1 + k)
  case atStart => exact ⟨0, s0, t0, rfl, by omega, by omega, HT0, rfl, rfl, by omega⟩
  case round =>
    obtain ⟨k, s, t, rfl, hk, hkx, HT, hrb, hrb2, hdn⟩ := hrel
    have hk4 : k < 1000000 := by omega
    have hw1 := wrap_succ k hk4
    have hw3 := wrap_two k hk4
    by_cases g1 : k + 1 < l3
    · by_cases g2 : k < 200
      · obtain ⟨b, off, rfl, hb, hc, hcw⟩ := rows_at HZ.out (show k < l3 by omega)
        obtain ⟨b', off', hbb, hb', hc', hcw'⟩ := rows_at HZ.out g1
        cases hbb
        obtain ⟨z, hx⟩ : ∃ z, z = z3.getD k 0 := ⟨_, rfl⟩
        obtain ⟨y, hy⟩ : ∃ y, y = z3.getD (k + 1) 0 := ⟨_, rfl⟩
        rw [← hx] at hc hcw
        rw [← hy] at hc' hcw'
        have d0 := cell_al hc HT.out.fa.adds
        have d1 := cell_al hc' HT.out.fa.adds
        obtain ⟨hz1', hz2'⟩ := bd_u8 hcw
        obtain ⟨hy1', hy2'⟩ := bd_u8 hcw'
        have hi4 : (k : Int) < (l3 : Int) := by omega
        have hi5 : k < l3 := by omega
        have hi1 : (0 : Int) ≤ (k : Int) + 1 := by omega
        have hi2 : (k : Int) + 1 < (l3 : Int) := by omega
        have hi3 : ((k : Int) + 1).toNat = k + 1 := by omega
        obtain ⟨q, hq⟩ : ∃ q, 1 + y % 9 = q := ⟨_, rfl⟩
        clear hx hy hcw hcw'
        by_cases g3 : z % 2 = 0
        · go_wp2_with fail
          rw [← hrb]
          refine (take_any HT.out.fa.is q (by omega)).mono ?_
          rintro e w3 ⟨at_, c, s', rfl, ht, i3, m3⟩
          have hdt := HT.out.dn
          go_wp2_with fail
          rw [← hrb2]
          refine (take_any (keepB HT.out.fb HT.out.apart m3) q (by omega)).mono ?_
          rintro e w4 ⟨at2, cc, t', rfl, ht2, i4, m4⟩
          obtain ⟨rfl, rfl, hxx, hdd, hdl3⟩ := take_same HT.out.fa.is.ok HT.out.xs HT.out.dn ht ht2
          have HT4 := Lib.hid (HT.out.both i3 m3 i4 m4 hxx hdd)
          have hr3 := m3.rb.trans hrb; have hr4 := m4.rb.trans hrb2
          clear i3 m3 i4 m4 ht ht2
          go_wp2_with fail
          go_roundg (201 - (k + 2))
          case measure => omega
          case rel => exact ⟨k + 2, s', t', by simp, by omega, Nat.le_refl _, HT4, hr3, hr4, by omega⟩
        · have g4 : z % 2 = 1 := by omega
          have hdt := HT.out.dn
          go_wp2_with fail
          refine wp_region_held_drew (S := (fun W' => W'.cell? ⟨b, off + (k + 1), none⟩ = some (.int .u8 y))) (by kernel_rfl) d1 (fun hHeld => ?_)
          refine wpAnyH_take (i := 0) (v := (.pointer (some ⟨s0.rb, 0, none⟩))) rfl (by kernel_rfl) (by kernel_rfl) (by kernel_rfl) (fun _ _ _ h => h) (Or.inl ⟨by rfl, fun W hS => by first | rfl | (go_simp; done)⟩) hHeld ?_
          try simp only [Act.put, List.getElem_toArray, List.getElem_cons_succ, List.getElem_cons_zero, List.setIfInBounds_toArray, List.set_cons_zero, List.set_cons_succ]
          refine wpAnyH_take (i := 1) (v := (.slice (some ⟨b, off, none⟩) l3 c3)) rfl (by kernel_rfl) (by kernel_rfl) (by kernel_rfl) (fun _ _ _ h => h) (Or.inl ⟨by rfl, fun W hS => by first | rfl | (go_simp; done)⟩) hHeld ?_
          try simp only [Act.put, List.getElem_toArray, List.getElem_cons_succ, List.getElem_cons_zero, List.setIfInBounds_toArray, List.set_cons_zero, List.set_cons_succ]
          refine wpAnyH_take (i := 2) (v := ?v2) rfl (by kernel_rfl) (by kernel_rfl) (by kernel_rfl) (fun _ _ _ h => h) (Or.inl ⟨by rfl, ?y2⟩) hHeld ?r2
          case y2 => (intro W hS; go_simp; try with_reducible rfl)
          try simp only [Act.put, List.getElem_toArray, List.getElem_cons_succ, List.getElem_cons_zero, List.setIfInBounds_toArray, List.set_cons_zero, List.set_cons_succ]
          refine wpAnyH_take (i := 3) (v := ?v3) rfl (by kernel_rfl) (by kernel_rfl) (by kernel_rfl) (fun _ _ _ h => h) (Or.inl ⟨by rfl, ?y3⟩) hHeld ?r3
          case y3 => (intro W hS; go_simp; try with_reducible rfl)
          try simp only [Act.put, List.getElem_toArray, List.getElem_cons_succ, List.getElem_cons_zero, List.setIfInBounds_toArray, List.set_cons_zero, List.set_cons_succ]
          refine wpAnyH_take (i := 4) (v := (.pointer (some ⟨b, off + (k + 1), none⟩))) rfl (by kernel_rfl) (by kernel_rfl) (by kernel_rfl) (fun _ _ _ h => h) (Or.inl ⟨by rfl, fun W hS => by (go_simp; done)⟩) hHeld ?_
          try simp only [Act.put, List.getElem_toArray, List.getElem_cons_succ, List.getElem_cons_zero, List.setIfInBounds_toArray, List.set_cons_zero, List.set_cons_succ]
          refine wpAnyH_take (i := 5) (v := (.int .u8 y)) rfl (by kernel_rfl) (by kernel_rfl) (by kernel_rfl) (fun _ _ _ h => h) (Or.inl ⟨by rfl, fun W hS => by (obtain q1 := hS; go_simp; done)⟩) hHeld ?_
          try simp only [Act.put, List.getElem_toArray, List.getElem_cons_succ, List.getElem_cons_zero, List.setIfInBounds_toArray, List.set_cons_zero, List.set_cons_succ]
          refine wpAnyH_take (i := 6) (v := ?v6) rfl (by kernel_rfl) (by kernel_rfl) (by kernel_rfl) (fun _ _ _ h => h) (Or.inl ⟨by rfl, ?y6⟩) hHeld ?r6
          case y6 => (intro W hS; go_simp; try with_reducible rfl)
          try simp only [Act.put, List.getElem_toArray, List.getElem_cons_succ, List.getElem_cons_zero, List.setIfInBounds_toArray, List.set_cons_zero, List.set_cons_succ]
          refine wpAnyH_take (i := 7) (v := (.int .i64 P)) rfl (by kernel_rfl) (by kernel_rfl) (by kernel_rfl) (fun _ _ _ h => h) (Or.inl ⟨by rfl, fun W hS => by first | rfl | (go_simp; done)⟩) hHeld ?_
          try simp only [Act.put, List.getElem_toArray, List.getElem_cons_succ, List.getElem_cons_zero, List.setIfInBounds_toArray, List.set_cons_zero, List.set_cons_succ]
          refine wpAnyH_take (i := 8) (v := ?v8) rfl (by kernel_rfl) (by kernel_rfl) (by kernel_rfl) (fun _ _ _ h => h) (Or.inl ⟨by rfl, ?y8⟩) hHeld ?r8
          case y8 => (intro W hS; go_simp; try with_reducible rfl)
          try simp only [Act.put, List.getElem_toArray, List.getElem_cons_succ, List.getElem_cons_zero, List.setIfInBounds_toArray, List.set_cons_zero, List.set_cons_succ]
          refine wpAnyH_take (i := 9) (v := (.int .i64 q)) rfl (by kernel_rfl) (by kernel_rfl) (by kernel_rfl) (fun _ _ _ h => h) (Or.inl ⟨by rfl, fun W hS => by first | rfl | (go_simp; done)⟩) hHeld ?_
          try simp only [Act.put, List.getElem_toArray, List.getElem_cons_succ, List.getElem_cons_zero, List.setIfInBounds_toArray, List.set_cons_zero, List.set_cons_succ]
          refine wpAnyH_take (i := 11) (v := (.pointer (some ⟨t0.rb, 0, none⟩))) rfl (by kernel_rfl) (by kernel_rfl) (by kernel_rfl) (fun _ _ _ h => h) (Or.inl ⟨by rfl, fun W hS => by first | rfl | (go_simp; done)⟩) hHeld ?_
          try simp only [Act.put, List.getElem_toArray, List.getElem_cons_succ, List.getElem_cons_zero, List.setIfInBounds_toArray, List.set_cons_zero, List.set_cons_succ]
          refine wpAnyH_take (i := 12) (v := (.slice (some ⟨b, off, none⟩) l3 c3)) rfl (by kernel_rfl) (by kernel_rfl) (by kernel_rfl) (fun _ _ _ h => h) (Or.inl ⟨by rfl, fun W hS => by first | rfl | (go_simp; done)⟩) hHeld ?_
          try simp only [Act.put, List.getElem_toArray, List.getElem_cons_succ, List.getElem_cons_zero, List.setIfInBounds_toArray, List.set_cons_zero, List.set_cons_succ]
          refine wpAnyH_take (i := 13) (v := ?v13) rfl (by kernel_rfl) (by kernel_rfl) (by kernel_rfl) (fun _ _ _ h => h) (Or.inl ⟨by rfl, ?y13⟩) hHeld ?r13
          case y13 => (intro W hS; go_simp; try with_reducible rfl)
          try simp only [Act.put, List.getElem_toArray, List.getElem_cons_succ, List.getElem_cons_zero, List.setIfInBounds_toArray, List.set_cons_zero, List.set_cons_succ]
          refine wpAnyH_take (i := 14) (v := ?v14) rfl (by kernel_rfl) (by kernel_rfl) (by kernel_rfl) (fun _ _ _ h => h) (Or.inl ⟨by rfl, ?y14⟩) hHeld ?r14
          case y14 => (intro W hS; go_simp; try with_reducible rfl)
          try simp only [Act.put, List.getElem_toArray, List.getElem_cons_succ, List.getElem_cons_zero, List.setIfInBounds_toArray, List.set_cons_zero, List.set_cons_succ]
          refine wpAnyH_take (i := 15) (v := (.pointer (some ⟨b, off + (k + 1), none⟩))) rfl (by kernel_rfl) (by kernel_rfl) (by kernel_rfl) (fun _ _ _ h => h) (Or.inl ⟨by rfl, fun W hS => by (go_simp; done)⟩) hHeld ?_
          try simp only [Act.put, List.getElem_toArray, List.getElem_cons_succ, List.getElem_cons_zero, List.setIfInBounds_toArray, List.set_cons_zero, List.set_cons_succ]
          refine wpAnyH_take (i := 16) (v := (.int .u8 y)) rfl (by kernel_rfl) (by kernel_rfl) (by kernel_rfl) (fun _ _ _ h => h) (Or.inl ⟨by rfl, fun W hS => by (obtain q1 := hS; go_simp; done)⟩) hHeld ?_
          try simp only [Act.put, List.getElem_toArray, List.getElem_cons_succ, List.getElem_cons_zero, List.setIfInBounds_toArray, List.set_cons_zero, List.set_cons_succ]
          refine wpAnyH_take (i := 17) (v := ?v17) rfl (by kernel_rfl) (by kernel_rfl) (by kernel_rfl) (fun _ _ _ h => h) (Or.inl ⟨by rfl, ?y17⟩) hHeld ?r17
          case y17 => (intro W hS; go_simp; try with_reducible rfl)
          try simp only [Act.put, List.getElem_toArray, List.getElem_cons_succ, List.getElem_cons_zero, List.setIfInBounds_toArray, List.set_cons_zero, List.set_cons_succ]
          refine wpAnyH_take (i := 18) (v := (.int .i64 P)) rfl (by kernel_rfl) (by kernel_rfl) (by kernel_rfl) (fun _ _ _ h => h) (Or.inl ⟨by rfl, fun W hS => by first | rfl | (go_simp; done)⟩) hHeld ?_
          try simp only [Act.put, List.getElem_toArray, List.getElem_cons_succ, List.getElem_cons_zero, List.setIfInBounds_toArray, List.set_cons_zero, List.set_cons_succ]
          refine wpAnyH_take (i := 19) (v := ?v19) rfl (by kernel_rfl) (by kernel_rfl) (by kernel_rfl) (fun _ _ _ h => h) (Or.inl ⟨by rfl, ?y19⟩) hHeld ?r19
          case y19 => (intro W hS; go_simp; try with_reducible rfl)
          try simp only [Act.put, List.getElem_toArray, List.getElem_cons_succ, List.getElem_cons_zero, List.setIfInBounds_toArray, List.set_cons_zero, List.set_cons_succ]
          refine wpAnyH_take (i := 20) (v := (.int .i64 q)) rfl (by kernel_rfl) (by kernel_rfl) (by kernel_rfl) (fun _ _ _ h => h) (Or.inl ⟨by rfl, fun W hS => by first | rfl | (go_simp; done)⟩) hHeld ?_
          try simp only [Act.put, List.getElem_toArray, List.getElem_cons_succ, List.getElem_cons_zero, List.setIfInBounds_toArray, List.set_cons_zero, List.set_cons_succ]
          refine wpAnyH_ready (rs := [10]) (by kernel_rfl) (by simp) (AllReadyH.cons rfl (fun K hK => ?_) AllReadyH.nil)
          simp only [List.getElem_toArray, List.getElem_cons_succ, List.getElem_cons_zero]
          go_simp
          rw [← hrb]
          refine (free_any (HT.out.fa.is.adds (show Adds wr wr.drew from (Only.refl _ wr).drew)) _ _ (by omega)).mono ?_
          rintro e w3 ⟨c, s', rfl, ht, i3, m3⟩
          have m3' : Moves s s' wr w3 := Moves.ahead (show Adds wr wr.drew from (Only.refl _ wr).drew) m3
          have hA3 := (HT.out.fa.moves i3 m3').adds
          refine hK.out _ _ (cell_al hc' hA3) (fun hHeld => ?_)
          clear hK K
          try simp only [Act.put, List.getElem_toArray, List.getElem_cons_succ, List.getElem_cons_zero, List.setIfInBounds_toArray, List.set_cons_zero, List.set_cons_succ]
          refine wpAnyH_ready (rs := [21]) (by kernel_rfl) (by simp) (AllReadyH.cons rfl (fun K hK => ?_) AllReadyH.nil)
          simp only [List.getElem_toArray, List.getElem_cons_succ, List.getElem_cons_zero]
          go_simp
          rw [← hrb2]
          refine (free_any (keepB HT.out.fb HT.out.apart m3') _ _ (by omega)).mono ?_
          rintro e w4 ⟨cc, t', rfl, ht2, i4, m4⟩
          obtain ⟨rfl, hxx, hdd, hdl3⟩ := free_same HT.out.xs HT.out.dn (HT.out.fa.P.trans HT.out.fb.P.symm) ht ht2
          have HT4 := Lib.hid (HT.out.both i3 m3' i4 m4 hxx hdd)
          have hr3 := m3.rb.trans hrb; have hr4 := m4.rb.trans hrb2
          clear i3 m3 i4 m4 ht ht2
          refine hK.out _ _ (cell_al hc' HT4.out.fa.adds) (fun hHeld => ?_)
          clear hK K
          try simp only [Act.put, List.getElem_toArray, List.getElem_cons_succ, List.getElem_cons_zero, List.setIfInBounds_toArray, List.set_cons_zero, List.set_cons_succ]
          refine wpAnyH_take (i := 22) (v := .bool false) rfl (by kernel_rfl) (by kernel_rfl) (by kernel_rfl) (fun _ _ _ h => h) (Or.inl ⟨by rfl, fun W hS => by (go_simp; done)⟩) hHeld ?_
          try simp only [Act.put, List.getElem_toArray, List.getElem_cons_succ, List.getElem_cons_zero, List.setIfInBounds_toArray, List.set_cons_zero, List.set_cons_succ]
          refine wpAnyH_done (by kernel_rfl) ?_ _
          go_wp2_with fail
          first | rw [hrb] | skip
          first | rw [hrb2] | skip
          go_roundg (201 - (k + 2))
          case measure => omega
          case rel => exact ⟨k + 2, s', t', by simp, by omega, Nat.le_refl _, HT4, hr3, hr4, by omega⟩
      · have hd5 := HT.out.dn
        have hx5 := HT.out.xs
        have hlen : s.xs.length ≤ 100 := by have := HT.out.fa.is.ok.list.len (by have := HT.out.fa.P; omega); have := HT.out.fa.P; omega
        go_wp2_with fail
        rw [← hrb]
        refine (shape_any HT.out.fa.is).mono ?_
        rintro e v1 ⟨sv, rfl, hr1, ho1⟩
        have hs1 : s.t.size = (s.t.shape 0).length := (Tr.shape_len 0 s.t).symm
        have hs2 : t.t.size = (t.t.shape 0).length := (Tr.shape_len 0 t.t).symm
        rw [hs1] at hr1
        have hn1 := NodesAt.of_owns hr1
        have HT1 := Lib.hid (HT.out.keep ho1)
        clear hr1 ho1
        go_wp2_with fail
        rw [← hrb2]
        refine (shape_any HT1.out.fb.is).mono ?_
        rintro e v2 ⟨tv, rfl, hr2, ho2⟩
        rw [hs2] at hr2
        have hn2 := NodesAt.of_owns hr2
        have HT2 := Lib.hid (HT1.out.keep ho2)
        obtain ⟨sa, sc, rfl, hm1⟩ := hn1.adds ho2
        obtain ⟨ta, tc, rfl, hm2⟩ := hn2
        have hes : (s.t.shape 0).length = s.xs.length := by rw [← hs1]; exact HT.out.fa.is.ok.size
        have het : (t.t.shape 0).length = s.xs.length := by rw [← hs2, hx5]; exact HT.out.fb.is.ok.size
        have HK := Lib.hid (fun x => same_keys HT.out.fa.is.ok HT.out.fb.is.ok hx5 (x := x))
        obtain ⟨SS, hSS⟩ : ∃ l, s.t.shape 0 = l := ⟨_, rfl⟩
        obtain ⟨TT, hTT⟩ : ∃ l, t.t.shape 0 = l := ⟨_, rfl⟩
        rw [hSS] at hm1 hes HK
        rw [hTT] at hm2 het HK
        obtain ⟨nl, hnl⟩ : ∃ nl, s.xs.length = nl := ⟨_, rfl⟩
        rw [hnl] at hes het hlen
        rw [hSS, hTT, hes, het]
        have HN1 := Lib.hid hm1; have HN2 := Lib.hid hm2; have HES := Lib.hid hes; have HET := Lib.hid het; have HX5 := Lib.hid hx5; have HD5 := Lib.hid hd5; have HNL := Lib.hid hnl
        clear hr2 ho2 hn1 hm1 hm2 hs1 hs2 hSS hTT hes het hx5 hd5 hnl
        go_wp2_with fail
        rw [← hrb]
        refine (list_any HT2.out.fa.is).mono ?_
        rintro e v3 ⟨lv3, rfl, hr3, ho3⟩
        obtain ⟨la, lc, rfl, -⟩ := NodesAt.of_owns hr3
        rw [HNL.out]
        have HT3 := Lib.hid (HT2.out.keep ho3)
        have HM1 := Lib.hid (show NodesAt v3 (.slice sa nl sc) SS from by rw [← HES.out]; exact NodesAt.adds ⟨sa, sc, rfl, HN1.out⟩ ho3)
        have HM2 := Lib.hid (show NodesAt v3 (.slice ta nl tc) TT from by rw [← HET.out]; exact NodesAt.adds ⟨ta, tc, rfl, HN2.out⟩ ho3)
        clear hr3 ho3
        go_wp2_with fail
        go_loopw [20] (fun i wr => ∃ j m : Nat, j ≤ nl ∧ i = .int .i64 j ∧ wr = v3.drewN m) (fun i _ => nl - (intOf i).toNat)
        case atStart => exact ⟨0, 0, Nat.zero_le _, rfl, rfl⟩
        case round =>
          obtain ⟨j, m, hj, rfl, rfl⟩ := hrel
          by_cases hjn : j < nl
          · obtain ⟨x, hx⟩ : ∃ x, SS[j]? = some x := ⟨_, List.getElem?_eq_getElem (by rw [HES.out]; exact hjn)⟩
            obtain ⟨a_, c_, hav, hcv⟩ := HM1.out
            obtain ⟨bx, ox, hax, q1, q2⟩ := hcv j x hx
            have hav2 : a_ = sa := by cases hav; rfl
            rw [hav2] at hax
            subst hax
            have hkj : j < 1000000 := by omega
            have hwj := wrap_succ j hkj
            have HX := Lib.hid hx
            clear hx hav hcv hav2 q2
            go_wp2_with fail
            go_loopw [21, 22] (fun fv i wr => ∃ (j' m' : Nat) (F : Bool), j' ≤ nl ∧ i = .int .i64 j' ∧ fv = .bool F ∧ wr = v3.drewN m' ∧ Hid (F = true ↔ ∃ y ∈ TT.take j', y.1 = x.1)) (fun _ i _ => nl - (intOf i).toNat)
            case atStart => exact ⟨0, m, false, Nat.zero_le _, rfl, rfl, rfl, Lib.hid (by simp)⟩
            case round =>
              obtain ⟨j', m', F, hj', rfl, rfl, rfl, HF⟩ := hrel
              by_cases hjn' : j' < nl
              · obtain ⟨y, hy⟩ : ∃ y, TT[j']? = some y := ⟨_, List.getElem?_eq_getElem (by rw [HET.out]; exact hjn')⟩
                obtain ⟨a_, c_, hav, hcv⟩ := HM2.out
                obtain ⟨by_, oy, hay, r1, r2⟩ := hcv j' y hy
                have hav2 : a_ = ta := by cases hav; rfl
                rw [hav2] at hay
                subst hay
                have hkj' : j' < 1000000 := by omega
                have hwj' := wrap_succ j' hkj'
                have htk : TT.take (j' + 1) = TT.take j' ++ [y] := by rw [List.take_add_one, hy]; rfl
                have HTK := Lib.hid htk
                clear hy hav hcv hav2 r2 htk
                cases F with
                | true =>
                  go_wp2_with fail
                  go_quiet ((fail))
                  go_wp2_with fail
                  go_roundw
                  case rel => exact ⟨j' + 1, m' + nq, true, by omega, by simp, rfl, by simp [World.drewN, Nat.add_assoc], Lib.hid (by
                    rw [HTK.out]
                    simp only [true_iff]
                    obtain ⟨y', h1, h2⟩ := HF.out.1 (by simp)
                    exact ⟨y', List.mem_append_left _ h1, h2⟩)⟩
                  case measure => simp [intOf]; omega
                | false =>
                  by_cases he : y.1 = x.1
                  · have s1 : (y.1 == x.1) = true := by simpa using he
                    have HE := Lib.hid he
                    clear he
                    go_wp2_with fail
                    go_quiet ((fail))
                    go_wp2_with fail
                    go_roundw
                    case rel => exact ⟨j' + 1, m' + nq, true, by omega, by simp, rfl, by simp [World.drewN, Nat.add_assoc], Lib.hid (by
                      rw [HTK.out]
                      simp only [true_iff]
                      exact ⟨y, List.mem_append_right _ (by simp), HE.out⟩)⟩
                    case measure => simp [intOf]; omega
                  · have s1 : (y.1 == x.1) = false := by simpa using he
                    have HE := Lib.hid he
                    clear he
                    go_wp2_with fail
                    go_quiet ((fail))
                    go_wp2_with fail
                    go_roundw
                    case rel => exact ⟨j' + 1, m' + nq, false, by omega, by simp, rfl, by simp [World.drewN, Nat.add_assoc], Lib.hid (by
                      rw [HTK.out]
                      simp only [Bool.false_eq_true, false_iff]
                      rintro ⟨y', h1, h2⟩
                      rcases List.mem_append.1 h1 with h1 | h1
                      · have := HF.out.2 ⟨y', h1, h2⟩; cases this
                      · rw [List.mem_singleton] at h1; subst h1; exact HE.out h2)⟩
                    case measure => simp [intOf]; omega
              · have hF : F = true := by
                  rw [HF.out, List.take_of_length_le (by rw [HET.out]; omega)]
                  exact HK.out x (List.mem_of_getElem? HX.out)
                subst hF
                go_wp2_with fail
                go_roundw
                case rel => exact ⟨j + 1, m', by omega, by simp, rfl⟩
                case measure => simp [intOf]; omega
          · go_wp2_with fail
            rw [← hrb]
            refine (list_any (HT3.out.keep ((Only.refl _ v3).drewN m)).fa.is).mono ?_
            rintro e v5 ⟨lv5, rfl, hr5, ho5⟩
            have HT5 := Lib.hid ((HT3.out.keep ((Only.refl _ v3).drewN m)).keep ho5)
            have hn5 := NodesAt.of_owns hr5
            go_wp2_with fail
            rw [← hrb2]
            refine (list_any HT5.out.fb.is).mono ?_
            rintro e v6 ⟨lv6, rfl, hr6, ho6⟩
            have HT6 := Lib.hid (HT5.out.keep ho6)
            have hn6 := NodesAt.of_owns hr6
            rw [← HX5.out] at hn6
            have HSR := Lib.hid (sameRuns_any lv5 lv6 _ _ v6 (hn5.adds ho6) hn6 (by rw [HNL.out]; omega) (by rw [HNL.out]; omega))
            clear hr5 ho5 hn5 hr6 ho6 hn6
            go_wp2_with fail
            refine HSR.out.mono ?_
            rintro e v7 ⟨rfl, q7, rfl⟩
            have HT7 := Lib.hid (HT6.out.keep ((Only.refl (fun _ => False) v6).drewN q7))
            go_wp2_with fail
            rw [← hrb]
            refine (drawn_any HT7.out.fa.is).mono ?_
            rintro e v8 ⟨rfl, rfl⟩
            go_wp2_with fail
            rw [← hrb2]
            refine (drawn_any HT7.out.fb.is).mono ?_
            rintro e v8 ⟨rfl, rfl⟩
            rw [← HD5.out]
            go_wp2_with fail
            refine (awake10_any _).mono ?_
            rintro e v9 ⟨rfl, ho9⟩
            go_wp2_with fail
            go_ret
            exact ⟨rfl, (HT7.out.fa.adds.thenF ho9).below (Nat.le_refl _) (fun _ _ h => h)⟩
    · have hd5 := HT.out.dn
      have hx5 := HT.out.xs
      have hlen : s.xs.length ≤ 100 := by have := HT.out.fa.is.ok.list.len (by have := HT.out.fa.P; omega); have := HT.out.fa.P; omega
      go_wp2_with fail
      rw [← hrb]
      refine (shape_any HT.out.fa.is).mono ?_
      rintro e v1 ⟨sv, rfl, hr1, ho1⟩
      have hs1 : s.t.size = (s.t.shape 0).length := (Tr.shape_len 0 s.t).symm
      have hs2 : t.t.size = (t.t.shape 0).length := (Tr.shape_len 0 t.t).symm
      rw [hs1] at hr1
      have hn1 := NodesAt.of_owns hr1
      have HT1 := Lib.hid (HT.out.keep ho1)
      clear hr1 ho1
      go_wp2_with fail
      rw [← hrb2]
      refine (shape_any HT1.out.fb.is).mono ?_
      rintro e v2 ⟨tv, rfl, hr2, ho2⟩
      rw [hs2] at hr2
      have hn2 := NodesAt.of_owns hr2
      have HT2 := Lib.hid (HT1.out.keep ho2)
      obtain ⟨sa, sc, rfl, hm1⟩ := hn1.adds ho2
      obtain ⟨ta, tc, rfl, hm2⟩ := hn2
      have hes : (s.t.shape 0).length = s.xs.length := by rw [← hs1]; exact HT.out.fa.is.ok.size
      have het : (t.t.shape 0).length = s.xs.length := by rw [← hs2, hx5]; exact HT.out.fb.is.ok.size
      have HK := Lib.hid (fun x => same_keys HT.out.fa.is.ok HT.out.fb.is.ok hx5 (x := x))
      obtain ⟨SS, hSS⟩ : ∃ l, s.t.shape 0 = l := ⟨_, rfl⟩
      obtain ⟨TT, hTT⟩ : ∃ l, t.t.shape 0 = l := ⟨_, rfl⟩
      rw [hSS] at hm1 hes HK
      rw [hTT] at hm2 het HK
      obtain ⟨nl, hnl⟩ : ∃ nl, s.xs.length = nl := ⟨_, rfl⟩
      rw [hnl] at hes het hlen
      rw [hSS, hTT, hes, het]
      have HN1 := Lib.hid hm1; have HN2 := Lib.hid hm2; have HES := Lib.hid hes; have HET := Lib.hid het; have HX5 := Lib.hid hx5; have HD5 := Lib.hid hd5; have HNL := Lib.hid hnl
      clear hr2 ho2 hn1 hm1 hm2 hs1 hs2 hSS hTT hes het hx5 hd5 hnl
      go_wp2_with fail
      rw [← hrb]
      refine (list_any HT2.out.fa.is).mono ?_
      rintro e v3 ⟨lv3, rfl, hr3, ho3⟩
      obtain ⟨la, lc, rfl, -⟩ := NodesAt.of_owns hr3
      rw [HNL.out]
      have HT3 := Lib.hid (HT2.out.keep ho3)
      have HM1 := Lib.hid (show NodesAt v3 (.slice sa nl sc) SS from by rw [← HES.out]; exact NodesAt.adds ⟨sa, sc, rfl, HN1.out⟩ ho3)
      have HM2 := Lib.hid (show NodesAt v3 (.slice ta nl tc) TT from by rw [← HET.out]; exact NodesAt.adds ⟨ta, tc, rfl, HN2.out⟩ ho3)
      clear hr3 ho3
      go_wp2_with fail
      go_loopw [20] (fun i wr => ∃ j m : Nat, j ≤ nl ∧ i = .int .i64 j ∧ wr = v3.drewN m) (fun i _ => nl - (intOf i).toNat)
      case atStart => exact ⟨0, 0, Nat.zero_le _, rfl, rfl⟩
      case round =>
        obtain ⟨j, m, hj, rfl, rfl⟩ := hrel
        by_cases hjn : j < nl
        · obtain ⟨x, hx⟩ : ∃ x, SS[j]? = some x := ⟨_, List.getElem?_eq_getElem (by rw [HES.out]; exact hjn)⟩
          obtain ⟨a_, c_, hav, hcv⟩ := HM1.out
          obtain ⟨bx, ox, hax, q1, q2⟩ := hcv j x hx
          have hav2 : a_ = sa := by cases hav; rfl
          rw [hav2] at hax
          subst hax
          have hkj : j < 1000000 := by omega
          have hwj := wrap_succ j hkj
          have HX := Lib.hid hx
          clear hx hav hcv hav2 q2
          go_wp2_with fail
          go_loopw [21, 22] (fun fv i wr => ∃ (j' m' : Nat) (F : Bool), j' ≤ nl ∧ i = .int .i64 j' ∧ fv = .bool F ∧ wr = v3.drewN m' ∧ Hid (F = true ↔ ∃ y ∈ TT.take j', y.1 = x.1)) (fun _ i _ => nl - (intOf i).toNat)
          case atStart => exact ⟨0, m, false, Nat.zero_le _, rfl, rfl, rfl, Lib.hid (by simp)⟩
          case round =>
            obtain ⟨j', m', F, hj', rfl, rfl, rfl, HF⟩ := hrel
            by_cases hjn' : j' < nl
            · obtain ⟨y, hy⟩ : ∃ y, TT[j']? = some y := ⟨_, List.getElem?_eq_getElem (by rw [HET.out]; exact hjn')⟩
              obtain ⟨a_, c_, hav, hcv⟩ := HM2.out
              obtain ⟨by_, oy, hay, r1, r2⟩ := hcv j' y hy
              have hav2 : a_ = ta := by cases hav; rfl
              rw [hav2] at hay
              subst hay
              have hkj' : j' < 1000000 := by omega
              have hwj' := wrap_succ j' hkj'
              have htk : TT.take (j' + 1) = TT.take j' ++ [y] := by rw [List.take_add_one, hy]; rfl
              have HTK := Lib.hid htk
              clear hy hav hcv hav2 r2 htk
              cases F with
              | true =>
                go_wp2_with fail
                go_quiet ((fail))
                go_wp2_with fail
                go_roundw
                case rel => exact ⟨j' + 1, m' + nq, true, by omega, by simp, rfl, by simp [World.drewN, Nat.add_assoc], Lib.hid (by
                  rw [HTK.out]
                  simp only [true_iff]
                  obtain ⟨y', h1, h2⟩ := HF.out.1 (by simp)
                  exact ⟨y', List.mem_append_left _ h1, h2⟩)⟩
                case measure => simp [intOf]; omega
              | false =>
                by_cases he : y.1 = x.1
                · have s1 : (y.1 == x.1) = true := by simpa using he
                  have HE := Lib.hid he
                  clear he
                  go_wp2_with fail
                  go_quiet ((fail))
                  go_wp2_with fail
                  go_roundw
                  case rel => exact ⟨j' + 1, m' + nq, true, by omega, by simp, rfl, by simp [World.drewN, Nat.add_assoc], Lib.hid (by
                    rw [HTK.out]
                    simp only [true_iff]
                    exact ⟨y, List.mem_append_right _ (by simp), HE.out⟩)⟩
                  case measure => simp [intOf]; omega
                · have s1 : (y.1 == x.1) = false := by simpa using he
                  have HE := Lib.hid he
                  clear he
                  go_wp2_with fail
                  go_quiet ((fail))
                  go_wp2_with fail
                  go_roundw
                  case rel => exact ⟨j' + 1, m' + nq, false, by omega, by simp, rfl, by simp [World.drewN, Nat.add_assoc], Lib.hid (by
                    rw [HTK.out]
                    simp only [Bool.false_eq_true, false_iff]
                    rintro ⟨y', h1, h2⟩
                    rcases List.mem_append.1 h1 with h1 | h1
                    · have := HF.out.2 ⟨y', h1, h2⟩; cases this
                    · rw [List.mem_singleton] at h1; subst h1; exact HE.out h2)⟩
                  case measure => simp [intOf]; omega
            · have hF : F = true := by
                rw [HF.out, List.take_of_length_le (by rw [HET.out]; omega)]
                exact HK.out x (List.mem_of_getElem? HX.out)
              subst hF
              go_wp2_with fail
              go_roundw
              case rel => exact ⟨j + 1, m', by omega, by simp, rfl⟩
              case measure => simp [intOf]; omega
        · go_wp2_with fail
          rw [← hrb]
          refine (list_any (HT3.out.keep ((Only.refl _ v3).drewN m)).fa.is).mono ?_
          rintro e v5 ⟨lv5, rfl, hr5, ho5⟩
          have HT5 := Lib.hid ((HT3.out.keep ((Only.refl _ v3).drewN m)).keep ho5)
          have hn5 := NodesAt.of_owns hr5
          go_wp2_with fail
          rw [← hrb2]
          refine (list_any HT5.out.fb.is).mono ?_
          rintro e v6 ⟨lv6, rfl, hr6, ho6⟩
          have HT6 := Lib.hid (HT5.out.keep ho6)
          have hn6 := NodesAt.of_owns hr6
          rw [← HX5.out] at hn6
          have HSR := Lib.hid (sameRuns_any lv5 lv6 _ _ v6 (hn5.adds ho6) hn6 (by rw [HNL.out]; omega) (by rw [HNL.out]; omega))
          clear hr5 ho5 hn5 hr6 ho6 hn6
          go_wp2_with fail
          refine HSR.out.mono ?_
          rintro e v7 ⟨rfl, q7, rfl⟩
          have HT7 := Lib.hid (HT6.out.keep ((Only.refl (fun _ => False) v6).drewN q7))
          go_wp2_with fail
          rw [← hrb]
          refine (drawn_any HT7.out.fa.is).mono ?_
          rintro e v8 ⟨rfl, rfl⟩
          go_wp2_with fail
          rw [← hrb2]
          refine (drawn_any HT7.out.fb.is).mono ?_
          rintro e v8 ⟨rfl, rfl⟩
          rw [← HD5.out]
          go_wp2_with fail
          refine (awake10_any _).mono ?_
          rintro e v9 ⟨rfl, ho9⟩
          go_wp2_with fail
          go_ret
          exact ⟨rfl, (HT7.out.fa.adds.thenF ho9).below (Nat.le_refl _) (fun _ _ h => h)⟩
end Go.Proofs.Ytbijbpnhakbeeaa
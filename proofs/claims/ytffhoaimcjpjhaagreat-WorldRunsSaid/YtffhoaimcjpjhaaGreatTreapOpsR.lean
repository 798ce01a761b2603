/- Package treap at dustpan/api.Run: above, find, split, join, Put, Get, Len: for every tree. By an AI agent. -/
import Derived.Test.YtffhoaimcjpjhaaGreatTreeMem2
namespace Go.Proofs.YtffhoaimcjpjhaaGreat
open Go.RowKit

set_option maxHeartbeats 1000000 in
theorem aboveR_any (b b' : Nat) (k d : Int) (v : Value) (l r : Tr) (k' d' : Int) (v' : Value) (l' r' : Tr) (w : World) (h : IsTr2 267 w (.node b k d v l r)) (h' : IsTr2 267 w (.node b' k' d' v' l' r')) :
    Calls Tryz.prog 273 #[.pointer (some ⟨b, 0, none⟩), .pointer (some ⟨b', 0, none⟩)] w fun e w' => e = .returned (.bool (Tr.up k d k' d')) ∧ ∃ n, w' = w.drewN n := by
  obtain ⟨c0, c1, c2, c3, c4, f3, f4⟩ := h.cells
  obtain ⟨e0, e1, e2, e3, e4, g3, g4⟩ := h'.cells
  clear h h' c2 c3 c4 f3 f4 e2 e3 e4 g3 g4
  rcases Int.lt_trichotomy d' d with h1 | h1 | h1
  · have hu : Tr.up k d k' d' = true := Tr.up_iff.2 (.inl h1)
    rw [hu]
    clear hu
    go_enter Tryz.func273, Tryz.ntmps273
    go_wp2
    go_quiet ((fail))
    go_wp2
    go_ret
    exact ⟨rfl, _, rfl⟩
  · subst h1
    by_cases h2 : k < k'
    · have hu : Tr.up k d' k' d' = true := Tr.up_iff.2 (.inr ⟨rfl, h2⟩)
      rw [hu]
      clear hu
      go_enter Tryz.func273, Tryz.ntmps273
      go_wp2
      go_quiet ((fail))
      go_wp2
      go_ret
      exact ⟨rfl, _, rfl⟩
    · have hu : Tr.up k d' k' d' = false := by simp [Tr.up, h2]
      rw [hu]
      clear hu
      go_enter Tryz.func273, Tryz.ntmps273
      go_wp2
      go_quiet ((fail))
      go_wp2
      go_ret
      exact ⟨by simp [h2], _, rfl⟩
  · have hu : Tr.up k d k' d' = false := by simp [Tr.up]; omega
    rw [hu]
    clear hu
    have h2 : ¬ d' < d := by omega
    have h3 : d ≠ d' := by omega
    have h4 : (d == d') = false := by simpa using h3
    have h5 : decide (d' < d) = false := by simpa using h2
    have h6 : decide (d = d') = false := by simpa using h3
    clear h3 h1 h2
    go_enter Tryz.func273, Tryz.ntmps273
    go_wp2
    go_quiet ((fail))
    go_wp2
    go_ret
    exact ⟨rfl, _, rfl⟩

set_option maxHeartbeats 1000000 in
theorem findR_any (tb : Nat) (t : Tr) (m key : Int) (w : World) (h : IsTreap2 267 242 w tb t m) :
    Calls Tryz.prog 252 #[.pointer (some ⟨tb, 0, none⟩), .int .i64 key] w fun e w' => e = .returned (.pointer (Tr.find key t).adr) ∧ w = w' := by
  obtain ⟨c0, c1, _, _⟩ := h.cells
  have HT := Lib.hid h.tr
  clear h
  go_enter Tryz.func252, Tryz.ntmps252
  go_wp2
  go_loop [5] (fun p => ∃ (s : Tr), p = .pointer s.adr ∧ IsTr2 267 w s ∧ Tr.find key s = Tr.find key t) (fun p => trSize2 267 w p)
  case atStart => exact ⟨t, rfl, HT.out, rfl⟩
  case round =>
    obtain ⟨s, rfl, hs, hf⟩ := hrel
    cases s with
    | nil =>
      rw [show Tr.nil.adr = none from rfl]
      have HF := Lib.hid hf
      clear hf hs
      go_wp2
      go_ret
      rw [← HF.out]
      exact ⟨rfl, rfl⟩
    | node b k d v l r =>
      have hz := trSize2_eq hs
      have hzl := trSize2_eq hs.2.1
      have hzr := trSize2_eq hs.2.2
      have HS := Lib.hid hs
      obtain ⟨c0, c1, c2, c3, c4, f3, f4⟩ := hs.cells
      clear hs c1 c2 f3 f4
      rw [show (Tr.node b k d v l r).adr = some ⟨b, 0, none⟩ from rfl] at hz ⊢
      simp only [Tr.size] at hz
      have HZ := Lib.hid (And.intro hz (And.intro hzl hzr))
      clear hz hzl hzr
      by_cases hk : k = key
      · subst hk
        rw [Tr.find_hit] at hf
        have HF := Lib.hid hf
        clear hf
        have t1 : (k != k) = false := by simp
        go_wp2
        go_ret
        rw [← HF.out]
        exact ⟨rfl, rfl⟩
      · have t1 : (k != key) = true := by simpa using hk
        by_cases hlt : key < k
        · rw [Tr.find_left hk hlt] at hf
          have HF := Lib.hid hf
          clear hf hk
          go_wp2
          go_round
          case rel => exact ⟨l, rfl, HS.out.2.1, HF.out⟩
          case measure => obtain ⟨hz, hzl, hzr⟩ := HZ.out; rw [hz, hzl]; omega
        · rw [Tr.find_right hk hlt] at hf
          have HF := Lib.hid hf
          clear hf hk
          go_wp2
          go_round
          case rel => exact ⟨r, rfl, HS.out.2.2, HF.out⟩
          case measure => obtain ⟨hz, hzl, hzr⟩ := HZ.out; rw [hz, hzr]; omega

set_option maxHeartbeats 1000000 in
theorem splitR_any (key : Int) (t : Tr) : ∀ (w : World), IsTr2 267 w t → t.sep →
    Calls Tryz.prog 253 #[.pointer t.adr, .int .i64 key] w fun e w' => e = .returned (.tuple #[.pointer (Tr.split key t).1.adr, .pointer (Tr.split key t).2.adr]) ∧
      IsTr2 267 w' (Tr.split key t).1 ∧ IsTr2 267 w' (Tr.split key t).2 ∧ Only t.has w w' := by
  induction t with
  | nil =>
    intro w _ _
    rw [show Tr.nil.adr = none from rfl]
    go_enter Tryz.func253, Tryz.ntmps253
    go_wp2
    go_ret2
    exact ⟨rfl, trivial, trivial, Only.refl _ _⟩
  | node b k d v l r ihl ihr =>
    intro w h hs
    obtain ⟨c0, c1, c2, c3, c4, f3, f4⟩ := h.cells
    have HT := Lib.hid h
    have HS := Lib.hid hs
    rw [show (Tr.node b k d v l r).adr = some ⟨b, 0, none⟩ from rfl]
    have il := ihl w h.2.1 hs.2.2.2.1
    have ir := ihr w h.2.2 hs.2.2.2.2
    clear h hs c1 c2 ihl ihr
    by_cases hk : k < key
    · have hsp : Tr.split key (Tr.node b k d v l r) = (Tr.node b k d v l (Tr.split key r).1, (Tr.split key r).2) := by rw [Tr.split, if_pos hk]
      rw [hsp]
      clear hsp il
      go_enter Tryz.func253, Tryz.ntmps253
      go_wp2_with fail
      refine ir.mono ?_; clear ir; rintro e w1 ⟨rfl, h1, h2, ho⟩
      have hs := HS.out
      have hB := HT.out.1.only ho hs.2.1
      have hL := HT.out.2.1.only ho hs.2.2.1
      have c0 := hB.cell 0; have c4 := hB.cell 5; have f4 := hB.frozen 5
      have B1 := Lib.hid hB; have L1 := Lib.hid hL; have H1 := Lib.hid h1; have H2 := Lib.hid h2; have HO := Lib.hid ho
      clear hs hB hL h1 h2 ho c3 f3
      go_wp2
      go_ret2
      have s1 := (Tr.split_has key r)
      refine ⟨rfl, ⟨?_, L1.out.setCell_other HS.out.1 _ _, H1.out.setCell_other (fun h => HS.out.2.1 ((s1 b).1 (.inl h))) _ _⟩, H2.out.setCell_other (fun h => HS.out.2.1 ((s1 b).1 (.inr h))) _ _, ?_⟩
      · exact B1.out.setCell 5 _
      · exact (HO.out.mono (fun x _ hx => .inr (.inr hx))).setCell (.inl (.inl rfl)) _
    · have hsp : Tr.split key (Tr.node b k d v l r) = ((Tr.split key l).1, Tr.node b k d v (Tr.split key l).2 r) := by rw [Tr.split, if_neg hk]
      rw [hsp]
      clear hsp ir
      go_enter Tryz.func253, Tryz.ntmps253
      go_wp2_with fail
      refine il.mono ?_; clear il; rintro e w1 ⟨rfl, h1, h2, ho⟩
      have hs := HS.out
      have hB := HT.out.1.only ho hs.1
      have hR := HT.out.2.2.only ho (fun x hx hx' => hs.2.2.1 x hx' hx)
      have c0 := hB.cell 0; have c3 := hB.cell 4; have f3 := hB.frozen 4
      have B1 := Lib.hid hB; have R1 := Lib.hid hR; have H1 := Lib.hid h1; have H2 := Lib.hid h2; have HO := Lib.hid ho
      clear hs hB hR h1 h2 ho c4 f4
      go_wp2
      go_ret2
      have s1 := (Tr.split_has key l)
      refine ⟨rfl, H1.out.setCell_other (fun h => HS.out.1 ((s1 b).1 (.inl h))) _ _, ⟨?_, H2.out.setCell_other (fun h => HS.out.1 ((s1 b).1 (.inr h))) _ _, R1.out.setCell_other HS.out.2.1 _ _⟩, ?_⟩
      · exact B1.out.setCell 4 _
      · exact (HO.out.mono (fun x _ hx => .inr (.inl hx))).setCell (.inl (.inl rfl)) _

set_option maxHeartbeats 1000000 in
theorem joinR_any (s t : Tr) : ∀ (w : World), IsTr2 267 w s → IsTr2 267 w t → s.sep → t.sep → (∀ x, s.has x → ¬ t.has x) →
    Calls Tryz.prog 254 #[.pointer s.adr, .pointer t.adr] w fun e w' => e = .returned (.pointer (Tr.join s t).adr) ∧
      IsTr2 267 w' (Tr.join s t) ∧ Only (fun x => s.has x ∨ t.has x) w w' := by
  induction s, t using Tr.join_ind with
  | h1 t =>
    intro w _ h _ _ _
    have HT := Lib.hid h
    clear h
    rw [show Tr.nil.adr = none from rfl, Tr.nil_join]
    generalize t.adr = a
    go_enter Tryz.func254, Tryz.ntmps254
    go_wp2
    go_ret
    exact ⟨rfl, HT.out, Only.refl _ _⟩
  | h2 b k d v l r =>
    intro w h _ _ _ _
    have HT := Lib.hid h
    clear h
    rw [show Tr.nil.adr = none from rfl, Tr.join_nil, show (Tr.node b k d v l r).adr = some ⟨b, 0, none⟩ from rfl]
    go_enter Tryz.func254, Tryz.ntmps254
    go_wp2
    go_ret
    exact ⟨rfl, HT.out, Only.refl _ _⟩
  | h3 b k d v l r b' k' d' v' l' r' ih1 ih2 =>
    intro w h h' hs hs' hd
    have ha := aboveR_any b b' k d v l r k' d' v' l' r' w h h'
    obtain ⟨c0, c1, c2, c3, c4, f3, f4⟩ := h.cells
    obtain ⟨e0, e1, e2, e3, e4, g3, g4⟩ := h'.cells
    have HT := Lib.hid h; have HT' := Lib.hid h'
    have HS := Lib.hid hs; have HS' := Lib.hid hs'; have HD := Lib.hid hd
    have IH1 := Lib.hid ih1; have IH2 := Lib.hid ih2
    rw [show (Tr.node b k d v l r).adr = some ⟨b, 0, none⟩ from rfl, show (Tr.node b' k' d' v' l' r').adr = some ⟨b', 0, none⟩ from rfl, Tr.join_node]
    clear h h' hs hs' hd ih1 ih2 c0 c1 c2 e0 e1 e2
    cases hu : Tr.up k d k' d'
    · rw [hu] at ha
      rw [if_neg (by simp)]
      clear hu
      go_enter Tryz.func254, Tryz.ntmps254
      go_wp2_with fail
      refine ha.mono ?_; clear ha; rintro e w1 ⟨rfl, n, rfl⟩
      go_wp2_with fail
      refine (IH2.out (w.drewN n) (HT.out.drewN n) (HT'.out.2.1.drewN n) HS.out HS'.out.2.2.2.1 (fun x hx hx' => HD.out x hx (.inr (.inl hx')))).mono ?_; rintro e w1 ⟨rfl, h1, ho⟩
      have hs := HS'.out; have hd := HD.out
      have hn : ¬ ((Tr.node b k d v l r).has b' ∨ l'.has b') := fun h => h.elim (fun h => hd b' h (.inl rfl)) hs.1
      have hB := (HT'.out.1.drewN n).only ho hn
      have hR := (HT'.out.2.2.drewN n).only ho (fun x hx h => h.elim (fun h => hd x h (.inr (.inr hx))) (fun h => hs.2.2.1 x h hx))
      have e3 := hB.cell 4; have g3 := hB.frozen 4
      have B1 := Lib.hid hB; have R1 := Lib.hid hR; have H1 := Lib.hid h1; have HO := Lib.hid ho; have HN := Lib.hid hn
      clear hs hd hB hR h1 ho hn c3 c4 e4 f3 f4 g4
      go_wp2
      go_ret
      refine ⟨rfl, ⟨B1.out.setCell 4 _, H1.out.setCell_other (fun h => HN.out ((Tr.join_has ..).1 h)) _ _, R1.out.setCell_other HS'.out.2.1 _ _⟩, ?_⟩
      exact (((Only.refl _ w).drewN n).trans (HO.out.mono (fun x _ hx => hx.elim .inl (fun hx => .inr (.inr (.inl hx)))))).setCell (.inl (.inr (.inl rfl))) _
    · rw [hu] at ha
      rw [if_pos rfl]
      clear hu
      go_enter Tryz.func254, Tryz.ntmps254
      go_wp2_with fail
      refine ha.mono ?_; clear ha; rintro e w1 ⟨rfl, n, rfl⟩
      go_wp2_with fail
      refine (IH1.out (w.drewN n) (HT.out.2.2.drewN n) (HT'.out.drewN n) HS.out.2.2.2.2 HS'.out (fun x hx hx' => HD.out x (.inr (.inr hx)) hx')).mono ?_; rintro e w1 ⟨rfl, h1, ho⟩
      have hs := HS.out; have hd := HD.out
      have hn : ¬ (r.has b ∨ (Tr.node b' k' d' v' l' r').has b) := fun h => h.elim hs.2.1 (fun h => hd b (.inl rfl) h)
      have hB := (HT.out.1.drewN n).only ho hn
      have hL := (HT.out.2.1.drewN n).only ho (fun x hx h => h.elim (fun h => hs.2.2.1 x hx h) (fun h => hd x (.inr (.inl hx)) h))
      have c4 := hB.cell 5; have f4 := hB.frozen 5
      have B1 := Lib.hid hB; have L1 := Lib.hid hL; have H1 := Lib.hid h1; have HO := Lib.hid ho; have HN := Lib.hid hn
      clear hs hd hB hL h1 ho hn c3 e3 e4 f3 g3 g4
      go_wp2
      go_ret
      refine ⟨rfl, ⟨B1.out.setCell 5 _, L1.out.setCell_other HS.out.1 _ _, H1.out.setCell_other (fun h => HN.out ((Tr.join_has ..).1 h)) _ _⟩, ?_⟩
      exact (((Only.refl _ w).drewN n).trans (HO.out.mono (fun x _ hx => hx.elim (fun hx => .inl (.inr (.inr hx))) .inr))).setCell (.inl (.inl (.inl rfl))) _

set_option maxHeartbeats 400000 in
theorem newR_any (w : World) : Calls Tryz.prog 152 #[] w fun e w' => e = .returned (.pointer (some ⟨w.heap.size, 0, none⟩)) ∧ IsTreap2 267 242 w' w.heap.size .nil 0 ∧ Adds w w' := by
  go_enter Tryz.func152, Tryz.ntmps152
  go_wp2
  go_ret
  exact ⟨rfl, ⟨Blk.new _ _ _, trivial, id⟩, (Only.refl _ _).alloc _⟩

set_option maxHeartbeats 1000000 in
theorem putR_no (tb : Nat) (t : Tr) (m key draw : Int) (x z : Int) (w : World) (h : IsTreap2 267 242 w tb t m) (hf : Tr.find key t ≠ .nil) :
    Calls Tryz.prog 216 #[.pointer (some ⟨tb, 0, none⟩), .int .i64 key, .int .u32 draw, .agg #[.int .i64 x, .int .i64 z]] w fun e w' => e = .returned (.bool false) ∧ Adds w w' := by
  have hbx : ¬ t.has w.heap.size := fun hh => (by have := h.lt _ (.inr hh); omega)
  replace h := h.alloc (.cells #[.int .i64 x, .int .i64 z] 188)
  have hc := findR_any tb t m key (w.alloc (.cells #[.int .i64 x, .int .i64 z] 188)) h
  obtain ⟨b, hb, _⟩ := adr_some hf
  rw [hb] at hc
  clear hb hf h
  go_enter Tryz.func216, Tryz.ntmps216
  go_wp2_with fail
  refine hc.mono ?_; clear hc; rintro e w1 ⟨rfl, rfl⟩
  go_wp2
  go_ret
  exact ⟨rfl, (Only.refl _ _).alloc _⟩

set_option maxHeartbeats 2000000 in
theorem putR_yes (tb : Nat) (t : Tr) (m key draw : Int) (x z : Int) (w : World) (h : IsTreap2 267 242 w tb t m) (hs : t.sep) (hf : Tr.find key t = .nil) :
    Calls Tryz.prog 216 #[.pointer (some ⟨tb, 0, none⟩), .int .i64 key, .int .u32 draw, .agg #[.int .i64 x, .int .i64 z]] w fun e w' => e = .returned (.bool true) ∧
      (∃ nb, w.heap.size ≤ nb ∧ IsTreap2 267 242 w' tb (Tr.put nb key draw (.agg #[.int .i64 x, .int .i64 z]) t) (wrap64 (m + 1))) ∧ Only (TB tb t) w w' := by
  have hbx : ¬ t.has w.heap.size := fun hh => (by have := h.lt _ (.inr hh); omega)
  replace h := h.alloc (.cells #[.int .i64 x, .int .i64 z] 188)
  have hc := findR_any tb t m key (w.alloc (.cells #[.int .i64 x, .int .i64 z] 188)) h
  rw [hf] at hc
  have hsp := splitR_any key t (w.alloc (.cells #[.int .i64 x, .int .i64 z] 188)) h.tr hs
  obtain ⟨p1, p2, _, _⟩ := h.cells
  have HT := Lib.hid h
  have HS := Lib.hid (Tr.split_sep key t hs)
  have HH := Lib.hid (Tr.split_has key t)
  rw [show Tr.nil.adr = none from rfl] at hc
  clear h hs hf
  go_enter Tryz.func216, Tryz.ntmps216
  go_wp2_with fail
  refine hc.mono ?_; clear hc; rintro e w1 ⟨rfl, rfl⟩
  go_wp2_with fail
  refine hsp.mono ?_; clear hsp; rintro e w1 ⟨rfl, h1, h2, ho⟩
  have hbB := (Blk.new w #[.int .i64 x, .int .i64 z] 188).only ho hbx
  have y0 := hbB.cell 0; have y1 := hbB.cell 1
  clear hbB hbx
  have hB := HT.out.head.only ho HT.out.ntb
  have hN := Blk.new w1 #[.int .i64 key, .int .u32 draw, .int .i64 x, .int .i64 z, .pointer none, .pointer none] 267
  have hsz := ho.size
  have hlt := HT.out.lt
  obtain ⟨nb, hnb⟩ : ∃ nb, nb = w1.heap.size := ⟨_, rfl⟩
  have hL : ¬ (Tr.split key t).1.has nb := fun h => by have := h1.lt nb h; omega
  have hR : ¬ (Tr.split key t).2.has nb := fun h => by have := h2.lt nb h; omega
  have hj1 := joinR_any (Tr.split key t).1 (.node nb key draw (.agg #[.int .i64 x, .int .i64 z]) .nil .nil) (w1.alloc (.cells #[.int .i64 key, .int .u32 draw, .int .i64 x, .int .i64 z, .pointer none, .pointer none] 267)) (h1.alloc _)
    ⟨hnb ▸ hN, trivial, trivial⟩ HS.out.1 ⟨id, id, fun _ h => h.elim, trivial, trivial⟩ (fun y hy hy' => by rcases hy' with rfl | hy' | hy'; exact hL hy; exact hy'; exact hy')
  rw [show (Tr.node nb key draw (.agg #[.int .i64 x, .int .i64 z]) .nil .nil).adr = some ⟨w1.heap.size, 0, none⟩ from by rw [hnb]; rfl] at hj1
  have H1 := Lib.hid h1; have H2 := Lib.hid h2; have HO := Lib.hid ho; have HB := Lib.hid hB; have HN := Lib.hid hnb; have HLR := Lib.hid (And.intro hL hR); have HLT := Lib.hid hlt; have HZ := Lib.hid hsz
  clear h1 h2 ho hB hN hsz hlt hnb hL hR
  go_wp2_with fail
  refine hj1.mono ?_; clear hj1; rintro e w2 ⟨rfl, h3, ho2⟩
  have htb : ∀ y : Nat, (Tr.split key t).1.has y ∨ (Tr.node nb key draw (.agg #[.int .i64 x, .int .i64 z]) .nil .nil).has y → y = nb ∨ t.has y := fun y hy => hy.elim (fun hy => .inr ((HH.out y).1 (.inl hy))) (fun hy => hy.elim .inl (fun hy => hy.elim False.elim False.elim))
  have hnb : tb ≠ nb ∧ ¬ t.has nb := ⟨fun h => by have := HLT.out tb (.inl rfl); have := HZ.out; have := HN.out; omega, fun h => by have := HLT.out nb (.inr h); have := HZ.out; have := HN.out; omega⟩
  have hR2 := (H2.out.alloc (.cells #[.int .i64 key, .int .u32 draw, .int .i64 x, .int .i64 z, .pointer none, .pointer none] 267)).only ho2 (fun y hy hy' => hy'.elim (fun h => HS.out.2.2 y h hy) (fun h => h.elim (fun h => HLR.out.2 (h ▸ hy)) (fun h => h.elim id id)))
  have hB2 := (HB.out.alloc (.cells #[.int .i64 key, .int .u32 draw, .int .i64 x, .int .i64 z, .pointer none, .pointer none] 267)).only ho2 (fun h => (htb _ h).elim hnb.1 HT.out.ntb)
  have hj2 := joinR_any (Tr.join (Tr.split key t).1 (.node nb key draw (.agg #[.int .i64 x, .int .i64 z]) .nil .nil)) (Tr.split key t).2 w2 h3 hR2 (Tr.join_sep _ _ HS.out.1 ⟨id, id, fun _ h => h.elim, trivial, trivial⟩ (fun y hy hy' => by rcases hy' with rfl | hy' | hy'; exact HLR.out.1 hy; exact hy'; exact hy')) HS.out.2.1
    (fun y hy hy' => ((Tr.join_has ..).1 hy).elim (fun hy => HS.out.2.2 y hy hy') (fun hy => hy.elim (fun h => HLR.out.2 (h ▸ hy')) (fun h => h.elim id id)))
  have HB2 := Lib.hid hB2; have HO2 := Lib.hid ho2; have HTB := Lib.hid htb; have HNB := Lib.hid hnb
  clear hR2 hB2 h3 ho2 htb hnb
  go_wp2_with fail
  refine hj2.mono ?_; clear hj2; rintro e w3 ⟨rfl, h4, ho3⟩
  have htb3 : ∀ y : Nat, (Tr.join (Tr.split key t).1 (.node nb key draw (.agg #[.int .i64 x, .int .i64 z]) .nil .nil)).has y ∨ (Tr.split key t).2.has y → y = nb ∨ t.has y := fun y hy => hy.elim (fun hy => HTB.out y ((Tr.join_has ..).1 hy)) (fun hy => .inr ((HH.out y).1 (.inr hy)))
  have hB3 := HB2.out.only ho3 (fun h => (htb3 _ h).elim HNB.out.1 HT.out.ntb)
  have q0 := hB3.cell 0; have q1 := hB3.cell 1; have g0 := hB3.frozen 0; have g1 := hB3.frozen 1
  have H4 := Lib.hid h4; have HO3 := Lib.hid ho3; have HB3 := Lib.hid hB3; have HTB3 := Lib.hid htb3
  clear h4 ho3 hB3 htb3 p1 p2
  go_wp2
  go_ret
  have hhas : ∀ y : Nat, (Tr.put nb key draw (.agg #[.int .i64 x, .int .i64 z]) t).has y → y = nb ∨ t.has y := fun y hy => (Tr.put_has ..).1 hy
  have hnt : ¬ (Tr.put nb key draw (.agg #[.int .i64 x, .int .i64 z]) t).has tb := fun h => (hhas _ h).elim HNB.out.1 HT.out.ntb
  refine ⟨rfl, ⟨nb, by have h9 := HZ.out; have := HN.out; (try simp at h9); omega, ⟨(HB3.out.setCell 0 _).setCell 1 _, (H4.out.setCell_other hnt _ _).setCell_other hnt _ _, hnt⟩⟩, ?_⟩
  have o1 : Only (fun y => y = nb ∨ TB tb t y) w w1 := ((Only.refl _ w).alloc (.cells #[.int .i64 x, .int .i64 z] 188)).trans <| HO.out.mono (fun y _ hy => .inr (.inr hy))
  have o2 : Only (fun y => y = nb ∨ TB tb t y) w w2 := (o1.alloc _).andThen HO2.out (fun y _ hy => (HTB.out y hy).elim .inl (fun h => .inr (.inr h)))
  have o3 : Only (fun y => y = nb ∨ TB tb t y) w w3 := o2.andThen HO3.out (fun y _ hy => (HTB3.out y hy).elim .inl (fun h => .inr (.inr h)))
  exact ((o3.setCell (.inl (.inr (.inl rfl))) _).setCell (.inl (.inr (.inl rfl))) _).mono (fun y hy h => h.elim (fun h => by have h9 := HZ.out; have := HN.out; (try simp at h9); omega) id)


end Go.Proofs.YtffhoaimcjpjhaaGreat

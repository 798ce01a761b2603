/- StackRuns, StackOnce: a game begun: pages are dealt out in turns. By an AI agent. -/
import Derived.Test.YthhnpcniijpfeaaGreatZI
import Derived.Test.YthhnpcniijpfeaaGreatZStackList
import Derived.Deep.DeepCutAuto
namespace Go.Proofs.YthhnpcniijpfeaaGreat
open Go.RowKit
set_option linter.unusedSimpArgs false
set_option linter.unusedVariables false
theorem infoIntsN : (Tryz.prog.info? 54).map (fun i => (i.zero, i.size, i.bytes)) = some (some (.slice none 0 0), 1, 24) := by kernel_rfl
theorem infoMachN : (Tryz.prog.info? 47).map (fun i => (i.zero, i.size, i.bytes)) = some (some (.agg #[.pointer none, .pointer none, .pointer none]), 3, 24) := by kernel_rfl
theorem infoBoolN : (Tryz.prog.info? 4).map (fun i => (i.zero, i.size, i.bytes)) = some (some (.bool false), 1, 1) := by kernel_rfl
theorem madeRow3 (n : Nat) : madeCells #[Value.pointer none, .pointer none, .pointer none] (n * 3) = rowOf (n * 3) (fun _ => .pointer none) := by
  apply Array.ext_getElem?
  intro j
  by_cases hj : j < n * 3
  · rw [rowOf_get _ hj]
    unfold madeCells
    have h3 : j % 3 < 3 := Nat.mod_lt _ (by omega)
    simp [hj]
    have : j % 3 = 0 ∨ j % 3 = 1 ∨ j % 3 = 2 := by omega
    rcases this with e | e | e <;> simp [e]
  · rw [Array.getElem?_eq_none (by rw [size_madeCells]; omega), Array.getElem?_eq_none (by rw [rowOf_size]; omega)]
/-- The pages of a thread, of the first k. -/
def dealt (n k t : Nat) : List Int := ((List.range k).filter (fun j => j % n == t)).map (fun (j : Nat) => (j : Int))
theorem dealt_at {n k q : Nat} (h : k % n = q) : dealt n (k + 1) q = dealt n k q ++ [(k : Int)] := by
  unfold dealt; rw [List.range_succ, List.filter_append, List.map_append]; simp [h]
theorem dealt_ne {n k t : Nat} (h : k % n ≠ t) : dealt n (k + 1) t = dealt n k t := by
  unfold dealt; rw [List.range_succ, List.filter_append, List.map_append]; simp [h]
theorem dealt_len (n t : Nat) : ∀ k, (dealt n k t).length ≤ k := fun k => by
  unfold dealt; rw [List.length_map]; exact Nat.le_trans (List.length_filter_le _ _) (by simp)
theorem dealt_mem {n k t : Nat} {x : Int} (h : x ∈ dealt n k t) : 0 ≤ x ∧ x < k := by
  unfold dealt at h
  obtain ⟨j, hj, rfl⟩ := List.mem_map.1 h
  have := List.mem_range.1 (List.mem_filter.1 hj).1
  omega
structure NG (w : World) (ab sb sm rb rg bb tb tm ub fb gb hvb mb onb pub stb n pn k : Nat) (S0 : StoreS) (wr : World) (Hv : Nat → Value) : Prop where
  both : Both wr ab sb sm rb rg bb tb tm ub fb pn n S0 S0
  st : Blk wr stb #[.int .i64 pn, .int .i64 n, .slice none 0 0] 67
  game : Blk wr gb (gmC ab bb hvb mb onb pub n) 37
  hv : Blk wr hvb (rowOf n Hv) 54
  mm : Blk wr mb (rowOf (n * 3) (fun _ => .pointer none)) 47
  on : Blk wr onb (rowOf n (fun _ => .bool false)) 4
  pu : Blk wr pub (rowOf n (fun _ => .bool false)) 4
  own : ∀ t, t < n → wr.ownsRow w.heap.size 3 1 (Hv t) (dealt n k t).length ((dealt n k t).map (Value.int .i64))
  nil : ∀ t, t < n → (dealt n k t).length = 0 → Hv t = .slice none 0 0
  dis : ∀ t t' g, t < n → t' < n → t ≠ t' → (Hv t).ownBlock = some g → (Hv t').ownBlock ≠ some g
  adds : Adds w wr
section
variable {w wr V V' : World} {ab sb sm rb rg bb tb tm ub fb gb hvb mb onb pub stb n pn k q : Nat} {S0 : StoreS} {Hv : Nat → Value}
theorem NG.far (h : NG w ab sb sm rb rg bb tb tm ub fb gb hvb mb onb pub stb n pn k S0 wr Hv) (ha : Adds wr V) (hq : q < n) (ho : Only (fun b => (Hv q).ownBlock = some b ∧ Big V b) V V') {b : Nat} {c : Array Value} {u : TypeId} (hb : Blk wr b c u) (hu : u ≠ 3) : Blk V' b c u :=
  (hb.only ha id).only ho (fun e => by
    obtain ⟨c2, h2⟩ := ownsRow_blk (h.own q hq) e.1
    exact hu (hb.uniq h2).2)
theorem NG.app (h : NG w ab sb sm rb rg bb tb tm ub fb gb hvb mb onb pub stb n pn k S0 wr Hv) (ha : Adds wr V) (hkq : k % n = q) (hq : q < n) {v : Value} (hrow : V'.ownsRow w.heap.size 3 1 v ((dealt n k q).length + 1) ((dealt n k q).map (Value.int .i64) ++ [.int .i64 (k : Int)]))
    (ho : Only (fun b => (Hv q).ownBlock = some b ∧ Big V b) V V') (hob : v.ownBlock = (Hv q).ownBlock ∨ v.ownBlock = some V.heap.size) (hhv : w.heap.size ≤ hvb) :
    NG w ab sb sm rb rg bb tb tm ub fb gb hvb mb onb pub stb n pn (k + 1) S0 (V'.setCell ⟨hvb, q, none⟩ v) (upd Hv q v) := by
  have hst := only_at V' hvb q v
  have hHV := h.far ha hq ho h.hv (by decide)
  have far : ∀ {b : Nat} {c : Array Value} {u : TypeId}, Blk wr b c u → u ≠ 3 → u ≠ 54 → Blk (V'.setCell ⟨hvb, q, none⟩ v) b c u := fun hb h1 h2 => (h.far ha hq ho hb h1).only hst (fun e => by subst e; exact h2 ((h.far ha hq ho hb h1).uniq hHV).2)
  have rw1 : ∀ {x : Value} {m : Nat} {ys : List Value}, V'.ownsRow w.heap.size 3 1 x m ys → (V'.setCell ⟨hvb, q, none⟩ v).ownsRow w.heap.size 3 1 x m ys := fun hx => ownsRow_only hx hst (fun g hg e => by
    obtain ⟨c2, h2⟩ := ownsRow_blk hx hg
    subst e
    have := (h2.uniq hHV).2; revert this; decide)
  have sz := ha.size
  have lt : ∀ t, t < n → ∀ g, (Hv t).ownBlock = some g → g < V.heap.size := fun t ht g hg => by
    obtain ⟨c2, h2⟩ := ownsRow_blk (h.own t ht) hg
    have := h2.lt; omega
  refine ⟨?_, far h.st (by decide) (by decide), far h.game (by decide) (by decide), ?_, far h.mm (by decide) (by decide), far h.on (by decide) (by decide), far h.pu (by decide) (by decide), fun t ht => ?_, fun t ht e => ?_, fun t t' g ht ht' hne hg => ?_, ?_⟩
  · have h1 := h.both.adds ha
    have nt : ∀ {b : Nat} {c : Array Value} {u : TypeId}, Blk V b c u → u ≠ 3 → ¬ ((Hv q).ownBlock = some b ∧ Big V b) := fun hb hu e => by
      obtain ⟨c2, h2⟩ := ownsRow_blk (row_adds (h.own q hq) ha) e.1
      exact hu (hb.uniq h2).2
    have h2 := h1.keep ho (fun b c u hb hu => nt hb (fun e => by subst e; revert hu; unfold BT; decide)) (nt h1.yard.st.head (by decide)) (nt h1.yard.st.row (by decide)) (nt h1.mem.st.head (by decide)) (nt h1.mem.st.row (by decide)) (nt h1.mem.fr (by decide))
    have nt2 : ∀ {b : Nat} {c : Array Value} {u : TypeId}, Blk V' b c u → u ≠ 54 → ¬ b = hvb := fun hb hu e => by subst e; exact hu (hb.uniq hHV).2
    exact h2.keep hst (fun b c u hb hu => nt2 hb (fun e => by subst e; revert hu; unfold BT; decide)) (nt2 h2.yard.st.head (by decide)) (nt2 h2.yard.st.row (by decide)) (nt2 h2.mem.st.head (by decide)) (nt2 h2.mem.st.row (by decide)) (nt2 h2.mem.fr (by decide))
  · have := hHV.setCell q v
    rw [rowOf_set] at this
    exact this
  · by_cases e : t = q
    · subst e
      rw [upd_at, dealt_at hkq]
      have := rw1 hrow
      rw [List.length_append, List.map_append]
      exact this
    · rw [upd_ne _ e, dealt_ne (by omega)]
      refine rw1 (ownsRow_only (row_adds (h.own t ht) ha) ho (fun g hg e2 => ?_))
      exact h.dis t q g ht hq e hg e2.1
  · by_cases e2 : t = q
    · subst e2; rw [dealt_at hkq] at e; simp at e
    · rw [dealt_ne (by omega)] at e; rw [upd_ne _ e2]; exact h.nil t ht e
  · by_cases e : t = q
    · subst e
      rw [upd_at] at hg
      rw [upd_ne _ (Ne.symm hne)]
      intro h3
      rcases hob with h4 | h4
      · rw [h4] at hg; exact h.dis t t' g ht ht' hne hg h3
      · rw [h4] at hg; injection hg with hg; have := lt t' ht' g h3; omega
    · rw [upd_ne _ e] at hg
      by_cases e' : t' = q
      · subst e'
        rw [upd_at]
        intro h3
        rcases hob with h4 | h4
        · rw [h4] at h3; exact h.dis t t' g ht ht' hne hg h3
        · rw [h4] at h3; injection h3 with h3; have := lt t ht g hg; omega
      · rw [upd_ne _ e']; exact h.dis t t' g ht ht' hne hg
  · have h1 := (h.adds.thenF ha).andThen ho (fun i hi e => by
      have := row_base9 (h.own q hq) i e.1.symm; omega)
    exact h1.setCell (p := ⟨hvb, q, none⟩) (.inr hhv) v
end
set_option maxRecDepth 100000 in
set_option maxHeartbeats 8000000 in
theorem newGame_any (c0 c1 : Int) (b0 : 0 ≤ c0 ∧ c0 < 256) (b1 : 0 ≤ c1 ∧ c1 < 256) (pn n : Nat) (hP : 1 + c0 % 60 = (pn : Int)) (hn : 1 + c1 % 6 = (n : Int)) (w : World) :
    Calls Tryz.prog 5 #[.int .u8 c0, .int .u8 c1] w fun e w' => ∃ (ab sb sm rb rg bb tb tm ub fb gb hvb mb onb pub : Nat) (Hv : Nat → Value), e = .returned (.pointer (some ⟨gb, 0, none⟩)) ∧
      GH w ab sb sm rb rg bb tb tm ub fb gb hvb mb onb pub n pn n 60 w' (StoreS.begun (Lay.words pn n).toNat 0 1) (StoreS.begun (Lay.words pn n).toNat 0 1) (List.replicate n none) Hv (fun _ => .pointer none) (fun _ => false) (fun _ => false) ∧
      ∀ t, t < n → w'.ownsRow w.heap.size 3 1 (Hv t) (dealt n pn t).length ((dealt n pn t).map (Value.int .i64)) := by
  have p1 : 1 ≤ pn := by omega
  have p2 : pn ≤ 60 := by omega
  have n1 : 1 ≤ n := by omega
  have n6 : n ≤ 6 := by omega
  have hmay : Lay.may pn n = true := Lay.may_iff.2 ⟨by omega, by omega, by omega, by omega⟩
  have HMAY := Lib.hid hmay
  have HAR := fun W => arenas_ok (pn : Int) (n : Int) W hmay
  obtain ⟨S0, hS0⟩ : ∃ S0, StoreS.begun (Lay.words pn n).toNat 0 1 = S0 := ⟨_, rfl⟩
  have HLEN : Hid (S0.ws.length = (Lay.words pn n).toNat) := Lib.hid (by rw [← hS0]; exact begun_len _ _ _)
  simp only [hS0] at HAR ⊢
  replace HAR := Lib.hid HAR
  clear hS0
  have HSET := fun W => setup_nil c0 c1 60 W b0 b1 (by omega)
  rw [hP, hn] at HSET
  replace HSET := Lib.hid HSET
  obtain ⟨i0, hi0, hz00, hz01, hz02⟩ := info_parts infoIntsN
  have mk1 := fun W => run_make (P := Tryz.prog) W 33 54 i0 (.slice none 0 0) Tryz.underlying33 hi0 hz00 .i64 .i64 (n : Int) (n : Int) (by omega) (by omega) (by rw [hz02]; omega) (by omega)
  obtain ⟨i1, hi1, hz10, hz11, hz12⟩ := info_parts infoMachN
  have mk2 := fun W => run_make (P := Tryz.prog) W 34 47 i1 (.agg #[.pointer none, .pointer none, .pointer none]) Tryz.underlying34 hi1 hz10 .i64 .i64 (n : Int) (n : Int) (by omega) (by omega) (by rw [hz12]; omega) (by omega)
  obtain ⟨i2, hi2, hz20, hz21, hz22⟩ := info_parts infoBoolN
  have mk3 := fun W => run_make (P := Tryz.prog) W 35 4 i2 (.bool false) Tryz.underlying35 hi2 hz20 .i64 .i64 (n : Int) (n : Int) (by omega) (by omega) (by rw [hz22]; omega) (by omega)
  have hcs1 : (Value.slice none 0 0).cells = #[Value.slice none 0 0] := rfl
  have hcs2 : (Value.agg #[.pointer none, .pointer none, .pointer none]).cells = #[Value.pointer none, .pointer none, .pointer none] := by rfl
  have hcs3 : (Value.bool false).cells = #[Value.bool false] := rfl
  simp only [Int.toNat_natCast, hz01, Nat.mul_one, hcs1, madeRow] at mk1
  simp only [Int.toNat_natCast, hz11, hcs2, madeRow3] at mk2
  simp only [Int.toNat_natCast, hz21, Nat.mul_one, hcs3, madeRow] at mk3
  clear hcs1 hcs2 hcs3 hmay b0 b1 hP hn hi0 hi1 hi2 hz00 hz01 hz02 hz10 hz11 hz12 hz20 hz21 hz22
  go_enter Tryz.func5, Tryz.ntmps5
  go_upto_region 5 with (first
    | (go_at_call 24; refine (HSET.out _).mono ?_; rintro e w2 ⟨rfl, ho⟩; have HO0 := Lib.hid ho; clear ho)
    | (go_at_call 25; refine (HAR.out _).mono ?_; rintro e w3 ⟨ab, sb, sm, rb, rg, bb, tb, tm, ub, fb, rfl, hB, ho, hlow⟩; have HB := Lib.hid hB; have HO := Lib.hid ho; have HLOW := Lib.hid hlow; clear hB ho hlow))
  obtain ⟨stb, hstb⟩ : ∃ stb, stb = w2.heap.size := ⟨_, rfl⟩
  have hset : Blk w3 w2.heap.size #[.int .i64 pn, .int .i64 n, .slice none 0 0] 67 := (Blk.new w2 _ _).only HO.out id
  have s1 : w3.cell? ⟨w2.heap.size, 1, none⟩ = some (.int .i64 n) := hset.cell 1
  rw [← hstb] at hset s1 ⊢
  have HST := Lib.hid hset
  have hz3 := HO.out.size
  have hlow := HLOW.out
  simp only [World.size_alloc] at hz3 hlow
  have hz2 := HO0.out.size
  have HA3 := Lib.hid ((HO0.out.alloc (.cells #[.int .i64 pn, .int .i64 n, .slice none 0 0] 67)).thenF HO.out)
  have HLO := Lib.hid (show w.heap.size ≤ ab ∧ w.heap.size ≤ sb ∧ w.heap.size ≤ sm ∧ w.heap.size ≤ bb ∧ w.heap.size ≤ tb ∧ w.heap.size ≤ tm by omega)
  have HSZ := Lib.hid (show w.heap.size ≤ w3.heap.size by omega)
  clear hset hlow HLOW HO HO0 HSET hstb hz2 hz3
  go_cut [8] (fun y wc => ∃ (gb hvb mb onb pub : Nat), y = .pointer (some ⟨gb, 0, none⟩) ∧ Hid (NG w ab sb sm rb rg bb tb tm ub fb gb hvb mb onb pub stb n pn 0 S0 wc (fun _ => .slice none 0 0)) ∧ Hid ((onb ≠ pub ∧ onb ≠ fb ∧ pub ≠ fb) ∧ (w.heap.size ≤ gb ∧ w.heap.size ≤ hvb ∧ w.heap.size ≤ mb ∧ w.heap.size ≤ onb ∧ w.heap.size ≤ pub)))
  case first =>
    refine wp_region_held_drew (S := (fun V => V.cell? ⟨stb, 1, none⟩ = some (.int .i64 n))) (by kernel_rfl) s1 (fun hHeld => ?_)
    obtain ⟨D, hD⟩ : ∃ D, World.drew w3 = D := ⟨_, rfl⟩
    have HAD : Hid (Adds w3 D) := Lib.hid (by rw [← hD]; exact (Only.refl (fun _ => False) w3).drew)
    rw [hD] at hHeld
    try rw [hD]
    clear hD
    refine wpAnyH_take (i := 0) (v := (.pointer (some ⟨ab, 0, none⟩))) rfl (by kernel_rfl) (by kernel_rfl) (by kernel_rfl) (fun _ _ _ h => h) (Or.inl ⟨by rfl, fun W hS => by first | rfl | (go_simp; done)⟩) hHeld ?_
    try simp only [Act.put, List.getElem_toArray, List.getElem_cons_succ, List.getElem_cons_zero, List.setIfInBounds_toArray, List.set_cons_zero, List.set_cons_succ]
    refine wpAnyH_take (i := 1) (v := (.pointer (some ⟨bb, 0, none⟩))) rfl (by kernel_rfl) (by kernel_rfl) (by kernel_rfl) (fun _ _ _ h => h) (Or.inl ⟨by rfl, fun W hS => by first | rfl | (go_simp; done)⟩) hHeld ?_
    try simp only [Act.put, List.getElem_toArray, List.getElem_cons_succ, List.getElem_cons_zero, List.setIfInBounds_toArray, List.set_cons_zero, List.set_cons_succ]
    refine wpAnyH_take (i := 2) (v := (.pointer (some ⟨stb, 1, none⟩))) rfl (by kernel_rfl) (by kernel_rfl) (by kernel_rfl) (fun _ _ _ h => h) (Or.inl ⟨by rfl, fun W hS => by first | rfl | (go_simp; done)⟩) hHeld ?_
    try simp only [Act.put, List.getElem_toArray, List.getElem_cons_succ, List.getElem_cons_zero, List.setIfInBounds_toArray, List.set_cons_zero, List.set_cons_succ]
    refine wpAnyH_take (i := 3) (v := (.int .i64 n)) rfl (by kernel_rfl) (by kernel_rfl) (by kernel_rfl) (fun _ _ _ h => h) (Or.inl ⟨by rfl, fun W hS => by (obtain q1 := hS; go_simp; done)⟩) hHeld ?_
    try simp only [Act.put, List.getElem_toArray, List.getElem_cons_succ, List.getElem_cons_zero, List.setIfInBounds_toArray, List.set_cons_zero, List.set_cons_succ]
    refine wpAnyH_take (i := 5) (v := (.pointer (some ⟨stb, 1, none⟩))) rfl (by kernel_rfl) (by kernel_rfl) (by kernel_rfl) (fun _ _ _ h => h) (Or.inl ⟨by rfl, fun W hS => by first | rfl | (go_simp; done)⟩) hHeld ?_
    try simp only [Act.put, List.getElem_toArray, List.getElem_cons_succ, List.getElem_cons_zero, List.setIfInBounds_toArray, List.set_cons_zero, List.set_cons_succ]
    refine wpAnyH_take (i := 6) (v := (.int .i64 n)) rfl (by kernel_rfl) (by kernel_rfl) (by kernel_rfl) (fun _ _ _ h => h) (Or.inl ⟨by rfl, fun W hS => by (obtain q1 := hS; go_simp; done)⟩) hHeld ?_
    try simp only [Act.put, List.getElem_toArray, List.getElem_cons_succ, List.getElem_cons_zero, List.setIfInBounds_toArray, List.set_cons_zero, List.set_cons_succ]
    refine wpAnyH_take (i := 8) (v := (.pointer (some ⟨stb, 1, none⟩))) rfl (by kernel_rfl) (by kernel_rfl) (by kernel_rfl) (fun _ _ _ h => h) (Or.inl ⟨by rfl, fun W hS => by first | rfl | (go_simp; done)⟩) hHeld ?_
    try simp only [Act.put, List.getElem_toArray, List.getElem_cons_succ, List.getElem_cons_zero, List.setIfInBounds_toArray, List.set_cons_zero, List.set_cons_succ]
    refine wpAnyH_take (i := 9) (v := (.int .i64 n)) rfl (by kernel_rfl) (by kernel_rfl) (by kernel_rfl) (fun _ _ _ h => h) (Or.inl ⟨by rfl, fun W hS => by (obtain q1 := hS; go_simp; done)⟩) hHeld ?_
    try simp only [Act.put, List.getElem_toArray, List.getElem_cons_succ, List.getElem_cons_zero, List.setIfInBounds_toArray, List.set_cons_zero, List.set_cons_succ]
    refine wpAnyH_take (i := 11) (v := (.pointer (some ⟨stb, 1, none⟩))) rfl (by kernel_rfl) (by kernel_rfl) (by kernel_rfl) (fun _ _ _ h => h) (Or.inl ⟨by rfl, fun W hS => by first | rfl | (go_simp; done)⟩) hHeld ?_
    try simp only [Act.put, List.getElem_toArray, List.getElem_cons_succ, List.getElem_cons_zero, List.setIfInBounds_toArray, List.set_cons_zero, List.set_cons_succ]
    refine wpAnyH_take (i := 12) (v := (.int .i64 n)) rfl (by kernel_rfl) (by kernel_rfl) (by kernel_rfl) (fun _ _ _ h => h) (Or.inl ⟨by rfl, fun W hS => by (obtain q1 := hS; go_simp; done)⟩) hHeld ?_
    try simp only [Act.put, List.getElem_toArray, List.getElem_cons_succ, List.getElem_cons_zero, List.setIfInBounds_toArray, List.set_cons_zero, List.set_cons_succ]
    refine wpAnyH_ready (rs := [4, 7, 10, 13]) (by kernel_rfl) (by simp) (AllReadyH.cons rfl (fun K hK => ?_) (AllReadyH.cons rfl (fun K hK => ?_) (AllReadyH.cons rfl (fun K hK => ?_) (AllReadyH.cons rfl (fun K hK => ?_) AllReadyH.nil))))
    · simp only [List.getElem_toArray, List.getElem_cons_succ, List.getElem_cons_zero]
      go_simp
      obtain ⟨Y1, hV2⟩ : ∃ Y, D.alloc (.cells (rowOf n (fun _ => .slice none 0 0)) 54) = Y := ⟨_, rfl⟩
      obtain ⟨hvb, hbb⟩ : ∃ q, D.heap.size = q := ⟨_, rfl⟩
      have hA2 : Adds D Y1 := by rw [← hV2]; exact (Only.refl (fun _ => False) D).alloc _
      have hblk : Blk Y1 hvb (rowOf n (fun _ => .slice none 0 0)) 54 := by rw [← hV2, ← hbb]; exact Blk.new D _ _
      have Hhvb := Lib.hid hblk
      have Lhvb := Lib.hid (show w3.heap.size ≤ hvb by have := HAD.out.size; omega)
      try rw [hV2]
      try rw [hbb]
      have hg9 := cellA hHeld hA2
      replace HAD := Lib.hid (HAD.out.thenF hA2)
      refine hK.out _ _ hg9 (fun hHeld => ?_)
      clear hK hV2 hA2 hbb hg9 hblk
      try simp only [Act.put, List.getElem_toArray, List.getElem_cons_succ, List.getElem_cons_zero, List.setIfInBounds_toArray, List.set_cons_zero, List.set_cons_succ]
      refine wpAnyH_ready (rs := [7, 10, 13]) (by kernel_rfl) (by simp) (AllReadyH.cons rfl (fun K hK => ?_) (AllReadyH.cons rfl (fun K hK => ?_) (AllReadyH.cons rfl (fun K hK => ?_) AllReadyH.nil)))
      · simp only [List.getElem_toArray, List.getElem_cons_succ, List.getElem_cons_zero]
        go_simp
        obtain ⟨Y2, hV2⟩ : ∃ Y, Y1.alloc (.cells (rowOf (n * 3) (fun _ => .pointer none)) 47) = Y := ⟨_, rfl⟩
        obtain ⟨mb, hbb⟩ : ∃ q, Y1.heap.size = q := ⟨_, rfl⟩
        have hA2 : Adds Y1 Y2 := by rw [← hV2]; exact (Only.refl (fun _ => False) Y1).alloc _
        have hblk : Blk Y2 mb (rowOf (n * 3) (fun _ => .pointer none)) 47 := by rw [← hV2, ← hbb]; exact Blk.new Y1 _ _
        have Hmb := Lib.hid hblk
        have Lmb := Lib.hid (show w3.heap.size ≤ mb by have := HAD.out.size; omega)
        replace Hhvb := Lib.hid (Hhvb.out.only hA2 id)
        try rw [hV2]
        try rw [hbb]
        have hg9 := cellA hHeld hA2
        replace HAD := Lib.hid (HAD.out.thenF hA2)
        refine hK.out _ _ hg9 (fun hHeld => ?_)
        clear hK hV2 hA2 hbb hg9 hblk
        try simp only [Act.put, List.getElem_toArray, List.getElem_cons_succ, List.getElem_cons_zero, List.setIfInBounds_toArray, List.set_cons_zero, List.set_cons_succ]
        refine wpAnyH_ready (rs := [10, 13]) (by kernel_rfl) (by simp) (AllReadyH.cons rfl (fun K hK => ?_) (AllReadyH.cons rfl (fun K hK => ?_) AllReadyH.nil))
        · simp only [List.getElem_toArray, List.getElem_cons_succ, List.getElem_cons_zero]
          go_simp
          obtain ⟨Y3, hV2⟩ : ∃ Y, Y2.alloc (.cells (rowOf n (fun _ => .bool false)) 4) = Y := ⟨_, rfl⟩
          obtain ⟨onb, hbb⟩ : ∃ q, Y2.heap.size = q := ⟨_, rfl⟩
          have hA2 : Adds Y2 Y3 := by rw [← hV2]; exact (Only.refl (fun _ => False) Y2).alloc _
          have hblk : Blk Y3 onb (rowOf n (fun _ => .bool false)) 4 := by rw [← hV2, ← hbb]; exact Blk.new Y2 _ _
          have Honb := Lib.hid hblk
          have Lonb := Lib.hid (show w3.heap.size ≤ onb by have := HAD.out.size; omega)
          replace Hhvb := Lib.hid (Hhvb.out.only hA2 id)
          replace Hmb := Lib.hid (Hmb.out.only hA2 id)
          try rw [hV2]
          try rw [hbb]
          have hg9 := cellA hHeld hA2
          replace HAD := Lib.hid (HAD.out.thenF hA2)
          refine hK.out _ _ hg9 (fun hHeld => ?_)
          clear hK hV2 hA2 hbb hg9 hblk
          try simp only [Act.put, List.getElem_toArray, List.getElem_cons_succ, List.getElem_cons_zero, List.setIfInBounds_toArray, List.set_cons_zero, List.set_cons_succ]
          refine wpAnyH_ready (rs := [13]) (by kernel_rfl) (by simp) (AllReadyH.cons rfl (fun K hK => ?_) AllReadyH.nil)
          simp only [List.getElem_toArray, List.getElem_cons_succ, List.getElem_cons_zero]
          go_simp
          obtain ⟨Y4, hV2⟩ : ∃ Y, Y3.alloc (.cells (rowOf n (fun _ => .bool false)) 4) = Y := ⟨_, rfl⟩
          obtain ⟨pub, hbb⟩ : ∃ q, Y3.heap.size = q := ⟨_, rfl⟩
          have hA2 : Adds Y3 Y4 := by rw [← hV2]; exact (Only.refl (fun _ => False) Y3).alloc _
          have hblk : Blk Y4 pub (rowOf n (fun _ => .bool false)) 4 := by rw [← hV2, ← hbb]; exact Blk.new Y3 _ _
          have Hpub := Lib.hid hblk
          have Lpub := Lib.hid (show w3.heap.size ≤ pub by have := HAD.out.size; omega)
          replace Hhvb := Lib.hid (Hhvb.out.only hA2 id)
          replace Hmb := Lib.hid (Hmb.out.only hA2 id)
          have HNE := Lib.hid (show pub ≠ onb by have := Honb.out.lt; omega)
          replace Honb := Lib.hid (Honb.out.only hA2 id)
          try rw [hV2]
          try rw [hbb]
          have hg9 := cellA hHeld hA2
          replace HAD := Lib.hid (HAD.out.thenF hA2)
          refine hK.out _ _ hg9 (fun hHeld => ?_)
          clear hK hV2 hA2 hbb hg9 hblk
          try simp only [Act.put, List.getElem_toArray, List.getElem_cons_succ, List.getElem_cons_zero, List.setIfInBounds_toArray, List.set_cons_zero, List.set_cons_succ]
          refine wpAnyH_take (i := 14) (v := (.agg (gmC ab bb hvb mb onb pub n))) rfl (by kernel_rfl) (by kernel_rfl) (by kernel_rfl) (fun _ _ _ h => h) (Or.inl ⟨by rfl, fun W hS => by first | rfl | (go_simp; done)⟩) hHeld ?_
          try simp only [Act.put, List.getElem_toArray, List.getElem_cons_succ, List.getElem_cons_zero, List.setIfInBounds_toArray, List.set_cons_zero, List.set_cons_succ]
          refine wpAnyH_ready (rs := [15]) (by kernel_rfl) (by simp) (AllReadyH.cons rfl (fun K hK => ?_) AllReadyH.nil)
          simp only [List.getElem_toArray, List.getElem_cons_succ, List.getElem_cons_zero]
          go_simp
          obtain ⟨Z, hZ⟩ : ∃ Y, Y4.alloc (.cells (gmC ab bb hvb mb onb pub n) 37) = Y := ⟨_, rfl⟩
          obtain ⟨gb, hbb⟩ : ∃ q, Y4.heap.size = q := ⟨_, rfl⟩
          have hA2 : Adds Y4 Z := by rw [← hZ]; exact (Only.refl (fun _ => False) Y4).alloc _
          have hblk : Blk Z gb (gmC ab bb hvb mb onb pub n) 37 := by rw [← hZ, ← hbb]; exact Blk.new Y4 _ _
          have hgl : w3.heap.size ≤ gb := by have := HAD.out.size; omega
          try rw [hZ]
          try rw [hbb]
          have hg9 := cellA hHeld hA2
          have HAZ := Lib.hid (HAD.out.thenF hA2)
          have hng := (show NG w ab sb sm rb rg bb tb tm ub fb gb hvb mb onb pub stb n pn 0 S0 Z (fun _ => .slice none 0 0) from ⟨HB.out.adds HAZ.out, HST.out.only HAZ.out id, hblk, Hhvb.out.only hA2 id, Hmb.out.only hA2 id, Honb.out.only hA2 id, Hpub.out.only hA2 id, fun t _ => World.ownsRow_nil _ _ _ _, fun _ _ _ => rfl, fun t t' g _ _ _ h => (by cases h), HA3.out.thenF HAZ.out⟩)
          have hlo := (show (onb ≠ pub ∧ onb ≠ fb ∧ pub ≠ fb) ∧ (w.heap.size ≤ gb ∧ w.heap.size ≤ hvb ∧ w.heap.size ≤ mb ∧ w.heap.size ≤ onb ∧ w.heap.size ≤ pub) from by have z1 := HB.out.mem.fr.lt; have z2 := Lhvb.out; have z3 := Lmb.out; have z4 := Lonb.out; have z5 := Lpub.out; have z6 := HSZ.out; exact ⟨⟨(fun e => HNE.out e.symm), by omega, by omega⟩, by omega, by omega, by omega, by omega, by omega⟩)
          have HNG := Lib.hid hng; have HLZ := Lib.hid hlo
          refine hK.out _ _ hg9 (fun hHeld => ?_)
          clear hK hZ hA2 hbb hg9 hblk hng hlo hgl
          try simp only [Act.put, List.getElem_toArray, List.getElem_cons_succ, List.getElem_cons_zero, List.setIfInBounds_toArray, List.set_cons_zero, List.set_cons_succ]
          refine wpAnyH_take (i := 16) (v := (.pointer (some ⟨gb, 0, none⟩))) rfl (by kernel_rfl) (by kernel_rfl) (by kernel_rfl) (fun _ _ _ h => h) (Or.inl ⟨by rfl, fun W hS => by first | rfl | (go_simp; done)⟩) hHeld ?_
          try simp only [Act.put, List.getElem_toArray, List.getElem_cons_succ, List.getElem_cons_zero, List.setIfInBounds_toArray, List.set_cons_zero, List.set_cons_succ]
          refine wpAnyH_done (by kernel_rfl) ?_ _
          go_wp2_with fail
          go_meet
          exact ⟨gb, hvb, mb, onb, pub, rfl, HNG, HLZ⟩
        · simp only [List.getElem_toArray, List.getElem_cons_succ, List.getElem_cons_zero]
          go_simp
          obtain ⟨Y5, hV2⟩ : ∃ Y, Y2.alloc (.cells (rowOf n (fun _ => .bool false)) 4) = Y := ⟨_, rfl⟩
          obtain ⟨pub, hbb⟩ : ∃ q, Y2.heap.size = q := ⟨_, rfl⟩
          have hA2 : Adds Y2 Y5 := by rw [← hV2]; exact (Only.refl (fun _ => False) Y2).alloc _
          have hblk : Blk Y5 pub (rowOf n (fun _ => .bool false)) 4 := by rw [← hV2, ← hbb]; exact Blk.new Y2 _ _
          have Hpub := Lib.hid hblk
          have Lpub := Lib.hid (show w3.heap.size ≤ pub by have := HAD.out.size; omega)
          replace Hhvb := Lib.hid (Hhvb.out.only hA2 id)
          replace Hmb := Lib.hid (Hmb.out.only hA2 id)
          try rw [hV2]
          try rw [hbb]
          have hg9 := cellA hHeld hA2
          replace HAD := Lib.hid (HAD.out.thenF hA2)
          refine hK.out _ _ hg9 (fun hHeld => ?_)
          clear hK hV2 hA2 hbb hg9 hblk
          try simp only [Act.put, List.getElem_toArray, List.getElem_cons_succ, List.getElem_cons_zero, List.setIfInBounds_toArray, List.set_cons_zero, List.set_cons_succ]
          refine wpAnyH_ready (rs := [10]) (by kernel_rfl) (by simp) (AllReadyH.cons rfl (fun K hK => ?_) AllReadyH.nil)
          simp only [List.getElem_toArray, List.getElem_cons_succ, List.getElem_cons_zero]
          go_simp
          obtain ⟨Y6, hV2⟩ : ∃ Y, Y5.alloc (.cells (rowOf n (fun _ => .bool false)) 4) = Y := ⟨_, rfl⟩
          obtain ⟨onb, hbb⟩ : ∃ q, Y5.heap.size = q := ⟨_, rfl⟩
          have hA2 : Adds Y5 Y6 := by rw [← hV2]; exact (Only.refl (fun _ => False) Y5).alloc _
          have hblk : Blk Y6 onb (rowOf n (fun _ => .bool false)) 4 := by rw [← hV2, ← hbb]; exact Blk.new Y5 _ _
          have Honb := Lib.hid hblk
          have Lonb := Lib.hid (show w3.heap.size ≤ onb by have := HAD.out.size; omega)
          replace Hhvb := Lib.hid (Hhvb.out.only hA2 id)
          replace Hmb := Lib.hid (Hmb.out.only hA2 id)
          have HNE := Lib.hid (show onb ≠ pub by have := Hpub.out.lt; omega)
          replace Hpub := Lib.hid (Hpub.out.only hA2 id)
          try rw [hV2]
          try rw [hbb]
          have hg9 := cellA hHeld hA2
          replace HAD := Lib.hid (HAD.out.thenF hA2)
          refine hK.out _ _ hg9 (fun hHeld => ?_)
          clear hK hV2 hA2 hbb hg9 hblk
          try simp only [Act.put, List.getElem_toArray, List.getElem_cons_succ, List.getElem_cons_zero, List.setIfInBounds_toArray, List.set_cons_zero, List.set_cons_succ]
          refine wpAnyH_take (i := 14) (v := (.agg (gmC ab bb hvb mb onb pub n))) rfl (by kernel_rfl) (by kernel_rfl) (by kernel_rfl) (fun _ _ _ h => h) (Or.inl ⟨by rfl, fun W hS => by first | rfl | (go_simp; done)⟩) hHeld ?_
          try simp only [Act.put, List.getElem_toArray, List.getElem_cons_succ, List.getElem_cons_zero, List.setIfInBounds_toArray, List.set_cons_zero, List.set_cons_succ]
          refine wpAnyH_ready (rs := [15]) (by kernel_rfl) (by simp) (AllReadyH.cons rfl (fun K hK => ?_) AllReadyH.nil)
          simp only [List.getElem_toArray, List.getElem_cons_succ, List.getElem_cons_zero]
          go_simp
          obtain ⟨Z, hZ⟩ : ∃ Y, Y6.alloc (.cells (gmC ab bb hvb mb onb pub n) 37) = Y := ⟨_, rfl⟩
          obtain ⟨gb, hbb⟩ : ∃ q, Y6.heap.size = q := ⟨_, rfl⟩
          have hA2 : Adds Y6 Z := by rw [← hZ]; exact (Only.refl (fun _ => False) Y6).alloc _
          have hblk : Blk Z gb (gmC ab bb hvb mb onb pub n) 37 := by rw [← hZ, ← hbb]; exact Blk.new Y6 _ _
          have hgl : w3.heap.size ≤ gb := by have := HAD.out.size; omega
          try rw [hZ]
          try rw [hbb]
          have hg9 := cellA hHeld hA2
          have HAZ := Lib.hid (HAD.out.thenF hA2)
          have hng := (show NG w ab sb sm rb rg bb tb tm ub fb gb hvb mb onb pub stb n pn 0 S0 Z (fun _ => .slice none 0 0) from ⟨HB.out.adds HAZ.out, HST.out.only HAZ.out id, hblk, Hhvb.out.only hA2 id, Hmb.out.only hA2 id, Honb.out.only hA2 id, Hpub.out.only hA2 id, fun t _ => World.ownsRow_nil _ _ _ _, fun _ _ _ => rfl, fun t t' g _ _ _ h => (by cases h), HA3.out.thenF HAZ.out⟩)
          have hlo := (show (onb ≠ pub ∧ onb ≠ fb ∧ pub ≠ fb) ∧ (w.heap.size ≤ gb ∧ w.heap.size ≤ hvb ∧ w.heap.size ≤ mb ∧ w.heap.size ≤ onb ∧ w.heap.size ≤ pub) from by have z1 := HB.out.mem.fr.lt; have z2 := Lhvb.out; have z3 := Lmb.out; have z4 := Lonb.out; have z5 := Lpub.out; have z6 := HSZ.out; exact ⟨⟨HNE.out, by omega, by omega⟩, by omega, by omega, by omega, by omega, by omega⟩)
          have HNG := Lib.hid hng; have HLZ := Lib.hid hlo
          refine hK.out _ _ hg9 (fun hHeld => ?_)
          clear hK hZ hA2 hbb hg9 hblk hng hlo hgl
          try simp only [Act.put, List.getElem_toArray, List.getElem_cons_succ, List.getElem_cons_zero, List.setIfInBounds_toArray, List.set_cons_zero, List.set_cons_succ]
          refine wpAnyH_take (i := 16) (v := (.pointer (some ⟨gb, 0, none⟩))) rfl (by kernel_rfl) (by kernel_rfl) (by kernel_rfl) (fun _ _ _ h => h) (Or.inl ⟨by rfl, fun W hS => by first | rfl | (go_simp; done)⟩) hHeld ?_
          try simp only [Act.put, List.getElem_toArray, List.getElem_cons_succ, List.getElem_cons_zero, List.setIfInBounds_toArray, List.set_cons_zero, List.set_cons_succ]
          refine wpAnyH_done (by kernel_rfl) ?_ _
          go_wp2_with fail
          go_meet
          exact ⟨gb, hvb, mb, onb, pub, rfl, HNG, HLZ⟩
      · simp only [List.getElem_toArray, List.getElem_cons_succ, List.getElem_cons_zero]
        go_simp
        obtain ⟨Y7, hV2⟩ : ∃ Y, Y1.alloc (.cells (rowOf n (fun _ => .bool false)) 4) = Y := ⟨_, rfl⟩
        obtain ⟨onb, hbb⟩ : ∃ q, Y1.heap.size = q := ⟨_, rfl⟩
        have hA2 : Adds Y1 Y7 := by rw [← hV2]; exact (Only.refl (fun _ => False) Y1).alloc _
        have hblk : Blk Y7 onb (rowOf n (fun _ => .bool false)) 4 := by rw [← hV2, ← hbb]; exact Blk.new Y1 _ _
        have Honb := Lib.hid hblk
        have Lonb := Lib.hid (show w3.heap.size ≤ onb by have := HAD.out.size; omega)
        replace Hhvb := Lib.hid (Hhvb.out.only hA2 id)
        try rw [hV2]
        try rw [hbb]
        have hg9 := cellA hHeld hA2
        replace HAD := Lib.hid (HAD.out.thenF hA2)
        refine hK.out _ _ hg9 (fun hHeld => ?_)
        clear hK hV2 hA2 hbb hg9 hblk
        try simp only [Act.put, List.getElem_toArray, List.getElem_cons_succ, List.getElem_cons_zero, List.setIfInBounds_toArray, List.set_cons_zero, List.set_cons_succ]
        refine wpAnyH_ready (rs := [7, 13]) (by kernel_rfl) (by simp) (AllReadyH.cons rfl (fun K hK => ?_) (AllReadyH.cons rfl (fun K hK => ?_) AllReadyH.nil))
        · simp only [List.getElem_toArray, List.getElem_cons_succ, List.getElem_cons_zero]
          go_simp
          obtain ⟨Y8, hV2⟩ : ∃ Y, Y7.alloc (.cells (rowOf (n * 3) (fun _ => .pointer none)) 47) = Y := ⟨_, rfl⟩
          obtain ⟨mb, hbb⟩ : ∃ q, Y7.heap.size = q := ⟨_, rfl⟩
          have hA2 : Adds Y7 Y8 := by rw [← hV2]; exact (Only.refl (fun _ => False) Y7).alloc _
          have hblk : Blk Y8 mb (rowOf (n * 3) (fun _ => .pointer none)) 47 := by rw [← hV2, ← hbb]; exact Blk.new Y7 _ _
          have Hmb := Lib.hid hblk
          have Lmb := Lib.hid (show w3.heap.size ≤ mb by have := HAD.out.size; omega)
          replace Hhvb := Lib.hid (Hhvb.out.only hA2 id)
          replace Honb := Lib.hid (Honb.out.only hA2 id)
          try rw [hV2]
          try rw [hbb]
          have hg9 := cellA hHeld hA2
          replace HAD := Lib.hid (HAD.out.thenF hA2)
          refine hK.out _ _ hg9 (fun hHeld => ?_)
          clear hK hV2 hA2 hbb hg9 hblk
          try simp only [Act.put, List.getElem_toArray, List.getElem_cons_succ, List.getElem_cons_zero, List.setIfInBounds_toArray, List.set_cons_zero, List.set_cons_succ]
          refine wpAnyH_ready (rs := [13]) (by kernel_rfl) (by simp) (AllReadyH.cons rfl (fun K hK => ?_) AllReadyH.nil)
          simp only [List.getElem_toArray, List.getElem_cons_succ, List.getElem_cons_zero]
          go_simp
          obtain ⟨Y9, hV2⟩ : ∃ Y, Y8.alloc (.cells (rowOf n (fun _ => .bool false)) 4) = Y := ⟨_, rfl⟩
          obtain ⟨pub, hbb⟩ : ∃ q, Y8.heap.size = q := ⟨_, rfl⟩
          have hA2 : Adds Y8 Y9 := by rw [← hV2]; exact (Only.refl (fun _ => False) Y8).alloc _
          have hblk : Blk Y9 pub (rowOf n (fun _ => .bool false)) 4 := by rw [← hV2, ← hbb]; exact Blk.new Y8 _ _
          have Hpub := Lib.hid hblk
          have Lpub := Lib.hid (show w3.heap.size ≤ pub by have := HAD.out.size; omega)
          replace Hhvb := Lib.hid (Hhvb.out.only hA2 id)
          have HNE := Lib.hid (show pub ≠ onb by have := Honb.out.lt; omega)
          replace Honb := Lib.hid (Honb.out.only hA2 id)
          replace Hmb := Lib.hid (Hmb.out.only hA2 id)
          try rw [hV2]
          try rw [hbb]
          have hg9 := cellA hHeld hA2
          replace HAD := Lib.hid (HAD.out.thenF hA2)
          refine hK.out _ _ hg9 (fun hHeld => ?_)
          clear hK hV2 hA2 hbb hg9 hblk
          try simp only [Act.put, List.getElem_toArray, List.getElem_cons_succ, List.getElem_cons_zero, List.setIfInBounds_toArray, List.set_cons_zero, List.set_cons_succ]
          refine wpAnyH_take (i := 14) (v := (.agg (gmC ab bb hvb mb onb pub n))) rfl (by kernel_rfl) (by kernel_rfl) (by kernel_rfl) (fun _ _ _ h => h) (Or.inl ⟨by rfl, fun W hS => by first | rfl | (go_simp; done)⟩) hHeld ?_
          try simp only [Act.put, List.getElem_toArray, List.getElem_cons_succ, List.getElem_cons_zero, List.setIfInBounds_toArray, List.set_cons_zero, List.set_cons_succ]
          refine wpAnyH_ready (rs := [15]) (by kernel_rfl) (by simp) (AllReadyH.cons rfl (fun K hK => ?_) AllReadyH.nil)
          simp only [List.getElem_toArray, List.getElem_cons_succ, List.getElem_cons_zero]
          go_simp
          obtain ⟨Z, hZ⟩ : ∃ Y, Y9.alloc (.cells (gmC ab bb hvb mb onb pub n) 37) = Y := ⟨_, rfl⟩
          obtain ⟨gb, hbb⟩ : ∃ q, Y9.heap.size = q := ⟨_, rfl⟩
          have hA2 : Adds Y9 Z := by rw [← hZ]; exact (Only.refl (fun _ => False) Y9).alloc _
          have hblk : Blk Z gb (gmC ab bb hvb mb onb pub n) 37 := by rw [← hZ, ← hbb]; exact Blk.new Y9 _ _
          have hgl : w3.heap.size ≤ gb := by have := HAD.out.size; omega
          try rw [hZ]
          try rw [hbb]
          have hg9 := cellA hHeld hA2
          have HAZ := Lib.hid (HAD.out.thenF hA2)
          have hng := (show NG w ab sb sm rb rg bb tb tm ub fb gb hvb mb onb pub stb n pn 0 S0 Z (fun _ => .slice none 0 0) from ⟨HB.out.adds HAZ.out, HST.out.only HAZ.out id, hblk, Hhvb.out.only hA2 id, Hmb.out.only hA2 id, Honb.out.only hA2 id, Hpub.out.only hA2 id, fun t _ => World.ownsRow_nil _ _ _ _, fun _ _ _ => rfl, fun t t' g _ _ _ h => (by cases h), HA3.out.thenF HAZ.out⟩)
          have hlo := (show (onb ≠ pub ∧ onb ≠ fb ∧ pub ≠ fb) ∧ (w.heap.size ≤ gb ∧ w.heap.size ≤ hvb ∧ w.heap.size ≤ mb ∧ w.heap.size ≤ onb ∧ w.heap.size ≤ pub) from by have z1 := HB.out.mem.fr.lt; have z2 := Lhvb.out; have z3 := Lmb.out; have z4 := Lonb.out; have z5 := Lpub.out; have z6 := HSZ.out; exact ⟨⟨(fun e => HNE.out e.symm), by omega, by omega⟩, by omega, by omega, by omega, by omega, by omega⟩)
          have HNG := Lib.hid hng; have HLZ := Lib.hid hlo
          refine hK.out _ _ hg9 (fun hHeld => ?_)
          clear hK hZ hA2 hbb hg9 hblk hng hlo hgl
          try simp only [Act.put, List.getElem_toArray, List.getElem_cons_succ, List.getElem_cons_zero, List.setIfInBounds_toArray, List.set_cons_zero, List.set_cons_succ]
          refine wpAnyH_take (i := 16) (v := (.pointer (some ⟨gb, 0, none⟩))) rfl (by kernel_rfl) (by kernel_rfl) (by kernel_rfl) (fun _ _ _ h => h) (Or.inl ⟨by rfl, fun W hS => by first | rfl | (go_simp; done)⟩) hHeld ?_
          try simp only [Act.put, List.getElem_toArray, List.getElem_cons_succ, List.getElem_cons_zero, List.setIfInBounds_toArray, List.set_cons_zero, List.set_cons_succ]
          refine wpAnyH_done (by kernel_rfl) ?_ _
          go_wp2_with fail
          go_meet
          exact ⟨gb, hvb, mb, onb, pub, rfl, HNG, HLZ⟩
        · simp only [List.getElem_toArray, List.getElem_cons_succ, List.getElem_cons_zero]
          go_simp
          obtain ⟨Y10, hV2⟩ : ∃ Y, Y7.alloc (.cells (rowOf n (fun _ => .bool false)) 4) = Y := ⟨_, rfl⟩
          obtain ⟨pub, hbb⟩ : ∃ q, Y7.heap.size = q := ⟨_, rfl⟩
          have hA2 : Adds Y7 Y10 := by rw [← hV2]; exact (Only.refl (fun _ => False) Y7).alloc _
          have hblk : Blk Y10 pub (rowOf n (fun _ => .bool false)) 4 := by rw [← hV2, ← hbb]; exact Blk.new Y7 _ _
          have Hpub := Lib.hid hblk
          have Lpub := Lib.hid (show w3.heap.size ≤ pub by have := HAD.out.size; omega)
          replace Hhvb := Lib.hid (Hhvb.out.only hA2 id)
          have HNE := Lib.hid (show pub ≠ onb by have := Honb.out.lt; omega)
          replace Honb := Lib.hid (Honb.out.only hA2 id)
          try rw [hV2]
          try rw [hbb]
          have hg9 := cellA hHeld hA2
          replace HAD := Lib.hid (HAD.out.thenF hA2)
          refine hK.out _ _ hg9 (fun hHeld => ?_)
          clear hK hV2 hA2 hbb hg9 hblk
          try simp only [Act.put, List.getElem_toArray, List.getElem_cons_succ, List.getElem_cons_zero, List.setIfInBounds_toArray, List.set_cons_zero, List.set_cons_succ]
          refine wpAnyH_ready (rs := [7]) (by kernel_rfl) (by simp) (AllReadyH.cons rfl (fun K hK => ?_) AllReadyH.nil)
          simp only [List.getElem_toArray, List.getElem_cons_succ, List.getElem_cons_zero]
          go_simp
          obtain ⟨Y11, hV2⟩ : ∃ Y, Y10.alloc (.cells (rowOf (n * 3) (fun _ => .pointer none)) 47) = Y := ⟨_, rfl⟩
          obtain ⟨mb, hbb⟩ : ∃ q, Y10.heap.size = q := ⟨_, rfl⟩
          have hA2 : Adds Y10 Y11 := by rw [← hV2]; exact (Only.refl (fun _ => False) Y10).alloc _
          have hblk : Blk Y11 mb (rowOf (n * 3) (fun _ => .pointer none)) 47 := by rw [← hV2, ← hbb]; exact Blk.new Y10 _ _
          have Hmb := Lib.hid hblk
          have Lmb := Lib.hid (show w3.heap.size ≤ mb by have := HAD.out.size; omega)
          replace Hhvb := Lib.hid (Hhvb.out.only hA2 id)
          replace Honb := Lib.hid (Honb.out.only hA2 id)
          replace Hpub := Lib.hid (Hpub.out.only hA2 id)
          try rw [hV2]
          try rw [hbb]
          have hg9 := cellA hHeld hA2
          replace HAD := Lib.hid (HAD.out.thenF hA2)
          refine hK.out _ _ hg9 (fun hHeld => ?_)
          clear hK hV2 hA2 hbb hg9 hblk
          try simp only [Act.put, List.getElem_toArray, List.getElem_cons_succ, List.getElem_cons_zero, List.setIfInBounds_toArray, List.set_cons_zero, List.set_cons_succ]
          refine wpAnyH_take (i := 14) (v := (.agg (gmC ab bb hvb mb onb pub n))) rfl (by kernel_rfl) (by kernel_rfl) (by kernel_rfl) (fun _ _ _ h => h) (Or.inl ⟨by rfl, fun W hS => by first | rfl | (go_simp; done)⟩) hHeld ?_
          try simp only [Act.put, List.getElem_toArray, List.getElem_cons_succ, List.getElem_cons_zero, List.setIfInBounds_toArray, List.set_cons_zero, List.set_cons_succ]
          refine wpAnyH_ready (rs := [15]) (by kernel_rfl) (by simp) (AllReadyH.cons rfl (fun K hK => ?_) AllReadyH.nil)
          simp only [List.getElem_toArray, List.getElem_cons_succ, List.getElem_cons_zero]
          go_simp
          obtain ⟨Z, hZ⟩ : ∃ Y, Y11.alloc (.cells (gmC ab bb hvb mb onb pub n) 37) = Y := ⟨_, rfl⟩
          obtain ⟨gb, hbb⟩ : ∃ q, Y11.heap.size = q := ⟨_, rfl⟩
          have hA2 : Adds Y11 Z := by rw [← hZ]; exact (Only.refl (fun _ => False) Y11).alloc _
          have hblk : Blk Z gb (gmC ab bb hvb mb onb pub n) 37 := by rw [← hZ, ← hbb]; exact Blk.new Y11 _ _
          have hgl : w3.heap.size ≤ gb := by have := HAD.out.size; omega
          try rw [hZ]
          try rw [hbb]
          have hg9 := cellA hHeld hA2
          have HAZ := Lib.hid (HAD.out.thenF hA2)
          have hng := (show NG w ab sb sm rb rg bb tb tm ub fb gb hvb mb onb pub stb n pn 0 S0 Z (fun _ => .slice none 0 0) from ⟨HB.out.adds HAZ.out, HST.out.only HAZ.out id, hblk, Hhvb.out.only hA2 id, Hmb.out.only hA2 id, Honb.out.only hA2 id, Hpub.out.only hA2 id, fun t _ => World.ownsRow_nil _ _ _ _, fun _ _ _ => rfl, fun t t' g _ _ _ h => (by cases h), HA3.out.thenF HAZ.out⟩)
          have hlo := (show (onb ≠ pub ∧ onb ≠ fb ∧ pub ≠ fb) ∧ (w.heap.size ≤ gb ∧ w.heap.size ≤ hvb ∧ w.heap.size ≤ mb ∧ w.heap.size ≤ onb ∧ w.heap.size ≤ pub) from by have z1 := HB.out.mem.fr.lt; have z2 := Lhvb.out; have z3 := Lmb.out; have z4 := Lonb.out; have z5 := Lpub.out; have z6 := HSZ.out; exact ⟨⟨(fun e => HNE.out e.symm), by omega, by omega⟩, by omega, by omega, by omega, by omega, by omega⟩)
          have HNG := Lib.hid hng; have HLZ := Lib.hid hlo
          refine hK.out _ _ hg9 (fun hHeld => ?_)
          clear hK hZ hA2 hbb hg9 hblk hng hlo hgl
          try simp only [Act.put, List.getElem_toArray, List.getElem_cons_succ, List.getElem_cons_zero, List.setIfInBounds_toArray, List.set_cons_zero, List.set_cons_succ]
          refine wpAnyH_take (i := 16) (v := (.pointer (some ⟨gb, 0, none⟩))) rfl (by kernel_rfl) (by kernel_rfl) (by kernel_rfl) (fun _ _ _ h => h) (Or.inl ⟨by rfl, fun W hS => by first | rfl | (go_simp; done)⟩) hHeld ?_
          try simp only [Act.put, List.getElem_toArray, List.getElem_cons_succ, List.getElem_cons_zero, List.setIfInBounds_toArray, List.set_cons_zero, List.set_cons_succ]
          refine wpAnyH_done (by kernel_rfl) ?_ _
          go_wp2_with fail
          go_meet
          exact ⟨gb, hvb, mb, onb, pub, rfl, HNG, HLZ⟩
      · simp only [List.getElem_toArray, List.getElem_cons_succ, List.getElem_cons_zero]
        go_simp
        obtain ⟨Y12, hV2⟩ : ∃ Y, Y1.alloc (.cells (rowOf n (fun _ => .bool false)) 4) = Y := ⟨_, rfl⟩
        obtain ⟨pub, hbb⟩ : ∃ q, Y1.heap.size = q := ⟨_, rfl⟩
        have hA2 : Adds Y1 Y12 := by rw [← hV2]; exact (Only.refl (fun _ => False) Y1).alloc _
        have hblk : Blk Y12 pub (rowOf n (fun _ => .bool false)) 4 := by rw [← hV2, ← hbb]; exact Blk.new Y1 _ _
        have Hpub := Lib.hid hblk
        have Lpub := Lib.hid (show w3.heap.size ≤ pub by have := HAD.out.size; omega)
        replace Hhvb := Lib.hid (Hhvb.out.only hA2 id)
        try rw [hV2]
        try rw [hbb]
        have hg9 := cellA hHeld hA2
        replace HAD := Lib.hid (HAD.out.thenF hA2)
        refine hK.out _ _ hg9 (fun hHeld => ?_)
        clear hK hV2 hA2 hbb hg9 hblk
        try simp only [Act.put, List.getElem_toArray, List.getElem_cons_succ, List.getElem_cons_zero, List.setIfInBounds_toArray, List.set_cons_zero, List.set_cons_succ]
        refine wpAnyH_ready (rs := [7, 10]) (by kernel_rfl) (by simp) (AllReadyH.cons rfl (fun K hK => ?_) (AllReadyH.cons rfl (fun K hK => ?_) AllReadyH.nil))
        · simp only [List.getElem_toArray, List.getElem_cons_succ, List.getElem_cons_zero]
          go_simp
          obtain ⟨Y13, hV2⟩ : ∃ Y, Y12.alloc (.cells (rowOf (n * 3) (fun _ => .pointer none)) 47) = Y := ⟨_, rfl⟩
          obtain ⟨mb, hbb⟩ : ∃ q, Y12.heap.size = q := ⟨_, rfl⟩
          have hA2 : Adds Y12 Y13 := by rw [← hV2]; exact (Only.refl (fun _ => False) Y12).alloc _
          have hblk : Blk Y13 mb (rowOf (n * 3) (fun _ => .pointer none)) 47 := by rw [← hV2, ← hbb]; exact Blk.new Y12 _ _
          have Hmb := Lib.hid hblk
          have Lmb := Lib.hid (show w3.heap.size ≤ mb by have := HAD.out.size; omega)
          replace Hhvb := Lib.hid (Hhvb.out.only hA2 id)
          replace Hpub := Lib.hid (Hpub.out.only hA2 id)
          try rw [hV2]
          try rw [hbb]
          have hg9 := cellA hHeld hA2
          replace HAD := Lib.hid (HAD.out.thenF hA2)
          refine hK.out _ _ hg9 (fun hHeld => ?_)
          clear hK hV2 hA2 hbb hg9 hblk
          try simp only [Act.put, List.getElem_toArray, List.getElem_cons_succ, List.getElem_cons_zero, List.setIfInBounds_toArray, List.set_cons_zero, List.set_cons_succ]
          refine wpAnyH_ready (rs := [10]) (by kernel_rfl) (by simp) (AllReadyH.cons rfl (fun K hK => ?_) AllReadyH.nil)
          simp only [List.getElem_toArray, List.getElem_cons_succ, List.getElem_cons_zero]
          go_simp
          obtain ⟨Y14, hV2⟩ : ∃ Y, Y13.alloc (.cells (rowOf n (fun _ => .bool false)) 4) = Y := ⟨_, rfl⟩
          obtain ⟨onb, hbb⟩ : ∃ q, Y13.heap.size = q := ⟨_, rfl⟩
          have hA2 : Adds Y13 Y14 := by rw [← hV2]; exact (Only.refl (fun _ => False) Y13).alloc _
          have hblk : Blk Y14 onb (rowOf n (fun _ => .bool false)) 4 := by rw [← hV2, ← hbb]; exact Blk.new Y13 _ _
          have Honb := Lib.hid hblk
          have Lonb := Lib.hid (show w3.heap.size ≤ onb by have := HAD.out.size; omega)
          replace Hhvb := Lib.hid (Hhvb.out.only hA2 id)
          have HNE := Lib.hid (show onb ≠ pub by have := Hpub.out.lt; omega)
          replace Hpub := Lib.hid (Hpub.out.only hA2 id)
          replace Hmb := Lib.hid (Hmb.out.only hA2 id)
          try rw [hV2]
          try rw [hbb]
          have hg9 := cellA hHeld hA2
          replace HAD := Lib.hid (HAD.out.thenF hA2)
          refine hK.out _ _ hg9 (fun hHeld => ?_)
          clear hK hV2 hA2 hbb hg9 hblk
          try simp only [Act.put, List.getElem_toArray, List.getElem_cons_succ, List.getElem_cons_zero, List.setIfInBounds_toArray, List.set_cons_zero, List.set_cons_succ]
          refine wpAnyH_take (i := 14) (v := (.agg (gmC ab bb hvb mb onb pub n))) rfl (by kernel_rfl) (by kernel_rfl) (by kernel_rfl) (fun _ _ _ h => h) (Or.inl ⟨by rfl, fun W hS => by first | rfl | (go_simp; done)⟩) hHeld ?_
          try simp only [Act.put, List.getElem_toArray, List.getElem_cons_succ, List.getElem_cons_zero, List.setIfInBounds_toArray, List.set_cons_zero, List.set_cons_succ]
          refine wpAnyH_ready (rs := [15]) (by kernel_rfl) (by simp) (AllReadyH.cons rfl (fun K hK => ?_) AllReadyH.nil)
          simp only [List.getElem_toArray, List.getElem_cons_succ, List.getElem_cons_zero]
          go_simp
          obtain ⟨Z, hZ⟩ : ∃ Y, Y14.alloc (.cells (gmC ab bb hvb mb onb pub n) 37) = Y := ⟨_, rfl⟩
          obtain ⟨gb, hbb⟩ : ∃ q, Y14.heap.size = q := ⟨_, rfl⟩
          have hA2 : Adds Y14 Z := by rw [← hZ]; exact (Only.refl (fun _ => False) Y14).alloc _
          have hblk : Blk Z gb (gmC ab bb hvb mb onb pub n) 37 := by rw [← hZ, ← hbb]; exact Blk.new Y14 _ _
          have hgl : w3.heap.size ≤ gb := by have := HAD.out.size; omega
          try rw [hZ]
          try rw [hbb]
          have hg9 := cellA hHeld hA2
          have HAZ := Lib.hid (HAD.out.thenF hA2)
          have hng := (show NG w ab sb sm rb rg bb tb tm ub fb gb hvb mb onb pub stb n pn 0 S0 Z (fun _ => .slice none 0 0) from ⟨HB.out.adds HAZ.out, HST.out.only HAZ.out id, hblk, Hhvb.out.only hA2 id, Hmb.out.only hA2 id, Honb.out.only hA2 id, Hpub.out.only hA2 id, fun t _ => World.ownsRow_nil _ _ _ _, fun _ _ _ => rfl, fun t t' g _ _ _ h => (by cases h), HA3.out.thenF HAZ.out⟩)
          have hlo := (show (onb ≠ pub ∧ onb ≠ fb ∧ pub ≠ fb) ∧ (w.heap.size ≤ gb ∧ w.heap.size ≤ hvb ∧ w.heap.size ≤ mb ∧ w.heap.size ≤ onb ∧ w.heap.size ≤ pub) from by have z1 := HB.out.mem.fr.lt; have z2 := Lhvb.out; have z3 := Lmb.out; have z4 := Lonb.out; have z5 := Lpub.out; have z6 := HSZ.out; exact ⟨⟨HNE.out, by omega, by omega⟩, by omega, by omega, by omega, by omega, by omega⟩)
          have HNG := Lib.hid hng; have HLZ := Lib.hid hlo
          refine hK.out _ _ hg9 (fun hHeld => ?_)
          clear hK hZ hA2 hbb hg9 hblk hng hlo hgl
          try simp only [Act.put, List.getElem_toArray, List.getElem_cons_succ, List.getElem_cons_zero, List.setIfInBounds_toArray, List.set_cons_zero, List.set_cons_succ]
          refine wpAnyH_take (i := 16) (v := (.pointer (some ⟨gb, 0, none⟩))) rfl (by kernel_rfl) (by kernel_rfl) (by kernel_rfl) (fun _ _ _ h => h) (Or.inl ⟨by rfl, fun W hS => by first | rfl | (go_simp; done)⟩) hHeld ?_
          try simp only [Act.put, List.getElem_toArray, List.getElem_cons_succ, List.getElem_cons_zero, List.setIfInBounds_toArray, List.set_cons_zero, List.set_cons_succ]
          refine wpAnyH_done (by kernel_rfl) ?_ _
          go_wp2_with fail
          go_meet
          exact ⟨gb, hvb, mb, onb, pub, rfl, HNG, HLZ⟩
        · simp only [List.getElem_toArray, List.getElem_cons_succ, List.getElem_cons_zero]
          go_simp
          obtain ⟨Y15, hV2⟩ : ∃ Y, Y12.alloc (.cells (rowOf n (fun _ => .bool false)) 4) = Y := ⟨_, rfl⟩
          obtain ⟨onb, hbb⟩ : ∃ q, Y12.heap.size = q := ⟨_, rfl⟩
          have hA2 : Adds Y12 Y15 := by rw [← hV2]; exact (Only.refl (fun _ => False) Y12).alloc _
          have hblk : Blk Y15 onb (rowOf n (fun _ => .bool false)) 4 := by rw [← hV2, ← hbb]; exact Blk.new Y12 _ _
          have Honb := Lib.hid hblk
          have Lonb := Lib.hid (show w3.heap.size ≤ onb by have := HAD.out.size; omega)
          replace Hhvb := Lib.hid (Hhvb.out.only hA2 id)
          have HNE := Lib.hid (show onb ≠ pub by have := Hpub.out.lt; omega)
          replace Hpub := Lib.hid (Hpub.out.only hA2 id)
          try rw [hV2]
          try rw [hbb]
          have hg9 := cellA hHeld hA2
          replace HAD := Lib.hid (HAD.out.thenF hA2)
          refine hK.out _ _ hg9 (fun hHeld => ?_)
          clear hK hV2 hA2 hbb hg9 hblk
          try simp only [Act.put, List.getElem_toArray, List.getElem_cons_succ, List.getElem_cons_zero, List.setIfInBounds_toArray, List.set_cons_zero, List.set_cons_succ]
          refine wpAnyH_ready (rs := [7]) (by kernel_rfl) (by simp) (AllReadyH.cons rfl (fun K hK => ?_) AllReadyH.nil)
          simp only [List.getElem_toArray, List.getElem_cons_succ, List.getElem_cons_zero]
          go_simp
          obtain ⟨Y16, hV2⟩ : ∃ Y, Y15.alloc (.cells (rowOf (n * 3) (fun _ => .pointer none)) 47) = Y := ⟨_, rfl⟩
          obtain ⟨mb, hbb⟩ : ∃ q, Y15.heap.size = q := ⟨_, rfl⟩
          have hA2 : Adds Y15 Y16 := by rw [← hV2]; exact (Only.refl (fun _ => False) Y15).alloc _
          have hblk : Blk Y16 mb (rowOf (n * 3) (fun _ => .pointer none)) 47 := by rw [← hV2, ← hbb]; exact Blk.new Y15 _ _
          have Hmb := Lib.hid hblk
          have Lmb := Lib.hid (show w3.heap.size ≤ mb by have := HAD.out.size; omega)
          replace Hhvb := Lib.hid (Hhvb.out.only hA2 id)
          replace Hpub := Lib.hid (Hpub.out.only hA2 id)
          replace Honb := Lib.hid (Honb.out.only hA2 id)
          try rw [hV2]
          try rw [hbb]
          have hg9 := cellA hHeld hA2
          replace HAD := Lib.hid (HAD.out.thenF hA2)
          refine hK.out _ _ hg9 (fun hHeld => ?_)
          clear hK hV2 hA2 hbb hg9 hblk
          try simp only [Act.put, List.getElem_toArray, List.getElem_cons_succ, List.getElem_cons_zero, List.setIfInBounds_toArray, List.set_cons_zero, List.set_cons_succ]
          refine wpAnyH_take (i := 14) (v := (.agg (gmC ab bb hvb mb onb pub n))) rfl (by kernel_rfl) (by kernel_rfl) (by kernel_rfl) (fun _ _ _ h => h) (Or.inl ⟨by rfl, fun W hS => by first | rfl | (go_simp; done)⟩) hHeld ?_
          try simp only [Act.put, List.getElem_toArray, List.getElem_cons_succ, List.getElem_cons_zero, List.setIfInBounds_toArray, List.set_cons_zero, List.set_cons_succ]
          refine wpAnyH_ready (rs := [15]) (by kernel_rfl) (by simp) (AllReadyH.cons rfl (fun K hK => ?_) AllReadyH.nil)
          simp only [List.getElem_toArray, List.getElem_cons_succ, List.getElem_cons_zero]
          go_simp
          obtain ⟨Z, hZ⟩ : ∃ Y, Y16.alloc (.cells (gmC ab bb hvb mb onb pub n) 37) = Y := ⟨_, rfl⟩
          obtain ⟨gb, hbb⟩ : ∃ q, Y16.heap.size = q := ⟨_, rfl⟩
          have hA2 : Adds Y16 Z := by rw [← hZ]; exact (Only.refl (fun _ => False) Y16).alloc _
          have hblk : Blk Z gb (gmC ab bb hvb mb onb pub n) 37 := by rw [← hZ, ← hbb]; exact Blk.new Y16 _ _
          have hgl : w3.heap.size ≤ gb := by have := HAD.out.size; omega
          try rw [hZ]
          try rw [hbb]
          have hg9 := cellA hHeld hA2
          have HAZ := Lib.hid (HAD.out.thenF hA2)
          have hng := (show NG w ab sb sm rb rg bb tb tm ub fb gb hvb mb onb pub stb n pn 0 S0 Z (fun _ => .slice none 0 0) from ⟨HB.out.adds HAZ.out, HST.out.only HAZ.out id, hblk, Hhvb.out.only hA2 id, Hmb.out.only hA2 id, Honb.out.only hA2 id, Hpub.out.only hA2 id, fun t _ => World.ownsRow_nil _ _ _ _, fun _ _ _ => rfl, fun t t' g _ _ _ h => (by cases h), HA3.out.thenF HAZ.out⟩)
          have hlo := (show (onb ≠ pub ∧ onb ≠ fb ∧ pub ≠ fb) ∧ (w.heap.size ≤ gb ∧ w.heap.size ≤ hvb ∧ w.heap.size ≤ mb ∧ w.heap.size ≤ onb ∧ w.heap.size ≤ pub) from by have z1 := HB.out.mem.fr.lt; have z2 := Lhvb.out; have z3 := Lmb.out; have z4 := Lonb.out; have z5 := Lpub.out; have z6 := HSZ.out; exact ⟨⟨HNE.out, by omega, by omega⟩, by omega, by omega, by omega, by omega, by omega⟩)
          have HNG := Lib.hid hng; have HLZ := Lib.hid hlo
          refine hK.out _ _ hg9 (fun hHeld => ?_)
          clear hK hZ hA2 hbb hg9 hblk hng hlo hgl
          try simp only [Act.put, List.getElem_toArray, List.getElem_cons_succ, List.getElem_cons_zero, List.setIfInBounds_toArray, List.set_cons_zero, List.set_cons_succ]
          refine wpAnyH_take (i := 16) (v := (.pointer (some ⟨gb, 0, none⟩))) rfl (by kernel_rfl) (by kernel_rfl) (by kernel_rfl) (fun _ _ _ h => h) (Or.inl ⟨by rfl, fun W hS => by first | rfl | (go_simp; done)⟩) hHeld ?_
          try simp only [Act.put, List.getElem_toArray, List.getElem_cons_succ, List.getElem_cons_zero, List.setIfInBounds_toArray, List.set_cons_zero, List.set_cons_succ]
          refine wpAnyH_done (by kernel_rfl) ?_ _
          go_wp2_with fail
          go_meet
          exact ⟨gb, hvb, mb, onb, pub, rfl, HNG, HLZ⟩
    · simp only [List.getElem_toArray, List.getElem_cons_succ, List.getElem_cons_zero]
      go_simp
      obtain ⟨Y17, hV2⟩ : ∃ Y, D.alloc (.cells (rowOf (n * 3) (fun _ => .pointer none)) 47) = Y := ⟨_, rfl⟩
      obtain ⟨mb, hbb⟩ : ∃ q, D.heap.size = q := ⟨_, rfl⟩
      have hA2 : Adds D Y17 := by rw [← hV2]; exact (Only.refl (fun _ => False) D).alloc _
      have hblk : Blk Y17 mb (rowOf (n * 3) (fun _ => .pointer none)) 47 := by rw [← hV2, ← hbb]; exact Blk.new D _ _
      have Hmb := Lib.hid hblk
      have Lmb := Lib.hid (show w3.heap.size ≤ mb by have := HAD.out.size; omega)
      try rw [hV2]
      try rw [hbb]
      have hg9 := cellA hHeld hA2
      replace HAD := Lib.hid (HAD.out.thenF hA2)
      refine hK.out _ _ hg9 (fun hHeld => ?_)
      clear hK hV2 hA2 hbb hg9 hblk
      try simp only [Act.put, List.getElem_toArray, List.getElem_cons_succ, List.getElem_cons_zero, List.setIfInBounds_toArray, List.set_cons_zero, List.set_cons_succ]
      refine wpAnyH_ready (rs := [4, 10, 13]) (by kernel_rfl) (by simp) (AllReadyH.cons rfl (fun K hK => ?_) (AllReadyH.cons rfl (fun K hK => ?_) (AllReadyH.cons rfl (fun K hK => ?_) AllReadyH.nil)))
      · simp only [List.getElem_toArray, List.getElem_cons_succ, List.getElem_cons_zero]
        go_simp
        obtain ⟨Y18, hV2⟩ : ∃ Y, Y17.alloc (.cells (rowOf n (fun _ => .slice none 0 0)) 54) = Y := ⟨_, rfl⟩
        obtain ⟨hvb, hbb⟩ : ∃ q, Y17.heap.size = q := ⟨_, rfl⟩
        have hA2 : Adds Y17 Y18 := by rw [← hV2]; exact (Only.refl (fun _ => False) Y17).alloc _
        have hblk : Blk Y18 hvb (rowOf n (fun _ => .slice none 0 0)) 54 := by rw [← hV2, ← hbb]; exact Blk.new Y17 _ _
        have Hhvb := Lib.hid hblk
        have Lhvb := Lib.hid (show w3.heap.size ≤ hvb by have := HAD.out.size; omega)
        replace Hmb := Lib.hid (Hmb.out.only hA2 id)
        try rw [hV2]
        try rw [hbb]
        have hg9 := cellA hHeld hA2
        replace HAD := Lib.hid (HAD.out.thenF hA2)
        refine hK.out _ _ hg9 (fun hHeld => ?_)
        clear hK hV2 hA2 hbb hg9 hblk
        try simp only [Act.put, List.getElem_toArray, List.getElem_cons_succ, List.getElem_cons_zero, List.setIfInBounds_toArray, List.set_cons_zero, List.set_cons_succ]
        refine wpAnyH_ready (rs := [10, 13]) (by kernel_rfl) (by simp) (AllReadyH.cons rfl (fun K hK => ?_) (AllReadyH.cons rfl (fun K hK => ?_) AllReadyH.nil))
        · simp only [List.getElem_toArray, List.getElem_cons_succ, List.getElem_cons_zero]
          go_simp
          obtain ⟨Y19, hV2⟩ : ∃ Y, Y18.alloc (.cells (rowOf n (fun _ => .bool false)) 4) = Y := ⟨_, rfl⟩
          obtain ⟨onb, hbb⟩ : ∃ q, Y18.heap.size = q := ⟨_, rfl⟩
          have hA2 : Adds Y18 Y19 := by rw [← hV2]; exact (Only.refl (fun _ => False) Y18).alloc _
          have hblk : Blk Y19 onb (rowOf n (fun _ => .bool false)) 4 := by rw [← hV2, ← hbb]; exact Blk.new Y18 _ _
          have Honb := Lib.hid hblk
          have Lonb := Lib.hid (show w3.heap.size ≤ onb by have := HAD.out.size; omega)
          replace Hmb := Lib.hid (Hmb.out.only hA2 id)
          replace Hhvb := Lib.hid (Hhvb.out.only hA2 id)
          try rw [hV2]
          try rw [hbb]
          have hg9 := cellA hHeld hA2
          replace HAD := Lib.hid (HAD.out.thenF hA2)
          refine hK.out _ _ hg9 (fun hHeld => ?_)
          clear hK hV2 hA2 hbb hg9 hblk
          try simp only [Act.put, List.getElem_toArray, List.getElem_cons_succ, List.getElem_cons_zero, List.setIfInBounds_toArray, List.set_cons_zero, List.set_cons_succ]
          refine wpAnyH_ready (rs := [13]) (by kernel_rfl) (by simp) (AllReadyH.cons rfl (fun K hK => ?_) AllReadyH.nil)
          simp only [List.getElem_toArray, List.getElem_cons_succ, List.getElem_cons_zero]
          go_simp
          obtain ⟨Y20, hV2⟩ : ∃ Y, Y19.alloc (.cells (rowOf n (fun _ => .bool false)) 4) = Y := ⟨_, rfl⟩
          obtain ⟨pub, hbb⟩ : ∃ q, Y19.heap.size = q := ⟨_, rfl⟩
          have hA2 : Adds Y19 Y20 := by rw [← hV2]; exact (Only.refl (fun _ => False) Y19).alloc _
          have hblk : Blk Y20 pub (rowOf n (fun _ => .bool false)) 4 := by rw [← hV2, ← hbb]; exact Blk.new Y19 _ _
          have Hpub := Lib.hid hblk
          have Lpub := Lib.hid (show w3.heap.size ≤ pub by have := HAD.out.size; omega)
          replace Hmb := Lib.hid (Hmb.out.only hA2 id)
          replace Hhvb := Lib.hid (Hhvb.out.only hA2 id)
          have HNE := Lib.hid (show pub ≠ onb by have := Honb.out.lt; omega)
          replace Honb := Lib.hid (Honb.out.only hA2 id)
          try rw [hV2]
          try rw [hbb]
          have hg9 := cellA hHeld hA2
          replace HAD := Lib.hid (HAD.out.thenF hA2)
          refine hK.out _ _ hg9 (fun hHeld => ?_)
          clear hK hV2 hA2 hbb hg9 hblk
          try simp only [Act.put, List.getElem_toArray, List.getElem_cons_succ, List.getElem_cons_zero, List.setIfInBounds_toArray, List.set_cons_zero, List.set_cons_succ]
          refine wpAnyH_take (i := 14) (v := (.agg (gmC ab bb hvb mb onb pub n))) rfl (by kernel_rfl) (by kernel_rfl) (by kernel_rfl) (fun _ _ _ h => h) (Or.inl ⟨by rfl, fun W hS => by first | rfl | (go_simp; done)⟩) hHeld ?_
          try simp only [Act.put, List.getElem_toArray, List.getElem_cons_succ, List.getElem_cons_zero, List.setIfInBounds_toArray, List.set_cons_zero, List.set_cons_succ]
          refine wpAnyH_ready (rs := [15]) (by kernel_rfl) (by simp) (AllReadyH.cons rfl (fun K hK => ?_) AllReadyH.nil)
          simp only [List.getElem_toArray, List.getElem_cons_succ, List.getElem_cons_zero]
          go_simp
          obtain ⟨Z, hZ⟩ : ∃ Y, Y20.alloc (.cells (gmC ab bb hvb mb onb pub n) 37) = Y := ⟨_, rfl⟩
          obtain ⟨gb, hbb⟩ : ∃ q, Y20.heap.size = q := ⟨_, rfl⟩
          have hA2 : Adds Y20 Z := by rw [← hZ]; exact (Only.refl (fun _ => False) Y20).alloc _
          have hblk : Blk Z gb (gmC ab bb hvb mb onb pub n) 37 := by rw [← hZ, ← hbb]; exact Blk.new Y20 _ _
          have hgl : w3.heap.size ≤ gb := by have := HAD.out.size; omega
          try rw [hZ]
          try rw [hbb]
          have hg9 := cellA hHeld hA2
          have HAZ := Lib.hid (HAD.out.thenF hA2)
          have hng := (show NG w ab sb sm rb rg bb tb tm ub fb gb hvb mb onb pub stb n pn 0 S0 Z (fun _ => .slice none 0 0) from ⟨HB.out.adds HAZ.out, HST.out.only HAZ.out id, hblk, Hhvb.out.only hA2 id, Hmb.out.only hA2 id, Honb.out.only hA2 id, Hpub.out.only hA2 id, fun t _ => World.ownsRow_nil _ _ _ _, fun _ _ _ => rfl, fun t t' g _ _ _ h => (by cases h), HA3.out.thenF HAZ.out⟩)
          have hlo := (show (onb ≠ pub ∧ onb ≠ fb ∧ pub ≠ fb) ∧ (w.heap.size ≤ gb ∧ w.heap.size ≤ hvb ∧ w.heap.size ≤ mb ∧ w.heap.size ≤ onb ∧ w.heap.size ≤ pub) from by have z1 := HB.out.mem.fr.lt; have z2 := Lhvb.out; have z3 := Lmb.out; have z4 := Lonb.out; have z5 := Lpub.out; have z6 := HSZ.out; exact ⟨⟨(fun e => HNE.out e.symm), by omega, by omega⟩, by omega, by omega, by omega, by omega, by omega⟩)
          have HNG := Lib.hid hng; have HLZ := Lib.hid hlo
          refine hK.out _ _ hg9 (fun hHeld => ?_)
          clear hK hZ hA2 hbb hg9 hblk hng hlo hgl
          try simp only [Act.put, List.getElem_toArray, List.getElem_cons_succ, List.getElem_cons_zero, List.setIfInBounds_toArray, List.set_cons_zero, List.set_cons_succ]
          refine wpAnyH_take (i := 16) (v := (.pointer (some ⟨gb, 0, none⟩))) rfl (by kernel_rfl) (by kernel_rfl) (by kernel_rfl) (fun _ _ _ h => h) (Or.inl ⟨by rfl, fun W hS => by first | rfl | (go_simp; done)⟩) hHeld ?_
          try simp only [Act.put, List.getElem_toArray, List.getElem_cons_succ, List.getElem_cons_zero, List.setIfInBounds_toArray, List.set_cons_zero, List.set_cons_succ]
          refine wpAnyH_done (by kernel_rfl) ?_ _
          go_wp2_with fail
          go_meet
          exact ⟨gb, hvb, mb, onb, pub, rfl, HNG, HLZ⟩
        · simp only [List.getElem_toArray, List.getElem_cons_succ, List.getElem_cons_zero]
          go_simp
          obtain ⟨Y21, hV2⟩ : ∃ Y, Y18.alloc (.cells (rowOf n (fun _ => .bool false)) 4) = Y := ⟨_, rfl⟩
          obtain ⟨pub, hbb⟩ : ∃ q, Y18.heap.size = q := ⟨_, rfl⟩
          have hA2 : Adds Y18 Y21 := by rw [← hV2]; exact (Only.refl (fun _ => False) Y18).alloc _
          have hblk : Blk Y21 pub (rowOf n (fun _ => .bool false)) 4 := by rw [← hV2, ← hbb]; exact Blk.new Y18 _ _
          have Hpub := Lib.hid hblk
          have Lpub := Lib.hid (show w3.heap.size ≤ pub by have := HAD.out.size; omega)
          replace Hmb := Lib.hid (Hmb.out.only hA2 id)
          replace Hhvb := Lib.hid (Hhvb.out.only hA2 id)
          try rw [hV2]
          try rw [hbb]
          have hg9 := cellA hHeld hA2
          replace HAD := Lib.hid (HAD.out.thenF hA2)
          refine hK.out _ _ hg9 (fun hHeld => ?_)
          clear hK hV2 hA2 hbb hg9 hblk
          try simp only [Act.put, List.getElem_toArray, List.getElem_cons_succ, List.getElem_cons_zero, List.setIfInBounds_toArray, List.set_cons_zero, List.set_cons_succ]
          refine wpAnyH_ready (rs := [10]) (by kernel_rfl) (by simp) (AllReadyH.cons rfl (fun K hK => ?_) AllReadyH.nil)
          simp only [List.getElem_toArray, List.getElem_cons_succ, List.getElem_cons_zero]
          go_simp
          obtain ⟨Y22, hV2⟩ : ∃ Y, Y21.alloc (.cells (rowOf n (fun _ => .bool false)) 4) = Y := ⟨_, rfl⟩
          obtain ⟨onb, hbb⟩ : ∃ q, Y21.heap.size = q := ⟨_, rfl⟩
          have hA2 : Adds Y21 Y22 := by rw [← hV2]; exact (Only.refl (fun _ => False) Y21).alloc _
          have hblk : Blk Y22 onb (rowOf n (fun _ => .bool false)) 4 := by rw [← hV2, ← hbb]; exact Blk.new Y21 _ _
          have Honb := Lib.hid hblk
          have Lonb := Lib.hid (show w3.heap.size ≤ onb by have := HAD.out.size; omega)
          replace Hmb := Lib.hid (Hmb.out.only hA2 id)
          replace Hhvb := Lib.hid (Hhvb.out.only hA2 id)
          have HNE := Lib.hid (show onb ≠ pub by have := Hpub.out.lt; omega)
          replace Hpub := Lib.hid (Hpub.out.only hA2 id)
          try rw [hV2]
          try rw [hbb]
          have hg9 := cellA hHeld hA2
          replace HAD := Lib.hid (HAD.out.thenF hA2)
          refine hK.out _ _ hg9 (fun hHeld => ?_)
          clear hK hV2 hA2 hbb hg9 hblk
          try simp only [Act.put, List.getElem_toArray, List.getElem_cons_succ, List.getElem_cons_zero, List.setIfInBounds_toArray, List.set_cons_zero, List.set_cons_succ]
          refine wpAnyH_take (i := 14) (v := (.agg (gmC ab bb hvb mb onb pub n))) rfl (by kernel_rfl) (by kernel_rfl) (by kernel_rfl) (fun _ _ _ h => h) (Or.inl ⟨by rfl, fun W hS => by first | rfl | (go_simp; done)⟩) hHeld ?_
          try simp only [Act.put, List.getElem_toArray, List.getElem_cons_succ, List.getElem_cons_zero, List.setIfInBounds_toArray, List.set_cons_zero, List.set_cons_succ]
          refine wpAnyH_ready (rs := [15]) (by kernel_rfl) (by simp) (AllReadyH.cons rfl (fun K hK => ?_) AllReadyH.nil)
          simp only [List.getElem_toArray, List.getElem_cons_succ, List.getElem_cons_zero]
          go_simp
          obtain ⟨Z, hZ⟩ : ∃ Y, Y22.alloc (.cells (gmC ab bb hvb mb onb pub n) 37) = Y := ⟨_, rfl⟩
          obtain ⟨gb, hbb⟩ : ∃ q, Y22.heap.size = q := ⟨_, rfl⟩
          have hA2 : Adds Y22 Z := by rw [← hZ]; exact (Only.refl (fun _ => False) Y22).alloc _
          have hblk : Blk Z gb (gmC ab bb hvb mb onb pub n) 37 := by rw [← hZ, ← hbb]; exact Blk.new Y22 _ _
          have hgl : w3.heap.size ≤ gb := by have := HAD.out.size; omega
          try rw [hZ]
          try rw [hbb]
          have hg9 := cellA hHeld hA2
          have HAZ := Lib.hid (HAD.out.thenF hA2)
          have hng := (show NG w ab sb sm rb rg bb tb tm ub fb gb hvb mb onb pub stb n pn 0 S0 Z (fun _ => .slice none 0 0) from ⟨HB.out.adds HAZ.out, HST.out.only HAZ.out id, hblk, Hhvb.out.only hA2 id, Hmb.out.only hA2 id, Honb.out.only hA2 id, Hpub.out.only hA2 id, fun t _ => World.ownsRow_nil _ _ _ _, fun _ _ _ => rfl, fun t t' g _ _ _ h => (by cases h), HA3.out.thenF HAZ.out⟩)
          have hlo := (show (onb ≠ pub ∧ onb ≠ fb ∧ pub ≠ fb) ∧ (w.heap.size ≤ gb ∧ w.heap.size ≤ hvb ∧ w.heap.size ≤ mb ∧ w.heap.size ≤ onb ∧ w.heap.size ≤ pub) from by have z1 := HB.out.mem.fr.lt; have z2 := Lhvb.out; have z3 := Lmb.out; have z4 := Lonb.out; have z5 := Lpub.out; have z6 := HSZ.out; exact ⟨⟨HNE.out, by omega, by omega⟩, by omega, by omega, by omega, by omega, by omega⟩)
          have HNG := Lib.hid hng; have HLZ := Lib.hid hlo
          refine hK.out _ _ hg9 (fun hHeld => ?_)
          clear hK hZ hA2 hbb hg9 hblk hng hlo hgl
          try simp only [Act.put, List.getElem_toArray, List.getElem_cons_succ, List.getElem_cons_zero, List.setIfInBounds_toArray, List.set_cons_zero, List.set_cons_succ]
          refine wpAnyH_take (i := 16) (v := (.pointer (some ⟨gb, 0, none⟩))) rfl (by kernel_rfl) (by kernel_rfl) (by kernel_rfl) (fun _ _ _ h => h) (Or.inl ⟨by rfl, fun W hS => by first | rfl | (go_simp; done)⟩) hHeld ?_
          try simp only [Act.put, List.getElem_toArray, List.getElem_cons_succ, List.getElem_cons_zero, List.setIfInBounds_toArray, List.set_cons_zero, List.set_cons_succ]
          refine wpAnyH_done (by kernel_rfl) ?_ _
          go_wp2_with fail
          go_meet
          exact ⟨gb, hvb, mb, onb, pub, rfl, HNG, HLZ⟩
      · simp only [List.getElem_toArray, List.getElem_cons_succ, List.getElem_cons_zero]
        go_simp
        obtain ⟨Y23, hV2⟩ : ∃ Y, Y17.alloc (.cells (rowOf n (fun _ => .bool false)) 4) = Y := ⟨_, rfl⟩
        obtain ⟨onb, hbb⟩ : ∃ q, Y17.heap.size = q := ⟨_, rfl⟩
        have hA2 : Adds Y17 Y23 := by rw [← hV2]; exact (Only.refl (fun _ => False) Y17).alloc _
        have hblk : Blk Y23 onb (rowOf n (fun _ => .bool false)) 4 := by rw [← hV2, ← hbb]; exact Blk.new Y17 _ _
        have Honb := Lib.hid hblk
        have Lonb := Lib.hid (show w3.heap.size ≤ onb by have := HAD.out.size; omega)
        replace Hmb := Lib.hid (Hmb.out.only hA2 id)
        try rw [hV2]
        try rw [hbb]
        have hg9 := cellA hHeld hA2
        replace HAD := Lib.hid (HAD.out.thenF hA2)
        refine hK.out _ _ hg9 (fun hHeld => ?_)
        clear hK hV2 hA2 hbb hg9 hblk
        try simp only [Act.put, List.getElem_toArray, List.getElem_cons_succ, List.getElem_cons_zero, List.setIfInBounds_toArray, List.set_cons_zero, List.set_cons_succ]
        refine wpAnyH_ready (rs := [4, 13]) (by kernel_rfl) (by simp) (AllReadyH.cons rfl (fun K hK => ?_) (AllReadyH.cons rfl (fun K hK => ?_) AllReadyH.nil))
        · simp only [List.getElem_toArray, List.getElem_cons_succ, List.getElem_cons_zero]
          go_simp
          obtain ⟨Y24, hV2⟩ : ∃ Y, Y23.alloc (.cells (rowOf n (fun _ => .slice none 0 0)) 54) = Y := ⟨_, rfl⟩
          obtain ⟨hvb, hbb⟩ : ∃ q, Y23.heap.size = q := ⟨_, rfl⟩
          have hA2 : Adds Y23 Y24 := by rw [← hV2]; exact (Only.refl (fun _ => False) Y23).alloc _
          have hblk : Blk Y24 hvb (rowOf n (fun _ => .slice none 0 0)) 54 := by rw [← hV2, ← hbb]; exact Blk.new Y23 _ _
          have Hhvb := Lib.hid hblk
          have Lhvb := Lib.hid (show w3.heap.size ≤ hvb by have := HAD.out.size; omega)
          replace Hmb := Lib.hid (Hmb.out.only hA2 id)
          replace Honb := Lib.hid (Honb.out.only hA2 id)
          try rw [hV2]
          try rw [hbb]
          have hg9 := cellA hHeld hA2
          replace HAD := Lib.hid (HAD.out.thenF hA2)
          refine hK.out _ _ hg9 (fun hHeld => ?_)
          clear hK hV2 hA2 hbb hg9 hblk
          try simp only [Act.put, List.getElem_toArray, List.getElem_cons_succ, List.getElem_cons_zero, List.setIfInBounds_toArray, List.set_cons_zero, List.set_cons_succ]
          refine wpAnyH_ready (rs := [13]) (by kernel_rfl) (by simp) (AllReadyH.cons rfl (fun K hK => ?_) AllReadyH.nil)
          simp only [List.getElem_toArray, List.getElem_cons_succ, List.getElem_cons_zero]
          go_simp
          obtain ⟨Y25, hV2⟩ : ∃ Y, Y24.alloc (.cells (rowOf n (fun _ => .bool false)) 4) = Y := ⟨_, rfl⟩
          obtain ⟨pub, hbb⟩ : ∃ q, Y24.heap.size = q := ⟨_, rfl⟩
          have hA2 : Adds Y24 Y25 := by rw [← hV2]; exact (Only.refl (fun _ => False) Y24).alloc _
          have hblk : Blk Y25 pub (rowOf n (fun _ => .bool false)) 4 := by rw [← hV2, ← hbb]; exact Blk.new Y24 _ _
          have Hpub := Lib.hid hblk
          have Lpub := Lib.hid (show w3.heap.size ≤ pub by have := HAD.out.size; omega)
          replace Hmb := Lib.hid (Hmb.out.only hA2 id)
          have HNE := Lib.hid (show pub ≠ onb by have := Honb.out.lt; omega)
          replace Honb := Lib.hid (Honb.out.only hA2 id)
          replace Hhvb := Lib.hid (Hhvb.out.only hA2 id)
          try rw [hV2]
          try rw [hbb]
          have hg9 := cellA hHeld hA2
          replace HAD := Lib.hid (HAD.out.thenF hA2)
          refine hK.out _ _ hg9 (fun hHeld => ?_)
          clear hK hV2 hA2 hbb hg9 hblk
          try simp only [Act.put, List.getElem_toArray, List.getElem_cons_succ, List.getElem_cons_zero, List.setIfInBounds_toArray, List.set_cons_zero, List.set_cons_succ]
          refine wpAnyH_take (i := 14) (v := (.agg (gmC ab bb hvb mb onb pub n))) rfl (by kernel_rfl) (by kernel_rfl) (by kernel_rfl) (fun _ _ _ h => h) (Or.inl ⟨by rfl, fun W hS => by first | rfl | (go_simp; done)⟩) hHeld ?_
          try simp only [Act.put, List.getElem_toArray, List.getElem_cons_succ, List.getElem_cons_zero, List.setIfInBounds_toArray, List.set_cons_zero, List.set_cons_succ]
          refine wpAnyH_ready (rs := [15]) (by kernel_rfl) (by simp) (AllReadyH.cons rfl (fun K hK => ?_) AllReadyH.nil)
          simp only [List.getElem_toArray, List.getElem_cons_succ, List.getElem_cons_zero]
          go_simp
          obtain ⟨Z, hZ⟩ : ∃ Y, Y25.alloc (.cells (gmC ab bb hvb mb onb pub n) 37) = Y := ⟨_, rfl⟩
          obtain ⟨gb, hbb⟩ : ∃ q, Y25.heap.size = q := ⟨_, rfl⟩
          have hA2 : Adds Y25 Z := by rw [← hZ]; exact (Only.refl (fun _ => False) Y25).alloc _
          have hblk : Blk Z gb (gmC ab bb hvb mb onb pub n) 37 := by rw [← hZ, ← hbb]; exact Blk.new Y25 _ _
          have hgl : w3.heap.size ≤ gb := by have := HAD.out.size; omega
          try rw [hZ]
          try rw [hbb]
          have hg9 := cellA hHeld hA2
          have HAZ := Lib.hid (HAD.out.thenF hA2)
          have hng := (show NG w ab sb sm rb rg bb tb tm ub fb gb hvb mb onb pub stb n pn 0 S0 Z (fun _ => .slice none 0 0) from ⟨HB.out.adds HAZ.out, HST.out.only HAZ.out id, hblk, Hhvb.out.only hA2 id, Hmb.out.only hA2 id, Honb.out.only hA2 id, Hpub.out.only hA2 id, fun t _ => World.ownsRow_nil _ _ _ _, fun _ _ _ => rfl, fun t t' g _ _ _ h => (by cases h), HA3.out.thenF HAZ.out⟩)
          have hlo := (show (onb ≠ pub ∧ onb ≠ fb ∧ pub ≠ fb) ∧ (w.heap.size ≤ gb ∧ w.heap.size ≤ hvb ∧ w.heap.size ≤ mb ∧ w.heap.size ≤ onb ∧ w.heap.size ≤ pub) from by have z1 := HB.out.mem.fr.lt; have z2 := Lhvb.out; have z3 := Lmb.out; have z4 := Lonb.out; have z5 := Lpub.out; have z6 := HSZ.out; exact ⟨⟨(fun e => HNE.out e.symm), by omega, by omega⟩, by omega, by omega, by omega, by omega, by omega⟩)
          have HNG := Lib.hid hng; have HLZ := Lib.hid hlo
          refine hK.out _ _ hg9 (fun hHeld => ?_)
          clear hK hZ hA2 hbb hg9 hblk hng hlo hgl
          try simp only [Act.put, List.getElem_toArray, List.getElem_cons_succ, List.getElem_cons_zero, List.setIfInBounds_toArray, List.set_cons_zero, List.set_cons_succ]
          refine wpAnyH_take (i := 16) (v := (.pointer (some ⟨gb, 0, none⟩))) rfl (by kernel_rfl) (by kernel_rfl) (by kernel_rfl) (fun _ _ _ h => h) (Or.inl ⟨by rfl, fun W hS => by first | rfl | (go_simp; done)⟩) hHeld ?_
          try simp only [Act.put, List.getElem_toArray, List.getElem_cons_succ, List.getElem_cons_zero, List.setIfInBounds_toArray, List.set_cons_zero, List.set_cons_succ]
          refine wpAnyH_done (by kernel_rfl) ?_ _
          go_wp2_with fail
          go_meet
          exact ⟨gb, hvb, mb, onb, pub, rfl, HNG, HLZ⟩
        · simp only [List.getElem_toArray, List.getElem_cons_succ, List.getElem_cons_zero]
          go_simp
          obtain ⟨Y26, hV2⟩ : ∃ Y, Y23.alloc (.cells (rowOf n (fun _ => .bool false)) 4) = Y := ⟨_, rfl⟩
          obtain ⟨pub, hbb⟩ : ∃ q, Y23.heap.size = q := ⟨_, rfl⟩
          have hA2 : Adds Y23 Y26 := by rw [← hV2]; exact (Only.refl (fun _ => False) Y23).alloc _
          have hblk : Blk Y26 pub (rowOf n (fun _ => .bool false)) 4 := by rw [← hV2, ← hbb]; exact Blk.new Y23 _ _
          have Hpub := Lib.hid hblk
          have Lpub := Lib.hid (show w3.heap.size ≤ pub by have := HAD.out.size; omega)
          replace Hmb := Lib.hid (Hmb.out.only hA2 id)
          have HNE := Lib.hid (show pub ≠ onb by have := Honb.out.lt; omega)
          replace Honb := Lib.hid (Honb.out.only hA2 id)
          try rw [hV2]
          try rw [hbb]
          have hg9 := cellA hHeld hA2
          replace HAD := Lib.hid (HAD.out.thenF hA2)
          refine hK.out _ _ hg9 (fun hHeld => ?_)
          clear hK hV2 hA2 hbb hg9 hblk
          try simp only [Act.put, List.getElem_toArray, List.getElem_cons_succ, List.getElem_cons_zero, List.setIfInBounds_toArray, List.set_cons_zero, List.set_cons_succ]
          refine wpAnyH_ready (rs := [4]) (by kernel_rfl) (by simp) (AllReadyH.cons rfl (fun K hK => ?_) AllReadyH.nil)
          simp only [List.getElem_toArray, List.getElem_cons_succ, List.getElem_cons_zero]
          go_simp
          obtain ⟨Y27, hV2⟩ : ∃ Y, Y26.alloc (.cells (rowOf n (fun _ => .slice none 0 0)) 54) = Y := ⟨_, rfl⟩
          obtain ⟨hvb, hbb⟩ : ∃ q, Y26.heap.size = q := ⟨_, rfl⟩
          have hA2 : Adds Y26 Y27 := by rw [← hV2]; exact (Only.refl (fun _ => False) Y26).alloc _
          have hblk : Blk Y27 hvb (rowOf n (fun _ => .slice none 0 0)) 54 := by rw [← hV2, ← hbb]; exact Blk.new Y26 _ _
          have Hhvb := Lib.hid hblk
          have Lhvb := Lib.hid (show w3.heap.size ≤ hvb by have := HAD.out.size; omega)
          replace Hmb := Lib.hid (Hmb.out.only hA2 id)
          replace Honb := Lib.hid (Honb.out.only hA2 id)
          replace Hpub := Lib.hid (Hpub.out.only hA2 id)
          try rw [hV2]
          try rw [hbb]
          have hg9 := cellA hHeld hA2
          replace HAD := Lib.hid (HAD.out.thenF hA2)
          refine hK.out _ _ hg9 (fun hHeld => ?_)
          clear hK hV2 hA2 hbb hg9 hblk
          try simp only [Act.put, List.getElem_toArray, List.getElem_cons_succ, List.getElem_cons_zero, List.setIfInBounds_toArray, List.set_cons_zero, List.set_cons_succ]
          refine wpAnyH_take (i := 14) (v := (.agg (gmC ab bb hvb mb onb pub n))) rfl (by kernel_rfl) (by kernel_rfl) (by kernel_rfl) (fun _ _ _ h => h) (Or.inl ⟨by rfl, fun W hS => by first | rfl | (go_simp; done)⟩) hHeld ?_
          try simp only [Act.put, List.getElem_toArray, List.getElem_cons_succ, List.getElem_cons_zero, List.setIfInBounds_toArray, List.set_cons_zero, List.set_cons_succ]
          refine wpAnyH_ready (rs := [15]) (by kernel_rfl) (by simp) (AllReadyH.cons rfl (fun K hK => ?_) AllReadyH.nil)
          simp only [List.getElem_toArray, List.getElem_cons_succ, List.getElem_cons_zero]
          go_simp
          obtain ⟨Z, hZ⟩ : ∃ Y, Y27.alloc (.cells (gmC ab bb hvb mb onb pub n) 37) = Y := ⟨_, rfl⟩
          obtain ⟨gb, hbb⟩ : ∃ q, Y27.heap.size = q := ⟨_, rfl⟩
          have hA2 : Adds Y27 Z := by rw [← hZ]; exact (Only.refl (fun _ => False) Y27).alloc _
          have hblk : Blk Z gb (gmC ab bb hvb mb onb pub n) 37 := by rw [← hZ, ← hbb]; exact Blk.new Y27 _ _
          have hgl : w3.heap.size ≤ gb := by have := HAD.out.size; omega
          try rw [hZ]
          try rw [hbb]
          have hg9 := cellA hHeld hA2
          have HAZ := Lib.hid (HAD.out.thenF hA2)
          have hng := (show NG w ab sb sm rb rg bb tb tm ub fb gb hvb mb onb pub stb n pn 0 S0 Z (fun _ => .slice none 0 0) from ⟨HB.out.adds HAZ.out, HST.out.only HAZ.out id, hblk, Hhvb.out.only hA2 id, Hmb.out.only hA2 id, Honb.out.only hA2 id, Hpub.out.only hA2 id, fun t _ => World.ownsRow_nil _ _ _ _, fun _ _ _ => rfl, fun t t' g _ _ _ h => (by cases h), HA3.out.thenF HAZ.out⟩)
          have hlo := (show (onb ≠ pub ∧ onb ≠ fb ∧ pub ≠ fb) ∧ (w.heap.size ≤ gb ∧ w.heap.size ≤ hvb ∧ w.heap.size ≤ mb ∧ w.heap.size ≤ onb ∧ w.heap.size ≤ pub) from by have z1 := HB.out.mem.fr.lt; have z2 := Lhvb.out; have z3 := Lmb.out; have z4 := Lonb.out; have z5 := Lpub.out; have z6 := HSZ.out; exact ⟨⟨(fun e => HNE.out e.symm), by omega, by omega⟩, by omega, by omega, by omega, by omega, by omega⟩)
          have HNG := Lib.hid hng; have HLZ := Lib.hid hlo
          refine hK.out _ _ hg9 (fun hHeld => ?_)
          clear hK hZ hA2 hbb hg9 hblk hng hlo hgl
          try simp only [Act.put, List.getElem_toArray, List.getElem_cons_succ, List.getElem_cons_zero, List.setIfInBounds_toArray, List.set_cons_zero, List.set_cons_succ]
          refine wpAnyH_take (i := 16) (v := (.pointer (some ⟨gb, 0, none⟩))) rfl (by kernel_rfl) (by kernel_rfl) (by kernel_rfl) (fun _ _ _ h => h) (Or.inl ⟨by rfl, fun W hS => by first | rfl | (go_simp; done)⟩) hHeld ?_
          try simp only [Act.put, List.getElem_toArray, List.getElem_cons_succ, List.getElem_cons_zero, List.setIfInBounds_toArray, List.set_cons_zero, List.set_cons_succ]
          refine wpAnyH_done (by kernel_rfl) ?_ _
          go_wp2_with fail
          go_meet
          exact ⟨gb, hvb, mb, onb, pub, rfl, HNG, HLZ⟩
      · simp only [List.getElem_toArray, List.getElem_cons_succ, List.getElem_cons_zero]
        go_simp
        obtain ⟨Y28, hV2⟩ : ∃ Y, Y17.alloc (.cells (rowOf n (fun _ => .bool false)) 4) = Y := ⟨_, rfl⟩
        obtain ⟨pub, hbb⟩ : ∃ q, Y17.heap.size = q := ⟨_, rfl⟩
        have hA2 : Adds Y17 Y28 := by rw [← hV2]; exact (Only.refl (fun _ => False) Y17).alloc _
        have hblk : Blk Y28 pub (rowOf n (fun _ => .bool false)) 4 := by rw [← hV2, ← hbb]; exact Blk.new Y17 _ _
        have Hpub := Lib.hid hblk
        have Lpub := Lib.hid (show w3.heap.size ≤ pub by have := HAD.out.size; omega)
        replace Hmb := Lib.hid (Hmb.out.only hA2 id)
        try rw [hV2]
        try rw [hbb]
        have hg9 := cellA hHeld hA2
        replace HAD := Lib.hid (HAD.out.thenF hA2)
        refine hK.out _ _ hg9 (fun hHeld => ?_)
        clear hK hV2 hA2 hbb hg9 hblk
        try simp only [Act.put, List.getElem_toArray, List.getElem_cons_succ, List.getElem_cons_zero, List.setIfInBounds_toArray, List.set_cons_zero, List.set_cons_succ]
        refine wpAnyH_ready (rs := [4, 10]) (by kernel_rfl) (by simp) (AllReadyH.cons rfl (fun K hK => ?_) (AllReadyH.cons rfl (fun K hK => ?_) AllReadyH.nil))
        · simp only [List.getElem_toArray, List.getElem_cons_succ, List.getElem_cons_zero]
          go_simp
          obtain ⟨Y29, hV2⟩ : ∃ Y, Y28.alloc (.cells (rowOf n (fun _ => .slice none 0 0)) 54) = Y := ⟨_, rfl⟩
          obtain ⟨hvb, hbb⟩ : ∃ q, Y28.heap.size = q := ⟨_, rfl⟩
          have hA2 : Adds Y28 Y29 := by rw [← hV2]; exact (Only.refl (fun _ => False) Y28).alloc _
          have hblk : Blk Y29 hvb (rowOf n (fun _ => .slice none 0 0)) 54 := by rw [← hV2, ← hbb]; exact Blk.new Y28 _ _
          have Hhvb := Lib.hid hblk
          have Lhvb := Lib.hid (show w3.heap.size ≤ hvb by have := HAD.out.size; omega)
          replace Hmb := Lib.hid (Hmb.out.only hA2 id)
          replace Hpub := Lib.hid (Hpub.out.only hA2 id)
          try rw [hV2]
          try rw [hbb]
          have hg9 := cellA hHeld hA2
          replace HAD := Lib.hid (HAD.out.thenF hA2)
          refine hK.out _ _ hg9 (fun hHeld => ?_)
          clear hK hV2 hA2 hbb hg9 hblk
          try simp only [Act.put, List.getElem_toArray, List.getElem_cons_succ, List.getElem_cons_zero, List.setIfInBounds_toArray, List.set_cons_zero, List.set_cons_succ]
          refine wpAnyH_ready (rs := [10]) (by kernel_rfl) (by simp) (AllReadyH.cons rfl (fun K hK => ?_) AllReadyH.nil)
          simp only [List.getElem_toArray, List.getElem_cons_succ, List.getElem_cons_zero]
          go_simp
          obtain ⟨Y30, hV2⟩ : ∃ Y, Y29.alloc (.cells (rowOf n (fun _ => .bool false)) 4) = Y := ⟨_, rfl⟩
          obtain ⟨onb, hbb⟩ : ∃ q, Y29.heap.size = q := ⟨_, rfl⟩
          have hA2 : Adds Y29 Y30 := by rw [← hV2]; exact (Only.refl (fun _ => False) Y29).alloc _
          have hblk : Blk Y30 onb (rowOf n (fun _ => .bool false)) 4 := by rw [← hV2, ← hbb]; exact Blk.new Y29 _ _
          have Honb := Lib.hid hblk
          have Lonb := Lib.hid (show w3.heap.size ≤ onb by have := HAD.out.size; omega)
          replace Hmb := Lib.hid (Hmb.out.only hA2 id)
          have HNE := Lib.hid (show onb ≠ pub by have := Hpub.out.lt; omega)
          replace Hpub := Lib.hid (Hpub.out.only hA2 id)
          replace Hhvb := Lib.hid (Hhvb.out.only hA2 id)
          try rw [hV2]
          try rw [hbb]
          have hg9 := cellA hHeld hA2
          replace HAD := Lib.hid (HAD.out.thenF hA2)
          refine hK.out _ _ hg9 (fun hHeld => ?_)
          clear hK hV2 hA2 hbb hg9 hblk
          try simp only [Act.put, List.getElem_toArray, List.getElem_cons_succ, List.getElem_cons_zero, List.setIfInBounds_toArray, List.set_cons_zero, List.set_cons_succ]
          refine wpAnyH_take (i := 14) (v := (.agg (gmC ab bb hvb mb onb pub n))) rfl (by kernel_rfl) (by kernel_rfl) (by kernel_rfl) (fun _ _ _ h => h) (Or.inl ⟨by rfl, fun W hS => by first | rfl | (go_simp; done)⟩) hHeld ?_
          try simp only [Act.put, List.getElem_toArray, List.getElem_cons_succ, List.getElem_cons_zero, List.setIfInBounds_toArray, List.set_cons_zero, List.set_cons_succ]
          refine wpAnyH_ready (rs := [15]) (by kernel_rfl) (by simp) (AllReadyH.cons rfl (fun K hK => ?_) AllReadyH.nil)
          simp only [List.getElem_toArray, List.getElem_cons_succ, List.getElem_cons_zero]
          go_simp
          obtain ⟨Z, hZ⟩ : ∃ Y, Y30.alloc (.cells (gmC ab bb hvb mb onb pub n) 37) = Y := ⟨_, rfl⟩
          obtain ⟨gb, hbb⟩ : ∃ q, Y30.heap.size = q := ⟨_, rfl⟩
          have hA2 : Adds Y30 Z := by rw [← hZ]; exact (Only.refl (fun _ => False) Y30).alloc _
          have hblk : Blk Z gb (gmC ab bb hvb mb onb pub n) 37 := by rw [← hZ, ← hbb]; exact Blk.new Y30 _ _
          have hgl : w3.heap.size ≤ gb := by have := HAD.out.size; omega
          try rw [hZ]
          try rw [hbb]
          have hg9 := cellA hHeld hA2
          have HAZ := Lib.hid (HAD.out.thenF hA2)
          have hng := (show NG w ab sb sm rb rg bb tb tm ub fb gb hvb mb onb pub stb n pn 0 S0 Z (fun _ => .slice none 0 0) from ⟨HB.out.adds HAZ.out, HST.out.only HAZ.out id, hblk, Hhvb.out.only hA2 id, Hmb.out.only hA2 id, Honb.out.only hA2 id, Hpub.out.only hA2 id, fun t _ => World.ownsRow_nil _ _ _ _, fun _ _ _ => rfl, fun t t' g _ _ _ h => (by cases h), HA3.out.thenF HAZ.out⟩)
          have hlo := (show (onb ≠ pub ∧ onb ≠ fb ∧ pub ≠ fb) ∧ (w.heap.size ≤ gb ∧ w.heap.size ≤ hvb ∧ w.heap.size ≤ mb ∧ w.heap.size ≤ onb ∧ w.heap.size ≤ pub) from by have z1 := HB.out.mem.fr.lt; have z2 := Lhvb.out; have z3 := Lmb.out; have z4 := Lonb.out; have z5 := Lpub.out; have z6 := HSZ.out; exact ⟨⟨HNE.out, by omega, by omega⟩, by omega, by omega, by omega, by omega, by omega⟩)
          have HNG := Lib.hid hng; have HLZ := Lib.hid hlo
          refine hK.out _ _ hg9 (fun hHeld => ?_)
          clear hK hZ hA2 hbb hg9 hblk hng hlo hgl
          try simp only [Act.put, List.getElem_toArray, List.getElem_cons_succ, List.getElem_cons_zero, List.setIfInBounds_toArray, List.set_cons_zero, List.set_cons_succ]
          refine wpAnyH_take (i := 16) (v := (.pointer (some ⟨gb, 0, none⟩))) rfl (by kernel_rfl) (by kernel_rfl) (by kernel_rfl) (fun _ _ _ h => h) (Or.inl ⟨by rfl, fun W hS => by first | rfl | (go_simp; done)⟩) hHeld ?_
          try simp only [Act.put, List.getElem_toArray, List.getElem_cons_succ, List.getElem_cons_zero, List.setIfInBounds_toArray, List.set_cons_zero, List.set_cons_succ]
          refine wpAnyH_done (by kernel_rfl) ?_ _
          go_wp2_with fail
          go_meet
          exact ⟨gb, hvb, mb, onb, pub, rfl, HNG, HLZ⟩
        · simp only [List.getElem_toArray, List.getElem_cons_succ, List.getElem_cons_zero]
          go_simp
          obtain ⟨Y31, hV2⟩ : ∃ Y, Y28.alloc (.cells (rowOf n (fun _ => .bool false)) 4) = Y := ⟨_, rfl⟩
          obtain ⟨onb, hbb⟩ : ∃ q, Y28.heap.size = q := ⟨_, rfl⟩
          have hA2 : Adds Y28 Y31 := by rw [← hV2]; exact (Only.refl (fun _ => False) Y28).alloc _
          have hblk : Blk Y31 onb (rowOf n (fun _ => .bool false)) 4 := by rw [← hV2, ← hbb]; exact Blk.new Y28 _ _
          have Honb := Lib.hid hblk
          have Lonb := Lib.hid (show w3.heap.size ≤ onb by have := HAD.out.size; omega)
          replace Hmb := Lib.hid (Hmb.out.only hA2 id)
          have HNE := Lib.hid (show onb ≠ pub by have := Hpub.out.lt; omega)
          replace Hpub := Lib.hid (Hpub.out.only hA2 id)
          try rw [hV2]
          try rw [hbb]
          have hg9 := cellA hHeld hA2
          replace HAD := Lib.hid (HAD.out.thenF hA2)
          refine hK.out _ _ hg9 (fun hHeld => ?_)
          clear hK hV2 hA2 hbb hg9 hblk
          try simp only [Act.put, List.getElem_toArray, List.getElem_cons_succ, List.getElem_cons_zero, List.setIfInBounds_toArray, List.set_cons_zero, List.set_cons_succ]
          refine wpAnyH_ready (rs := [4]) (by kernel_rfl) (by simp) (AllReadyH.cons rfl (fun K hK => ?_) AllReadyH.nil)
          simp only [List.getElem_toArray, List.getElem_cons_succ, List.getElem_cons_zero]
          go_simp
          obtain ⟨Y32, hV2⟩ : ∃ Y, Y31.alloc (.cells (rowOf n (fun _ => .slice none 0 0)) 54) = Y := ⟨_, rfl⟩
          obtain ⟨hvb, hbb⟩ : ∃ q, Y31.heap.size = q := ⟨_, rfl⟩
          have hA2 : Adds Y31 Y32 := by rw [← hV2]; exact (Only.refl (fun _ => False) Y31).alloc _
          have hblk : Blk Y32 hvb (rowOf n (fun _ => .slice none 0 0)) 54 := by rw [← hV2, ← hbb]; exact Blk.new Y31 _ _
          have Hhvb := Lib.hid hblk
          have Lhvb := Lib.hid (show w3.heap.size ≤ hvb by have := HAD.out.size; omega)
          replace Hmb := Lib.hid (Hmb.out.only hA2 id)
          replace Hpub := Lib.hid (Hpub.out.only hA2 id)
          replace Honb := Lib.hid (Honb.out.only hA2 id)
          try rw [hV2]
          try rw [hbb]
          have hg9 := cellA hHeld hA2
          replace HAD := Lib.hid (HAD.out.thenF hA2)
          refine hK.out _ _ hg9 (fun hHeld => ?_)
          clear hK hV2 hA2 hbb hg9 hblk
          try simp only [Act.put, List.getElem_toArray, List.getElem_cons_succ, List.getElem_cons_zero, List.setIfInBounds_toArray, List.set_cons_zero, List.set_cons_succ]
          refine wpAnyH_take (i := 14) (v := (.agg (gmC ab bb hvb mb onb pub n))) rfl (by kernel_rfl) (by kernel_rfl) (by kernel_rfl) (fun _ _ _ h => h) (Or.inl ⟨by rfl, fun W hS => by first | rfl | (go_simp; done)⟩) hHeld ?_
          try simp only [Act.put, List.getElem_toArray, List.getElem_cons_succ, List.getElem_cons_zero, List.setIfInBounds_toArray, List.set_cons_zero, List.set_cons_succ]
          refine wpAnyH_ready (rs := [15]) (by kernel_rfl) (by simp) (AllReadyH.cons rfl (fun K hK => ?_) AllReadyH.nil)
          simp only [List.getElem_toArray, List.getElem_cons_succ, List.getElem_cons_zero]
          go_simp
          obtain ⟨Z, hZ⟩ : ∃ Y, Y32.alloc (.cells (gmC ab bb hvb mb onb pub n) 37) = Y := ⟨_, rfl⟩
          obtain ⟨gb, hbb⟩ : ∃ q, Y32.heap.size = q := ⟨_, rfl⟩
          have hA2 : Adds Y32 Z := by rw [← hZ]; exact (Only.refl (fun _ => False) Y32).alloc _
          have hblk : Blk Z gb (gmC ab bb hvb mb onb pub n) 37 := by rw [← hZ, ← hbb]; exact Blk.new Y32 _ _
          have hgl : w3.heap.size ≤ gb := by have := HAD.out.size; omega
          try rw [hZ]
          try rw [hbb]
          have hg9 := cellA hHeld hA2
          have HAZ := Lib.hid (HAD.out.thenF hA2)
          have hng := (show NG w ab sb sm rb rg bb tb tm ub fb gb hvb mb onb pub stb n pn 0 S0 Z (fun _ => .slice none 0 0) from ⟨HB.out.adds HAZ.out, HST.out.only HAZ.out id, hblk, Hhvb.out.only hA2 id, Hmb.out.only hA2 id, Honb.out.only hA2 id, Hpub.out.only hA2 id, fun t _ => World.ownsRow_nil _ _ _ _, fun _ _ _ => rfl, fun t t' g _ _ _ h => (by cases h), HA3.out.thenF HAZ.out⟩)
          have hlo := (show (onb ≠ pub ∧ onb ≠ fb ∧ pub ≠ fb) ∧ (w.heap.size ≤ gb ∧ w.heap.size ≤ hvb ∧ w.heap.size ≤ mb ∧ w.heap.size ≤ onb ∧ w.heap.size ≤ pub) from by have z1 := HB.out.mem.fr.lt; have z2 := Lhvb.out; have z3 := Lmb.out; have z4 := Lonb.out; have z5 := Lpub.out; have z6 := HSZ.out; exact ⟨⟨HNE.out, by omega, by omega⟩, by omega, by omega, by omega, by omega, by omega⟩)
          have HNG := Lib.hid hng; have HLZ := Lib.hid hlo
          refine hK.out _ _ hg9 (fun hHeld => ?_)
          clear hK hZ hA2 hbb hg9 hblk hng hlo hgl
          try simp only [Act.put, List.getElem_toArray, List.getElem_cons_succ, List.getElem_cons_zero, List.setIfInBounds_toArray, List.set_cons_zero, List.set_cons_succ]
          refine wpAnyH_take (i := 16) (v := (.pointer (some ⟨gb, 0, none⟩))) rfl (by kernel_rfl) (by kernel_rfl) (by kernel_rfl) (fun _ _ _ h => h) (Or.inl ⟨by rfl, fun W hS => by first | rfl | (go_simp; done)⟩) hHeld ?_
          try simp only [Act.put, List.getElem_toArray, List.getElem_cons_succ, List.getElem_cons_zero, List.setIfInBounds_toArray, List.set_cons_zero, List.set_cons_succ]
          refine wpAnyH_done (by kernel_rfl) ?_ _
          go_wp2_with fail
          go_meet
          exact ⟨gb, hvb, mb, onb, pub, rfl, HNG, HLZ⟩
    · simp only [List.getElem_toArray, List.getElem_cons_succ, List.getElem_cons_zero]
      go_simp
      obtain ⟨Y33, hV2⟩ : ∃ Y, D.alloc (.cells (rowOf n (fun _ => .bool false)) 4) = Y := ⟨_, rfl⟩
      obtain ⟨onb, hbb⟩ : ∃ q, D.heap.size = q := ⟨_, rfl⟩
      have hA2 : Adds D Y33 := by rw [← hV2]; exact (Only.refl (fun _ => False) D).alloc _
      have hblk : Blk Y33 onb (rowOf n (fun _ => .bool false)) 4 := by rw [← hV2, ← hbb]; exact Blk.new D _ _
      have Honb := Lib.hid hblk
      have Lonb := Lib.hid (show w3.heap.size ≤ onb by have := HAD.out.size; omega)
      try rw [hV2]
      try rw [hbb]
      have hg9 := cellA hHeld hA2
      replace HAD := Lib.hid (HAD.out.thenF hA2)
      refine hK.out _ _ hg9 (fun hHeld => ?_)
      clear hK hV2 hA2 hbb hg9 hblk
      try simp only [Act.put, List.getElem_toArray, List.getElem_cons_succ, List.getElem_cons_zero, List.setIfInBounds_toArray, List.set_cons_zero, List.set_cons_succ]
      refine wpAnyH_ready (rs := [4, 7, 13]) (by kernel_rfl) (by simp) (AllReadyH.cons rfl (fun K hK => ?_) (AllReadyH.cons rfl (fun K hK => ?_) (AllReadyH.cons rfl (fun K hK => ?_) AllReadyH.nil)))
      · simp only [List.getElem_toArray, List.getElem_cons_succ, List.getElem_cons_zero]
        go_simp
        obtain ⟨Y34, hV2⟩ : ∃ Y, Y33.alloc (.cells (rowOf n (fun _ => .slice none 0 0)) 54) = Y := ⟨_, rfl⟩
        obtain ⟨hvb, hbb⟩ : ∃ q, Y33.heap.size = q := ⟨_, rfl⟩
        have hA2 : Adds Y33 Y34 := by rw [← hV2]; exact (Only.refl (fun _ => False) Y33).alloc _
        have hblk : Blk Y34 hvb (rowOf n (fun _ => .slice none 0 0)) 54 := by rw [← hV2, ← hbb]; exact Blk.new Y33 _ _
        have Hhvb := Lib.hid hblk
        have Lhvb := Lib.hid (show w3.heap.size ≤ hvb by have := HAD.out.size; omega)
        replace Honb := Lib.hid (Honb.out.only hA2 id)
        try rw [hV2]
        try rw [hbb]
        have hg9 := cellA hHeld hA2
        replace HAD := Lib.hid (HAD.out.thenF hA2)
        refine hK.out _ _ hg9 (fun hHeld => ?_)
        clear hK hV2 hA2 hbb hg9 hblk
        try simp only [Act.put, List.getElem_toArray, List.getElem_cons_succ, List.getElem_cons_zero, List.setIfInBounds_toArray, List.set_cons_zero, List.set_cons_succ]
        refine wpAnyH_ready (rs := [7, 13]) (by kernel_rfl) (by simp) (AllReadyH.cons rfl (fun K hK => ?_) (AllReadyH.cons rfl (fun K hK => ?_) AllReadyH.nil))
        · simp only [List.getElem_toArray, List.getElem_cons_succ, List.getElem_cons_zero]
          go_simp
          obtain ⟨Y35, hV2⟩ : ∃ Y, Y34.alloc (.cells (rowOf (n * 3) (fun _ => .pointer none)) 47) = Y := ⟨_, rfl⟩
          obtain ⟨mb, hbb⟩ : ∃ q, Y34.heap.size = q := ⟨_, rfl⟩
          have hA2 : Adds Y34 Y35 := by rw [← hV2]; exact (Only.refl (fun _ => False) Y34).alloc _
          have hblk : Blk Y35 mb (rowOf (n * 3) (fun _ => .pointer none)) 47 := by rw [← hV2, ← hbb]; exact Blk.new Y34 _ _
          have Hmb := Lib.hid hblk
          have Lmb := Lib.hid (show w3.heap.size ≤ mb by have := HAD.out.size; omega)
          replace Honb := Lib.hid (Honb.out.only hA2 id)
          replace Hhvb := Lib.hid (Hhvb.out.only hA2 id)
          try rw [hV2]
          try rw [hbb]
          have hg9 := cellA hHeld hA2
          replace HAD := Lib.hid (HAD.out.thenF hA2)
          refine hK.out _ _ hg9 (fun hHeld => ?_)
          clear hK hV2 hA2 hbb hg9 hblk
          try simp only [Act.put, List.getElem_toArray, List.getElem_cons_succ, List.getElem_cons_zero, List.setIfInBounds_toArray, List.set_cons_zero, List.set_cons_succ]
          refine wpAnyH_ready (rs := [13]) (by kernel_rfl) (by simp) (AllReadyH.cons rfl (fun K hK => ?_) AllReadyH.nil)
          simp only [List.getElem_toArray, List.getElem_cons_succ, List.getElem_cons_zero]
          go_simp
          obtain ⟨Y36, hV2⟩ : ∃ Y, Y35.alloc (.cells (rowOf n (fun _ => .bool false)) 4) = Y := ⟨_, rfl⟩
          obtain ⟨pub, hbb⟩ : ∃ q, Y35.heap.size = q := ⟨_, rfl⟩
          have hA2 : Adds Y35 Y36 := by rw [← hV2]; exact (Only.refl (fun _ => False) Y35).alloc _
          have hblk : Blk Y36 pub (rowOf n (fun _ => .bool false)) 4 := by rw [← hV2, ← hbb]; exact Blk.new Y35 _ _
          have Hpub := Lib.hid hblk
          have Lpub := Lib.hid (show w3.heap.size ≤ pub by have := HAD.out.size; omega)
          have HNE := Lib.hid (show pub ≠ onb by have := Honb.out.lt; omega)
          replace Honb := Lib.hid (Honb.out.only hA2 id)
          replace Hhvb := Lib.hid (Hhvb.out.only hA2 id)
          replace Hmb := Lib.hid (Hmb.out.only hA2 id)
          try rw [hV2]
          try rw [hbb]
          have hg9 := cellA hHeld hA2
          replace HAD := Lib.hid (HAD.out.thenF hA2)
          refine hK.out _ _ hg9 (fun hHeld => ?_)
          clear hK hV2 hA2 hbb hg9 hblk
          try simp only [Act.put, List.getElem_toArray, List.getElem_cons_succ, List.getElem_cons_zero, List.setIfInBounds_toArray, List.set_cons_zero, List.set_cons_succ]
          refine wpAnyH_take (i := 14) (v := (.agg (gmC ab bb hvb mb onb pub n))) rfl (by kernel_rfl) (by kernel_rfl) (by kernel_rfl) (fun _ _ _ h => h) (Or.inl ⟨by rfl, fun W hS => by first | rfl | (go_simp; done)⟩) hHeld ?_
          try simp only [Act.put, List.getElem_toArray, List.getElem_cons_succ, List.getElem_cons_zero, List.setIfInBounds_toArray, List.set_cons_zero, List.set_cons_succ]
          refine wpAnyH_ready (rs := [15]) (by kernel_rfl) (by simp) (AllReadyH.cons rfl (fun K hK => ?_) AllReadyH.nil)
          simp only [List.getElem_toArray, List.getElem_cons_succ, List.getElem_cons_zero]
          go_simp
          obtain ⟨Z, hZ⟩ : ∃ Y, Y36.alloc (.cells (gmC ab bb hvb mb onb pub n) 37) = Y := ⟨_, rfl⟩
          obtain ⟨gb, hbb⟩ : ∃ q, Y36.heap.size = q := ⟨_, rfl⟩
          have hA2 : Adds Y36 Z := by rw [← hZ]; exact (Only.refl (fun _ => False) Y36).alloc _
          have hblk : Blk Z gb (gmC ab bb hvb mb onb pub n) 37 := by rw [← hZ, ← hbb]; exact Blk.new Y36 _ _
          have hgl : w3.heap.size ≤ gb := by have := HAD.out.size; omega
          try rw [hZ]
          try rw [hbb]
          have hg9 := cellA hHeld hA2
          have HAZ := Lib.hid (HAD.out.thenF hA2)
          have hng := (show NG w ab sb sm rb rg bb tb tm ub fb gb hvb mb onb pub stb n pn 0 S0 Z (fun _ => .slice none 0 0) from ⟨HB.out.adds HAZ.out, HST.out.only HAZ.out id, hblk, Hhvb.out.only hA2 id, Hmb.out.only hA2 id, Honb.out.only hA2 id, Hpub.out.only hA2 id, fun t _ => World.ownsRow_nil _ _ _ _, fun _ _ _ => rfl, fun t t' g _ _ _ h => (by cases h), HA3.out.thenF HAZ.out⟩)
          have hlo := (show (onb ≠ pub ∧ onb ≠ fb ∧ pub ≠ fb) ∧ (w.heap.size ≤ gb ∧ w.heap.size ≤ hvb ∧ w.heap.size ≤ mb ∧ w.heap.size ≤ onb ∧ w.heap.size ≤ pub) from by have z1 := HB.out.mem.fr.lt; have z2 := Lhvb.out; have z3 := Lmb.out; have z4 := Lonb.out; have z5 := Lpub.out; have z6 := HSZ.out; exact ⟨⟨(fun e => HNE.out e.symm), by omega, by omega⟩, by omega, by omega, by omega, by omega, by omega⟩)
          have HNG := Lib.hid hng; have HLZ := Lib.hid hlo
          refine hK.out _ _ hg9 (fun hHeld => ?_)
          clear hK hZ hA2 hbb hg9 hblk hng hlo hgl
          try simp only [Act.put, List.getElem_toArray, List.getElem_cons_succ, List.getElem_cons_zero, List.setIfInBounds_toArray, List.set_cons_zero, List.set_cons_succ]
          refine wpAnyH_take (i := 16) (v := (.pointer (some ⟨gb, 0, none⟩))) rfl (by kernel_rfl) (by kernel_rfl) (by kernel_rfl) (fun _ _ _ h => h) (Or.inl ⟨by rfl, fun W hS => by first | rfl | (go_simp; done)⟩) hHeld ?_
          try simp only [Act.put, List.getElem_toArray, List.getElem_cons_succ, List.getElem_cons_zero, List.setIfInBounds_toArray, List.set_cons_zero, List.set_cons_succ]
          refine wpAnyH_done (by kernel_rfl) ?_ _
          go_wp2_with fail
          go_meet
          exact ⟨gb, hvb, mb, onb, pub, rfl, HNG, HLZ⟩
        · simp only [List.getElem_toArray, List.getElem_cons_succ, List.getElem_cons_zero]
          go_simp
          obtain ⟨Y37, hV2⟩ : ∃ Y, Y34.alloc (.cells (rowOf n (fun _ => .bool false)) 4) = Y := ⟨_, rfl⟩
          obtain ⟨pub, hbb⟩ : ∃ q, Y34.heap.size = q := ⟨_, rfl⟩
          have hA2 : Adds Y34 Y37 := by rw [← hV2]; exact (Only.refl (fun _ => False) Y34).alloc _
          have hblk : Blk Y37 pub (rowOf n (fun _ => .bool false)) 4 := by rw [← hV2, ← hbb]; exact Blk.new Y34 _ _
          have Hpub := Lib.hid hblk
          have Lpub := Lib.hid (show w3.heap.size ≤ pub by have := HAD.out.size; omega)
          have HNE := Lib.hid (show pub ≠ onb by have := Honb.out.lt; omega)
          replace Honb := Lib.hid (Honb.out.only hA2 id)
          replace Hhvb := Lib.hid (Hhvb.out.only hA2 id)
          try rw [hV2]
          try rw [hbb]
          have hg9 := cellA hHeld hA2
          replace HAD := Lib.hid (HAD.out.thenF hA2)
          refine hK.out _ _ hg9 (fun hHeld => ?_)
          clear hK hV2 hA2 hbb hg9 hblk
          try simp only [Act.put, List.getElem_toArray, List.getElem_cons_succ, List.getElem_cons_zero, List.setIfInBounds_toArray, List.set_cons_zero, List.set_cons_succ]
          refine wpAnyH_ready (rs := [7]) (by kernel_rfl) (by simp) (AllReadyH.cons rfl (fun K hK => ?_) AllReadyH.nil)
          simp only [List.getElem_toArray, List.getElem_cons_succ, List.getElem_cons_zero]
          go_simp
          obtain ⟨Y38, hV2⟩ : ∃ Y, Y37.alloc (.cells (rowOf (n * 3) (fun _ => .pointer none)) 47) = Y := ⟨_, rfl⟩
          obtain ⟨mb, hbb⟩ : ∃ q, Y37.heap.size = q := ⟨_, rfl⟩
          have hA2 : Adds Y37 Y38 := by rw [← hV2]; exact (Only.refl (fun _ => False) Y37).alloc _
          have hblk : Blk Y38 mb (rowOf (n * 3) (fun _ => .pointer none)) 47 := by rw [← hV2, ← hbb]; exact Blk.new Y37 _ _
          have Hmb := Lib.hid hblk
          have Lmb := Lib.hid (show w3.heap.size ≤ mb by have := HAD.out.size; omega)
          replace Honb := Lib.hid (Honb.out.only hA2 id)
          replace Hhvb := Lib.hid (Hhvb.out.only hA2 id)
          replace Hpub := Lib.hid (Hpub.out.only hA2 id)
          try rw [hV2]
          try rw [hbb]
          have hg9 := cellA hHeld hA2
          replace HAD := Lib.hid (HAD.out.thenF hA2)
          refine hK.out _ _ hg9 (fun hHeld => ?_)
          clear hK hV2 hA2 hbb hg9 hblk
          try simp only [Act.put, List.getElem_toArray, List.getElem_cons_succ, List.getElem_cons_zero, List.setIfInBounds_toArray, List.set_cons_zero, List.set_cons_succ]
          refine wpAnyH_take (i := 14) (v := (.agg (gmC ab bb hvb mb onb pub n))) rfl (by kernel_rfl) (by kernel_rfl) (by kernel_rfl) (fun _ _ _ h => h) (Or.inl ⟨by rfl, fun W hS => by first | rfl | (go_simp; done)⟩) hHeld ?_
          try simp only [Act.put, List.getElem_toArray, List.getElem_cons_succ, List.getElem_cons_zero, List.setIfInBounds_toArray, List.set_cons_zero, List.set_cons_succ]
          refine wpAnyH_ready (rs := [15]) (by kernel_rfl) (by simp) (AllReadyH.cons rfl (fun K hK => ?_) AllReadyH.nil)
          simp only [List.getElem_toArray, List.getElem_cons_succ, List.getElem_cons_zero]
          go_simp
          obtain ⟨Z, hZ⟩ : ∃ Y, Y38.alloc (.cells (gmC ab bb hvb mb onb pub n) 37) = Y := ⟨_, rfl⟩
          obtain ⟨gb, hbb⟩ : ∃ q, Y38.heap.size = q := ⟨_, rfl⟩
          have hA2 : Adds Y38 Z := by rw [← hZ]; exact (Only.refl (fun _ => False) Y38).alloc _
          have hblk : Blk Z gb (gmC ab bb hvb mb onb pub n) 37 := by rw [← hZ, ← hbb]; exact Blk.new Y38 _ _
          have hgl : w3.heap.size ≤ gb := by have := HAD.out.size; omega
          try rw [hZ]
          try rw [hbb]
          have hg9 := cellA hHeld hA2
          have HAZ := Lib.hid (HAD.out.thenF hA2)
          have hng := (show NG w ab sb sm rb rg bb tb tm ub fb gb hvb mb onb pub stb n pn 0 S0 Z (fun _ => .slice none 0 0) from ⟨HB.out.adds HAZ.out, HST.out.only HAZ.out id, hblk, Hhvb.out.only hA2 id, Hmb.out.only hA2 id, Honb.out.only hA2 id, Hpub.out.only hA2 id, fun t _ => World.ownsRow_nil _ _ _ _, fun _ _ _ => rfl, fun t t' g _ _ _ h => (by cases h), HA3.out.thenF HAZ.out⟩)
          have hlo := (show (onb ≠ pub ∧ onb ≠ fb ∧ pub ≠ fb) ∧ (w.heap.size ≤ gb ∧ w.heap.size ≤ hvb ∧ w.heap.size ≤ mb ∧ w.heap.size ≤ onb ∧ w.heap.size ≤ pub) from by have z1 := HB.out.mem.fr.lt; have z2 := Lhvb.out; have z3 := Lmb.out; have z4 := Lonb.out; have z5 := Lpub.out; have z6 := HSZ.out; exact ⟨⟨(fun e => HNE.out e.symm), by omega, by omega⟩, by omega, by omega, by omega, by omega, by omega⟩)
          have HNG := Lib.hid hng; have HLZ := Lib.hid hlo
          refine hK.out _ _ hg9 (fun hHeld => ?_)
          clear hK hZ hA2 hbb hg9 hblk hng hlo hgl
          try simp only [Act.put, List.getElem_toArray, List.getElem_cons_succ, List.getElem_cons_zero, List.setIfInBounds_toArray, List.set_cons_zero, List.set_cons_succ]
          refine wpAnyH_take (i := 16) (v := (.pointer (some ⟨gb, 0, none⟩))) rfl (by kernel_rfl) (by kernel_rfl) (by kernel_rfl) (fun _ _ _ h => h) (Or.inl ⟨by rfl, fun W hS => by first | rfl | (go_simp; done)⟩) hHeld ?_
          try simp only [Act.put, List.getElem_toArray, List.getElem_cons_succ, List.getElem_cons_zero, List.setIfInBounds_toArray, List.set_cons_zero, List.set_cons_succ]
          refine wpAnyH_done (by kernel_rfl) ?_ _
          go_wp2_with fail
          go_meet
          exact ⟨gb, hvb, mb, onb, pub, rfl, HNG, HLZ⟩
      · simp only [List.getElem_toArray, List.getElem_cons_succ, List.getElem_cons_zero]
        go_simp
        obtain ⟨Y39, hV2⟩ : ∃ Y, Y33.alloc (.cells (rowOf (n * 3) (fun _ => .pointer none)) 47) = Y := ⟨_, rfl⟩
        obtain ⟨mb, hbb⟩ : ∃ q, Y33.heap.size = q := ⟨_, rfl⟩
        have hA2 : Adds Y33 Y39 := by rw [← hV2]; exact (Only.refl (fun _ => False) Y33).alloc _
        have hblk : Blk Y39 mb (rowOf (n * 3) (fun _ => .pointer none)) 47 := by rw [← hV2, ← hbb]; exact Blk.new Y33 _ _
        have Hmb := Lib.hid hblk
        have Lmb := Lib.hid (show w3.heap.size ≤ mb by have := HAD.out.size; omega)
        replace Honb := Lib.hid (Honb.out.only hA2 id)
        try rw [hV2]
        try rw [hbb]
        have hg9 := cellA hHeld hA2
        replace HAD := Lib.hid (HAD.out.thenF hA2)
        refine hK.out _ _ hg9 (fun hHeld => ?_)
        clear hK hV2 hA2 hbb hg9 hblk
        try simp only [Act.put, List.getElem_toArray, List.getElem_cons_succ, List.getElem_cons_zero, List.setIfInBounds_toArray, List.set_cons_zero, List.set_cons_succ]
        refine wpAnyH_ready (rs := [4, 13]) (by kernel_rfl) (by simp) (AllReadyH.cons rfl (fun K hK => ?_) (AllReadyH.cons rfl (fun K hK => ?_) AllReadyH.nil))
        · simp only [List.getElem_toArray, List.getElem_cons_succ, List.getElem_cons_zero]
          go_simp
          obtain ⟨Y40, hV2⟩ : ∃ Y, Y39.alloc (.cells (rowOf n (fun _ => .slice none 0 0)) 54) = Y := ⟨_, rfl⟩
          obtain ⟨hvb, hbb⟩ : ∃ q, Y39.heap.size = q := ⟨_, rfl⟩
          have hA2 : Adds Y39 Y40 := by rw [← hV2]; exact (Only.refl (fun _ => False) Y39).alloc _
          have hblk : Blk Y40 hvb (rowOf n (fun _ => .slice none 0 0)) 54 := by rw [← hV2, ← hbb]; exact Blk.new Y39 _ _
          have Hhvb := Lib.hid hblk
          have Lhvb := Lib.hid (show w3.heap.size ≤ hvb by have := HAD.out.size; omega)
          replace Honb := Lib.hid (Honb.out.only hA2 id)
          replace Hmb := Lib.hid (Hmb.out.only hA2 id)
          try rw [hV2]
          try rw [hbb]
          have hg9 := cellA hHeld hA2
          replace HAD := Lib.hid (HAD.out.thenF hA2)
          refine hK.out _ _ hg9 (fun hHeld => ?_)
          clear hK hV2 hA2 hbb hg9 hblk
          try simp only [Act.put, List.getElem_toArray, List.getElem_cons_succ, List.getElem_cons_zero, List.setIfInBounds_toArray, List.set_cons_zero, List.set_cons_succ]
          refine wpAnyH_ready (rs := [13]) (by kernel_rfl) (by simp) (AllReadyH.cons rfl (fun K hK => ?_) AllReadyH.nil)
          simp only [List.getElem_toArray, List.getElem_cons_succ, List.getElem_cons_zero]
          go_simp
          obtain ⟨Y41, hV2⟩ : ∃ Y, Y40.alloc (.cells (rowOf n (fun _ => .bool false)) 4) = Y := ⟨_, rfl⟩
          obtain ⟨pub, hbb⟩ : ∃ q, Y40.heap.size = q := ⟨_, rfl⟩
          have hA2 : Adds Y40 Y41 := by rw [← hV2]; exact (Only.refl (fun _ => False) Y40).alloc _
          have hblk : Blk Y41 pub (rowOf n (fun _ => .bool false)) 4 := by rw [← hV2, ← hbb]; exact Blk.new Y40 _ _
          have Hpub := Lib.hid hblk
          have Lpub := Lib.hid (show w3.heap.size ≤ pub by have := HAD.out.size; omega)
          have HNE := Lib.hid (show pub ≠ onb by have := Honb.out.lt; omega)
          replace Honb := Lib.hid (Honb.out.only hA2 id)
          replace Hmb := Lib.hid (Hmb.out.only hA2 id)
          replace Hhvb := Lib.hid (Hhvb.out.only hA2 id)
          try rw [hV2]
          try rw [hbb]
          have hg9 := cellA hHeld hA2
          replace HAD := Lib.hid (HAD.out.thenF hA2)
          refine hK.out _ _ hg9 (fun hHeld => ?_)
          clear hK hV2 hA2 hbb hg9 hblk
          try simp only [Act.put, List.getElem_toArray, List.getElem_cons_succ, List.getElem_cons_zero, List.setIfInBounds_toArray, List.set_cons_zero, List.set_cons_succ]
          refine wpAnyH_take (i := 14) (v := (.agg (gmC ab bb hvb mb onb pub n))) rfl (by kernel_rfl) (by kernel_rfl) (by kernel_rfl) (fun _ _ _ h => h) (Or.inl ⟨by rfl, fun W hS => by first | rfl | (go_simp; done)⟩) hHeld ?_
          try simp only [Act.put, List.getElem_toArray, List.getElem_cons_succ, List.getElem_cons_zero, List.setIfInBounds_toArray, List.set_cons_zero, List.set_cons_succ]
          refine wpAnyH_ready (rs := [15]) (by kernel_rfl) (by simp) (AllReadyH.cons rfl (fun K hK => ?_) AllReadyH.nil)
          simp only [List.getElem_toArray, List.getElem_cons_succ, List.getElem_cons_zero]
          go_simp
          obtain ⟨Z, hZ⟩ : ∃ Y, Y41.alloc (.cells (gmC ab bb hvb mb onb pub n) 37) = Y := ⟨_, rfl⟩
          obtain ⟨gb, hbb⟩ : ∃ q, Y41.heap.size = q := ⟨_, rfl⟩
          have hA2 : Adds Y41 Z := by rw [← hZ]; exact (Only.refl (fun _ => False) Y41).alloc _
          have hblk : Blk Z gb (gmC ab bb hvb mb onb pub n) 37 := by rw [← hZ, ← hbb]; exact Blk.new Y41 _ _
          have hgl : w3.heap.size ≤ gb := by have := HAD.out.size; omega
          try rw [hZ]
          try rw [hbb]
          have hg9 := cellA hHeld hA2
          have HAZ := Lib.hid (HAD.out.thenF hA2)
          have hng := (show NG w ab sb sm rb rg bb tb tm ub fb gb hvb mb onb pub stb n pn 0 S0 Z (fun _ => .slice none 0 0) from ⟨HB.out.adds HAZ.out, HST.out.only HAZ.out id, hblk, Hhvb.out.only hA2 id, Hmb.out.only hA2 id, Honb.out.only hA2 id, Hpub.out.only hA2 id, fun t _ => World.ownsRow_nil _ _ _ _, fun _ _ _ => rfl, fun t t' g _ _ _ h => (by cases h), HA3.out.thenF HAZ.out⟩)
          have hlo := (show (onb ≠ pub ∧ onb ≠ fb ∧ pub ≠ fb) ∧ (w.heap.size ≤ gb ∧ w.heap.size ≤ hvb ∧ w.heap.size ≤ mb ∧ w.heap.size ≤ onb ∧ w.heap.size ≤ pub) from by have z1 := HB.out.mem.fr.lt; have z2 := Lhvb.out; have z3 := Lmb.out; have z4 := Lonb.out; have z5 := Lpub.out; have z6 := HSZ.out; exact ⟨⟨(fun e => HNE.out e.symm), by omega, by omega⟩, by omega, by omega, by omega, by omega, by omega⟩)
          have HNG := Lib.hid hng; have HLZ := Lib.hid hlo
          refine hK.out _ _ hg9 (fun hHeld => ?_)
          clear hK hZ hA2 hbb hg9 hblk hng hlo hgl
          try simp only [Act.put, List.getElem_toArray, List.getElem_cons_succ, List.getElem_cons_zero, List.setIfInBounds_toArray, List.set_cons_zero, List.set_cons_succ]
          refine wpAnyH_take (i := 16) (v := (.pointer (some ⟨gb, 0, none⟩))) rfl (by kernel_rfl) (by kernel_rfl) (by kernel_rfl) (fun _ _ _ h => h) (Or.inl ⟨by rfl, fun W hS => by first | rfl | (go_simp; done)⟩) hHeld ?_
          try simp only [Act.put, List.getElem_toArray, List.getElem_cons_succ, List.getElem_cons_zero, List.setIfInBounds_toArray, List.set_cons_zero, List.set_cons_succ]
          refine wpAnyH_done (by kernel_rfl) ?_ _
          go_wp2_with fail
          go_meet
          exact ⟨gb, hvb, mb, onb, pub, rfl, HNG, HLZ⟩
        · simp only [List.getElem_toArray, List.getElem_cons_succ, List.getElem_cons_zero]
          go_simp
          obtain ⟨Y42, hV2⟩ : ∃ Y, Y39.alloc (.cells (rowOf n (fun _ => .bool false)) 4) = Y := ⟨_, rfl⟩
          obtain ⟨pub, hbb⟩ : ∃ q, Y39.heap.size = q := ⟨_, rfl⟩
          have hA2 : Adds Y39 Y42 := by rw [← hV2]; exact (Only.refl (fun _ => False) Y39).alloc _
          have hblk : Blk Y42 pub (rowOf n (fun _ => .bool false)) 4 := by rw [← hV2, ← hbb]; exact Blk.new Y39 _ _
          have Hpub := Lib.hid hblk
          have Lpub := Lib.hid (show w3.heap.size ≤ pub by have := HAD.out.size; omega)
          have HNE := Lib.hid (show pub ≠ onb by have := Honb.out.lt; omega)
          replace Honb := Lib.hid (Honb.out.only hA2 id)
          replace Hmb := Lib.hid (Hmb.out.only hA2 id)
          try rw [hV2]
          try rw [hbb]
          have hg9 := cellA hHeld hA2
          replace HAD := Lib.hid (HAD.out.thenF hA2)
          refine hK.out _ _ hg9 (fun hHeld => ?_)
          clear hK hV2 hA2 hbb hg9 hblk
          try simp only [Act.put, List.getElem_toArray, List.getElem_cons_succ, List.getElem_cons_zero, List.setIfInBounds_toArray, List.set_cons_zero, List.set_cons_succ]
          refine wpAnyH_ready (rs := [4]) (by kernel_rfl) (by simp) (AllReadyH.cons rfl (fun K hK => ?_) AllReadyH.nil)
          simp only [List.getElem_toArray, List.getElem_cons_succ, List.getElem_cons_zero]
          go_simp
          obtain ⟨Y43, hV2⟩ : ∃ Y, Y42.alloc (.cells (rowOf n (fun _ => .slice none 0 0)) 54) = Y := ⟨_, rfl⟩
          obtain ⟨hvb, hbb⟩ : ∃ q, Y42.heap.size = q := ⟨_, rfl⟩
          have hA2 : Adds Y42 Y43 := by rw [← hV2]; exact (Only.refl (fun _ => False) Y42).alloc _
          have hblk : Blk Y43 hvb (rowOf n (fun _ => .slice none 0 0)) 54 := by rw [← hV2, ← hbb]; exact Blk.new Y42 _ _
          have Hhvb := Lib.hid hblk
          have Lhvb := Lib.hid (show w3.heap.size ≤ hvb by have := HAD.out.size; omega)
          replace Honb := Lib.hid (Honb.out.only hA2 id)
          replace Hmb := Lib.hid (Hmb.out.only hA2 id)
          replace Hpub := Lib.hid (Hpub.out.only hA2 id)
          try rw [hV2]
          try rw [hbb]
          have hg9 := cellA hHeld hA2
          replace HAD := Lib.hid (HAD.out.thenF hA2)
          refine hK.out _ _ hg9 (fun hHeld => ?_)
          clear hK hV2 hA2 hbb hg9 hblk
          try simp only [Act.put, List.getElem_toArray, List.getElem_cons_succ, List.getElem_cons_zero, List.setIfInBounds_toArray, List.set_cons_zero, List.set_cons_succ]
          refine wpAnyH_take (i := 14) (v := (.agg (gmC ab bb hvb mb onb pub n))) rfl (by kernel_rfl) (by kernel_rfl) (by kernel_rfl) (fun _ _ _ h => h) (Or.inl ⟨by rfl, fun W hS => by first | rfl | (go_simp; done)⟩) hHeld ?_
          try simp only [Act.put, List.getElem_toArray, List.getElem_cons_succ, List.getElem_cons_zero, List.setIfInBounds_toArray, List.set_cons_zero, List.set_cons_succ]
          refine wpAnyH_ready (rs := [15]) (by kernel_rfl) (by simp) (AllReadyH.cons rfl (fun K hK => ?_) AllReadyH.nil)
          simp only [List.getElem_toArray, List.getElem_cons_succ, List.getElem_cons_zero]
          go_simp
          obtain ⟨Z, hZ⟩ : ∃ Y, Y43.alloc (.cells (gmC ab bb hvb mb onb pub n) 37) = Y := ⟨_, rfl⟩
          obtain ⟨gb, hbb⟩ : ∃ q, Y43.heap.size = q := ⟨_, rfl⟩
          have hA2 : Adds Y43 Z := by rw [← hZ]; exact (Only.refl (fun _ => False) Y43).alloc _
          have hblk : Blk Z gb (gmC ab bb hvb mb onb pub n) 37 := by rw [← hZ, ← hbb]; exact Blk.new Y43 _ _
          have hgl : w3.heap.size ≤ gb := by have := HAD.out.size; omega
          try rw [hZ]
          try rw [hbb]
          have hg9 := cellA hHeld hA2
          have HAZ := Lib.hid (HAD.out.thenF hA2)
          have hng := (show NG w ab sb sm rb rg bb tb tm ub fb gb hvb mb onb pub stb n pn 0 S0 Z (fun _ => .slice none 0 0) from ⟨HB.out.adds HAZ.out, HST.out.only HAZ.out id, hblk, Hhvb.out.only hA2 id, Hmb.out.only hA2 id, Honb.out.only hA2 id, Hpub.out.only hA2 id, fun t _ => World.ownsRow_nil _ _ _ _, fun _ _ _ => rfl, fun t t' g _ _ _ h => (by cases h), HA3.out.thenF HAZ.out⟩)
          have hlo := (show (onb ≠ pub ∧ onb ≠ fb ∧ pub ≠ fb) ∧ (w.heap.size ≤ gb ∧ w.heap.size ≤ hvb ∧ w.heap.size ≤ mb ∧ w.heap.size ≤ onb ∧ w.heap.size ≤ pub) from by have z1 := HB.out.mem.fr.lt; have z2 := Lhvb.out; have z3 := Lmb.out; have z4 := Lonb.out; have z5 := Lpub.out; have z6 := HSZ.out; exact ⟨⟨(fun e => HNE.out e.symm), by omega, by omega⟩, by omega, by omega, by omega, by omega, by omega⟩)
          have HNG := Lib.hid hng; have HLZ := Lib.hid hlo
          refine hK.out _ _ hg9 (fun hHeld => ?_)
          clear hK hZ hA2 hbb hg9 hblk hng hlo hgl
          try simp only [Act.put, List.getElem_toArray, List.getElem_cons_succ, List.getElem_cons_zero, List.setIfInBounds_toArray, List.set_cons_zero, List.set_cons_succ]
          refine wpAnyH_take (i := 16) (v := (.pointer (some ⟨gb, 0, none⟩))) rfl (by kernel_rfl) (by kernel_rfl) (by kernel_rfl) (fun _ _ _ h => h) (Or.inl ⟨by rfl, fun W hS => by first | rfl | (go_simp; done)⟩) hHeld ?_
          try simp only [Act.put, List.getElem_toArray, List.getElem_cons_succ, List.getElem_cons_zero, List.setIfInBounds_toArray, List.set_cons_zero, List.set_cons_succ]
          refine wpAnyH_done (by kernel_rfl) ?_ _
          go_wp2_with fail
          go_meet
          exact ⟨gb, hvb, mb, onb, pub, rfl, HNG, HLZ⟩
      · simp only [List.getElem_toArray, List.getElem_cons_succ, List.getElem_cons_zero]
        go_simp
        obtain ⟨Y44, hV2⟩ : ∃ Y, Y33.alloc (.cells (rowOf n (fun _ => .bool false)) 4) = Y := ⟨_, rfl⟩
        obtain ⟨pub, hbb⟩ : ∃ q, Y33.heap.size = q := ⟨_, rfl⟩
        have hA2 : Adds Y33 Y44 := by rw [← hV2]; exact (Only.refl (fun _ => False) Y33).alloc _
        have hblk : Blk Y44 pub (rowOf n (fun _ => .bool false)) 4 := by rw [← hV2, ← hbb]; exact Blk.new Y33 _ _
        have Hpub := Lib.hid hblk
        have Lpub := Lib.hid (show w3.heap.size ≤ pub by have := HAD.out.size; omega)
        have HNE := Lib.hid (show pub ≠ onb by have := Honb.out.lt; omega)
        replace Honb := Lib.hid (Honb.out.only hA2 id)
        try rw [hV2]
        try rw [hbb]
        have hg9 := cellA hHeld hA2
        replace HAD := Lib.hid (HAD.out.thenF hA2)
        refine hK.out _ _ hg9 (fun hHeld => ?_)
        clear hK hV2 hA2 hbb hg9 hblk
        try simp only [Act.put, List.getElem_toArray, List.getElem_cons_succ, List.getElem_cons_zero, List.setIfInBounds_toArray, List.set_cons_zero, List.set_cons_succ]
        refine wpAnyH_ready (rs := [4, 7]) (by kernel_rfl) (by simp) (AllReadyH.cons rfl (fun K hK => ?_) (AllReadyH.cons rfl (fun K hK => ?_) AllReadyH.nil))
        · simp only [List.getElem_toArray, List.getElem_cons_succ, List.getElem_cons_zero]
          go_simp
          obtain ⟨Y45, hV2⟩ : ∃ Y, Y44.alloc (.cells (rowOf n (fun _ => .slice none 0 0)) 54) = Y := ⟨_, rfl⟩
          obtain ⟨hvb, hbb⟩ : ∃ q, Y44.heap.size = q := ⟨_, rfl⟩
          have hA2 : Adds Y44 Y45 := by rw [← hV2]; exact (Only.refl (fun _ => False) Y44).alloc _
          have hblk : Blk Y45 hvb (rowOf n (fun _ => .slice none 0 0)) 54 := by rw [← hV2, ← hbb]; exact Blk.new Y44 _ _
          have Hhvb := Lib.hid hblk
          have Lhvb := Lib.hid (show w3.heap.size ≤ hvb by have := HAD.out.size; omega)
          replace Honb := Lib.hid (Honb.out.only hA2 id)
          replace Hpub := Lib.hid (Hpub.out.only hA2 id)
          try rw [hV2]
          try rw [hbb]
          have hg9 := cellA hHeld hA2
          replace HAD := Lib.hid (HAD.out.thenF hA2)
          refine hK.out _ _ hg9 (fun hHeld => ?_)
          clear hK hV2 hA2 hbb hg9 hblk
          try simp only [Act.put, List.getElem_toArray, List.getElem_cons_succ, List.getElem_cons_zero, List.setIfInBounds_toArray, List.set_cons_zero, List.set_cons_succ]
          refine wpAnyH_ready (rs := [7]) (by kernel_rfl) (by simp) (AllReadyH.cons rfl (fun K hK => ?_) AllReadyH.nil)
          simp only [List.getElem_toArray, List.getElem_cons_succ, List.getElem_cons_zero]
          go_simp
          obtain ⟨Y46, hV2⟩ : ∃ Y, Y45.alloc (.cells (rowOf (n * 3) (fun _ => .pointer none)) 47) = Y := ⟨_, rfl⟩
          obtain ⟨mb, hbb⟩ : ∃ q, Y45.heap.size = q := ⟨_, rfl⟩
          have hA2 : Adds Y45 Y46 := by rw [← hV2]; exact (Only.refl (fun _ => False) Y45).alloc _
          have hblk : Blk Y46 mb (rowOf (n * 3) (fun _ => .pointer none)) 47 := by rw [← hV2, ← hbb]; exact Blk.new Y45 _ _
          have Hmb := Lib.hid hblk
          have Lmb := Lib.hid (show w3.heap.size ≤ mb by have := HAD.out.size; omega)
          replace Honb := Lib.hid (Honb.out.only hA2 id)
          replace Hpub := Lib.hid (Hpub.out.only hA2 id)
          replace Hhvb := Lib.hid (Hhvb.out.only hA2 id)
          try rw [hV2]
          try rw [hbb]
          have hg9 := cellA hHeld hA2
          replace HAD := Lib.hid (HAD.out.thenF hA2)
          refine hK.out _ _ hg9 (fun hHeld => ?_)
          clear hK hV2 hA2 hbb hg9 hblk
          try simp only [Act.put, List.getElem_toArray, List.getElem_cons_succ, List.getElem_cons_zero, List.setIfInBounds_toArray, List.set_cons_zero, List.set_cons_succ]
          refine wpAnyH_take (i := 14) (v := (.agg (gmC ab bb hvb mb onb pub n))) rfl (by kernel_rfl) (by kernel_rfl) (by kernel_rfl) (fun _ _ _ h => h) (Or.inl ⟨by rfl, fun W hS => by first | rfl | (go_simp; done)⟩) hHeld ?_
          try simp only [Act.put, List.getElem_toArray, List.getElem_cons_succ, List.getElem_cons_zero, List.setIfInBounds_toArray, List.set_cons_zero, List.set_cons_succ]
          refine wpAnyH_ready (rs := [15]) (by kernel_rfl) (by simp) (AllReadyH.cons rfl (fun K hK => ?_) AllReadyH.nil)
          simp only [List.getElem_toArray, List.getElem_cons_succ, List.getElem_cons_zero]
          go_simp
          obtain ⟨Z, hZ⟩ : ∃ Y, Y46.alloc (.cells (gmC ab bb hvb mb onb pub n) 37) = Y := ⟨_, rfl⟩
          obtain ⟨gb, hbb⟩ : ∃ q, Y46.heap.size = q := ⟨_, rfl⟩
          have hA2 : Adds Y46 Z := by rw [← hZ]; exact (Only.refl (fun _ => False) Y46).alloc _
          have hblk : Blk Z gb (gmC ab bb hvb mb onb pub n) 37 := by rw [← hZ, ← hbb]; exact Blk.new Y46 _ _
          have hgl : w3.heap.size ≤ gb := by have := HAD.out.size; omega
          try rw [hZ]
          try rw [hbb]
          have hg9 := cellA hHeld hA2
          have HAZ := Lib.hid (HAD.out.thenF hA2)
          have hng := (show NG w ab sb sm rb rg bb tb tm ub fb gb hvb mb onb pub stb n pn 0 S0 Z (fun _ => .slice none 0 0) from ⟨HB.out.adds HAZ.out, HST.out.only HAZ.out id, hblk, Hhvb.out.only hA2 id, Hmb.out.only hA2 id, Honb.out.only hA2 id, Hpub.out.only hA2 id, fun t _ => World.ownsRow_nil _ _ _ _, fun _ _ _ => rfl, fun t t' g _ _ _ h => (by cases h), HA3.out.thenF HAZ.out⟩)
          have hlo := (show (onb ≠ pub ∧ onb ≠ fb ∧ pub ≠ fb) ∧ (w.heap.size ≤ gb ∧ w.heap.size ≤ hvb ∧ w.heap.size ≤ mb ∧ w.heap.size ≤ onb ∧ w.heap.size ≤ pub) from by have z1 := HB.out.mem.fr.lt; have z2 := Lhvb.out; have z3 := Lmb.out; have z4 := Lonb.out; have z5 := Lpub.out; have z6 := HSZ.out; exact ⟨⟨(fun e => HNE.out e.symm), by omega, by omega⟩, by omega, by omega, by omega, by omega, by omega⟩)
          have HNG := Lib.hid hng; have HLZ := Lib.hid hlo
          refine hK.out _ _ hg9 (fun hHeld => ?_)
          clear hK hZ hA2 hbb hg9 hblk hng hlo hgl
          try simp only [Act.put, List.getElem_toArray, List.getElem_cons_succ, List.getElem_cons_zero, List.setIfInBounds_toArray, List.set_cons_zero, List.set_cons_succ]
          refine wpAnyH_take (i := 16) (v := (.pointer (some ⟨gb, 0, none⟩))) rfl (by kernel_rfl) (by kernel_rfl) (by kernel_rfl) (fun _ _ _ h => h) (Or.inl ⟨by rfl, fun W hS => by first | rfl | (go_simp; done)⟩) hHeld ?_
          try simp only [Act.put, List.getElem_toArray, List.getElem_cons_succ, List.getElem_cons_zero, List.setIfInBounds_toArray, List.set_cons_zero, List.set_cons_succ]
          refine wpAnyH_done (by kernel_rfl) ?_ _
          go_wp2_with fail
          go_meet
          exact ⟨gb, hvb, mb, onb, pub, rfl, HNG, HLZ⟩
        · simp only [List.getElem_toArray, List.getElem_cons_succ, List.getElem_cons_zero]
          go_simp
          obtain ⟨Y47, hV2⟩ : ∃ Y, Y44.alloc (.cells (rowOf (n * 3) (fun _ => .pointer none)) 47) = Y := ⟨_, rfl⟩
          obtain ⟨mb, hbb⟩ : ∃ q, Y44.heap.size = q := ⟨_, rfl⟩
          have hA2 : Adds Y44 Y47 := by rw [← hV2]; exact (Only.refl (fun _ => False) Y44).alloc _
          have hblk : Blk Y47 mb (rowOf (n * 3) (fun _ => .pointer none)) 47 := by rw [← hV2, ← hbb]; exact Blk.new Y44 _ _
          have Hmb := Lib.hid hblk
          have Lmb := Lib.hid (show w3.heap.size ≤ mb by have := HAD.out.size; omega)
          replace Honb := Lib.hid (Honb.out.only hA2 id)
          replace Hpub := Lib.hid (Hpub.out.only hA2 id)
          try rw [hV2]
          try rw [hbb]
          have hg9 := cellA hHeld hA2
          replace HAD := Lib.hid (HAD.out.thenF hA2)
          refine hK.out _ _ hg9 (fun hHeld => ?_)
          clear hK hV2 hA2 hbb hg9 hblk
          try simp only [Act.put, List.getElem_toArray, List.getElem_cons_succ, List.getElem_cons_zero, List.setIfInBounds_toArray, List.set_cons_zero, List.set_cons_succ]
          refine wpAnyH_ready (rs := [4]) (by kernel_rfl) (by simp) (AllReadyH.cons rfl (fun K hK => ?_) AllReadyH.nil)
          simp only [List.getElem_toArray, List.getElem_cons_succ, List.getElem_cons_zero]
          go_simp
          obtain ⟨Y48, hV2⟩ : ∃ Y, Y47.alloc (.cells (rowOf n (fun _ => .slice none 0 0)) 54) = Y := ⟨_, rfl⟩
          obtain ⟨hvb, hbb⟩ : ∃ q, Y47.heap.size = q := ⟨_, rfl⟩
          have hA2 : Adds Y47 Y48 := by rw [← hV2]; exact (Only.refl (fun _ => False) Y47).alloc _
          have hblk : Blk Y48 hvb (rowOf n (fun _ => .slice none 0 0)) 54 := by rw [← hV2, ← hbb]; exact Blk.new Y47 _ _
          have Hhvb := Lib.hid hblk
          have Lhvb := Lib.hid (show w3.heap.size ≤ hvb by have := HAD.out.size; omega)
          replace Honb := Lib.hid (Honb.out.only hA2 id)
          replace Hpub := Lib.hid (Hpub.out.only hA2 id)
          replace Hmb := Lib.hid (Hmb.out.only hA2 id)
          try rw [hV2]
          try rw [hbb]
          have hg9 := cellA hHeld hA2
          replace HAD := Lib.hid (HAD.out.thenF hA2)
          refine hK.out _ _ hg9 (fun hHeld => ?_)
          clear hK hV2 hA2 hbb hg9 hblk
          try simp only [Act.put, List.getElem_toArray, List.getElem_cons_succ, List.getElem_cons_zero, List.setIfInBounds_toArray, List.set_cons_zero, List.set_cons_succ]
          refine wpAnyH_take (i := 14) (v := (.agg (gmC ab bb hvb mb onb pub n))) rfl (by kernel_rfl) (by kernel_rfl) (by kernel_rfl) (fun _ _ _ h => h) (Or.inl ⟨by rfl, fun W hS => by first | rfl | (go_simp; done)⟩) hHeld ?_
          try simp only [Act.put, List.getElem_toArray, List.getElem_cons_succ, List.getElem_cons_zero, List.setIfInBounds_toArray, List.set_cons_zero, List.set_cons_succ]
          refine wpAnyH_ready (rs := [15]) (by kernel_rfl) (by simp) (AllReadyH.cons rfl (fun K hK => ?_) AllReadyH.nil)
          simp only [List.getElem_toArray, List.getElem_cons_succ, List.getElem_cons_zero]
          go_simp
          obtain ⟨Z, hZ⟩ : ∃ Y, Y48.alloc (.cells (gmC ab bb hvb mb onb pub n) 37) = Y := ⟨_, rfl⟩
          obtain ⟨gb, hbb⟩ : ∃ q, Y48.heap.size = q := ⟨_, rfl⟩
          have hA2 : Adds Y48 Z := by rw [← hZ]; exact (Only.refl (fun _ => False) Y48).alloc _
          have hblk : Blk Z gb (gmC ab bb hvb mb onb pub n) 37 := by rw [← hZ, ← hbb]; exact Blk.new Y48 _ _
          have hgl : w3.heap.size ≤ gb := by have := HAD.out.size; omega
          try rw [hZ]
          try rw [hbb]
          have hg9 := cellA hHeld hA2
          have HAZ := Lib.hid (HAD.out.thenF hA2)
          have hng := (show NG w ab sb sm rb rg bb tb tm ub fb gb hvb mb onb pub stb n pn 0 S0 Z (fun _ => .slice none 0 0) from ⟨HB.out.adds HAZ.out, HST.out.only HAZ.out id, hblk, Hhvb.out.only hA2 id, Hmb.out.only hA2 id, Honb.out.only hA2 id, Hpub.out.only hA2 id, fun t _ => World.ownsRow_nil _ _ _ _, fun _ _ _ => rfl, fun t t' g _ _ _ h => (by cases h), HA3.out.thenF HAZ.out⟩)
          have hlo := (show (onb ≠ pub ∧ onb ≠ fb ∧ pub ≠ fb) ∧ (w.heap.size ≤ gb ∧ w.heap.size ≤ hvb ∧ w.heap.size ≤ mb ∧ w.heap.size ≤ onb ∧ w.heap.size ≤ pub) from by have z1 := HB.out.mem.fr.lt; have z2 := Lhvb.out; have z3 := Lmb.out; have z4 := Lonb.out; have z5 := Lpub.out; have z6 := HSZ.out; exact ⟨⟨(fun e => HNE.out e.symm), by omega, by omega⟩, by omega, by omega, by omega, by omega, by omega⟩)
          have HNG := Lib.hid hng; have HLZ := Lib.hid hlo
          refine hK.out _ _ hg9 (fun hHeld => ?_)
          clear hK hZ hA2 hbb hg9 hblk hng hlo hgl
          try simp only [Act.put, List.getElem_toArray, List.getElem_cons_succ, List.getElem_cons_zero, List.setIfInBounds_toArray, List.set_cons_zero, List.set_cons_succ]
          refine wpAnyH_take (i := 16) (v := (.pointer (some ⟨gb, 0, none⟩))) rfl (by kernel_rfl) (by kernel_rfl) (by kernel_rfl) (fun _ _ _ h => h) (Or.inl ⟨by rfl, fun W hS => by first | rfl | (go_simp; done)⟩) hHeld ?_
          try simp only [Act.put, List.getElem_toArray, List.getElem_cons_succ, List.getElem_cons_zero, List.setIfInBounds_toArray, List.set_cons_zero, List.set_cons_succ]
          refine wpAnyH_done (by kernel_rfl) ?_ _
          go_wp2_with fail
          go_meet
          exact ⟨gb, hvb, mb, onb, pub, rfl, HNG, HLZ⟩
    · simp only [List.getElem_toArray, List.getElem_cons_succ, List.getElem_cons_zero]
      go_simp
      obtain ⟨Y49, hV2⟩ : ∃ Y, D.alloc (.cells (rowOf n (fun _ => .bool false)) 4) = Y := ⟨_, rfl⟩
      obtain ⟨pub, hbb⟩ : ∃ q, D.heap.size = q := ⟨_, rfl⟩
      have hA2 : Adds D Y49 := by rw [← hV2]; exact (Only.refl (fun _ => False) D).alloc _
      have hblk : Blk Y49 pub (rowOf n (fun _ => .bool false)) 4 := by rw [← hV2, ← hbb]; exact Blk.new D _ _
      have Hpub := Lib.hid hblk
      have Lpub := Lib.hid (show w3.heap.size ≤ pub by have := HAD.out.size; omega)
      try rw [hV2]
      try rw [hbb]
      have hg9 := cellA hHeld hA2
      replace HAD := Lib.hid (HAD.out.thenF hA2)
      refine hK.out _ _ hg9 (fun hHeld => ?_)
      clear hK hV2 hA2 hbb hg9 hblk
      try simp only [Act.put, List.getElem_toArray, List.getElem_cons_succ, List.getElem_cons_zero, List.setIfInBounds_toArray, List.set_cons_zero, List.set_cons_succ]
      refine wpAnyH_ready (rs := [4, 7, 10]) (by kernel_rfl) (by simp) (AllReadyH.cons rfl (fun K hK => ?_) (AllReadyH.cons rfl (fun K hK => ?_) (AllReadyH.cons rfl (fun K hK => ?_) AllReadyH.nil)))
      · simp only [List.getElem_toArray, List.getElem_cons_succ, List.getElem_cons_zero]
        go_simp
        obtain ⟨Y50, hV2⟩ : ∃ Y, Y49.alloc (.cells (rowOf n (fun _ => .slice none 0 0)) 54) = Y := ⟨_, rfl⟩
        obtain ⟨hvb, hbb⟩ : ∃ q, Y49.heap.size = q := ⟨_, rfl⟩
        have hA2 : Adds Y49 Y50 := by rw [← hV2]; exact (Only.refl (fun _ => False) Y49).alloc _
        have hblk : Blk Y50 hvb (rowOf n (fun _ => .slice none 0 0)) 54 := by rw [← hV2, ← hbb]; exact Blk.new Y49 _ _
        have Hhvb := Lib.hid hblk
        have Lhvb := Lib.hid (show w3.heap.size ≤ hvb by have := HAD.out.size; omega)
        replace Hpub := Lib.hid (Hpub.out.only hA2 id)
        try rw [hV2]
        try rw [hbb]
        have hg9 := cellA hHeld hA2
        replace HAD := Lib.hid (HAD.out.thenF hA2)
        refine hK.out _ _ hg9 (fun hHeld => ?_)
        clear hK hV2 hA2 hbb hg9 hblk
        try simp only [Act.put, List.getElem_toArray, List.getElem_cons_succ, List.getElem_cons_zero, List.setIfInBounds_toArray, List.set_cons_zero, List.set_cons_succ]
        refine wpAnyH_ready (rs := [7, 10]) (by kernel_rfl) (by simp) (AllReadyH.cons rfl (fun K hK => ?_) (AllReadyH.cons rfl (fun K hK => ?_) AllReadyH.nil))
        · simp only [List.getElem_toArray, List.getElem_cons_succ, List.getElem_cons_zero]
          go_simp
          obtain ⟨Y51, hV2⟩ : ∃ Y, Y50.alloc (.cells (rowOf (n * 3) (fun _ => .pointer none)) 47) = Y := ⟨_, rfl⟩
          obtain ⟨mb, hbb⟩ : ∃ q, Y50.heap.size = q := ⟨_, rfl⟩
          have hA2 : Adds Y50 Y51 := by rw [← hV2]; exact (Only.refl (fun _ => False) Y50).alloc _
          have hblk : Blk Y51 mb (rowOf (n * 3) (fun _ => .pointer none)) 47 := by rw [← hV2, ← hbb]; exact Blk.new Y50 _ _
          have Hmb := Lib.hid hblk
          have Lmb := Lib.hid (show w3.heap.size ≤ mb by have := HAD.out.size; omega)
          replace Hpub := Lib.hid (Hpub.out.only hA2 id)
          replace Hhvb := Lib.hid (Hhvb.out.only hA2 id)
          try rw [hV2]
          try rw [hbb]
          have hg9 := cellA hHeld hA2
          replace HAD := Lib.hid (HAD.out.thenF hA2)
          refine hK.out _ _ hg9 (fun hHeld => ?_)
          clear hK hV2 hA2 hbb hg9 hblk
          try simp only [Act.put, List.getElem_toArray, List.getElem_cons_succ, List.getElem_cons_zero, List.setIfInBounds_toArray, List.set_cons_zero, List.set_cons_succ]
          refine wpAnyH_ready (rs := [10]) (by kernel_rfl) (by simp) (AllReadyH.cons rfl (fun K hK => ?_) AllReadyH.nil)
          simp only [List.getElem_toArray, List.getElem_cons_succ, List.getElem_cons_zero]
          go_simp
          obtain ⟨Y52, hV2⟩ : ∃ Y, Y51.alloc (.cells (rowOf n (fun _ => .bool false)) 4) = Y := ⟨_, rfl⟩
          obtain ⟨onb, hbb⟩ : ∃ q, Y51.heap.size = q := ⟨_, rfl⟩
          have hA2 : Adds Y51 Y52 := by rw [← hV2]; exact (Only.refl (fun _ => False) Y51).alloc _
          have hblk : Blk Y52 onb (rowOf n (fun _ => .bool false)) 4 := by rw [← hV2, ← hbb]; exact Blk.new Y51 _ _
          have Honb := Lib.hid hblk
          have Lonb := Lib.hid (show w3.heap.size ≤ onb by have := HAD.out.size; omega)
          have HNE := Lib.hid (show onb ≠ pub by have := Hpub.out.lt; omega)
          replace Hpub := Lib.hid (Hpub.out.only hA2 id)
          replace Hhvb := Lib.hid (Hhvb.out.only hA2 id)
          replace Hmb := Lib.hid (Hmb.out.only hA2 id)
          try rw [hV2]
          try rw [hbb]
          have hg9 := cellA hHeld hA2
          replace HAD := Lib.hid (HAD.out.thenF hA2)
          refine hK.out _ _ hg9 (fun hHeld => ?_)
          clear hK hV2 hA2 hbb hg9 hblk
          try simp only [Act.put, List.getElem_toArray, List.getElem_cons_succ, List.getElem_cons_zero, List.setIfInBounds_toArray, List.set_cons_zero, List.set_cons_succ]
          refine wpAnyH_take (i := 14) (v := (.agg (gmC ab bb hvb mb onb pub n))) rfl (by kernel_rfl) (by kernel_rfl) (by kernel_rfl) (fun _ _ _ h => h) (Or.inl ⟨by rfl, fun W hS => by first | rfl | (go_simp; done)⟩) hHeld ?_
          try simp only [Act.put, List.getElem_toArray, List.getElem_cons_succ, List.getElem_cons_zero, List.setIfInBounds_toArray, List.set_cons_zero, List.set_cons_succ]
          refine wpAnyH_ready (rs := [15]) (by kernel_rfl) (by simp) (AllReadyH.cons rfl (fun K hK => ?_) AllReadyH.nil)
          simp only [List.getElem_toArray, List.getElem_cons_succ, List.getElem_cons_zero]
          go_simp
          obtain ⟨Z, hZ⟩ : ∃ Y, Y52.alloc (.cells (gmC ab bb hvb mb onb pub n) 37) = Y := ⟨_, rfl⟩
          obtain ⟨gb, hbb⟩ : ∃ q, Y52.heap.size = q := ⟨_, rfl⟩
          have hA2 : Adds Y52 Z := by rw [← hZ]; exact (Only.refl (fun _ => False) Y52).alloc _
          have hblk : Blk Z gb (gmC ab bb hvb mb onb pub n) 37 := by rw [← hZ, ← hbb]; exact Blk.new Y52 _ _
          have hgl : w3.heap.size ≤ gb := by have := HAD.out.size; omega
          try rw [hZ]
          try rw [hbb]
          have hg9 := cellA hHeld hA2
          have HAZ := Lib.hid (HAD.out.thenF hA2)
          have hng := (show NG w ab sb sm rb rg bb tb tm ub fb gb hvb mb onb pub stb n pn 0 S0 Z (fun _ => .slice none 0 0) from ⟨HB.out.adds HAZ.out, HST.out.only HAZ.out id, hblk, Hhvb.out.only hA2 id, Hmb.out.only hA2 id, Honb.out.only hA2 id, Hpub.out.only hA2 id, fun t _ => World.ownsRow_nil _ _ _ _, fun _ _ _ => rfl, fun t t' g _ _ _ h => (by cases h), HA3.out.thenF HAZ.out⟩)
          have hlo := (show (onb ≠ pub ∧ onb ≠ fb ∧ pub ≠ fb) ∧ (w.heap.size ≤ gb ∧ w.heap.size ≤ hvb ∧ w.heap.size ≤ mb ∧ w.heap.size ≤ onb ∧ w.heap.size ≤ pub) from by have z1 := HB.out.mem.fr.lt; have z2 := Lhvb.out; have z3 := Lmb.out; have z4 := Lonb.out; have z5 := Lpub.out; have z6 := HSZ.out; exact ⟨⟨HNE.out, by omega, by omega⟩, by omega, by omega, by omega, by omega, by omega⟩)
          have HNG := Lib.hid hng; have HLZ := Lib.hid hlo
          refine hK.out _ _ hg9 (fun hHeld => ?_)
          clear hK hZ hA2 hbb hg9 hblk hng hlo hgl
          try simp only [Act.put, List.getElem_toArray, List.getElem_cons_succ, List.getElem_cons_zero, List.setIfInBounds_toArray, List.set_cons_zero, List.set_cons_succ]
          refine wpAnyH_take (i := 16) (v := (.pointer (some ⟨gb, 0, none⟩))) rfl (by kernel_rfl) (by kernel_rfl) (by kernel_rfl) (fun _ _ _ h => h) (Or.inl ⟨by rfl, fun W hS => by first | rfl | (go_simp; done)⟩) hHeld ?_
          try simp only [Act.put, List.getElem_toArray, List.getElem_cons_succ, List.getElem_cons_zero, List.setIfInBounds_toArray, List.set_cons_zero, List.set_cons_succ]
          refine wpAnyH_done (by kernel_rfl) ?_ _
          go_wp2_with fail
          go_meet
          exact ⟨gb, hvb, mb, onb, pub, rfl, HNG, HLZ⟩
        · simp only [List.getElem_toArray, List.getElem_cons_succ, List.getElem_cons_zero]
          go_simp
          obtain ⟨Y53, hV2⟩ : ∃ Y, Y50.alloc (.cells (rowOf n (fun _ => .bool false)) 4) = Y := ⟨_, rfl⟩
          obtain ⟨onb, hbb⟩ : ∃ q, Y50.heap.size = q := ⟨_, rfl⟩
          have hA2 : Adds Y50 Y53 := by rw [← hV2]; exact (Only.refl (fun _ => False) Y50).alloc _
          have hblk : Blk Y53 onb (rowOf n (fun _ => .bool false)) 4 := by rw [← hV2, ← hbb]; exact Blk.new Y50 _ _
          have Honb := Lib.hid hblk
          have Lonb := Lib.hid (show w3.heap.size ≤ onb by have := HAD.out.size; omega)
          have HNE := Lib.hid (show onb ≠ pub by have := Hpub.out.lt; omega)
          replace Hpub := Lib.hid (Hpub.out.only hA2 id)
          replace Hhvb := Lib.hid (Hhvb.out.only hA2 id)
          try rw [hV2]
          try rw [hbb]
          have hg9 := cellA hHeld hA2
          replace HAD := Lib.hid (HAD.out.thenF hA2)
          refine hK.out _ _ hg9 (fun hHeld => ?_)
          clear hK hV2 hA2 hbb hg9 hblk
          try simp only [Act.put, List.getElem_toArray, List.getElem_cons_succ, List.getElem_cons_zero, List.setIfInBounds_toArray, List.set_cons_zero, List.set_cons_succ]
          refine wpAnyH_ready (rs := [7]) (by kernel_rfl) (by simp) (AllReadyH.cons rfl (fun K hK => ?_) AllReadyH.nil)
          simp only [List.getElem_toArray, List.getElem_cons_succ, List.getElem_cons_zero]
          go_simp
          obtain ⟨Y54, hV2⟩ : ∃ Y, Y53.alloc (.cells (rowOf (n * 3) (fun _ => .pointer none)) 47) = Y := ⟨_, rfl⟩
          obtain ⟨mb, hbb⟩ : ∃ q, Y53.heap.size = q := ⟨_, rfl⟩
          have hA2 : Adds Y53 Y54 := by rw [← hV2]; exact (Only.refl (fun _ => False) Y53).alloc _
          have hblk : Blk Y54 mb (rowOf (n * 3) (fun _ => .pointer none)) 47 := by rw [← hV2, ← hbb]; exact Blk.new Y53 _ _
          have Hmb := Lib.hid hblk
          have Lmb := Lib.hid (show w3.heap.size ≤ mb by have := HAD.out.size; omega)
          replace Hpub := Lib.hid (Hpub.out.only hA2 id)
          replace Hhvb := Lib.hid (Hhvb.out.only hA2 id)
          replace Honb := Lib.hid (Honb.out.only hA2 id)
          try rw [hV2]
          try rw [hbb]
          have hg9 := cellA hHeld hA2
          replace HAD := Lib.hid (HAD.out.thenF hA2)
          refine hK.out _ _ hg9 (fun hHeld => ?_)
          clear hK hV2 hA2 hbb hg9 hblk
          try simp only [Act.put, List.getElem_toArray, List.getElem_cons_succ, List.getElem_cons_zero, List.setIfInBounds_toArray, List.set_cons_zero, List.set_cons_succ]
          refine wpAnyH_take (i := 14) (v := (.agg (gmC ab bb hvb mb onb pub n))) rfl (by kernel_rfl) (by kernel_rfl) (by kernel_rfl) (fun _ _ _ h => h) (Or.inl ⟨by rfl, fun W hS => by first | rfl | (go_simp; done)⟩) hHeld ?_
          try simp only [Act.put, List.getElem_toArray, List.getElem_cons_succ, List.getElem_cons_zero, List.setIfInBounds_toArray, List.set_cons_zero, List.set_cons_succ]
          refine wpAnyH_ready (rs := [15]) (by kernel_rfl) (by simp) (AllReadyH.cons rfl (fun K hK => ?_) AllReadyH.nil)
          simp only [List.getElem_toArray, List.getElem_cons_succ, List.getElem_cons_zero]
          go_simp
          obtain ⟨Z, hZ⟩ : ∃ Y, Y54.alloc (.cells (gmC ab bb hvb mb onb pub n) 37) = Y := ⟨_, rfl⟩
          obtain ⟨gb, hbb⟩ : ∃ q, Y54.heap.size = q := ⟨_, rfl⟩
          have hA2 : Adds Y54 Z := by rw [← hZ]; exact (Only.refl (fun _ => False) Y54).alloc _
          have hblk : Blk Z gb (gmC ab bb hvb mb onb pub n) 37 := by rw [← hZ, ← hbb]; exact Blk.new Y54 _ _
          have hgl : w3.heap.size ≤ gb := by have := HAD.out.size; omega
          try rw [hZ]
          try rw [hbb]
          have hg9 := cellA hHeld hA2
          have HAZ := Lib.hid (HAD.out.thenF hA2)
          have hng := (show NG w ab sb sm rb rg bb tb tm ub fb gb hvb mb onb pub stb n pn 0 S0 Z (fun _ => .slice none 0 0) from ⟨HB.out.adds HAZ.out, HST.out.only HAZ.out id, hblk, Hhvb.out.only hA2 id, Hmb.out.only hA2 id, Honb.out.only hA2 id, Hpub.out.only hA2 id, fun t _ => World.ownsRow_nil _ _ _ _, fun _ _ _ => rfl, fun t t' g _ _ _ h => (by cases h), HA3.out.thenF HAZ.out⟩)
          have hlo := (show (onb ≠ pub ∧ onb ≠ fb ∧ pub ≠ fb) ∧ (w.heap.size ≤ gb ∧ w.heap.size ≤ hvb ∧ w.heap.size ≤ mb ∧ w.heap.size ≤ onb ∧ w.heap.size ≤ pub) from by have z1 := HB.out.mem.fr.lt; have z2 := Lhvb.out; have z3 := Lmb.out; have z4 := Lonb.out; have z5 := Lpub.out; have z6 := HSZ.out; exact ⟨⟨HNE.out, by omega, by omega⟩, by omega, by omega, by omega, by omega, by omega⟩)
          have HNG := Lib.hid hng; have HLZ := Lib.hid hlo
          refine hK.out _ _ hg9 (fun hHeld => ?_)
          clear hK hZ hA2 hbb hg9 hblk hng hlo hgl
          try simp only [Act.put, List.getElem_toArray, List.getElem_cons_succ, List.getElem_cons_zero, List.setIfInBounds_toArray, List.set_cons_zero, List.set_cons_succ]
          refine wpAnyH_take (i := 16) (v := (.pointer (some ⟨gb, 0, none⟩))) rfl (by kernel_rfl) (by kernel_rfl) (by kernel_rfl) (fun _ _ _ h => h) (Or.inl ⟨by rfl, fun W hS => by first | rfl | (go_simp; done)⟩) hHeld ?_
          try simp only [Act.put, List.getElem_toArray, List.getElem_cons_succ, List.getElem_cons_zero, List.setIfInBounds_toArray, List.set_cons_zero, List.set_cons_succ]
          refine wpAnyH_done (by kernel_rfl) ?_ _
          go_wp2_with fail
          go_meet
          exact ⟨gb, hvb, mb, onb, pub, rfl, HNG, HLZ⟩
      · simp only [List.getElem_toArray, List.getElem_cons_succ, List.getElem_cons_zero]
        go_simp
        obtain ⟨Y55, hV2⟩ : ∃ Y, Y49.alloc (.cells (rowOf (n * 3) (fun _ => .pointer none)) 47) = Y := ⟨_, rfl⟩
        obtain ⟨mb, hbb⟩ : ∃ q, Y49.heap.size = q := ⟨_, rfl⟩
        have hA2 : Adds Y49 Y55 := by rw [← hV2]; exact (Only.refl (fun _ => False) Y49).alloc _
        have hblk : Blk Y55 mb (rowOf (n * 3) (fun _ => .pointer none)) 47 := by rw [← hV2, ← hbb]; exact Blk.new Y49 _ _
        have Hmb := Lib.hid hblk
        have Lmb := Lib.hid (show w3.heap.size ≤ mb by have := HAD.out.size; omega)
        replace Hpub := Lib.hid (Hpub.out.only hA2 id)
        try rw [hV2]
        try rw [hbb]
        have hg9 := cellA hHeld hA2
        replace HAD := Lib.hid (HAD.out.thenF hA2)
        refine hK.out _ _ hg9 (fun hHeld => ?_)
        clear hK hV2 hA2 hbb hg9 hblk
        try simp only [Act.put, List.getElem_toArray, List.getElem_cons_succ, List.getElem_cons_zero, List.setIfInBounds_toArray, List.set_cons_zero, List.set_cons_succ]
        refine wpAnyH_ready (rs := [4, 10]) (by kernel_rfl) (by simp) (AllReadyH.cons rfl (fun K hK => ?_) (AllReadyH.cons rfl (fun K hK => ?_) AllReadyH.nil))
        · simp only [List.getElem_toArray, List.getElem_cons_succ, List.getElem_cons_zero]
          go_simp
          obtain ⟨Y56, hV2⟩ : ∃ Y, Y55.alloc (.cells (rowOf n (fun _ => .slice none 0 0)) 54) = Y := ⟨_, rfl⟩
          obtain ⟨hvb, hbb⟩ : ∃ q, Y55.heap.size = q := ⟨_, rfl⟩
          have hA2 : Adds Y55 Y56 := by rw [← hV2]; exact (Only.refl (fun _ => False) Y55).alloc _
          have hblk : Blk Y56 hvb (rowOf n (fun _ => .slice none 0 0)) 54 := by rw [← hV2, ← hbb]; exact Blk.new Y55 _ _
          have Hhvb := Lib.hid hblk
          have Lhvb := Lib.hid (show w3.heap.size ≤ hvb by have := HAD.out.size; omega)
          replace Hpub := Lib.hid (Hpub.out.only hA2 id)
          replace Hmb := Lib.hid (Hmb.out.only hA2 id)
          try rw [hV2]
          try rw [hbb]
          have hg9 := cellA hHeld hA2
          replace HAD := Lib.hid (HAD.out.thenF hA2)
          refine hK.out _ _ hg9 (fun hHeld => ?_)
          clear hK hV2 hA2 hbb hg9 hblk
          try simp only [Act.put, List.getElem_toArray, List.getElem_cons_succ, List.getElem_cons_zero, List.setIfInBounds_toArray, List.set_cons_zero, List.set_cons_succ]
          refine wpAnyH_ready (rs := [10]) (by kernel_rfl) (by simp) (AllReadyH.cons rfl (fun K hK => ?_) AllReadyH.nil)
          simp only [List.getElem_toArray, List.getElem_cons_succ, List.getElem_cons_zero]
          go_simp
          obtain ⟨Y57, hV2⟩ : ∃ Y, Y56.alloc (.cells (rowOf n (fun _ => .bool false)) 4) = Y := ⟨_, rfl⟩
          obtain ⟨onb, hbb⟩ : ∃ q, Y56.heap.size = q := ⟨_, rfl⟩
          have hA2 : Adds Y56 Y57 := by rw [← hV2]; exact (Only.refl (fun _ => False) Y56).alloc _
          have hblk : Blk Y57 onb (rowOf n (fun _ => .bool false)) 4 := by rw [← hV2, ← hbb]; exact Blk.new Y56 _ _
          have Honb := Lib.hid hblk
          have Lonb := Lib.hid (show w3.heap.size ≤ onb by have := HAD.out.size; omega)
          have HNE := Lib.hid (show onb ≠ pub by have := Hpub.out.lt; omega)
          replace Hpub := Lib.hid (Hpub.out.only hA2 id)
          replace Hmb := Lib.hid (Hmb.out.only hA2 id)
          replace Hhvb := Lib.hid (Hhvb.out.only hA2 id)
          try rw [hV2]
          try rw [hbb]
          have hg9 := cellA hHeld hA2
          replace HAD := Lib.hid (HAD.out.thenF hA2)
          refine hK.out _ _ hg9 (fun hHeld => ?_)
          clear hK hV2 hA2 hbb hg9 hblk
          try simp only [Act.put, List.getElem_toArray, List.getElem_cons_succ, List.getElem_cons_zero, List.setIfInBounds_toArray, List.set_cons_zero, List.set_cons_succ]
          refine wpAnyH_take (i := 14) (v := (.agg (gmC ab bb hvb mb onb pub n))) rfl (by kernel_rfl) (by kernel_rfl) (by kernel_rfl) (fun _ _ _ h => h) (Or.inl ⟨by rfl, fun W hS => by first | rfl | (go_simp; done)⟩) hHeld ?_
          try simp only [Act.put, List.getElem_toArray, List.getElem_cons_succ, List.getElem_cons_zero, List.setIfInBounds_toArray, List.set_cons_zero, List.set_cons_succ]
          refine wpAnyH_ready (rs := [15]) (by kernel_rfl) (by simp) (AllReadyH.cons rfl (fun K hK => ?_) AllReadyH.nil)
          simp only [List.getElem_toArray, List.getElem_cons_succ, List.getElem_cons_zero]
          go_simp
          obtain ⟨Z, hZ⟩ : ∃ Y, Y57.alloc (.cells (gmC ab bb hvb mb onb pub n) 37) = Y := ⟨_, rfl⟩
          obtain ⟨gb, hbb⟩ : ∃ q, Y57.heap.size = q := ⟨_, rfl⟩
          have hA2 : Adds Y57 Z := by rw [← hZ]; exact (Only.refl (fun _ => False) Y57).alloc _
          have hblk : Blk Z gb (gmC ab bb hvb mb onb pub n) 37 := by rw [← hZ, ← hbb]; exact Blk.new Y57 _ _
          have hgl : w3.heap.size ≤ gb := by have := HAD.out.size; omega
          try rw [hZ]
          try rw [hbb]
          have hg9 := cellA hHeld hA2
          have HAZ := Lib.hid (HAD.out.thenF hA2)
          have hng := (show NG w ab sb sm rb rg bb tb tm ub fb gb hvb mb onb pub stb n pn 0 S0 Z (fun _ => .slice none 0 0) from ⟨HB.out.adds HAZ.out, HST.out.only HAZ.out id, hblk, Hhvb.out.only hA2 id, Hmb.out.only hA2 id, Honb.out.only hA2 id, Hpub.out.only hA2 id, fun t _ => World.ownsRow_nil _ _ _ _, fun _ _ _ => rfl, fun t t' g _ _ _ h => (by cases h), HA3.out.thenF HAZ.out⟩)
          have hlo := (show (onb ≠ pub ∧ onb ≠ fb ∧ pub ≠ fb) ∧ (w.heap.size ≤ gb ∧ w.heap.size ≤ hvb ∧ w.heap.size ≤ mb ∧ w.heap.size ≤ onb ∧ w.heap.size ≤ pub) from by have z1 := HB.out.mem.fr.lt; have z2 := Lhvb.out; have z3 := Lmb.out; have z4 := Lonb.out; have z5 := Lpub.out; have z6 := HSZ.out; exact ⟨⟨HNE.out, by omega, by omega⟩, by omega, by omega, by omega, by omega, by omega⟩)
          have HNG := Lib.hid hng; have HLZ := Lib.hid hlo
          refine hK.out _ _ hg9 (fun hHeld => ?_)
          clear hK hZ hA2 hbb hg9 hblk hng hlo hgl
          try simp only [Act.put, List.getElem_toArray, List.getElem_cons_succ, List.getElem_cons_zero, List.setIfInBounds_toArray, List.set_cons_zero, List.set_cons_succ]
          refine wpAnyH_take (i := 16) (v := (.pointer (some ⟨gb, 0, none⟩))) rfl (by kernel_rfl) (by kernel_rfl) (by kernel_rfl) (fun _ _ _ h => h) (Or.inl ⟨by rfl, fun W hS => by first | rfl | (go_simp; done)⟩) hHeld ?_
          try simp only [Act.put, List.getElem_toArray, List.getElem_cons_succ, List.getElem_cons_zero, List.setIfInBounds_toArray, List.set_cons_zero, List.set_cons_succ]
          refine wpAnyH_done (by kernel_rfl) ?_ _
          go_wp2_with fail
          go_meet
          exact ⟨gb, hvb, mb, onb, pub, rfl, HNG, HLZ⟩
        · simp only [List.getElem_toArray, List.getElem_cons_succ, List.getElem_cons_zero]
          go_simp
          obtain ⟨Y58, hV2⟩ : ∃ Y, Y55.alloc (.cells (rowOf n (fun _ => .bool false)) 4) = Y := ⟨_, rfl⟩
          obtain ⟨onb, hbb⟩ : ∃ q, Y55.heap.size = q := ⟨_, rfl⟩
          have hA2 : Adds Y55 Y58 := by rw [← hV2]; exact (Only.refl (fun _ => False) Y55).alloc _
          have hblk : Blk Y58 onb (rowOf n (fun _ => .bool false)) 4 := by rw [← hV2, ← hbb]; exact Blk.new Y55 _ _
          have Honb := Lib.hid hblk
          have Lonb := Lib.hid (show w3.heap.size ≤ onb by have := HAD.out.size; omega)
          have HNE := Lib.hid (show onb ≠ pub by have := Hpub.out.lt; omega)
          replace Hpub := Lib.hid (Hpub.out.only hA2 id)
          replace Hmb := Lib.hid (Hmb.out.only hA2 id)
          try rw [hV2]
          try rw [hbb]
          have hg9 := cellA hHeld hA2
          replace HAD := Lib.hid (HAD.out.thenF hA2)
          refine hK.out _ _ hg9 (fun hHeld => ?_)
          clear hK hV2 hA2 hbb hg9 hblk
          try simp only [Act.put, List.getElem_toArray, List.getElem_cons_succ, List.getElem_cons_zero, List.setIfInBounds_toArray, List.set_cons_zero, List.set_cons_succ]
          refine wpAnyH_ready (rs := [4]) (by kernel_rfl) (by simp) (AllReadyH.cons rfl (fun K hK => ?_) AllReadyH.nil)
          simp only [List.getElem_toArray, List.getElem_cons_succ, List.getElem_cons_zero]
          go_simp
          obtain ⟨Y59, hV2⟩ : ∃ Y, Y58.alloc (.cells (rowOf n (fun _ => .slice none 0 0)) 54) = Y := ⟨_, rfl⟩
          obtain ⟨hvb, hbb⟩ : ∃ q, Y58.heap.size = q := ⟨_, rfl⟩
          have hA2 : Adds Y58 Y59 := by rw [← hV2]; exact (Only.refl (fun _ => False) Y58).alloc _
          have hblk : Blk Y59 hvb (rowOf n (fun _ => .slice none 0 0)) 54 := by rw [← hV2, ← hbb]; exact Blk.new Y58 _ _
          have Hhvb := Lib.hid hblk
          have Lhvb := Lib.hid (show w3.heap.size ≤ hvb by have := HAD.out.size; omega)
          replace Hpub := Lib.hid (Hpub.out.only hA2 id)
          replace Hmb := Lib.hid (Hmb.out.only hA2 id)
          replace Honb := Lib.hid (Honb.out.only hA2 id)
          try rw [hV2]
          try rw [hbb]
          have hg9 := cellA hHeld hA2
          replace HAD := Lib.hid (HAD.out.thenF hA2)
          refine hK.out _ _ hg9 (fun hHeld => ?_)
          clear hK hV2 hA2 hbb hg9 hblk
          try simp only [Act.put, List.getElem_toArray, List.getElem_cons_succ, List.getElem_cons_zero, List.setIfInBounds_toArray, List.set_cons_zero, List.set_cons_succ]
          refine wpAnyH_take (i := 14) (v := (.agg (gmC ab bb hvb mb onb pub n))) rfl (by kernel_rfl) (by kernel_rfl) (by kernel_rfl) (fun _ _ _ h => h) (Or.inl ⟨by rfl, fun W hS => by first | rfl | (go_simp; done)⟩) hHeld ?_
          try simp only [Act.put, List.getElem_toArray, List.getElem_cons_succ, List.getElem_cons_zero, List.setIfInBounds_toArray, List.set_cons_zero, List.set_cons_succ]
          refine wpAnyH_ready (rs := [15]) (by kernel_rfl) (by simp) (AllReadyH.cons rfl (fun K hK => ?_) AllReadyH.nil)
          simp only [List.getElem_toArray, List.getElem_cons_succ, List.getElem_cons_zero]
          go_simp
          obtain ⟨Z, hZ⟩ : ∃ Y, Y59.alloc (.cells (gmC ab bb hvb mb onb pub n) 37) = Y := ⟨_, rfl⟩
          obtain ⟨gb, hbb⟩ : ∃ q, Y59.heap.size = q := ⟨_, rfl⟩
          have hA2 : Adds Y59 Z := by rw [← hZ]; exact (Only.refl (fun _ => False) Y59).alloc _
          have hblk : Blk Z gb (gmC ab bb hvb mb onb pub n) 37 := by rw [← hZ, ← hbb]; exact Blk.new Y59 _ _
          have hgl : w3.heap.size ≤ gb := by have := HAD.out.size; omega
          try rw [hZ]
          try rw [hbb]
          have hg9 := cellA hHeld hA2
          have HAZ := Lib.hid (HAD.out.thenF hA2)
          have hng := (show NG w ab sb sm rb rg bb tb tm ub fb gb hvb mb onb pub stb n pn 0 S0 Z (fun _ => .slice none 0 0) from ⟨HB.out.adds HAZ.out, HST.out.only HAZ.out id, hblk, Hhvb.out.only hA2 id, Hmb.out.only hA2 id, Honb.out.only hA2 id, Hpub.out.only hA2 id, fun t _ => World.ownsRow_nil _ _ _ _, fun _ _ _ => rfl, fun t t' g _ _ _ h => (by cases h), HA3.out.thenF HAZ.out⟩)
          have hlo := (show (onb ≠ pub ∧ onb ≠ fb ∧ pub ≠ fb) ∧ (w.heap.size ≤ gb ∧ w.heap.size ≤ hvb ∧ w.heap.size ≤ mb ∧ w.heap.size ≤ onb ∧ w.heap.size ≤ pub) from by have z1 := HB.out.mem.fr.lt; have z2 := Lhvb.out; have z3 := Lmb.out; have z4 := Lonb.out; have z5 := Lpub.out; have z6 := HSZ.out; exact ⟨⟨HNE.out, by omega, by omega⟩, by omega, by omega, by omega, by omega, by omega⟩)
          have HNG := Lib.hid hng; have HLZ := Lib.hid hlo
          refine hK.out _ _ hg9 (fun hHeld => ?_)
          clear hK hZ hA2 hbb hg9 hblk hng hlo hgl
          try simp only [Act.put, List.getElem_toArray, List.getElem_cons_succ, List.getElem_cons_zero, List.setIfInBounds_toArray, List.set_cons_zero, List.set_cons_succ]
          refine wpAnyH_take (i := 16) (v := (.pointer (some ⟨gb, 0, none⟩))) rfl (by kernel_rfl) (by kernel_rfl) (by kernel_rfl) (fun _ _ _ h => h) (Or.inl ⟨by rfl, fun W hS => by first | rfl | (go_simp; done)⟩) hHeld ?_
          try simp only [Act.put, List.getElem_toArray, List.getElem_cons_succ, List.getElem_cons_zero, List.setIfInBounds_toArray, List.set_cons_zero, List.set_cons_succ]
          refine wpAnyH_done (by kernel_rfl) ?_ _
          go_wp2_with fail
          go_meet
          exact ⟨gb, hvb, mb, onb, pub, rfl, HNG, HLZ⟩
      · simp only [List.getElem_toArray, List.getElem_cons_succ, List.getElem_cons_zero]
        go_simp
        obtain ⟨Y60, hV2⟩ : ∃ Y, Y49.alloc (.cells (rowOf n (fun _ => .bool false)) 4) = Y := ⟨_, rfl⟩
        obtain ⟨onb, hbb⟩ : ∃ q, Y49.heap.size = q := ⟨_, rfl⟩
        have hA2 : Adds Y49 Y60 := by rw [← hV2]; exact (Only.refl (fun _ => False) Y49).alloc _
        have hblk : Blk Y60 onb (rowOf n (fun _ => .bool false)) 4 := by rw [← hV2, ← hbb]; exact Blk.new Y49 _ _
        have Honb := Lib.hid hblk
        have Lonb := Lib.hid (show w3.heap.size ≤ onb by have := HAD.out.size; omega)
        have HNE := Lib.hid (show onb ≠ pub by have := Hpub.out.lt; omega)
        replace Hpub := Lib.hid (Hpub.out.only hA2 id)
        try rw [hV2]
        try rw [hbb]
        have hg9 := cellA hHeld hA2
        replace HAD := Lib.hid (HAD.out.thenF hA2)
        refine hK.out _ _ hg9 (fun hHeld => ?_)
        clear hK hV2 hA2 hbb hg9 hblk
        try simp only [Act.put, List.getElem_toArray, List.getElem_cons_succ, List.getElem_cons_zero, List.setIfInBounds_toArray, List.set_cons_zero, List.set_cons_succ]
        refine wpAnyH_ready (rs := [4, 7]) (by kernel_rfl) (by simp) (AllReadyH.cons rfl (fun K hK => ?_) (AllReadyH.cons rfl (fun K hK => ?_) AllReadyH.nil))
        · simp only [List.getElem_toArray, List.getElem_cons_succ, List.getElem_cons_zero]
          go_simp
          obtain ⟨Y61, hV2⟩ : ∃ Y, Y60.alloc (.cells (rowOf n (fun _ => .slice none 0 0)) 54) = Y := ⟨_, rfl⟩
          obtain ⟨hvb, hbb⟩ : ∃ q, Y60.heap.size = q := ⟨_, rfl⟩
          have hA2 : Adds Y60 Y61 := by rw [← hV2]; exact (Only.refl (fun _ => False) Y60).alloc _
          have hblk : Blk Y61 hvb (rowOf n (fun _ => .slice none 0 0)) 54 := by rw [← hV2, ← hbb]; exact Blk.new Y60 _ _
          have Hhvb := Lib.hid hblk
          have Lhvb := Lib.hid (show w3.heap.size ≤ hvb by have := HAD.out.size; omega)
          replace Hpub := Lib.hid (Hpub.out.only hA2 id)
          replace Honb := Lib.hid (Honb.out.only hA2 id)
          try rw [hV2]
          try rw [hbb]
          have hg9 := cellA hHeld hA2
          replace HAD := Lib.hid (HAD.out.thenF hA2)
          refine hK.out _ _ hg9 (fun hHeld => ?_)
          clear hK hV2 hA2 hbb hg9 hblk
          try simp only [Act.put, List.getElem_toArray, List.getElem_cons_succ, List.getElem_cons_zero, List.setIfInBounds_toArray, List.set_cons_zero, List.set_cons_succ]
          refine wpAnyH_ready (rs := [7]) (by kernel_rfl) (by simp) (AllReadyH.cons rfl (fun K hK => ?_) AllReadyH.nil)
          simp only [List.getElem_toArray, List.getElem_cons_succ, List.getElem_cons_zero]
          go_simp
          obtain ⟨Y62, hV2⟩ : ∃ Y, Y61.alloc (.cells (rowOf (n * 3) (fun _ => .pointer none)) 47) = Y := ⟨_, rfl⟩
          obtain ⟨mb, hbb⟩ : ∃ q, Y61.heap.size = q := ⟨_, rfl⟩
          have hA2 : Adds Y61 Y62 := by rw [← hV2]; exact (Only.refl (fun _ => False) Y61).alloc _
          have hblk : Blk Y62 mb (rowOf (n * 3) (fun _ => .pointer none)) 47 := by rw [← hV2, ← hbb]; exact Blk.new Y61 _ _
          have Hmb := Lib.hid hblk
          have Lmb := Lib.hid (show w3.heap.size ≤ mb by have := HAD.out.size; omega)
          replace Hpub := Lib.hid (Hpub.out.only hA2 id)
          replace Honb := Lib.hid (Honb.out.only hA2 id)
          replace Hhvb := Lib.hid (Hhvb.out.only hA2 id)
          try rw [hV2]
          try rw [hbb]
          have hg9 := cellA hHeld hA2
          replace HAD := Lib.hid (HAD.out.thenF hA2)
          refine hK.out _ _ hg9 (fun hHeld => ?_)
          clear hK hV2 hA2 hbb hg9 hblk
          try simp only [Act.put, List.getElem_toArray, List.getElem_cons_succ, List.getElem_cons_zero, List.setIfInBounds_toArray, List.set_cons_zero, List.set_cons_succ]
          refine wpAnyH_take (i := 14) (v := (.agg (gmC ab bb hvb mb onb pub n))) rfl (by kernel_rfl) (by kernel_rfl) (by kernel_rfl) (fun _ _ _ h => h) (Or.inl ⟨by rfl, fun W hS => by first | rfl | (go_simp; done)⟩) hHeld ?_
          try simp only [Act.put, List.getElem_toArray, List.getElem_cons_succ, List.getElem_cons_zero, List.setIfInBounds_toArray, List.set_cons_zero, List.set_cons_succ]
          refine wpAnyH_ready (rs := [15]) (by kernel_rfl) (by simp) (AllReadyH.cons rfl (fun K hK => ?_) AllReadyH.nil)
          simp only [List.getElem_toArray, List.getElem_cons_succ, List.getElem_cons_zero]
          go_simp
          obtain ⟨Z, hZ⟩ : ∃ Y, Y62.alloc (.cells (gmC ab bb hvb mb onb pub n) 37) = Y := ⟨_, rfl⟩
          obtain ⟨gb, hbb⟩ : ∃ q, Y62.heap.size = q := ⟨_, rfl⟩
          have hA2 : Adds Y62 Z := by rw [← hZ]; exact (Only.refl (fun _ => False) Y62).alloc _
          have hblk : Blk Z gb (gmC ab bb hvb mb onb pub n) 37 := by rw [← hZ, ← hbb]; exact Blk.new Y62 _ _
          have hgl : w3.heap.size ≤ gb := by have := HAD.out.size; omega
          try rw [hZ]
          try rw [hbb]
          have hg9 := cellA hHeld hA2
          have HAZ := Lib.hid (HAD.out.thenF hA2)
          have hng := (show NG w ab sb sm rb rg bb tb tm ub fb gb hvb mb onb pub stb n pn 0 S0 Z (fun _ => .slice none 0 0) from ⟨HB.out.adds HAZ.out, HST.out.only HAZ.out id, hblk, Hhvb.out.only hA2 id, Hmb.out.only hA2 id, Honb.out.only hA2 id, Hpub.out.only hA2 id, fun t _ => World.ownsRow_nil _ _ _ _, fun _ _ _ => rfl, fun t t' g _ _ _ h => (by cases h), HA3.out.thenF HAZ.out⟩)
          have hlo := (show (onb ≠ pub ∧ onb ≠ fb ∧ pub ≠ fb) ∧ (w.heap.size ≤ gb ∧ w.heap.size ≤ hvb ∧ w.heap.size ≤ mb ∧ w.heap.size ≤ onb ∧ w.heap.size ≤ pub) from by have z1 := HB.out.mem.fr.lt; have z2 := Lhvb.out; have z3 := Lmb.out; have z4 := Lonb.out; have z5 := Lpub.out; have z6 := HSZ.out; exact ⟨⟨HNE.out, by omega, by omega⟩, by omega, by omega, by omega, by omega, by omega⟩)
          have HNG := Lib.hid hng; have HLZ := Lib.hid hlo
          refine hK.out _ _ hg9 (fun hHeld => ?_)
          clear hK hZ hA2 hbb hg9 hblk hng hlo hgl
          try simp only [Act.put, List.getElem_toArray, List.getElem_cons_succ, List.getElem_cons_zero, List.setIfInBounds_toArray, List.set_cons_zero, List.set_cons_succ]
          refine wpAnyH_take (i := 16) (v := (.pointer (some ⟨gb, 0, none⟩))) rfl (by kernel_rfl) (by kernel_rfl) (by kernel_rfl) (fun _ _ _ h => h) (Or.inl ⟨by rfl, fun W hS => by first | rfl | (go_simp; done)⟩) hHeld ?_
          try simp only [Act.put, List.getElem_toArray, List.getElem_cons_succ, List.getElem_cons_zero, List.setIfInBounds_toArray, List.set_cons_zero, List.set_cons_succ]
          refine wpAnyH_done (by kernel_rfl) ?_ _
          go_wp2_with fail
          go_meet
          exact ⟨gb, hvb, mb, onb, pub, rfl, HNG, HLZ⟩
        · simp only [List.getElem_toArray, List.getElem_cons_succ, List.getElem_cons_zero]
          go_simp
          obtain ⟨Y63, hV2⟩ : ∃ Y, Y60.alloc (.cells (rowOf (n * 3) (fun _ => .pointer none)) 47) = Y := ⟨_, rfl⟩
          obtain ⟨mb, hbb⟩ : ∃ q, Y60.heap.size = q := ⟨_, rfl⟩
          have hA2 : Adds Y60 Y63 := by rw [← hV2]; exact (Only.refl (fun _ => False) Y60).alloc _
          have hblk : Blk Y63 mb (rowOf (n * 3) (fun _ => .pointer none)) 47 := by rw [← hV2, ← hbb]; exact Blk.new Y60 _ _
          have Hmb := Lib.hid hblk
          have Lmb := Lib.hid (show w3.heap.size ≤ mb by have := HAD.out.size; omega)
          replace Hpub := Lib.hid (Hpub.out.only hA2 id)
          replace Honb := Lib.hid (Honb.out.only hA2 id)
          try rw [hV2]
          try rw [hbb]
          have hg9 := cellA hHeld hA2
          replace HAD := Lib.hid (HAD.out.thenF hA2)
          refine hK.out _ _ hg9 (fun hHeld => ?_)
          clear hK hV2 hA2 hbb hg9 hblk
          try simp only [Act.put, List.getElem_toArray, List.getElem_cons_succ, List.getElem_cons_zero, List.setIfInBounds_toArray, List.set_cons_zero, List.set_cons_succ]
          refine wpAnyH_ready (rs := [4]) (by kernel_rfl) (by simp) (AllReadyH.cons rfl (fun K hK => ?_) AllReadyH.nil)
          simp only [List.getElem_toArray, List.getElem_cons_succ, List.getElem_cons_zero]
          go_simp
          obtain ⟨Y64, hV2⟩ : ∃ Y, Y63.alloc (.cells (rowOf n (fun _ => .slice none 0 0)) 54) = Y := ⟨_, rfl⟩
          obtain ⟨hvb, hbb⟩ : ∃ q, Y63.heap.size = q := ⟨_, rfl⟩
          have hA2 : Adds Y63 Y64 := by rw [← hV2]; exact (Only.refl (fun _ => False) Y63).alloc _
          have hblk : Blk Y64 hvb (rowOf n (fun _ => .slice none 0 0)) 54 := by rw [← hV2, ← hbb]; exact Blk.new Y63 _ _
          have Hhvb := Lib.hid hblk
          have Lhvb := Lib.hid (show w3.heap.size ≤ hvb by have := HAD.out.size; omega)
          replace Hpub := Lib.hid (Hpub.out.only hA2 id)
          replace Honb := Lib.hid (Honb.out.only hA2 id)
          replace Hmb := Lib.hid (Hmb.out.only hA2 id)
          try rw [hV2]
          try rw [hbb]
          have hg9 := cellA hHeld hA2
          replace HAD := Lib.hid (HAD.out.thenF hA2)
          refine hK.out _ _ hg9 (fun hHeld => ?_)
          clear hK hV2 hA2 hbb hg9 hblk
          try simp only [Act.put, List.getElem_toArray, List.getElem_cons_succ, List.getElem_cons_zero, List.setIfInBounds_toArray, List.set_cons_zero, List.set_cons_succ]
          refine wpAnyH_take (i := 14) (v := (.agg (gmC ab bb hvb mb onb pub n))) rfl (by kernel_rfl) (by kernel_rfl) (by kernel_rfl) (fun _ _ _ h => h) (Or.inl ⟨by rfl, fun W hS => by first | rfl | (go_simp; done)⟩) hHeld ?_
          try simp only [Act.put, List.getElem_toArray, List.getElem_cons_succ, List.getElem_cons_zero, List.setIfInBounds_toArray, List.set_cons_zero, List.set_cons_succ]
          refine wpAnyH_ready (rs := [15]) (by kernel_rfl) (by simp) (AllReadyH.cons rfl (fun K hK => ?_) AllReadyH.nil)
          simp only [List.getElem_toArray, List.getElem_cons_succ, List.getElem_cons_zero]
          go_simp
          obtain ⟨Z, hZ⟩ : ∃ Y, Y64.alloc (.cells (gmC ab bb hvb mb onb pub n) 37) = Y := ⟨_, rfl⟩
          obtain ⟨gb, hbb⟩ : ∃ q, Y64.heap.size = q := ⟨_, rfl⟩
          have hA2 : Adds Y64 Z := by rw [← hZ]; exact (Only.refl (fun _ => False) Y64).alloc _
          have hblk : Blk Z gb (gmC ab bb hvb mb onb pub n) 37 := by rw [← hZ, ← hbb]; exact Blk.new Y64 _ _
          have hgl : w3.heap.size ≤ gb := by have := HAD.out.size; omega
          try rw [hZ]
          try rw [hbb]
          have hg9 := cellA hHeld hA2
          have HAZ := Lib.hid (HAD.out.thenF hA2)
          have hng := (show NG w ab sb sm rb rg bb tb tm ub fb gb hvb mb onb pub stb n pn 0 S0 Z (fun _ => .slice none 0 0) from ⟨HB.out.adds HAZ.out, HST.out.only HAZ.out id, hblk, Hhvb.out.only hA2 id, Hmb.out.only hA2 id, Honb.out.only hA2 id, Hpub.out.only hA2 id, fun t _ => World.ownsRow_nil _ _ _ _, fun _ _ _ => rfl, fun t t' g _ _ _ h => (by cases h), HA3.out.thenF HAZ.out⟩)
          have hlo := (show (onb ≠ pub ∧ onb ≠ fb ∧ pub ≠ fb) ∧ (w.heap.size ≤ gb ∧ w.heap.size ≤ hvb ∧ w.heap.size ≤ mb ∧ w.heap.size ≤ onb ∧ w.heap.size ≤ pub) from by have z1 := HB.out.mem.fr.lt; have z2 := Lhvb.out; have z3 := Lmb.out; have z4 := Lonb.out; have z5 := Lpub.out; have z6 := HSZ.out; exact ⟨⟨HNE.out, by omega, by omega⟩, by omega, by omega, by omega, by omega, by omega⟩)
          have HNG := Lib.hid hng; have HLZ := Lib.hid hlo
          refine hK.out _ _ hg9 (fun hHeld => ?_)
          clear hK hZ hA2 hbb hg9 hblk hng hlo hgl
          try simp only [Act.put, List.getElem_toArray, List.getElem_cons_succ, List.getElem_cons_zero, List.setIfInBounds_toArray, List.set_cons_zero, List.set_cons_succ]
          refine wpAnyH_take (i := 16) (v := (.pointer (some ⟨gb, 0, none⟩))) rfl (by kernel_rfl) (by kernel_rfl) (by kernel_rfl) (fun _ _ _ h => h) (Or.inl ⟨by rfl, fun W hS => by first | rfl | (go_simp; done)⟩) hHeld ?_
          try simp only [Act.put, List.getElem_toArray, List.getElem_cons_succ, List.getElem_cons_zero, List.setIfInBounds_toArray, List.set_cons_zero, List.set_cons_succ]
          refine wpAnyH_done (by kernel_rfl) ?_ _
          go_wp2_with fail
          go_meet
          exact ⟨gb, hvb, mb, onb, pub, rfl, HNG, HLZ⟩
  case rest =>
    obtain ⟨gb, hvb, mb, onb, pub, rfl, HN0, HLZ⟩ := hcut
    clear mk1 mk2 mk3 s1 HB HST HA3 HSZ
    obtain ⟨i0, hi, hz0, hz1, hz2⟩ := info_parts infoInt
    go_upto_region 7 with fail
    go_loopw [9] (fun i wr => ∃ (k : Nat) (Hv : Nat → Value), k ≤ pn ∧ i = .int .i64 k ∧ Hid (NG w ab sb sm rb rg bb tb tm ub fb gb hvb mb onb pub stb n pn k S0 wr Hv)) (fun i _ => pn - (intOf i).toNat)
    case atStart => exact ⟨0, _, Nat.zero_le _, rfl, HN0⟩
    case round =>
      obtain ⟨k, Hv, hk, rfl, HN⟩ := hrel
      clear HN0
      have s0 : wr.cell? ⟨stb, 0, none⟩ = some (.int .i64 pn) := HN.out.st.cell 0
      by_cases c1 : k < pn
      · have hn0 : ¬ (n : Int) = 0 := by omega
        have hn00 : ¬ n = 0 := by omega
        have g1 : (k : Int) < (pn : Int) := by omega
        obtain ⟨q, hq⟩ : ∃ q, k % n = q := ⟨_, rfl⟩
        have tq : Int.tmod (k : Int) (n : Int) = (q : Int) := by rw [← hq, Int.tmod_eq_emod_of_nonneg (by omega)]; omega
        have tq2 : (k : Int) % (n : Int) = (q : Int) := by rw [← hq]; omega
        have hqn : q < n := by rw [← hq]; exact Nat.mod_lt _ n1
        have tw : IntKind.i64.wrap (q : Int) = (q : Int) := by rw [IntKind.wrap_i64]; omega
        have hwk : IntKind.i64.wrap ((k : Int) + 1) = (k : Int) + 1 := by rw [IntKind.wrap_i64]; omega
        have y0 : (0 : Int) ≤ (q : Int) := by omega
        have y1 : (q : Int) < (n : Int) := by omega
        have HQ := Lib.hid hq
        have s1 : wr.cell? ⟨stb, 1, none⟩ = some (.int .i64 n) := HN.out.st.cell 1
        have g2 : wr.cell? ⟨gb, 2, none⟩ = some (.slice (some ⟨hvb, 0, none⟩) n n) := HN.out.game.cell 2
        have h0 : wr.cell? ⟨hvb, q, none⟩ = some (Hv q) := by rw [HN.out.hv.cell q, rowOf_get _ hqn]
        clear hq
        go_upto_region 9 with fail
        refine wp_region_held_drew (S := (fun V => V.cell? ⟨gb, 2, none⟩ = some (.slice (some ⟨hvb, 0, none⟩) n n) ∧ V.cell? ⟨stb, 1, none⟩ = some (.int .i64 n))) (by kernel_rfl) ⟨g2, s1⟩ (fun hHeld => ?_)
        obtain ⟨D, hD⟩ : ∃ D, World.drew wr = D := ⟨_, rfl⟩
        have HAD : Hid (Adds wr D) := Lib.hid (by rw [← hD]; exact (Only.refl (fun _ => False) wr).drew)
        rw [hD] at hHeld
        try rw [hD]
        clear hD
        refine wpAnyH_take (i := 0) (v := (.pointer (some ⟨gb, 0, none⟩))) rfl (by kernel_rfl) (by kernel_rfl) (by kernel_rfl) (fun _ _ _ h => h) (Or.inl ⟨by rfl, fun W hS => by first | rfl | (go_simp; done)⟩) hHeld ?_
        try simp only [Act.put, List.getElem_toArray, List.getElem_cons_succ, List.getElem_cons_zero, List.setIfInBounds_toArray, List.set_cons_zero, List.set_cons_succ]
        refine wpAnyH_take (i := 1) (v := (.pointer (some ⟨gb, 0, none⟩))) rfl (by kernel_rfl) (by kernel_rfl) (by kernel_rfl) (fun _ _ _ h => h) (Or.inl ⟨by rfl, fun W hS => by first | rfl | (go_simp; done)⟩) hHeld ?_
        try simp only [Act.put, List.getElem_toArray, List.getElem_cons_succ, List.getElem_cons_zero, List.setIfInBounds_toArray, List.set_cons_zero, List.set_cons_succ]
        refine wpAnyH_take (i := 2) (v := (.pointer (some ⟨gb, 2, none⟩))) rfl (by kernel_rfl) (by kernel_rfl) (by kernel_rfl) (fun _ _ _ h => h) (Or.inl ⟨by rfl, fun W hS => by first | rfl | (go_simp; done)⟩) hHeld ?_
        try simp only [Act.put, List.getElem_toArray, List.getElem_cons_succ, List.getElem_cons_zero, List.setIfInBounds_toArray, List.set_cons_zero, List.set_cons_succ]
        refine wpAnyH_take (i := 3) (v := (.slice (some ⟨hvb, 0, none⟩) n n)) rfl (by kernel_rfl) (by kernel_rfl) (by kernel_rfl) (fun _ _ _ h => h) (Or.inl ⟨by rfl, fun W hS => by (obtain ⟨q1, q2⟩ := hS; go_simp; done)⟩) hHeld ?_
        try simp only [Act.put, List.getElem_toArray, List.getElem_cons_succ, List.getElem_cons_zero, List.setIfInBounds_toArray, List.set_cons_zero, List.set_cons_succ]
        refine wpAnyH_take (i := 4) (v := (.int .i64 (k : Int))) rfl (by kernel_rfl) (by kernel_rfl) (by kernel_rfl) (fun _ _ _ h => h) (Or.inl ⟨by rfl, fun W hS => by first | rfl | (go_simp; done)⟩) hHeld ?_
        try simp only [Act.put, List.getElem_toArray, List.getElem_cons_succ, List.getElem_cons_zero, List.setIfInBounds_toArray, List.set_cons_zero, List.set_cons_succ]
        refine wpAnyH_take (i := 5) (v := (.pointer (some ⟨stb, 1, none⟩))) rfl (by kernel_rfl) (by kernel_rfl) (by kernel_rfl) (fun _ _ _ h => h) (Or.inl ⟨by rfl, fun W hS => by first | rfl | (go_simp; done)⟩) hHeld ?_
        try simp only [Act.put, List.getElem_toArray, List.getElem_cons_succ, List.getElem_cons_zero, List.setIfInBounds_toArray, List.set_cons_zero, List.set_cons_succ]
        refine wpAnyH_take (i := 6) (v := (.int .i64 n)) rfl (by kernel_rfl) (by kernel_rfl) (by kernel_rfl) (fun _ _ _ h => h) (Or.inl ⟨by rfl, fun W hS => by (obtain ⟨q1, q2⟩ := hS; go_simp; done)⟩) hHeld ?_
        try simp only [Act.put, List.getElem_toArray, List.getElem_cons_succ, List.getElem_cons_zero, List.setIfInBounds_toArray, List.set_cons_zero, List.set_cons_succ]
        refine wpAnyH_take (i := 7) (v := (.int .i64 (q : Int))) rfl (by kernel_rfl) (by kernel_rfl) (by kernel_rfl) (fun _ _ _ h => h) (Or.inl ⟨by rfl, fun W hS => by first | rfl | (go_simp; done)⟩) hHeld ?_
        try simp only [Act.put, List.getElem_toArray, List.getElem_cons_succ, List.getElem_cons_zero, List.setIfInBounds_toArray, List.set_cons_zero, List.set_cons_succ]
        refine wpAnyH_take (i := 8) (v := (.pointer (some ⟨gb, 0, none⟩))) rfl (by kernel_rfl) (by kernel_rfl) (by kernel_rfl) (fun _ _ _ h => h) (Or.inl ⟨by rfl, fun W hS => by first | rfl | (go_simp; done)⟩) hHeld ?_
        try simp only [Act.put, List.getElem_toArray, List.getElem_cons_succ, List.getElem_cons_zero, List.setIfInBounds_toArray, List.set_cons_zero, List.set_cons_succ]
        refine wpAnyH_take (i := 9) (v := (.pointer (some ⟨gb, 0, none⟩))) rfl (by kernel_rfl) (by kernel_rfl) (by kernel_rfl) (fun _ _ _ h => h) (Or.inl ⟨by rfl, fun W hS => by first | rfl | (go_simp; done)⟩) hHeld ?_
        try simp only [Act.put, List.getElem_toArray, List.getElem_cons_succ, List.getElem_cons_zero, List.setIfInBounds_toArray, List.set_cons_zero, List.set_cons_succ]
        refine wpAnyH_take (i := 10) (v := (.pointer (some ⟨gb, 2, none⟩))) rfl (by kernel_rfl) (by kernel_rfl) (by kernel_rfl) (fun _ _ _ h => h) (Or.inl ⟨by rfl, fun W hS => by first | rfl | (go_simp; done)⟩) hHeld ?_
        try simp only [Act.put, List.getElem_toArray, List.getElem_cons_succ, List.getElem_cons_zero, List.setIfInBounds_toArray, List.set_cons_zero, List.set_cons_succ]
        refine wpAnyH_take (i := 11) (v := (.slice (some ⟨hvb, 0, none⟩) n n)) rfl (by kernel_rfl) (by kernel_rfl) (by kernel_rfl) (fun _ _ _ h => h) (Or.inl ⟨by rfl, fun W hS => by (obtain ⟨q1, q2⟩ := hS; go_simp; done)⟩) hHeld ?_
        try simp only [Act.put, List.getElem_toArray, List.getElem_cons_succ, List.getElem_cons_zero, List.setIfInBounds_toArray, List.set_cons_zero, List.set_cons_succ]
        refine wpAnyH_take (i := 12) (v := (.int .i64 (k : Int))) rfl (by kernel_rfl) (by kernel_rfl) (by kernel_rfl) (fun _ _ _ h => h) (Or.inl ⟨by rfl, fun W hS => by first | rfl | (go_simp; done)⟩) hHeld ?_
        try simp only [Act.put, List.getElem_toArray, List.getElem_cons_succ, List.getElem_cons_zero, List.setIfInBounds_toArray, List.set_cons_zero, List.set_cons_succ]
        refine wpAnyH_take (i := 13) (v := (.pointer (some ⟨stb, 1, none⟩))) rfl (by kernel_rfl) (by kernel_rfl) (by kernel_rfl) (fun _ _ _ h => h) (Or.inl ⟨by rfl, fun W hS => by first | rfl | (go_simp; done)⟩) hHeld ?_
        try simp only [Act.put, List.getElem_toArray, List.getElem_cons_succ, List.getElem_cons_zero, List.setIfInBounds_toArray, List.set_cons_zero, List.set_cons_succ]
        refine wpAnyH_take (i := 14) (v := (.int .i64 n)) rfl (by kernel_rfl) (by kernel_rfl) (by kernel_rfl) (fun _ _ _ h => h) (Or.inl ⟨by rfl, fun W hS => by (obtain ⟨q1, q2⟩ := hS; go_simp; done)⟩) hHeld ?_
        try simp only [Act.put, List.getElem_toArray, List.getElem_cons_succ, List.getElem_cons_zero, List.setIfInBounds_toArray, List.set_cons_zero, List.set_cons_succ]
        refine wpAnyH_take (i := 15) (v := (.int .i64 (q : Int))) rfl (by kernel_rfl) (by kernel_rfl) (by kernel_rfl) (fun _ _ _ h => h) (Or.inl ⟨by rfl, fun W hS => by first | rfl | (go_simp; done)⟩) hHeld ?_
        try simp only [Act.put, List.getElem_toArray, List.getElem_cons_succ, List.getElem_cons_zero, List.setIfInBounds_toArray, List.set_cons_zero, List.set_cons_succ]
        refine wpAnyH_take (i := 16) (v := (.pointer (some ⟨hvb, q, none⟩))) rfl (by kernel_rfl) (by kernel_rfl) (by kernel_rfl) (fun _ _ _ h => h) (Or.inl ⟨by rfl, fun W hS => by first | rfl | (go_simp; done)⟩) hHeld ?_
        try simp only [Act.put, List.getElem_toArray, List.getElem_cons_succ, List.getElem_cons_zero, List.setIfInBounds_toArray, List.set_cons_zero, List.set_cons_succ]
        refine wpAnyH_take (i := 18) (v := (.int .i64 (k : Int))) rfl (by kernel_rfl) (by kernel_rfl) (by kernel_rfl) (fun _ _ _ h => h) (Or.inl ⟨by rfl, fun W hS => by first | rfl | (go_simp; done)⟩) hHeld ?_
        try simp only [Act.put, List.getElem_toArray, List.getElem_cons_succ, List.getElem_cons_zero, List.setIfInBounds_toArray, List.set_cons_zero, List.set_cons_succ]
        refine wpAnyH_ready (rs := [17, 19]) (by kernel_rfl) (by simp) (AllReadyH.cons rfl (fun K hK => ?_) (AllReadyH.cons rfl (fun K hK => ?_) AllReadyH.nil))
        · simp only [List.getElem_toArray, List.getElem_cons_succ, List.getElem_cons_zero]
          try rw [if_pos (by rfl)]
          have p9 : D.cell? ⟨hvb, q, none⟩ = some (Hv q) := cellA h0 HAD.out
          go_simp
          refine hK.out _ _ hHeld (fun hHeld => ?_)
          clear hK p9
          try simp only [Act.put, List.getElem_toArray, List.getElem_cons_succ, List.getElem_cons_zero, List.setIfInBounds_toArray, List.set_cons_zero, List.set_cons_succ]
          refine wpAnyH_ready (rs := [19]) (by kernel_rfl) (by simp) (AllReadyH.cons rfl (fun K hK => ?_) AllReadyH.nil)
          simp only [List.getElem_toArray, List.getElem_cons_succ, List.getElem_cons_zero]
          go_simp
          obtain ⟨V2, hV2⟩ : ∃ V, D.alloc (.cells #[.int .i64 (k : Int)] 3) = V := ⟨_, rfl⟩
          obtain ⟨g8, hbb⟩ : ∃ q, D.heap.size = q := ⟨_, rfl⟩
          have hA2 : Adds D V2 := by rw [← hV2]; exact (Only.refl (fun _ => False) D).alloc _
          have HG8 : Hid (V2.cell? ⟨g8, 0, none⟩ = some (.int .i64 (k : Int))) := Lib.hid (by rw [← hV2, ← hbb]; exact (Blk.new D #[.int .i64 (k : Int)] 3).cell 0)
          try rw [hV2]
          try rw [hbb]
          have hg9 := And.intro (cellA hHeld.1 hA2) (cellA hHeld.2 hA2)
          replace HAD := Lib.hid (HAD.out.thenF hA2)
          refine hK.out _ _ hg9 (fun hHeld => ?_)
          clear hK hV2 hA2 hbb hg9
          try simp only [Act.put, List.getElem_toArray, List.getElem_cons_succ, List.getElem_cons_zero, List.setIfInBounds_toArray, List.set_cons_zero, List.set_cons_succ]
          refine wpAnyH_ready (rs := [20]) (by kernel_rfl) (by simp) (AllReadyH.cons rfl (fun K hK => ?_) AllReadyH.nil)
          simp only [List.getElem_toArray, List.getElem_cons_succ, List.getElem_cons_zero]
          try rw [if_pos (by rfl)]
          refine wp_append_big _ _ _ 54 rfl w.heap.size 3 i0 (.int .i64 0) 8 Tryz.underlying54 hi hz0 hz1 hz2 rfl (Hv q) _ ((dealt n k q).map (Value.int .i64)) rfl (row_adds (HN.out.own q hqn) HAD.out) (HN.out.nil q hqn) ⟨g8, 0, none⟩ 1 (.int .i64 (k : Int)) rfl (fun j y hj => by cases j with | zero => (simp at hj; subst hj; exact HG8.out) | succ j => simp at hj) rfl (by have := dealt_len n q k; unfold maxLen; omega) (by have := dealt_len n q k; omega) (by have := HN.out.adds.size; have := HAD.out.size; omega) ?_
          intro v9 V9 hR9 hO9 hB9
          obtain ⟨a9, cp9, rfl⟩ := ownsRow_slice hR9
          have hgb := HN.out.far HAD.out hqn hO9 HN.out.game (by decide); have hsb := HN.out.far HAD.out hqn hO9 HN.out.st (by decide); have hhb := HN.out.far HAD.out hqn hO9 HN.out.hv (by decide)
          have HAPP := Lib.hid (HN.out.app HAD.out HQ.out hqn hR9 hO9 hB9 HLZ.out.2.2.1)
          have x0 := hhb.frozen q; have x1 : V9.cell? ⟨hvb, q, none⟩ = some (Hv q) := by rw [hhb.cell q, rowOf_get _ hqn]
          refine hK.out _ _ ⟨hgb.cell 2, hsb.cell 1⟩ (fun hHeld => ?_)
          clear hK hgb hsb hhb hR9 hO9 hB9
          try simp only [Act.put, List.getElem_toArray, List.getElem_cons_succ, List.getElem_cons_zero, List.setIfInBounds_toArray, List.set_cons_zero, List.set_cons_succ]
          refine wpAnyH_take (i := 21) (v := (.pointer (some ⟨hvb, q, none⟩))) rfl (by kernel_rfl) (by kernel_rfl) (by kernel_rfl) (fun _ _ _ h => h) (Or.inl ⟨by rfl, fun W hS => by first | rfl | (go_simp; done)⟩) hHeld ?_
          try simp only [Act.put, List.getElem_toArray, List.getElem_cons_succ, List.getElem_cons_zero, List.setIfInBounds_toArray, List.set_cons_zero, List.set_cons_succ]
          refine wpAnyH_ready (rs := [22]) (by kernel_rfl) (by simp) (AllReadyH.cons rfl (fun K hK => ?_) AllReadyH.nil)
          simp only [List.getElem_toArray, List.getElem_cons_succ, List.getElem_cons_zero]
          try rw [if_pos (by rfl)]
          go_simp
          refine hK.out _ _ ⟨HAPP.out.game.cell 2, HAPP.out.st.cell 1⟩ (fun hHeld => ?_)
          clear hK x0 x1
          try simp only [Act.put, List.getElem_toArray, List.getElem_cons_succ, List.getElem_cons_zero, List.setIfInBounds_toArray, List.set_cons_zero, List.set_cons_succ]
          refine wpAnyH_done (by kernel_rfl) ?_ _
          go_wp2_with fail
          go_roundw
          case rel => exact ⟨k + 1, _, by omega, by go_num, HAPP⟩
          case measure => simp [intOf]; omega
        · simp only [List.getElem_toArray, List.getElem_cons_succ, List.getElem_cons_zero]
          go_simp
          obtain ⟨V2, hV2⟩ : ∃ V, D.alloc (.cells #[.int .i64 (k : Int)] 3) = V := ⟨_, rfl⟩
          obtain ⟨g8, hbb⟩ : ∃ q, D.heap.size = q := ⟨_, rfl⟩
          have hA2 : Adds D V2 := by rw [← hV2]; exact (Only.refl (fun _ => False) D).alloc _
          have HG8 : Hid (V2.cell? ⟨g8, 0, none⟩ = some (.int .i64 (k : Int))) := Lib.hid (by rw [← hV2, ← hbb]; exact (Blk.new D #[.int .i64 (k : Int)] 3).cell 0)
          try rw [hV2]
          try rw [hbb]
          have hg9 := And.intro (cellA hHeld.1 hA2) (cellA hHeld.2 hA2)
          replace HAD := Lib.hid (HAD.out.thenF hA2)
          refine hK.out _ _ hg9 (fun hHeld => ?_)
          clear hK hV2 hA2 hbb hg9
          try simp only [Act.put, List.getElem_toArray, List.getElem_cons_succ, List.getElem_cons_zero, List.setIfInBounds_toArray, List.set_cons_zero, List.set_cons_succ]
          refine wpAnyH_ready (rs := [17]) (by kernel_rfl) (by simp) (AllReadyH.cons rfl (fun K hK => ?_) AllReadyH.nil)
          simp only [List.getElem_toArray, List.getElem_cons_succ, List.getElem_cons_zero]
          try rw [if_pos (by rfl)]
          have p9 : V2.cell? ⟨hvb, q, none⟩ = some (Hv q) := cellA h0 HAD.out
          go_simp
          refine hK.out _ _ hHeld (fun hHeld => ?_)
          clear hK p9
          try simp only [Act.put, List.getElem_toArray, List.getElem_cons_succ, List.getElem_cons_zero, List.setIfInBounds_toArray, List.set_cons_zero, List.set_cons_succ]
          refine wpAnyH_ready (rs := [20]) (by kernel_rfl) (by simp) (AllReadyH.cons rfl (fun K hK => ?_) AllReadyH.nil)
          simp only [List.getElem_toArray, List.getElem_cons_succ, List.getElem_cons_zero]
          try rw [if_pos (by rfl)]
          refine wp_append_big _ _ _ 54 rfl w.heap.size 3 i0 (.int .i64 0) 8 Tryz.underlying54 hi hz0 hz1 hz2 rfl (Hv q) _ ((dealt n k q).map (Value.int .i64)) rfl (row_adds (HN.out.own q hqn) HAD.out) (HN.out.nil q hqn) ⟨g8, 0, none⟩ 1 (.int .i64 (k : Int)) rfl (fun j y hj => by cases j with | zero => (simp at hj; subst hj; exact HG8.out) | succ j => simp at hj) rfl (by have := dealt_len n q k; unfold maxLen; omega) (by have := dealt_len n q k; omega) (by have := HN.out.adds.size; have := HAD.out.size; omega) ?_
          intro v9 V9 hR9 hO9 hB9
          obtain ⟨a9, cp9, rfl⟩ := ownsRow_slice hR9
          have hgb := HN.out.far HAD.out hqn hO9 HN.out.game (by decide); have hsb := HN.out.far HAD.out hqn hO9 HN.out.st (by decide); have hhb := HN.out.far HAD.out hqn hO9 HN.out.hv (by decide)
          have HAPP := Lib.hid (HN.out.app HAD.out HQ.out hqn hR9 hO9 hB9 HLZ.out.2.2.1)
          have x0 := hhb.frozen q; have x1 : V9.cell? ⟨hvb, q, none⟩ = some (Hv q) := by rw [hhb.cell q, rowOf_get _ hqn]
          refine hK.out _ _ ⟨hgb.cell 2, hsb.cell 1⟩ (fun hHeld => ?_)
          clear hK hgb hsb hhb hR9 hO9 hB9
          try simp only [Act.put, List.getElem_toArray, List.getElem_cons_succ, List.getElem_cons_zero, List.setIfInBounds_toArray, List.set_cons_zero, List.set_cons_succ]
          refine wpAnyH_take (i := 21) (v := (.pointer (some ⟨hvb, q, none⟩))) rfl (by kernel_rfl) (by kernel_rfl) (by kernel_rfl) (fun _ _ _ h => h) (Or.inl ⟨by rfl, fun W hS => by first | rfl | (go_simp; done)⟩) hHeld ?_
          try simp only [Act.put, List.getElem_toArray, List.getElem_cons_succ, List.getElem_cons_zero, List.setIfInBounds_toArray, List.set_cons_zero, List.set_cons_succ]
          refine wpAnyH_ready (rs := [22]) (by kernel_rfl) (by simp) (AllReadyH.cons rfl (fun K hK => ?_) AllReadyH.nil)
          simp only [List.getElem_toArray, List.getElem_cons_succ, List.getElem_cons_zero]
          try rw [if_pos (by rfl)]
          go_simp
          refine hK.out _ _ ⟨HAPP.out.game.cell 2, HAPP.out.st.cell 1⟩ (fun hHeld => ?_)
          clear hK x0 x1
          try simp only [Act.put, List.getElem_toArray, List.getElem_cons_succ, List.getElem_cons_zero, List.setIfInBounds_toArray, List.set_cons_zero, List.set_cons_succ]
          refine wpAnyH_done (by kernel_rfl) ?_ _
          go_wp2_with fail
          go_roundw
          case rel => exact ⟨k + 1, _, by omega, by go_num, HAPP⟩
          case measure => simp [intOf]; omega
      · have g1 : ¬ (k : Int) < (pn : Int) := by omega
        obtain rfl : k = pn := by omega
        go_wp2_with fail
        go_ret
        have hno : ∀ (t : Nat) (z : SkL), (List.replicate n (none : Option SkL))[t]? = some (some z) → False := fun t z e => by
          rw [List.getElem?_replicate] at e; split at e <;> simp at e
        exact ⟨ab, sb, sm, rb, rg, bb, tb, tm, ub, fb, gb, rfl, hvb, mb, onb, pub, Hv, ⟨⟨HN.out.both, HLEN.out, HLEN.out, Lanes.empty n, fun t z e => (hno t z e).elim, HLO.out, HN.out.adds⟩, by simp, HN.out.game, HN.out.hv, HN.out.mm, HN.out.on, HN.out.pu, HLZ.out.1, HLZ.out.2, fun t ht => ⟨dealt n k t, ⟨(HN.out.own t ht).1, by
          rcases (HN.out.own t ht).2 with h | ⟨g, cap, cur, h1, _, h3⟩
          · exact .inl h
          · exact .inr ⟨g, cap, cur, h1, Nat.zero_le _, h3⟩⟩, fun x hx => dealt_mem hx, Nat.le_trans (dealt_len n t k) p2⟩⟩, HN.out.own⟩
end Go.Proofs.YthhnpcniijpfeaaGreat

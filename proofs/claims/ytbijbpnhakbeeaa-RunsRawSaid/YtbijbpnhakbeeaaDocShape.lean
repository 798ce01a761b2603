/- The document's shape of a tree, out of its items, at whatever state. By an AI agent. -/
import Derived.Test.YtbijbpnhakbeeaaDocPut
namespace Go.Proofs.Ytbijbpnhakbeeaa
open Go.RowKit
theorem infoNode : (Try.prog.info? 72).map (fun i => (i.zero, i.size, i.bytes)) = some (some (.agg #[.int .i64 0, .int .i64 0]), 2, 16) := by kernel_rfl
def kdI (xs : List It) : List (Int × Int) := xs.map (fun x => (x.1, x.2.1))
def kdT (t : Tr) : List (Int × Int) := t.ins.map (fun e => (e.1, e.2.1))
/-- The first one of the greatest draw, of the first n. -/
def TopAt (xs : List It) (n k : Nat) : Prop := k < n ∧ ∃ y, xs[k]? = some y ∧ ∀ j x, j < n → xs[j]? = some x → x.2.1 ≤ y.2.1 ∧ (j < k → x.2.1 < y.2.1)
theorem TopAt.one {xs : List It} {y : It} (h : xs[0]? = some y) : TopAt xs 1 0 :=
  ⟨by omega, y, h, fun j x hj hx => by
    obtain rfl : j = 0 := by omega
    rw [h] at hx; cases hx; exact ⟨Int.le_refl _, fun h => absurd h (by omega)⟩⟩
theorem TopAt.up {xs : List It} {n k : Nat} {x y : It} (h : TopAt xs n k) (hx : xs[n]? = some x) (hy : xs[k]? = some y) (hd : y.2.1 < x.2.1) : TopAt xs (n + 1) n := by
  obtain ⟨h1, y', h2, h3⟩ := h
  rw [hy] at h2; cases h2
  refine ⟨by omega, x, hx, fun j z hj hz => ?_⟩
  by_cases hjn : j = n
  · subst hjn; rw [hx] at hz; cases hz; exact ⟨Int.le_refl _, fun h => absurd h (by omega)⟩
  · have := h3 j z (by omega) hz
    exact ⟨by omega, fun _ => by omega⟩
theorem TopAt.keep {xs : List It} {n k : Nat} {x y : It} (h : TopAt xs n k) (hx : xs[n]? = some x) (hy : xs[k]? = some y) (hd : ¬ y.2.1 < x.2.1) : TopAt xs (n + 1) k := by
  obtain ⟨h1, y', h2, h3⟩ := h
  rw [hy] at h2; cases h2
  refine ⟨by omega, y, hy, fun j z hj hz => ?_⟩
  by_cases hjn : j = n
  · subst hjn; rw [hx] at hz; cases hz; exact ⟨by omega, fun h => absurd h (by omega)⟩
  · exact h3 j z (by omega) hz
theorem TopAt.uniq {xs : List It} {n k k' : Nat} (h : TopAt xs n k) (h' : TopAt xs n k') : k = k' := by
  obtain ⟨h1, y, h2, h3⟩ := h
  obtain ⟨h1', y', h2', h3'⟩ := h'
  rcases Nat.lt_trichotomy k k' with hk | hk | hk
  · have a := h3' k y h1 h2; have b := h3 k' y' h1' h2'; have := a.2 hk; omega
  · exact hk
  · have a := h3 k' y' h1' h2'; have b := h3' k y h1 h2; have := a.2 hk; omega
theorem ItAt.front {w : World} {a : Option Addr} {n c : Nat} {L R : List It} (h : ItAt w (.slice a n c) (L ++ R)) : ItAt w (.slice a L.length c) L := by
  obtain ⟨a', c', h1, h2, h3, h4, h5⟩ := h
  cases h1
  refine ⟨a, c, rfl, by simp at h2; omega, h3, h4, fun i x hx => h5 i x ?_⟩
  have := (List.getElem?_eq_some_iff.1 hx).1
  rw [List.getElem?_append_left this]; exact hx
theorem ItAt.back {w : World} {g off n c : Nat} {L R : List It} (h : ItAt w (.slice (some ⟨g, off, none⟩) n c) (L ++ R)) : ItAt w (.slice (some ⟨g, off + L.length * 3, none⟩) R.length (c - L.length)) R := by
  obtain ⟨a', c', h1, h2, h3, h4, h5⟩ := h
  cases h1
  refine ⟨_, _, rfl, by simp at h2; omega, by omega, fun e => (by cases e), fun i x hx => ?_⟩
  obtain ⟨b, o, e1, e2, e3, e4⟩ := h5 (L.length + i) x (by rw [List.getElem?_append_right (by omega)]; simpa using hx)
  cases e1
  refine ⟨g, off + L.length * 3, rfl, ?_, ?_, ?_⟩
  · rw [show off + L.length * 3 + i * 3 = off + (L.length + i) * 3 by omega]; exact e2
  · rw [show off + L.length * 3 + i * 3 = off + (L.length + i) * 3 by omega]; exact e3
  · rw [show off + L.length * 3 + i * 3 = off + (L.length + i) * 3 by omega]; exact e4
/-- Items that say a tree: the root's place. -/
theorem kd_node {b : Nat} {k d : Int} {v : Value} {l r : Tr} {xs : List It} (h : kdI xs = kdT (.node b k d v l r)) (hb : (Tr.node b k d v l r).bst) (hh : (Tr.node b k d v l r).heap) :
    ∃ L x R, xs = L ++ x :: R ∧ kdI L = kdT l ∧ x.1 = k ∧ kdI R = kdT r ∧ TopAt xs xs.length L.length := by
  unfold kdI kdT at h
  rw [Tr.ins, List.map_append, List.map_cons] at h
  obtain ⟨L, R', rfl, h1, h2⟩ := List.map_eq_append_iff.1 h
  obtain ⟨x, R, rfl, h3, h4⟩ := List.map_eq_cons_iff.1 h2
  obtain ⟨b1, b2, b3, b4⟩ := Tr.bst_node.1 hb
  obtain ⟨g1, g2, -, -⟩ := hh
  have h3' : x.1 = k ∧ x.2.1 = d := by simpa using h3
  refine ⟨L, x, R, rfl, h1, h3'.1, h4, by simp, x, by simp, fun j z hj hz => ?_⟩
  have hmL : ∀ z ∈ L, z.2.1 < d := fun z hz => by
    have : (z.1, z.2.1) ∈ L.map (fun x => (x.1, x.2.1)) := List.mem_map.2 ⟨z, hz, rfl⟩
    rw [h1] at this
    obtain ⟨e, he, e2⟩ := List.mem_map.1 this
    have a1 := b3 e he; have a2 := Tr.up_iff.1 (g1 e he)
    have e3 : e.1 = z.1 ∧ e.2.1 = z.2.1 := by simpa using e2
    omega
  have hmR : ∀ z ∈ R, z.2.1 ≤ d := fun z hz => by
    have : (z.1, z.2.1) ∈ R.map (fun x => (x.1, x.2.1)) := List.mem_map.2 ⟨z, hz, rfl⟩
    rw [h4] at this
    obtain ⟨e, he, e2⟩ := List.mem_map.1 this
    have a1 := b4 e he; have a2 := Tr.up_iff.1 (g2 e he)
    have e3 : e.1 = z.1 ∧ e.2.1 = z.2.1 := by simpa using e2
    omega
  rw [h3'.2]
  rcases Nat.lt_trichotomy j L.length with hlt | heq | hgt
  · rw [List.getElem?_append_left hlt] at hz
    have := hmL z (List.mem_of_getElem? hz)
    exact ⟨by omega, fun _ => this⟩
  · subst heq
    rw [List.getElem?_append_right (Nat.le_refl _)] at hz
    simp at hz; subst hz
    exact ⟨by omega, fun h => absurd h (by omega)⟩
  · rw [List.getElem?_append_right (by omega)] at hz
    obtain ⟨q, hq⟩ : ∃ q, j - L.length = q + 1 := ⟨j - L.length - 1, by omega⟩
    rw [hq, List.getElem?_cons_succ] at hz
    have := hmR z (List.mem_of_getElem? hz)
    exact ⟨this, fun h => absurd h (by omega)⟩
def ShapeTo (w : World) (dep : Nat) (t : Tr) (e : Ending) (w' : World) : Prop := ∃ u, e = .returned u ∧ w'.ownsRow w.heap.size 72 2 u (Tr.shape dep t).length (shCells (Tr.shape dep t)) ∧ Adds w w'
theorem wpList_append_src {P : Program} {ops : Array Oper} {rest : List Oper} {op : Oper} {a : Act} {w : World} {Q : Exit → Act → World → Prop} (hgd : op.guard = none) (s x : Operand) (t e : TypeId) (ho : op.op = .call { callee := .builtin .append, args := #[s, x], argTypes := #[t, t] })
    (i : TypeInfo) (z : Value) (size bytes : Nat) (ht : P.underlying t = some (.slice e)) (hi : P.info? e = some i) (hz : i.zero = some z)
    (hsize : i.size = size) (hby : i.bytes = bytes) (hzs : z.cells.size = size) (hsz : 0 < size) (base : Nat) (v : Value) (n : Nat) (xs : List Value) (hs : a.eval s = v) (hown : w.ownsRow base e size v n xs)
    (u : Value) (m : Nat) (news : List Value) (hx : a.eval x = u) (hu : Src w u m news) (hl : news.length = m * size) (h1 : ∀ u ∈ news, u.oneCell' = true) (h63 : n + m ≤ maxLen) (hbytes : (n + m) * bytes ≤ 140737488355328) (hbase : base ≤ w.heap.size)
    (h : ∀ v' w', w'.ownsRow base e size v' (n + m) (xs ++ news) → Only (fun y => some y = v.ownBlock) w w' → wpList P ops Q rest (a.put op.dst v') w') : wpList P ops Q (op :: rest) a w :=
  wpList_plain hgd fun _ hK => wp_append_src s x t e ho i z size bytes ht hi hz hsize hby hzs hsz base v n xs hs hown u m news hx hu hl h1 h63 hbytes hbase fun v' w' h2 h3 => hK _ _ (h v' w' h2 h3)
theorem Src.of_owns {w : World} {base : Nat} {e : TypeId} {size : Nat} {v : Value} {n : Nat} {xs : List Value} (h : w.ownsRow base e size v n xs) : Src w v n xs := by
  rcases h.2 with ⟨rfl, rfl⟩ | ⟨g, cap, cur, rfl, _, hg, _, _, _, hc⟩
  · have := h.1; exact .inl ⟨rfl, rfl, List.eq_nil_of_length_eq_zero (by omega)⟩
  · refine .inr (.inl ⟨g, 0, cap, rfl, fun j x hj => ?_⟩)
    rw [← hc, List.getElem?_take] at hj
    split at hj
    · rw [Nat.zero_add]; simpa [World.cell?, hg] using hj
    · cases hj
theorem kd_len {xs : List It} {t : Tr} (h : kdI xs = kdT t) : xs.length = t.size := by
  have := congrArg List.length h
  unfold kdI kdT at this
  rw [List.length_map, List.length_map, Tr.size_ins] at this
  exact this
set_option maxRecDepth 100000 in
set_option maxHeartbeats 8000000 in
theorem shape9_any (t : Tr) : ∀ (w : World) (v : Value) (xs : List It) (dep : Nat), t.bst → t.heap → kdI xs = kdT t → ItAt w v xs → dep + t.size < 900000 →
    Calls Try.prog 76 #[v, .int .i64 dep] w (ShapeTo w dep t) := by
  induction t with
  | nil =>
    intro w v xs dep _ _ hk hit _
    obtain rfl : xs = [] := by cases xs with | nil => rfl | cons x r => simp [kdI, kdT, Tr.ins] at hk
    obtain ⟨a, c, rfl, -⟩ := hit
    go_enter Try.func76, Try.ntmps76
    go_wp2_with fail
    go_ret
    exact ⟨_, rfl, World.ownsRow_nil _ _ _ _, Only.refl _ _⟩
  | node b k d vv l r ihl ihr =>
    intro w v xs dep hb hh hk hit hsz
    obtain ⟨i0, hi, hz0, hz1, hz2⟩ := info_parts infoNode
    obtain ⟨L, x, R, hxs, hkl, hxk, hkr, htop⟩ := kd_node hk hb hh
    have hlen := kd_len hk
    have hll := kd_len hkl
    have hlr := kd_len hkr
    obtain ⟨b1, b2, -, -⟩ := Tr.bst_node.1 hb
    obtain ⟨-, -, g1, g2⟩ := hh
    simp only [Tr.size] at hsz hlen
    obtain ⟨m, hm⟩ : ∃ m, L.length = m := ⟨_, rfl⟩
    obtain ⟨n, hn⟩ : ∃ n, xs.length = n := ⟨_, rfl⟩
    have hit' := hit
    obtain ⟨a, c, rfl, hc1, hc2, hc3, hv⟩ := hit'
    have hxat : xs[m]? = some x := by rw [hxs, ← hm]; simp
    obtain ⟨g, off, rfl, p1, -, -⟩ := hv m x hxat
    have hit1 : ItAt w (.slice (some ⟨g, off, none⟩) m c) L := by rw [hxs] at hit; rw [← hm]; exact hit.front
    have hit2 : ItAt w (.slice (some ⟨g, off + (m + 1) * 3, none⟩) R.length (c - (m + 1))) R := by
      have e : xs = (L ++ [x]) ++ R := by rw [hxs]; simp
      rw [e] at hit
      have := hit.back
      rw [show (L ++ [x]).length = m + 1 by simp [hm]] at this
      exact this
    have hR : R.length = n - (m + 1) := by rw [← hn, hxs]; simp; omega
    have hmn : m < n := by have := htop.1; omega
    rw [hR] at hit2
    have hit20 : c = m + 1 → ItAt w (.slice (some ⟨g, off, none⟩) (n - (m + 1)) 0) R := fun hcm => by
      have h0 : R = [] := List.eq_nil_of_length_eq_zero (by rw [hR]; have h1 := hc1; rw [hn] at h1; omega)
      rw [← hR, h0]
      exact ⟨_, _, rfl, Nat.le_refl _, Nat.zero_le _, fun _ => rfl, fun i x hx => by simp at hx⟩
    have HV := Lib.hid hv; have HI1 := Lib.hid hit1; have HI2 := Lib.hid hit2; have HT := Lib.hid htop; have HN := Lib.hid hn; have HM := Lib.hid hm
    have HL := Lib.hid (fun (w' : World) (ho : Adds w w') => (show Calls Try.prog 76 #[.slice (some ⟨g, off, none⟩) m c, .int .i64 ((dep : Int) + 1)] w' (ShapeTo w' (dep + 1) l) from ihl w' _ L (dep + 1) b1 g1 hkl (hit1.adds ho) (by omega)))
    have HRR := Lib.hid (fun (w' : World) (ho : Adds w w') => (show Calls Try.prog 76 #[.slice (some ⟨g, off + (m + 1) * 3, none⟩) (n - (m + 1)) (c - (m + 1)), .int .i64 ((dep : Int) + 1)] w' (ShapeTo w' (dep + 1) r) from ihr w' _ R (dep + 1) b2 g2 hkr (hit2.adds ho) (by omega)))
    have HRR0 := Lib.hid (fun (w' : World) (ho : Adds w w') (hcm : c = m + 1) => (show Calls Try.prog 76 #[.slice (some ⟨g, off, none⟩) (n - (m + 1)) 0, .int .i64 ((dep : Int) + 1)] w' (ShapeTo w' (dep + 1) r) from ihr w' _ R (dep + 1) b2 g2 hkr (hit20 hcm |>.adds ho) (by omega)))
    rw [hm] at htop; rw [hn] at hc1
    have hn4 : n < 900000 := by omega
    have hdw := wrap_succ dep (by omega)
    have hmw := wrap_succ m (by omega)
    rw [hn]
    obtain ⟨y0, hy0⟩ : ∃ y0, xs[0]? = some y0 := ⟨_, List.getElem?_eq_getElem (by omega)⟩
    have HY0 := Lib.hid hy0
    have hnz : ((n : Int) == 0) = false := by have : n ≠ 0 := by omega
                                              simpa using this
    have HXK := Lib.hid hxk
    have HLS := Lib.hid (show Tr.shape dep (.node b k d vv l r) = (k, (dep : Int)) :: (Tr.shape (dep + 1) l ++ Tr.shape (dep + 1) r) from rfl)
    have hs1 : (Tr.shape (dep + 1) l).length = l.size := Tr.shape_len _ _
    have hs2 : (Tr.shape (dep + 1) r).length = r.size := Tr.shape_len _ _
    have HS1 := Lib.hid hs1; have HS2 := Lib.hid hs2
    clear hit hit1 hit2 hit20 ihl ihr b1 b2 g1 g2 hkl hkr hb hk hv hxs htop hxk hlen hll hlr hn hs1 hs2 hy0 hxat hR hm
    go_enter Try.func76, Try.ntmps76
    go_wp2_with fail
    go_loopw [5, 6] (fun kv iv wr => ∃ (q i : Nat), kv = .int .i64 q ∧ iv = .int .i64 i ∧ i ≤ n ∧ 1 ≤ i ∧ Hid (TopAt xs i q) ∧ ∃ z, wr = w.drewN z) (fun _ iv _ => n - (intOf iv).toNat)
    case atStart => exact ⟨0, 1, rfl, rfl, by omega, by omega, Lib.hid (TopAt.one HY0.out), 0, rfl⟩
    case round =>
      obtain ⟨kq, i, rfl, rfl, hin, hi1, HQ, z, rfl⟩ := hrel
      have hwi := wrap_succ i (by omega)
      by_cases hi2 : i < n
      · obtain ⟨xi, hxi⟩ : ∃ xi, xs[i]? = some xi := ⟨_, List.getElem?_eq_getElem (by rw [HN.out]; exact hi2)⟩
        have hqn : kq < i := HQ.out.1
        have hqn2 : kq < n := by omega
        obtain ⟨xq, hxq⟩ : ∃ xq, xs[kq]? = some xq := ⟨_, List.getElem?_eq_getElem (by rw [HN.out]; omega)⟩
        obtain ⟨b1, o1, e1, -, r1, -⟩ := HV.out i xi hxi
        cases e1
        obtain ⟨b2, o2, e2, -, r2, -⟩ := HV.out kq xq hxq
        cases e2
        have HXI := Lib.hid hxi; have HXQ := Lib.hid hxq
        obtain ⟨dq, hdq⟩ : ∃ dq, xq.2.1 = dq := ⟨_, rfl⟩
        obtain ⟨di, hdi⟩ : ∃ di, xi.2.1 = di := ⟨_, rfl⟩
        rw [hdi] at r1; rw [hdq] at r2
        have HDQ := Lib.hid hdq; have HDI := Lib.hid hdi
        clear hxi hxq hdq hdi
        by_cases hd : dq < di
        · have HDD := Lib.hid hd
          go_wp2_with fail
          go_quiet ((fail))
          go_wp2_with fail
          go_roundw
          case rel => exact ⟨i, i + 1, by simp, by simp, by omega, by omega, Lib.hid (HQ.out.up HXI.out HXQ.out (by rw [HDQ.out, HDI.out]; have := HDD.out; omega)), _, rfl⟩
          case measure => simp [intOf]; omega
        · have hd' : decide (dq < di) = false := by simpa using hd
          have HDD := Lib.hid hd
          go_wp2_with fail
          go_quiet ((fail))
          go_wp2_with fail
          go_roundw
          case rel => exact ⟨kq, i + 1, by simp, by simp, by omega, by omega, Lib.hid (HQ.out.keep HXI.out HXQ.out (by rw [HDQ.out, HDI.out]; have := HDD.out; omega)), _, rfl⟩
          case measure => simp [intOf]; omega
      · obtain rfl : i = n := by omega
        have hkm : kq = m := HQ.out.uniq (by have h := HT.out; rw [HN.out, HM.out] at h; exact h)
        subst hkm
        replace p1 := cell_al p1 ((Only.refl (fun _ => False) w).drewN z)
        rw [HXK.out] at p1
        clear HV HY0 HQ HT hi2 hi1 hin
        have hAz : Adds w (w.drewN z) := (Only.refl (fun _ => False) w).drewN z
        obtain ⟨W, hW⟩ : ∃ W, w.drewN z = W := ⟨_, rfl⟩
        rw [hW] at p1 hAz ⊢
        have hsz2 : w.heap.size = W.heap.size := by rw [← hW]; rfl
        have HSZ := Lib.hid hsz2
        clear hW hsz2
        obtain ⟨W1, hW1⟩ : ∃ W1, W.alloc (.cells #[Value.int .i64 k, Value.int .i64 dep] 72) = W1 := ⟨_, rfl⟩
        have hr1 : W1.ownsRow w.heap.size 72 2 (.slice (some ⟨W.heap.size, 0, none⟩) 1 1) 1 [.int .i64 k, .int .i64 dep] := by
          rw [← hW1, HSZ.out]
          exact ⟨rfl, .inr ⟨W.heap.size, 1, #[.int .i64 k, .int .i64 dep], rfl, Nat.le_refl _, Blk.new W _ _, by omega, by decide, rfl, rfl⟩⟩
        have hA1 : Adds w W1 := by rw [← hW1]; exact hAz.alloc _
        have HR1 := Lib.hid hr1; have HA1 := Lib.hid hA1
        clear hr1 hA1 hAz
        go_wp2_with fail
        refine (HL.out W1 HA1.out).mono ?_
        rintro e W2 ⟨u, rfl, hu, hA2⟩
        have hr2 := row_only2 HR1.out hA2 (fun _ _ h => h)
        have hAd2 : Adds w W2 := HA1.out.thenF hA2
        have HR2 := Lib.hid hr2; have HU := Lib.hid hu; have HA2 := Lib.hid hAd2
        have hbs : w.heap.size ≤ W2.heap.size := hAd2.size
        clear hr2 hu hA2 hAd2
        go_wp2_with (at_builtin; refine wpList_append_src rfl _ _ 54 72 rfl i0 (.agg #[.int .i64 0, .int .i64 0]) 2 16 Try.underlying54 hi hz0 hz1 hz2 rfl (by decide) w.heap.size _ 1 [.int .i64 k, .int .i64 dep] rfl HR2.out _ _ _ rfl (Src.of_owns HU.out) HU.out.1 (shCells_one _) (by rw [HS1.out]; unfold maxLen; omega) (by rw [HS1.out]; omega) hbs ?_; intro v3 W3 hv3 hO3; have HV3 := Lib.hid hv3; have HO3 := Lib.hid hO3; clear hv3 hO3; obtain ⟨a3, c3, rfl⟩ := ownsRow_opened HV3.out)
        all_goals
          have hA3 : Adds w W3 := HA2.out.andThen HO3.out (fun y hy e => by have := row_base HR2.out y e; omega)
          have HA3 := Lib.hid hA3
          have hbs3 : w.heap.size ≤ W3.heap.size := hA3.size
          clear hA3
          first
            | with_reducible refine (HRR.out W3 HA3.out).mono ?_
            | refine (HRR0.out W3 HA3.out (by omega)).mono ?_
          rintro e W4 ⟨u2, rfl, hu2, hA4⟩
          have hr4 := row_only2 HV3.out hA4 (fun _ _ h => h)
          have hAd4 : Adds w W4 := HA3.out.thenF hA4
          have HR4 := Lib.hid hr4; have HU2 := Lib.hid hu2; have HA4 := Lib.hid hAd4
          have hbs4 : w.heap.size ≤ W4.heap.size := hAd4.size
          clear hr4 hu2 hA4 hAd4
          go_wp2_with (at_builtin; refine wpList_append_src rfl _ _ 54 72 rfl i0 (.agg #[.int .i64 0, .int .i64 0]) 2 16 Try.underlying54 hi hz0 hz1 hz2 rfl (by decide) w.heap.size _ (1 + (Tr.shape (dep + 1) l).length) _ rfl HR4.out _ _ _ rfl (Src.of_owns HU2.out) HU2.out.1 (shCells_one _) (by rw [HS1.out, HS2.out]; unfold maxLen; omega) (by rw [HS1.out, HS2.out]; omega) hbs4 ?_; intro v5 W5 hv5 hO5; have HV5 := Lib.hid hv5; have HO5 := Lib.hid hO5; clear hv5 hO5; obtain ⟨a5, c5, rfl⟩ := ownsRow_opened HV5.out)
          go_ret
          refine ⟨_, rfl, ?_, HA4.out.andThen HO5.out (fun y hy e => by have := row_base HR4.out y e; omega)⟩
          have h9 := HV5.out
          rw [HLS.out]
          rw [show ((k, (dep : Int)) :: (Tr.shape (dep + 1) l ++ Tr.shape (dep + 1) r)).length = 1 + (Tr.shape (dep + 1) l).length + (Tr.shape (dep + 1) r).length by simp; omega]
          rw [show shCells ((k, (dep : Int)) :: (Tr.shape (dep + 1) l ++ Tr.shape (dep + 1) r)) = [.int .i64 k, .int .i64 dep] ++ shCells (Tr.shape (dep + 1) l) ++ shCells (Tr.shape (dep + 1) r) by rw [shCells, shCells_append]; rfl]
          exact h9
end Go.Proofs.Ytbijbpnhakbeeaa

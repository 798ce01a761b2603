/- Package dustpanlaw12: StackOrder's parts: play.Head, has; what lies in a stack behind a push, a pop. By an AI agent. -/
import Derived.Test.YtbcfeaimopijfaaStackBeside
import Derived.Test.YtbcfeaimopijfaaRow
import Derived.Laws.AppendOwnNone
namespace Go.Proofs.Ytbcfeaimopijfaa
open Go.RowKit
set_option maxHeartbeats 400000 in
theorem playHead_any (k : Int) (w : World) (h0 : 0 ≤ k) (_ : k < 256) : Calls Try.prog 8 #[.int .i64 k] w fun e w' => e = .returned (.int .i64 (8 + k % 60)) ∧ w = w' := by
  have e1 : IntKind.i64.wrap (8 + k % 60) = 8 + k % 60 := by simp [IntKind.wrap_i64]; omega
  have e2 : Int.tmod k 60 = k % 60 := Int.tmod_eq_emod_of_nonneg h0
  go_enter Try.func8, Try.ntmps8
  go_wp2
  go_ret
  exact ⟨rfl, rfl⟩
set_option maxHeartbeats 4000000 in
theorem has_any {w : World} {v : Value} {xs : List Int} (x : Int) (h : Ints w v xs) (hn : xs.length ≤ 65536) :
    Calls Try.prog 9 #[v, .int .i64 x] w fun e w' => e = .returned (.bool (decide (x ∈ xs))) ∧ ∃ k, w' = w.drewN k := by
  obtain ⟨a1, c1, rfl, h⟩ := h
  obtain ⟨n, hx⟩ : ∃ n, n = xs.length := ⟨_, rfl⟩
  have HX := Lib.hid hx
  rw [← hx] at h hn ⊢
  have H1 := Lib.hid h
  obtain ⟨B, hB⟩ : ∃ B, B = decide (x ∈ xs) := ⟨_, rfl⟩
  have HB := Lib.hid hB
  rw [← hB]
  clear h hx hB
  go_enter Try.func9, Try.ntmps9
  go_wp2
  go_loopw [5] (fun i wr => ∃ k m : Nat, k ≤ n ∧ i = .int .i64 k ∧ wr = w.drewN m ∧ Aside (∀ j, j < k → xs.getD j 0 ≠ x)) (fun i _ => n - (intOf i).toNat)
  case atStart => exact ⟨0, 0, Nat.zero_le _, rfl, rfl, fun j hj => by omega⟩
  case round =>
    obtain ⟨k, m, hk, rfl, rfl, hs⟩ := hrel
    have HS := Lib.hid hs.out
    clear hs
    rcases Nat.lt_or_ge k n with hk2 | hk2
    · obtain ⟨b1, o1, rfl, l1, q1⟩ := H1.out k hk2
      obtain ⟨y, hy⟩ : ∃ y, y = xs.getD k 0 := ⟨_, rfl⟩
      rw [← hy] at q1
      have HY := Lib.hid hy
      clear hy
      by_cases hxy : y = x
      · have hb : B = true := by
          rw [HB.out, decide_eq_true_eq, ← hxy, HY.out, List.getD_eq_getElem?_getD, List.getElem?_eq_getElem (by have := HX.out; omega)]
          exact List.getElem_mem _
        have s1 : (y == x) = true := by simpa using hxy
        subst hb
        clear hxy
        go_wp2
        go_ret
        exact ⟨rfl, _, rfl⟩
      · have s1 : (y == x) = false := by simpa using hxy
        go_wp2
        go_roundw
        case rel => exact ⟨k + 1, _, by omega, by go_num, rfl, fun j hj => by
          rcases Nat.lt_or_ge j k with h2 | h2
          · exact HS.out j h2
          · obtain rfl : j = k := by omega
            rw [← HY.out]; exact hxy⟩
        case measure => simp [intOf]; omega
    · obtain rfl : k = n := by omega
      have hb : B = false := by
        rw [HB.out, decide_eq_false_iff_not]
        intro hm
        obtain ⟨j, hj, e⟩ := List.getElem_of_mem hm
        refine HS.out j (by have := HX.out; omega) ?_
        rw [List.getD_eq_getElem?_getD, List.getElem?_eq_getElem hj]
        exact e
      subst hb
      go_wp2
      go_ret
      exact ⟨rfl, m, rfl⟩
/-- Numbers below n, all unlike: no more than n. -/
theorem nodup_len : ∀ (n : Nat) (L : List Int), L.Nodup → (∀ x ∈ L, 0 ≤ x ∧ x < (n : Int)) → L.length ≤ n
  | 0, L, _, h => by
    cases L with
    | nil => exact Nat.le_refl _
    | cons x r => have := h x (by simp); omega
  | n + 1, L, hd, h => by
    by_cases hm : (n : Int) ∈ L
    · have h1 := nodup_len n (L.erase n) (hd.erase _) (fun x hx => by
        have h2 := h x (List.mem_of_mem_erase hx)
        have h3 : x ≠ n := fun e => by rw [e] at hx; exact (List.Nodup.not_mem_erase hd) hx
        omega)
      rw [List.length_erase_of_mem hm] at h1
      omega
    · have h1 := nodup_len n L hd (fun x hx => by
        have h2 := h x hx
        have h3 : x ≠ n := fun e => hm (e ▸ hx)
        omega)
      omega
/-- What lies in a stack, down to its end. -/
def Lays (f : Int → Int) (P : Int) : Int → List Int → Prop
  | p, [] => p < 0
  | p, q :: L => p = q ∧ (0 ≤ p ∧ p < P) ∧ Lays f P (underV (f p)) L
theorem Lays.lies {f : Int → Int} {P : Int} : ∀ {L : List Int} {p : Int}, Lays f P p L → Lies f P p L
  | [], p, h => by have h : p < 0 := h; exact (by omega : ¬ (0 ≤ p ∧ p < P))
  | _ :: _, _, ⟨e, hb, h⟩ => ⟨e, hb, h.lies⟩
theorem Lays.upd {f : Int → Int} {P x v : Int} : ∀ {L : List Int} {p : Int}, x ∉ L → Lays f P p L → Lays (fun q => if q = x then v else f q) P p L
  | [], _, _, h => h
  | y :: L, _, hx, ⟨e, hb, h⟩ => by
    have h1 : y ≠ x := fun e => hx (by simp [e])
    refine ⟨e, hb, ?_⟩
    simp only
    rw [if_neg (by rw [e]; exact h1)]
    exact Lays.upd (fun hm => hx (by simp [hm])) h
theorem Lays.bd {f : Int → Int} {P : Int} : ∀ {L : List Int} {p : Int}, Lays f P p L → ∀ x ∈ L, 0 ≤ x ∧ x < P
  | [], _, _, _, hx => by cases hx
  | y :: L, _, ⟨e, hb, h⟩, x, hx => by
    rcases List.mem_cons.1 hx with rfl | hx
    · exact e ▸ hb
    · exact Lays.bd h x hx
theorem underV_pg (H : Int) : underV (Tag.pg H + 1) = Tag.pg H := by
  have hb := Tag.pg_bd H
  unfold underV; split <;> omega
theorem Lays.push {f : Int → Int} {P H p : Int} {L : List Int} (h : Lays f P (Tag.pg H) L) (hp : 0 ≤ p ∧ p < P) (hP : P ≤ 4096) (hx : p ∉ L) :
    Lays (fun q => if q = p then Tag.pg H + 1 else f q) P (Tag.pg (Tag.nx H p)) (p :: L) := by
  rw [Tag.pg_nx (by omega)]
  refine ⟨rfl, hp, ?_⟩
  simp only [if_pos]
  rw [underV_pg]
  exact Lays.upd hx h
theorem underV_bd (x : Int) : -1 ≤ underV x ∧ underV x < 4096 := by unfold underV; split <;> omega
theorem Lays.pop {f : Int → Int} {P H p : Int} {L : List Int} (h : Lays f P (Tag.pg H) (p :: L)) : Lays f P (Tag.pg (Tag.nx H (underV (f (Tag.pg H))))) L := by
  have hb := underV_bd (f (Tag.pg H))
  rw [Tag.pg_nx hb]
  exact h.2.2
theorem Lays.head {f : Int → Int} {P H p : Int} {L : List Int} (h : Lays f P (Tag.pg H) (p :: L)) : Tag.pg H = p ∧ 0 ≤ p ∧ p < P := ⟨h.1, h.1 ▸ h.2.1⟩
/-- An own row, and behind it a row of integers. -/
theorem wpList_append_ints {w : World} {ops : Array Oper} {rest : List Oper} {o : Oper} {a : Act} {Q : Exit → Act → World → Prop} (hgd : o.guard = none) (s x : Operand) (t : TypeId)
    (ho : o.op = .call { callee := .builtin .append, args := #[s, x], argTypes := #[t, t] }) (ht : Try.prog.underlying t = some (.slice 3))
    (base : Nat) (v : Value) (n : Nat) (xs : List Value) (hs : a.eval s = v) (hown : w.ownsRow base 3 1 v n xs)
    (base2 : Nat) (u : Value) (L : List Int) (hx : a.eval x = u) (hu : w.ownsRow base2 3 1 u L.length (L.map (Value.int .i64))) (hnm : n + L.length ≤ 65536) (hbase : base ≤ w.heap.size)
    (h : ∀ v' w', w'.ownsRow base 3 1 v' (n + L.length) (xs ++ L.map (Value.int .i64)) → w.grownBy w' v.ownBlock → wpList Try.prog ops Q rest (a.put o.dst v') w') : wpList Try.prog ops Q (o :: rest) a w := by
  obtain ⟨i0, hi, hz0, hz1, hz2⟩ := info_parts infoInt
  obtain ⟨e0, ⟨rfl, hl⟩ | ⟨g, cap, cur, rfl, h2, h3, h4, h5, h6, h7⟩⟩ := hu
  · refine wpList_append_own_none hgd s x t ho base 3 i0 1 ht hi v n xs hs hown hx (h v w ?_ ⟨rfl, rfl, rfl, Nat.le_refl _, fun _ _ _ => rfl⟩)
    obtain rfl : L = [] := List.length_eq_zero_iff.1 hl
    simpa using hown
  · refine wpList_append_own w hgd s x t ho base 3 i0 (.int .i64 0) 1 8 ht hi hz0 hz1 hz2 rfl (by decide) v n xs hs hown ⟨g, 0, none⟩ L.length cap (L.map (Value.int .i64)) hx (by simp) ?_ ?_ (by unfold maxLen; omega) (by omega) hbase (fun v' w' a1 a2 _ => h v' w' a1 a2)
    · intro j y hj
      have e1 : (cur.toList.take (L.length * 1))[j]? = some y := by rw [h7]; exact hj
      rw [List.getElem?_take_of_lt (by rw [List.getElem?_eq_some_iff] at hj; obtain ⟨hj, _⟩ := hj; simp at hj; omega)] at e1
      have ea : (⟨g, 0, none⟩ : Addr).add j = ⟨g, j, none⟩ := by unfold Addr.add; split <;> simp_all
      rw [ea]
      simpa [World.cell?, h3] using e1
    · intro y hy
      obtain ⟨z, _, rfl⟩ := List.mem_map.1 hy
      rfl
theorem row_only {w w' : World} {base n : Nat} {v : Value} {e : TypeId} {xs : List Value} {S : Nat → Prop} (h : w.ownsRow base e 1 v n xs) (ho : Only S w w') (hS : ∀ g cur, Blk w g cur e → ¬ S g) : w'.ownsRow base e 1 v n xs := by
  obtain ⟨h0, h1 | ⟨g, cap, cur, e1, e2, e3, r⟩⟩ := h
  · exact ⟨h0, .inl h1⟩
  · exact ⟨h0, .inr ⟨g, cap, cur, e1, e2, (ho.block g (Array.getElem?_eq_some_iff.1 e3).1 (hS g cur e3)).trans e3, r⟩⟩
theorem row_base {w : World} {base base' n : Nat} {v : Value} {e : TypeId} {xs : List Value} (h : w.ownsRow base e 1 v n xs) (hb : base' ≤ base) : w.ownsRow base' e 1 v n xs := by
  obtain ⟨h0, h1 | ⟨g, cap, cur, e1, e2, r⟩⟩ := h
  · exact ⟨h0, .inl h1⟩
  · exact ⟨h0, .inr ⟨g, cap, cur, e1, Nat.le_trans hb e2, r⟩⟩
theorem YS.row {w w' : World} {ab sb sm rb m2 base n : Nat} {P T hd H : Int} {f : Int → Int} {c2 : Array Value} {t2 : TypeId} {v : Value} {xs : List Value} (h : YS w ab sb sm rb P T hd H f) (hm : Blk w m2 c2 t2) (ht : t2 ≠ 3) (hr : w.ownsRow base 3 1 v n xs) (ho : Only (fun j => SB sb sm j ∨ j = m2) w w') : w'.ownsRow base 3 1 v n xs := by
  obtain ⟨s, hY, hS⟩ := h
  refine row_only hr ho (fun g cur hg => ?_)
  have hmb := hY.mach hg (by decide) (by decide) (by decide)
  rintro (e | rfl)
  · exact e.elim hmb.2.1 hmb.2.2
  · exact ht ((hm.uniq hg).2)
end Go.Proofs.Ytbcfeaimopijfaa

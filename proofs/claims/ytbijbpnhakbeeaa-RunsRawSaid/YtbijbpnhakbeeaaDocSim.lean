/- The program's free runs and the document's go together: a plain law. By an AI agent. -/
import Derived.Test.YtbijbpnhakbeeaaDocNew
namespace Go.Proofs.Ytbijbpnhakbeeaa
open Go.RowKit
/-- Keys rise. -/
def RiseI (its : List It) : Prop := (its.map (·.1)).Pairwise (· < ·)
theorem plc_split {A B : List It} {key : Int} (hA : ∀ x ∈ A, x.1 < key) (hB : ∀ x ∈ B, key ≤ x.1) : plc key (A ++ B) = A.length := by
  induction A with
  | nil =>
    cases B with
    | nil => rfl
    | cons y r => have := hB y (by simp); show plc key (y :: r) = 0; unfold plc; rw [if_neg (by omega)]
  | cons x r ih =>
    show plc key (x :: (r ++ B)) = _
    unfold plc
    rw [if_pos (hA x (by simp)), ih (fun y hy => hA y (by simp [hy]))]
    rfl
theorem RiseI.parts {its : List It} (h : RiseI its) (key : Int) : (∀ x ∈ its.take (plc key its), x.1 < key) ∧ (∀ x ∈ its.drop (plc key its), key ≤ x.1) := by
  induction its with
  | nil => exact ⟨fun x hx => by simp at hx, fun x hx => by simp at hx⟩
  | cons y r ih =>
    have h' := List.pairwise_cons.1 (show ((y.1 :: r.map (·.1)).Pairwise (· < ·)) from h)
    obtain ⟨i1, i2⟩ := ih h'.2
    unfold plc
    split
    · rename_i hy
      refine ⟨fun x hx => ?_, fun x hx => i2 x (by simpa using hx)⟩
      rw [List.take_succ_cons] at hx
      rcases List.mem_cons.1 hx with rfl | hx
      · exact hy
      · exact i1 x hx
    · rename_i hy
      refine ⟨fun x hx => by simp at hx, fun x hx => ?_⟩
      rw [List.drop_zero] at hx
      rcases List.mem_cons.1 hx with rfl | hx
      · omega
      · have := h'.1 x.1 (List.mem_map.2 ⟨x, hx, rfl⟩); omega
theorem has_iff {its : List It} (h : RiseI its) (key : Int) : hasK key its = true ↔ ∃ x ∈ its, x.1 = key := by
  obtain ⟨h1, h2⟩ := h.parts key
  constructor
  · intro hk
    obtain ⟨x, hx, he⟩ := hasK_at hk
    exact ⟨x, List.mem_of_getElem? hx, he⟩
  · rintro ⟨x, hx, rfl⟩
    have hd : x ∈ its.drop (plc x.1 its) := by
      have h3 := (List.take_append_drop (plc x.1 its) its) ▸ hx
      rcases List.mem_append.1 h3 with h4 | h4
      · have := h1 x h4; omega
      · exact h4
    have hp : ((its.drop (plc x.1 its)).map (·.1)).Pairwise (· < ·) := by
      exact List.Pairwise.sublist (List.Sublist.map (·.1) (List.drop_sublist (plc x.1 its) its)) (show (its.map (·.1)).Pairwise (· < ·) from h)
    unfold hasK
    rw [show its[plc x.1 its]? = (its.drop (plc x.1 its))[0]? by rw [List.getElem?_drop, Nat.add_zero]]
    cases hdr : its.drop (plc x.1 its) with
    | nil => rw [hdr] at hd; cases hd
    | cons y r =>
      rw [hdr] at hd h2 hp
      show decide (y.1 = x.1) = true
      rcases List.mem_cons.1 hd with rfl | hd
      · simp
      · have h5 := (List.pairwise_cons.1 (show ((y.1 :: r.map (·.1)).Pairwise (· < ·)) from hp)).1 x.1 (List.mem_map.2 ⟨x, hd, rfl⟩)
        have h6 := h2 y (by simp)
        omega
theorem del_filter {its : List It} (h : RiseI its) {key : Int} (hk : hasK key its = true) : delI key its = its.filter (fun x => x.1 != key) := by
  obtain ⟨h1, h2⟩ := h.parts key
  obtain ⟨x, hx, he⟩ := hasK_at hk
  have hlt := (List.getElem?_eq_some_iff.1 hx).1
  have e : its = its.take (plc key its) ++ x :: its.drop (plc key its + 1) := by
    conv => lhs; rw [← List.take_append_drop (plc key its) its]
    congr 1
    exact List.drop_eq_getElem?_toList_append.trans (by rw [hx]; rfl)
  have hf1 : (its.take (plc key its)).filter (fun x => x.1 != key) = its.take (plc key its) := List.filter_eq_self.2 (fun y hy => by have := h1 y hy; simp; omega)
  have hp : ((its.drop (plc key its)).map (·.1)).Pairwise (· < ·) := List.Pairwise.sublist (List.Sublist.map (·.1) (List.drop_sublist (plc key its) its)) (show (its.map (·.1)).Pairwise (· < ·) from h)
  have hd : its.drop (plc key its) = x :: its.drop (plc key its + 1) := List.drop_eq_getElem?_toList_append.trans (by rw [hx]; rfl)
  have hf2 : (its.drop (plc key its + 1)).filter (fun x => x.1 != key) = its.drop (plc key its + 1) := List.filter_eq_self.2 (fun y hy => by
    rw [hd] at hp
    have h5 := (List.pairwise_cons.1 (show ((x.1 :: (its.drop (plc key its + 1)).map (·.1)).Pairwise (· < ·)) from hp)).1 y.1 (List.mem_map.2 ⟨y, hy, rfl⟩)
    simp; omega)
  unfold delI
  conv => rhs; rw [e]
  rw [List.filter_append, hf1, List.filter_cons_of_neg (by simp [he]), hf2]
theorem RiseI.of_kd {its : List It} {t : Tr} (h : kdI its = kdT t) (hb : t.bst) : RiseI its := by
  have h1 : its.map (·.1) = t.ins.map (·.1) := by
    have := congrArg (List.map Prod.fst) h
    unfold kdI kdT at this
    rw [List.map_map, List.map_map] at this
    exact this
  unfold RiseI; rw [h1]; exact hb
theorem kd_mem {its : List It} {t : Tr} (h : kdI its = kdT t) (key : Int) : (∃ x ∈ its, x.1 = key) ↔ ∃ e ∈ t.ins, e.1 = key := by
  constructor
  · rintro ⟨x, hx, rfl⟩
    have h1 : (x.1, x.2.1) ∈ kdI its := List.mem_map.2 ⟨x, hx, rfl⟩
    rw [h] at h1
    obtain ⟨e, he, h2⟩ := List.mem_map.1 h1
    have h3 : e.1 = x.1 ∧ e.2.1 = x.2.1 := by simpa using h2
    exact ⟨e, he, h3.1⟩
  · rintro ⟨e, he, rfl⟩
    have h1 : (e.1, e.2.1) ∈ kdT t := List.mem_map.2 ⟨e, he, rfl⟩
    rw [← h] at h1
    obtain ⟨x, hx, h2⟩ := List.mem_map.1 h1
    have h3 : x.1 = e.1 ∧ x.2.1 = e.2.1 := by simpa using h2
    exact ⟨x, hx, h3.1⟩
theorem kd_drop {its : List It} {t : Tr} (h : kdI its = kdT t) (hb : t.bst) {key : Int} (hk : hasK key its = true) : kdI (delI key its) = kdT (Tr.drop key t) := by
  rw [del_filter (RiseI.of_kd h hb) hk]
  unfold kdT
  rw [Tr.drop_ins hb]
  have h1 : ∀ l : List It, kdI (l.filter (fun x => x.1 != key)) = (kdI l).filter (fun x => x.1 != key) := fun l => by
    unfold kdI; rw [List.filter_map]; rfl
  have h2 : (t.ins.filter (fun e => e.1 != key)).map (fun e => (e.1, e.2.1)) = (kdT t).filter (fun x => x.1 != key) := by
    unfold kdT; rw [List.filter_map]; rfl
  rw [h1, h2, h]
theorem kd_put {its : List It} {t : Tr} (h : kdI its = kdT t) (hb : t.bst) (key d v : Int) (nb : Nat) (vv : Value) : kdI (insI key d v its) = kdT (Tr.put nb key d vv t) := by
  obtain ⟨l1, l2⟩ := Tr.split_lt key t hb
  have hs := Tr.split_ins key t
  unfold kdT
  rw [Tr.put_ins, List.map_append, List.map_cons]
  unfold kdI kdT at h
  rw [← hs, List.map_append] at h
  obtain ⟨A, B, rfl, hA, hB⟩ := List.map_eq_append_iff.1 h
  have hp : plc key (A ++ B) = A.length := plc_split (fun x hx => by
      have : (x.1, x.2.1) ∈ A.map (fun x => (x.1, x.2.1)) := List.mem_map.2 ⟨x, hx, rfl⟩
      rw [hA] at this
      obtain ⟨e, he, h2⟩ := List.mem_map.1 this
      have h3 : e.1 = x.1 ∧ e.2.1 = x.2.1 := by simpa using h2
      have := l1 e he; omega) (fun x hx => by
      have : (x.1, x.2.1) ∈ B.map (fun x => (x.1, x.2.1)) := List.mem_map.2 ⟨x, hx, rfl⟩
      rw [hB] at this
      obtain ⟨e, he, h2⟩ := List.mem_map.1 this
      have h3 : e.1 = x.1 ∧ e.2.1 = x.2.1 := by simpa using h2
      have := l2 e he; omega)
  unfold insI kdI
  rw [hp]
  simp [hA, hB]
/-- The two go together. -/
structure Sim (s : RS) (d : DS) : Prop where
  len : (d.fr.length : Int) = s.P
  list : lstN d.fr d.fr.length = s.xs
  kd : kdI d.its = kdT s.t
  ds : d.ds = s.ds
  n : d.n = s.dn
section
variable {s s' : RS} {d d' : DS}
theorem Sim.pages (h : Sim s d) (p : Int) : pg s.xs p ↔ 0 ≤ p ∧ p < (d.fr.length : Int) ∧ d.fr.getD p.toNat false = true := by
  rw [← h.list]; exact (lstN_ok d.fr d.fr.length).2 p
theorem Sim.rise (h : Sim s d) (hs : s.Ok) : RiseI d.its := RiseI.of_kd h.kd hs.tree.bst
theorem Sim.has (h : Sim s d) (hs : s.Ok) (key : Int) : hasK key d.its = true ↔ ∃ y ∈ s.xs, kOf y = key := by
  rw [has_iff (h.rise hs), kd_mem h.kd]
  constructor
  · rintro ⟨e, he, rfl⟩
    obtain ⟨y, hy, hk, _⟩ := hs.mem e he
    exact ⟨y, hy, hk.symm⟩
  · rintro ⟨y, hy, rfl⟩
    exact hs.have_ y hy
theorem Sim.room (h : Sim s d) (hs : s.Ok) : d.its.length ≤ 4096 := by
  have h1 := kd_len h.kd
  have h2 := hs.size
  have h3 := hs.list.len (by have := hs.P1; omega)
  have h4 := hs.P2
  omega
theorem Sim.draw (h : Sim s d) : d.draw = s.draw := by unfold DS.draw RS.draw; rw [h.ds, h.n]
/-- What Take wants. -/
theorem Sim.askT (h : Sim s d) (hs : s.Ok) (n : Int) (hn : 1 ≤ n) : TakeAsk d n := fun x hx => by
  rw [h.list] at hx
  have hk : hasK (kOf x) d.its = true := (h.has hs _).2 ⟨x, hx.mem, rfl⟩
  refine ⟨hk, fun hlt => ?_⟩
  have ht := took hs.list hn hx.mem hx.long
  have hb := ht.bd hlt
  have hr := del_filter (h.rise hs) hk
  cases hc : hasK (kOf (x.1 + n, x.2 - n)) (delI (kOf x) d.its) with
  | false => rfl
  | true =>
    obtain ⟨z, hz, he⟩ := hasK_at hc
    have hz2 := List.mem_of_getElem? hz
    rw [hr] at hz2
    obtain ⟨hz3, hz4⟩ := List.mem_filter.1 hz2
    obtain ⟨y, hy, hyk⟩ := (h.has hs z.1).1 ((has_iff (h.rise hs) _).2 ⟨z, hz3, rfl⟩)
    have e1 := hs.key_inj (x := y) (y := (x.1 + n, x.2 - n)) (hs.list.bd y hy) (by simpa using hb) (hyk.trans he)
    have hyx : y ≠ x := fun e => by subst e; simp [hyk] at hz4
    have := ht.free y ((mem_delL hs.list hx.mem).2 ⟨hy, hyx⟩)
    rw [e1] at this; simp only at this; omega
theorem Sim.del (h : Sim s d) (hs : s.Ok) {x : Int × Int} (hx : x ∈ s.xs) (v v' : Value) : kdI (d.del (kOf x) v).its = kdT (s.del x v').t :=
  kd_drop h.kd hs.tree.bst ((h.has hs _).2 ⟨x, hx, rfl⟩)
theorem list_turn {fr : List Bool} {P : Int} {xs : List (Int × Int)} {a k : Nat} {b : Bool} (hl : (fr.length : Int) = P) (hk : a + k ≤ fr.length) (ho : RunsOk P xs) (hp : ∀ p : Int, pg xs p ↔ 0 ≤ p ∧ p < P ∧ (if (a : Int) ≤ p ∧ p < a + k then b else fr.getD p.toNat false) = true) : lstN (setTo fr a b k) (setTo fr a b k).length = xs := by
  subst hl
  rw [setTo_len]
  refine lst_eq ho (fun p => (hp p).trans ?_)
  by_cases h0 : 0 ≤ p
  · obtain ⟨q, rfl⟩ : ∃ q : Nat, p = q := ⟨p.toNat, by omega⟩
    rw [Int.toNat_natCast, setTo_at _ _ _ _ _ hk]
    have e : ((a : Int) ≤ (q : Int) ∧ (q : Int) < (a : Int) + (k : Int)) ↔ (a ≤ q ∧ q < a + k) := by omega
    by_cases hc : a ≤ q ∧ q < a + k
    · rw [if_pos hc, if_pos (e.2 hc)]
    · rw [if_neg hc, if_neg (fun h => hc (e.1 h))]
  · constructor <;> (rintro ⟨h1, _⟩; omega)
/-- Both take. -/
theorem Sim.take (h : Sim s d) (hs : s.Ok) {n a e a' e' : Int} (ht : TakeOf s n a e s') (hd : TakeD d n a' e' d') : a = a' ∧ e = e' ∧ Sim s' d' := by
  rcases ht with ⟨h1, rfl, rfl, rfl⟩ | ⟨h1, h2, rfl, rfl, rfl⟩ | ⟨h1, x, hx, rfl, rfl, lv, hh⟩
  · rcases hd with ⟨k1, rfl, rfl, rfl⟩ | ⟨k1, _⟩ | ⟨k1, _⟩
    · exact ⟨rfl, rfl, h⟩
    · omega
    · omega
  · rcases hd with ⟨k1, _⟩ | ⟨k1, k2, rfl, rfl, rfl⟩ | ⟨k1, y, hy, _⟩
    · omega
    · exact ⟨rfl, rfl, h⟩
    · rw [h.list] at hy
      have := h2 y hy.mem; have := hy.long; omega
  · rcases hd with ⟨k1, _⟩ | ⟨k1, k2, _⟩ | ⟨k1, y, hy, rfl, rfl, lv2, hh2⟩
    · omega
    · rw [h.list] at k2
      have := k2 x hx.mem; have := hx.long; omega
    · rw [h.list] at hy
      obtain rfl := IsBest.uniq hs.list hs.P2 hx hy
      refine ⟨rfl, rfl, ?_⟩
      have hT := took hs.list h1 hx.mem hx.long
      have hb := hs.list.bd x hx.mem
      have hlong := hx.long
      have hlen := h.len
      obtain ⟨m, rfl⟩ : ∃ m : Nat, n = m := ⟨n.toNat, by omega⟩
      obtain ⟨x1, x2⟩ := x
      simp only at hb hlong
      obtain ⟨b, rfl⟩ : ∃ b : Nat, x1 = b := ⟨x1.toNat, by omega⟩
      have hli : lstN (setTo d.fr b false m) (setTo d.fr b false m).length = takeL ((b : Int), x2) m s.xs := list_turn hlen (by omega) hT.ok (fun p => by
        rw [hT.pages p, h.pages p, hlen]
        simp only
        by_cases hc : (b : Int) ≤ p ∧ p < (b : Int) + (m : Int)
        · rw [if_pos hc]; simp [hc]
        · rw [if_neg hc]; simp [hc])
      have hle : ((setTo d.fr b false m).length : Int) = s.P := by rw [setTo_len]; exact hlen
      have hdl := h.del hs hx.mem lv2 lv
      rcases hh with ⟨h3, rfl⟩ | ⟨h3, nb, lv', rfl⟩
      · rcases hh2 with ⟨_, rfl⟩ | ⟨h4, _⟩
        · refine ⟨hle, ?_, hdl, h.ds, h.n⟩
          have e9 : takeL ((b : Int), x2) m s.xs = delL ((b : Int), x2) s.xs := by unfold takeL; rw [if_neg (by simp only; simp only at h3; omega)]
          rw [e9] at hli
          exact hli
        · simp only at h3 h4; omega
      · rcases hh2 with ⟨h4, _⟩ | ⟨_, lv3, rfl⟩
        · simp only at h3 h4; omega
        · refine ⟨hle, ?_, ?_, h.ds, by show d.n + 1 = s.dn + 1; rw [h.n]⟩
          · have e9 : takeL ((b : Int), x2) m s.xs = insL ((b : Int) + m, x2 - m) (delL ((b : Int), x2) s.xs) := by unfold takeL; rw [if_pos h3]
            rw [e9] at hli
            exact hli
          · show kdI (insI _ _ _ _) = kdT (Tr.put nb _ _ _ _)
            rw [show (DS.setF (d.del (kOf ((b : Int), x2)) lv2) ((b : Int), x2).1.toNat false (m : Int).toNat).draw = (s.del ((b : Int), x2) lv).draw from h.draw]
            exact kd_put hdl (Tr.drop_ok hs.tree).bst _ _ _ _ _
/-- Where no page is free, those that lie near lie beside. -/
theorem near_tch {P : Int} {xs : List (Int × Int)} (h : RunsOk P xs) {a n : Int} (hn : 1 ≤ n) (hh : ∀ y ∈ nearL xs a (a + n), ¬ Hits y a n) : nearL xs a (a + n) = tch a n xs := by
  have hm := fun y => mem_nearL h (a := a) (b := a + n) (y := y)
  have e : nearL xs a (a + n) = xs.filter (fun y => decide (a ≤ y.1 + y.2) && decide (y.1 ≤ a + n)) := by
    unfold nearL
    rw [takeWhile_rise _ (h.sub (List.drop_sublist _ _)), (place_split a h).2, List.filter_filter]
    congr 1
    funext y
    exact Bool.and_comm _ _
  unfold tch
  rw [e]
  refine List.filter_congr (fun y hy => ?_)
  have hb := h.bd y hy
  have h2 := fun hc => hh y ((hm y).2 ⟨hy, hc⟩)
  unfold Hits at h2
  unfold touch
  by_cases c1 : a ≤ y.1 + y.2
  · by_cases c2 : y.1 ≤ a + n
    · have h3 := h2 ⟨c1, c2⟩
      have h4 : y.1 + y.2 = a ∨ y.1 = a + n := by omega
      rcases h4 with h4 | h4
      · have h5 : decide (y.1 + y.2 = a) = true := by simpa using h4
        simp [c1, c2, h5]
      · have h5 : decide (y.1 = a + n) = true := by simpa using h4
        simp [c1, c2, h5]
    · have h4 : ¬ y.1 + y.2 = a := by omega
      have h5 : ¬ y.1 = a + n := by omega
      simp [c2, h4, h5]
  · have h4 : ¬ y.1 + y.2 = a := by omega
    have h5 : ¬ y.1 = a + n := by omega
    simp [c1, h4, h5]
/-- Runs dropped, one behind the other: the items go with them. -/
theorem dels_sim {ys : List (Int × Int)} (h : Dels s ys s') : Sim s d → s.Ok → s'.Ok ∧ kdI (dropsI d.its ys) = kdT s'.t ∧ ∀ (k : Nat) (y : Int × Int), ys[k]? = some y → hasK (kOf y) (dropsI d.its (ys.take k)) = true := by
  induction h with
  | nil => intro hsim hs; exact ⟨hs, hsim.kd, fun k y hy => by simp at hy⟩
  | snoc h x hx lv ih =>
    rename_i s1 ys
    intro hsim hs
    obtain ⟨h1, h2, h3⟩ := ih hsim hs
    have hk : hasK (kOf x) (dropsI d.its ys) = true := (has_iff (RiseI.of_kd h2 h1.tree.bst) _).2 ((kd_mem h2 _).2 (h1.have_ x hx))
    refine ⟨h1.del hx lv, ?_, fun k y hy => ?_⟩
    · rw [dropsI_snoc]
      exact kd_drop h2 h1.tree.bst hk
    · rcases Nat.lt_trichotomy k ys.length with hlt | heq | hgt
      · rw [List.getElem?_append_left hlt] at hy
        rw [List.take_append_of_le_length (by omega)]
        exact h3 k y hy
      · subst heq
        rw [List.getElem?_append_right (Nat.le_refl _)] at hy
        simp at hy; subst hy
        rw [List.take_append_of_le_length (Nat.le_refl _), List.take_length]
        exact hk
      · rw [List.getElem?_eq_none (by simp; omega)] at hy; cases hy
theorem tch_place {a n : Int} : ∀ (L : List (Int × Int)) (k : Nat) (y : Int × Int), L[k]? = some y → touch a n y = true → ∃ j, (tch a n L)[j]? = some y ∧ (tch a n L).take j = tch a n (L.take k)
  | [], k, y, h, _ => by simp at h
  | x :: r, 0, y, h, ht => by
    simp at h; subst h
    exact ⟨0, by unfold tch; rw [List.filter_cons_of_pos ht]; rfl, rfl⟩
  | x :: r, k + 1, y, h, ht => by
    obtain ⟨j, h1, h2⟩ := tch_place r k y (by simpa using h) ht
    by_cases hx : touch a n x = true
    · refine ⟨j + 1, ?_, ?_⟩
      · unfold tch; rw [List.filter_cons_of_pos hx, List.getElem?_cons_succ]; exact h1
      · unfold tch at h2 ⊢; rw [List.filter_cons_of_pos hx, List.take_succ_cons, h2, List.take_succ_cons, List.filter_cons_of_pos hx]
    · refine ⟨j, ?_, ?_⟩
      · unfold tch; rw [List.filter_cons_of_neg hx]; exact h1
      · unfold tch at h2 ⊢; rw [List.filter_cons_of_neg hx, h2, List.take_succ_cons, List.filter_cons_of_neg hx]
/-- Both free pages. -/
theorem Sim.give (h : Sim s d) (hs : s.Ok) {a n c c' : Int} (hf : FreeOf s a n c s') (hd : GiveD d a n c' d') : c = c' ∧ Sim s' d' := by
  have hP : (d.fr.length : Int) = s.P := h.len
  rcases hf with ⟨h1, rfl, rfl⟩ | ⟨h1, h2, rfl, rfl⟩ | ⟨h1, h2, rfl, s1, nb, lv, hdl, rfl⟩
  · rcases hd with ⟨k1, rfl, rfl⟩ | ⟨k1, _⟩ | ⟨k1, _⟩
    · exact ⟨rfl, h⟩
    · omega
    · omega
  · obtain ⟨p, p1, p2, p3⟩ := (hits_pg hs.list h1.2.1).1 h2
    have p4 := (h.pages p).1 p3
    rcases hd with ⟨k1, _⟩ | ⟨k1, k2, rfl, rfl⟩ | ⟨k1, k2, _⟩
    · omega
    · exact ⟨rfl, h⟩
    · have := k2 p p1 p2; rw [p4.2.2] at this; cases this
  · rcases hd with ⟨k1, _⟩ | ⟨k1, ⟨p, p1, p2, p3⟩, _⟩ | ⟨k1, k2, rfl, lv2, lv3, rfl⟩
    · omega
    · exfalso
      obtain ⟨y, hy, hyh⟩ := (hits_pg hs.list h1.2.1).2 ⟨p, p1, p2, (h.pages p).2 ⟨by omega, by omega, p3⟩⟩
      exact h2 y hy hyh
    · refine ⟨rfl, ?_⟩
      have hF := freed hs.list h1.1 h1.2.1 h1.2.2 h2
      have hnt := near_tch hs.list h1.2.1 h2
      rw [← h.list] at hnt
      have hds := hdl.same
      obtain ⟨o1, o2, _⟩ := dels_sim hdl h hs
      rw [h.list] at hnt
      obtain ⟨b, rfl⟩ : ∃ b : Nat, a = b := ⟨a.toNat, by omega⟩
      obtain ⟨m, rfl⟩ : ∃ m : Nat, n = m := ⟨n.toNat, by omega⟩
      rw [h.list, ← hnt]
      have hli : lstN (setTo d.fr b true m) (setTo d.fr b true m).length = freeL b m s.xs := list_turn hP (by omega) hF.ok (fun p => by
        rw [hF.pages p, h.pages p, hP]
        by_cases hc : (b : Int) ≤ p ∧ p < (b : Int) + (m : Int)
        · rw [if_pos hc]
          constructor
          · intro _; exact ⟨by omega, by omega, rfl⟩
          · intro _; exact .inr hc
        · rw [if_neg hc]; simp [hc])
      refine ⟨?_, ?_, ?_, h.ds.trans hds.2.2.2.symm, ?_⟩
      · show ((setTo d.fr (b : Int).toNat true (m : Int).toNat).length : Int) = s1.P
        rw [setTo_len, hds.2.1]; exact hP
      · show lstN (setTo d.fr (b : Int).toNat true (m : Int).toNat) (setTo d.fr (b : Int).toNat true (m : Int).toNat).length = insL _ s1.xs
        rw [Int.toNat_natCast, Int.toNat_natCast, hli, hdl.xs]; rfl
      · show kdI (insI _ _ _ (dropsI d.its _)) = kdT (Tr.put nb _ _ _ s1.t)
        rw [show (DS.setF (d.tree (dropsI d.its (nearL s.xs ↑b (↑b + ↑m))) lv2) (b : Int).toNat true (m : Int).toNat).draw = s1.draw from by
          have := h.draw
          unfold DS.draw RS.draw at this ⊢
          show d.ds[d.n]?.getD 0 = _
          rw [hds.2.2.2, hds.1]; exact this]
        exact kd_put o2 o1.tree.bst _ _ _ _ _
      · show d.n + 1 = s1.dn + 1
        rw [h.n, hds.1]
/-- What Put wants. -/
theorem Sim.askG (h : Sim s d) (hs : s.Ok) {a n c : Int} (hf : FreeOf s a n c s') : 0 ≤ a → 1 ≤ n → a + n ≤ d.fr.length → (∀ p : Int, a ≤ p → p < a + n → d.fr.getD p.toNat false = false) → GiveAsk d a n := by
  intro ha hn hP hfr
  have hlen := h.len
  rcases hf with ⟨h1, _⟩ | ⟨h1, h2, _⟩ | ⟨h1, h2, rfl, s1, nb, lv, hdl, rfl⟩
  · omega
  · obtain ⟨p, p1, p2, p3⟩ := (hits_pg hs.list hn).1 h2
    have p4 := (h.pages p).1 p3
    rw [hfr p p1 p2] at p4
    cases p4.2.2
  · have hF := freed hs.list h1.1 h1.2.1 h1.2.2 h2
    have hnt := near_tch hs.list h1.2.1 h2
    obtain ⟨o1, o2, o3⟩ := dels_sim hdl h hs
    have hds := hdl.same
    have hP2 := hs.P2
    refine ⟨fun k y hy ht => ?_, ?_, ?_⟩
    · rw [h.list] at hy ⊢
      obtain ⟨j, j1, j2⟩ := tch_place _ k y hy ht
      rw [← j2, ← hnt]
      rw [← hnt] at j1
      exact o3 j y j1
    · rw [h.list, ← hnt]
      have := hF.bd; omega
    · rw [h.list, ← hnt]
      cases hc : hasK (kOf (wholeL a n (nearL s.xs a (a + n)))) (dropsI d.its (nearL s.xs a (a + n))) with
      | false => rfl
      | true =>
        obtain ⟨z, hz, he⟩ := hasK_at hc
        obtain ⟨e, he2, he3⟩ := (kd_mem o2 z.1).1 ⟨z, List.mem_of_getElem? hz, rfl⟩
        obtain ⟨y, hy, hyk, _⟩ := o1.mem e he2
        have e1 := o1.key_inj (x := y) (y := wholeL a n (nearL s.xs a (a + n))) (o1.list.bd y hy) (by rw [hds.2.1]; exact hF.bd) (hyk.symm.trans (he3.trans he))
        rw [hdl.xs] at hy
        have := hF.free y hy
        rw [← e1] at this
        have hb := hF.bd
        rw [← e1] at hb
        omega
/-- What both find. -/
theorem Sim.find (h : Sim s d) (hs : s.Ok) {n : Int} {x y : Int × Int} {ok ok' : Bool} (hb : BestOf s n x ok) (hd : Best9 (lstN d.fr d.fr.length) n y ok') : x = y ∧ ok = ok' := by
  rw [h.list] at hd
  rcases hb with ⟨rfl, h1, h2⟩ | ⟨rfl, rfl, h2⟩
  · rcases hd with ⟨k1, _⟩ | ⟨_, ⟨rfl, k2⟩ | ⟨rfl, _, k2⟩⟩
    · omega
    · exact ⟨IsBest.uniq hs.list hs.P2 h2 k2, rfl⟩
    · have := k2 x h2.mem; have := h2.long; omega
  · rcases hd with ⟨k1, rfl, rfl⟩ | ⟨k1, ⟨rfl, k2⟩ | ⟨rfl, rfl, k2⟩⟩
    · exact ⟨rfl, rfl⟩
    · rcases h2 with h2 | h2
      · omega
      · have := h2 y k2.mem; have := k2.long; omega
    · exact ⟨rfl, rfl⟩
/-- Both begin. -/
theorem Sim.new {P : Nat} {ds : List Int} (h1 : 1 ≤ P) (hs : NewRuns P ds s) (hd : NewDoc P ds d) : Sim s d := by
  have hl : d.fr.length = P := by rw [hd.fr, setTo_len]; simp
  refine ⟨by rw [hl, hs.eP], ?_, ?_, hd.ds.trans hs.eds.symm, by rw [hd.n, hs.edn]⟩
  · rw [hs.exs, hd.fr]
    refine list_turn (P := (P : Int)) (by simp) (by simp) (RunsOk.single (by simp only; omega)) (fun p => ?_)
    rw [pg_single]
    simp only
    by_cases hc : ((0 : Nat) : Int) ≤ p ∧ p < ((0 : Nat) : Int) + (P : Int)
    · rw [if_pos hc]; exact ⟨fun _ => ⟨by omega, by omega, rfl⟩, fun _ => by omega⟩
    · rw [if_neg hc]; exact ⟨fun hh => absurd hh (by omega), fun hh => absurd hh.2.1 (by have := hh.1; omega)⟩
  · obtain ⟨nb, ht⟩ := hs.et
    rw [hd.its, ht]
    rfl
end
end Go.Proofs.Ytbijbpnhakbeeaa

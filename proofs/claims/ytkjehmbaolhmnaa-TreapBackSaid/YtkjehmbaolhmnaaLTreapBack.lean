/- TreapBack: its walk. By an AI agent. -/
import Derived.Deep.DeepCutAuto
import Derived.Deep.CutBlock
import Derived.Test.YtkjehmbaolhmnaaTreapAwake
import Derived.Test.YtkjehmbaolhmnaaTreapDropI
import Derived.Test.YtkjehmbaolhmnaaRowAt
namespace Go.Proofs.Ytkjehmbaolhmnaa
open Go.RowKit
/-- Each value is a number. -/
def Tr.ints (t : Tr) : Prop := ∀ e ∈ t.ins, ∃ x : Int, e.2.2 = .int .i64 x
theorem Tr.ints_put {t : Tr} (h : t.ints) (nb : Nat) (k d x : Int) : (Tr.put nb k d (.int .i64 x) t).ints := fun e he => by
  rcases (Tr.put_mem ..).1 he with rfl | he
  · exact ⟨x, rfl⟩
  · exact h e he
theorem Tr.ints_drop {t : Tr} (h : t.ints) (hb : t.bst) (k : Int) : (Tr.drop k t).ints := fun e he => by
  rw [Tr.drop_ins hb] at he
  exact h e (List.mem_filter.1 he).1
/-- A row of nodes in one block, or none. -/
def NodesOn (w : World) (v : Value) (xs : List (Int × Int)) (g : Nat) : Prop :=
  (xs = [] ∧ v = .slice none 0 0) ∨ ∃ cap, v = .slice (some ⟨g, 0, none⟩) xs.length cap ∧ ∀ i x, xs[i]? = some x → w.cell? ⟨g, i * 2, none⟩ = some (.int .i64 x.1) ∧ w.cell? ⟨g, i * 2 + 1, none⟩ = some (.int .i64 x.2)
theorem NodesOn.of_owns {w : World} {base : Nat} {v : Value} {xs : List (Int × Int)} (h : w.ownsRow base 32 2 v xs.length (shCells xs)) : ∃ g, (base ≤ g ∧ (xs ≠ [] → g < w.heap.size)) ∧ NodesOn w v xs g := by
  obtain ⟨_, ⟨h0, h1⟩ | ⟨g, cap, cur, h1, h2, h3, _, _, _, h5⟩⟩ := h
  · have : xs = [] := List.eq_nil_of_length_eq_zero h1
    subst this
    exact ⟨base, ⟨Nat.le_refl _, fun h => absurd rfl h⟩, .inl ⟨rfl, h0⟩⟩
  · refine ⟨g, ⟨h2, fun _ => (Array.getElem?_eq_some_iff.1 h3).1⟩, .inr ⟨cap, h1, fun i x hx => ?_⟩⟩
    have hi : i < xs.length := (List.getElem?_eq_some_iff.1 hx).1
    obtain ⟨e1, e2⟩ := shCells_get xs i x hx
    rw [← h5, List.getElem?_take_of_lt (by omega)] at e1 e2
    exact ⟨by simpa [World.cell?, h3] using e1, by simpa [World.cell?, h3] using e2⟩
theorem NodesOn.only {S : Nat → Prop} {w w' : World} {v : Value} {xs : List (Int × Int)} {g : Nat} (h : NodesOn w v xs g) (ho : Only S w w') (hg : xs ≠ [] → ¬ S g) : NodesOn w' v xs g := by
  rcases h with h | ⟨cap, h1, h2⟩
  · exact .inl h
  · refine .inr ⟨cap, h1, fun i x hx => ?_⟩
    obtain ⟨e1, e2⟩ := h2 i x hx
    have hs : ¬ S g := hg (fun e => by rw [e] at hx; simp at hx)
    exact ⟨(ho.cellF (p := ⟨g, _, none⟩) (cell_lt e1) hs).trans e1, (ho.cellF (p := ⟨g, _, none⟩) (cell_lt e2) hs).trans e2⟩
theorem NodesOn.at {w : World} {v : Value} {xs : List (Int × Int)} {g : Nat} (h : NodesOn w v xs g) : NodesAt w v xs := by
  rcases h with ⟨rfl, rfl⟩ | ⟨cap, h1, h2⟩
  · exact ⟨none, 0, rfl, fun i x hx => by simp at hx⟩
  · exact ⟨_, cap, h1, fun i x hx => ⟨g, 0, rfl, by rw [Nat.zero_add]; exact h2 i x hx⟩⟩
theorem dropI_first {w wr : World} {tb : Nat} {t : Tr} (h : HereI w wr tb t) (hz : t.size < 1000) (hv : t.ints) (key : Int) :
    Calls Try.prog 14 #[.pointer (some ⟨tb, 0, none⟩), .int .i64 key] wr fun e w' => ∃ x b t0, e = .returned (.tuple #[.int .i64 x, .bool b]) ∧ HereI w w' tb t0 ∧ t0.size < 1000 ∧ t0.ints ∧ Tr.find key t0 = .nil := by
  cases hf : Tr.find key t with
  | nil => exact (dropI_no tb t _ key wr h.treap hf).mono fun _ _ ⟨⟨x, he⟩, hw⟩ => ⟨x, false, t, he, hw ▸ h, hz, hv, hf⟩
  | node nb k d v l r =>
    obtain ⟨_, hm, _⟩ := Tr.find_node hf
    obtain ⟨x, hx⟩ := hv _ hm
    simp only at hx
    subst hx
    have hs := Tr.drop_size (key := key) (t := t) (by rw [hf]; exact fun e => by cases e)
    exact (dropI_here h (by omega) key nb k d x l r hf).mono fun _ _ ⟨he, h2, _⟩ => ⟨x, true, _, he, h2, by omega, Tr.ints_drop hv h.ok.bst key, Tr.drop_find h.ok⟩
theorem Tr.back_ins {t : Tr} (h : t.ok) {nb : Nat} {k d : Int} {v : Value} (hb : ¬ t.has nb) (hf : Tr.find k t = .nil) : (Tr.drop k (Tr.put nb k d v t)).ins = t.ins := by
  have h1 := Tr.ok_put h nb k d v hb hf
  have hn := Tr.find_nil h.bst hf
  rw [Tr.drop_ins h1.bst, Tr.put_ins, List.filter_append, List.filter_cons, ← Tr.split_ins k t]
  rw [Tr.filter_ne_of (fun e he => hn e ((Tr.split_mem k t e).1 (.inl he))), Tr.filter_ne_of (fun e he => hn e ((Tr.split_mem k t e).1 (.inr he)))]
  simp
set_option maxRecDepth 100000 in
set_option maxHeartbeats 8000000 in
theorem treapBack_law (a0 : Option Addr) (len cap : Nat) (ks : List Int) (key : Int) (w1 : (Lit.int .i64 key).wf = true) (d : Int) (w2 : (Lit.int .u32 d).wf = true) (f : Int) (w3 : (Lit.int .u32 f).wf = true) (w : World) (w0 : IsRow .i64 w a0 len cap ks) :
    Calls Try.prog 4 #[.slice a0 len cap, .int .i64 key, .int .u32 d, .int .u32 f] w fun e w' => e = .returned (.bool true) ∧ Below w.heap.size w w' := by
  have HK := Lib.hid w0
  obtain ⟨hl, hcap⟩ := rows_len w0
  clear w0 w1 w2 w3
  go_enter Try.func4, Try.ntmps4
  go_upto_block 0 with (go_at_call 12; refine (newI_any _).mono ?_; rintro e w1 ⟨rfl, h1, ho⟩; have H1 := Lib.hid (Here.new h1 ho); clear h1 ho)
  go_cut [10] (fun _ wx => ∃ t, HereI w wx w.heap.size t ∧ t.size < 100 ∧ t.ints)
  case first =>
    go_wp2_with fail
    go_loopw [10] (fun i wr => ∃ k : Nat, k ≤ len ∧ k ≤ 60 ∧ i = .int .i64 k ∧ ∃ t, HereI w wr w.heap.size t ∧ t.size ≤ k ∧ t.ints) (fun i _ => len - (intOf i).toNat)
    case atStart => exact ⟨0, Nat.zero_le _, Nat.zero_le _, rfl, _, H1.out, Nat.le_refl _, fun e he => by simp [Tr.ins] at he⟩
    case round =>
      obtain ⟨k, hk, hk80, rfl, t, hH, hz, hv⟩ := hrel
      have H := Lib.hid hH; have HV := Lib.hid hv
      clear hH hv H1
      by_cases c1 : k < len
      · by_cases c3 : k < 60
        · obtain ⟨b, off, rfl, hb, hc, hcw⟩ := rows_at HK.out c1
          obtain ⟨x, hx⟩ : ∃ x, x = ks.getD k 0 := ⟨_, rfl⟩
          rw [← hx] at hc hcw
          have d0 := (H.out.adds.cellF (p := ⟨b, off + k, none⟩) hb id).trans hc
          clear hx hcw hc
          go_wp2_with fail
          refine (putI_any H.out (by omega) _ _ _).mono ?_; rintro e w3 ⟨bb, t', rfl, h2, hcase⟩
          have hb' : t'.size ≤ k + 1 ∧ t'.ints := by
            rcases hcase with ⟨_, _, nb, _, e2⟩ | ⟨_, _, e2⟩
            · rw [e2, Tr.put_size]; exact ⟨by omega, Tr.ints_put HV.out _ _ _ _⟩
            · rw [e2]; exact ⟨by omega, HV.out⟩
          have H2 := Lib.hid h2; have HB := Lib.hid hb'
          clear hcase h2 hb' H d0
          go_wp2_with fail
          go_roundw
          case rel => exact ⟨k + 1, by omega, by omega, by go_num, _, H2.out, HB.out.1, HB.out.2⟩
          case measure => simp [intOf]; omega
        · go_wp2_with fail
          go_meet
          exact ⟨t, H.out, by omega, HV.out⟩
      · go_wp2_with fail
        go_meet
        exact ⟨t, H.out, by omega, HV.out⟩
  case rest =>
    obtain ⟨t, hH, hz, hv⟩ := hcut
    have H := Lib.hid hH; have HV := Lib.hid hv
    clear hH hv H1
    go_wp2_with fail
    refine (dropI_first H.out (by omega) HV.out key).mono ?_; rintro e w2 ⟨x0, b0, t0, rfl, h0, hz0, hv0, hf0⟩
    have H0 := Lib.hid h0; have HV0 := Lib.hid hv0; have HF0 := Lib.hid hf0
    clear H HV h0 hv0 hf0 hz
    go_wp2_with fail
    refine (shapeI_any _ _ _ _ H0.out.treap (by omega)).mono ?_; rintro e w3 ⟨va, rfl, hva, ho3⟩
    have hsl : (t0.shape 0).length = t0.size := Tr.shape_len 0 t0
    rw [← hsl] at hva
    obtain ⟨g, ⟨hg1, hg2⟩, hn⟩ := NodesOn.of_owns hva
    have H3 := Lib.hid (H0.out.keep ho3); have HN := Lib.hid hn; have HG2 := Lib.hid hg2
    have hgt : ¬ TB w.heap.size t0 g := fun hh => by have := H0.out.lt g hh; omega
    clear hva hn ho3 H0 hg2 hsl
    go_wp2_with fail
    refine (putI_new2 H3.out (by omega) key d 77 HF0.out).mono ?_; rintro e w4 ⟨rfl, nb, hnb, h4, ho4⟩
    have hnb0 : ¬ t0.has nb := fun hh => by have := H3.out.lt nb (.inr hh); omega
    obtain ⟨t1, ht1⟩ : ∃ t1, t1 = Tr.put nb key d (.int .i64 77) t0 := ⟨_, rfl⟩
    have hins : (Tr.drop key t1).ins = t0.ins := by rw [ht1]; exact Tr.back_ins H3.out.ok hnb0 HF0.out
    have hm1 : (key, d, .int .i64 77) ∈ t1.ins := by rw [ht1]; exact (Tr.put_mem ..).2 (.inl rfl)
    have hz1 : t1.size < 1001 := by rw [ht1, Tr.put_size]; omega
    have hg1' : t0.shape 0 ≠ [] → ¬ TB w.heap.size t1 g := fun hne hh => by
      rw [ht1] at hh
      rcases hh with hh | hh
      · exact hgt (.inl hh)
      · rcases (Tr.put_has ..).1 hh with hh | hh
        · have := HG2.out hne; omega
        · exact hgt (.inr hh)
    rw [← ht1] at h4
    obtain ⟨nb', l1, r1, hf1⟩ := Tr.find_mem h4.ok.bst hm1
    simp only at hf1
    have H4 := Lib.hid h4; have HN4 := Lib.hid (HN.out.only ho4 (fun _ => hgt)); have HI := Lib.hid hins; have HF1 := Lib.hid hf1; have HG1 := Lib.hid hg1'
    clear h4 ho4 hins hf1 hg1' hm1 ht1 hnb hnb0 hgt HN hg1
    go_wp2_with fail
    refine (putI_no _ _ _ key f 78 _ H4.out.treap (by rw [HF1.out]; exact fun e => by cases e)).mono ?_; rintro e w5 ⟨rfl, rfl⟩
    go_wp2_with fail
    refine (getI_yes _ _ _ key _ H4.out.treap _ _ _ _ _ _ HF1.out).mono ?_; rintro e w5 ⟨rfl, rfl⟩
    go_wp2_with fail
    refine (dropI_here H4.out (by omega) key _ _ _ _ _ _ HF1.out).mono ?_; rintro e w5 ⟨rfl, h5, ho5⟩
    have H5 := Lib.hid h5; have HN5 := Lib.hid (HN4.out.only ho5 HG1.out)
    have HF2 := Lib.hid (Tr.drop_find (key := key) H4.out.ok)
    have hz2 : (Tr.drop key t1).size < 1001 := by
      have := Tr.drop_size (key := key) (t := t1) (by rw [HF1.out]; exact fun e => by cases e)
      omega
    have HU := Lib.hid (Tr.uniq (Tr.drop key t1) t0 h5.ok.bst h5.ok.heap H3.out.ok.bst H3.out.ok.heap HI.out 0)
    clear h5 ho5 HN4 HG1 H4 HF1
    generalize Tr.drop key t1 = t2 at *
    go_wp2_with fail
    refine (dropI_no _ _ _ key _ H5.out.treap HF2.out).mono ?_; rintro e w6 ⟨⟨x6, rfl⟩, rfl⟩
    go_wp2_with fail
    refine (getI_no _ _ _ key _ H5.out.treap HF2.out).mono ?_; rintro e w6 ⟨⟨x7, rfl⟩, rfl⟩
    have HZ2 := Lib.hid hz2
    go_wp2_with (first
      | (go_at_call 15; refine (shapeI_any _ _ _ _ H5.out.treap (by have := HZ2.out; omega)).mono ?_; rintro e w7 ⟨vb, rfl, hvb, ho7⟩; rw [← Tr.shape_len 0 t2] at hvb; have HB := Lib.hid (NodesAt.of_owns hvb); have HA := Lib.hid (HN5.out.at.adds ho7); have HO := Lib.hid (H5.out.adds.thenF ho7); clear hvb ho7; rw [HU.out] at HB)
      | (go_at_call 17; refine (sameNodes_any _ _ (t0.shape 0) (t0.shape 0) _ HB.out HA.out (by rw [Tr.shape_len]; omega) (by rw [Tr.shape_len]; omega)).mono ?_; rintro e w8 ⟨rfl, n8, rfl⟩)
      | (go_at_call 11; refine (awake9_any _).mono ?_; rintro e w9 ⟨rfl, ho9⟩))
    go_ret
    exact ⟨by simp, ((HO.out.drewN _).thenF ho9).below (Nat.le_refl _) (fun _ _ h => h)⟩
end Go.Proofs.Ytkjehmbaolhmnaa

/- TreapHeap: its walk. By an AI agent. -/
import Derived.Deep.DeepCutAuto
import Derived.Deep.CutBlock
import Derived.IntWalk
import Derived.Test.YtkjehmbaolhmnaaTreapAwake
import Derived.Test.YtkjehmbaolhmnaaTreapHereU
import Derived.Test.YtkjehmbaolhmnaaTreapShapeU
import Derived.Test.YtkjehmbaolhmnaaTreeLaw
import Derived.Test.YtkjehmbaolhmnaaRowAt
namespace Go.Proofs.Ytkjehmbaolhmnaa
open Go.RowKit
/-- Each value is its key's draw. -/
def Tr.vals (t : Tr) : Prop := ∀ e ∈ t.ins, e.2.2 = .int .u32 e.2.1
set_option maxRecDepth 100000 in
set_option maxHeartbeats 8000000 in
theorem treapHeap_law (a0 : Option Addr) (len cap : Nat) (ks : List Int) (a1 : Option Addr) (len2 cap2 : Nat) (ds : List Int) (w : World) (w0 : IsRow .i64 w a0 len cap ks) (w1 : IsRow .u32 w a1 len2 cap2 ds) :
    Calls Try.prog 3 #[.slice a0 len cap, .slice a1 len2 cap2] w fun e w' => e = .returned (.bool true) ∧ Below w.heap.size w w' := by
  have HK := Lib.hid w0; have HD := Lib.hid w1
  obtain ⟨hl, hcap⟩ := rows_len w0
  obtain ⟨hl2, hcap2⟩ := rows_len w1
  clear w0 w1
  go_enter Try.func3, Try.ntmps3
  go_upto_block 0 with (go_at_call 6; refine (newU_any _).mono ?_; rintro e w1 ⟨rfl, h1, ho⟩; have H1 := Lib.hid (Here.new h1 ho); clear h1 ho)
  go_cut [6] (fun s6 wx => ∃ t, HereU w wx w.heap.size t ∧ t.size < 100 ∧ t.vals)
  case first =>
    go_wp2_with fail
    go_loopw [6] (fun i wr => ∃ k : Nat, k ≤ len ∧ k ≤ len2 ∧ k ≤ 80 ∧ i = .int .i64 k ∧ ∃ t, HereU w wr w.heap.size t ∧ t.size ≤ k ∧ t.vals) (fun i _ => len - (intOf i).toNat)
    case atStart => exact ⟨0, Nat.zero_le _, Nat.zero_le _, Nat.zero_le _, rfl, _, H1.out, Nat.le_refl _, fun e he => by simp [Tr.ins] at he⟩
    case round =>
      obtain ⟨k, hk, hk2, hk80, rfl, t, hH, hz, hv⟩ := hrel
      have H := Lib.hid hH; have HV := Lib.hid hv
      clear hH hv H1
      by_cases c1 : k < len
      · by_cases c2 : k < len2
        · by_cases c3 : k < 80
          · obtain ⟨b, off, rfl, hb, hc, hcw⟩ := rows_at HK.out c1
            obtain ⟨b2, off2, rfl, hb2, hc2, hcw2⟩ := rows_at HD.out c2
            have hd := bd_u32 hcw2
            obtain ⟨x, hx⟩ : ∃ x, x = ks.getD k 0 := ⟨_, rfl⟩
            obtain ⟨y, hy⟩ : ∃ y, y = ds.getD k 0 := ⟨_, rfl⟩
            rw [← hx] at hc hcw; rw [← hy] at hc2 hd
            have d0 := (H.out.adds.cellF (p := ⟨b, off + k, none⟩) hb id).trans hc
            have d1 := (H.out.adds.cellF (p := ⟨b2, off2 + k, none⟩) hb2 id).trans hc2
            obtain ⟨n0, hn0⟩ : ∃ n0, n0 = t.size := ⟨_, rfl⟩
            have HN := Lib.hid hn0
            rw [← hn0] at hz
            clear hx hy hcw hcw2 hc hc2 hn0
            go_wp2_with fail
            refine (lenU_any _ _ _ _ H.out.treap).mono ?_; rintro e w2 ⟨rfl, rfl⟩; rw [← HN.out]
            go_wp2_with fail
            have hz2 : t.size < 1000000 := by have := HN.out; omega
            refine (putU_any H.out hz2 _ _ _).mono ?_; rintro e w3 ⟨bb, t', rfl, h2, hcase⟩
            have hvals : t'.vals := by
              rcases hcase with ⟨_, _, nb, _, rfl⟩ | ⟨_, _, rfl⟩
              · intro e he
                rcases (Tr.put_mem ..).1 he with rfl | he
                · rfl
                · exact HV.out e he
              · exact HV.out
            obtain ⟨n1, hn1⟩ : ∃ n1, n1 = t'.size := ⟨_, rfl⟩
            have HN1 := Lib.hid hn1
            have hb' : (bb = true ∧ n1 = n0 + 1) ∨ (bb = false ∧ n1 = n0) := by
              have h0 := HN.out
              rcases hcase with ⟨e1, _, nb, _, e2⟩ | ⟨e1, _, e2⟩
              · left; refine ⟨e1, ?_⟩; rw [hn1, e2, Tr.put_size, h0]
              · right; refine ⟨e1, ?_⟩; rw [hn1, e2, h0]
            have H2 := Lib.hid h2; have HV2 := Lib.hid hvals
            clear hcase h2 hvals hn1 H d0 d1 hz2
            go_wp2_with fail
            refine (lenU_any _ _ _ _ H2.out.treap).mono ?_; rintro e w2 ⟨rfl, rfl⟩; rw [← HN1.out]
            rcases hb' with ⟨rfl, rfl⟩ | ⟨rfl, rfl⟩
            · have t1 : (((n0 + 1 : Nat) : Int) == (n0 : Int) + 1) = true := by simp
              go_wp2
              go_roundw
              case rel => exact ⟨k + 1, by omega, by omega, by omega, by go_num, _, H2.out, by have := HN1.out; omega, HV2.out⟩
              case measure => simp [intOf]; omega
            · have t1 : ((n1 : Int) == (n1 : Int) + 1) = false := by rw [beq_eq_false_iff_ne]; omega
              go_wp2
              go_roundw
              case rel => exact ⟨k + 1, by omega, by omega, by omega, by go_num, _, H2.out, by have := HN1.out; omega, HV2.out⟩
              case measure => simp [intOf]; omega
          · go_wp2_with fail
            go_meet
            exact ⟨t, H.out, by omega, HV.out⟩
        · go_wp2_with fail
          go_meet
          exact ⟨t, H.out, by omega, HV.out⟩
      · go_wp2_with fail
        go_meet
        exact ⟨t, H.out, by omega, HV.out⟩
  case rest =>
    obtain ⟨t, hH, hz, hv⟩ := hcut
    have H := Lib.hid hH; have HV := Lib.hid hv
    obtain ⟨n0, hn0⟩ : ∃ n0, n0 = t.size := ⟨_, rfl⟩
    have HN := Lib.hid hn0
    rw [← hn0] at hz
    clear hH hv H1 hn0
    go_wp2_with fail
    refine (shapeU_any _ _ _ _ H.out.treap (by have := HN.out; omega)).mono ?_; rintro e w2 ⟨v, rfl, hv, ho⟩
    have hsl : (t.shape 0).length = t.size := Tr.shape_len 0 t
    rw [← hsl] at hv
    obtain ⟨al, cp, rfl, hcells⟩ := NodesAt.of_owns hv
    have hsn : (t.shape 0).length = n0 := hsl.trans HN.out.symm
    have H3 := Lib.hid (H.out.keep ho)
    have hbd : ∀ (i : Nat) (x : Int × Int), (t.shape 0)[i]? = some x → 0 ≤ x.2 ∧ x.2 < 100 := fun i x hx => by
      have h1 := Tr.shape_ge (List.mem_of_getElem? hx); have h2 := Tr.shape_lt (List.mem_of_getElem? hx); have := HN.out; omega
    have HBD := Lib.hid hbd; have HC := Lib.hid hcells; have HSN := Lib.hid hsn
    rw [hsn]
    have hlen := fun W h => lenU_any w.heap.size t t.size W h
    rw [← HN.out] at hlen
    have HL := Lib.hid hlen
    clear hv hsl hcells hsn hbd H ho hlen
    by_cases h0 : n0 = 0
    · subst h0
      go_wp2_with fail
      refine (HL.out _ (HN.out ▸ H3.out.treap)).mono ?_; rintro e w3 ⟨rfl, rfl⟩
      go_wp2_with fail
      go_loop [10] (fun i => i = .int .i64 0) (fun _ => 0)
      case atStart => rfl
      case round =>
        subst hrel
        go_wp2_with (go_at_call 11; refine (awake9_any _).mono ?_; rintro e w4 ⟨rfl, ho4⟩)
        go_ret
        exact ⟨rfl, (H3.out.adds.thenF ho4).below (Nat.le_refl _) (fun _ _ h => h)⟩
    · have hget : ∀ (i : Nat) (x : Int × Int), (t.shape 0)[i]? = some x → ∀ W, HereU w W w.heap.size t → Calls Try.prog 10 #[.pointer (some ⟨w.heap.size, 0, none⟩), .int .i64 x.1] W fun e w' => e = .returned (.tuple #[.int .u32 (Tr.drawOf x.1 t), .bool true]) ∧ W = w' := fun i x hx W hW => by
        obtain ⟨d, v, hm⟩ := Tr.shape_mem (List.mem_of_getElem? hx)
        obtain ⟨b, l, r, hf⟩ := Tr.find_mem hW.ok.bst hm
        have hv := HV.out _ hm
        simp only at hv hf
        subst hv
        rw [Tr.drawOf_mem hW.ok.bst hm]
        exact getU_yes _ _ _ _ W hW.treap _ _ _ _ _ _ hf
      obtain ⟨x0, hx0⟩ : ∃ x, (t.shape 0)[0]? = some x := ⟨_, List.getElem?_eq_getElem (by have := HSN.out; omega)⟩
      obtain ⟨g, off, rfl, p0, p1⟩ := HC.out 0 x0 hx0
      rw [Tr.shape_first hx0] at p1
      have hcells : ∀ (i : Nat) (x : Int × Int), (t.shape 0)[i]? = some x → w2.cell? ⟨g, off + i * 2, none⟩ = some (.int .i64 x.1) ∧ w2.cell? ⟨g, off + i * 2 + 1, none⟩ = some (.int .i64 x.2) := fun i x hx => by
        obtain ⟨g', off', e, h1, h2⟩ := HC.out i x hx
        cases e
        exact ⟨h1, h2⟩
      have HC2 := Lib.hid hcells; have HG := Lib.hid hget
      clear hcells hget HC hx0 p0
      have h0' : 0 < n0 := by omega
      simp only [Nat.zero_mul, Nat.add_zero] at p1
      go_wp2_with fail
      refine (HL.out _ (HN.out ▸ H3.out.treap)).mono ?_; rintro e w3 ⟨rfl, rfl⟩
      go_wp2_with fail
      clear p1
      go_loopw [10] (fun i wr => ∃ k m : Nat, k ≤ n0 ∧ i = .int .i64 k ∧ wr = w2.drewN m) (fun i _ => n0 - (intOf i).toNat)
      case atStart => exact ⟨0, 0, Nat.zero_le _, rfl, rfl⟩
      case round =>
        obtain ⟨k, m, hk, rfl, rfl⟩ := hrel
        by_cases hkn : k < n0
        · obtain ⟨x, hx⟩ : ∃ x, (t.shape 0)[k]? = some x := ⟨_, List.getElem?_eq_getElem (by have := HSN.out; omega)⟩
          obtain ⟨c0, c1⟩ := HC2.out k x hx
          have hg := HG.out k x hx (w2.drewN m) (H3.out.drewN m)
          obtain ⟨xk, xd⟩ := x
          simp only at c0 c1 hg
          obtain ⟨dx, hdx⟩ : ∃ dx, dx = Tr.drawOf xk t := ⟨_, rfl⟩
          rw [← hdx] at hg
          have HX := Lib.hid hx; have HDX := Lib.hid hdx
          clear hx hdx
          go_wp2_with fail
          refine hg.mono ?_; clear hg; rintro e w3 ⟨rfl, rfl⟩
          go_upto_region 18 with fail
          go_cut [120] (fun s wx => s = .bool false ∧ ∃ m', wx = w2.drewN m')
          case first =>
            cases k with
            | zero =>
              go_wp2_with fail
              go_quiet ((fail))
              go_wp2_with fail
              go_meet
              exact ⟨rfl, m + nq, by simp [World.drewN, Nat.add_assoc]⟩
            | succ k =>
              obtain ⟨y, hy⟩ : ∃ y, (t.shape 0)[k]? = some y := ⟨_, List.getElem?_eq_getElem (by have := HSN.out; omega)⟩
              obtain ⟨_, q1⟩ := HC2.out k y hy
              obtain ⟨s1, s2⟩ := Tr.shape_step hy HX.out
              have b1 := HBD.out _ _ hy
              have b2 := HBD.out _ _ HX.out
              simp only at s1 s2 b2
              obtain ⟨yd, hyd⟩ : ∃ yd, yd = y.2 := ⟨_, rfl⟩
              rw [← hyd] at q1 s2 b1
              have u1 : decide (xd < 1) = false := by simp; omega
              have u2 : decide (yd + 1 < xd) = false := by simp; omega
              have u4 : IntKind.i64.wrap (yd + 1) = yd + 1 := IntWalk.i64_in _ (by omega)
              have u5 : IntKind.i64.wrap (((k + 1 : Nat) : Int) - 1) = (k : Int) := by rw [IntWalk.i64_in _ (by omega)]; omega
              clear hy hyd s1 s2 b1 b2
              go_wp2_with fail
              go_quiet ((fail))
              go_wp2_with fail
              go_meet
              exact ⟨rfl, m + nq, by simp [World.drewN, Nat.add_assoc]⟩
          case rest =>
            obtain ⟨rfl, m', rfl⟩ := hcut
            go_wp2_with fail
            go_loopw [13, 14] (fun r kk wr => ∃ (R : Bool) (K m : Nat), k < K ∧ K ≤ n0 ∧ r = .bool R ∧ kk = .int .i64 K ∧ wr = w2.drewN m ∧
                RowKit.Hid ((∀ (j : Nat) (xj : Int × Int), k < j → j < K → (t.shape 0)[j]? = some xj → xd < xj.2) ∧ (R = true → ∃ (j : Nat) (xj : Int × Int), k < j ∧ j < K ∧ (t.shape 0)[j]? = some xj ∧ xk < xj.1)))
              (fun _ kk _ => n0 - (intOf kk).toNat)
            case atStart => exact ⟨false, k + 1, _, by omega, by omega, rfl, by go_num, rfl, Lib.hid ⟨fun j _ h1 h2 => by omega, fun h => by cases h⟩⟩
            case round =>
              obtain ⟨R, K, m2, hkK, hK, rfl, rfl, rfl, hinv⟩ := hrel
              by_cases hKn : K < n0
              · obtain ⟨y, hy⟩ : ∃ y, (t.shape 0)[K]? = some y := ⟨_, List.getElem?_eq_getElem (by have := HSN.out; omega)⟩
                obtain ⟨e0, e1⟩ := HC2.out K y hy
                have hgy := fun m => HG.out K y hy (w2.drewN m) (H3.out.drewN m)
                obtain ⟨yk, yd⟩ := y
                simp only at e0 e1 hgy
                by_cases hdep : xd < yd
                · have hsub : ∀ (j : Nat) (xj : Int × Int), k < j → j ≤ K → (t.shape 0)[j]? = some xj → xd < xj.2 := fun j xj h1 h2 h3 => by
                    rcases Nat.lt_or_ge j K with h | h
                    · exact hinv.out.1 j xj h1 h h3
                    · have : j = K := by omega
                      subst this
                      rw [hy] at h3; cases h3; exact hdep
                  obtain ⟨l1, l2, l3⟩ := Tr.below_draws H3.out.ok hkK HX.out hy hsub
                  simp only at l1 l2 l3
                  obtain ⟨dy, hdy⟩ : ∃ dy, dy = Tr.drawOf yk t := ⟨_, rfl⟩
                  rw [← HDX.out, ← hdy] at l1
                  rw [← hdy] at hgy
                  have HY := Lib.hid hy; have HGY := Lib.hid hgy; have HSB := Lib.hid hsub; have HL3 := Lib.hid l3
                  clear hy hgy hsub l3 hdy
                  have q1 : (yk == xk) = false := by rw [beq_eq_false_iff_ne]; exact fun h => l2 h.symm
                  have t0 : (K : Int) < (n0 : Int) := by omega
                  have v1 : decide (dx < dy) = false := by simp; omega
                  have hways : (xk < yk ∧ (R = true ∨ R = false)) ∨ (¬ xk < yk ∧ R = false ∧ dy < dx) := by
                    rcases Int.lt_or_le xk yk with h | h
                    · exact .inl ⟨h, by cases R <;> simp⟩
                    · refine .inr ⟨by omega, ?_, by rcases l1 with h1 | ⟨_, h1⟩ <;> omega⟩
                      cases hR : R
                      · rfl
                      · obtain ⟨j, xj, j1, j2, j3, j4⟩ := hinv.out.2 hR
                        have := HL3.out j xj j1 j2 j3 j4
                        omega
                  have hl1 : (dy == dx) = false ∨ (dy = dx ∧ xk < yk) := by
                    rcases l1 with h | ⟨h, h2⟩
                    · left; rw [beq_eq_false_iff_ne]; omega
                    · right; exact ⟨h.symm, h2⟩
                  clear l1 l2
                  rcases hways with ⟨hgt, hR⟩ | ⟨hgt, rfl, hlt⟩
                  · have v2 : decide (yk < xk) = false := by simp; omega
                    rcases hl1 with hl1 | ⟨rfl, _⟩ <;> rcases hR with rfl | rfl
                    all_goals
                      go_wp2_with fail
                      go_quiet ((fail))
                      go_wp2_with fail
                      refine (HGY.out _).mono ?_; rintro e w3 ⟨rfl, rfl⟩
                      go_wp2_with fail
                      go_quiet ((fail))
                      go_wp2_with fail
                      go_quiet ((fail))
                      go_wp2_with fail
                      (try (go_quiet ((fail)); go_wp2_with fail))
                      go_roundw
                      case rel =>
                        refine ⟨true, K + 1, _, by omega, by omega, by simp, by go_num, rfl, Lib.hid ⟨fun j xj h1 h2 h3 => HSB.out j xj h1 (by omega) h3, fun _ => ⟨K, _, hkK, by omega, HY.out, hgt⟩⟩⟩
                      case measure => simp [intOf]; omega
                  · have hl2 : (dy == dx) = false := by rw [beq_eq_false_iff_ne]; omega
                    have v2 : decide (xk < yk) = false := by simpa using hgt
                    clear hl1 hlt hgt
                    go_wp2_with fail
                    go_quiet ((fail))
                    go_wp2_with fail
                    refine (HGY.out _).mono ?_; rintro e w3 ⟨rfl, rfl⟩
                    go_wp2_with fail
                    go_quiet ((fail))
                    go_wp2_with fail
                    go_quiet ((fail))
                    go_wp2_with fail
                    (try (go_quiet ((fail)); go_wp2_with fail))
                    go_roundw
                    case rel =>
                      refine ⟨false, K + 1, _, by omega, by omega, by simp, by go_num, rfl, Lib.hid ⟨fun j xj h1 h2 h3 => HSB.out j xj h1 (by omega) h3, fun h => by cases h⟩⟩
                    case measure => simp [intOf]; omega
                · have t0 : (K : Int) < (n0 : Int) := by omega
                  have v1 : decide (xd < yd) = false := by simpa using hdep
                  clear hdep hgy
                  go_wp2_with fail
                  go_quiet ((fail))
                  go_wp2_with fail
                  go_roundw
                  case rel => exact ⟨k + 1, _, by omega, by go_num, rfl⟩
                  case measure => simp [intOf]; omega
              · have t0 : decide ((K : Int) < (n0 : Int)) = false := by simp; omega
                go_wp2_with fail
                go_quiet ((fail))
                go_wp2_with fail
                go_roundw
                case rel => exact ⟨k + 1, _, by omega, by go_num, rfl⟩
                case measure => simp [intOf]; omega
        · go_wp2_with (go_at_call 11; refine (awake9_any _).mono ?_; rintro e w4 ⟨rfl, ho4⟩)
          go_ret
          exact ⟨rfl, ((H3.out.drewN m).adds.thenF ho4).below (Nat.le_refl _) (fun _ _ h => h)⟩
end Go.Proofs.Ytkjehmbaolhmnaa

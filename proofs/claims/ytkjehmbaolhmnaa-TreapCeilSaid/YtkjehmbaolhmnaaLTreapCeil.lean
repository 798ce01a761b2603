/- TreapCeil: its walk. By an AI agent. -/
import Derived.Deep.DeepCutAuto
import Derived.Deep.CutBlock
import Derived.IntWalk
import Derived.Test.YtkjehmbaolhmnaaTreapAwake
import Derived.Test.YtkjehmbaolhmnaaTreapCeilS
import Derived.Test.YtkjehmbaolhmnaaTreapKeysS
import Derived.Test.YtkjehmbaolhmnaaRowAt
namespace Go.Proofs.Ytkjehmbaolhmnaa
open Go.RowKit
/-- The text "v". -/
abbrev vText : ByteArray := { data := #[118] }
/-- Each value is that text. -/
def Tr.vtext (t : Tr) : Prop := ∀ e ∈ t.ins, e.2.2 = .string vText
theorem ownKeys {w : World} {base : Nat} {v : Value} {t : Tr} (h : w.ownsRow base 3 1 v t.size (t.ins.map fun e => .int .i64 e.1)) (h0 : 0 < t.size) :
    ∃ g cap, v = .slice (some ⟨g, 0, none⟩) t.size cap ∧ ∀ (j : Nat) (e : Int × Int × Value), t.ins[j]? = some e → w.cell? ⟨g, j, none⟩ = some (.int .i64 e.1) := by
  obtain ⟨_, ⟨_, h1⟩ | ⟨g, cap, cur, h1, h2, h3, _, _, _, h5⟩⟩ := h
  · omega
  · refine ⟨g, cap, h1, fun j e hj => ?_⟩
    have hjl : j < t.size := by rw [← Tr.size_ins]; exact (List.getElem?_eq_some_iff.1 hj).1
    have e1 : (cur.toList.take (t.size * 1))[j]? = some (.int .i64 e.1) := by
      rw [h5, List.getElem?_map, hj]; rfl
    rw [List.getElem?_take_of_lt (by omega)] at e1
    simpa [World.cell?, h3] using e1
theorem ownKeys0 {w : World} {base : Nat} {v : Value} {xs : List Value} (h : w.ownsRow base 3 1 v 0 xs) : ∃ a cap, v = .slice a 0 cap := by
  obtain ⟨_, ⟨h1, _⟩ | ⟨g, cap, cur, h1, h2, h3, _, _, _, h5⟩⟩ := h
  · exact ⟨_, _, h1⟩
  · exact ⟨_, _, h1⟩
set_option maxRecDepth 100000 in
set_option maxHeartbeats 8000000 in
theorem treapCeil_law (a0 : Option Addr) (len cap : Nat) (ks : List Int) (key : Int) (w1 : (Lit.int .i64 key).wf = true) (w : World) (w0 : IsRow .i64 w a0 len cap ks) :
    Calls Try.prog 5 #[.slice a0 len cap, .int .i64 key] w fun e w' => e = .returned (.bool true) ∧ Below w.heap.size w w' := by
  have HK := Lib.hid w0
  obtain ⟨hl, hcap⟩ := rows_len w0
  clear w0 w1
  go_enter Try.func5, Try.ntmps5
  go_upto_block 0 with (go_at_call 18; refine (newS_any _).mono ?_; rintro e w1 ⟨rfl, h1, ho⟩; have H1 := Lib.hid (Here.new h1 ho); clear h1 ho)
  go_cut [6] (fun _ wx => ∃ t, HereS w wx w.heap.size t ∧ t.size < 100 ∧ t.vtext)
  case first =>
    go_wp2_with fail
    go_loopw [6] (fun i wr => ∃ k : Nat, k ≤ len ∧ k ≤ 80 ∧ i = .int .i64 k ∧ ∃ t, HereS w wr w.heap.size t ∧ t.size ≤ k ∧ t.vtext) (fun i _ => len - (intOf i).toNat)
    case atStart => exact ⟨0, Nat.zero_le _, Nat.zero_le _, rfl, _, H1.out, Nat.le_refl _, fun e he => by simp [Tr.ins] at he⟩
    case round =>
      obtain ⟨k, hk, hk80, rfl, t, hH, hz, hv⟩ := hrel
      have H := Lib.hid hH; have HV := Lib.hid hv
      clear hH hv H1
      by_cases c1 : k < len
      · by_cases c3 : k < 80
        · obtain ⟨b, off, rfl, hb, hc, hcw⟩ := rows_at HK.out c1
          obtain ⟨x, hx⟩ : ∃ x, x = ks.getD k 0 := ⟨_, rfl⟩
          rw [← hx] at hc hcw
          have d0 := (H.out.adds.cellF (p := ⟨b, off + k, none⟩) hb id).trans hc
          clear hx hcw hc
          go_wp2_with fail
          refine (putS_any H.out (by omega) _ _ _).mono ?_; rintro e w3 ⟨bb, t', rfl, h2, hcase⟩
          have hb' : t'.size ≤ k + 1 ∧ t'.vtext := by
            rcases hcase with ⟨_, _, nb, _, e2⟩ | ⟨_, _, e2⟩
            · rw [e2, Tr.put_size]
              refine ⟨by omega, fun e he => ?_⟩
              rcases (Tr.put_mem ..).1 he with rfl | he
              · rfl
              · exact HV.out e he
            · rw [e2]; exact ⟨by omega, HV.out⟩
          have H2 := Lib.hid h2; have HB := Lib.hid hb'
          clear hcase h2 hb' H d0
          go_wp2_with fail
          go_roundw
          case rel => exact ⟨k + 1, by omega, by omega, by go_num, _, H2.out, HB.out.1, HB.out.2⟩
          case measure => simp [intOf]; omega
        · go_wp2_with fail
          go_meet
          exact ⟨t, H.out, by omega, HV.out⟩
      · go_wp2_with fail
        go_meet
        exact ⟨t, H.out, by omega, HV.out⟩
  case rest =>
    obtain ⟨t, hH, hz, hv⟩ := hcut
    have H := Lib.hid hH; have HV := Lib.hid hv
    obtain ⟨n0, hn0⟩ : ∃ n0, n0 = t.size := ⟨_, rfl⟩
    have HN := Lib.hid hn0
    rw [← hn0] at hz
    clear hH hv H1 hn0
    go_wp2_with fail
    refine (keysS_any _ _ _ _ H.out.treap (by have := HN.out; omega)).mono ?_; rintro e w2 ⟨v, rfl, hv, ho⟩
    have H3 := Lib.hid (H.out.keep ho); have HVK := Lib.hid hv
    have hce := fun (q : Int) (W : World) (hW : HereS w W w.heap.size t) => ceilS_any w.heap.size t t.size q W hW.treap hW.ok.bst (fun e he => ⟨vText, HV.out e he⟩)
    have HCE := Lib.hid hce
    clear hv ho H hce
    go_wp2_with fail
    refine (HCE.out key _ H3.out).mono ?_; rintro e w3 ⟨⟨m3, rfl⟩, k0, x0, ok, rfl, hle⟩
    have HLE := Lib.hid hle
    clear hle
    by_cases h0 : n0 = 0
    · have hins : t.ins = [] := List.eq_nil_of_length_eq_zero (by rw [Tr.size_ins, ← HN.out, h0])
      have hok : ok = false := by
        rcases HLE.out with ⟨_, d1, e2⟩ | ⟨e1, _⟩
        · have := (Tr.least_mem e2).1; rw [hins] at this; cases this
        · exact e1
      have hvk := HVK.out
      rw [← HN.out, h0] at hvk
      obtain ⟨al, cp, rfl⟩ := ownKeys0 hvk
      subst hok
      subst h0
      clear hvk hins HLE HVK
      go_wp2_with fail
      go_loop [11, 12] (fun fo i => fo = .bool false ∧ i = .int .i64 0) (fun _ _ => 0)
      case atStart => exact ⟨rfl, rfl⟩
      case round =>
        obtain ⟨rfl, rfl⟩ := hrel
        go_wp2_with (first
          | (go_at_call 22; refine (lenS_any _ _ _ _ (H3.out.drewN _).treap).mono ?_; rintro e w5 ⟨rfl, rfl⟩; rw [← HN.out])
          | (go_at_call 11; refine (awake9_any _).mono ?_; rintro e w9 ⟨rfl, ho9⟩))
        go_ret
        exact ⟨rfl, ((H3.out.drewN _).adds.thenF ho9).below (Nat.le_refl _) (fun _ _ h => h)⟩
    · obtain ⟨g, cp, rfl, hcell⟩ := ownKeys HVK.out (by have := HN.out; omega)
      rw [← HN.out]
      have HC := Lib.hid hcell
      clear hcell HVK
      go_wp2_with fail
      go_loopw [11, 12] (fun fo i wr => ∃ (F : Bool) (k m : Nat), k ≤ n0 ∧ fo = .bool F ∧ i = .int .i64 k ∧ wr = w2.drewN m ∧
          RowKit.Hid ((F = true → ∃ (j : Nat) (x : Int × Int × Value), t.ins[j]? = some x ∧ key ≤ x.1) ∧ (F = false → ∀ (j : Nat) (x : Int × Int × Value), j < k → t.ins[j]? = some x → x.1 < key)))
        (fun _ i _ => n0 - (intOf i).toNat)
      case atStart => exact ⟨false, 0, _, Nat.zero_le _, rfl, rfl, rfl, Lib.hid ⟨fun h => (by cases h), fun _ j _ h => (by omega)⟩⟩
      case round =>
        obtain ⟨F, k, m, hk, rfl, rfl, rfl, hinv⟩ := hrel
        by_cases hkn : k < n0
        · obtain ⟨x, hx⟩ : ∃ x, t.ins[k]? = some x := ⟨_, List.getElem?_eq_getElem (by rw [Tr.size_ins]; have := HN.out; omega)⟩
          have d0 := HC.out k x hx
          obtain ⟨xk, xd, xv⟩ := x
          simp only at d0
          have hxv := HV.out _ (List.mem_of_getElem? hx)
          simp only at hxv
          subst hxv
          have hcx := HCE.out xk
          have hself := Tr.least_self H3.out.ok.bst hx
          simp only at hself
          rw [hself] at hcx
          have HCX := Lib.hid hcx
          have HX := Lib.hid hx
          clear hx hcx hself
          go_upto_region 14 with fail
          go_cut [67] (fun s wx => s = .bool false ∧ ∃ m', wx = w2.drewN m')
          case first =>
            cases k with
            | zero =>
              go_wp2_with fail
              go_quiet ((fail))
              go_wp2_with fail
              go_meet
              exact ⟨rfl, _, World.drewN_drewN ..⟩
            | succ k =>
              obtain ⟨y, hy⟩ : ∃ y, t.ins[k]? = some y := ⟨_, List.getElem?_eq_getElem (by rw [Tr.size_ins]; have := HN.out; omega)⟩
              have q1 := HC.out k y hy
              have hlt := Tr.ins_lt H3.out.ok.bst (Nat.lt_succ_self k) hy HX.out
              obtain ⟨yk, _, _⟩ := y
              simp only at q1 hlt
              have u1 : decide (xk ≤ yk) = false := by simp; omega
              have u5 : IntKind.i64.wrap (((k + 1 : Nat) : Int) - 1) = (k : Int) := by rw [IntWalk.i64_in _ (by omega)]; omega
              clear hy hlt
              go_wp2_with fail
              go_quiet ((fail))
              go_wp2_with fail
              go_meet
              exact ⟨rfl, _, World.drewN_drewN ..⟩
          case rest =>
            obtain ⟨rfl, m', rfl⟩ := hcut
            go_wp2_with fail
            refine (HCX.out _ (H3.out.drewN m')).mono ?_; rintro e w4 ⟨⟨m4, rfl⟩, k1, x1, ok1, rfl, hle1⟩
            obtain ⟨rfl, rfl, rfl⟩ : ok1 = true ∧ k1 = xk ∧ x1 = vText := by
              rcases hle1 with ⟨e1, d1, e2⟩ | ⟨_, e2⟩
              · simp only [Option.some.injEq, Prod.mk.injEq, Value.string.injEq] at e2
                exact ⟨e1, e2.1.symm, e2.2.2.symm⟩
              · cases e2
            clear hle1
            have t1 : (k1 != k1) = false := by simp
            by_cases hge : key ≤ k1
            · cases F with
              | true =>
                go_wp2_with fail
                go_roundw
                case rel => exact ⟨true, k + 1, _, by omega, rfl, by go_num, rfl, Lib.hid ⟨fun _ => (by first | exact hinv.out.1 rfl | exact hinv.out.1 trivial), fun h => (by cases h)⟩⟩
                case measure => simp [intOf]; omega
              | false =>
                have hl0 : Tr.least key t = some (k1, xd, .string vText) := Tr.least_at H3.out.ok.bst HX.out hge (fun j y hj hy => hinv.out.2 rfl j y hj hy)
                obtain ⟨rfl, rfl, rfl⟩ : ok = true ∧ k0 = k1 ∧ x0 = vText := by
                  rcases HLE.out with ⟨e1, d1, e2⟩ | ⟨_, e2⟩
                  · rw [hl0] at e2
                    simp only [Option.some.injEq, Prod.mk.injEq, Value.string.injEq] at e2
                    exact ⟨e1, e2.1.symm, e2.2.2.symm⟩
                  · rw [hl0] at e2; cases e2
                have HGE := Lib.hid hge
                go_wp2_with fail
                go_roundw
                case rel => exact ⟨true, k + 1, _, by omega, rfl, by go_num, rfl, Lib.hid ⟨fun _ => ⟨k, _, HX.out, HGE.out⟩, fun h => (by cases h)⟩⟩
                case measure => simp [intOf]; omega
            · have hge2 : decide (key ≤ k1) = false := by simpa using hge
              go_wp2_with fail
              go_roundw
              case rel =>
                refine ⟨F, k + 1, _, by omega, rfl, by go_num, rfl, Lib.hid ⟨hinv.out.1, fun h j y hj hy => ?_⟩⟩
                rcases Nat.lt_or_ge j k with h1 | h1
                · exact hinv.out.2 h j y h1 hy
                · have : j = k := by omega
                  subst this
                  rw [HX.out] at hy
                  cases hy
                  (first | exact hge | exact Int.not_le.1 hge)
              case measure => simp [intOf]; omega
        · have hFo : F = ok := by
            rcases HLE.out with ⟨e1, d1, e2⟩ | ⟨e1, e2⟩
            · rw [e1]
              cases hF : F with
              | true => rfl
              | false =>
                exfalso
                obtain ⟨hm, hge⟩ := Tr.least_mem e2
                obtain ⟨j, hj, he⟩ := List.getElem_of_mem hm
                have := hinv.out.2 hF j _ (by rw [Tr.size_ins] at hj; have := HN.out; omega) (by rw [List.getElem?_eq_getElem hj, he])
                simp only at this hge
                omega
            · rw [e1]
              cases hF : F with
              | false => rfl
              | true =>
                exfalso
                obtain ⟨j, x, hj, hge⟩ := hinv.out.1 hF
                have := Tr.least_none e2 x (List.mem_of_getElem? hj)
                omega
          subst hFo
          clear HLE
          go_wp2_with (first
            | (go_at_call 22; refine (lenS_any _ _ _ _ (H3.out.drewN _).treap).mono ?_; rintro e w5 ⟨rfl, rfl⟩; rw [← HN.out])
            | (go_at_call 11; refine (awake9_any _).mono ?_; rintro e w9 ⟨rfl, ho9⟩))
          go_ret
          exact ⟨by simp, ((H3.out.drewN _).adds.thenF ho9).below (Nat.le_refl _) (fun _ _ h => h)⟩
end Go.Proofs.Ytkjehmbaolhmnaa

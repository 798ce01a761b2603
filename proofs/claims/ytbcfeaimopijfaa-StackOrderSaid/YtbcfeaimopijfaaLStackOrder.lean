/- StackOrder: its walk. By an AI agent. -/
import Derived.Test.YtbcfeaimopijfaaStackOrder2
import Derived.Test.YtbcfeaimopijfaaRowAt
import Derived.Deep.DeepCutAuto
import Derived.Deep.CutBlock
namespace Go.Proofs.Ytbcfeaimopijfaa
open Go.RowKit
theorem headDid {W : World} : Sem.run Try.prog (binOp .neq 38 (.agg #[.int .i64 0, .int .i64 0, .int .u64 0, .int .u64 0]) (.agg #[.int .i64 0, .int .i64 0, .int .u64 0, .int .u64 0])) W = .ok (.bool false) W := by kernel_rfl
set_option maxRecDepth 100000 in
set_option maxHeartbeats 8000000 in
theorem stackOrder_law (pg : Int) (hpg : (Lit.int .u8 pg).wf = true) (k : Int) (hk : (Lit.int .u8 k).wf = true) (a : Option Addr) (len cap : Nat) (zs : List Int) (w : World) (hr : IsRow .u8 w a len cap zs) :
    Calls Try.prog 3 #[.int .u8 pg, .int .u8 k, .slice a len cap] w fun e w' => e = .returned (.bool true) ∧ Below w.heap.size w w' := by
  have hkd := fun W a b c d => did_kind W a b c d
  have hnd := fun W => headDid (W := W)
  obtain ⟨p0, p1⟩ := bd_u8 hpg
  obtain ⟨k0, k1⟩ := bd_u8 hk
  obtain ⟨hl, hcap⟩ := rows_len hr
  have e1 : IntKind.i64.wrap (1 + pg % 60) = 1 + pg % 60 := by simp [IntKind.wrap_i64]; omega
  obtain ⟨n, hn⟩ : ∃ n : Nat, (n : Int) = 1 + pg % 60 := ⟨(1 + pg % 60).toNat, by omega⟩
  have hnb : 1 ≤ n ∧ n ≤ 60 := by omega
  have hm : Lay.may n 1 = true := Lay.may_iff.2 ⟨by omega, by omega, by omega, by omega⟩
  obtain ⟨hd, hhd⟩ : ∃ hd, hd = 8 + k % 60 := ⟨_, rfl⟩
  have HD8 : Hid (HD n 1 hd) := Lib.hid ⟨hm, by omega, by omega⟩
  have HR := Lib.hid hr; have HM := Lib.hid hm; have HN := Lib.hid hn; have HH := Lib.hid hhd; have HNB := Lib.hid hnb
  have hB := Lib.hid (Blk.new w #[.int .i64 n, .int .i64 1] 24)
  clear hr hm hn hhd hpg hk hnb
  go_enter Try.func3, Try.ntmps3
  go_wp2_with fail
  rw [← HN.out]
  go_upto_block 0 with (first
    | (go_at_call 7; refine (arenaNew_yard n 1 _ HM.out).mono ?_; rintro e w1 ⟨ab, sb, sm, rb, rfl, hy, ho, hlow⟩; have HY1 := Lib.hid (YS.new hy HD8.out); have HB1 := Lib.hid (hB.out.only ho id); have HLOW : Hid (w.heap.size < sb ∧ w.heap.size < sm) := Lib.hid (by simp only [World.size_alloc] at hlow; omega); have HO1 := Lib.hid (((Only.refl (fun _ => False) w).alloc _).thenF ho); clear hy ho hlow)
    | (go_at_call 8; refine (playHead_any k _ k0 k1).mono ?_; rintro e w2 ⟨rfl, rfl⟩; rw [← HH.out]))
  have HS1 : Hid (SO w w1 ab sb sm rb n hd 0 (fun _ => 0) (.slice none 0 0) []) := Lib.hid ⟨World.ownsRow_nil _ _ _ _, HY1.out, HO1.out, HB1.out⟩
  clear HY1 HO1 HB1 hB
  go_cut [11, 12] (fun o _ wx => ∃ (L : List Int) (H : Int) (f : Int → Int), SO w wx ab sb sm rb n hd H f o L ∧ Lays f n (Tag.pg H) L ∧ L.Nodup ∧ L.length ≤ 60)
  case first =>
    go_wp2_with fail
    go_loopg [11, 12] 60 (fun gg o q wx => ∃ (k : Nat) (L : List Int) (H : Int) (f : Int → Int), q = .int .i64 k ∧ k ≤ len ∧ k ≤ 60 ∧ 60 - k ≤ gg ∧ SO w wx ab sb sm rb n hd H f o L ∧ Lays f n (Tag.pg H) L ∧ L.Nodup ∧ L.length ≤ k)
    case atStart => exact ⟨0, [], 0, fun _ => 0, rfl, Nat.zero_le _, Nat.zero_le _, Nat.le_refl _, HS1.out, (show Tag.pg 0 < 0 by decide), List.nodup_nil, Nat.le_refl _⟩
    case round =>
      obtain ⟨k, L, H, f, rfl, hk, hk6, hg, hS, hLa, hND, hLk⟩ := hrel
      obtain ⟨ia, icp, rfl⟩ := slice_of hS.1
      have HS := Lib.hid hS; have HLA := Lib.hid hLa; have HND := Lib.hid hND
      clear hS hLa hND HS1
      by_cases c1 : k < len
      · by_cases c2 : k < 60
        · obtain ⟨b, off, rfl, hb, hc, hcw⟩ := rows_at HR.out c1
          obtain ⟨x, hx⟩ : ∃ x, x = zs.getD k 0 := ⟨_, rfl⟩
          rw [← hx] at hc hcw
          have d0 := (HS.out.2.2.1.cellF (p := ⟨b, off + k, none⟩) hb id).trans hc
          obtain ⟨x0, x1⟩ := bd_u8 hcw
          have hxn : Int.tmod x n = x % n := Int.tmod_eq_emod_of_nonneg x0
          obtain ⟨p, hp⟩ : ∃ p, p = x % (n : Int) := ⟨_, rfl⟩
          have hpb : 0 ≤ p ∧ p < n := by have := HNB.out; rw [hp]; exact ⟨Int.emod_nonneg _ (by omega), Int.emod_lt_of_pos _ (by omega)⟩
          have hxp : Int.tmod x n = p := by rw [hp]; exact hxn
          have HPB := Lib.hid hpb
          have hn0 : ((n : Int) == 0) = false := by have := HNB.out; simp; omega
          have hn00 : ¬ (n = 0) := by have := HNB.out; omega
          have hn01 : ¬ ((n : Int) = 0) := by have := HNB.out; omega
          have HL60 : Hid (L.length ≤ 59) := Lib.hid (by omega)
          clear hx hc hcw hxn hp hpb
          by_cases cm : p ∈ L
          · have HC : Hid (decide (p ∈ L) = true) := Lib.hid (by simpa using cm)
            clear cm
            go_wp2_with (go_at_call 9; refine (has_any p (Ints.row HS.out.1) (by have := HL60.out; omega)).mono ?_; rintro e w3 ⟨rfl, k3, rfl⟩; rw [HC.out])
            go_roundg (60 - (k + 1))
            case rel => exact ⟨k + 1, L, H, f, by go_num, by omega, by omega, Nat.le_refl _, HS.out.drewN _, HLA.out, HND.out, by omega⟩
            case measure => omega
          · have HC : Hid (decide (p ∈ L) = false) := Lib.hid (by simpa using cm)
            have HCM := Lib.hid cm
            clear cm
            go_wp2_with (first
              | (go_at_call 9; refine (has_any p (Ints.row HS.out.1) (by have := HL60.out; omega)).mono ?_; rintro e w3 ⟨rfl, k3, rfl⟩; rw [HC.out]; have HS3 := Lib.hid (HS.out.drewN k3); have x0_3 := HS3.out.2.2.2.cell 0; have x1_3 := HS3.out.2.2.2.cell 1)
              | (go_at_call 10; refine (newPush_ok n 1 hd p _ HD8.out.to HPB.out.1 HPB.out.2).mono ?_; rintro e w4 ⟨mb, rfl, hm, ho, hlow⟩; have HS4 := Lib.hid (HS3.out.adds ho); have HM4 := Lib.hid hm; have HL4 : Hid (w.heap.size < mb) := Lib.hid (Nat.lt_of_lt_of_le HS3.out.2.2.2.lt hlow); clear hm ho hlow x0_3 x1_3))
            refine wp_loop_rounds 4 ?_
            rw [rounds_succ]
            go_wp2_with (first
              | (go_at_call 11; refine (pushDone_any HM4.out (by simp)).mono ?_; rintro e u4 ⟨rfl, rfl⟩)
              | (go_at_call 12; refine (pushLoad HM4.out HS4.out.2.1 HD8.out).mono ?_; rintro e w5 ⟨rfl, ⟨hm, hy⟩, ho⟩; have HM5 := Lib.hid hm; have HS5 := Lib.hid (HS4.out.push1 HLOW.out HM4.out HL4.out ho hy); clear hm hy ho))
            rw [rounds_succ]
            go_wp2_with (first
              | (go_at_call 11; refine (pushDone2 HM5.out).mono ?_; rintro e u5 ⟨rfl, rfl⟩)
              | (go_at_call 12; refine (pushPut HM5.out HS5.out.2.1 HD8.out HS5.out.2.1.bd.1 HS5.out.2.1.bd.2 HPB.out.1 HPB.out.2).mono ?_; rintro e w6 ⟨rfl, ⟨hm, hy⟩, ho⟩; have HM6 := Lib.hid hm; have HS6 := Lib.hid (HS5.out.push2 HLOW.out HM5.out HL4.out ho hy); clear hm hy ho))
            rw [rounds_succ]
            go_wp2_with (first
              | (go_at_call 11; refine (pushDone3 HM6.out).mono ?_; rintro e u6 ⟨rfl, rfl⟩)
              | (go_at_call 12; refine (pushWin HM6.out HS6.out.2.1 HD8.out rfl).mono ?_; rintro e w7 ⟨rfl, ⟨hm, hy⟩, ho⟩; have HM7 := Lib.hid hm; have HS7 := Lib.hid (HS6.out.push3 HLOW.out HM6.out HL4.out ho hy); clear hm hy ho))
            rw [rounds_succ]
            go_wp2_with (first
              | (go_at_call 11; refine (stackPushDone_yes (Blk.cell HM7.out 2)).mono ?_; rintro e u7 ⟨rfl, rfl⟩)
              | (at_builtin; refine wpList_append_ints rfl _ _ 31 rfl Try.underlying31 w7.heap.size _ 1 [.int .i64 p] rfl (World.ownsRow_lit w7 #[.int .i64 p] 1 (Nat.le_refl _) (by unfold maxLen; omega) rfl) w.heap.size _ L rfl (row_adds HS7.out.1 ((Only.refl (fun _ => False) _).alloc _)) (by have := HL60.out; omega) (by simp) ?_; intro v' w8 hr8 hg8))
            have HS8 := Lib.hid (HS7.out.front rfl hr8 (grown_new hg8))
            clear hr8 hg8
            go_roundg (60 - (k + 1))
            case rel => exact ⟨k + 1, p :: L, _, _, by go_num, by omega, by omega, Nat.le_refl _, HS8.out, HLA.out.push HPB.out (by have := HNB.out; omega) HCM.out, List.nodup_cons.2 ⟨HCM.out, HND.out⟩, by simp; omega⟩
            case measure => omega
        · go_wp2_with fail
          go_meet
          exact ⟨L, H, f, HS.out, HLA.out, HND.out, by omega⟩
      · go_wp2_with fail
        go_meet
        exact ⟨L, H, f, HS.out, HLA.out, HND.out, by omega⟩
  case rest =>
    obtain ⟨L, H, f, hS, hLa, hND, hLk⟩ := hcut
    obtain ⟨ia, icp, rfl⟩ := slice_of hS.1
    have hLn : (L.length : Int) ≤ n := by have := nodup_len n L hND hLa.bd; omega
    have HS := Lib.hid hS; have HLA := Lib.hid hLa; have HLN := Lib.hid hLn; have HLK := Lib.hid hLk
    clear hS hLa hND hLn HS1 HR hl hcap
    go_upto_block 0 with (first
      | (go_at_call 14; refine (list_any HS.out.2.1 HD8.out HLA.out.lies HLN.out).mono ?_; rintro e w3 ⟨v, rfl, hi, ho⟩; have HI := Lib.hid hi; have HS3 := Lib.hid (HS.out.adds ho); clear ho hi)
      | (go_at_call 13; refine (sameInts_yes HI.out (Ints.row HS3.out.1) (by have := HLK.out; omega)).mono ?_; rintro e w4 ⟨rfl, k4, rfl⟩; have HS4 := Lib.hid (HS3.out.drewN k4)))
    clear HI HS HS3
    have hLA := HLA.out
    go_loopg [16] (L.length + 1) (fun gg q wx => ∃ (k : Nat) (H : Int), q = .int .i64 k ∧ k ≤ L.length + 1 ∧ L.length + 1 - k ≤ gg ∧ SO w wx ab sb sm rb n hd H f (.slice ia L.length icp) L ∧ Aside (Lays f n (Tag.pg H) (L.drop k)))
    case atStart => exact ⟨0, H, rfl, Nat.zero_le _, Nat.le_refl _, HS4.out, hLA⟩
    case round =>
      obtain ⟨k, H, rfl, hk, hg, hS, hL2⟩ := hrel
      have HS := Lib.hid hS; have HL := Lib.hid hL2.out
      have x0_4 := hS.2.2.2.cell 0; have x1_4 := hS.2.2.2.cell 1
      have HBD := Lib.hid hS.2.1.bd
      have hL60 := HLK.out
      clear hS hL2 HS4 hLA HLA
      by_cases c1 : k = L.length
      · subst c1
        have hp : Tag.pg H < 0 := by have h := HL.out; rw [List.drop_length] at h; exact h
        have HP := Lib.hid hp
        clear hp
        go_wp2_with (go_at_call 15; refine (newPop_ok n 1 hd _ HD8.out.to).mono ?_; rintro e w5 ⟨mb, rfl, hm, ho, hlow⟩; have HS5 := Lib.hid (HS.out.adds ho); have HM5 := Lib.hid hm; have HL5 : Hid (w.heap.size < mb) := Lib.hid (Nat.lt_of_lt_of_le HS.out.2.2.2.lt hlow); clear hm ho hlow x0_4 x1_4)
        refine wp_loop_rounds 2 ?_
        rw [rounds_succ]
        go_wp2_with (first
          | (go_at_call 16; refine (popDone_any HM5.out (by simp)).mono ?_; rintro e u5 ⟨rfl, rfl⟩)
          | (go_at_call 17; refine (popPage_any HM5.out).mono ?_; rintro e u6 ⟨rfl, rfl⟩)
          | (go_at_call 18; refine (popLoadNone HM5.out HS5.out.2.1 HD8.out HP.out).mono ?_; rintro e w6 ⟨rfl, ⟨hm, hy⟩, ho⟩; have HM6 := Lib.hid hm; have HS6 := Lib.hid (HS5.out.pop1 HLOW.out HM5.out HL5.out ho hy); clear hm hy ho))
        rw [rounds_succ]
        go_wp2_with (first
          | (go_at_call 16; refine (stackPopDone_yes (Blk.cell HM6.out 2)).mono ?_; rintro e u7 ⟨rfl, rfl⟩)
          | (go_at_call 17; refine (popPage_any HM6.out).mono ?_; rintro e u8 ⟨rfl, rfl⟩)
          | (go_at_call 18; refine (popIdle HM6.out).mono ?_; rintro e w7 ⟨rfl, ho⟩; have HS7 := Lib.hid (HS6.out.adds ho); clear ho))
        go_roundg 0
        case rel => exact ⟨L.length + 1, H, by go_num, Nat.le_refl _, by omega, HS7.out, by
          have h := HL.out; rw [List.drop_length] at h
          rw [List.drop_of_length_le (by omega)]; exact h⟩
        case measure => omega
      · by_cases c2 : k < L.length
        · obtain ⟨a1, cp1, hv, hI⟩ := Ints.row HS.out.1
          injection hv with hv1 _ hv3
          subst hv1
          subst hv3
          obtain ⟨b1, o1, rfl, l1, q1⟩ := hI k c2
          have hdr : L.drop k = L.getD k 0 :: L.drop (k + 1) := by
            rw [List.drop_eq_getElem_cons c2, List.getD_eq_getElem?_getD, List.getElem?_eq_getElem c2]; rfl
          obtain ⟨p, hp⟩ : ∃ p, p = L.getD k 0 := ⟨_, rfl⟩
          rw [← hp] at q1 hdr
          have hl2 := HL.out
          rw [hdr] at hl2
          have HL2 := Lib.hid hl2.pop
          have HPG := Lib.hid hl2.head
          clear hp hdr hl2 HL hI
          go_wp2_with (go_at_call 15; refine (newPop_ok n 1 hd _ HD8.out.to).mono ?_; rintro e w5 ⟨mb, rfl, hm, ho, hlow⟩; have q5 := (ho.cellF (p := ⟨b1, o1 + k, none⟩) l1 id).trans q1; have HS5 := Lib.hid (HS.out.adds ho); have HM5 := Lib.hid hm; have HL5 : Hid (w.heap.size < mb) := Lib.hid (Nat.lt_of_lt_of_le HS.out.2.2.2.lt hlow); clear hm ho hlow x0_4 x1_4)
          clear q5
          refine wp_loop_rounds 4 ?_
          rw [rounds_succ]
          go_wp2_with (first
            | (go_at_call 16; refine (popDone_any HM5.out (by simp)).mono ?_; rintro e u5 ⟨rfl, rfl⟩)
            | (go_at_call 17; refine (popPage_any HM5.out).mono ?_; rintro e u6 ⟨rfl, rfl⟩)
            | (go_at_call 18; refine (popLoadSome HM5.out HS5.out.2.1 HD8.out (by rw [HPG.out.1]; exact HPG.out.2.1)).mono ?_; rintro e w6 ⟨rfl, ⟨hm, hy⟩, ho⟩; have HM6 := Lib.hid hm; have HS6 := Lib.hid (HS5.out.pop1 HLOW.out HM5.out HL5.out ho hy); clear hm hy ho))
          rw [rounds_succ]
          go_wp2_with (first
            | (go_at_call 16; refine (popDone_any HM6.out (by simp)).mono ?_; rintro e u7 ⟨rfl, rfl⟩)
            | (go_at_call 17; refine (popPage_any HM6.out).mono ?_; rintro e u8 ⟨rfl, rfl⟩)
            | (go_at_call 18; refine (popNext HM6.out HS6.out.2.1 HD8.out (by rw [HPG.out.1]; exact HPG.out.2.1) (by rw [HPG.out.1]; exact HPG.out.2.2) HBD.out).mono ?_; rintro e w7 ⟨rfl, ⟨hm, hy⟩, ho⟩; have HM7 := Lib.hid hm; have HS7 := Lib.hid (HS6.out.pop2 HLOW.out HM6.out HL5.out ho hy); clear hm hy ho))
          rw [rounds_succ]
          go_wp2_with (first
            | (go_at_call 16; refine (popDone3 HM7.out).mono ?_; rintro e u9 ⟨rfl, rfl⟩)
            | (go_at_call 17; refine (popPage3 HM7.out).mono ?_; rintro e v1 ⟨rfl, rfl⟩)
            | (go_at_call 18; refine (popWin HM7.out HS7.out.2.1 HD8.out rfl).mono ?_; rintro e w8 ⟨rfl, ⟨hm, hy⟩, ho⟩; rw [HPG.out.1] at hm; have HM8 := Lib.hid hm; have HS8 := Lib.hid (HS7.out.pop3 HLOW.out HM7.out HL5.out ho hy); clear hm hy ho))
          rw [rounds_succ]
          go_wp2_with (first
            | (go_at_call 16; refine (stackPopDone_yes (Blk.cell HM8.out 2)).mono ?_; rintro e v2 ⟨rfl, rfl⟩)
            | (go_at_call 17; refine (popPage_any HM8.out).mono ?_; rintro e v3 ⟨rfl, rfl⟩)
            | (go_at_call 18; refine (popIdle HM8.out).mono ?_; rintro e w9 ⟨rfl, ho⟩; have HS9 := Lib.hid (HS8.out.adds ho); clear ho))
          go_roundg (L.length + 1 - (k + 1))
          case rel => exact ⟨k + 1, _, by go_num, by omega, Nat.le_refl _, HS9.out, HL2.out⟩
          case measure => omega
        · obtain rfl : k = L.length + 1 := by omega
          have hp : Lies f n (Tag.pg H) [] := by have h := HL.out; rw [List.drop_of_length_le (by omega)] at h; exact h.lies
          have HP := Lib.hid hp
          clear hp x0_4 x1_4
          go_wp2_with (first
            | (go_at_call 14; refine (list_any HS.out.2.1 HD8.out HP.out (by have := HNB.out; simp)).mono ?_; rintro e w5 ⟨v, rfl, ⟨a5, c5, rfl, -⟩, ho⟩; have HS5 := Lib.hid (HS.out.adds ho); clear ho)
            | (go_at_call 19; refine (awake12_any _).mono ?_; rintro e w6 ⟨rfl, ho⟩; have HO6 := Lib.hid (HS5.out.2.2.1.thenF ho); clear ho))
          go_ret
          exact ⟨rfl, Adds.below' HO6.out⟩
end Go.Proofs.Ytbcfeaimopijfaa

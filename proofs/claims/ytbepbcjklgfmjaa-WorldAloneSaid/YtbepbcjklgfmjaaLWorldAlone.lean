/- WorldAlone: its walk. By an AI agent. -/
import Derived.Test.YtbepbcjklgfmjaaZWAPlay
import Derived.Deep.DeepCutAuto
import Derived.Deep.CutBlock
import Derived.Deep.RegionHeld3
namespace Go.Proofs.Ytbepbcjklgfmjaa
open Go.RowKit
set_option linter.unusedSimpArgs false
set_option linter.unusedVariables false
theorem infoMachP : (Try.prog.info? 33).map (fun i => (i.zero, i.size, i.bytes)) = some (some (.pointer none), 1, 8) := by kernel_rfl
theorem infoBoolQ : (Try.prog.info? 4).map (fun i => (i.zero, i.size, i.bytes)) = some (some (.bool false), 1, 1) := by kernel_rfl
theorem on_cases (t : Nat) (x : TS) : (x.on t = some (x.mk t) ∧ x ≠ .idle ∧ x.isInn = false ∧ x.isStop = false) ∨ (x = .inn ∧ x.on t = none) ∨ (x = .stopped ∧ x.on t = none) ∨ (x = .idle ∧ x.on t = none) := by
  cases x <;> first | exact .inl ⟨rfl, by simp, rfl, rfl⟩ | exact .inr (.inl ⟨rfl, rfl⟩) | exact .inr (.inr (.inl ⟨rfl, rfl⟩)) | exact .inr (.inr (.inr ⟨rfl, rfl⟩))
theorem blk_new2 (w : World) (o p : Obj) (c : Array Value) (t : TypeId) : Blk (((w.alloc o).alloc p).alloc (.cells c t)) (w.heap.size + 1 + 1) c t := by
  have := Blk.new ((w.alloc o).alloc p) c t
  rwa [World.size_alloc, World.size_alloc] at this
/-- The machines and rows are the states', but for one thread's machine. -/
structure LikeB (n t : Nat) (q : Nat → TS) (Q : Nat → Option WL) (Iv Sv : Nat → Bool) : Prop where
  on : ∀ j, j < n → j ≠ t → (Q j).map WL.k = (q j).on j
  inn : ∀ j, j < n → Iv j = (q j).isInn
  stop : ∀ j, j < n → Sv j = (q j).isStop
theorem Like.but {n t : Nat} {q : Nat → TS} {Q : Nat → Option WL} {Iv Sv : Nat → Bool} (h : Like n q Q Iv Sv) : LikeB n t q Q Iv Sv := ⟨fun j hj _ => h.on j hj, h.inn, h.stop⟩
theorem LikeB.turn {n t : Nat} {q : Nat → TS} {Q : Nat → Option WL} {Iv Sv : Nat → Bool} (h : LikeB n t q Q Iv Sv) (o : Option WL) : LikeB n t q (upd Q t o) Iv Sv := ⟨fun j hj hne => by rw [upd_ne _ hne]; exact h.on j hj hne, h.inn, h.stop⟩
theorem LikeB.begin {n t : Nat} {q : Nat → TS} {Q : Nat → Option WL} {Iv Sv : Nat → Bool} (h : LikeB n t q Q Iv Sv) (hq : q t = .idle) {x : TS} (hx : x = .beg ∨ x = .try_) : LikeB n t (upd q t x) Q Iv Sv := by
  refine ⟨fun j hj hne => by rw [upd_ne _ hne]; exact h.on j hj hne, fun j hj => ?_, fun j hj => ?_⟩
  · by_cases e : j = t
    · subst e; rw [upd_at, h.inn j hj, hq]; rcases hx with rfl | rfl <;> rfl
    · rw [upd_ne _ e]; exact h.inn j hj
  · by_cases e : j = t
    · subst e; rw [upd_at, h.stop j hj, hq]; rcases hx with rfl | rfl <;> rfl
    · rw [upd_ne _ e]; exact h.stop j hj
/-- It goes on. -/
theorem LikeB.on_ {n t : Nat} {q : Nat → TS} {Q : Nat → Option WL} {Iv Sv : Nat → Bool} (h : LikeB n t q Q Iv Sv) {y : TS} {z : WL} (h1 : y.on t = some z.k) (h2 : y.isInn = (q t).isInn) (h3 : y.isStop = (q t).isStop) : Like n (upd q t y) (upd Q t (some z)) Iv Sv := by
  refine ⟨fun j hj => ?_, fun j hj => ?_, fun j hj => ?_⟩
  · by_cases e : j = t
    · subst e; rw [upd_at, upd_at, h1]; rfl
    · rw [upd_ne _ e, upd_ne _ e]; exact h.on j hj e
  · by_cases e : j = t
    · subst e; rw [upd_at, h2]; exact h.inn j hj
    · rw [upd_ne _ e]; exact h.inn j hj
  · by_cases e : j = t
    · subst e; rw [upd_at, h3]; exact h.stop j hj
    · rw [upd_ne _ e]; exact h.stop j hj
/-- It is done. -/
theorem LikeB.done {n t : Nat} {q : Nat → TS} {Q : Nat → Option WL} {Iv Sv : Nat → Bool} (h : LikeB n t q Q Iv Sv) {y : TS} {a b : Bool} (h1 : y.on t = none) (h2 : y.isInn = a) (h3 : y.isStop = b) : Like n (upd q t y) (upd Q t none) (upd Iv t a) (upd Sv t b) := by
  refine ⟨fun j hj => ?_, fun j hj => ?_, fun j hj => ?_⟩
  · by_cases e : j = t
    · subst e; rw [upd_at, upd_at, h1]; rfl
    · rw [upd_ne _ e, upd_ne _ e]; exact h.on j hj e
  · by_cases e : j = t
    · subst e; rw [upd_at, upd_at, h2]
    · rw [upd_ne _ e, upd_ne _ e]; exact h.inn j hj
  · by_cases e : j = t
    · subst e; rw [upd_at, upd_at, h3]
    · rw [upd_ne _ e, upd_ne _ e]; exact h.stop j hj
set_option maxRecDepth 100000 in
set_option maxHeartbeats 8000000 in
theorem worldAlone_law (c0 : Int) (f0 : (Lit.int .u8 c0).wf = true) (a0 : Option Addr) (len0 cap0 : Nat) (zs0 : List Int) (a1 : Option Addr) (len1 cap1 : Nat) (zs1 : List Int) (w : World) (w0 : IsRow .u8 w a0 len0 cap0 zs0) (w1 : IsRow .u8 w a1 len1 cap1 zs1) :
    Calls Try.prog 3 #[.int .u8 c0, .slice a0 len0 cap0, .slice a1 len1 cap1] w fun e w' => e = .returned (.bool true) ∧ Below w.heap.size w w' := by
  have HZ := Lib.hid w0; have HV := Lib.hid w1
  obtain ⟨hl0, hcap0⟩ := rows_len w0
  obtain ⟨hl1, hcap1⟩ := rows_len w1
  have b0 := bd_u8 f0
  obtain ⟨n, hn⟩ : ∃ n : Nat, 1 + c0 % 6 = (n : Int) := ⟨(1 + c0 % 6).toNat, by omega⟩
  have n1 : 1 ≤ n := by omega
  have n6 : n ≤ 6 := by omega
  have hn' : 1 + Int.tmod c0 6 = (n : Int) := by rw [Int.tmod_eq_emod_of_nonneg b0.1]; exact hn
  have hmay : Lay.may 2 n = true := Lay.may_iff.2 ⟨by omega, by omega, by omega, by omega⟩
  have HMAY := Lib.hid hmay
  obtain ⟨dr, hdr⟩ : ∃ k : Nat, (if (300 : Int) < (len0 : Int) then (300 : Int) else (len0 : Int)) = (k : Int) := ⟨min len0 300, by split <;> omega⟩
  have hdr2 : dr ≤ len0 ∧ dr ≤ 300 := by split at hdr <;> omega
  obtain ⟨i0, hi0, hz00, hz01, hz02⟩ := info_parts infoMachP
  have mk1 := fun W => run_make (P := Try.prog) W 30 33 i0 (.pointer none) Try.underlying30 hi0 hz00 .i64 .i64 (n : Int) (n : Int) (by omega) (by omega) (by rw [hz02]; omega) (by omega)
  obtain ⟨i1, hi1, hz10, hz11, hz12⟩ := info_parts infoBoolQ
  have mk2 := fun W => run_make (P := Try.prog) W 31 4 i1 (.bool false) Try.underlying31 hi1 hz10 .i64 .i64 (n : Int) (n : Int) (by omega) (by omega) (by rw [hz12]; omega) (by omega)
  have hcs1 : (Value.pointer none).cells = #[Value.pointer none] := rfl
  have hcs2 : (Value.bool false).cells = #[Value.bool false] := rfl
  simp only [Int.toNat_natCast, hz01, Nat.mul_one, hcs1] at mk1
  simp only [Int.toNat_natCast, hz11, Nat.mul_one, hcs2] at mk2
  have HBL := Lib.hid (Blk.new w #[.int .i64 2, .int .i64 n] 24)
  clear hcs1 hcs2 w0 w1 hmay f0 hi0 hi1 hz00 hz01 hz02 hz10 hz11 hz12
  go_enter Try.func3, Try.ntmps3
  go_upto_region 6 with (go_at_call 4; refine (arenaNew_yard 2 n _ HMAY.out).mono ?_; rintro e w3 ⟨ab, sb, sm, rb, rfl, hy, ho, hlow⟩; have HY := Lib.hid hy; have HO := Lib.hid ho; have HLOW := Lib.hid hlow; clear hy ho hlow)
  have hlb : Blk w3 w.heap.size #[.int .i64 2, .int .i64 n] 24 := HBL.out.only HO.out id
  obtain ⟨lb, hlbe⟩ : ∃ lb, w.heap.size = lb := ⟨_, rfl⟩
  have hsz3 := HO.out.size
  simp only [World.size_alloc] at hsz3
  have hlow := HLOW.out
  simp only [World.size_alloc] at hlow
  have HA3 := Lib.hid (((Only.refl (fun _ => False) w).alloc (.cells #[.int .i64 2, .int .i64 n] 24)).thenF HO.out)
  have HLO := Lib.hid (show w.heap.size ≤ ab ∧ w.heap.size ≤ sb ∧ w.heap.size ≤ sm by omega)
  have hsz : w.heap.size ≤ w3.heap.size := by omega
  have HSZ := Lib.hid hsz
  rw [hlbe] at hlb ⊢
  have HLB := Lib.hid hlb
  have HLBE := Lib.hid hlbe
  clear hlb hsz3 hlow HLOW HO HBL hsz hlbe
  go_cut [10, 11, 12] (fun x y z wc => ∃ onb inb stb, x = .slice (some ⟨onb, 0, none⟩) n n ∧ y = .slice (some ⟨inb, 0, none⟩) n n ∧ z = .slice (some ⟨stb, 0, none⟩) n n ∧ Hid (Adds w3 wc ∧ (Blk wc onb (rowOf n (fun _ => .pointer none)) 33 ∧ Blk wc inb (rowOf n (fun _ => .bool false)) 4 ∧ Blk wc stb (rowOf n (fun _ => .bool false)) 4) ∧ w3.heap.size ≤ onb ∧ w3.heap.size ≤ inb ∧ w3.heap.size ≤ stb ∧ inb ≠ stb))
  case first => as_aux_lemma =>
    go_region
    all_goals
      go_wp2_with fail
      go_meet
      first
        | exact ⟨w3.heap.size, w3.heap.size + 1, w3.heap.size + 1 + 1, rfl, rfl, rfl, Lib.hid ⟨((((Only.refl _ w3).alloc _).alloc _).alloc _).drew, ⟨by rw [← madeRow]; exact ((Blk.new w3 _ _).alloc _).alloc _, by rw [← madeRow]; exact (blk_new1 _ _ _ _).alloc _, by rw [← madeRow]; exact blk_new2 _ _ _ _ _⟩, by omega, by omega, by omega, by omega⟩⟩
        | exact ⟨w3.heap.size, w3.heap.size + 1 + 1, w3.heap.size + 1, rfl, rfl, rfl, Lib.hid ⟨((((Only.refl _ w3).alloc _).alloc _).alloc _).drew, ⟨by rw [← madeRow]; exact ((Blk.new w3 _ _).alloc _).alloc _, by rw [← madeRow]; exact blk_new2 _ _ _ _ _, by rw [← madeRow]; exact (blk_new1 _ _ _ _).alloc _⟩, by omega, by omega, by omega, by omega⟩⟩
        | exact ⟨w3.heap.size + 1, w3.heap.size, w3.heap.size + 1 + 1, rfl, rfl, rfl, Lib.hid ⟨((((Only.refl _ w3).alloc _).alloc _).alloc _).drew, ⟨by rw [← madeRow]; exact (blk_new1 _ _ _ _).alloc _, by rw [← madeRow]; exact ((Blk.new w3 _ _).alloc _).alloc _, by rw [← madeRow]; exact blk_new2 _ _ _ _ _⟩, by omega, by omega, by omega, by omega⟩⟩
        | exact ⟨w3.heap.size + 1, w3.heap.size + 1 + 1, w3.heap.size, rfl, rfl, rfl, Lib.hid ⟨((((Only.refl _ w3).alloc _).alloc _).alloc _).drew, ⟨by rw [← madeRow]; exact (blk_new1 _ _ _ _).alloc _, by rw [← madeRow]; exact blk_new2 _ _ _ _ _, by rw [← madeRow]; exact ((Blk.new w3 _ _).alloc _).alloc _⟩, by omega, by omega, by omega, by omega⟩⟩
        | exact ⟨w3.heap.size + 1 + 1, w3.heap.size, w3.heap.size + 1, rfl, rfl, rfl, Lib.hid ⟨((((Only.refl _ w3).alloc _).alloc _).alloc _).drew, ⟨by rw [← madeRow]; exact blk_new2 _ _ _ _ _, by rw [← madeRow]; exact ((Blk.new w3 _ _).alloc _).alloc _, by rw [← madeRow]; exact (blk_new1 _ _ _ _).alloc _⟩, by omega, by omega, by omega, by omega⟩⟩
        | exact ⟨w3.heap.size + 1 + 1, w3.heap.size + 1, w3.heap.size, rfl, rfl, rfl, Lib.hid ⟨((((Only.refl _ w3).alloc _).alloc _).alloc _).drew, ⟨by rw [← madeRow]; exact blk_new2 _ _ _ _ _, by rw [← madeRow]; exact (blk_new1 _ _ _ _).alloc _, by rw [← madeRow]; exact ((Blk.new w3 _ _).alloc _).alloc _⟩, by omega, by omega, by omega, by omega⟩⟩
  case rest =>
    obtain ⟨onb, inb, stb, rfl, rfl, rfl, HC⟩ := hcut
    clear mk1 mk2
    have hI0 : OW w ab sb sm rb lb onb inb stb n wc (StoreS.begun (Lay.words 2 n).toNat 0 1) (fun _ => none) (fun _ => false) (fun _ => false) := by
      obtain ⟨a1, ⟨a2, a3, a4⟩, a5, a6, a7, a8⟩ := HC.out
      have := HSZ.out
      exact ⟨HY.out.adds a1, begun_len _ _ _, fun t z e => (by cases e), fun t t' z z' _ e => (by cases e), fun t z e => (by cases e), a2, a3, a4, HLB.out.only a1 id, a8, ⟨HLO.out, by omega, by omega, by omega⟩, HA3.out.thenF a1⟩
    have HI0 := Lib.hid hI0
    have HR0 : Hid (WR n dr 0 (StoreS.begun (Lay.words 2 n).toNat 0 1) (fun _ => .idle)) := Lib.hid (by
      have hw := (words_bd HMAY.out).1
      have hl : (StoreS.begun (Lay.words 2 n).toNat 0 1).ws.length = (Lay.words 2 n).toNat := begun_len _ _ _
      exact WR.first n6 (by rw [hl]; omega) (begun_first (by omega)) (begun_other _ _ _ (by omega)) (begun_other _ _ _ (by omega)))
    have HL0 : Hid (Like n (fun _ => .idle) (fun _ => none) (fun _ => false) (fun _ => false)) := Lib.hid ⟨fun _ _ => rfl, fun _ _ => rfl, fun _ _ => rfl⟩
    clear hI0 HC HLB HA3 HLO HY HSZ HLBE
    go_wp2_with fail
    go_loopw [14] (fun i wr => ∃ (k : Nat) (s : StoreS) (q : Nat → TS) (Q : Nat → Option WL) (Iv Sv : Nat → Bool), k ≤ dr + 400 ∧ i = .int .i64 k ∧ Hid (OW w ab sb sm rb lb onb inb stb n wr s Q Iv Sv) ∧ Hid (WR n dr k s q) ∧ Hid (Like n q Q Iv Sv)) (fun i _ => dr + 400 - (intOf i).toNat)
    case atStart => exact ⟨0, _, _, _, _, _, Nat.zero_le _, rfl, HI0, HR0, HL0⟩
    case round =>
      obtain ⟨k, s, q, Q, Iv, Sv, hk, rfl, HI, HR, HL⟩ := hrel
      clear HI0 HR0 HL0
      have hw6 : IntKind.i64.wrap ((dr : Int) + 400) = (dr : Int) + 400 := by rw [IntKind.wrap_i64]; omega
      by_cases c1 : k < dr + 400
      · have hwk : IntKind.i64.wrap ((k : Int) + 1) = (k : Int) + 1 := by rw [IntKind.wrap_i64]; omega
        have hn0 : ¬ (n : Int) = 0 := by omega
        have g1 : (k : Int) < (dr : Int) + 400 := by omega
        obtain ⟨t0, ht0⟩ : ∃ t0, k % n = t0 := ⟨_, rfl⟩
        have tq : Int.tmod (k : Int) (n : Int) = (t0 : Int) := by rw [← ht0, Int.tmod_eq_emod_of_nonneg (by omega)]; omega
        have tq2 : (k : Int) % (n : Int) = (t0 : Int) := by rw [← ht0]; omega
        have htn : t0 < n := by rw [← ht0]; exact Nat.mod_lt _ n1
        have tw : IntKind.i64.wrap (t0 : Int) = (t0 : Int) := by rw [IntKind.wrap_i64]; omega
        go_upto_if 56 with fail
        go_cut [15, 16] (fun y z wd => Hid (OW w ab sb sm rb lb onb inb stb n wd s Q Iv Sv) ∧ ∃ (t : Nat) (x : Int), t < n ∧ y = .int .i64 (t : Int) ∧ z = .int .i64 x ∧ (0 ≤ x ∧ x < 256) ∧ (dr ≤ k → t = k % n))
        case first => as_aux_lemma =>
          by_cases c2 : k < dr
          · have c4 : k < len0 := by omega
            obtain ⟨b, off, rfl, hb, hc, hcw⟩ := rows_at HZ.out c4
            obtain ⟨x, hx⟩ : ∃ x, x = zs0.getD k 0 := ⟨_, rfl⟩
            rw [← hx] at hc hcw
            have hxb := bd_u8 hcw
            have d0 : wr.cell? ⟨b, off + k, none⟩ = some (.int .u8 x) := (HI.out.adds.cellF (p := ⟨b, off + k, none⟩) hb id).trans hc
            have ex : IntKind.i64.wrap x = x := by rw [IntKind.wrap_i64]; omega
            obtain ⟨t1, ht1, hwho⟩ := who_at HV.out k n ⟨n1, by omega⟩ (by omega)
            have HWHO := Lib.hid (fun W (h : Adds w W) => hwho W h)
            have gg : (k : Int) < (dr : Int) := by omega
            have gg2 : (k : Int) < (len0 : Int) := by omega
            have hA := HI.out.adds
            clear hx hc hcw hb tq tq2 tw hwho
            go_wp2_with fail
            go_region_held3 (fun W => W.cell? ⟨b, off + k, none⟩ = some (.int .u8 x) ∧ Adds wr W)
              (first | assumption | (exact ⟨d0, (Only.refl _ _).drew⟩))
              (first | (go_at_call 5; refine (HWHO.out _ (HI.out.adds.thenF (And.right (by assumption)))).mono ?_; rintro e u1 ⟨rfl, rfl⟩))
            rename_i hH
            go_wp2_with fail
            go_meet
            exact ⟨Lib.hid (HI.out.add hH.2), t1, x, by omega, rfl, rfl, hxb, fun h => by omega⟩
          · have gg : ¬ (k : Int) < (dr : Int) := by omega
            go_wp2_with fail
            go_meet
            exact ⟨HI, t0, 0, htn, rfl, rfl, by omega, fun _ => ht0.symm⟩
        case rest => as_aux_lemma =>
          obtain ⟨HI1, t, x, ht, rfl, rfl, hx, htk⟩ := hcut
          clear tq tq2 tw htn ht0 HI
          obtain ⟨o1, -, v1, -, v2, -⟩ := HI1.out.cells ht
          have g3 : (0 : Int) ≤ (t : Int) := by omega
          have g4 : (t : Int) < n := by omega
          have HTK := Lib.hid htk
          have hon := HL.out.on t ht; have hin := HL.out.inn t ht; have hst := HL.out.stop t ht
          have l0 : wc.cell? ⟨lb, 0, none⟩ = some (.int .i64 2) := HI1.out.lay.cell 0
          have l1 : wc.cell? ⟨lb, 1, none⟩ = some (.int .i64 n) := HI1.out.lay.cell 1
          obtain ⟨X, hX⟩ : ∃ X, q t = X := ⟨_, rfl⟩
          rw [hX] at hon hin hst
          have HX := Lib.hid hX
          clear htk hX
          have htd : decide (0 ≤ (t : Int) ∧ (t : Int) < (n : Int)) = true := by simp; omega
          by_cases cs : X = .idle ∧ dr ≤ k
          · obtain ⟨rfl, cs⟩ := cs
            have hQ : Q t = none := by
              rcases h : Q t with _ | z
              · rfl
              · rw [h] at hon; cases hon
            rw [hQ] at o1
            rw [hin] at v1
            rw [hst] at v2
            replace o1 : wc.cell? ⟨onb, t, none⟩ = some (.pointer none) := o1
            replace v1 : wc.cell? ⟨inb, t, none⟩ = some (.bool false) := v1
            replace v2 : wc.cell? ⟨stb, t, none⟩ = some (.bool false) := v2
            have gg : ¬ (k : Int) < (dr : Int) := by omega
            have gg2 : (dr : Int) ≤ (k : Int) := by omega
            clear hon hin hst hQ l0 l1
            go_wp2_with fail
            go_roundw
            case rel => exact ⟨k + 1, s, q, Q, Iv, Sv, by omega, by go_num, HI1, Lib.hid (HR.out.skip n6 HTK.out HX.out), HL⟩
            case measure => simp [intOf]; omega
          · have HNI := Lib.hid cs
            obtain ⟨qa, hqa⟩ : ∃ qa : Option Addr, ptrV ((Q t).map WL.m) = .pointer qa := ⟨_, rfl⟩
            rw [hqa] at o1
            have hq := fun W => machP_none W qa
            clear cs
            go_upto_if 70 with fail
            go_cut [15] (fun y wd => y = .int .i64 (t : Int) ∧ ∃ (q' : Nat → TS) (Q' : Nat → Option WL) (z : WL), Hid (OW w ab sb sm rb lb onb inb stb n wd s Q' Iv Sv) ∧ Hid (Q' t = some z ∧ z.k = (q' t).mk t ∧ q' t ≠ .idle) ∧ Hid (WR n dr k s q') ∧ Hid (LikeB n t q' Q' Iv Sv))
            case first => as_aux_lemma =>
              have HLT : Hid (∀ j y, Q j = some y → y.p < wc.heap.size) := Lib.hid (fun j y e => by
                obtain ⟨c, u, hb, _⟩ := (wdO 2 n).blk (HI1.out.mach j y e).2
                exact hb.lt)
              have HWS := Lib.hid HI1.out.adds.size
              rcases on_cases t X with ⟨e1, e2, -, -⟩ | ⟨rfl, e1⟩ | ⟨rfl, e1⟩ | ⟨rfl, e1⟩
              · rw [e1] at hon
                obtain ⟨z, hz, hzk⟩ : ∃ z, Q t = some z ∧ z.k = X.mk t := by
                  rcases h : Q t with _ | z
                  · rw [h] at hon; cases hon
                  · rw [h] at hon; exact ⟨z, rfl, by injection hon⟩
                rw [hz] at hqa
                obtain rfl : qa = some ⟨z.m, 0, none⟩ := by simpa [ptrV] using hqa.symm
                have HZ1 := Lib.hid (And.intro hz (And.intro hzk e2))
                clear hon hin hst hz hzk e1 e2 v1 v2 l0 l1 hqa
                go_wp2_with fail
                go_meet
                exact ⟨rfl, q, Q, z, HI1, Lib.hid ⟨HZ1.out.1, by rw [HX.out]; exact HZ1.out.2.1, by rw [HX.out]; exact HZ1.out.2.2⟩, HR, Lib.hid HL.out.but⟩
              · have hQ : Q t = none := by
                  rcases h : Q t with _ | z
                  · rfl
                  · rw [h, e1] at hon; cases hon
                rw [hQ] at hqa
                obtain rfl : qa = none := by simpa [ptrV] using hqa.symm
                rw [hin] at v1
                replace v1 : wc.cell? ⟨inb, t, none⟩ = some (.bool true) := v1
                clear hon hin hst hQ hqa e1 v2
                go_wp2_with (go_at_call 6; refine (madeExit_any HMAY.out htd _).mono ?_; rintro e u1 ⟨m, p, b, rfl, hmm, hma, hmo, hml, hmp⟩; have HI2 := Lib.hid (HI1.out.add hmo); obtain ⟨r1, r2, -⟩ := HI2.out.cells ht; have HM := Lib.hid (And.intro hmm (And.intro hma hmp)); clear hmm hma hmo hml hmp)
                go_meet
                exact ⟨rfl, q, _, ⟨m, p, b, .exit⟩, Lib.hid (HI2.out.begin (t := t) (z := ⟨m, p, b, .exit⟩) (w0 := wc) HLT.out HWS.out HM.out.1 HM.out.2.1 HM.out.2.2), Lib.hid ⟨upd_at _ _ _, by rw [HX.out]; rfl, by rw [HX.out]; simp⟩, HR, Lib.hid (HL.out.but.turn _)⟩
              · have hQ : Q t = none := by
                  rcases h : Q t with _ | z
                  · rfl
                  · rw [h, e1] at hon; cases hon
                rw [hQ] at hqa
                obtain rfl : qa = none := by simpa [ptrV] using hqa.symm
                rw [hin] at v1
                rw [hst] at v2
                replace v1 : wc.cell? ⟨inb, t, none⟩ = some (.bool false) := v1
                replace v2 : wc.cell? ⟨stb, t, none⟩ = some (.bool true) := v2
                clear hon hin hst hQ hqa e1
                go_wp2_with (go_at_call 6; refine (madeGo_any HMAY.out htd _).mono ?_; rintro e u1 ⟨m, p, b, rfl, hmm, hma, hmo, hml, hmp⟩; have HI2 := Lib.hid (HI1.out.add hmo); obtain ⟨r1, r2, -⟩ := HI2.out.cells ht; have HM := Lib.hid (And.intro hmm (And.intro hma hmp)); clear hmm hma hmo hml hmp)
                go_meet
                exact ⟨rfl, q, _, ⟨m, p, b, .go⟩, Lib.hid (HI2.out.begin (t := t) (z := ⟨m, p, b, .go⟩) (w0 := wc) HLT.out HWS.out HM.out.1 HM.out.2.1 HM.out.2.2), Lib.hid ⟨upd_at _ _ _, by rw [HX.out]; rfl, by rw [HX.out]; simp⟩, HR, Lib.hid (HL.out.but.turn _)⟩
              · have hQ : Q t = none := by
                  rcases h : Q t with _ | z
                  · rfl
                  · rw [h, e1] at hon; cases hon
                rw [hQ] at hqa
                obtain rfl : qa = none := by simpa [ptrV] using hqa.symm
                rw [hin] at v1
                rw [hst] at v2
                replace v1 : wc.cell? ⟨inb, t, none⟩ = some (.bool false) := v1
                replace v2 : wc.cell? ⟨stb, t, none⟩ = some (.bool false) := v2
                have kd : k < dr := by have := HNI.out; simp at this; omega
                have gg : ¬ (dr : Int) ≤ (k : Int) := by omega
                have x5 : Int.tmod x 5 = x % 5 := Int.tmod_eq_emod_of_nonneg hx.1
                have xw : IntKind.i64.wrap (x % 5) = x % 5 := by rw [IntKind.wrap_i64]; omega
                clear hon hin hst hQ hqa e1
                by_cases c5 : x % 5 = 0
                · have c6 : (x % 5 == 0) = true := by simpa using c5
                  go_wp2_with (go_at_call 6; refine (madeStop_any HMAY.out htd _).mono ?_; rintro e u1 ⟨m, p, b, rfl, hmm, hma, hmo, hml, hmp⟩; have HI2 := Lib.hid (HI1.out.add hmo); obtain ⟨r1, r2, -⟩ := HI2.out.cells ht; have HM := Lib.hid (And.intro hmm (And.intro hma hmp)); clear hmm hma hmo hml hmp)
                  go_meet
                  exact ⟨rfl, upd q t .try_, _, ⟨m, p, b, .stop (.try_ t)⟩, Lib.hid (HI2.out.begin (t := t) (z := ⟨m, p, b, .stop (.try_ t)⟩) (w0 := wc) HLT.out HWS.out HM.out.1 HM.out.2.1 HM.out.2.2), Lib.hid ⟨upd_at _ _ _, by rw [upd_at]; rfl, by rw [upd_at]; simp⟩, Lib.hid (HR.out.begin n6 ht kd HX.out (.inr rfl)), Lib.hid ((HL.out.but.turn _).begin HX.out (.inr rfl))⟩
                · have c6 : (x % 5 == 0) = false := by simpa using c5
                  go_wp2_with (go_at_call 6; refine (madeEnter_any HMAY.out htd _).mono ?_; rintro e u1 ⟨m, p, b, rfl, hmm, hma, hmo, hml, hmp⟩; have HI2 := Lib.hid (HI1.out.add hmo); obtain ⟨r1, r2, -⟩ := HI2.out.cells ht; have HM := Lib.hid (And.intro hmm (And.intro hma hmp)); clear hmm hma hmo hml hmp)
                  go_meet
                  exact ⟨rfl, upd q t .beg, _, ⟨m, p, b, .enter .begin⟩, Lib.hid (HI2.out.begin (t := t) (z := ⟨m, p, b, .enter .begin⟩) (w0 := wc) HLT.out HWS.out HM.out.1 HM.out.2.1 HM.out.2.2), Lib.hid ⟨upd_at _ _ _, by rw [upd_at]; rfl, by rw [upd_at]; simp⟩, Lib.hid (HR.out.begin n6 ht kd HX.out (.inl rfl)), Lib.hid ((HL.out.but.turn _).begin HX.out (.inl rfl))⟩
            case rest => as_aux_lemma =>
              obtain ⟨rfl, q', Q', z, HI2, HQ, HR2, HL2⟩ := hcut
              clear HI1 HR HL HNI HX hon hin hst o1 v1 v2 l0 l1 hq hqa
              obtain ⟨o1, -, v1, -, v2, -⟩ := HI2.out.cells ht
              rw [HQ.out.1] at o1
              replace o1 : wc.cell? ⟨onb, t, none⟩ = some (.pointer (some ⟨z.m, 0, none⟩)) := o1
              have hpick := HR2.out.step n6 ht HTK.out HQ.out.2.2
              have hfits := mk_fits n6 ht (q' t)
              rw [← HQ.out.2.1] at hpick hfits
              obtain ⟨y, HR3, HNO, HYES⟩ : ∃ y, Hid (WR n dr (k + 1) (z.k.ac.act s) (upd q' t y)) ∧ Hid ((z.k.nx s).got = false → y.on t = some (z.k.nx s) ∧ y.isInn = (q' t).isInn ∧ y.isStop = (q' t).isStop) ∧ Hid ((z.k.nx s).got = true → y.on t = none ∧ y.isInn = decide (z.k.sort = 0) ∧ y.isStop = decide (z.k.sort = 2) ∧ (z.k.sort = 0 ∨ z.k.sort = 2 → (z.k.nx s).gen = 1)) := by
                obtain ⟨y, h1, h2, h3⟩ := hpick
                exact ⟨y, Lib.hid h1, Lib.hid h2, Lib.hid h3⟩
              obtain ⟨ka, hka⟩ : ∃ v, (z.k.ac.act s).k = v := ⟨_, rfl⟩
              obtain ⟨kp, hkp⟩ : ∃ v, (z.k.ac.act s).pos = v := ⟨_, rfl⟩
              obtain ⟨ko, hko⟩ : ∃ v, (z.k.ac.act s).old = v := ⟨_, rfl⟩
              obtain ⟨kn, hkn⟩ : ∃ v, (z.k.ac.act s).new = v := ⟨_, rfl⟩
              obtain ⟨dn, hdn⟩ : ∃ v, (z.k.nx s).got = v := ⟨_, rfl⟩
              obtain ⟨gn, hgn⟩ : ∃ v, (z.k.nx s).gen = v := ⟨_, rfl⟩
              have HGN := Lib.hid hgn; have HDN := Lib.hid hdn
              have hw0 : s.word 0 = 1 := HR2.out.w0
              have HDO : Hid (∀ W, Adds wc W → Calls Try.prog 7 #[.pointer (some ⟨z.m, 0, none⟩), .pointer (some ⟨ab, 0, none⟩)] W fun e w' => e = .returned (.tuple #[.agg #[.int .i64 ka, .int .i64 kp, .int .u64 ko, .int .u64 kn], .bool dn, .int .i64 gn]) ∧ Hid (OW w ab sb sm rb lb onb inb stb n w' (z.k.ac.act s) (upd Q' t (some { z with k := z.k.nx s })) Iv Sv)) := Lib.hid (fun W hA => by
                have hI := HI2.out.add hA
                obtain ⟨m1, m2⟩ := hI.mach t z HQ.out.1
                refine (do_any m1 m2 hI.yard (hI.inR HMAY.out) (by omega) hfits.1 hfits.2).mono (fun e w' q => ?_)
                obtain ⟨q1, q2, q3, q4⟩ := q
                refine ⟨?_, Lib.hid (hI.step HQ.out.1 (WdS.nx_sort s z.k) q2 q3 (Ac.act_len _ _) HMAY.out q4)⟩
                rw [q1, hdn, hgn]; unfold didV; rw [hka, hkp, hko, hkn])
              clear hpick hfits hka hkp hko hkn hdn hgn hw0 HR2
              go_upto_if 126 with (go_at_call 7; refine (HDO.out _ (Only.refl _ _)).mono ?_; rintro e u1 ⟨rfl, HV1⟩; have HI3 := Lib.hid (HV1.out.add ((Only.refl (fun _ => False) u1).alloc (.cells #[.int .i64 ka, .int .i64 kp, .int .u64 ko, .int .u64 kn] 37))))
              clear o1 v1 v2 HI2 HDO
              go_cut [] (fun wd => ∃ (q3 : Nat → TS) (Q3 : Nat → Option WL) (Iv3 Sv3 : Nat → Bool) (s3 : StoreS), Hid (OW w ab sb sm rb lb onb inb stb n wd s3 Q3 Iv3 Sv3) ∧ Hid (WR n dr (k + 1) s3 q3) ∧ Hid (Like n q3 Q3 Iv3 Sv3))
              case first => as_aux_lemma =>
                cases dn with
                | false =>
                  go_wp2_with fail
                  go_meet
                  obtain ⟨y1, y2, y3⟩ := HNO.out HDN.out
                  exact ⟨_, _, _, _, _, HI3, HR3, Lib.hid (HL2.out.on_ (z := { z with k := z.k.nx s }) y1 y2 y3)⟩
                | true =>
                  obtain ⟨y1, y2, y3, y4⟩ := HYES.out HDN.out
                  obtain ⟨W3, hW3⟩ : ∃ W, u1.alloc (.cells #[.int .i64 ka, .int .i64 kp, .int .u64 ko, .int .u64 kn] 37) = W := ⟨_, rfl⟩
                  rw [hW3] at HI3 ⊢
                  obtain ⟨r1, r2, -⟩ := HI3.out.cells ht
                  rw [upd_at] at r1
                  replace r1 : W3.cell? ⟨onb, t, none⟩ = some (.pointer (some ⟨z.m, 0, none⟩)) := r1
                  have hmm := (HI3.out.mach t _ (upd_at _ _ _)).1
                  have nom : ¬ onb = z.m := fun e => by have h1 := HI3.out.orow; rw [e] at h1; have := (h1.uniq hmm).2; revert this; decide
                  have hI4 := HI3.out.drop (t := t)
                  rw [upd_upd] at hI4
                  obtain ⟨so, hso⟩ : ∃ so, z.k.sort = so := ⟨_, rfl⟩
                  have hso2 : (z.k.nx s).sort = so := (WdS.nx_sort s z.k).trans hso
                  have hm4 := hmm.setCell_other (Ne.symm nom) t (.pointer none)
                  rw [hso2] at hm4
                  rw [hso] at y2 y3 y4
                  obtain ⟨W4, hW4⟩ : ∃ W, W3.setCell ⟨onb, t, none⟩ (.pointer none) = W := ⟨_, rfl⟩
                  rw [hW4] at hI4 hm4
                  have HI4 := Lib.hid hI4
                  obtain ⟨-, -, s1, s2, s3, s4⟩ := hI4.cells ht
                  obtain ⟨e0, he0⟩ : ∃ e : Option Addr, ptrV (if so = 0 then some z.p else none) = .pointer e := ⟨_, rfl⟩
                  obtain ⟨e2, he2⟩ : ∃ e : Option Addr, ptrV (if so = 2 then some z.p else none) = .pointer e := ⟨_, rfl⟩
                  have p0 : W4.cell? ⟨z.m, 0, none⟩ = some (.pointer e0) := by rw [← he0]; exact hm4.cell 0
                  have p2 : W4.cell? ⟨z.m, 2, none⟩ = some (.pointer e2) := by rw [← he2]; exact hm4.cell 2
                  have hA0 : e0.isSome = decide (so = 0) := by
                    by_cases c : so = 0
                    · rw [if_pos c] at he0; simp only [ptrV, Option.map_some, Value.pointer.injEq] at he0; rw [← he0]; simp [c]
                    · rw [if_neg c] at he0; simp only [ptrV, Option.map_none, Value.pointer.injEq] at he0; rw [← he0]; simp [c]
                  have hA2 : e2.isSome = decide (so = 2) := by
                    by_cases c : so = 2
                    · rw [if_pos c] at he2; simp only [ptrV, Option.map_some, Value.pointer.injEq] at he2; rw [← he2]; simp [c]
                    · rw [if_neg c] at he2; simp only [ptrV, Option.map_none, Value.pointer.injEq] at he2; rw [← he2]; simp [c]
                  obtain ⟨A, hA⟩ : ∃ A, decide (so = 0) = A := ⟨_, rfl⟩
                  obtain ⟨B, hB⟩ : ∃ B, decide (so = 2) = B := ⟨_, rfl⟩
                  have hg1 : A = true ∨ B = true → gn = 1 := fun h => by
                    rw [← HGN.out]
                    refine y4 (h.imp (fun e => ?_) (fun e => ?_))
                    · rw [← hA] at e; exact of_decide_eq_true e
                    · rw [← hB] at e; exact of_decide_eq_true e
                  rw [hA] at hA0 y2
                  rw [hB] at hA2 y3
                  have hq0 := fun W => enterP_some W e0
                  have hq2 := fun W => stopP_some W e2
                  rw [hA0] at hq0
                  rw [hA2] at hq2
                  have HL3 := Lib.hid (HL2.out.done y1 y2 y3)
                  have HI5 := Lib.hid (hI4.said (t := t) A B)
                  have nis : ¬ inb = stb := HI4.out.nis
                  have nim : ¬ inb = z.m := fun e => by have h1 := HI4.out.irow; rw [e] at h1; have := (h1.uniq hm4).2; revert this; decide
                  have nsm : ¬ stb = z.m := fun e => by have h1 := HI4.out.srow; rw [e] at h1; have := (h1.uniq hm4).2; revert this; decide
                  clear hm4 hI4 hmm nom hW3 he0 he2 hso hso2 hA hB y1 y2 y3 y4 hA0 hA2 HYES HNO HDN HGN HI3 HL2
                  go_upto_region 29 with fail
                  clear hW4 r1 r2
                  -- R29
                  refine wp_region_held_drew (S := (fun V => V.cell? ⟨z.m, 0, none⟩ = some (.pointer e0) ∧ V.cell? ⟨z.m, 2, none⟩ = some (.pointer e2))) (by kernel_rfl) ⟨p0, p2⟩ (fun hHeld => ?_)
                  refine wpAnyH_take (i := 0) (v := (.slice (some ⟨inb, 0, none⟩) n n)) rfl (by kernel_rfl) (by kernel_rfl) (by kernel_rfl) (fun _ _ _ h => h) (Or.inl ⟨by rfl, fun W hS => by first | rfl | (go_simp; done)⟩) hHeld ?_
                  try simp only [Act.put, List.getElem_toArray, List.getElem_cons_succ, List.getElem_cons_zero, List.setIfInBounds_toArray, List.set_cons_zero, List.set_cons_succ]
                  refine wpAnyH_take (i := 1) (v := (.int .i64 (t : Int))) rfl (by kernel_rfl) (by kernel_rfl) (by kernel_rfl) (fun _ _ _ h => h) (Or.inl ⟨by rfl, fun W hS => by first | rfl | (go_simp; done)⟩) hHeld ?_
                  try simp only [Act.put, List.getElem_toArray, List.getElem_cons_succ, List.getElem_cons_zero, List.setIfInBounds_toArray, List.set_cons_zero, List.set_cons_succ]
                  refine wpAnyH_take (i := 2) (v := (.slice (some ⟨stb, 0, none⟩) n n)) rfl (by kernel_rfl) (by kernel_rfl) (by kernel_rfl) (fun _ _ _ h => h) (Or.inl ⟨by rfl, fun W hS => by first | rfl | (go_simp; done)⟩) hHeld ?_
                  try simp only [Act.put, List.getElem_toArray, List.getElem_cons_succ, List.getElem_cons_zero, List.setIfInBounds_toArray, List.set_cons_zero, List.set_cons_succ]
                  refine wpAnyH_take (i := 3) (v := (.int .i64 (t : Int))) rfl (by kernel_rfl) (by kernel_rfl) (by kernel_rfl) (fun _ _ _ h => h) (Or.inl ⟨by rfl, fun W hS => by first | rfl | (go_simp; done)⟩) hHeld ?_
                  try simp only [Act.put, List.getElem_toArray, List.getElem_cons_succ, List.getElem_cons_zero, List.setIfInBounds_toArray, List.set_cons_zero, List.set_cons_succ]
                  refine wpAnyH_take (i := 4) (v := (.pointer (some ⟨z.m, 0, none⟩))) rfl (by kernel_rfl) (by kernel_rfl) (by kernel_rfl) (fun _ _ _ h => h) (Or.inl ⟨by rfl, fun W hS => by first | rfl | (go_simp; done)⟩) hHeld ?_
                  try simp only [Act.put, List.getElem_toArray, List.getElem_cons_succ, List.getElem_cons_zero, List.setIfInBounds_toArray, List.set_cons_zero, List.set_cons_succ]
                  refine wpAnyH_take (i := 5) (v := (.pointer (some ⟨z.m, 0, none⟩))) rfl (by kernel_rfl) (by kernel_rfl) (by kernel_rfl) (fun _ _ _ h => h) (Or.inl ⟨by rfl, fun W hS => by first | rfl | (go_simp; done)⟩) hHeld ?_
                  try simp only [Act.put, List.getElem_toArray, List.getElem_cons_succ, List.getElem_cons_zero, List.setIfInBounds_toArray, List.set_cons_zero, List.set_cons_succ]
                  refine wpAnyH_take (i := 6) (v := (.pointer (some ⟨z.m, 0, none⟩))) rfl (by kernel_rfl) (by kernel_rfl) (by kernel_rfl) (fun _ _ _ h => h) (Or.inl ⟨by rfl, fun W hS => by first | rfl | (go_simp; done)⟩) hHeld ?_
                  try simp only [Act.put, List.getElem_toArray, List.getElem_cons_succ, List.getElem_cons_zero, List.setIfInBounds_toArray, List.set_cons_zero, List.set_cons_succ]
                  refine wpAnyH_take (i := 7) (v := (.pointer e0)) rfl (by kernel_rfl) (by kernel_rfl) (by kernel_rfl) (fun _ _ _ h => h) (Or.inl ⟨by rfl, fun W hS => by (obtain ⟨q1, q2⟩ := hS; go_simp; done)⟩) hHeld ?_
                  try simp only [Act.put, List.getElem_toArray, List.getElem_cons_succ, List.getElem_cons_zero, List.setIfInBounds_toArray, List.set_cons_zero, List.set_cons_succ]
                  refine wpAnyH_take (i := 8) (v := (.bool A)) rfl (by kernel_rfl) (by kernel_rfl) (by kernel_rfl) (fun _ _ _ h => h) (Or.inl ⟨by rfl, fun W hS => by first | rfl | (go_simp; done) | (simp [go_sem, hq0])⟩) hHeld ?_
                  try simp only [Act.put, List.getElem_toArray, List.getElem_cons_succ, List.getElem_cons_zero, List.setIfInBounds_toArray, List.set_cons_zero, List.set_cons_succ]
                  refine wpAnyH_take (i := 9) (v := (.pointer (some ⟨z.m, 0, none⟩))) rfl (by kernel_rfl) (by kernel_rfl) (by kernel_rfl) (fun _ _ _ h => h) (Or.inl ⟨by rfl, fun W hS => by first | rfl | (go_simp; done)⟩) hHeld ?_
                  try simp only [Act.put, List.getElem_toArray, List.getElem_cons_succ, List.getElem_cons_zero, List.setIfInBounds_toArray, List.set_cons_zero, List.set_cons_succ]
                  refine wpAnyH_take (i := 10) (v := (.pointer (some ⟨z.m, 0, none⟩))) rfl (by kernel_rfl) (by kernel_rfl) (by kernel_rfl) (fun _ _ _ h => h) (Or.inl ⟨by rfl, fun W hS => by first | rfl | (go_simp; done)⟩) hHeld ?_
                  try simp only [Act.put, List.getElem_toArray, List.getElem_cons_succ, List.getElem_cons_zero, List.setIfInBounds_toArray, List.set_cons_zero, List.set_cons_succ]
                  refine wpAnyH_take (i := 11) (v := (.pointer (some ⟨z.m, 2, none⟩))) rfl (by kernel_rfl) (by kernel_rfl) (by kernel_rfl) (fun _ _ _ h => h) (Or.inl ⟨by rfl, fun W hS => by first | rfl | (go_simp; done)⟩) hHeld ?_
                  try simp only [Act.put, List.getElem_toArray, List.getElem_cons_succ, List.getElem_cons_zero, List.setIfInBounds_toArray, List.set_cons_zero, List.set_cons_succ]
                  refine wpAnyH_take (i := 12) (v := (.pointer e2)) rfl (by kernel_rfl) (by kernel_rfl) (by kernel_rfl) (fun _ _ _ h => h) (Or.inl ⟨by rfl, fun W hS => by (obtain ⟨q1, q2⟩ := hS; go_simp; done)⟩) hHeld ?_
                  try simp only [Act.put, List.getElem_toArray, List.getElem_cons_succ, List.getElem_cons_zero, List.setIfInBounds_toArray, List.set_cons_zero, List.set_cons_succ]
                  refine wpAnyH_take (i := 13) (v := (.bool B)) rfl (by kernel_rfl) (by kernel_rfl) (by kernel_rfl) (fun _ _ _ h => h) (Or.inl ⟨by rfl, fun W hS => by first | rfl | (go_simp; done) | (simp [go_sem, hq2])⟩) hHeld ?_
                  try simp only [Act.put, List.getElem_toArray, List.getElem_cons_succ, List.getElem_cons_zero, List.setIfInBounds_toArray, List.set_cons_zero, List.set_cons_succ]
                  refine wpAnyH_take (i := 14) (v := (.pointer (some ⟨inb, t, none⟩))) rfl (by kernel_rfl) (by kernel_rfl) (by kernel_rfl) (fun _ _ _ h => h) (Or.inl ⟨by rfl, fun W hS => by first | rfl | (go_simp; done)⟩) hHeld ?_
                  try simp only [Act.put, List.getElem_toArray, List.getElem_cons_succ, List.getElem_cons_zero, List.setIfInBounds_toArray, List.set_cons_zero, List.set_cons_succ]
                  obtain ⟨h1, h2⟩ := hHeld
                  refine wpAnyH_ready (rs := [15]) (by kernel_rfl) (by simp) (AllReadyH.cons rfl (fun K hK => ?_) AllReadyH.nil)
                  simp only [List.getElem_toArray, List.getElem_cons_succ, List.getElem_cons_zero]
                  go_simp
                  refine hK.out _ _ ⟨(World.cell?_setCell_far _ _ _ _ nim).trans h1, (World.cell?_setCell_far _ _ _ _ nim).trans h2⟩ (fun hHeld => ?_)
                  clear hK
                  try simp only [Act.put, List.getElem_toArray, List.getElem_cons_succ, List.getElem_cons_zero, List.setIfInBounds_toArray, List.set_cons_zero, List.set_cons_succ]
                  refine wpAnyH_take (i := 16) (v := (.pointer (some ⟨stb, t, none⟩))) rfl (by kernel_rfl) (by kernel_rfl) (by kernel_rfl) (fun _ _ _ h => h) (Or.inl ⟨by rfl, fun W hS => by first | rfl | (go_simp; done)⟩) hHeld ?_
                  try simp only [Act.put, List.getElem_toArray, List.getElem_cons_succ, List.getElem_cons_zero, List.setIfInBounds_toArray, List.set_cons_zero, List.set_cons_succ]
                  obtain ⟨h1, h2⟩ := hHeld
                  refine wpAnyH_ready (rs := [17]) (by kernel_rfl) (by simp) (AllReadyH.cons rfl (fun K hK => ?_) AllReadyH.nil)
                  simp only [List.getElem_toArray, List.getElem_cons_succ, List.getElem_cons_zero]
                  go_simp
                  refine hK.out _ _ ⟨(World.cell?_setCell_far _ _ _ _ nsm).trans h1, (World.cell?_setCell_far _ _ _ _ nsm).trans h2⟩ (fun hHeld => ?_)
                  clear hK
                  try simp only [Act.put, List.getElem_toArray, List.getElem_cons_succ, List.getElem_cons_zero, List.setIfInBounds_toArray, List.set_cons_zero, List.set_cons_succ]
                  refine wpAnyH_done (by kernel_rfl) ?_ _
                  -- R29 END
                  have t1 := (HI5.out.cells ht).2.2.1
                  have t2 := (HI5.out.cells ht).2.2.2.2.1
                  rw [upd_at] at t1 t2
                  cases A <;> cases B
                  all_goals
                    first
                      | (have hgn : gn = 1 := hg1 (Or.inl rfl); subst hgn)
                      | (have hgn : gn = 1 := hg1 (Or.inr rfl); subst hgn)
                      | skip
                    go_wp2_with fail
                    go_meet
                    exact ⟨_, _, _, _, _, Lib.hid (HI5.out.add ((Only.refl (fun _ => False) _).drew)), HR3, HL3⟩
              case rest => as_aux_lemma =>
                obtain ⟨q3, Q3, Iv3, Sv3, s3, HI5, HR5, HL5⟩ := hcut
                clear HI3 HR3 HNO HYES HDN HGN HL2 HQ
                obtain ⟨n1', n2'⟩ := HL5.out.counts HR5.out
                have HCN := Lib.hid (And.intro n1' n2')
                clear n1' n2'
                go_wp2_with fail
                go_loopw [21, 22, 23] (fun a b j wx => ∃ m : Nat, m ≤ n ∧ a = .int .i64 (many Iv3 m : Nat) ∧ b = .int .i64 (many Sv3 m : Nat) ∧ j = .int .i64 m ∧ Hid (OW w ab sb sm rb lb onb inb stb n wx s3 Q3 Iv3 Sv3)) (fun _ _ j _ => n - (intOf j).toNat)
                case atStart => exact ⟨0, by omega, rfl, rfl, rfl, HI5⟩
                case round =>
                  obtain ⟨m, hm, rfl, rfl, rfl, HI6⟩ := hrel
                  clear HI5
                  have hwm : IntKind.i64.wrap ((m : Int) + 1) = (m : Int) + 1 := by rw [IntKind.wrap_i64]; omega
                  have l1 := many_le Iv3 m; have l2 := many_le Sv3 m
                  obtain ⟨x1, hx1⟩ : ∃ x, many Iv3 m = x := ⟨_, rfl⟩
                  obtain ⟨x2, hx2⟩ : ∃ x, many Sv3 m = x := ⟨_, rfl⟩
                  rw [hx1] at l1 ⊢
                  rw [hx2] at l2 ⊢
                  have hw1 : IntKind.i64.wrap ((x1 : Int) + 1) = (x1 : Int) + 1 := by rw [IntKind.wrap_i64]; omega
                  have hw2 : IntKind.i64.wrap ((x2 : Int) + 1) = (x2 : Int) + 1 := by rw [IntKind.wrap_i64]; omega
                  by_cases c7 : m < n
                  · obtain ⟨-, -, v1, -, v2, -⟩ := HI6.out.cells c7
                    have g5 : (m : Int) < (n : Int) := by omega
                    have g6 : (0 : Int) ≤ (m : Int) := by omega
                    have k1 := many_succ Iv3 m; have k2 := many_succ Sv3 m
                    rw [hx1] at k1
                    rw [hx2] at k2
                    obtain ⟨A, hA⟩ : ∃ A, Iv3 m = A := ⟨_, rfl⟩
                    obtain ⟨B, hB⟩ : ∃ B, Sv3 m = B := ⟨_, rfl⟩
                    rw [hA] at v1 k1
                    rw [hB] at v2 k2
                    have K1 := Lib.hid k1; have K2 := Lib.hid k2
                    clear k1 k2 hx1 hx2 hA hB
                    cases A <;> cases B
                    all_goals
                      go_wp2_with fail
                      go_roundw
                      case rel =>
                        refine ⟨m + 1, by omega, ?_, ?_, by go_num, HI6⟩
                        · rw [K1.out]; go_num
                        · rw [K2.out]; go_num
                      case measure => simp [intOf]; omega
                  · obtain rfl : m = n := by omega
                    have g5 : ¬ (m : Int) < (m : Int) := by omega
                    obtain ⟨c8, c9⟩ := HCN.out
                    rw [hx2] at c8 c9
                    rw [hx1] at c9
                    clear hx1 hx2
                    have c10 : (x2 = 0) ∨ (x2 = 1 ∧ x1 = 0) := by omega
                    rcases c10 with rfl | ⟨rfl, rfl⟩
                    all_goals
                      go_wp2_with fail
                      go_roundw
                      case rel => exact ⟨k + 1, _, _, _, _, _, by omega, by go_num, HI6, HR5, HL5⟩
                      case measure => simp [intOf]; omega
      · have gg : ¬ (k : Int) < (dr : Int) + 400 := by omega
        obtain ⟨z1, z2, z3⟩ := HR.out.over n1 (by omega)
        have HZI := Lib.hid z1; have HW1 := Lib.hid z2; have HW4 := Lib.hid z3
        have hR : s.inR 4 ∧ s.inR 1 := by have := HI.out.inR HMAY.out; exact ⟨⟨by omega, by omega⟩, ⟨by omega, by omega⟩⟩
        have HRR := Lib.hid hR
        clear z1 z2 z3 hR
        go_wp2_with fail
        go_loopw [24] (fun j wx => ∃ m : Nat, m ≤ n ∧ j = .int .i64 m ∧ Hid (OW w ab sb sm rb lb onb inb stb n wx s Q Iv Sv)) (fun j _ => n - (intOf j).toNat)
        case atStart => exact ⟨0, by omega, rfl, HI⟩
        case round =>
          obtain ⟨m, hm, rfl, HI6⟩ := hrel
          clear HI
          have hwm : IntKind.i64.wrap ((m : Int) + 1) = (m : Int) + 1 := by rw [IntKind.wrap_i64]; omega
          by_cases c7 : m < n
          · obtain ⟨o1, -, v1, -, v2, -⟩ := HI6.out.cells c7
            have g5 : (m : Int) < (n : Int) := by omega
            have g6 : (0 : Int) ≤ (m : Int) := by omega
            have hq := HZI.out m c7
            have hon := HL.out.on m c7
            rw [hq] at hon
            have hQ : Q m = none := by
              rcases h : Q m with _ | z
              · rfl
              · rw [h] at hon; cases hon
            rw [hQ] at o1
            rw [HL.out.inn m c7, hq] at v1
            rw [HL.out.stop m c7, hq] at v2
            replace o1 : wr.cell? ⟨onb, m, none⟩ = some (.pointer none) := o1
            replace v1 : wr.cell? ⟨inb, m, none⟩ = some (.bool false) := v1
            replace v2 : wr.cell? ⟨stb, m, none⟩ = some (.bool false) := v2
            clear hq hon hQ
            go_wp2_with fail
            go_roundw
            case rel => exact ⟨m + 1, by omega, by go_num, HI6⟩
            case measure => simp [intOf]; omega
          · have g5 : ¬ (m : Int) < (n : Int) := by omega
            go_wp2_with (first
              | (go_at_call 8; with_reducible refine (playRead_any (i := 4) HI6.out.yard HRR.out.1).mono ?_; rintro e u1 ⟨rfl, ho1⟩; rw [HW4.out]; have HO1 := Lib.hid ho1; clear ho1)
              | (go_at_call 8; with_reducible refine (playRead_any (i := 1) (HI6.out.yard.adds HO1.out) HRR.out.2).mono ?_; rintro e u2 ⟨rfl, ho2⟩; rw [HW1.out]; have HO2 := Lib.hid (HO1.out.thenF ho2); clear ho2)
              | (go_at_call 9; refine (awake20_any _).mono ?_; rintro e u3 ⟨rfl, ho3⟩))
            go_ret
            exact ⟨rfl, ((HI6.out.adds.thenF HO2.out).thenF ho3).below (Nat.le_refl _) (fun _ _ h => h)⟩
end Go.Proofs.Ytbepbcjklgfmjaa

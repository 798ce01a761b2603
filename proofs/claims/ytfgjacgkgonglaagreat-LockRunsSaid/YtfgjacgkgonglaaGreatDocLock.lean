/- The document's take of the lock. By an AI agent. -/
import Derived.Test.YtfgjacgkgonglaaGreatDoc
import Derived.Test.YtfgjacgkgonglaaGreatDocBody
import Derived.Deep.LoopGhost
namespace Go.Proofs.YtfgjacgkgonglaaGreat
open Go.RowKit
section
variable {w : World} {mb bb sb sm rb fb : Nat} {P T t : Int} {s : StoreS} {x : MS} {lg mkv : Value}
/-- Behind the access. -/
def MS.after (x : MS) (c : Ac) (s : StoreS) : MS := { x.told (c.act s) with used := true, log := x.log ++ [s.word c.pos], at_ := x.log.length + 1 }
set_option maxRecDepth 100000 in
set_option maxHeartbeats 2000000 in
theorem mTake_wait (h : MM w mb bb sb sm rb fb P T s x lg mkv) (ha : x.at_ = 0) (hu : x.used = false) (hl : ∀ v ∈ x.log, v ≠ 0) (hf : x.log.length < 90000) (hi : s.inR 2) (ht : 0 ≤ t ∧ t < 4096) :
    Calls Tryz.prog 137 #[.pointer (some ⟨mb, 0, none⟩), .int .i64 t] w fun e w' => e = .returned (.bool (s.word 2 == 0)) ∧ Steps w w' mb bb sb sm rb fb P T ((Ac.cas 2 0 (t + 1)).act s) (x.after (.cas 2 0 (t + 1)) s) lg := by
  have e1 : IntKind.i64.wrap (t + 1) = t + 1 := by rw [IntKind.wrap_i64]; omega
  have e2 : IntKind.u64.wrap (t + 1) = t + 1 := by rw [IntKind.wrap_u64]; omega
  have e3 : (t + 1) % 18446744073709551616 = t + 1 := by omega
  have H := Lib.hid h
  have HL := Lib.hid hl
  have HI := Lib.hid hi
  obtain ⟨d, hd⟩ : ∃ d, d = (s.word 2 == 0) := ⟨_, rfl⟩
  have HD := Lib.hid hd
  rw [← hd]
  obtain ⟨n, hn⟩ : ∃ n, n = x.log.length := ⟨_, rfl⟩
  have HN := Lib.hid hn
  clear h hl hi hn hd
  go_enter Tryz.func137, Tryz.ntmps137
  go_wp2_with fail
  go_loopg [5, 6] (n + 1) (fun gg _ _ wr => ∃ (y : MS) (ss : StoreS) (lgr mkr : Value) (j : Nat), Hid (MM wr mb bb sb sm rb fb P T ss y lgr mkr ∧ Only (MT w mb lg sb sm) w wr ∧ Lg w lg lgr) ∧ n + 1 - j ≤ gg ∧ ((j ≤ n ∧ Hid (y = { x with at_ := j } ∧ ss = s)) ∨ (j = n + 1 ∧ Hid (s.word 2 ≠ 0 ∧ y = x.after (.cas 2 0 (t + 1)) s ∧ ss = (Ac.cas 2 0 (t + 1)).act s))))
  case atStart => exact ⟨x, s, lg, mkv, 0, Lib.hid ⟨H.out, Only.refl _ _, Lg.refl _ _⟩, by omega, .inl ⟨by omega, Lib.hid ⟨by rw [← ha], rfl⟩⟩⟩
  case round =>
    obtain ⟨y, ss, lgr, mkr, j, HR, hg, hcase⟩ := hrel
    obtain ⟨hj, HY⟩ | ⟨hj, HY⟩ := hcase
    · obtain ⟨rfl, rfl⟩ := HY.out
      by_cases hj2 : j < n
      · obtain ⟨v, hv⟩ : ∃ v, x.log[j]? = some v := ⟨_, List.getElem?_eq_getElem (by rw [← HN.out]; exact hj2)⟩
        have hv0 : v ≠ 0 := HL.out v (List.mem_of_getElem? hv)
        have hr : MS.acc { x with at_ := j } (.cas 2 0 (t + 1)) ss = (some v, { x with at_ := j + 1 }, ss) := acc_told hv
        have hcr : casR (some v) 0 = false := by simp [casR, hv0]
        have HRR := Lib.hid hr
        clear hr hv hv0
        go_wp2_with (go_at_call 187; with_reducible refine (mCas_any HR.out.1 HI.out (by show x.log.length < 100000; omega) (by omega) HRR.out).mono ?_; rintro e v1 ⟨rfl, lg1, hm1, ho1, hl1⟩; have HM1 := Lib.hid (And.intro hm1 (And.intro (MT.trans HR.out.2.1 HR.out.2.2 ho1) (Lg.trans HR.out.2.2 hl1 HR.out.2.1.size))); clear hm1 ho1 hl1)
        go_roundg (gk - 1)
        case measure => omega
        case rel => exact ⟨_, _, lg1, mkr, j + 1, HM1, by omega, .inl ⟨by omega, Lib.hid ⟨rfl, rfl⟩⟩⟩
      · obtain rfl : j = n := by omega
        have hnone : x.log[j]? = none := List.getElem?_eq_none (by rw [← HN.out]; exact Nat.le_refl _)
        have hr : MS.acc { x with at_ := j } (.cas 2 0 (t + 1)) ss = (some (ss.word 2), x.after (.cas 2 0 (t + 1)) ss, (Ac.cas 2 0 (t + 1)).act ss) := by
          rw [acc_now (x := { x with at_ := j }) hnone hu]
          simp only [MS.after, Ac.pos, MS.told, ← HN.out]
        have HRR := Lib.hid hr
        obtain ⟨wd, hwd⟩ : ∃ wd, wd = ss.word 2 := ⟨_, rfl⟩
        rw [← hwd] at HRR
        have HWD := Lib.hid hwd
        clear hr hnone hwd
        by_cases h0 : wd = 0
        · have hcr : casR (some wd) 0 = true := by simp [casR, h0]
          have HF : Hid (d = true) := Lib.hid (by rw [HD.out, ← HWD.out]; simp [h0])
          clear h0
          go_wp2_with (go_at_call 187; with_reducible refine (mCas_any HR.out.1 HI.out (by show x.log.length < 100000; omega) (by omega) HRR.out).mono ?_; rintro e v1 ⟨rfl, lg1, hm1, ho1, hl1⟩; have HM1 := Lib.hid (And.intro hm1 (And.intro (MT.trans HR.out.2.1 HR.out.2.2 ho1) (Lg.trans HR.out.2.2 hl1 HR.out.2.1.size))); clear hm1 ho1 hl1)
          go_ret
          exact ⟨by rw [HF.out]; rfl, lg1, mkr, HM1.out⟩
        · have hcr : casR (some wd) 0 = false := by simp [casR, h0]
          have HH0 : Hid (ss.word 2 ≠ 0) := Lib.hid (by rw [← HWD.out]; exact h0)
          clear h0
          go_wp2_with (go_at_call 187; with_reducible refine (mCas_any HR.out.1 HI.out (by show x.log.length < 100000; omega) (by omega) HRR.out).mono ?_; rintro e v1 ⟨rfl, lg1, hm1, ho1, hl1⟩; have HM1 := Lib.hid (And.intro hm1 (And.intro (MT.trans HR.out.2.1 HR.out.2.2 ho1) (Lg.trans HR.out.2.2 hl1 HR.out.2.1.size))); clear hm1 ho1 hl1)
          go_roundg (gk - 1)
          case measure => omega
          case rel => exact ⟨_, _, lg1, mkr, j + 1, HM1, by omega, .inr ⟨by omega, Lib.hid ⟨HH0.out, rfl, rfl⟩⟩⟩
    · obtain ⟨h0, rfl, rfl⟩ := HY.out
      have hr : MS.acc (x.after (.cas 2 0 (t + 1)) s) (.cas 2 0 (t + 1)) ((Ac.cas 2 0 (t + 1)).act s) = (none, x.after (.cas 2 0 (t + 1)) s, (Ac.cas 2 0 (t + 1)).act s) := acc_off (List.getElem?_eq_none (by simp [MS.after])) rfl
      have HRR := Lib.hid hr
      have hcr : casR none 0 = false := rfl
      have HF : Hid (d = false) := Lib.hid (by rw [HD.out]; simpa using h0)
      clear hr h0
      go_wp2_with (go_at_call 187; with_reducible refine (mCas_any HR.out.1 (inR_of HI.out (Ac.act_len _ _)) (by simp [MS.after]; omega) (by omega) HRR.out).mono ?_; rintro e v1 ⟨rfl, lg1, hm1, ho1, hl1⟩; have HM1 := Lib.hid (And.intro hm1 (And.intro (MT.trans HR.out.2.1 HR.out.2.2 ho1) (Lg.trans HR.out.2.2 hl1 HR.out.2.1.size))); clear hm1 ho1 hl1)
      go_ret
      exact ⟨by rw [HF.out]; rfl, lg1, mkr, HM1.out⟩
end
end Go.Proofs.YtfgjacgkgonglaaGreat

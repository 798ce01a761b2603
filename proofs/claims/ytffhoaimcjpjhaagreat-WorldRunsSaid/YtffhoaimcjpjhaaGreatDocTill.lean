/- The document's machine as a pure run over its accesses: till a word is 0. By an AI agent. -/
import Derived.Test.YtffhoaimcjpjhaaGreatDoc
import Derived.Test.YtffhoaimcjpjhaaGreatDocBody
import Derived.Deep.LoopGhost
namespace Go.Proofs.YtffhoaimcjpjhaaGreat
open Go.RowKit
/-- How many accesses a machine is still told or may do in this step. -/
def MS.mu (x : MS) : Nat := (x.log.length - x.at_) + (if x.used then 0 else 1)
/-- How long its log may become in this step. -/
def MS.room (x : MS) : Nat := x.log.length + (if x.used then 0 else 1)
section
variable {x x1 : MS} {s s1 : StoreS} {c : Ac} {o : Option Int} {v : Int}
theorem acc_mu (hr : x.acc c s = (some v, x1, s1)) : x1.mu < x.mu := by
  rcases hv : x.log[x.at_]? with _ | u
  · have hl := List.getElem?_eq_none_iff.1 hv
    cases hu : x.used
    · rw [acc_now hv hu] at hr
      injection hr with _ h2
      injection h2 with h2 _
      subst h2
      simp [MS.mu, hu, MS.told]
    · rw [acc_off hv hu] at hr; injection hr with h1 _; cases h1
  · have hl := (List.getElem?_eq_some_iff.1 hv).1
    rw [acc_told hv] at hr
    injection hr with _ h2
    injection h2 with h2 _
    subst h2
    simp [MS.mu]
    omega
theorem acc_room (hr : x.acc c s = (o, x1, s1)) : x1.room = x.room := by
  rcases hv : x.log[x.at_]? with _ | u
  · cases hu : x.used
    · rw [acc_now hv hu] at hr
      injection hr with _ h2
      injection h2 with h2 _
      subst h2
      simp [MS.room, hu, MS.told]
    · rw [acc_off hv hu] at hr; injection hr with _ h2; injection h2 with h2 _; subst h2; rfl
  · rw [acc_told hv] at hr
    injection hr with _ h2
    injection h2 with h2 _
    subst h2
    rfl
theorem MS.log_room (x : MS) : x.log.length ≤ x.room := by unfold MS.room; split <;> omega
end
/-- Loads of a word until it is 0. -/
def tillP : Nat → Int → MS → StoreS → Bool × MS × StoreS
  | 0, _, x, s => (false, x, s)
  | f + 1, a, x, s => match x.acc (.load a) s with
    | (none, x1, s1) => (false, x1, s1)
    | (some v, x1, s1) => if v = 0 then (true, x1, s1) else tillP f a x1 s1
theorem acc_mu_le {x x1 : MS} {s s1 : StoreS} {c : Ac} {o : Option Int} (hr : x.acc c s = (o, x1, s1)) : x1.mu ≤ x.mu := by
  rcases o with _ | v
  · rcases hv : x.log[x.at_]? with _ | u
    · cases hu : x.used
      · rw [acc_now hv hu] at hr; injection hr with h1 _; cases h1
      · rw [acc_off hv hu] at hr; injection hr with _ h2; injection h2 with h2 _; subst h2; exact Nat.le_refl _
    · rw [acc_told hv] at hr; injection hr with h1 _; cases h1
  · exact Nat.le_of_lt (acc_mu hr)
theorem tillP_mu (a : Int) : ∀ (f : Nat) (x : MS) (s : StoreS), (tillP f a x s).2.1.mu ≤ x.mu
  | 0, _, _ => Nat.le_refl _
  | f + 1, x, s => by
    obtain ⟨o, x1, s1, hr⟩ : ∃ o x1 s1, x.acc (.load a) s = (o, x1, s1) := ⟨_, _, _, rfl⟩
    have hm := acc_mu_le hr
    simp only [tillP, hr]
    rcases o with _ | v
    · exact hm
    · simp only
      split
      · exact hm
      · exact Nat.le_trans (tillP_mu a f x1 s1) hm
/-- The document's enter: the cycle, whether it is in. -/
def enterP : Nat → MS → StoreS → Int × Bool × MS × StoreS
  | 0, x, s => (0, false, x, s)
  | f + 1, x, s => match x.acc (.add 4 1) s with
    | (none, x1, s1) => (0, false, x1, s1)
    | (some _, x1, s1) => match x1.acc (.load 1) s1 with
      | (none, x2, s2) => (0, false, x2, s2)
      | (some v, x2, s2) => if v = 0 then (match x2.acc (.load 0) s2 with
          | (o, x3, s3) => (wrap64 (o.getD 0), o.isSome, x3, s3))
        else match x2.acc (.add 4 18446744073709551615) s2 with
          | (none, x3, s3) => (0, false, x3, s3)
          | (some _, x3, s3) => match tillP f 1 x3 s3 with
            | (false, x4, s4) => (0, false, x4, s4)
            | (true, x4, s4) => enterP f x4 s4
/-- The document's stop. -/
def stopP (t : Int) : Nat → MS → StoreS → Int × Bool × MS × StoreS
  | 0, x, s => (0, false, x, s)
  | f + 1, x, s => match x.acc (.cas 1 0 (t + 1)) s with
    | (none, x1, s1) => (0, false, x1, s1)
    | (some v, x1, s1) => if v = 0 then (match tillP f 4 x1 s1 with
        | (false, x2, s2) => (0, false, x2, s2)
        | (true, x2, s2) => match x2.acc (.load 0) s2 with
          | (o, x3, s3) => (wrap64 (o.getD 0), o.isSome, x3, s3))
      else stopP t f x1 s1
/-- A walk within a step: the machine, what was turned since the step's start. -/
def Rn (w wr : World) (mb bb sb sm rb fb : Nat) (P T : Int) (lg mkv : Value) (x0 : MS) (s0 : StoreS) (y : MS) (ss : StoreS) : Prop :=
  ∃ lgr, MM wr mb bb sb sm rb fb P T ss y lgr mkv ∧ Only (MT w mb lg sb sm) w wr ∧ Lg w lg lgr ∧ y.room = x0.room ∧ ss.ws.length = s0.ws.length
section
variable {w wr : World} {mb bb sb sm rb fb f : Nat} {P T a u v : Int} {s s0 s1 ss : StoreS} {x x0 y y1 : MS} {lg mkv : Value} {o : Option Int}
theorem Rn.refl (h : MM w mb bb sb sm rb fb P T s x lg mkv) : Rn w w mb bb sb sm rb fb P T lg mkv x s x s := ⟨lg, h, Only.refl _ _, Lg.refl _ _, rfl, rfl⟩
theorem Rn.steps (h : Rn w wr mb bb sb sm rb fb P T lg mkv x0 s0 y ss) : Steps w wr mb bb sb sm rb fb P T ss y lg := by
  obtain ⟨lgr, h1, h2, h3, _⟩ := h
  exact ⟨_, _, h1, h2, h3⟩
theorem rLoad (h : Rn w wr mb bb sb sm rb fb P T lg mkv x0 s0 y ss) (hi : s0.inR a) (hf : x0.room < 100000) (hr : y.acc (.load a) ss = (o, y1, s1)) :
    Calls Tryz.prog 169 #[.pointer (some ⟨mb, 0, none⟩), .int .i64 a] wr fun e w' => e = .returned (.tuple #[.int .u64 (o.getD 0), .bool o.isSome]) ∧ Rn w w' mb bb sb sm rb fb P T lg mkv x0 s0 y1 s1 := by
  obtain ⟨lgr, h1, h2, h3, h4, h5⟩ := h
  refine (mLoad_any h1 (inR_of hi h5) (by have := y.log_room; omega) hr).mono (fun e w' q => ?_)
  obtain ⟨q1, lg1, q2, q3, q4⟩ := q
  exact ⟨q1, lg1, q2, MT.trans h2 h3 q3, Lg.trans h3 q4 h2.size, (acc_room hr).trans h4, (acc_facts hr).2.2.trans h5⟩
theorem rAdd (h : Rn w wr mb bb sb sm rb fb P T lg mkv x0 s0 y ss) (hi : s0.inR a) (hf : x0.room < 100000) (hr : y.acc (.add a v) ss = (o, y1, s1)) :
    Calls Tryz.prog 183 #[.pointer (some ⟨mb, 0, none⟩), .int .i64 a, .int .u64 v] wr fun e w' => e = .returned (.tuple #[.int .u64 (o.getD 0), .bool o.isSome]) ∧ Rn w w' mb bb sb sm rb fb P T lg mkv x0 s0 y1 s1 := by
  obtain ⟨lgr, h1, h2, h3, h4, h5⟩ := h
  refine (mAdd_any h1 (inR_of hi h5) (by have := y.log_room; omega) hr).mono (fun e w' q => ?_)
  obtain ⟨q1, lg1, q2, q3, q4⟩ := q
  exact ⟨q1, lg1, q2, MT.trans h2 h3 q3, Lg.trans h3 q4 h2.size, (acc_room hr).trans h4, (acc_facts hr).2.2.trans h5⟩
theorem rCas {ol : Int} (h : Rn w wr mb bb sb sm rb fb P T lg mkv x0 s0 y ss) (hi : s0.inR a) (hf : x0.room < 100000) (hv : 0 ≤ v ∧ v < 18446744073709551616) (hr : y.acc (.cas a ol v) ss = (o, y1, s1)) :
    Calls Tryz.prog 172 #[.pointer (some ⟨mb, 0, none⟩), .int .i64 a, .int .u64 ol, .int .u64 v] wr fun e w' => e = .returned (.tuple #[.bool (casR o ol), .bool o.isSome]) ∧ Rn w w' mb bb sb sm rb fb P T lg mkv x0 s0 y1 s1 := by
  obtain ⟨lgr, h1, h2, h3, h4, h5⟩ := h
  refine (mCas_any h1 (inR_of hi h5) (by have := y.log_room; omega) hv hr).mono (fun e w' q => ?_)
  obtain ⟨q1, lg1, q2, q3, q4⟩ := q
  exact ⟨q1, lg1, q2, MT.trans h2 h3 q3, Lg.trans h3 q4 h2.size, (acc_room hr).trans h4, (acc_facts hr).2.2.trans h5⟩
set_option maxRecDepth 100000 in
set_option maxHeartbeats 2000000 in
theorem rTill {R : Bool × MS × StoreS} (h : Rn w wr mb bb sb sm rb fb P T lg mkv x0 s0 y ss) (hi : s0.inR a) (hf : x0.room < 100000) (hm : y.mu < f) (hR : tillP f a y ss = R) :
    Calls Tryz.prog 193 #[.pointer (some ⟨mb, 0, none⟩), .int .i64 a] wr fun e w' => e = .returned (.bool R.1) ∧ Rn w w' mb bb sb sm rb fb P T lg mkv x0 s0 R.2.1 R.2.2 := by
  have H := Lib.hid h
  have HI := Lib.hid hi
  have HRS := Lib.hid hR
  clear h hi hR
  go_enter Tryz.func193, Tryz.ntmps193
  go_wp2_with fail
  go_loopg [5, 6] f (fun gg _ _ wq => ∃ (z : MS) (sz : StoreS), Hid (Rn w wq mb bb sb sm rb fb P T lg mkv x0 s0 z sz) ∧ z.mu < gg ∧ Hid (tillP gg a z sz = R))
  case atStart => exact ⟨y, ss, H, hm, HRS⟩
  case round =>
    obtain ⟨z, sz, HR, hg, HT⟩ := hrel
    obtain ⟨g1, rfl⟩ : ∃ g1, gk = g1 + 1 := ⟨gk - 1, by omega⟩
    obtain ⟨o, z1, s1, hr⟩ : ∃ o z1 s1, z.acc (.load a) sz = (o, z1, s1) := ⟨_, _, _, rfl⟩
    have HRR := Lib.hid hr
    have hT := HT.out
    simp only [tillP, hr] at hT
    have HT1 := Lib.hid hT
    clear hT hr
    rcases o with _ | v
    · go_wp2_with (go_at_call 169; with_reducible refine (rLoad HR.out HI.out hf HRR.out).mono ?_; rintro e v1 ⟨rfl, hm1⟩; have HM1 := Lib.hid hm1; clear hm1)
      go_ret
      rw [← HT1.out]
      exact ⟨rfl, HM1.out⟩
    · by_cases h0 : v = 0
      · subst h0
        go_wp2_with (go_at_call 169; with_reducible refine (rLoad HR.out HI.out hf HRR.out).mono ?_; rintro e v1 ⟨rfl, hm1⟩; have HM1 := Lib.hid hm1; clear hm1)
        go_ret
        rw [← HT1.out]
        exact ⟨rfl, HM1.out⟩
      · go_wp2_with (go_at_call 169; with_reducible refine (rLoad HR.out HI.out hf HRR.out).mono ?_; rintro e v1 ⟨rfl, hm1⟩; have HM1 := Lib.hid hm1; clear hm1)
        have hmu := acc_mu HRR.out
        go_roundg g1
        case measure => omega
        case rel => exact ⟨z1, s1, HM1, by omega, Lib.hid (by have := HT1.out; rwa [if_neg h0] at this)⟩
set_option maxHeartbeats 400000 in
theorem rExit (h : Rn w wr mb bb sb sm rb fb P T lg mkv x0 s0 y ss) (hi : s0.inR 4) (hf : x0.room < 100000) (hr : y.acc (.add 4 18446744073709551615) ss = (o, y1, s1)) :
    Calls Tryz.prog 127 #[.pointer (some ⟨mb, 0, none⟩)] wr fun e w' => e = .returned (.bool o.isSome) ∧ Rn w w' mb bb sb sm rb fb P T lg mkv x0 s0 y1 s1 := by
  have H := Lib.hid h; have HI := Lib.hid hi; have HRR := Lib.hid hr
  clear h hi hr
  go_enter Tryz.func127, Tryz.ntmps127
  go_wp2_with (go_at_call 183; with_reducible refine (rAdd H.out HI.out hf HRR.out).mono ?_; rintro e v1 ⟨rfl, hm1⟩; have HM1 := Lib.hid hm1; clear hm1)
  go_ret
  exact ⟨rfl, HM1.out⟩
set_option maxRecDepth 100000 in
set_option maxHeartbeats 4000000 in
theorem rEnter {R : Int × Bool × MS × StoreS} (h : Rn w wr mb bb sb sm rb fb P T lg mkv x0 s0 y ss) (hi : s0.inR 4) (hf : x0.room < 100000) (hm : y.mu < f) (hR : enterP f y ss = R) :
    Calls Tryz.prog 126 #[.pointer (some ⟨mb, 0, none⟩)] wr fun e w' => e = .returned (.tuple #[.int .i64 R.1, .bool R.2.1]) ∧ Rn w w' mb bb sb sm rb fb P T lg mkv x0 s0 R.2.2.1 R.2.2.2 := by
  have H := Lib.hid h
  have HI := Lib.hid (show s0.inR 4 ∧ s0.inR 1 ∧ s0.inR 0 from ⟨hi, ⟨by omega, by have := hi.2; omega⟩, ⟨by omega, by have := hi.2; omega⟩⟩)
  have HRS := Lib.hid hR
  clear h hi hR
  go_enter Tryz.func126, Tryz.ntmps126
  go_wp2_with fail
  go_loopg [4, 5] f (fun gg _ _ wq => ∃ (z : MS) (sz : StoreS), Hid (Rn w wq mb bb sb sm rb fb P T lg mkv x0 s0 z sz) ∧ z.mu < gg ∧ Hid (enterP gg z sz = R))
  case atStart => exact ⟨y, ss, H, hm, HRS⟩
  case round =>
    obtain ⟨z, sz, HR, hg, HT⟩ := hrel
    obtain ⟨g1, rfl⟩ : ∃ g1, gk = g1 + 1 := ⟨gk - 1, by omega⟩
    obtain ⟨o1, z1, s1, hr1⟩ : ∃ o z1 s1, z.acc (.add 4 1) sz = (o, z1, s1) := ⟨_, _, _, rfl⟩
    obtain ⟨o2, z2, s2, hr2⟩ : ∃ o z2 s2, z1.acc (.load 1) s1 = (o, z2, s2) := ⟨_, _, _, rfl⟩
    have hT := HT.out
    simp only [enterP, hr1] at hT
    have HR1 := Lib.hid hr1; have HR2 := Lib.hid hr2
    have m1 := acc_mu_le hr1; have m2 := acc_mu_le hr2
    rcases o1 with _ | v1
    · have HT1 := Lib.hid hT
      clear hT hr1 hr2 m1 m2
      go_wp2_with (go_at_call 183; with_reducible refine (rAdd HR.out HI.out.1 hf HR1.out).mono ?_; rintro e v1 ⟨rfl, hm1⟩; have HM1 := Lib.hid hm1; clear hm1)
      go_ret2
      rw [← HT1.out]
      exact ⟨rfl, HM1.out⟩
    · simp only [hr2] at hT
      rcases o2 with _ | v2
      · have HT1 := Lib.hid hT
        clear hT hr1 hr2 m1 m2
        go_wp2_with (first
          | (go_at_call 183; with_reducible refine (rAdd HR.out HI.out.1 hf HR1.out).mono ?_; rintro e v1 ⟨rfl, hm1⟩; have HM1 := Lib.hid hm1; clear hm1)
          | (go_at_call 169; with_reducible refine (rLoad HM1.out HI.out.2.1 hf HR2.out).mono ?_; rintro e v2 ⟨rfl, hm2⟩; have HM2 := Lib.hid hm2; clear hm2))
        go_ret2
        rw [← HT1.out]
        exact ⟨rfl, HM2.out⟩
      · by_cases h0 : v2 = 0
        · subst h0
          obtain ⟨o3, z3, s3, hr3⟩ : ∃ o z3 s3, z2.acc (.load 0) s2 = (o, z3, s3) := ⟨_, _, _, rfl⟩
          simp only [hr3, if_true] at hT
          have HT1 := Lib.hid hT; have HR3 := Lib.hid hr3
          clear hT hr1 hr2 hr3 m1 m2
          go_wp2_with (first
            | (go_at_call 183; with_reducible refine (rAdd HR.out HI.out.1 hf HR1.out).mono ?_; rintro e v1 ⟨rfl, hm1⟩; have HM1 := Lib.hid hm1; clear hm1)
            | (go_at_call 169; with_reducible refine (rLoad HM1.out HI.out.2.1 hf HR2.out).mono ?_; rintro e v2 ⟨rfl, hm2⟩; have HM2 := Lib.hid hm2; clear hm2)
            | (go_at_call 169; with_reducible refine (rLoad HM2.out HI.out.2.2 hf HR3.out).mono ?_; rintro e v3 ⟨rfl, hm3⟩; have HM3 := Lib.hid hm3; clear hm3))
          go_ret2
          rw [← HT1.out]
          exact ⟨rfl, HM3.out⟩
        · obtain ⟨o3, z3, s3, hr3⟩ : ∃ o z3 s3, z2.acc (.add 4 18446744073709551615) s2 = (o, z3, s3) := ⟨_, _, _, rfl⟩
          simp only [hr3, if_neg h0] at hT
          have HR3 := Lib.hid hr3
          have m3 := acc_mu_le hr3
          have m0 := acc_mu hr1
          rcases o3 with _ | v3
          · have HT1 := Lib.hid hT
            clear hT hr1 hr2 hr3 m1 m2 m3 m0
            go_wp2_with (first
              | (go_at_call 183; with_reducible refine (rAdd HR.out HI.out.1 hf HR1.out).mono ?_; rintro e v1 ⟨rfl, hm1⟩; have HM1 := Lib.hid hm1; clear hm1)
              | (go_at_call 169; with_reducible refine (rLoad HM1.out HI.out.2.1 hf HR2.out).mono ?_; rintro e v2 ⟨rfl, hm2⟩; have HM2 := Lib.hid hm2; clear hm2)
              | (go_at_call 127; with_reducible refine (rExit HM2.out HI.out.1 hf HR3.out).mono ?_; rintro e v3 ⟨rfl, hm3⟩; have HM3 := Lib.hid hm3; clear hm3))
            go_ret2
            rw [← HT1.out]
            exact ⟨rfl, HM3.out⟩
          · obtain ⟨d, z4, s4, hr4⟩ : ∃ d z4 s4, tillP g1 1 z3 s3 = (d, z4, s4) := ⟨_, _, _, rfl⟩
            simp only [hr4] at hT
            have m4 := tillP_mu 1 g1 z3 s3
            rw [hr4] at m4
            replace m4 : z4.mu ≤ z3.mu := m4
            have HR4 := Lib.hid hr4
            have hg3 : z3.mu < g1 := by omega
            cases d
            · have HT1 := Lib.hid hT
              clear hT hr1 hr2 hr3 hr4 m1 m2 m3 m4 m0
              go_wp2_with (first
                | (go_at_call 183; with_reducible refine (rAdd HR.out HI.out.1 hf HR1.out).mono ?_; rintro e v1 ⟨rfl, hm1⟩; have HM1 := Lib.hid hm1; clear hm1)
                | (go_at_call 169; with_reducible refine (rLoad HM1.out HI.out.2.1 hf HR2.out).mono ?_; rintro e v2 ⟨rfl, hm2⟩; have HM2 := Lib.hid hm2; clear hm2)
                | (go_at_call 127; with_reducible refine (rExit HM2.out HI.out.1 hf HR3.out).mono ?_; rintro e v3 ⟨rfl, hm3⟩; have HM3 := Lib.hid hm3; clear hm3)
                | (go_at_call 193; with_reducible refine (rTill HM3.out HI.out.2.1 hf hg3 HR4.out).mono ?_; rintro e v4 ⟨rfl, hm4⟩; have HM4 := Lib.hid hm4; clear hm4))
              go_ret2
              rw [← HT1.out]
              exact ⟨rfl, HM4.out⟩
            · have HT1 := Lib.hid hT
              clear hT hr1 hr2 hr3 hr4
              go_wp2_with (first
                | (go_at_call 183; with_reducible refine (rAdd HR.out HI.out.1 hf HR1.out).mono ?_; rintro e v1 ⟨rfl, hm1⟩; have HM1 := Lib.hid hm1; clear hm1)
                | (go_at_call 169; with_reducible refine (rLoad HM1.out HI.out.2.1 hf HR2.out).mono ?_; rintro e v2 ⟨rfl, hm2⟩; have HM2 := Lib.hid hm2; clear hm2)
                | (go_at_call 127; with_reducible refine (rExit HM2.out HI.out.1 hf HR3.out).mono ?_; rintro e v3 ⟨rfl, hm3⟩; have HM3 := Lib.hid hm3; clear hm3)
                | (go_at_call 193; with_reducible refine (rTill HM3.out HI.out.2.1 hf hg3 HR4.out).mono ?_; rintro e v4 ⟨rfl, hm4⟩; have HM4 := Lib.hid hm4; clear hm4))
              go_roundg g1
              case measure => omega
              case rel => exact ⟨z4, s4, HM4, by omega, HT1⟩
set_option maxRecDepth 100000 in
set_option maxHeartbeats 4000000 in
theorem rStop {t : Int} {R : Int × Bool × MS × StoreS} (h : Rn w wr mb bb sb sm rb fb P T lg mkv x0 s0 y ss) (hi : s0.inR 4) (hf : x0.room < 100000) (ht : 0 ≤ t ∧ t < 4096) (hm : y.mu < f) (hR : stopP t f y ss = R) :
    Calls Tryz.prog 128 #[.pointer (some ⟨mb, 0, none⟩), .int .i64 t] wr fun e w' => e = .returned (.tuple #[.int .i64 R.1, .bool R.2.1]) ∧ Rn w w' mb bb sb sm rb fb P T lg mkv x0 s0 R.2.2.1 R.2.2.2 := by
  have e1 : IntKind.i64.wrap (t + 1) = t + 1 := by rw [IntKind.wrap_i64]; omega
  have e2 : IntKind.u64.wrap (t + 1) = t + 1 := by rw [IntKind.wrap_u64]; omega
  have e3 : (t + 1) % 18446744073709551616 = t + 1 := by omega
  have hv : 0 ≤ t + 1 ∧ t + 1 < 18446744073709551616 := by omega
  have HV := Lib.hid hv
  have H := Lib.hid h
  have HI := Lib.hid (show s0.inR 4 ∧ s0.inR 1 ∧ s0.inR 0 from ⟨hi, ⟨by omega, by have := hi.2; omega⟩, ⟨by omega, by have := hi.2; omega⟩⟩)
  have HRS := Lib.hid hR
  clear h hi hR hv
  go_enter Tryz.func128, Tryz.ntmps128
  go_wp2_with fail
  go_loopg [6, 7] f (fun gg _ _ wq => ∃ (z : MS) (sz : StoreS), Hid (Rn w wq mb bb sb sm rb fb P T lg mkv x0 s0 z sz) ∧ z.mu < gg ∧ Hid (stopP t gg z sz = R))
  case atStart => exact ⟨y, ss, H, hm, HRS⟩
  case round =>
    obtain ⟨z, sz, HR, hg, HT⟩ := hrel
    obtain ⟨g1, rfl⟩ : ∃ g1, gk = g1 + 1 := ⟨gk - 1, by omega⟩
    obtain ⟨o1, z1, s1, hr1⟩ : ∃ o z1 s1, z.acc (.cas 1 0 (t + 1)) sz = (o, z1, s1) := ⟨_, _, _, rfl⟩
    have hT := HT.out
    simp only [stopP, hr1] at hT
    have HR1 := Lib.hid hr1
    rcases o1 with _ | v1
    · have HT1 := Lib.hid hT
      have hcr : casR none 0 = false := rfl
      clear hT hr1
      go_wp2_with (go_at_call 172; with_reducible refine (rCas HR.out HI.out.2.1 hf HV.out HR1.out).mono ?_; rintro e v1 ⟨rfl, hm1⟩; have HM1 := Lib.hid hm1; clear hm1)
      go_ret2
      rw [← HT1.out]
      exact ⟨rfl, HM1.out⟩
    · have m0 := acc_mu hr1
      have hg3 : z1.mu < g1 := by omega
      by_cases h0 : v1 = 0
      · have hcr : casR (some v1) 0 = true := by simp [casR, h0]
        simp only [if_pos h0] at hT
        obtain ⟨d, z2, s2, hr2⟩ : ∃ d z2 s2, tillP g1 4 z1 s1 = (d, z2, s2) := ⟨_, _, _, rfl⟩
        simp only [hr2] at hT
        have HR2 := Lib.hid hr2
        cases d
        · have HT1 := Lib.hid hT
          clear hT hr1 hr2 h0
          go_wp2_with (first
            | (go_at_call 172; with_reducible refine (rCas HR.out HI.out.2.1 hf HV.out HR1.out).mono ?_; rintro e v1 ⟨rfl, hm1⟩; have HM1 := Lib.hid hm1; clear hm1)
            | (go_at_call 193; with_reducible refine (rTill HM1.out HI.out.1 hf hg3 HR2.out).mono ?_; rintro e v2 ⟨rfl, hm2⟩; have HM2 := Lib.hid hm2; clear hm2))
          go_ret2
          rw [← HT1.out]
          exact ⟨rfl, HM2.out⟩
        · obtain ⟨o3, z3, s3, hr3⟩ : ∃ o z3 s3, z2.acc (.load 0) s2 = (o, z3, s3) := ⟨_, _, _, rfl⟩
          simp only [hr3] at hT
          have HT1 := Lib.hid hT; have HR3 := Lib.hid hr3
          clear hT hr1 hr2 hr3 h0
          go_wp2_with (first
            | (go_at_call 172; with_reducible refine (rCas HR.out HI.out.2.1 hf HV.out HR1.out).mono ?_; rintro e v1 ⟨rfl, hm1⟩; have HM1 := Lib.hid hm1; clear hm1)
            | (go_at_call 193; with_reducible refine (rTill HM1.out HI.out.1 hf hg3 HR2.out).mono ?_; rintro e v2 ⟨rfl, hm2⟩; have HM2 := Lib.hid hm2; clear hm2)
            | (go_at_call 169; with_reducible refine (rLoad HM2.out HI.out.2.2 hf HR3.out).mono ?_; rintro e v3 ⟨rfl, hm3⟩; have HM3 := Lib.hid hm3; clear hm3))
          go_ret2
          rw [← HT1.out]
          exact ⟨rfl, HM3.out⟩
      · have hcr : casR (some v1) 0 = false := by simp [casR, h0]
        have HT1 := Lib.hid hT
        have H0 := Lib.hid h0
        clear hT hr1 h0
        go_wp2_with (go_at_call 172; with_reducible refine (rCas HR.out HI.out.2.1 hf HV.out HR1.out).mono ?_; rintro e v1 ⟨rfl, hm1⟩; have HM1 := Lib.hid hm1; clear hm1)
        go_roundg g1
        case measure => omega
        case rel => exact ⟨z1, s1, HM1, hg3, Lib.hid (by have := HT1.out; simpa only [if_neg H0.out] using this)⟩
end
end Go.Proofs.YtffhoaimcjpjhaaGreat

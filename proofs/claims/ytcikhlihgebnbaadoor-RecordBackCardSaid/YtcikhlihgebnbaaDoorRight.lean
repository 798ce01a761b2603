/- The document's Right: may a machine be made of that? By an AI agent. -/
import Derived.Test.YtcikhlihgebnbaaDoorLayout
namespace Go.Proofs.YtcikhlihgebnbaaDoor
open Go.RowKit
/-- What a machine of the document is made of; all else is nought. -/
abbrev mAgg (what P T th pg cl ps gn hd sz mo mk : Int) : Value := .agg #[.int .i64 what, .int .i64 P, .int .i64 T, .int .i64 th, .int .i64 pg, .int .i64 cl, .int .i64 ps, .int .i64 gn, .int .i64 hd, .int .i64 sz, .int .i64 mo, .int .u64 mk, .bool false, .slice none 0 0, .slice none 0 0, .bool false, .int .i64 0, .bool false, .pointer none, .int .i64 0, .int .i64 0, .int .u64 0, .int .u64 0, .int .i64 0, .int .i64 0, .int .i64 0, .int .i64 0, .int .u64 0, .slice none 0 0, .slice none 0 0, .int .i64 0, .int .i64 0]
set_option maxHeartbeats 400000 in
theorem r6May_any (P T : Int) (w : World) :
    Calls Tryd.prog 47 #[.agg #[.int .i64 P, .int .i64 T]] w fun e w' => e = .returned (.bool (Lay.may P T)) ∧ Adds w w' := by
  cases hm : Lay.may P T
  · have h := Lay.may_not hm
    clear hm
    by_cases h1 : P < 1
    · go_enter Tryd.func47, Tryd.ntmps47
      go_wp2
      go_ret
      exact ⟨rfl, (Only.refl _ _).alloc _⟩
    by_cases h2 : 4096 < P
    · go_enter Tryd.func47, Tryd.ntmps47
      go_wp2
      go_ret
      exact ⟨rfl, (Only.refl _ _).alloc _⟩
    by_cases h3 : T < 1
    · go_enter Tryd.func47, Tryd.ntmps47
      go_wp2
      go_ret
      exact ⟨rfl, (Only.refl _ _).alloc _⟩
    have h4 : decide (T ≤ 64) = false := by simp; omega
    clear h
    go_enter Tryd.func47, Tryd.ntmps47
    go_wp2
    go_ret
    exact ⟨rfl, (Only.refl _ _).alloc _⟩
  · obtain ⟨h1, h2, h3, h4⟩ := Lay.may_iff.1 hm
    clear hm
    go_enter Tryd.func47, Tryd.ntmps47
    go_wp2
    go_ret
    exact ⟨rfl, (Only.refl _ _).alloc _⟩
set_option maxRecDepth 100000 in
set_option maxHeartbeats 2000000 in
theorem right_no (what P T th pg cl ps gn hd sz mo mk : Int) (w : World) (hm : Lay.may P T = false) :
    Calls Tryd.prog 18 #[mAgg what P T th pg cl ps gn hd sz mo mk] w fun e w' => e = .returned (.bool false) ∧ Adds w w' := by
  go_enter Tryd.func18, Tryd.ntmps18
  go_wp2_with (go_at_call 47; refine (r6May_any P T _).mono ?_; rintro e w1 ⟨rfl, ho1⟩; rw [hm])
  go_ret
  exact ⟨rfl, Adds.box ho1⟩
theorem mCells {what P T th pg cl ps gn hd sz mo mk : Int} {w w1 : World} (ho : Adds (w.alloc (.cells #[.int .i64 what, .int .i64 P, .int .i64 T, .int .i64 th, .int .i64 pg, .int .i64 cl, .int .i64 ps, .int .i64 gn, .int .i64 hd, .int .i64 sz, .int .i64 mo, .int .u64 mk, .bool false, .slice none 0 0, .slice none 0 0, .bool false, .int .i64 0, .bool false, .pointer none, .int .i64 0, .int .i64 0, .int .u64 0, .int .u64 0, .int .i64 0, .int .i64 0, .int .i64 0, .int .i64 0, .int .u64 0, .slice none 0 0, .slice none 0 0, .int .i64 0, .int .i64 0] 38)) w1) :
    w1.cell? ⟨w.heap.size, 0, none⟩ = some (.int .i64 what) ∧ w1.cell? ⟨w.heap.size, 1, none⟩ = some (.int .i64 P) ∧ w1.cell? ⟨w.heap.size, 2, none⟩ = some (.int .i64 T) ∧ w1.cell? ⟨w.heap.size, 3, none⟩ = some (.int .i64 th) ∧ w1.cell? ⟨w.heap.size, 4, none⟩ = some (.int .i64 pg) ∧ w1.cell? ⟨w.heap.size, 5, none⟩ = some (.int .i64 cl) ∧ w1.cell? ⟨w.heap.size, 6, none⟩ = some (.int .i64 ps) ∧ w1.cell? ⟨w.heap.size, 7, none⟩ = some (.int .i64 gn) ∧ w1.cell? ⟨w.heap.size, 8, none⟩ = some (.int .i64 hd) ∧ w1.cell? ⟨w.heap.size, 9, none⟩ = some (.int .i64 sz) ∧ w1.cell? ⟨w.heap.size, 10, none⟩ = some (.int .i64 mo) :=
  have hB := (Blk.new w #[.int .i64 what, .int .i64 P, .int .i64 T, .int .i64 th, .int .i64 pg, .int .i64 cl, .int .i64 ps, .int .i64 gn, .int .i64 hd, .int .i64 sz, .int .i64 mo, .int .u64 mk, .bool false, .slice none 0 0, .slice none 0 0, .bool false, .int .i64 0, .bool false, .pointer none, .int .i64 0, .int .i64 0, .int .u64 0, .int .u64 0, .int .i64 0, .int .i64 0, .int .i64 0, .int .i64 0, .int .u64 0, .slice none 0 0, .slice none 0 0, .int .i64 0, .int .i64 0] 38).only ho id
  ⟨hB.cell 0, hB.cell 1, hB.cell 2, hB.cell 3, hB.cell 4, hB.cell 5, hB.cell 6, hB.cell 7, hB.cell 8, hB.cell 9, hB.cell 10⟩
set_option maxRecDepth 100000 in
set_option maxHeartbeats 4000000 in
theorem right_leave (P T : Int) (w : World) (hm : Lay.may P T = true) :
    Calls Tryd.prog 18 #[mAgg 4 P T 0 0 0 0 0 0 0 0 0] w fun e w' => e = .returned (.bool true) ∧ Adds w w' := by
  obtain ⟨p1, p2, p3, p4⟩ := Lay.may_iff.1 hm
  go_enter Tryd.func18, Tryd.ntmps18
  go_wp2_with (go_at_call 47; refine (r6May_any P T _).mono ?_; rintro e w1 ⟨rfl, ho1⟩; rw [hm]; obtain ⟨c0, c1, c2, c3, c4, c5, c6, c7, c8, c9, c10⟩ := mCells ho1)
  go_ret
  exact ⟨rfl, Adds.box ho1⟩
set_option maxRecDepth 100000 in
set_option maxHeartbeats 4000000 in
theorem right_take_yes (P T t : Int) (w : World) (hm : Lay.may P T = true) (h0 : 0 ≤ t) (h1 : t < T) :
    Calls Tryd.prog 18 #[mAgg 3 P T t 0 0 0 0 0 0 0 0] w fun e w' => e = .returned (.bool true) ∧ Adds w w' := by
  obtain ⟨p1, p2, p3, p4⟩ := Lay.may_iff.1 hm
  go_enter Tryd.func18, Tryd.ntmps18
  go_wp2_with (go_at_call 47; refine (r6May_any P T _).mono ?_; rintro e w1 ⟨rfl, ho1⟩; rw [hm]; obtain ⟨c0, c1, c2, c3, c4, c5, c6, c7, c8, c9, c10⟩ := mCells ho1)
  go_ret
  exact ⟨rfl, Adds.box ho1⟩
set_option maxRecDepth 100000 in
set_option maxHeartbeats 4000000 in
theorem right_take_neg (P T t : Int) (w : World) (hm : Lay.may P T = true) (h0 : t < 0) :
    Calls Tryd.prog 18 #[mAgg 3 P T t 0 0 0 0 0 0 0 0] w fun e w' => e = .returned (.bool false) ∧ Adds w w' := by
  obtain ⟨p1, p2, p3, p4⟩ := Lay.may_iff.1 hm
  go_enter Tryd.func18, Tryd.ntmps18
  go_wp2_with (go_at_call 47; refine (r6May_any P T _).mono ?_; rintro e w1 ⟨rfl, ho1⟩; rw [hm]; obtain ⟨c0, c1, c2, c3, c4, c5, c6, c7, c8, c9, c10⟩ := mCells ho1)
  go_ret
  exact ⟨rfl, Adds.box ho1⟩
set_option maxRecDepth 100000 in
set_option maxHeartbeats 4000000 in
theorem right_take_big (P T t : Int) (w : World) (hm : Lay.may P T = true) (h0 : 0 ≤ t) (h1 : T ≤ t) :
    Calls Tryd.prog 18 #[mAgg 3 P T t 0 0 0 0 0 0 0 0] w fun e w' => e = .returned (.bool false) ∧ Adds w w' := by
  obtain ⟨p1, p2, p3, p4⟩ := Lay.may_iff.1 hm
  have hd : decide (t < T) = false := by simp; omega
  go_enter Tryd.func18, Tryd.ntmps18
  go_wp2_with (go_at_call 47; refine (r6May_any P T _).mono ?_; rintro e w1 ⟨rfl, ho1⟩; rw [hm]; obtain ⟨c0, c1, c2, c3, c4, c5, c6, c7, c8, c9, c10⟩ := mCells ho1)
  go_ret
  exact ⟨rfl, Adds.box ho1⟩
theorem right_take (P T t : Int) (w : World) (hm : Lay.may P T = true) :
    Calls Tryd.prog 18 #[mAgg 3 P T t 0 0 0 0 0 0 0 0] w fun e w' => e = .returned (.bool (decide (0 ≤ t ∧ t < T))) ∧ Adds w w' := by
  rcases Int.lt_or_le t 0 with h0 | h0
  · rw [decide_eq_false (by omega)]; exact right_take_neg P T t w hm h0
  rcases Int.lt_or_le t T with h1 | h1
  · rw [decide_eq_true ⟨h0, h1⟩]; exact right_take_yes P T t w hm h0 h1
  · rw [decide_eq_false (by omega)]; exact right_take_big P T t w hm h0 h1
set_option maxRecDepth 100000 in
set_option maxHeartbeats 4000000 in
theorem right_stop_yes (P T t : Int) (w : World) (hm : Lay.may P T = true) (h0 : 0 ≤ t) (h1 : t < T) :
    Calls Tryd.prog 18 #[mAgg 15 P T t 0 0 0 0 0 0 0 0] w fun e w' => e = .returned (.bool true) ∧ Adds w w' := by
  obtain ⟨p1, p2, p3, p4⟩ := Lay.may_iff.1 hm
  go_enter Tryd.func18, Tryd.ntmps18
  go_wp2_with (go_at_call 47; refine (r6May_any P T _).mono ?_; rintro e w1 ⟨rfl, ho1⟩; rw [hm]; obtain ⟨c0, c1, c2, c3, c4, c5, c6, c7, c8, c9, c10⟩ := mCells ho1)
  go_ret
  exact ⟨rfl, Adds.box ho1⟩
set_option maxRecDepth 100000 in
set_option maxHeartbeats 4000000 in
theorem right_stop_neg (P T t : Int) (w : World) (hm : Lay.may P T = true) (h0 : t < 0) :
    Calls Tryd.prog 18 #[mAgg 15 P T t 0 0 0 0 0 0 0 0] w fun e w' => e = .returned (.bool false) ∧ Adds w w' := by
  obtain ⟨p1, p2, p3, p4⟩ := Lay.may_iff.1 hm
  go_enter Tryd.func18, Tryd.ntmps18
  go_wp2_with (go_at_call 47; refine (r6May_any P T _).mono ?_; rintro e w1 ⟨rfl, ho1⟩; rw [hm]; obtain ⟨c0, c1, c2, c3, c4, c5, c6, c7, c8, c9, c10⟩ := mCells ho1)
  go_ret
  exact ⟨rfl, Adds.box ho1⟩
set_option maxRecDepth 100000 in
set_option maxHeartbeats 4000000 in
theorem right_stop_big (P T t : Int) (w : World) (hm : Lay.may P T = true) (h0 : 0 ≤ t) (h1 : T ≤ t) :
    Calls Tryd.prog 18 #[mAgg 15 P T t 0 0 0 0 0 0 0 0] w fun e w' => e = .returned (.bool false) ∧ Adds w w' := by
  obtain ⟨p1, p2, p3, p4⟩ := Lay.may_iff.1 hm
  have hd : decide (t < T) = false := by simp; omega
  go_enter Tryd.func18, Tryd.ntmps18
  go_wp2_with (go_at_call 47; refine (r6May_any P T _).mono ?_; rintro e w1 ⟨rfl, ho1⟩; rw [hm]; obtain ⟨c0, c1, c2, c3, c4, c5, c6, c7, c8, c9, c10⟩ := mCells ho1)
  go_ret
  exact ⟨rfl, Adds.box ho1⟩
theorem right_stop (P T t : Int) (w : World) (hm : Lay.may P T = true) :
    Calls Tryd.prog 18 #[mAgg 15 P T t 0 0 0 0 0 0 0 0] w fun e w' => e = .returned (.bool (decide (0 ≤ t ∧ t < T))) ∧ Adds w w' := by
  rcases Int.lt_or_le t 0 with h0 | h0
  · rw [decide_eq_false (by omega)]; exact right_stop_neg P T t w hm h0
  rcases Int.lt_or_le t T with h1 | h1
  · rw [decide_eq_true ⟨h0, h1⟩]; exact right_stop_yes P T t w hm h0 h1
  · rw [decide_eq_false (by omega)]; exact right_stop_big P T t w hm h0 h1
set_option maxRecDepth 100000 in
set_option maxHeartbeats 4000000 in
theorem right_sweep_yes (P T p : Int) (w : World) (hm : Lay.may P T = true) (h0 : 0 ≤ p) (h1 : p < P) :
    Calls Tryd.prog 18 #[mAgg 7 P T 0 p 0 0 0 0 0 0 0] w fun e w' => e = .returned (.bool true) ∧ Adds w w' := by
  obtain ⟨p1, p2, p3, p4⟩ := Lay.may_iff.1 hm
  go_enter Tryd.func18, Tryd.ntmps18
  go_wp2_with (go_at_call 47; refine (r6May_any P T _).mono ?_; rintro e w1 ⟨rfl, ho1⟩; rw [hm]; obtain ⟨c0, c1, c2, c3, c4, c5, c6, c7, c8, c9, c10⟩ := mCells ho1)
  go_ret
  exact ⟨rfl, Adds.box ho1⟩
set_option maxRecDepth 100000 in
set_option maxHeartbeats 4000000 in
theorem right_sweep_neg (P T p : Int) (w : World) (hm : Lay.may P T = true) (h0 : p < 0) :
    Calls Tryd.prog 18 #[mAgg 7 P T 0 p 0 0 0 0 0 0 0] w fun e w' => e = .returned (.bool false) ∧ Adds w w' := by
  obtain ⟨p1, p2, p3, p4⟩ := Lay.may_iff.1 hm
  go_enter Tryd.func18, Tryd.ntmps18
  go_wp2_with (go_at_call 47; refine (r6May_any P T _).mono ?_; rintro e w1 ⟨rfl, ho1⟩; rw [hm]; obtain ⟨c0, c1, c2, c3, c4, c5, c6, c7, c8, c9, c10⟩ := mCells ho1)
  go_ret
  exact ⟨rfl, Adds.box ho1⟩
set_option maxRecDepth 100000 in
set_option maxHeartbeats 4000000 in
theorem right_sweep_big (P T p : Int) (w : World) (hm : Lay.may P T = true) (h0 : 0 ≤ p) (h1 : P ≤ p) :
    Calls Tryd.prog 18 #[mAgg 7 P T 0 p 0 0 0 0 0 0 0] w fun e w' => e = .returned (.bool false) ∧ Adds w w' := by
  obtain ⟨p1, p2, p3, p4⟩ := Lay.may_iff.1 hm
  have hd : decide (p < P) = false := by simp; omega
  go_enter Tryd.func18, Tryd.ntmps18
  go_wp2_with (go_at_call 47; refine (r6May_any P T _).mono ?_; rintro e w1 ⟨rfl, ho1⟩; rw [hm]; obtain ⟨c0, c1, c2, c3, c4, c5, c6, c7, c8, c9, c10⟩ := mCells ho1)
  go_ret
  exact ⟨rfl, Adds.box ho1⟩
theorem right_sweep (P T p : Int) (w : World) (hm : Lay.may P T = true) :
    Calls Tryd.prog 18 #[mAgg 7 P T 0 p 0 0 0 0 0 0 0] w fun e w' => e = .returned (.bool (decide (0 ≤ p ∧ p < P))) ∧ Adds w w' := by
  rcases Int.lt_or_le p 0 with h0 | h0
  · rw [decide_eq_false (by omega)]; exact right_sweep_neg P T p w hm h0
  rcases Int.lt_or_le p P with h1 | h1
  · rw [decide_eq_true ⟨h0, h1⟩]; exact right_sweep_yes P T p w hm h0 h1
  · rw [decide_eq_false (by omega)]; exact right_sweep_big P T p w hm h0 h1
set_option maxRecDepth 100000 in
set_option maxHeartbeats 4000000 in
theorem right_enter (P T : Int) (w : World) (hm : Lay.may P T = true) :
    Calls Tryd.prog 18 #[mAgg 13 P T 0 0 0 0 0 0 0 0 0] w fun e w' => e = .returned (.bool true) ∧ Adds w w' := by
  obtain ⟨p1, p2, p3, p4⟩ := Lay.may_iff.1 hm
  go_enter Tryd.func18, Tryd.ntmps18
  go_wp2_with (go_at_call 47; refine (r6May_any P T _).mono ?_; rintro e w1 ⟨rfl, ho1⟩; rw [hm]; obtain ⟨c0, c1, c2, c3, c4, c5, c6, c7, c8, c9, c10⟩ := mCells ho1)
  go_ret
  exact ⟨rfl, Adds.box ho1⟩
theorem right_leaveP (P T : Int) (w : World) : Calls Tryd.prog 18 #[mAgg 4 P T 0 0 0 0 0 0 0 0 0] w fun e w' => e = .returned (.bool (Lay.may P T)) ∧ Adds w w' := by
  cases hm : Lay.may P T
  · simpa using right_no 4 P T 0 0 0 0 0 0 0 0 0 w hm
  · simpa using right_leave P T w hm
theorem right_takeP (P T t : Int) (w : World) : Calls Tryd.prog 18 #[mAgg 3 P T t 0 0 0 0 0 0 0 0] w fun e w' => e = .returned (.bool (Lay.may P T && decide (0 ≤ t ∧ t < T))) ∧ Adds w w' := by
  cases hm : Lay.may P T
  · simpa using right_no 3 P T t 0 0 0 0 0 0 0 0 w hm
  · simpa using right_take P T t w hm
theorem right_stopP (P T t : Int) (w : World) : Calls Tryd.prog 18 #[mAgg 15 P T t 0 0 0 0 0 0 0 0] w fun e w' => e = .returned (.bool (Lay.may P T && decide (0 ≤ t ∧ t < T))) ∧ Adds w w' := by
  cases hm : Lay.may P T
  · simpa using right_no 15 P T t 0 0 0 0 0 0 0 0 w hm
  · simpa using right_stop P T t w hm
theorem right_sweepP (P T p : Int) (w : World) : Calls Tryd.prog 18 #[mAgg 7 P T 0 p 0 0 0 0 0 0 0] w fun e w' => e = .returned (.bool (Lay.may P T && decide (0 ≤ p ∧ p < P))) ∧ Adds w w' := by
  cases hm : Lay.may P T
  · simpa using right_no 7 P T 0 p 0 0 0 0 0 0 0 w hm
  · simpa using right_sweep P T p w hm
theorem right_enterP (P T : Int) (w : World) : Calls Tryd.prog 18 #[mAgg 13 P T 0 0 0 0 0 0 0 0 0] w fun e w' => e = .returned (.bool (Lay.may P T)) ∧ Adds w w' := by
  cases hm : Lay.may P T
  · simpa using right_no 13 P T 0 0 0 0 0 0 0 0 0 w hm
  · simpa using right_enter P T w hm
end Go.Proofs.YtcikhlihgebnbaaDoor

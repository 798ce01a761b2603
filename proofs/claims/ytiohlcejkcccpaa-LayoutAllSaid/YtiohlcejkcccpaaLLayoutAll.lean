/- LayoutAll: its walk. By an AI agent. -/
import Derived.Test.YtiohlcejkcccpaaLayAwake
import Derived.Test.YtiohlcejkcccpaaLayoutRefName2
namespace Go.Proofs.Ytiohlcejkcccpaa
open Go.RowKit
set_option maxRecDepth 100000 in
set_option maxHeartbeats 8000000 in
theorem layoutAll_law (P : Int) (_w0 : (Lit.int .i64 P).wf = true) (T : Int) (_w1 : (Lit.int .i64 T).wf = true) (k : Int) (_w2 : (Lit.int .i64 k).wf = true) (a : Int) (_w3 : (Lit.int .i64 a).wf = true)
    (b : Int) (_w4 : (Lit.int .i64 b).wf = true) (full : Bool) (w : World) :
    Calls Try.prog 4 #[.agg #[.int .i64 P, .int .i64 T], .int .i64 k, .int .i64 a, .int .i64 b, .bool full] w fun e w' => e = .returned (.bool true) ∧ Below w.heap.size w w' := by
  clear _w0 _w1 _w2 _w3 _w4
  go_enter Try.func4, Try.ntmps4
  go_wp2
  go_region_held3 (fun w' => w'.cell? ⟨w.heap.size, 0, none⟩ = some (.int .i64 P) ∧ w'.cell? ⟨w.heap.size, 1, none⟩ = some (.int .i64 T) ∧ Adds w w')
    (first | (exact ⟨by simp [*], by simp [*], ((Only.refl _ _).alloc _).drew⟩) | (exact held2 (by assumption) (by assumption)))
    (first
      | (go_at_call 12; refine (layMay_any _ _ _).mono ?_; rintro e w' ⟨rfl, ho⟩)
      | (go_at_call 13; refine (r6LayMay_any _ _ _).mono ?_; rintro e w' ⟨rfl, ho⟩)
      | (go_at_call 11; refine (layWords_any _ _ _).mono ?_; rintro e w' ⟨rfl, ho⟩)
      | (go_at_call 14; refine (r6Words_any _ _ _).mono ?_; rintro e w' ⟨rfl, ho⟩))
  rename_i hH
  obtain ⟨q0, q1, ha⟩ := hH
  have HA := Lib.hid ha
  clear ha
  go_wp2_with (first
    | (go_at_call 15; refine (layHead_any _ _ _ _ _ _).mono ?_; rintro e w1 ⟨rfl, ho⟩; unfold atOf; obtain ⟨q0', q1', ha⟩ := held2 ⟨q0, q1, HA.out⟩ ho; clear q0 q1; have q0 := q0'; have q1 := q1'; replace HA := Lib.hid ha; clear ho ha q0' q1')
    | (go_at_call 16; refine (r6Head_any _ _ _ _ _ _).mono ?_; rintro e w1 ⟨rfl, ho⟩; unfold atOf; obtain ⟨q0', q1', ha⟩ := held2 ⟨q0, q1, HA.out⟩ ho; clear q0 q1; have q0 := q0'; have q1 := q1'; replace HA := Lib.hid ha; clear ho ha q0' q1')
    | (go_at_call 17; refine (layCache_any _ _ _ _ _).mono ?_; rintro e w1 ⟨rfl, ho⟩; unfold atOf; obtain ⟨q0', q1', ha⟩ := held2 ⟨q0, q1, HA.out⟩ ho; clear q0 q1; have q0 := q0'; have q1 := q1'; replace HA := Lib.hid ha; clear ho ha q0' q1')
    | (go_at_call 18; refine (r6Cache_any _ _ _ _ _).mono ?_; rintro e w1 ⟨rfl, ho⟩; unfold atOf; obtain ⟨q0', q1', ha⟩ := held2 ⟨q0, q1, HA.out⟩ ho; clear q0 q1; have q0 := q0'; have q1 := q1'; replace HA := Lib.hid ha; clear ho ha q0' q1')
    | (go_at_call 19; refine (layPage_any _ _ _ _ _).mono ?_; rintro e w1 ⟨rfl, ho⟩; unfold atOf; obtain ⟨q0', q1', ha⟩ := held2 ⟨q0, q1, HA.out⟩ ho; clear q0 q1; have q0 := q0'; have q1 := q1'; replace HA := Lib.hid ha; clear ho ha q0' q1')
    | (go_at_call 20; refine (r6PageWord_any _ _ _ _ _).mono ?_; rintro e w1 ⟨rfl, ho⟩; unfold atOf; obtain ⟨q0', q1', ha⟩ := held2 ⟨q0, q1, HA.out⟩ ho; clear q0 q1; have q0 := q0'; have q1 := q1'; replace HA := Lib.hid ha; clear ho ha q0' q1')
    | (go_at_call 21; refine (layMap_any _ _ _ _ _).mono ?_; rintro e w1 ⟨rfl, ho⟩; unfold atOf; obtain ⟨q0', q1', ha⟩ := held2 ⟨q0, q1, HA.out⟩ ho; clear q0 q1; have q0 := q0'; have q1 := q1'; replace HA := Lib.hid ha; clear ho ha q0' q1')
    | (go_at_call 22; refine (r6Map_any _ _ _ _ _).mono ?_; rintro e w1 ⟨rfl, ho⟩; unfold atOf; obtain ⟨q0', q1', ha⟩ := held2 ⟨q0, q1, HA.out⟩ ho; clear q0 q1; have q0 := q0'; have q1 := q1'; replace HA := Lib.hid ha; clear ho ha q0' q1'))
  refine (layName_any _ _ _ _).mono ?_; rintro e w2 ⟨rfl, ho⟩; unfold nameOf; obtain ⟨q0', q1', ha⟩ := held2 ⟨q0, q1, HA.out⟩ ho; clear q0 q1; have q0 := q0'; have q1 := q1'; replace HA := Lib.hid ha; clear ho ha q0' q1'
  have hz := cell_lt q0
  go_wp2_with fail
  refine (r6Name_any _ _ _ _).mono ?_; rintro e w3 ⟨rfl, ho⟩; unfold nameOf
  have B := (Blk.new w2 _ _).only ho id
  obtain ⟨s0, s1, s2, _, _, _⟩ := cells3 B
  have hz3 := cell_lt s0
  replace HA := Lib.hid ((HA.out.alloc _).thenF ho)
  clear ho B q0 q1 hz
  go_wp2_with (go_at_call 9; refine (awake8_any _).mono ?_; rintro e w4 ⟨rfl, ho⟩)
  go_ret
  exact ⟨rfl, ((HA.out.alloc _).thenF (by assumption)).below (Nat.le_refl _) (fun _ _ h => h)⟩
end Go.Proofs.Ytiohlcejkcccpaa

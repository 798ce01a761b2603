/- Package runs: New, out of no draws. By an AI agent. -/
import Derived.Test.YtffhoaimcjpjhaaGreatRuns
namespace Go.Proofs.YtffhoaimcjpjhaaGreat
open Go.RowKit
set_option maxRecDepth 100000 in
set_option maxHeartbeats 2000000 in
theorem runsNew_nil (P : Int) (w : World) (h1 : 1 ≤ P) (h2 : P ≤ 4096) :
    Calls Tryz.prog 95 #[.int .i64 P, .slice none 0 0] w fun e w' => ∃ rb, e = .returned (.pointer (some ⟨rb, 0, none⟩)) ∧ RunsOne w w' rb P 0 P ∧ Adds w w' := by
  go_enter Tryz.func95, Tryz.ntmps95
  go_wp2_with fail
  refine (clone32_nil _).mono ?_; rintro e w1 ⟨rfl, ho1⟩
  go_wp2_with fail
  refine (newR_any _).mono ?_; rintro e w2 ⟨rfl, ht2, ho2⟩
  have hz1 := ho1.size; have hz2 := ho2.size; have hl2 := ht2.head.lt
  have hT : HereR w w2 w1.heap.size .nil := ⟨ht2, Tr.ok_nil, fun x hx => hx.elim (fun h => by omega) False.elim, ho1.thenF ho2⟩
  have hT2 := Lib.hid (hT.alloc (.cells #[.int .i64 P, .slice none 0 0, .int .i64 0, .pointer (some ⟨w1.heap.size, 0, none⟩), .slice none 0 0, .int .i64 0] 192))
  have hB := Lib.hid (Blk.new w2 #[.int .i64 P, .slice none 0 0, .int .i64 0, .pointer (some ⟨w1.heap.size, 0, none⟩), .slice none 0 0, .int .i64 0] 192)
  clear ht2 ho1 ho2 hT
  go_wp2_with fail
  refine (put_empty w _ w2.heap.size w1.heap.size P 0 P hB.out hT2.out (by omega) (by omega) ⟨by omega, by omega⟩ ⟨by omega, by omega⟩).mono ?_; rintro e w3 ⟨⟨v, rfl⟩, hr, ha⟩
  go_wp2
  go_ret
  exact ⟨_, rfl, hr, ha⟩
end Go.Proofs.YtffhoaimcjpjhaaGreat

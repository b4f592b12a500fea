/- The walk of the law SumJoins: it returns true, and nothing that was there has turned. -/
import Derived.Test.YtblfmofhfbbmdaaDoorFixed
import Derived.Test.YtblfmofhfbbmdaaDoorRefSum
set_option linter.unusedVariables false
set_option linter.unusedSimpArgs false
namespace Go.Proofs.YtblfmofhfbbmdaaDoor
open Go.RowKit Crc

theorem joinI_range (a b n : Int) : 0 ≤ joinI a b n ∧ joinI a b n < 4294967296 := by
  unfold joinI; split
  · omega
  · exact un_range _

set_option maxRecDepth 100000 in
set_option maxHeartbeats 4000000 in
theorem sumJoins_walk (a b n at' x : Int) (w : World) (ha : 0 ≤ a ∧ a < 4294967296) (hb : 0 ≤ b ∧ b < 4294967296) (hn : -9223372036854775808 ≤ n ∧ n ≤ 9223372036854775807) (hat : -9223372036854775808 ≤ at' ∧ at' ≤ 9223372036854775807) (hx : 0 ≤ x ∧ x < 256) (ht : Tab w) :
    Calls Tryd.prog 5 #[.int .u32 a, .int .u32 b, .int .i64 n, .int .i64 at', .int .u8 x] w fun e w' => e = .returned (.bool true) ∧ Below w.heap.size w w' := by
  go_enter Tryd.func5, Tryd.ntmps5
  go_wp2_with fail
  refine (fixed_any _ ht).mono ?_
  rintro e w1 ⟨rfl, hb1⟩
  go_wp2_with fail
  refine (join_any _ _ _ _ ha hb hn (ht.below hb1)).mono ?_
  rintro e w2 ⟨rfl, hb⟩
  have hb2 := below_then hb1 hb
  clear hb hb1
  go_wp2_with fail
  refine (rjoin_any _ _ _ _ ha ‹0 ≤ b ∧ b < 4294967296› hn).mono ?_
  rintro e w3 ⟨rfl, hb⟩
  have hb3 := below_then hb2 hb
  clear hb hb2
  go_wp2_with fail
  refine (turned_any _ _ _ _ hx hn hat (ht.below hb3)).mono ?_
  rintro e w4 ⟨rfl, hb⟩
  have hb4 := below_then hb3 hb
  clear hb hb3
  go_wp2_with fail
  refine (rturned_any _ _ _ _ hx hn hat).mono ?_
  rintro e w5 ⟨rfl, hb⟩
  have hb5 := below_then hb4 hb
  clear hb hb4
  go_wp2_with fail
  go_ret
  exact ⟨rfl, hb5⟩
end Go.Proofs.YtblfmofhfbbmdaaDoor

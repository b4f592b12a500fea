/- The walk of the law SumNames: it returns true, and nothing that was there has turned. -/
import Derived.Test.YtblfmofhfbbmdaaDoorFixed
set_option linter.unusedVariables false
set_option linter.unusedSimpArgs false
namespace Go.Proofs.YtblfmofhfbbmdaaDoor
open Go.RowKit Crc
theorem c_b0 : sum [[0]].flatten = 3523407757 := by decide +kernel
theorem c_b255 : sum [[255]].flatten = 4278190080 := by decide +kernel
theorem c_abc : sum [[97], [98, 99]].flatten = 891568578 := by decide +kernel
theorem c_12345 : sum [[49, 50, 51, 52, 53]].flatten = 3421846044 := by decide +kernel
theorem c_6789 : sum [[54, 55, 56, 57]].flatten = 2646261639 := by decide +kernel
theorem c_j9 : joinI 3421846044 2646261639 4 = 3421780262 := by decide +kernel

set_option maxRecDepth 100000 in
set_option maxHeartbeats 4000000 in
theorem sumNames_walk (w : World) (ht : Tab w) : Calls Tryd.prog 3 #[] w fun e w' => e = .returned (.bool true) ∧ Below w.heap.size w w' := by
  have kc := conv_last
  go_enter Tryd.func3, Tryd.ntmps3
  go_wp2_with fail
  refine (fixed_any _ ht).mono ?_
  rintro e w1 ⟨rfl, hb1⟩
  have ht1 := ht.below hb1
  go_wp2_with fail
  refine (of_b _ [[0]] _ ?_ ?_).mono ?_
  · exact RBs.one (heap_top _ _ _ (by simp)) (by decide) (RBy.lit _ (heap_under _ (heap_top _ _ _ rfl)) rfl rfl rfl (by decide))
  · exact ht.below (below_alloc (below_alloc hb1 _) _)
  rintro e w2 ⟨rfl, hb⟩
  have hb2 := below_then (below_alloc (below_alloc hb1 _) _) hb
  clear hb hb1
  rw [c_b0]
  go_wp2_with fail
  refine (of_b _ [[255]] _ ?_ ?_).mono ?_
  · exact RBs.one (heap_top _ _ _ (by simp)) (by decide) (RBy.lit _ (heap_under _ (heap_top _ _ _ rfl)) rfl rfl rfl (by decide))
  · exact ht.below (below_alloc (below_alloc hb2 _) _)
  rintro e w3 ⟨rfl, hb⟩
  have hb3 := below_then (below_alloc (below_alloc hb2 _) _) hb
  clear hb hb2
  rw [c_b255]
  go_wp2_with fail
  refine (of_b _ [[97], [98, 99]] _ ?_ ?_).mono ?_
  · exact RBs.two (heap_top _ _ _ (by simp)) (by decide) (RBy.lit _ (heap_under _ (heap_under _ (heap_top _ _ _ rfl))) rfl rfl rfl (by decide)) (RBy.lit _ (heap_under _ (heap_top _ _ _ (by simp))) rfl rfl rfl (by decide))
  · exact ht.below (below_alloc (below_alloc (below_alloc hb3 _) _) _)
  rintro e w4 ⟨rfl, hb⟩
  have hb4 := below_then (below_alloc (below_alloc (below_alloc hb3 _) _) _) hb
  clear hb hb3
  rw [c_abc]
  go_wp2_with fail
  refine (join_any _ _ _ _ (by omega) (by omega) (by omega) (ht.below hb4)).mono ?_
  rintro e w5 ⟨rfl, hb⟩
  have hb5 := below_then hb4 hb
  clear hb hb4
  rw [show joinI 0 7 0 = 7 by decide +kernel, show joinE 0 = 0 from rfl]
  go_wp2_with fail
  refine (join_any _ _ _ _ (by omega) (by omega) (by omega) (ht.below hb5)).mono ?_
  rintro e w6 ⟨rfl, hb⟩
  have hb6 := below_then hb5 hb
  clear hb hb5
  rw [show joinI 99 0 0 = 99 by decide +kernel, show joinE 0 = 0 from rfl]
  go_wp2_with fail
  refine (of_b _ [[49, 50, 51, 52, 53]] _ ?_ ?_).mono ?_
  · exact RBs.one (heap_top _ _ _ (by simp)) (by decide) (RBy.lit _ (heap_under _ (heap_top _ _ _ rfl)) rfl rfl rfl (by decide))
  · exact ht.below (below_alloc (below_alloc hb6 _) _)
  rintro e w7 ⟨rfl, hb⟩
  have hb7 := below_then (below_alloc (below_alloc hb6 _) _) hb
  clear hb hb6
  rw [c_12345]
  go_wp2_with fail
  refine (of_b _ [[54, 55, 56, 57]] _ ?_ ?_).mono ?_
  · exact RBs.one (heap_top _ _ _ (by simp)) (by decide) (RBy.lit _ (heap_under _ (heap_top _ _ _ rfl)) rfl rfl rfl (by decide))
  · exact ht.below (below_alloc (below_alloc hb7 _) _)
  rintro e w8 ⟨rfl, hb⟩
  have hb8 := below_then (below_alloc (below_alloc hb7 _) _) hb
  clear hb hb7
  rw [c_6789]
  go_wp2_with fail
  refine (join_any _ _ _ _ (by omega) (by omega) (by omega) (ht.below hb8)).mono ?_
  rintro e w9 ⟨rfl, hb⟩
  have hb9 := below_then hb8 hb
  clear hb hb8
  rw [c_j9, show joinE 4 = 0 from rfl]
  go_wp2_with fail
  refine (turned_any _ _ _ _ (by omega) (by omega) (by omega) (ht.below hb9)).mono ?_
  rintro e w10 ⟨rfl, hb⟩
  have hb10 := below_then hb9 hb
  clear hb hb9
  rw [show turnedI 2 0 0 = 0 by decide +kernel, show turnedE 2 0 = 0 from rfl]
  go_wp2_with fail
  refine (turned_any _ _ _ _ (by omega) (by omega) (by omega) (ht.below hb10)).mono ?_
  rintro e w11 ⟨rfl, hb⟩
  have hb11 := below_then hb10 hb
  clear hb hb10
  rw [show turnedI 2 2 1 = 0 from rfl, show turnedE 2 2 = 2 from rfl]
  go_wp2_with fail
  refine (turned_any _ _ _ _ (by omega) (by omega) (by omega) (ht.below hb11)).mono ?_
  rintro e w12 ⟨rfl, hb⟩
  have hb12 := below_then hb11 hb
  clear hb hb11
  rw [show turnedI 0 0 1 = 0 from rfl, show turnedE 0 0 = 2 from rfl]
  go_wp2_with fail
  go_ret
  exact ⟨rfl, hb12⟩
end Go.Proofs.YtblfmofhfbbmdaaDoor

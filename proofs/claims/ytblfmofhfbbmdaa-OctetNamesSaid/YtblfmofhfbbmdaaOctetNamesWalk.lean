/- The walk of OctetNames. -/
import Derived.Test.YtblfmofhfbbmdaaAwake
set_option linter.unusedVariables false
set_option linter.unusedSimpArgs false
namespace Go.Proofs.Ytblfmofhfbbmdaa
open Go.RowKit

theorem n_put1 : putL 256 1 = [] ∧ putE 256 1 = 10 := by decide +kernel
theorem n_put2 : putL 0 9 = [] ∧ putE 0 9 = 2 := by decide +kernel
theorem n_take1 : takeF [2] 2 = (0, [], 11) := by decide +kernel
theorem n_take2 : takeF [] 9 = (0, [], 2) := by decide +kernel
theorem n_fields1 : fields [1] [9, 1] = ([], [], 2) := by decide +kernel
theorem n_fields2 : fields [1] [1, 1] = ([], [], 11) := by decide +kernel
theorem n_pad1 : padF [1, 2] 1 = ([], 10) := by decide +kernel
theorem n_pad2 : padF [] 65 = ([], 2) := by decide +kernel
theorem OB.empty {w : World} {base : Nat} {v : Value} (h : OB w base v []) : ∃ A c, v = .slice A 0 c := by
  obtain ⟨A, c, e, _⟩ := h.reads.form; exact ⟨A, c, e⟩
theorem OI.empty {k : IntKind} {e : TypeId} {w : World} {base : Nat} {v : Value} (h : OI k e w base v []) : ∃ A c, v = .slice A 0 c := by
  obtain ⟨A, c, e, _⟩ := h.reads; exact ⟨A, c, e⟩

set_option maxRecDepth 100000 in
set_option maxHeartbeats 4000000 in
theorem octetNames_walk (W : World) : Calls Try.prog 3 #[] W fun e w' => e = .returned (.bool true) ∧ Below W.heap.size W w' := by
  go_enter Try.func3, Try.ntmps3
  go_wp2_with fail
  refine (awake_any _).mono ?_
  rintro e w0 ⟨rfl, hb0⟩
  go_wp2_with fail
  refine (put_any 256 1 _ (by omega) (by omega)).mono ?_
  rintro e w1 ⟨v1, rfl, ho1, hb1⟩
  rw [n_put1.1] at ho1
  rw [n_put1.2]
  obtain ⟨A1, c1, rfl⟩ := ho1.empty
  replace hb1 := below_then hb0 hb1
  clear ho1 hb0
  go_wp2_with fail
  refine (put_any 0 9 _ (by omega) (by omega)).mono ?_
  rintro e w2 ⟨v1, rfl, ho1, hb2⟩
  rw [n_put2.1] at ho1
  rw [n_put2.2]
  obtain ⟨A2, c2, rfl⟩ := ho1.empty
  replace hb2 := below_then hb1 hb2
  clear ho1 hb1
  go_wp2_with fail
  refine (take_any _ [2] 2 _ (RBy.lit _ (heap_top _ _ _ rfl) rfl (by decide) rfl (by decide)) (by omega) (by decide)).mono ?_
  rintro e w3 ⟨v1, rfl, ho1, hb3⟩
  rw [n_take1] at ho1 ⊢
  obtain ⟨A3, c3, rfl⟩ := ho1.empty
  replace hb3 := below_then hb2 (below_then (below_alloc (Below.refl _ _) _) hb3)
  clear ho1 hb2
  go_wp2_with fail
  refine (take_any _ [] 9 _ (RBy.nil _) (by omega) (by decide)).mono ?_
  rintro e w4 ⟨v1, rfl, ho1, hb4⟩
  rw [n_take2] at ho1 ⊢
  obtain ⟨A4, c4, rfl⟩ := ho1.empty
  replace hb4 := below_then hb3 hb4
  clear ho1 hb3
  go_wp2_with fail
  refine (fields_any _ [1] _ [9, 1] _ (RBy.lit _ (heap_under _ (heap_top _ _ _ rfl)) rfl (by decide) rfl (by decide)) (RI.lit [9, 1] (heap_top _ _ _ (by simp)) rfl rfl (by decide) (by decide)) (by decide) (by decide) (by decide)).mono ?_
  rintro e w5 ⟨v1, v2, rfl, ho1, ho2, hb5⟩
  rw [n_fields1] at ho1 ho2 ⊢
  obtain ⟨A5, c5, rfl⟩ := ho1.empty
  obtain ⟨A6, c6, rfl⟩ := ho2.empty
  replace hb5 := below_then hb4 (below_then (below_alloc (below_alloc (Below.refl _ _) _) _) hb5)
  clear ho1 ho2 hb4
  go_wp2_with fail
  refine (fields_any _ [1] _ [1, 1] _ (RBy.lit _ (heap_under _ (heap_top _ _ _ rfl)) rfl (by decide) rfl (by decide)) (RI.lit [1, 1] (heap_top _ _ _ (by simp)) rfl rfl (by decide) (by decide)) (by decide) (by decide) (by decide)).mono ?_
  rintro e w6 ⟨v1, v2, rfl, ho1, ho2, hb6⟩
  rw [n_fields2] at ho1 ho2 ⊢
  obtain ⟨A7, c7, rfl⟩ := ho1.empty
  obtain ⟨A8, c8, rfl⟩ := ho2.empty
  replace hb6 := below_then hb5 (below_then (below_alloc (below_alloc (Below.refl _ _) _) _) hb6)
  clear ho1 ho2 hb5
  go_wp2_with fail
  refine (pad_any _ [1, 2] 1 _ (RBy.lit _ (heap_top _ _ _ rfl) rfl (by decide) rfl (by decide)) (by omega)).mono ?_
  rintro e w7 ⟨v1, rfl, ho1, hb7⟩
  rw [n_pad1] at ho1 ⊢
  obtain ⟨A9, c9, rfl⟩ := ho1.empty
  replace hb7 := below_then hb6 (below_then (below_alloc (Below.refl _ _) _) hb7)
  clear ho1 hb6
  go_wp2_with fail
  refine (pad_any _ [] 65 _ (RBy.nil _) (by omega)).mono ?_
  rintro e w8 ⟨v1, rfl, ho1, hb8⟩
  rw [n_pad2] at ho1 ⊢
  obtain ⟨A10, c10, rfl⟩ := ho1.empty
  replace hb8 := below_then hb7 hb8
  clear ho1 hb7
  go_wp2_with fail
  go_ret
  exact ⟨rfl, hb8⟩
end Go.Proofs.Ytblfmofhfbbmdaa

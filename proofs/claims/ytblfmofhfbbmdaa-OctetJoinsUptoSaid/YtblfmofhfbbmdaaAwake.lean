/- The worked calls that each law of layer 1 begins with (wicketlaw01.awake), and the bytes as a text. -/
import Derived.Test.YtblfmofhfbbmdaaRef
import Derived.Laws.BytesArg
set_option linter.unusedVariables false
set_option linter.unusedSimpArgs false
namespace Go.Proofs.Ytblfmofhfbbmdaa
open Go.RowKit

/-- string(b). -/
theorem conv_str {w : World} {v : Value} {xs : List Int} (h : RBy w v xs) : (convert 23 9 v).run Try.prog w = .ok (.string (strOfNums xs)) w := by
  obtain ⟨A, c, rfl, hc, hn, hb, hA, hcell⟩ := h
  cases A with
  | none =>
    have hx : xs = [] := by
      cases xs with
      | nil => rfl
      | cons y ys => obtain ⟨ad, e, _⟩ := hcell (by simp); cases e
    subst hx
    exact run_convert_bytes_nil w _ 5 Try.underlying23 Try.underlying5 0 c _ Try.underlying9
  | some ad =>
    have hl : (loadCells ad xs.length).run Try.prog w = .ok (xs.map (Value.int .u8)).toArray w := by
      have := run_loadCells_list (P := Try.prog) w ad (xs.map (Value.int .u8)) (fun j v hj => by
        have hjl : j < xs.length := by
          rcases Nat.lt_or_ge j xs.length with h | h
          · exact h
          · simp [List.getElem?_eq_none (show (xs.map (Value.int .u8)).length ≤ j by simpa using h)] at hj
        obtain ⟨ad', e, hcs⟩ := hcell (by omega)
        cases e
        rw [hcs j hjl]
        simp [List.getElem?_eq_getElem hjl] at hj
        subst hj
        simp [List.getElem?_eq_getElem hjl])
      simpa using this
    rw [run_convert_bytes_string w _ _ 5 _ xs.length c Try.underlying23 Try.underlying5 Try.underlying9, run_bytesToString w _ xs.length c xs hl, foldl_push_bytes]
    simp [strOfNums, ByteArray.empty, ByteArray.emptyWithCapacity]
    rfl
theorem k_put : putL 258 4 = [2, 1, 0, 0] ∧ putE 258 4 = 0 := by decide +kernel
theorem k_take : takeF [2, 1, 7] 2 = (258, [7], 0) := by decide +kernel
theorem k_fields : fields [1, 2, 0, 3] [1, 2] = ([1, 2], [3], 0) := by decide +kernel
theorem k_pad : padF [1] 3 = ([1, 0, 0], 0) := by decide +kernel

set_option maxRecDepth 100000 in
set_option maxHeartbeats 2000000 in
theorem awake_any (w : World) : Calls Try.prog 10 #[] w fun e w' => e = .returned (.bool true) ∧ Below w.heap.size w w' := by
  go_enter Try.func10, Try.ntmps10
  go_wp2_with fail
  refine (put_any 258 4 _ (by omega) (by omega)).mono ?_
  rintro e w1 ⟨v1, rfl, ho1, hb1⟩
  rw [k_put.1] at ho1
  rw [k_put.2]
  go_wp2_with fail
  refine (take_any _ [2, 1, 7] 2 _ (RBy.lit _ (heap_top _ _ _ rfl) rfl (by decide) rfl (by decide)) (by omega) (by decide)).mono ?_
  rintro e w2 ⟨v2, rfl, ho2, hb2⟩
  rw [k_take] at ho2 ⊢
  replace hb2 := below_then (below_alloc (Below.refl _ _) _) hb2
  go_wp2_with fail
  refine (fields_any _ [1, 2, 0, 3] _ [1, 2] _ (RBy.lit _ (heap_under _ (heap_top _ _ _ rfl)) rfl (by decide) rfl (by decide)) (RI.lit [1, 2] (heap_top _ _ _ (by simp)) rfl rfl (by decide) (by decide)) (by decide) (by decide) (by decide)).mono ?_
  rintro e w3 ⟨v3, v4, rfl, ho3, ho4, hb3⟩
  rw [k_fields] at ho3 ho4 ⊢
  replace hb3 := below_then (below_alloc (below_alloc (Below.refl _ _) _) _) hb3
  go_wp2_with fail
  refine (pad_any _ [1] 3 _ (RBy.lit _ (heap_top _ _ _ rfl) rfl (by decide) rfl (by decide)) (by omega)).mono ?_
  rintro e w4 ⟨v5, rfl, ho5, hb4⟩
  rw [k_pad] at ho5 ⊢
  replace hb4 := below_then (below_alloc (Below.refl _ _) _) hb4
  have c1 := conv_str (ho1.reads.below (below_then (below_then hb2 hb3) hb4))
  have c2 := conv_str (ho2.reads.below (below_then hb3 hb4))
  have c4 := conv_str (ho4.reads.below hb4)
  have c5 := conv_str ho5.reads
  rw [show strOfNums [2, 1, 0, 0] = ⟨#[2, 1, 0, 0]⟩ from rfl] at c1
  rw [show strOfNums [7] = ⟨#[7]⟩ from rfl] at c2
  rw [show strOfNums [3] = ⟨#[3]⟩ from rfl] at c4
  rw [show strOfNums [1, 0, 0] = ⟨#[1, 0, 0]⟩ from rfl] at c5
  go_wp2_with fail
  refine (same_any _ _ [1, 2] [1, 2] _ ((ho3.reads.below hb4).below (below_alloc (Below.refl _ _) _)) (RI.lit [1, 2] (heap_top _ _ _ rfl) rfl rfl (by decide) (by decide))).mono ?_
  rintro e w5 ⟨rfl, hb5⟩
  replace hb5 := below_then (below_alloc (Below.refl _ _) _) hb5
  have c6 := conv_str ((ho4.reads.below hb4).below hb5)
  rw [show strOfNums [3] = ⟨#[3]⟩ from rfl] at c6
  rw [show decide (([1, 2] : List Int) = [1, 2]) = true from rfl]
  go_wp2_with fail
  refine (ojoin_any _ [[1], [], [2]] _ (RBs.three (heap_top _ _ _ (by simp)) (by decide) (RBy.lit _ (heap_under _ (heap_under _ (heap_top _ _ _ rfl))) rfl (by decide) rfl (by decide)) (RBy.nil _) (RBy.lit _ (heap_under _ (heap_top _ _ _ (by simp))) rfl (by decide) rfl (by decide))) (by decide)).mono ?_
  rintro e w6 ⟨v6, rfl, ho6, hb6⟩
  replace hb6 := below_then (below_alloc (below_alloc (below_alloc (Below.refl _ _) _) _) _) hb6
  have c7 := conv_str ho6.reads
  rw [show strOfNums [[1], [], [2]].flatten = ⟨#[1, 2]⟩ from rfl] at c7
  go_wp2_with fail
  refine (blank_any _ [0, 0] _ (RBy.lit _ (heap_top _ _ _ rfl) rfl (by decide) rfl (by decide))).mono ?_
  rintro e w7 ⟨rfl, rfl⟩
  rw [show blankF [0, 0] = true from rfl]
  go_wp2_with fail
  refine (blank_any _ [0, 1] _ (RBy.lit _ (heap_top _ _ _ (by simp)) rfl (by decide) rfl (by decide))).mono ?_
  rintro e w8 ⟨rfl, rfl⟩
  rw [show blankF [0, 1] = false from rfl]
  go_wp2_with fail
  go_ret
  exact ⟨rfl, below_alloc (below_alloc (below_then (below_then (below_then (below_then (below_then hb1 hb2) hb3) hb4) hb5) hb6) _) _⟩
end Go.Proofs.Ytblfmofhfbbmdaa

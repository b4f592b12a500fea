/- The worked calls of package sum that each of its laws begins with (wicketlaw02.fixed). -/
import Derived.Test.YtblfmofhfbbmdaaDoorSum
import Derived.Lib.SlBytesConst
set_option linter.unusedVariables false
set_option linter.unusedSimpArgs false
namespace Go.Proofs.YtblfmofhfbbmdaaDoor
open Go.RowKit Crc

theorem c_join1 : joinI 1 0 1 = 1996959894 := by decide +kernel
theorem c_turned1 : turnedI 1 0 1 = 1996959894 := by decide +kernel
theorem c_nine : sum [[49, 50, 51, 52, 53], [54, 55, 56, 57]].flatten = 3421780262 := by decide +kernel
theorem c_none : sum ([] : List (List Int)).flatten = 0 := by decide +kernel

/-- A constant's bytes: the row that was made last gets the run-time's mark. -/
theorem conv_last (b : Nat) (w : World) (C : Array Value) (n c : Nat) (h : b = w.heap.size) :
    (convert 25 25 (.slice (some ⟨b, 0, none⟩) n c)).run Tryd.prog (w.alloc (.cells C 5)) = .ok (.slice (some ⟨b, 0, none⟩) n c) (w.alloc (.cells C 5 (C.size, C.size + 1))) := by
  rw [h]; exact Lib.run_convert_bytes_const w 25 5 C n c Tryd.underlying25 Tryd.underlying5

set_option maxRecDepth 100000 in
set_option maxHeartbeats 2000000 in
theorem fixed_any (w : World) (ht : Tab w) : Calls Tryd.prog 20 #[] w fun e w' => e = .returned (.bool true) ∧ Below w.heap.size w w' := by
  have kc := conv_last
  go_enter Tryd.func20, Tryd.ntmps20
  go_wp2_with fail
  refine (join_any _ _ _ _ (by omega) (by omega) (by omega) ht).mono ?_
  rintro e w1 ⟨rfl, hb1⟩
  rw [c_join1, show joinE 1 = 0 from rfl]
  have ht1 := ht.below hb1
  go_wp2_with fail
  refine (turned_any _ _ _ _ (by omega) (by omega) (by omega) ht1).mono ?_
  rintro e w2 ⟨rfl, hb2⟩
  rw [c_turned1, show turnedE 1 0 = 0 from rfl]
  have ht2 := ht1.below hb2
  go_wp2_with fail
  refine (join_any _ _ _ _ (by omega) (by omega) (by omega) ht2).mono ?_
  rintro e w3 ⟨rfl, hb3⟩
  rw [show joinI 1 2 (-1) = 0 from rfl, show joinE (-1) = 2 from rfl]
  have ht3 := ht2.below hb3
  go_wp2_with fail
  refine (of_any _ [] _ (RBs.nil _) ht3).mono ?_
  rintro e w4 ⟨rfl, rfl⟩
  rw [c_none]
  go_wp2_with fail
  refine (of_any _ [[49, 50, 51, 52, 53], [54, 55, 56, 57]] _ ?_ ?_).mono ?_
  · exact RBs.two (heap_top _ _ _ (by simp)) (by decide) (RBy.lit _ (heap_under _ (heap_under _ (heap_top _ _ _ rfl))) rfl rfl rfl (by decide)) (RBy.lit _ (heap_under _ (heap_top _ _ _ (by simp))) rfl rfl rfl (by decide))
  · exact ht3.below (below_alloc (below_alloc (below_alloc (Below.refl _ _) _) _) _)
  rintro e w5 ⟨rfl, rfl⟩
  rw [c_nine]
  go_wp2_with fail
  go_ret
  exact ⟨rfl, below_alloc (below_alloc (below_alloc (below_then (below_then hb1 hb2) hb3) _) _) _⟩

theorem info5 : (Tryd.prog.info? 5).map (fun i => (i.zero, i.size, i.bytes)) = some (some (.int .u8 0), 1, 1) := by kernel_rfl

theorem own_empty (w : World) : OB (w.alloc (.cells #[] 5)) w.heap.size (.slice (some ⟨w.heap.size, 0, none⟩) 0 0) [] := OB.made w _ #[] 0 (Nat.le_refl _) (by simp [maxLen]) rfl

set_option maxHeartbeats 1000000 in
theorem some_any (v : Value) (xs : List Int) (w : World) (hv : RBy w v xs) :
    Calls Tryd.prog 30 #[v] w fun e w' => ∃ v', e = .returned v' ∧ OB w' w.heap.size v' (xs.take 3000) ∧ Below w.heap.size w w' := by
  have hv' := hv
  obtain ⟨A, c, rfl, hc, hn, hb, hA, hcell⟩ := hv
  cases A with
  | none =>
    have hx : xs = [] := by
      cases xs with
      | nil => rfl
      | cons y ys => obtain ⟨ad, e, _⟩ := hcell (by simp); cases e
    subst hx
    obtain rfl := hA rfl
    clear hcell hb hv'
    go_enter Tryd.func30, Tryd.ntmps30
    go_wp2
    go_ret
    exact ⟨_, rfl, own_empty w, (Below.refl _ _).alloc (Nat.le_refl _) _⟩
  | some ad =>
    clear hcell hb hA
    by_cases hs : xs.length ≤ 3000
    · have ht : xs.take 3000 = xs := List.take_of_length_le hs
      have Ht := Lib.hid ht
      clear ht
      go_enter Tryd.func30, Tryd.ntmps30
      go_wp2_with (at_builtin; refine wpList_app rfl (.tmp 3) (.tmp 8) 25 rfl Tryd.underlying25 info5 w.heap.size _ _ [] xs rfl rfl (own_empty w) (hv'.below ((Below.refl _ _).alloc (Nat.le_refl _) _)) (by simp; omega) (by simp) ?_; intro v' w1 ho hg hat)
      go_ret
      refine ⟨_, rfl, ?_, ?_⟩
      · rw [Ht.out]; exact ho
      · exact below_grown ((Below.refl _ _).alloc (Nat.le_refl _) _) (own_empty w) (Nat.le_refl _) hg
    · have hlt : 3000 < xs.length := by omega
      go_enter Tryd.func30, Tryd.ntmps30
      go_wp2_with (at_builtin; refine wpList_app rfl (.tmp 3) (.tmp 8) 25 rfl Tryd.underlying25 info5 w.heap.size _ _ [] (xs.take 3000) rfl rfl (own_empty w) ((hv'.first (by omega)).below ((Below.refl _ _).alloc (Nat.le_refl _) _)) (by simp; omega) (by simp) ?_; intro v' w1 ho hg hat)
      go_ret
      refine ⟨_, rfl, ho, ?_⟩
      exact below_grown ((Below.refl _ _).alloc (Nat.le_refl _) _) (own_empty w) (Nat.le_refl _) hg
end Go.Proofs.YtblfmofhfbbmdaaDoor


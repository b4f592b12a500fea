/- The program's bytes of a superblock: the table of widths, sizes, Encode. -/
import Derived.Test.YtblfmofhfbbmdaaDoorSupB
set_option linter.unusedVariables false
set_option linter.unusedSimpArgs false
namespace Go.Proofs.YtblfmofhfbbmdaaDoor
open Go.RowKit Crc

def widthsN : List Nat := [1, 1, 1, 1, 1, 1, 1, 3, 8, 8]
def widthsL : List Int := [1, 1, 1, 1, 1, 1, 1, 3, 8, 8]
/-- The table of widths. -/
def Wid (w : World) : Prop := ∀ i : Nat, i < 10 → w.cell? ⟨0, i, none⟩ = some (.int .i64 (widthsL[i]?.getD 0))
theorem Wid.below {w w' : World} (h : Wid w) (hb : Below w.heap.size w w') : Wid w' := fun i hi => keep_cell hb (Nat.le_refl _) (h i hi)
theorem size99 (w : World) : (sizeOf 99).run Tryd.prog w = .ok 10 w := by kernel_rfl
theorem Wid.load {w : World} (h : Wid w) : (loadVar 99 ⟨0, 0, none⟩).run Tryd.prog w = .ok (.agg (nums .i64 widthsL).toArray) w := by
  have hl' : (loadCells ⟨0, 0, none⟩ (nums .i64 widthsL).length).run Tryd.prog w = .ok (nums .i64 widthsL).toArray w :=
    run_loadCells_list (P := Tryd.prog) w ⟨0, 0, none⟩ (nums .i64 widthsL) (fun j v hv => by
      have hj : j < 10 := by have := (List.getElem?_eq_some_iff.1 hv).1; simpa [nums, widthsL] using this
      rw [nums_get .i64 widthsL j (by simpa [widthsL] using hj)] at hv
      have hadd : (⟨0, 0, none⟩ : Addr).add j = ⟨0, j, none⟩ := by unfold Addr.add; split <;> simp_all
      rw [hadd, h j hj]; exact hv)
  rw [show (nums .i64 widthsL).length = 10 from rfl] at hl'
  simp [loadVar, isAgg, run_underlying Tryd.underlying99, size99, hl']
theorem oinfo3 : (Tryd.prog.info? 3).map (fun i => (i.zero, i.size, i.bytes)) = some (some (.int .i64 0), 1, 8) := by kernel_rfl

theorem idx99 : ∀ k : Nat, k < 10 → ∀ wr : World, (Instr.index 99 (.agg (nums .i64 widthsL).toArray) (.int .i64 (k : Int))).run Tryd.prog wr = .ok (.int .i64 (widthsL[k]?.getD 0)) wr := by
  intro k hk wr
  have h : k = 0 ∨ k = 1 ∨ k = 2 ∨ k = 3 ∨ k = 4 ∨ k = 5 ∨ k = 6 ∨ k = 7 ∨ k = 8 ∨ k = 9 := by omega
  rcases h with rfl | rfl | rfl | rfl | rfl | rfl | rfl | rfl | rfl | rfl
  all_goals first | (show _ = _; kernel_rfl) | (refine Eq.trans ?_ rfl; kernel_rfl) | (go_simp; done) | (simp [nums, widthsL]; go_simp; done)
set_option maxRecDepth 100000 in
set_option maxHeartbeats 2000000 in
theorem sizes_any (w : World) (hw : Wid w) : Calls Tryd.prog 65 #[] w fun e w' => ∃ v', e = .returned v' ∧ OI .i64 3 w' w.heap.size v' widthsL ∧ Below w.heap.size w w' := by
  have Hw := Lib.hid hw
  clear hw
  obtain ⟨M, hM⟩ : ∃ M, (nums .i64 widthsL).toArray = M := ⟨_, rfl⟩
  have hMk := idx99
  rw [hM] at hMk
  have HM := Lib.hid hM
  have HMk := Lib.hid hMk
  clear hM hMk
  go_enter Tryd.func65, Tryd.ntmps65
  go_wp2_with (refine go_value (o := ⟨some 4, _, _, _, _, _⟩) (by rfl) (ex_load (by have h := Hw.out.load; rw [HM.out] at h; exact h) rfl rfl) ?_)
  go_loopw [1, 5] (fun lv i wr => ∃ k : Nat, k ≤ 10 ∧ i = .int .i64 k ∧ OI .i64 3 wr w.heap.size lv (widthsL.take k) ∧ Below w.heap.size w wr) (fun _ i _ => 10 - (intOf i).toNat)
  case atStart => exact ⟨0, Nat.zero_le _, rfl, OI.nil _ _ _ _, Below.refl _ _⟩
  case round =>
    obtain ⟨k, hk, rfl, ho, hbr⟩ := hrel
    by_cases hlt : k < 10
    · have hx := HMk.out k hlt
      have hsr := hbr.size
      have htk : widthsL.take (k + 1) = widthsL.take k ++ [widthsL[k]?.getD 0] := by
        rw [List.take_add_one, List.getElem?_eq_getElem (by simpa [widthsL] using hlt)]; rfl
      have Htk := Lib.hid htk
      have hll : (widthsL.take k).length ≤ 10 := by rw [List.length_take]; omega
      generalize widthsL[k]?.getD 0 = y at hx Htk
      clear htk
      go_wp2_with (at_builtin; refine wpList_app1 rfl (.tmp 8) (.tmp 10) 104 3 .i64 8 rfl Tryd.underlying104 oinfo3 (by decide) w.heap.size _ (widthsL.take k) y rfl rfl ho (by omega) hsr ?_; intro v1 w1 ho1 hg1 _)
      go_roundw
      case rel => exact ⟨k + 1, by omega, by go_num, by rw [Htk.out]; exact ho1, below_grownI hbr ho (Nat.le_refl _) hg1⟩
      case measure => simp [intOf]; omega
    · obtain rfl : k = 10 := by omega
      go_wp2
      go_ret
      exact ⟨_, rfl, ho, hbr⟩
end Go.Proofs.YtblfmofhfbbmdaaDoor

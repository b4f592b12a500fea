/- May a record be: the reference's Check. -/
import Derived.Test.YtblfmofhfbbmdaaDoorRec1
set_option linter.unusedVariables false
set_option linter.unusedSimpArgs false
namespace Go.Proofs.YtblfmofhfbbmdaaDoor
open Go.RowKit
set_option maxRecDepth 100000 in
set_option maxHeartbeats 4000000 in
theorem rchk_image (r : Rec) (w : World) (hr : r.ok) (hk1 : r.k = 1) :
    Calls Tryd.prog 42 #[.agg r.cells] w fun e w' => e = .returned (.int .i64 (chkE r)) ∧ Below w.heap.size w w' := by
  have ha := At.new 71 w r
  have h0 := ha.c0
  have h1 := ha.c1
  have h2 := ha.c2
  have h3 := ha.ci hr.n
  clear ha
  have hk2 : (r.k == 2) = false := by rw [hk1]; rfl
  rw [hk1] at h0
  by_cases hb0 : 0 ≤ r.b
  · by_cases hb1 : r.b < 64
    · by_cases hi : r.i = 0
      · have hi2 : r.i = 0 := hi
        rw [hi] at h3
        by_cases hp : r.p ≤ 4611686018427387904
        · have hE : chkE r = 0 := by simp [chkE, okRec, okImage, okCommit, *]
          rw [hE]
          clear hE hk1 hk2 hi hi2
          go_enter Tryd.func42, Tryd.ntmps42
          go_wp2
          go_ret
          exact ⟨rfl, (Below.refl _ _).alloc (Nat.le_refl _) _⟩
        · have hp2 : decide (r.p ≤ 4611686018427387904) = false := by simpa using hp
          have hp3 : 4611686018427387904 < r.p := by omega
          have hE : chkE r = 60 := by simp [chkE, okRec, okImage, okCommit, *]
          rw [hE]
          clear hE hk1 hk2 hi hi2
          go_enter Tryd.func42, Tryd.ntmps42
          go_wp2
          go_ret
          exact ⟨rfl, (Below.refl _ _).alloc (Nat.le_refl _) _⟩
      · have hi2 : (r.i == 0) = false := by simpa using hi
        by_cases hp : r.p ≤ 4611686018427387904
        · have hE : chkE r = 60 := by simp [chkE, okRec, okImage, okCommit, *]
          rw [hE]
          clear hE hk1 hk2 hi
          go_enter Tryd.func42, Tryd.ntmps42
          go_wp2
          go_ret
          exact ⟨rfl, (Below.refl _ _).alloc (Nat.le_refl _) _⟩
        · have hp2 : decide (r.p ≤ 4611686018427387904) = false := by simpa using hp
          have hp3 : 4611686018427387904 < r.p := by omega
          have hE : chkE r = 60 := by simp [chkE, okRec, okImage, okCommit, *]
          rw [hE]
          clear hE hk1 hk2 hi
          go_enter Tryd.func42, Tryd.ntmps42
          go_wp2
          go_ret
          exact ⟨rfl, (Below.refl _ _).alloc (Nat.le_refl _) _⟩
    · have hb2 : decide (r.b < 64) = false := by simpa using hb1
      by_cases hp : r.p ≤ 4611686018427387904
      · have hE : chkE r = 60 := by simp [chkE, okRec, okImage, okCommit, *]
        rw [hE]
        clear hE hk1 hk2
        go_enter Tryd.func42, Tryd.ntmps42
        go_wp2
        go_ret
        exact ⟨rfl, (Below.refl _ _).alloc (Nat.le_refl _) _⟩
      · have hp2 : decide (r.p ≤ 4611686018427387904) = false := by simpa using hp
        have hp3 : 4611686018427387904 < r.p := by omega
        have hE : chkE r = 60 := by simp [chkE, okRec, okImage, okCommit, *]
        rw [hE]
        clear hE hk1 hk2
        go_enter Tryd.func42, Tryd.ntmps42
        go_wp2
        go_ret
        exact ⟨rfl, (Below.refl _ _).alloc (Nat.le_refl _) _⟩
  · have hb2 : decide (0 ≤ r.b) = false := by simpa using hb0
    by_cases hp : r.p ≤ 4611686018427387904
    · have hE : chkE r = 60 := by simp [chkE, okRec, okImage, okCommit, *]
      rw [hE]
      clear hE hk1 hk2
      go_enter Tryd.func42, Tryd.ntmps42
      go_wp2
      go_ret
      exact ⟨rfl, (Below.refl _ _).alloc (Nat.le_refl _) _⟩
    · have hp2 : decide (r.p ≤ 4611686018427387904) = false := by simpa using hp
      have hp3 : 4611686018427387904 < r.p := by omega
      have hE : chkE r = 60 := by simp [chkE, okRec, okImage, okCommit, *]
      rw [hE]
      clear hE hk1 hk2
      go_enter Tryd.func42, Tryd.ntmps42
      go_wp2
      go_ret
      exact ⟨rfl, (Below.refl _ _).alloc (Nat.le_refl _) _⟩
set_option maxRecDepth 100000 in
set_option maxHeartbeats 4000000 in
theorem rchk_commit (r : Rec) (w : World) (hr : r.ok) (hk1 : ¬ r.k = 1) :
    Calls Tryd.prog 42 #[.agg r.cells] w fun e w' => e = .returned (.int .i64 (chkE r)) ∧ Below w.heap.size w w' := by
  have ha := At.new 71 w r
  have h0 := ha.c0
  have h1 := ha.c1
  have h2 := ha.c2
  have h3 := ha.ci hr.n
  have Hv := Lib.hid (ha.val hr.n)
  clear ha
  have hk1b : (r.k == 1) = false := by simpa using hk1
  by_cases hk2 : r.k = 2
  · rw [hk2] at h0
    by_cases hb : r.b = 0
    · have hz := eql63 r.v zero32 hr.n rfl (w.alloc (.cells r.cells 71))
      rw [hb] at h2
      by_cases hv0 : (r.v == zero32) = true
      · simp only [hv0] at hz
        have Hz := Lib.hid hz
        clear hz
        by_cases hi0 : 0 ≤ r.i
        · by_cases hi1 : r.i ≤ 16
          · have tok := trivial
            by_cases hp : r.p ≤ 4611686018427387904
            · have hE : chkE r = 0 := by simp [chkE, okRec, okImage, okCommit, *]
              rw [hE]
              clear hE hk1 hk1b hk2 hb hv0
              go_enter Tryd.func42, Tryd.ntmps42
              go_wp2_with (first
                | (refine go_value (o := ⟨some 33, _, _, _, _, _⟩) (by rfl) (ex_load Hv.out rfl rfl) ?_)
                | (refine go_value (o := ⟨some 34, _, _, _, _, _⟩) (by rfl) (ex_build b63_none rfl rfl) ?_)
                | (refine go_value (o := ⟨some 35, _, _, _, _, _⟩) (by rfl) (ex_bin Hz.out rfl rfl rfl (run_eqGuard_agg _ _ _ _ _ _ _ noGuard63)) ?_))
              go_ret
              exact ⟨rfl, (Below.refl _ _).alloc (Nat.le_refl _) _⟩
            · have hp2 : decide (r.p ≤ 4611686018427387904) = false := by simpa using hp
              have hp3 : 4611686018427387904 < r.p := by omega
              have hE : chkE r = 60 := by simp [chkE, okRec, okImage, okCommit, *]
              rw [hE]
              clear hE hk1 hk1b hk2 hb hv0
              go_enter Tryd.func42, Tryd.ntmps42
              go_wp2_with (first
                | (refine go_value (o := ⟨some 33, _, _, _, _, _⟩) (by rfl) (ex_load Hv.out rfl rfl) ?_)
                | (refine go_value (o := ⟨some 34, _, _, _, _, _⟩) (by rfl) (ex_build b63_none rfl rfl) ?_)
                | (refine go_value (o := ⟨some 35, _, _, _, _, _⟩) (by rfl) (ex_bin Hz.out rfl rfl rfl (run_eqGuard_agg _ _ _ _ _ _ _ noGuard63)) ?_))
              go_ret
              exact ⟨rfl, (Below.refl _ _).alloc (Nat.le_refl _) _⟩
          · have hi2 : decide (r.i ≤ 16) = false := by simpa using hi1
            by_cases hp : r.p ≤ 4611686018427387904
            · have hE : chkE r = 60 := by simp [chkE, okRec, okImage, okCommit, *]
              rw [hE]
              clear hE hk1 hk1b hk2 hb hv0
              go_enter Tryd.func42, Tryd.ntmps42
              go_wp2_with (first
                | (refine go_value (o := ⟨some 33, _, _, _, _, _⟩) (by rfl) (ex_load Hv.out rfl rfl) ?_)
                | (refine go_value (o := ⟨some 34, _, _, _, _, _⟩) (by rfl) (ex_build b63_none rfl rfl) ?_)
                | (refine go_value (o := ⟨some 35, _, _, _, _, _⟩) (by rfl) (ex_bin Hz.out rfl rfl rfl (run_eqGuard_agg _ _ _ _ _ _ _ noGuard63)) ?_))
              go_ret
              exact ⟨rfl, (Below.refl _ _).alloc (Nat.le_refl _) _⟩
            · have hp2 : decide (r.p ≤ 4611686018427387904) = false := by simpa using hp
              have hp3 : 4611686018427387904 < r.p := by omega
              have hE : chkE r = 60 := by simp [chkE, okRec, okImage, okCommit, *]
              rw [hE]
              clear hE hk1 hk1b hk2 hb hv0
              go_enter Tryd.func42, Tryd.ntmps42
              go_wp2_with (first
                | (refine go_value (o := ⟨some 33, _, _, _, _, _⟩) (by rfl) (ex_load Hv.out rfl rfl) ?_)
                | (refine go_value (o := ⟨some 34, _, _, _, _, _⟩) (by rfl) (ex_build b63_none rfl rfl) ?_)
                | (refine go_value (o := ⟨some 35, _, _, _, _, _⟩) (by rfl) (ex_bin Hz.out rfl rfl rfl (run_eqGuard_agg _ _ _ _ _ _ _ noGuard63)) ?_))
              go_ret
              exact ⟨rfl, (Below.refl _ _).alloc (Nat.le_refl _) _⟩
        · have hi2 : decide (0 ≤ r.i) = false := by simpa using hi0
          by_cases hp : r.p ≤ 4611686018427387904
          · have hE : chkE r = 60 := by simp [chkE, okRec, okImage, okCommit, *]
            rw [hE]
            clear hE hk1 hk1b hk2 hb hv0
            go_enter Tryd.func42, Tryd.ntmps42
            go_wp2_with (first
              | (refine go_value (o := ⟨some 33, _, _, _, _, _⟩) (by rfl) (ex_load Hv.out rfl rfl) ?_)
              | (refine go_value (o := ⟨some 34, _, _, _, _, _⟩) (by rfl) (ex_build b63_none rfl rfl) ?_)
              | (refine go_value (o := ⟨some 35, _, _, _, _, _⟩) (by rfl) (ex_bin Hz.out rfl rfl rfl (run_eqGuard_agg _ _ _ _ _ _ _ noGuard63)) ?_))
            go_ret
            exact ⟨rfl, (Below.refl _ _).alloc (Nat.le_refl _) _⟩
          · have hp2 : decide (r.p ≤ 4611686018427387904) = false := by simpa using hp
            have hp3 : 4611686018427387904 < r.p := by omega
            have hE : chkE r = 60 := by simp [chkE, okRec, okImage, okCommit, *]
            rw [hE]
            clear hE hk1 hk1b hk2 hb hv0
            go_enter Tryd.func42, Tryd.ntmps42
            go_wp2_with (first
              | (refine go_value (o := ⟨some 33, _, _, _, _, _⟩) (by rfl) (ex_load Hv.out rfl rfl) ?_)
              | (refine go_value (o := ⟨some 34, _, _, _, _, _⟩) (by rfl) (ex_build b63_none rfl rfl) ?_)
              | (refine go_value (o := ⟨some 35, _, _, _, _, _⟩) (by rfl) (ex_bin Hz.out rfl rfl rfl (run_eqGuard_agg _ _ _ _ _ _ _ noGuard63)) ?_))
            go_ret
            exact ⟨rfl, (Below.refl _ _).alloc (Nat.le_refl _) _⟩
      · have hv1 : (r.v == zero32) = false := by simpa using hv0
        simp only [hv1] at hz
        have Hz := Lib.hid hz
        clear hz
        by_cases hp : r.p ≤ 4611686018427387904
        · have hE : chkE r = 60 := by simp [chkE, okRec, okImage, okCommit, *]
          rw [hE]
          clear hE hk1 hk1b hk2 hb hv0 hv1
          go_enter Tryd.func42, Tryd.ntmps42
          go_wp2_with (first
            | (refine go_value (o := ⟨some 33, _, _, _, _, _⟩) (by rfl) (ex_load Hv.out rfl rfl) ?_)
            | (refine go_value (o := ⟨some 34, _, _, _, _, _⟩) (by rfl) (ex_build b63_none rfl rfl) ?_)
            | (refine go_value (o := ⟨some 35, _, _, _, _, _⟩) (by rfl) (ex_bin Hz.out rfl rfl rfl (run_eqGuard_agg _ _ _ _ _ _ _ noGuard63)) ?_))
          go_ret
          exact ⟨rfl, (Below.refl _ _).alloc (Nat.le_refl _) _⟩
        · have hp2 : decide (r.p ≤ 4611686018427387904) = false := by simpa using hp
          have hp3 : 4611686018427387904 < r.p := by omega
          have hE : chkE r = 60 := by simp [chkE, okRec, okImage, okCommit, *]
          rw [hE]
          clear hE hk1 hk1b hk2 hb hv0 hv1
          go_enter Tryd.func42, Tryd.ntmps42
          go_wp2_with (first
            | (refine go_value (o := ⟨some 33, _, _, _, _, _⟩) (by rfl) (ex_load Hv.out rfl rfl) ?_)
            | (refine go_value (o := ⟨some 34, _, _, _, _, _⟩) (by rfl) (ex_build b63_none rfl rfl) ?_)
            | (refine go_value (o := ⟨some 35, _, _, _, _, _⟩) (by rfl) (ex_bin Hz.out rfl rfl rfl (run_eqGuard_agg _ _ _ _ _ _ _ noGuard63)) ?_))
          go_ret
          exact ⟨rfl, (Below.refl _ _).alloc (Nat.le_refl _) _⟩
    · have hb2 : (r.b == 0) = false := by simpa using hb
      by_cases hp : r.p ≤ 4611686018427387904
      · have hE : chkE r = 60 := by simp [chkE, okRec, okImage, okCommit, *]
        rw [hE]
        clear hE hk1 hk1b hk2 hb
        go_enter Tryd.func42, Tryd.ntmps42
        go_wp2
        go_ret
        exact ⟨rfl, (Below.refl _ _).alloc (Nat.le_refl _) _⟩
      · have hp2 : decide (r.p ≤ 4611686018427387904) = false := by simpa using hp
        have hp3 : 4611686018427387904 < r.p := by omega
        have hE : chkE r = 60 := by simp [chkE, okRec, okImage, okCommit, *]
        rw [hE]
        clear hE hk1 hk1b hk2 hb
        go_enter Tryd.func42, Tryd.ntmps42
        go_wp2
        go_ret
        exact ⟨rfl, (Below.refl _ _).alloc (Nat.le_refl _) _⟩
  · have hk2b : (r.k == 2) = false := by simpa using hk2
    by_cases hp : r.p ≤ 4611686018427387904
    · have hE : chkE r = 60 := by simp [chkE, okRec, okImage, okCommit, *]
      rw [hE]
      clear hE hk1 hk2
      go_enter Tryd.func42, Tryd.ntmps42
      go_wp2
      go_ret
      exact ⟨rfl, (Below.refl _ _).alloc (Nat.le_refl _) _⟩
    · have hp2 : decide (r.p ≤ 4611686018427387904) = false := by simpa using hp
      have hp3 : 4611686018427387904 < r.p := by omega
      have hE : chkE r = 60 := by simp [chkE, okRec, okImage, okCommit, *]
      rw [hE]
      clear hE hk1 hk2
      go_enter Tryd.func42, Tryd.ntmps42
      go_wp2
      go_ret
      exact ⟨rfl, (Below.refl _ _).alloc (Nat.le_refl _) _⟩
theorem rchk_any (r : Rec) (w : World) (hr : r.ok) :
    Calls Tryd.prog 42 #[.agg r.cells] w fun e w' => e = .returned (.int .i64 (chkE r)) ∧ Below w.heap.size w w' := by
  by_cases h : r.k = 1
  · exact rchk_image r w hr h
  · exact rchk_commit r w hr h
end Go.Proofs.YtblfmofhfbbmdaaDoor

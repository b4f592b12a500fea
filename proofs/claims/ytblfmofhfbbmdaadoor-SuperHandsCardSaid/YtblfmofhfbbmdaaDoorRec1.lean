/- May a record be: the program's Check and the reference's. -/
import Derived.Test.YtblfmofhfbbmdaaDoorSteps
set_option linter.unusedVariables false
set_option linter.unusedSimpArgs false
namespace Go.Proofs.YtblfmofhfbbmdaaDoor
open Go.RowKit

def okImage (r : Rec) : Bool := r.k == 1 && (decide (0 ≤ r.b) && (decide (r.b < 64) && r.i == 0))
def okCommit (r : Rec) : Bool := r.k == 2 && (decide (0 ≤ r.i) && (decide (r.i ≤ 16) && (r.b == 0 && r.v == zero32)))
def okRec (r : Rec) : Bool := decide (r.p ≤ 4611686018427387904) && (okImage r || okCommit r)
def chkE (r : Rec) : Int := if okRec r = true then 0 else 60
theorem b63_none : Tryd.prog.built 63 [] = some (bytes zero32).toArray := by kernel_rfl
set_option maxRecDepth 100000 in
set_option maxHeartbeats 2000000 in
theorem chk_any (r : Rec) (w : World) (hr : r.ok) :
    Calls Tryd.prog 38 #[.agg r.cells] w fun e w' => e = .returned (.int .i64 (chkE r)) ∧ Below w.heap.size w w' := by
  have ha := At.new 66 w r
  have h0 := ha.c0
  have h1 := ha.c1
  have h2 := ha.c2
  have h3 := ha.ci hr.n
  have hv := ha.val hr.n
  clear ha
  by_cases hk1 : r.k = 1
  · have hk2 : (r.k == 2) = false := by rw [hk1]; rfl
    rw [hk1] at h0
    by_cases hp : r.p ≤ 4611686018427387904
    · by_cases hb0 : 0 ≤ r.b
      · by_cases hb1 : r.b < 64
        · by_cases hi : r.i = 0
          · have Hk := Lib.hid hk1
            rw [hi] at h3
            have hE : chkE r = 0 := by simp [chkE, okRec, okImage, okCommit, *]
            rw [hE]
            clear hE hk1 hi hk2
            go_enter Tryd.func38, Tryd.ntmps38
            go_wp2
            go_ret
            exact ⟨rfl, (Below.refl _ _).alloc (Nat.le_refl _) _⟩
          · have hi2 : (r.i == 0) = false := by simpa using hi
            have hE : chkE r = 60 := by simp [chkE, okRec, okImage, okCommit, *]
            rw [hE]
            clear hE hk1 hi hk2
            go_enter Tryd.func38, Tryd.ntmps38
            go_wp2
            go_ret
            exact ⟨rfl, (Below.refl _ _).alloc (Nat.le_refl _) _⟩
        · have hb2 : decide (r.b < 64) = false := by simpa using hb1
          have hE : chkE r = 60 := by simp [chkE, okRec, okImage, okCommit, *]
          rw [hE]
          clear hE hk1 hk2
          go_enter Tryd.func38, Tryd.ntmps38
          go_wp2
          go_ret
          exact ⟨rfl, (Below.refl _ _).alloc (Nat.le_refl _) _⟩
      · have hb2 : decide (0 ≤ r.b) = false := by simpa using hb0
        have hE : chkE r = 60 := by simp [chkE, okRec, okImage, okCommit, *]
        rw [hE]
        clear hE hk1 hk2
        go_enter Tryd.func38, Tryd.ntmps38
        go_wp2
        go_ret
        exact ⟨rfl, (Below.refl _ _).alloc (Nat.le_refl _) _⟩
    · have hp2 : decide (r.p ≤ 4611686018427387904) = false := by simpa using hp
      have hE : chkE r = 60 := by simp [chkE, okRec, okImage, okCommit, *]
      rw [hE]
      clear hE hk1 hk2
      go_enter Tryd.func38, Tryd.ntmps38
      go_wp2
      go_ret
      exact ⟨rfl, (Below.refl _ _).alloc (Nat.le_refl _) _⟩
  · have hk1b : (r.k == 1) = false := by simpa using hk1
    by_cases hk2 : r.k = 2
    · rw [hk2] at h0
      by_cases hp : r.p ≤ 4611686018427387904
      · by_cases hi0 : 0 ≤ r.i
        · by_cases hi1 : r.i ≤ 16
          · by_cases hb : r.b = 0
            · have hz := eql63 r.v zero32 hr.n rfl (w.alloc (.cells r.cells 66))
              rw [hb] at h2
              have Hv := Lib.hid hv
              clear hv
              by_cases hv0 : (r.v == zero32) = true
              · simp only [hv0] at hz
                have Hz := Lib.hid hz
                have hE : chkE r = 0 := by simp [chkE, okRec, okImage, okCommit, *]
                rw [hE]
                clear hE hz hk1 hk1b hk2 hb hv0
                go_enter Tryd.func38, Tryd.ntmps38
                go_wp2_with (first
                  | (refine go_value (o := ⟨some 47, _, _, _, _, _⟩) (by rfl) (ex_load Hv.out rfl rfl) ?_)
                  | (refine go_value (o := ⟨some 48, _, _, _, _, _⟩) (by rfl) (ex_build b63_none rfl rfl) ?_)
                  | (refine go_value (o := ⟨some 49, _, _, _, _, _⟩) (by rfl) (ex_bin Hz.out rfl rfl rfl (run_eqGuard_agg _ _ _ _ _ _ _ noGuard63)) ?_))
                go_ret
                exact ⟨rfl, (Below.refl _ _).alloc (Nat.le_refl _) _⟩
              · have hv1 : (r.v == zero32) = false := by simpa using hv0
                simp only [hv1] at hz
                have Hz := Lib.hid hz
                have hE : chkE r = 60 := by simp [chkE, okRec, okImage, okCommit, *]
                rw [hE]
                clear hE hz hk1 hk1b hk2 hb hv0 hv1
                go_enter Tryd.func38, Tryd.ntmps38
                go_wp2_with (first
                  | (refine go_value (o := ⟨some 47, _, _, _, _, _⟩) (by rfl) (ex_load Hv.out rfl rfl) ?_)
                  | (refine go_value (o := ⟨some 48, _, _, _, _, _⟩) (by rfl) (ex_build b63_none rfl rfl) ?_)
                  | (refine go_value (o := ⟨some 49, _, _, _, _, _⟩) (by rfl) (ex_bin Hz.out rfl rfl rfl (run_eqGuard_agg _ _ _ _ _ _ _ noGuard63)) ?_))
                go_ret
                exact ⟨rfl, (Below.refl _ _).alloc (Nat.le_refl _) _⟩
            · have hb2 : (r.b == 0) = false := by simpa using hb
              have hE : chkE r = 60 := by simp [chkE, okRec, okImage, okCommit, *]
              rw [hE]
              clear hE hk1 hk1b hk2 hb
              go_enter Tryd.func38, Tryd.ntmps38
              go_wp2
              go_ret
              exact ⟨rfl, (Below.refl _ _).alloc (Nat.le_refl _) _⟩
          · have hi2 : decide (r.i ≤ 16) = false := by simpa using hi1
            have hE : chkE r = 60 := by simp [chkE, okRec, okImage, okCommit, *]
            rw [hE]
            clear hE hk1 hk1b hk2
            go_enter Tryd.func38, Tryd.ntmps38
            go_wp2
            go_ret
            exact ⟨rfl, (Below.refl _ _).alloc (Nat.le_refl _) _⟩
        · have hi2 : decide (0 ≤ r.i) = false := by simpa using hi0
          have hE : chkE r = 60 := by simp [chkE, okRec, okImage, okCommit, *]
          rw [hE]
          clear hE hk1 hk1b hk2
          go_enter Tryd.func38, Tryd.ntmps38
          go_wp2
          go_ret
          exact ⟨rfl, (Below.refl _ _).alloc (Nat.le_refl _) _⟩
      · have hp2 : decide (r.p ≤ 4611686018427387904) = false := by simpa using hp
        have hE : chkE r = 60 := by simp [chkE, okRec, okImage, okCommit, *]
        rw [hE]
        clear hE hk1 hk1b hk2
        go_enter Tryd.func38, Tryd.ntmps38
        go_wp2
        go_ret
        exact ⟨rfl, (Below.refl _ _).alloc (Nat.le_refl _) _⟩
    · have hk2b : (r.k == 2) = false := by simpa using hk2
      have hE : chkE r = 60 := by simp [chkE, okRec, okImage, okCommit, *]
      rw [hE]
      clear hE hk1 hk2
      go_enter Tryd.func38, Tryd.ntmps38
      go_wp2
      go_ret
      exact ⟨rfl, (Below.refl _ _).alloc (Nat.le_refl _) _⟩
end Go.Proofs.YtblfmofhfbbmdaaDoor

/- A record brought into its bounds (wicketlaw06.right). -/
import Derived.Test.YtblfmofhfbbmdaaDoorRecA
set_option linter.unusedVariables false
set_option linter.unusedSimpArgs false
namespace Go.Proofs.YtblfmofhfbbmdaaDoor
open Go.RowKit Crc

theorem Rec.setp (r : Rec) (p : Int) : r.cells.setIfInBounds 1 (.int .u64 p) = ({ r with p := p } : Rec).cells := by
  apply Array.ext'
  simp [Rec.cells]
set_option maxRecDepth 100000 in
set_option maxHeartbeats 2000000 in
theorem right_any (r : Rec) (w : World) (hr : r.ok) :
    Calls Tryd.prog 46 #[.agg r.cells] w fun e w' => ∃ s : Rec, e = .returned (.agg s.cells) ∧ s.ok ∧ okRec s = true ∧ Below w.heap.size w w' := by
  have HA := Lib.hid ((At.new 71 w r).below (below_alloc (Below.refl _ _) (.cells Rec.zero.cells 66)))
  have hz := At.new 66 (w.alloc (.cells r.cells 71)) Rec.zero
  rw [World.size_alloc] at hz
  have HZ := Lib.hid hz
  have hb0 := Lib.hid (below_alloc (below_alloc (Below.refl w.heap.size w) (.cells r.cells 71)) (.cells Rec.zero.cells 66))
  have hp := hr.p
  clear hz
  go_enter Tryd.func46, Tryd.ntmps46
  go_upto_region 1 with (first
    | (refine go_value (o := ⟨some 2, _, _, _, _, _⟩) (by rfl) (ex_alloc (run_alloc66 _) rfl) ?_)
    | fail)
  generalize (w.alloc (.cells r.cells 71)).alloc (.cells Rec.zero.cells 66) = W at HA HZ hb0 ⊢
  have c1 := HA.out.c1
  have f1 := HA.out.free 1
  obtain ⟨p', hp'⟩ : ∃ p', r.p % 4611686018427387905 = p' := ⟨_, rfl⟩
  have hpr : 0 ≤ p' ∧ p' ≤ 4611686018427387904 := by omega
  have Hp' := Lib.hid hp'
  clear hp'
  have HA2 : Hid (At 71 (W.setCell ⟨w.heap.size, 1, none⟩ (.int .u64 p')) w.heap.size { r with p := p' }) := Lib.hid (by have h9 := heap_setCell_same W w.heap.size 1 _ _ (.int .u64 p') HA.out; rw [Rec.setp] at h9; exact h9)
  have HZ2 : Hid (At 66 (W.setCell ⟨w.heap.size, 1, none⟩ (.int .u64 p')) (w.heap.size + 1) Rec.zero) := Lib.hid ((heap_setCell_other W ⟨w.heap.size, 1, none⟩ (w.heap.size + 1) _ (by simp)).trans HZ.out)
  have hb2 : Hid (Below w.heap.size w (W.setCell ⟨w.heap.size, 1, none⟩ (.int .u64 p'))) := Lib.hid (hb0.out.setCell (Nat.le_refl _) _)
  go_upto_region 2 with fail
  rw [Hp'.out]
  generalize W.setCell ⟨w.heap.size, 1, none⟩ (.int .u64 p') = W2 at HA2 HZ2 hb2 ⊢
  clear c1 f1 HA HZ hb0 Hp' hp
  have c0 := HA2.out.c0
  have c1 := HA2.out.c1
  have c2 := HA2.out.c2
  have c3 := HA2.out.ci hr.n
  simp only at c0 c1 c2 c3
  have Hv : Hid ((loadVar 63 ⟨w.heap.size, 3, none⟩).run Tryd.prog W2 = .ok (.agg (bytes r.v).toArray) W2) := HA2.out.val hr.n
  clear HA2
  by_cases hk : r.k.tmod 2 = 0
  · have hk2 : (r.k.tmod 2 == 0) = true := by simpa using hk
    have hd : decide (r.k.tmod 2 = 0) = true := by simpa using hk
    obtain ⟨t, ht⟩ : ∃ t, r.i.tmod 17 = t := ⟨_, rfl⟩
    have ht1 : -17 < t ∧ t < 17 := by
      have := Int.tmod_lt_of_pos r.i (b := 17) (by decide)
      have := Int.lt_tmod_of_pos r.i (b := 17) (by decide)
      omega
    obtain ⟨q, hq⟩ : ∃ q, (t + 17) % 17 = q := ⟨_, rfl⟩
    have hq1 : 0 ≤ q ∧ q ≤ 16 := by omega
    have Hok : Hid (Rec.ok ⟨2, p', 0, zero32, q⟩) := Lib.hid ⟨by simp, ⟨hpr.1, by show p' < _; omega⟩, by simp, Rec.zero_ok.v, rfl, by show -9223372036854775808 ≤ q ∧ q ≤ _; omega⟩
    have Hk : Hid (okRec ⟨2, p', 0, zero32, q⟩ = true) := Lib.hid (by simp [okRec, okCommit, hpr.2, hq1.1, hq1.2])
    clear hk
    go_wp2_with (first
      | (refine go_value (o := ⟨some 18, _, _, _, _, _⟩) (by rfl) (ex_build (b66_commit 2 p' q) rfl rfl) ?_)
      | (refine go_skip (o := ⟨none, .store 66 _ _, _, _, _, _⟩) (by rfl) (ex_store (HZ2.out.store66 zero_n (s := ⟨2, p', 0, zero32, q⟩) rfl) rfl rfl rfl) ?_))
    refine bodyPost_ret_by (results_cell_row (p := 2) (ty := 66) (by kernel_rfl) _ _ (w.heap.size + 1) 66 (Rec.mk 2 p' 0 zero32 q).cells (0, 0) _ rfl (HZ2.out.set (s := ⟨2, p', 0, zero32, q⟩)) Tryd.underlying66 rfl (Rec.size66 rfl)) rfl ⟨_, rfl, Hok.out, Hk.out, Below.setRow' hb2.out (Nat.le_succ _) _⟩
  · have hk2 : (r.k.tmod 2 == 0) = false := by simpa using hk
    have hd : decide (r.k.tmod 2 = 0) = false := by simpa using hk
    obtain ⟨t, ht⟩ : ∃ t, r.b.tmod 64 = t := ⟨_, rfl⟩
    have ht1 : -64 < t ∧ t < 64 := by
      have := Int.tmod_lt_of_pos r.b (b := 64) (by decide)
      have := Int.lt_tmod_of_pos r.b (b := 64) (by decide)
      omega
    have hq1 : 0 ≤ ((t + 64) % 64) ∧ ((t + 64) % 64) < 64 := by omega
    have Hok : Hid (Rec.ok ⟨1, p', ((t + 64) % 64), r.v, 0⟩) := Lib.hid ⟨by simp, ⟨hpr.1, by show p' < _; omega⟩, by show -9223372036854775808 ≤ ((t + 64) % 64) ∧ ((t + 64) % 64) ≤ _; omega, hr.v, hr.n, by simp⟩
    have Hk : Hid (okRec ⟨1, p', ((t + 64) % 64), r.v, 0⟩ = true) := Lib.hid (by simp only [okRec, okImage, Bool.and_eq_true, Bool.or_eq_true, decide_eq_true_eq, beq_iff_eq]; exact ⟨hpr.2, Or.inl ⟨trivial, hq1.1, hq1.2, trivial⟩⟩)
    clear hk
    go_wp2_with (first
      | (refine go_value (o := ⟨some 27, _, _, _, _, _⟩) (by rfl) (ex_load Hv.out rfl rfl) ?_)
      | (refine go_value (o := ⟨some 28, _, _, _, _, _⟩) (by rfl) (ex_build (b66_image 1 p' ((t + 64) % 64) r.v hr.n) rfl rfl) ?_)
      | (refine go_skip (o := ⟨none, .store 66 _ _, _, _, _, _⟩) (by rfl) (ex_store (HZ2.out.store66 zero_n (s := ⟨1, p', ((t + 64) % 64), r.v, 0⟩) hr.n) rfl rfl rfl) ?_))
    refine bodyPost_ret_by (results_cell_row (p := 2) (ty := 66) (by kernel_rfl) _ _ (w.heap.size + 1) 66 (Rec.mk 1 p' ((t + 64) % 64) r.v 0).cells (0, 0) _ rfl (HZ2.out.set (s := ⟨1, p', ((t + 64) % 64), r.v, 0⟩)) Tryd.underlying66 rfl (Rec.size66 hr.n)) rfl ⟨_, rfl, Hok.out, Hk.out, Below.setRow' hb2.out (Nat.le_succ _) _⟩
end Go.Proofs.YtblfmofhfbbmdaaDoor

/- Held only reads. -/
import Derived.Test.YtblfmofhfbbmdaaRoom
set_option linter.unusedVariables false
set_option linter.unusedSimpArgs false
namespace Go.Proofs.Ytblfmofhfbbmdaa
open Go.RowKit
set_option maxHeartbeats 2000000 in
theorem held_quiet (g n c : Nat) (u : Value) (xs : List Int) (w : World) (hv : RBy w (.slice (some ⟨g, 0, none⟩) (n + 2) c) (xs ++ [90, 165])) (hn : xs.length = n) (hc : n + 2 ≤ c) (hu : RBy w u xs) :
    Calls Try.prog 19 #[.slice (some ⟨g, 0, none⟩) n c, u] w fun e w' => e = .returned (.bool true) ∧ ∃ k, w' = w.drewN k := by
  obtain ⟨A, cu, rfl, hcu⟩ := hu.form
  have hnm : n + 2 ≤ 9223372036854775807 := by
    obtain ⟨_, _, _, _, h9, _⟩ := hv
    simp at h9; omega
  have hfront : RBy w (.slice (some ⟨g, 0, none⟩) n c) xs := by
    have := hv.first (m := n) (by simp; omega)
    rwa [List.take_left' hn] at this
  have hdn : ∀ k, Below w.heap.size w (w.drewN k) := fun k => below_drewN (Below.refl _ _) k
  have k1 := fun k => conv_str (hfront.below (hdn k))
  have k2 := fun k => conv_str (hu.below (hdn k))
  have k3 : w.cell? ⟨g, n, none⟩ = some (.int .u8 90) := by
    obtain ⟨A', c', e, -, -, -, -, h5⟩ := hv
    simp only [Value.slice.injEq] at e
    obtain ⟨ad, e2, h6⟩ := h5 (by simp)
    rw [e2] at e
    obtain ⟨e3, -, -⟩ := e
    cases e3
    have := h6 n (by simp; omega)
    rw [add_plain, List.getElem?_append_right (by omega), hn] at this
    simpa using this
  have k4 : w.cell? ⟨g, n + 1, none⟩ = some (.int .u8 165) := by
    obtain ⟨A', c', e, -, -, -, -, h5⟩ := hv
    simp only [Value.slice.injEq] at e
    obtain ⟨ad, e2, h6⟩ := h5 (by simp)
    rw [e2] at e
    obtain ⟨e3, -, -⟩ := e
    cases e3
    have := h6 (n + 1) (by simp; omega)
    rw [add_plain, List.getElem?_append_right (by omega), hn] at this
    simpa using this
  have hsum : IntKind.i64.wrap ((n : Int) + 1) = (n : Int) + 1 := by simp [IntKind.wrap, IntKind.bits, IntKind.signed]; omega
  have hto : ((n : Int) + 1).toNat = n + 1 := by omega
  rw [hn] at k2 hu hcu ⊢
  have hnc : n ≤ c := by omega
  have Hdn := Lib.hid hdn
  clear hv hu hfront hdn
  go_enter Try.func19, Try.ntmps19
  go_wp2
  go_quiet (fail)
  go_wp2
  go_ret
  exact ⟨by simp, _, rfl⟩

end Go.Proofs.Ytblfmofhfbbmdaa

/- What heldSizes of wicketlaw01 comes to. -/
import Derived.Test.YtblfmofhfbbmdaaRoom
set_option linter.unusedVariables false
set_option linter.unusedSimpArgs false
namespace Go.Proofs.Ytblfmofhfbbmdaa
open Go.RowKit

theorem RI.at {k : IntKind} {w : World} {g n c : Nat} {xs : List Int} (h : RI k w (.slice (some ⟨g, 0, none⟩) n c) xs) (j : Nat) (hj : j < xs.length) : w.cell? ⟨g, j, none⟩ = some (.int k (xs[j]?.getD 0)) := by
  obtain ⟨A', c', e, -, -, -, h5⟩ := h
  simp only [Value.slice.injEq] at e
  obtain ⟨ad, e2, h6⟩ := h5 (by omega)
  rw [e2] at e
  obtain ⟨e3, -, -⟩ := e
  cases e3
  have := h6 j hj
  rwa [add_plain] at this

set_option maxHeartbeats 2000000 in
theorem heldSizes_any (g n c : Nat) (u : Value) (xs : List Int) (w : World) (hv : RI .i64 w (.slice (some ⟨g, 0, none⟩) (n + 2) c) (xs ++ [77, 78])) (hn : xs.length = n) (hc : n + 2 ≤ c) (hu : RI .i64 w u xs) :
    Calls Try.prog 25 #[.slice (some ⟨g, 0, none⟩) n c, u] w fun e w' => e = .returned (.bool true) ∧ Below w.heap.size w w' := by
  obtain ⟨A, cu, hcu, hun, hA, rfl, hcell⟩ : ∃ A cu, xs.length ≤ cu ∧ xs.length ≤ 9223372036854775807 ∧ (A = none → cu = 0) ∧ u = .slice A xs.length cu ∧ (0 < xs.length → ∃ ad, A = some ad ∧ ∀ j, j < xs.length → w.cell? (ad.add j) = some (.int .i64 (xs[j]?.getD 0))) := by
    obtain ⟨A, cu, e, h1, h2, h3, h4⟩ := hu
    exact ⟨A, cu, h1, h2, h3, e, h4⟩
  have hnm : n + 2 ≤ 9223372036854775807 := by
    obtain ⟨_, _, _, _, h9, _⟩ := hv
    simp at h9; omega
  have k3 : w.cell? ⟨g, n, none⟩ = some (.int .i64 77) := by
    have := hv.at n (by simp; omega)
    rw [List.getElem?_append_right (by omega), hn] at this
    simpa using this
  have k4 : w.cell? ⟨g, n + 1, none⟩ = some (.int .i64 78) := by
    have := hv.at (n + 1) (by simp; omega)
    rw [List.getElem?_append_right (by omega), hn] at this
    simpa using this
  have Hv := Lib.hid (show ∀ j, j < n → w.cell? ⟨g, j, none⟩ = some (.int .i64 (xs[j]?.getD 0)) from fun j hj => by
    have := hv.at j (by simp; omega)
    rwa [List.getElem?_append_left (by omega)] at this)
  have K3 := Lib.hid k3
  have K4 := Lib.hid k4
  rw [hn] at hcell hcu ⊢
  have Hcell := Lib.hid hcell
  have hto : ((n : Int) + 1).toNat = n + 1 := by omega
  have hnc : n ≤ c := by omega
  clear hv hu k3 k4 hcell hun
  go_enter Try.func25, Try.ntmps25
  go_wp2
  go_loopw [6] (fun i wr => ∃ t : Nat, i = .int .i64 (t : Int) ∧ t ≤ n ∧ Hid (Below w.heap.size w wr)) (fun i _ => n - (intOf i).toNat)
  case atStart => exact ⟨0, rfl, Nat.zero_le _, Below.refl _ _⟩
  case round =>
    obtain ⟨t, rfl, ht, Hb⟩ := hrel
    by_cases hlt : t < n
    · obtain ⟨ad, rfl, hcs⟩ := Hcell.out (by omega)
      have h1 := keep_cell Hb.out (Nat.le_refl _) (hcs t hlt)
      have h2 := keep_cell Hb.out (Nat.le_refl _) (Hv.out t hlt)
      clear hcs
      generalize xs[t]?.getD 0 = x0 at h1 h2
      go_wp2
      go_quiet (fail)
      go_wp2
      go_roundw
      case rel => exact ⟨t + 1, by go_num, by omega, below_drewN Hb.out _⟩
      case measure => simp [intOf]; omega
    · obtain rfl : t = n := by omega
      have k3 := keep_cell Hb.out (Nat.le_refl _) K3.out
      have k4 := keep_cell Hb.out (Nat.le_refl _) K4.out
      go_wp2
      go_ret
      exact ⟨by simp, Hb.out⟩
end Go.Proofs.Ytblfmofhfbbmdaa

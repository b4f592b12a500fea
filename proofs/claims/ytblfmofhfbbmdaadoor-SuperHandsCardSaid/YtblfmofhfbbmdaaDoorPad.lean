/- What the functions of package octet come to: the walk of Pad. -/
import Derived.Test.YtblfmofhfbbmdaaDoorOct2
set_option linter.unusedVariables false
set_option linter.unusedSimpArgs false
namespace Go.Proofs.YtblfmofhfbbmdaaDoor
open Go.RowKit

/-- A written row of numbers is read. -/
theorem RI.lit {k : IntKind} {w : World} {b n c : Nat} {arr : Array Value} {t : TypeId} {fr : Nat × Nat} (xs : List Int) (hg : w.heap[b]? = some (.cells arr t fr)) (ha : arr.toList = nums k xs) (hn : n = xs.length) (hc : n ≤ c) (hl : xs.length ≤ 9223372036854775807) : RI k w (.slice (some ⟨b, 0, none⟩) n c) xs := by
  subst hn
  exact RI.row hg xs c hc hl (by rw [ha, List.take_of_length_le (by simp [nums])])

def padF (xs : List Int) (s : Int) : List Int × Int :=
  if s < 0 ∨ 64 < s then ([], 2) else if s < xs.length then ([], 10) else (xs ++ List.replicate (s - xs.length).toNat 0, 0)
set_option maxHeartbeats 1000000 in
theorem pad_any (v : Value) (xs : List Int) (s : Int) (w : World) (hv : RBy w v xs) (hs : -9223372036854775808 ≤ s ∧ s ≤ 9223372036854775807) :
    Calls Tryd.prog 62 #[v, .int .i64 s] w fun e w' => ∃ v1, e = .returned (.tuple #[v1, .int .i64 (padF xs s).2]) ∧ OB w' w.heap.size v1 (padF xs s).1 ∧ Below w.heap.size w w' := by
  obtain ⟨Ab, cb, rfl, hcb, hnb, -, -, -⟩ := id hv
  by_cases h1 : s < 0
  · have hE : padF xs s = ([], 2) := by rw [padF, if_pos (Or.inl h1)]
    rw [hE]
    clear hE
    go_enter Tryd.func62, Tryd.ntmps62
    go_wp2
    go_ret2
    exact ⟨_, rfl, OB.nil _ _, Below.refl _ _⟩
  by_cases h2 : 64 < s
  · have hE : padF xs s = ([], 2) := by rw [padF, if_pos (Or.inr h2)]
    rw [hE]
    clear hE
    go_enter Tryd.func62, Tryd.ntmps62
    go_wp2
    go_ret2
    exact ⟨_, rfl, OB.nil _ _, Below.refl _ _⟩
  obtain ⟨m, rfl⟩ := Int.eq_ofNat_of_zero_le (by omega : 0 ≤ s)
  by_cases h3 : m < xs.length
  · have hE : padF xs m = ([], 10) := by rw [padF, if_neg (by omega), if_pos (by omega)]
    rw [hE]
    clear hE
    go_enter Tryd.func62, Tryd.ntmps62
    go_wp2
    go_ret2
    exact ⟨_, rfl, OB.nil _ _, Below.refl _ _⟩
  · obtain ⟨d, rfl⟩ : ∃ d, m = xs.length + d := ⟨m - xs.length, by omega⟩
    have hE : padF xs (xs.length + d : Nat) = (xs ++ List.replicate d 0, 0) := by
      rw [padF, if_neg (by omega), if_neg (by omega), show ((xs.length + d : Nat) : Int) - (xs.length : Int) = (d : Int) by omega, Int.toNat_natCast]
    rw [hE]
    clear hE
    have hmk := mk_bytes d (by omega)
    have hsub : ((xs.length : Int) + (d : Int)) - (xs.length : Int) = (d : Int) := by omega
    go_enter Tryd.func62, Tryd.ntmps62
    have hmade := ob_made w w.heap.size d (Nat.le_refl _) (by omega)
    have hb0 := below_alloc (Below.refl w.heap.size w) (.cells (madeCells #[.int .u8 0] d) 5)
    have hv0 := hv.below hb0
    have hlen2 : [xs, List.replicate d 0].flatten.length ≤ 140737488355328 := by simp; omega
    have hR := RBs.two (t := 25) (c := 2) (heap_top (w.alloc (.cells (madeCells #[.int .u8 0] d) 5)) (.cells #[.slice Ab xs.length cb, .slice (some ⟨w.heap.size, 0, none⟩) d d] 25) (w.heap.size + 1) (by simp)) (by decide) (hv0.below (below_alloc (Below.refl _ _) _)) (hmade.reads.below (below_alloc (Below.refl _ _) _))
    have HR := Lib.hid hR
    have Hlen2 := Lib.hid hlen2
    clear hmade hv0 hR hlen2
    go_wp2_with (go_at_call 79; refine (ojoin_any _ [xs, List.replicate d 0] _ HR.out Hlen2.out).mono ?_; rintro e w' ⟨v', rfl, ho, hb⟩; have hb := Lib.hid (below_then (below_alloc hb0 _) hb))
    go_ret2
    exact ⟨_, rfl, by have h9 := ho.lower (b2 := w.heap.size) (by simp; omega); simpa using h9, hb.out⟩

end Go.Proofs.YtblfmofhfbbmdaaDoor

/- The arguments of a law, read. -/
import Derived.Test.YtblfmofhfbbmdaaOct0
import Derived.OpenShut
import Derived.ProofKit
set_option linter.unusedVariables false
set_option linter.unusedSimpArgs false
namespace Go.Proofs.Ytblfmofhfbbmdaa
open Go.RowKit Go.ChangeShapes Go.WideShapes Go.ChangeAt
theorem range_u8 {n : Int} (h : (Lit.int .u8 n).wf = true) : 0 ≤ n ∧ n < 256 := by have := bounds_u8 h; omega
theorem range_i64 {n : Int} (h : (Lit.int .i64 n).wf = true) : -9223372036854775808 ≤ n ∧ n ≤ 9223372036854775807 := bounds_i64 h
theorem range_u64 {n : Int} (h : (Lit.int .u64 n).wf = true) : 0 ≤ n ∧ n < 18446744073709551616 := by have := bounds_u64 h; omega
theorem rby_of_row {W : World} {x : Addr} {l c : Nat} {zs : List Int} (hl : l ≤ c) (hm : c ≤ maxLen) (hz : zs.length = c) (hcell : ∀ i, i < c → W.cell? (x.add i) = some (.int .u8 (zs.getD i 0))) (hw : ∀ n ∈ zs, (Lit.int .u8 n).wf = true) :
    ∃ xs, RBy W (.slice (some x) l c) xs ∧ xs.length = l ∧ (∀ y ∈ xs, (Lit.int .u8 y).wf = true) := by
  have hlen : (zs.take l).length = l := by rw [List.length_take]; omega
  refine ⟨zs.take l, ⟨some x, c, by rw [hlen], by rw [hlen]; exact hl, by rw [hlen]; simp only [maxLen] at hm; omega, fun y hy => range_u8 (hw y (List.mem_of_mem_take hy)), (fun h => by cases h), fun _ => ⟨x, rfl, fun j hj => ?_⟩⟩, hlen, fun y hy => hw y (List.mem_of_mem_take hy)⟩
  rw [hlen] at hj
  rw [hcell j (by omega), List.getElem?_take, if_pos hj, List.getD_eq_getElem?_getD]
theorem ri_of_row {W : World} {k : IntKind} {x : Addr} {l c : Nat} {zs : List Int} (hl : l ≤ c) (hm : c ≤ maxLen) (hz : zs.length = c) (hcell : ∀ i, i < c → W.cell? (x.add i) = some (.int k (zs.getD i 0))) (hw : ∀ n ∈ zs, (Lit.int k n).wf = true) :
    ∃ xs, RI k W (.slice (some x) l c) xs ∧ xs.length = l ∧ (∀ y ∈ xs, (Lit.int k y).wf = true) := by
  have hlen : (zs.take l).length = l := by rw [List.length_take]; omega
  refine ⟨zs.take l, ⟨some x, c, by rw [hlen], by rw [hlen]; exact hl, by rw [hlen]; simp only [maxLen] at hm; omega, (fun h => by cases h), fun _ => ⟨x, rfl, fun j hj => ?_⟩⟩, hlen, fun y hy => hw y (List.mem_of_mem_take hy)⟩
  rw [hlen] at hj
  rw [hcell j (by omega), List.getElem?_take, if_pos hj, List.getD_eq_getElem?_getD]
end Go.Proofs.Ytblfmofhfbbmdaa

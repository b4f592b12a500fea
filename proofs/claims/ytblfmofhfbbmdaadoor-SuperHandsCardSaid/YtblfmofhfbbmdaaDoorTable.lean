/- What a row's listed variables give: the CRC table's cells in the world in which the call begins; and a world for the witness. -/
import Derived.Test.YtblfmofhfbbmdaaDoorCards
import Derived.Test.YtblfmofhfbbmdaaDoorTie
import Derived.Test.YtblfmofhfbbmdaaDoorMem
import Derived.ProofKit
import Derived.OpenShut
import Derived.Deep.DeepHandedRow
import Derived.Lib.LaidTab
import Derived.Deep.Matrix
import Derived.SizedLaws
import Derived.Carry
set_option linter.unusedVariables false
set_option linter.unusedSimpArgs false
namespace Go.Proofs.YtblfmofhfbbmdaaDoor
open Go.ChangeShapes Go.WideShapes Go.ChangeAt Go.RowKit Crc

theorem own : ownKnob Tryd.prog.godebug = none := by kernel_rfl
theorem gTab : Tryd.prog.globalNamed "wicket/sum.halves" = some 1 := by kernel_rfl
theorem gTabType : (Tryd.prog.globals[1]?).map (·.type) = some 113 := by kernel_rfl
theorem cells113 : Tryd.prog.cellsOf 113 = 16 := by kernel_rfl
theorem cells23 : Tryd.prog.cellsOf 23 = 1 := by kernel_rfl

/-- What the row's list gives, of a row that lists the one table. -/
theorem tab_of_laid {W : World} (h : laidMetH Tryd.prog [("wicket/sum.halves", Rows.laid_wicket_sum_halves)] W) : Tab W := by
  have ht : Lib.TabIs Tryd.prog W "wicket/sum.halves" .u32 halves :=
    Lib.tabIs_of_head (rest := []) gTab gTabType Tryd.underlying113 Tryd.underlying23 cells23 cells113 h
  intro i hi
  have := ht.cell gTab i (by simpa [halves] using hi)
  simpa using this

/-- A world for the witness: the settled one, the table (block 1) holding what its initialiser lays. -/
noncomputable def laidWorld (os : Os) : World :=
  { World.holding Tryd.prog os ⟨#[], #[], []⟩ with heap := (World.holding Tryd.prog os ⟨#[], #[], []⟩).heap.modify 1 fun
      | .cells _ t frozen => .cells (halves.map (Value.int .u32)).toArray t frozen
      | o => o }

theorem laidOut : laidOutB Tryd.prog = true := by kernel_rfl
theorem cells5 : Tryd.prog.cellsOf 5 = 1 := by kernel_rfl
theorem cells25 : Tryd.prog.cellsOf 25 = 1 := by kernel_rfl
theorem bytes5 : Tryd.prog.bytesOf 5 = 1 := by kernel_rfl
theorem range_of_wf_u8 {n : Int} (h : (Lit.int .u8 n).wf = true) : 0 ≤ n ∧ n < 256 := by have := bounds_u8 h; omega
theorem range_of_wf_u32 {n : Int} (h : (Lit.int .u32 n).wf = true) : 0 ≤ n ∧ n < 4294967296 := by have := bounds_u32 h; omega
theorem range_of_wf_i64 {n : Int} (h : (Lit.int .i64 n).wf = true) : -9223372036854775808 ≤ n ∧ n ≤ 9223372036854775807 := bounds_i64 h
theorem range_of_wf_u64 {n : Int} (h : (Lit.int .u64 n).wf = true) : 0 ≤ n ∧ n < 18446744073709551616 := by have := bounds_u64 h; omega

section
variable {H : Type} {P : Program} {t e t2 : TypeId} {enc : TypeId × Value → H} {W : World} {base : Nat} {v : Value} {d : DataW H} {ps : List MemPlace}
/-- A row's []byte is no longer than the form's reach. -/
theorem sized_bytes {ts : List TypeId} {ds : List (DataW H)} {j : Nat} {d : DataW H} (hsz : (DataW.weightsEach P ts ds).all (· ≤ reachBytes) = true) (ht : ts[j]? = some t) (hd : ds[j]? = some d) (hu : P.underlying t = some (.slice e)) (hb : P.bytesOf e = 1) :
    ∀ elems spare, d = .slice elems spare → elems.length + spare.length ≤ reachBytes := fun elems spare e => by
  subst e
  have := sized_slice hsz ht hd hu
  rw [hb, Nat.mul_one] at this
  exact this
/-- An argument of the type []byte, read. -/
theorem bytes_of_trod (hu : P.underlying t = some (.slice e)) (he : P.underlying e = some (.int .u8)) (hc5 : P.cellsOf e = 1) (hv : Value.okWide P W .any base t v) (h : DataW.Trod enc P W 0 (fun _ => true) true t v d ps)
    (hsz : ∀ elems spare, d = .slice elems spare → elems.length + spare.length ≤ reachBytes) : ∃ xs, RBy W v xs ∧ xs.length ≤ reachBytes := by
  obtain ⟨a, len, cap, rfl⟩ := okWide_slice hu hv
  obtain ⟨fuel, hf⟩ := h
  rcases open_ints hu he hc5 hf with ⟨hcs, _⟩ | ⟨x, l, c, zs, hcs, _, hl, hm, hz, hx, hcell, hwz⟩
  · simp [Value.cells] at hcs
    obtain ⟨rfl, rfl, rfl⟩ := hcs
    exact ⟨[], RBy.nil W, by simp⟩
  · simp [Value.cells] at hcs
    obtain ⟨rfl, rfl, rfl⟩ := hcs
    obtain ⟨hx, _⟩ := Prod.mk.inj hx
    simp only [if_true] at hz
    have hlen : (zs.take len).length = len := by simp; omega
    have hb := hsz _ _ hx
    have hb2 : (lits (H := H) .u8 (zs.take len)).length = len := by simp only [lits, List.length_map]; exact hlen
    refine ⟨zs.take len, ⟨some x, cap, by rw [hlen], by rw [hlen]; exact hl, by rw [hlen]; simp only [maxLen] at hm; omega, fun y hy => ?_, fun h => (by cases h), fun _ => ⟨x, rfl, fun j hj => ?_⟩⟩, by rw [hlen]; omega⟩
    · exact range_of_wf_u8 (hwz y (List.mem_of_mem_take hy))
    · rw [hlen] at hj
      rw [hcell j (by omega), List.getElem?_take, if_pos hj, List.getD_eq_getElem?_getD]
/-- An argument of the type [][]byte, read. -/
theorem bytess_of_trod (hu2 : P.underlying t2 = some (.slice t)) (hu : P.underlying t = some (.slice e)) (he : P.underlying e = some (.int .u8)) (hc25 : P.cellsOf t = 1) (hc5 : P.cellsOf e = 1) (hv : Value.okWide P W .any base t2 v) (h : DataW.Trod enc P W 0 (fun _ => true) true t2 v d ps) : ∃ xss, RBs W v xss := by
  obtain ⟨a, len, cap, rfl⟩ := okWide_slice hu2 hv
  obtain ⟨fuel, hf⟩ := h
  rcases Deep.open_int_rows hu2 hu he hc25 hc5 hf with ⟨hcs, _⟩ | ⟨x, l, c, A, L, C, Z, hcs, _, hl, hm, hx, hcell⟩
  · simp [Value.cells] at hcs
    obtain ⟨rfl, rfl, rfl⟩ := hcs
    exact ⟨[], RBs.nil W⟩
  · simp [Value.cells] at hcs
    obtain ⟨rfl, rfl, rfl⟩ := hcs
    have hlen : ((List.range len).map fun r => (Z r).take (L r)).length = len := by simp
    refine ⟨(List.range len).map fun r => (Z r).take (L r), some x, cap, by rw [hlen], by rw [hlen]; exact hl, by rw [hlen]; simp only [maxLen] at hm; omega, fun _ => ⟨x, rfl, fun r hr => ?_⟩⟩
    rw [hlen] at hr
    obtain ⟨h1, h2, h3, h4, h5, h6, h7⟩ := hcell r (by omega)
    refine ⟨_, h1, ?_⟩
    have hg : ((List.range len).map fun r => (Z r).take (L r))[r]?.getD [] = (Z r).take (L r) := by simp [hr]
    rw [hg]
    have hl' : ((Z r).take (L r)).length = L r := by simp; omega
    refine ⟨A r, C r, by rw [hl'], by rw [hl']; exact h2, by rw [hl']; simp only [maxLen] at h3; omega, fun y hy => range_of_wf_u8 (h5 y (List.mem_of_mem_take hy)), h6, fun hp => ?_⟩
    rw [hl'] at hp
    cases hA : A r with
    | none => have := h6 hA; omega
    | some a' =>
      refine ⟨a', rfl, fun j hj => ?_⟩
      rw [hl'] at hj
      rw [(h7 a' hA).2 j (by omega), List.getElem?_take, if_pos hj, List.getD_eq_getElem?_getD]
end
end Go.Proofs.YtblfmofhfbbmdaaDoor

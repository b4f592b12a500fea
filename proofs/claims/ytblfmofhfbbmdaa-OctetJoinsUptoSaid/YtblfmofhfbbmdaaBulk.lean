/- An argument of the type [][]byte, read; its parts together are no longer than its bulk. -/
import Derived.Test.YtblfmofhfbbmdaaRows
import Derived.Test.YtblfmofhfbbmdaaMem
import Derived.ProofKit
import Derived.OpenShut
import Derived.Deep.Matrix
import Derived.Deep.DeepHandedRow
set_option linter.unusedVariables false
set_option linter.unusedSimpArgs false
namespace Go.Proofs.Ytblfmofhfbbmdaa
open Go.ChangeShapes Go.WideShapes Go.ChangeAt Go.RowKit

theorem bulk_lits {H : Type} (k : IntKind) (zs : List Int) : Rows.uptoBulkAll (lits (H := H) k zs) = zs.length := by
  induction zs with
  | nil => rfl
  | cons z zs ih =>
    show Rows.uptoBulk (DataW.lit (H := H) (.int k z)) + Rows.uptoBulkAll (lits (H := H) k zs) = _
    rw [ih]
    show 1 + zs.length = (z :: zs).length
    simp; omega
theorem bulk_row {H : Type} (k : IntKind) (A : Option Addr) (L : Nat) (zs : List Int) (h : A = none → L = 0) : (zs.take L).length ≤ Rows.uptoBulk (Deep.intRow (H := H) k A L zs) := by
  cases A with
  | none => rw [h rfl]; simp
  | some a =>
    show (zs.take L).length ≤ Rows.uptoBulkAll (lits (H := H) k (zs.take L)) + Rows.uptoBulkAll (lits (H := H) k (zs.drop L)) + 1
    rw [bulk_lits]; omega
theorem bulk_rows {H : Type} (f : Nat → DataW H) (g : Nat → List Int) : ∀ l : List Nat, (∀ r ∈ l, (g r).length ≤ Rows.uptoBulk (f r)) → (l.map g).flatten.length ≤ Rows.uptoBulkAll (l.map f)
  | [], _ => by simp
  | r :: l, h => by
    have h1 := bulk_rows f g l fun x hx => h x (List.mem_cons_of_mem _ hx)
    have h2 := h r (List.mem_cons_self)
    simp only [List.map_cons, List.flatten_cons, List.length_append]
    show _ ≤ Rows.uptoBulk (f r) + Rows.uptoBulkAll (l.map f)
    omega
section
variable {H : Type} {P : Program} {t e t2 : TypeId} {enc : TypeId × Value → H} {W : World} {base : Nat} {v : Value} {d : DataW H} {ps : List MemPlace}
theorem bytess_bulk (hu2 : P.underlying t2 = some (.slice t)) (hu : P.underlying t = some (.slice e)) (he : P.underlying e = some (.int .u8)) (hc25 : P.cellsOf t = 1) (hc5 : P.cellsOf e = 1) (hv : Value.okWide P W .any base t2 v) (h : DataW.Trod enc P W 0 (fun _ => true) true t2 v d ps) :
    ∃ xss, RBs W v xss ∧ xss.flatten.length ≤ Rows.uptoBulk d := by
  obtain ⟨a, len, cap, rfl⟩ := okWide_slice hu2 hv
  obtain ⟨fuel, hf⟩ := h
  rcases Deep.open_int_rows hu2 hu he hc25 hc5 hf with ⟨hcs, _⟩ | ⟨x, l, c, A, L, C, Z, hcs, _, hl, hm, hx, hcell⟩
  · simp [Value.cells] at hcs
    obtain ⟨rfl, rfl, rfl⟩ := hcs
    exact ⟨[], RBs.nil W, by simp⟩
  · simp [Value.cells] at hcs
    obtain ⟨rfl, rfl, rfl⟩ := hcs
    have hlen : ((List.range len).map fun r => (Z r).take (L r)).length = len := by simp
    refine ⟨(List.range len).map fun r => (Z r).take (L r), ⟨some x, cap, by rw [hlen], by rw [hlen]; exact hl, by rw [hlen]; simp only [maxLen] at hm; omega, fun _ => ⟨x, rfl, fun r hr => ?_⟩⟩, ?_⟩
    · rw [hlen] at hr
      obtain ⟨h1, h2, h3, h4, h5, h6, h7⟩ := hcell r (by omega)
      refine ⟨_, h1, ?_⟩
      have hg : ((List.range len).map fun r => (Z r).take (L r))[r]?.getD [] = (Z r).take (L r) := by simp [hr]
      rw [hg]
      have hl' : ((Z r).take (L r)).length = L r := by simp; omega
      refine ⟨A r, C r, by rw [hl'], by rw [hl']; exact h2, by rw [hl']; simp only [maxLen] at h3; omega, fun y hy => ?_, h6, fun hp => ?_⟩
      · have := bounds_u8 (h5 y (List.mem_of_mem_take hy)); omega
      rw [hl'] at hp
      cases hA : A r with
      | none => have := h6 hA; omega
      | some a' =>
        refine ⟨a', rfl, fun j hj => ?_⟩
        rw [hl'] at hj
        rw [(h7 a' hA).2 j (by omega), List.getElem?_take, if_pos hj, List.getD_eq_getElem?_getD]
    · obtain ⟨rfl, -⟩ := Prod.mk.inj hx
      have h8 := bulk_rows (H := H) (fun r => Deep.intRow .u8 (A r) (L r) (Z r)) (fun r => (Z r).take (L r)) (List.range len) fun r hr => by
        have hr' : r < len := List.mem_range.1 hr
        obtain ⟨h1, h2, h3, h4, h5, h6, h7⟩ := hcell r (by omega)
        exact bulk_row _ _ _ _ fun hA => by have := h6 hA; omega
      show _ ≤ Rows.uptoBulkAll _ + Rows.uptoBulkAll _ + 1
      omega
end
end Go.Proofs.Ytblfmofhfbbmdaa

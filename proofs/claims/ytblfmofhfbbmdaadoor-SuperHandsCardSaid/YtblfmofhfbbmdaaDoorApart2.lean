/- Lists in a box that share no memory: marking them, growing them. -/
import Derived.Test.YtblfmofhfbbmdaaDoorApart1
set_option linter.unusedVariables false
set_option linter.unusedSimpArgs false
namespace Go.Proofs.YtblfmofhfbbmdaaDoor
open Go.RowKit

/-- The first i lists are marked. -/
structure Ph1 (k : IntKind) (e T : TypeId) (fA : Nat → Int) (B base : Nat) (w0 w : World) (bx : Value) (n i : Nat) (cu : List Item) : Prop where
  len : cu.length = n
  st : St k e T base w bx cu
  small : ∀ (j : Nat) (q : Item), cu[j]? = some q → q.2.length ≤ B
  mark : ∀ (j : Nat) (q : Item), j < i → cu[j]? = some q → q.2 = List.replicate q.2.length (fA j)
  below : Below base w0 w
section
variable {k : IntKind} {e T : TypeId} {fA : Nat → Int} {B base : Nat} {w0 w : World} {bx : Value} {n i : Nat} {cu : List Item}
theorem Ph1.at (h : Ph1 k e T fA B base w0 w bx n i cu) (hi : i < n) : ∃ v L, cu[i]? = some (v, L) ∧ L.length ≤ B ∧ OI k e w base v L := by
  have hl : i < cu.length := by rw [h.len]; exact hi
  exact ⟨cu[i].1, cu[i].2, List.getElem?_eq_getElem hl, h.small i _ (List.getElem?_eq_getElem hl), h.st.it i _ (List.getElem?_eq_getElem hl)⟩
/-- The box's cell. -/
theorem Ph1.cell (h : Ph1 k e T fA B base w0 w bx n i cu) {j : Nat} {q : Item} (hj : cu[j]? = some q) {A : Option Addr} {c : Nat} (hbx : bx = .slice A n c) : ∃ g, A = some ⟨g, 0, none⟩ ∧ n ≤ c ∧ w.cell? ⟨g, j, none⟩ = some q.1 := by
  have hl : j < cu.length := (List.getElem?_eq_some_iff.1 hj).1
  obtain ⟨g, cap, e1, h1, h2, h3⟩ := own_cells h.st.box (by omega)
  rw [hbx] at e1
  simp only [Value.slice.injEq] at e1
  obtain ⟨rfl, e2, rfl⟩ := e1
  exact ⟨g, rfl, by omega, h3 j q.1 (by rw [List.getElem?_map, hj]; rfl)⟩
theorem Ph1.write (h : Ph1 k e T fA B base w0 w bx n i cu) (hne : e ≠ T) (hbase : base ≤ w0.heap.size) {g m c : Nat} {L : List Int} (hi : cu[i]? = some (.slice (some ⟨g, 0, none⟩) m c, L)) (t : Nat) (ht : t < L.length) (hmark : L.take t = List.replicate t (fA i)) :
    Ph1 k e T fA B base w0 (w.setCell ⟨g, t, none⟩ (.int k (fA i))) bx n i (cu.set i (.slice (some ⟨g, 0, none⟩) m c, L.set t (fA i))) ∧ (cu.set i (.slice (some ⟨g, 0, none⟩) m c, L.set t (fA i)))[i]? = some (.slice (some ⟨g, 0, none⟩) m c, L.set t (fA i)) ∧ (L.set t (fA i)).take (t + 1) = List.replicate (t + 1) (fA i) := by
  have hl : i < cu.length := (List.getElem?_eq_some_iff.1 hi).1
  have hg : base ≤ g := ((h.st.it i _ hi).blk g rfl).1
  refine ⟨⟨by rw [List.length_set]; exact h.len, h.st.write hne hi t _, fun j q hq => ?_, fun j q hj hq => ?_, h.below.setCell hg _⟩, by rw [List.getElem?_set_self hl], ?_⟩
  · rw [List.getElem?_set] at hq
    by_cases hij : i = j
    · subst hij
      rw [if_pos rfl, if_pos hl] at hq
      cases hq
      have := h.small i _ hi
      simpa using this
    · rw [if_neg hij] at hq
      exact h.small j q hq
  · rw [List.getElem?_set_ne (by omega)] at hq
    exact h.mark j q hj hq
  · rw [List.take_succ_eq_append_getElem (by simpa using ht), List.getElem_set_self, List.take_set_of_le (Nat.le_refl _), hmark, List.replicate_succ']
theorem Ph1.next (h : Ph1 k e T fA B base w0 w bx n i cu) {v : Value} {L : List Int} (hi : cu[i]? = some (v, L)) (hmark : L.take L.length = List.replicate L.length (fA i)) : Ph1 k e T fA B base w0 w bx n (i + 1) cu := by
  refine ⟨h.len, h.st, h.small, fun j q hj hq => ?_, h.below⟩
  by_cases hij : j = i
  · subst hij
    rw [hi] at hq
    cases hq
    rwa [List.take_length] at hmark
  · exact h.mark j q (by omega) hq
end
end Go.Proofs.YtblfmofhfbbmdaaDoor

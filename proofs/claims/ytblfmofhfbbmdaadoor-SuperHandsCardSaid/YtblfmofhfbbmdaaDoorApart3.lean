/- Lists in a box that share no memory: growing them, one after the other, and keeping what was told. -/
import Derived.Test.YtblfmofhfbbmdaaDoorApart2
set_option linter.unusedVariables false
set_option linter.unusedSimpArgs false
namespace Go.Proofs.YtblfmofhfbbmdaaDoor
open Go.RowKit

structure Ph2 (k : IntKind) (e T : TypeId) (base : Nat) (w0 w : World) (bx : Value) (vs : List Value) (lv : Value) (us : List Value) (rest R : List Item) : Prop where
  reg : Reg T base w bx vs lv us
  pool : Pool k e base w rest R
  below : Below base w0 w
structure Gr (k : IntKind) (e T : TypeId) (base : Nat) (w0 w : World) (bx : Value) (vs : List Value) (lv : Value) (us : List Value) (x : Value) (X : List Int) (rest R : List Item) : Prop where
  reg : Reg T base w bx vs lv us
  chain : Chains k e base w x X rest R
  below : Below base w0 w
section
variable {k : IntKind} {e T : TypeId} {base : Nat} {w0 w w' : World} {bx lv lv' x x' : Value} {vs us : List Value} {X : List Int} {rest R : List Item}
theorem Ph2.start {q : Item} (h : Ph2 k e T base w0 w bx vs lv us (q :: rest) R) : Gr k e T base w0 w bx vs lv us q.1 q.2 rest (q :: R) := ⟨h.reg, h.pool.start, h.below⟩
theorem Gr.stop (h : Gr k e T base w0 w bx vs lv us x X rest R) : Ph2 k e T base w0 w bx vs lv us rest R := ⟨h.reg, h.chain.stop, h.below⟩
theorem Gr.push {y : Int} (h : Gr k e T base w0 w bx vs lv us x X rest R) (hne : e ≠ T) (hbase : base ≤ w0.heap.size) (ho : OI k e w' base x' (X ++ [y])) (hg : Grew w w' x x') : Gr k e T base w0 w' bx vs lv us x' (X ++ [y]) rest ((x', X ++ [y]) :: R) :=
  ⟨h.reg.keep hne h.chain.own hg.grown, (h.chain.push ho hg).tell, grew_below h.below hbase h.chain.own hg⟩
theorem Gr.long {u : Value} (h : Gr k e T base w0 w bx vs lv us x X rest R) (hne : e ≠ T) (hbase : base ≤ w0.heap.size) (ho : w'.ownsRow base T 1 lv' (us.length + 1) (us ++ [u])) (hg : Grew w w' lv lv') : Gr k e T base w0 w' bx vs lv' (us ++ [u]) x X rest R :=
  ⟨h.reg.push ho hg, h.chain.longer hne h.reg.long hg, grew_below h.below hbase h.reg.long hg⟩
end
/-- What has been told: the first i lists, and the grown ones. -/
def Told (cu : List Item) (tl : Nat → List Int) (i : Nat) (us : List Value) (R : List Item) : Prop :=
  (∀ (j : Nat) (q : Item), j < i → cu[j]? = some q → q ∈ R) ∧ ∀ (r : Nat) (u : Value), us[r]? = some u → ((u, tl r) : Item) ∈ R
theorem Told.more {cu : List Item} {tl : Nat → List Int} {i : Nat} {us : List Value} {R : List Item} (h : Told cu tl i us R) (p : Item) : Told cu tl i us (p :: R) :=
  ⟨fun j q hj hq => by simp [h.1 j q hj hq], fun r u hu => by simp [h.2 r u hu]⟩
theorem Told.next {cu : List Item} {tl : Nat → List Int} {i : Nat} {us : List Value} {R : List Item} (h : Told cu tl i us R) {q : Item} (hq : cu[i]? = some q) : Told cu tl (i + 1) us (q :: R) :=
  ⟨fun j q' hj hq' => by
    by_cases hij : j = i
    · subst hij; rw [hq] at hq'; cases hq'; simp
    · simp [h.1 j q' (by omega) hq'], fun r u hu => by simp [h.2 r u hu]⟩
theorem Told.add {cu : List Item} {tl : Nat → List Int} {i : Nat} {us : List Value} {R : List Item} (h : Told cu tl i us R) {u : Value} (hu : ((u, tl us.length) : Item) ∈ R) : Told cu tl i (us ++ [u]) R :=
  ⟨h.1, fun r u' hu' => by
    by_cases hr : r < us.length
    · rw [List.getElem?_append_left hr] at hu'
      exact h.2 r u' hu'
    · by_cases he : r = us.length
      · subst he
        simp at hu'
        subst hu'
        exact hu
      · rw [List.getElem?_eq_none (by simp; omega)] at hu'
        cases hu'⟩
end Go.Proofs.YtblfmofhfbbmdaaDoor

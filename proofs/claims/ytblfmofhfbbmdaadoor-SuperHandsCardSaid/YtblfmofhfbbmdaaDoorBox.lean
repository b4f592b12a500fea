/- The box that Apart is handed: answers of calls one behind the other share no memory. -/
import Derived.Test.YtblfmofhfbbmdaaDoorApart1
set_option linter.unusedVariables false
set_option linter.unusedSimpArgs false
namespace Go.Proofs.YtblfmofhfbbmdaaDoor
open Go.RowKit

/-- Where a value's row lies. -/
def Lies (v : Value) (lo hi : Nat) : Prop := ∀ b, v.ownBlock = some b → lo ≤ b ∧ b < hi
theorem OI.lies {k : IntKind} {e : TypeId} {w : World} {base : Nat} {v : Value} {xs : List Int} (h : OI k e w base v xs) : Lies v base w.heap.size := h.blk
theorem OB.oi {w : World} {base : Nat} {v : Value} {xs : List Int} (h : OB w base v xs) : OI .u8 5 w base v xs := h.1
theorem OB.lies {w : World} {base : Nat} {v : Value} {xs : List Int} (h : OB w base v xs) : Lies v base w.heap.size := h.oi.lies
def Lined : Nat → List Item → Prop
  | _, [] => True
  | lo, q :: t => ∃ lo' hi, lo ≤ lo' ∧ Lies q.1 lo' hi ∧ Lined hi t ∧ lo' ≤ hi
theorem Lined.from {lo : Nat} : ∀ {its : List Item}, Lined lo its → ∀ q ∈ its, ∀ b, q.1.ownBlock = some b → lo ≤ b
  | [], _, q, hq, _, _ => by cases hq
  | p :: t, h, q, hq, b, hb => by
    obtain ⟨lo', hi, h1, h2, h3, h4⟩ := h
    rcases List.mem_cons.1 hq with rfl | hq
    · have := (h2 b hb).1; omega
    · have := Lined.from h3 q hq b hb; omega
theorem away_of {v v' : Value} {h : Nat} (h1 : ∀ b, v.ownBlock = some b → b < h) (h2 : ∀ b, v'.ownBlock = some b → h ≤ b) : Away v v' ∧ Away v' v := by
  unfold Away
  cases hv : v.ownBlock with
  | none =>
    refine ⟨Or.inl rfl, ?_⟩
    cases hv' : v'.ownBlock with
    | none => exact Or.inl rfl
    | some c => exact Or.inr (by simp)
  | some b =>
    have hb := h1 b hv
    cases hv' : v'.ownBlock with
    | none => exact ⟨Or.inr (by simp), Or.inl rfl⟩
    | some c =>
      have hc := h2 c hv'
      exact ⟨Or.inr (by simp; omega), Or.inr (by simp; omega)⟩
theorem Lined.pairwise {lo : Nat} : ∀ {its : List Item}, Lined lo its → its.Pairwise fun q q' => Away q.1 q'.1 ∧ Away q'.1 q.1
  | [], _ => List.Pairwise.nil
  | p :: t, h => by
    obtain ⟨lo', hi, h1, h2, h3, h4⟩ := h
    exact List.pairwise_cons.2 ⟨fun q hq => away_of (fun b hb => (h2 b hb).2) (fun b hb => h3.from q hq b hb), h3.pairwise⟩
theorem St.made {k : IntKind} {e T : TypeId} {base : Nat} {w : World} {its : List Item} (hb : base ≤ w.heap.size) (hl : its.length ≤ 1000) (hit : ∀ q ∈ its, OI k e w base q.1 q.2) {lo : Nat} (hln : Lined lo its) {arr : Array Value} (ha : arr = (its.map Prod.fst).toArray) :
    St k e T base (w.alloc (.cells arr T)) (.slice (some ⟨w.heap.size, 0, none⟩) its.length its.length) its := by
  subst ha
  refine ⟨?_, fun j q hq => (hit q (List.mem_of_getElem? hq)).below (below_alloc (Below.refl _ _) _), fun j j' q q' hne hq hq' => ?_⟩
  · have h := World.ownsRow_lit (base := base) (e := T) (size := 1) w (its.map Prod.fst).toArray its.length hb (by simp only [maxLen]; omega) (by simp)
    simpa using h
  · have hp := List.pairwise_iff_getElem.1 hln.pairwise
    obtain ⟨h1, h2⟩ := List.getElem?_eq_some_iff.1 hq
    obtain ⟨h3, h4⟩ := List.getElem?_eq_some_iff.1 hq'
    rcases Nat.lt_or_ge j j' with h | h
    · have := (hp j j' h1 h3 h).1
      rwa [h2, h4] at this
    · have := (hp j' j h3 h1 (by omega)).2
      rwa [h2, h4] at this
end Go.Proofs.YtblfmofhfbbmdaaDoor

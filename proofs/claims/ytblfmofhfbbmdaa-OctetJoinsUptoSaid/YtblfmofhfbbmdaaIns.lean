/- A list of rooms: slices with marked room behind them, each a row of its own. -/
import Derived.Test.YtblfmofhfbbmdaaRoom
import Derived.Test.YtblfmofhfbbmdaaBox
set_option linter.unusedVariables false
set_option linter.unusedSimpArgs false
namespace Go.Proofs.Ytblfmofhfbbmdaa
open Go.RowKit

/-- A room: its block, its capacity, its bytes. -/
abbrev Rm := Nat × Nat × List Int
def Rm.val (t : Rm) : Value := .slice (some ⟨t.1, 0, none⟩) t.2.2.length t.2.1
structure Ins (T : TypeId) (base : Nat) (w : World) (bx : Value) (its : List Rm) : Prop where
  box : w.ownsRow base T 1 bx its.length (its.map Rm.val)
  row : ∀ (j : Nat) (t : Rm), its[j]? = some t → OB w base (.slice (some ⟨t.1, 0, none⟩) (t.2.2.length + 2) t.2.1) (t.2.2 ++ [90, 165]) ∧ t.2.2.length + 2 ≤ t.2.1
  away : ∀ (j j' : Nat) (t t' : Rm), j ≠ j' → its[j]? = some t → its[j']? = some t' → t.1 ≠ t'.1
theorem Ins.nil (T : TypeId) (base : Nat) (w : World) : Ins T base w (.slice none 0 0) [] :=
  ⟨World.ownsRow_nil w base T 1, fun j t h => by simp at h, fun j j' t t' _ h => by simp at h⟩
theorem Ins.below {T : TypeId} {base : Nat} {w w' : World} {bx : Value} {its : List Rm} (h : Ins T base w bx its) (hb : Below w.heap.size w w') : Ins T base w' bx its :=
  ⟨World.ownsRow.kept h.box (grown_of_below hb none) (by cases bx.ownBlock <;> simp), fun j t ht => ⟨(h.row j t ht).1.below hb, (h.row j t ht).2⟩, h.away⟩
/-- One more room. -/
theorem Ins.add {T : TypeId} {base : Nat} {w w1 w2 : World} {bx bx' : Value} {its : List Rm} {t : Rm} (hne : (5 : TypeId) ≠ T) (h : Ins T base w bx its) (hb : Below w.heap.size w w1) (hbase : base ≤ w.heap.size)
    (ho : OB w1 w.heap.size (.slice (some ⟨t.1, 0, none⟩) (t.2.2.length + 2) t.2.1) (t.2.2 ++ [90, 165])) (hc : t.2.2.length + 2 ≤ t.2.1)
    (hp : w2.ownsRow base T 1 bx' (its.length + 1) (its.map Rm.val ++ [Rm.val t])) (hg : w1.grownBy w2 bx.ownBlock) : Ins T base w2 bx' (its ++ [t]) := by
  have h1 := h.below hb
  have keep : ∀ v xs, OB w1 base v xs → OB w2 base v xs := fun v xs hv => hv.kept hg (own_unlike hv.1 h1.box hne)
  have hget : ∀ (j : Nat) (t' : Rm), (its ++ [t])[j]? = some t' → (j < its.length ∧ its[j]? = some t') ∨ (j = its.length ∧ t' = t) := fun j t' ht => by
    by_cases hj : j < its.length
    · rw [List.getElem?_append_left hj] at ht; exact Or.inl ⟨hj, ht⟩
    · by_cases he : j = its.length
      · subst he; simp at ht; exact Or.inr ⟨rfl, ht.symm⟩
      · rw [List.getElem?_eq_none (by simp; omega)] at ht; cases ht
  have hlt : ∀ (j : Nat) (t' : Rm), its[j]? = some t' → t'.1 < w.heap.size := fun j t' ht => ((h.row j t' ht).1.blk t'.1 rfl).2
  have hge : w.heap.size ≤ t.1 := (ho.blk t.1 rfl).1
  refine ⟨by rw [List.length_append, List.map_append]; exact hp, fun j t' ht => ?_, fun j j' t' t'' hjj ht ht' => ?_⟩
  · rcases hget j t' ht with ⟨_, h2⟩ | ⟨_, rfl⟩
    · exact ⟨keep _ _ (h1.row j t' h2).1, (h.row j t' h2).2⟩
    · exact ⟨keep _ _ (ho.lower hbase), hc⟩
  · rcases hget j t' ht with ⟨_, h2⟩ | ⟨e1, rfl⟩ <;> rcases hget j' t'' ht' with ⟨_, h3⟩ | ⟨e2, rfl⟩
    · exact h.away j j' t' t'' hjj h2 h3
    · have := hlt j t' h2; omega
    · have := hlt j' t'' h3; omega
    · omega
/-- The rooms without what is behind them. -/
structure Fronts (T : TypeId) (base : Nat) (w : World) (bx : Value) (its : List Rm) : Prop where
  box : w.ownsRow base T 1 bx its.length (its.map Rm.val)
  row : ∀ (j : Nat) (t : Rm), its[j]? = some t → OB w base (Rm.val t) t.2.2
  away : ∀ (j j' : Nat) (t t' : Rm), j ≠ j' → its[j]? = some t → its[j']? = some t' → t.1 ≠ t'.1
theorem Ins.fronts {T : TypeId} {base : Nat} {w : World} {bx : Value} {its : List Rm} (h : Ins T base w bx its) : Fronts T base w bx its :=
  ⟨h.box, fun j t ht => (h.row j t ht).1.front rfl, h.away⟩
theorem Fronts.below {T : TypeId} {base : Nat} {w w' : World} {bx : Value} {its : List Rm} (h : Fronts T base w bx its) (hb : Below w.heap.size w w') : Fronts T base w' bx its :=
  ⟨World.ownsRow.kept h.box (grown_of_below hb none) (by cases bx.ownBlock <;> simp), fun j t ht => (h.row j t ht).below hb, h.away⟩
theorem Fronts.turn {T : TypeId} {base : Nat} {w w' : World} {bx : Value} {its : List Rm} (hne : (5 : TypeId) ≠ T) (h : Fronts T base w bx its) {i : Nat} {t : Rm} (hi : its[i]? = some t) (ho : OB w' base (Rm.val t) (t.2.2.map flip)) (hg : w.grownBy w' (some t.1)) :
    Fronts T base w' bx (its.set i (t.1, t.2.1, t.2.2.map flip)) := by
  have hil : i < its.length := (List.getElem?_eq_some_iff.1 hi).1
  have hget : ∀ (j : Nat) (t' : Rm), (its.set i (t.1, t.2.1, t.2.2.map flip))[j]? = some t' → (j = i ∧ t' = (t.1, t.2.1, t.2.2.map flip)) ∨ (j ≠ i ∧ its[j]? = some t') := fun j t' ht => by
    rw [List.getElem?_set] at ht
    by_cases hij : i = j
    · subst hij; rw [if_pos rfl, if_pos hil] at ht; exact Or.inl ⟨rfl, (Option.some.inj ht).symm⟩
    · rw [if_neg hij] at ht; exact Or.inr ⟨fun e => hij e.symm, ht⟩
  have hmap : (its.set i (t.1, t.2.1, t.2.2.map flip)).map Rm.val = its.map Rm.val := by
    rw [List.map_set]
    apply List.ext_getElem?
    intro j
    rw [List.getElem?_set]
    by_cases hij : i = j
    · subst hij
      rw [if_pos rfl, if_pos (by simpa using hil), List.getElem?_map, hi]
      simp [Rm.val]
    · rw [if_neg hij]
  have hbx : bx.ownBlock = none ∨ bx.ownBlock ≠ some t.1 := own_unlike h.box (h.row i t hi).1 (Ne.symm hne)
  refine ⟨by rw [hmap, List.length_set]; exact World.ownsRow.kept h.box hg hbx, fun j t' ht => ?_, fun j j' t' t'' hjj ht ht' => ?_⟩
  · rcases hget j t' ht with ⟨_, rfl⟩ | ⟨hji, h2⟩
    · have : Rm.val (t.1, t.2.1, t.2.2.map flip) = Rm.val t := by simp [Rm.val]
      rw [this]; exact ho
    · exact (h.row j t' h2).kept hg (Or.inr (fun e => h.away j i t' t hji h2 hi (by simpa [Rm.val, Value.ownBlock] using e)))
  · have hf : ∀ (j : Nat) (t' : Rm), (its.set i (t.1, t.2.1, t.2.2.map flip))[j]? = some t' → ∃ t2, its[j]? = some t2 ∧ t2.1 = t'.1 := fun j t' ht => by
      rcases hget j t' ht with ⟨rfl, rfl⟩ | ⟨_, h2⟩
      · exact ⟨t, hi, rfl⟩
      · exact ⟨t', h2, rfl⟩
    obtain ⟨a1, h2, e1⟩ := hf j t' ht
    obtain ⟨a2, h3, e2⟩ := hf j' t'' ht'
    rw [← e1, ← e2]
    exact h.away j j' a1 a2 hjj h2 h3
/-- Join reads them. -/
theorem Fronts.reads {T : TypeId} {base : Nat} {w : World} {bx : Value} {its : List Rm} (h : Fronts T base w bx its) : RBs w bx (its.map fun t => t.2.2) := by
  rcases h.box.2 with ⟨rfl, h0⟩ | ⟨g, cap, cur, rfl, hg, hh, hn, hm, hs, ht⟩
  · have : its = [] := List.eq_nil_of_length_eq_zero h0
    subst this
    exact RBs.nil w
  · refine ⟨some ⟨g, 0, none⟩, cap, by simp, by simpa using hn, by simp only [maxLen] at hm; simp; omega, fun hp => ⟨_, rfl, fun j hj => ?_⟩⟩
    have hj' : j < its.length := by simpa using hj
    have hi := List.getElem?_eq_getElem hj'
    refine ⟨Rm.val its[j], ?_, ?_⟩
    · have := World.ownsRow.cells h.box (g := g) rfl j (Rm.val its[j]) (by rw [List.getElem?_map, hi]; rfl)
      exact this
    · have h2 := (h.row j _ hi).reads
      rw [List.getElem?_map, hi]
      exact h2
end Go.Proofs.Ytblfmofhfbbmdaa

/- Lists in a box that share no memory: the states of Apart's walks. -/
import Derived.Test.YtblfmofhfbbmdaaDoorApart0
set_option linter.unusedVariables false
set_option linter.unusedSimpArgs false
namespace Go.Proofs.YtblfmofhfbbmdaaDoor
open Go.RowKit

theorem own_cells {w : World} {base : Nat} {e : TypeId} {v : Value} {n : Nat} {xs : List Value} (h : w.ownsRow base e 1 v n xs) (hn : 0 < n) : ∃ g cap, v = .slice (some ⟨g, 0, none⟩) n cap ∧ n ≤ cap ∧ v.ownBlock = some g ∧ ∀ j u, xs[j]? = some u → w.cell? ⟨g, j, none⟩ = some u := by
  rcases h.2 with ⟨rfl, h0⟩ | ⟨g, cap, cur, rfl, hg, hh, hnc, hm, hs, ht⟩
  · omega
  · exact ⟨g, cap, rfl, hnc, rfl, fun j u hu => by have := World.ownsRow.cells h (g := g) rfl j u hu; rwa [add_plain] at this⟩
theorem own_shape {w : World} {base : Nat} {e : TypeId} {v : Value} {n : Nat} {xs : List Value} (h : w.ownsRow base e 1 v n xs) : ∃ A cap, v = .slice A n cap ∧ n ≤ cap ∧ n ≤ 9223372036854775807 := by
  rcases h.2 with ⟨rfl, rfl⟩ | ⟨g, cap, cur, rfl, hg, hh, hnc, hm, hs, ht⟩
  · exact ⟨none, 0, rfl, Nat.le_refl _, by decide⟩
  · exact ⟨_, cap, rfl, hnc, by simp only [maxLen] at hm; omega⟩
theorem OI.free {k : IntKind} {e : TypeId} {w : World} {base g n cap : Nat} {xs : List Int} (h : OI k e w base (.slice (some ⟨g, 0, none⟩) n cap) xs) (j : Nat) : w.frozen? ⟨g, j, none⟩ = false := by
  rcases h.2 with ⟨e1, h0⟩ | ⟨g', cap', cur, e1, hg, hh, hn, hm, hs, ht⟩
  · cases e1
  · simp only [Value.slice.injEq, Option.some.injEq, Addr.mk.injEq] at e1
    obtain ⟨⟨rfl, _⟩, _⟩ := e1
    exact frozen_of_row w g j cur _ hh
theorem OI.set {k : IntKind} {e : TypeId} {w : World} {base g n cap : Nat} {xs : List Int} (h : OI k e w base (.slice (some ⟨g, 0, none⟩) n cap) xs) (j : Nat) (c : Int) :
    OI k e (w.setCell ⟨g, j, none⟩ (.int k c)) base (.slice (some ⟨g, 0, none⟩) n cap) (xs.set j c) := by
  obtain ⟨h1, h2⟩ := h
  rcases h2 with ⟨e1, h0⟩ | ⟨g', cap', cur, e1, hg, hh, hn, hm, hs, ht⟩
  · cases e1
  · simp only [Value.slice.injEq, Option.some.injEq, Addr.mk.injEq] at e1
    obtain ⟨⟨rfl, _⟩, rfl, rfl⟩ := e1
    refine ⟨by simp [nums], Or.inr ⟨g, cap, cur.setIfInBounds j (.int k c), by rw [List.length_set], hg, heap_setCell_same _ _ _ _ _ _ hh, by rw [List.length_set]; exact hn, hm, by simpa using hs, ?_⟩⟩
    rw [List.length_set, Nat.mul_one] at *
    rw [Array.toList_setIfInBounds, List.take_set, ht]
    simp [nums, List.map_set]
theorem OI.set_other {k : IntKind} {e : TypeId} {w : World} {base : Nat} {v : Value} {xs : List Int} (h : OI k e w base v xs) {p : Addr} (hp : v.ownBlock ≠ some p.block) (u : Value) : OI k e (w.setCell p u) base v xs :=
  ownsRow_setCell_other h hp u

/-- The box with the lists, and the lists. -/
structure St (k : IntKind) (e T : TypeId) (base : Nat) (w : World) (bx : Value) (cu : List Item) : Prop where
  box : w.ownsRow base T 1 bx cu.length (cu.map Prod.fst)
  it : ∀ (j : Nat) (q : Item), cu[j]? = some q → OI k e w base q.1 q.2
  away : ∀ (j j' : Nat) (q q' : Item), j ≠ j' → cu[j]? = some q → cu[j']? = some q' → Away q.1 q'.1
theorem St.write {k : IntKind} {e T : TypeId} {base : Nat} {w : World} {bx : Value} {cu : List Item} (h : St k e T base w bx cu) (hne : e ≠ T) {i g n cap : Nat} {L : List Int} (hi : cu[i]? = some (.slice (some ⟨g, 0, none⟩) n cap, L)) (j : Nat) (a : Int) :
    St k e T base (w.setCell ⟨g, j, none⟩ (.int k a)) bx (cu.set i (.slice (some ⟨g, 0, none⟩) n cap, L.set j a)) := by
  have hil : i < cu.length := (List.getElem?_eq_some_iff.1 hi).1
  have hbx : bx.ownBlock ≠ some g := by
    rcases own_unlike h.box (h.it i _ hi) (Ne.symm hne) with h1 | h1
    · rw [h1]; simp
    · exact h1
  have hfst : (cu.set i (.slice (some ⟨g, 0, none⟩) n cap, L.set j a)).map Prod.fst = cu.map Prod.fst := by
    rw [List.map_set]
    apply List.ext_getElem?
    intro t
    rw [List.getElem?_set]
    by_cases ht : i = t
    · subst ht
      rw [if_pos rfl, if_pos (by simpa using hil), List.getElem?_map, hi]
      rfl
    · rw [if_neg ht]
  refine ⟨?_, fun t q hq => ?_, fun t t' q q' htt hq hq' => ?_⟩
  · rw [hfst, List.length_set]
    exact ownsRow_setCell_other h.box hbx _
  · rw [List.getElem?_set] at hq
    by_cases ht : i = t
    · subst ht
      rw [if_pos rfl, if_pos hil] at hq
      cases hq
      exact (h.it i _ hi).set j a
    · rw [if_neg ht] at hq
      refine (h.it t q hq).set_other ?_ _
      rcases h.away t i q _ (Ne.symm ht) hq hi with h1 | h1
      · rw [h1]; simp
      · exact h1
  · have hf : ∀ (t : Nat) (q : Item), (cu.set i (.slice (some ⟨g, 0, none⟩) n cap, L.set j a))[t]? = some q → ∃ L', cu[t]? = some (q.1, L') := fun t q hq => by
      rw [List.getElem?_set] at hq
      by_cases ht : i = t
      · subst ht
        rw [if_pos rfl, if_pos hil] at hq
        cases hq
        exact ⟨L, hi⟩
      · rw [if_neg ht] at hq
        exact ⟨q.2, hq⟩
    obtain ⟨L1, h1⟩ := hf t q hq
    obtain ⟨L2, h2⟩ := hf t' q' hq'
    exact h.away t t' (q.1, L1) (q'.1, L2) htt h1 h2
theorem St.pool {k : IntKind} {e T : TypeId} {base : Nat} {w : World} {bx : Value} {cu : List Item} (h : St k e T base w bx cu) : Pool k e base w cu [] := by
  refine ⟨fun q hq => ?_, fun p hp => (by cases hp), ?_⟩
  · obtain ⟨j, hj, rfl⟩ := List.mem_iff_getElem.1 hq
    exact h.it j _ (List.getElem?_eq_getElem hj)
  · rw [List.pairwise_iff_getElem]
    intro i j hi hj hij
    exact ⟨h.away i j _ _ (by omega) (List.getElem?_eq_getElem hi) (List.getElem?_eq_getElem hj), h.away j i _ _ (by omega) (List.getElem?_eq_getElem hj) (List.getElem?_eq_getElem hi)⟩

/-- The box and the list of the grown ones. -/
structure Reg (T : TypeId) (base : Nat) (w : World) (bx : Value) (vs : List Value) (lv : Value) (us : List Value) : Prop where
  box : w.ownsRow base T 1 bx vs.length vs
  long : w.ownsRow base T 1 lv us.length us
  away : Away bx lv
theorem Reg.start {T : TypeId} {base : Nat} {w : World} {bx : Value} {vs : List Value} (h : w.ownsRow base T 1 bx vs.length vs) : Reg T base w bx vs (.slice none 0 0) [] :=
  ⟨h, World.ownsRow_nil w base T 1, by cases hb : bx.ownBlock with
    | none => exact Or.inl hb
    | some b => exact Or.inr (by rw [hb]; simp [Value.ownBlock])⟩
theorem Reg.keep {k : IntKind} {e T : TypeId} {base : Nat} {w w' : World} {bx lv x : Value} {vs us : List Value} {X : List Int} (h : Reg T base w bx vs lv us) (hne : e ≠ T) (hx : OI k e w base x X) (hg : w.grownBy w' x.ownBlock) : Reg T base w' bx vs lv us :=
  ⟨World.ownsRow.kept h.box hg (own_unlike h.box hx (Ne.symm hne)), World.ownsRow.kept h.long hg (own_unlike h.long hx (Ne.symm hne)), h.away⟩
theorem Reg.push {T : TypeId} {base : Nat} {w w' : World} {bx lv lv' : Value} {vs us : List Value} {u : Value} (h : Reg T base w bx vs lv us) (ho : w'.ownsRow base T 1 lv' (us.length + 1) (us ++ [u])) (hg : Grew w w' lv lv') : Reg T base w' bx vs lv' (us ++ [u]) := by
  refine ⟨World.ownsRow.kept h.box hg.grown h.away, by rw [List.length_append]; exact ho, ?_⟩
  rcases hg with ⟨g, n, cap, rfl, rfl, h3⟩ | ⟨h1, b, h2, h3⟩
  · exact h.away
  · cases hb : bx.ownBlock with
    | none => exact Or.inl hb
    | some c =>
      refine Or.inr ?_
      have := (World.ownsRow.lt h.box c hb).2
      rw [hb, h2]
      intro hc
      simp only [Option.some.injEq] at hc
      omega
theorem Chains.longer {k : IntKind} {e T : TypeId} {base : Nat} {w w' : World} {x lv lv' : Value} {X : List Int} {rest R : List Item} {us : List Value} (h : Chains k e base w x X rest R) (hne : e ≠ T) (hl : w.ownsRow base T 1 lv us.length us) (hg : Grew w w' lv lv') : Chains k e base w' x X rest R :=
  h.keep hg.grown fun v xs hv => own_unlike hv hl hne
theorem grew_below {base : Nat} {w0 w w' : World} {e : TypeId} {v v' : Value} {n : Nat} {xs : List Value} (hb : Below base w0 w) (hbase : base ≤ w0.heap.size) (h : w.ownsRow base e 1 v n xs) (hg : Grew w w' v v') : Below base w0 w' :=
  hb.grown hg.grown (Nat.le_trans hbase hb.size) (fun j hj => (World.ownsRow.lt h j hj).1)
end Go.Proofs.YtblfmofhfbbmdaaDoor

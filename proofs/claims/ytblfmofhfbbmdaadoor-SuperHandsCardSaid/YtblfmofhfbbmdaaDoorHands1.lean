/- Lists handed out, one behind the other: put into a box, their texts into another; later each is grown, again and again. -/
import Derived.Test.YtblfmofhfbbmdaaDoorHands0
import Derived.Test.YtblfmofhfbbmdaaDoorApart
import Derived.Test.YtblfmofhfbbmdaaDoorBox
import Derived.Test.YtblfmofhfbbmdaaDoorStr
set_option linter.unusedVariables false
set_option linter.unusedSimpArgs false
namespace Go.Proofs.YtblfmofhfbbmdaaDoor
open Go.RowKit

theorem info9 : (Tryd.prog.info? 9).map (fun i => (i.zero, i.size, i.bytes)) = some (some (.string ByteArray.empty), 1, 16) := by kernel_rfl
theorem St.below {k : IntKind} {e T : TypeId} {base : Nat} {w w' : World} {bx : Value} {cu : List Item} (h : St k e T base w bx cu) (hb : Below w.heap.size w w') : St k e T base w' bx cu :=
  ⟨World.ownsRow.kept h.box (grown_of_below hb none) (by cases bx.ownBlock <;> simp), fun j q hq => (h.it j q hq).below hb, h.away⟩
theorem own_below {base : Nat} {w w' : World} {e : TypeId} {v : Value} {n : Nat} {xs : List Value} (h : w.ownsRow base e 1 v n xs) (hb : Below w.heap.size w w') : w'.ownsRow base e 1 v n xs :=
  World.ownsRow.kept h (grown_of_below hb none) (by cases v.ownBlock <;> simp)
/-- One more list. -/
theorem St.add {k : IntKind} {e T : TypeId} {base : Nat} {w w1 w2 : World} {bx bx' v : Value} {cu : List Item} {L : List Int} (hne : e ≠ T) (h : St k e T base w bx cu) (hb : Below w.heap.size w w1) (hbase : base ≤ w.heap.size)
    (ho : OI k e w1 w.heap.size v L) (hp : w2.ownsRow base T 1 bx' (cu.length + 1) (cu.map Prod.fst ++ [v])) (hg : w1.grownBy w2 bx.ownBlock) : St k e T base w2 bx' (cu ++ [(v, L)]) := by
  have h1 := h.below hb
  have keep : ∀ u xs, OI k e w1 base u xs → OI k e w2 base u xs := fun u xs hu => hu.kept hg (own_unlike hu h1.box hne)
  have hget : ∀ (j : Nat) (q : Item), (cu ++ [(v, L)])[j]? = some q → (j < cu.length ∧ cu[j]? = some q) ∨ (j = cu.length ∧ q = (v, L)) := fun j q hq => by
    by_cases hj : j < cu.length
    · rw [List.getElem?_append_left hj] at hq; exact Or.inl ⟨hj, hq⟩
    · by_cases he : j = cu.length
      · subst he; simp at hq; exact Or.inr ⟨rfl, hq.symm⟩
      · rw [List.getElem?_eq_none (by simp; omega)] at hq; cases hq
  have haw : ∀ (j : Nat) (q : Item), cu[j]? = some q → Away q.1 v ∧ Away v q.1 := fun j q hq =>
    away_of (h := w.heap.size) (fun b hb => ((h.it j q hq).blk b hb).2) (fun b hb => (ho.blk b hb).1)
  refine ⟨by rw [List.length_append, List.map_append]; exact hp, fun j q hq => ?_, fun j j' q q' hjj hq hq' => ?_⟩
  · rcases hget j q hq with ⟨_, h2⟩ | ⟨_, rfl⟩
    · exact keep _ _ (h1.it j q h2)
    · exact keep _ _ (ho.lower hbase)
  · rcases hget j q hq with ⟨_, h2⟩ | ⟨e1, rfl⟩ <;> rcases hget j' q' hq' with ⟨_, h3⟩ | ⟨e2, rfl⟩
    · exact h.away j j' q q' hjj h2 h3
    · exact (haw j q h2).1
    · exact (haw j' q' h3).2
    · omega
/-- A row of other elements is grown. -/
theorem St.kept {k : IntKind} {e e' T : TypeId} {base n : Nat} {w w' : World} {bx v : Value} {cu : List Item} {xs : List Value} (h : St k e T base w bx cu) (h1 : T ≠ e') (h2 : e ≠ e') (hv : w.ownsRow base e' 1 v n xs) (hg : w.grownBy w' v.ownBlock) : St k e T base w' bx cu :=
  ⟨World.ownsRow.kept h.box hg (own_unlike h.box hv h1), fun j q hq => (h.it j q hq).kept hg (own_unlike (h.it j q hq) hv h2), h.away⟩

/-- All that is held while the lists are grown. -/
structure Gw (base : Nat) (w0 w : World) (bx : Value) (vs : List Value) (lv : Value) (us : List Value) (wv : Value) (nw : Nat) (ws : List Value) (R : List Mk) : Prop where
  fam : Fam base w R
  reg : Reg 25 base w bx vs lv us
  were : w.ownsRow base 9 1 wv nw ws
  below : Below base w0 w
  first : ∀ (j : Nat) (v : Value), vs[j]? = some v → (⟨v, 64, markA j⟩ : Mk) ∈ R
  long : ∀ (r : Nat) (u : Value), us[r]? = some u → ∃ m, m ≤ 200 ∧ (⟨u, m, markA (r % 5)⟩ : Mk) ∈ R
section
variable {base nw n m : Nat} {w0 w w' : World} {bx lv lv' wv x x' u : Value} {vs us ws : List Value} {R : List Mk} {a : Int}
theorem Gw.push (h : Gw base w0 w bx vs lv us wv nw ws R) (hbase : base ≤ w0.heap.size) (hp : (⟨x, n, a⟩ : Mk) ∈ R) (ho : w'.ownsRow base 5 1 x' (n + 1) (nums .u8 (List.replicate n a) ++ [.int .u8 a])) (hg : Grew2 w w' 5 x x' (.int .u8 a)) : Gw base w0 w' bx vs lv us wv nw ws (⟨x', n + 1, a⟩ :: R) := by
  have hown := h.fam.own _ hp
  have ho' : OI .u8 5 w' base x' (List.replicate n a ++ [a]) := oi_push (by simp) ho
  have hgr := hg.grew.grown
  refine ⟨h.fam.push hp ho' hg, h.reg.keep (by decide) hown hgr, World.ownsRow.kept h.were hgr (own_unlike h.were hown (by decide)), grew_below h.below hbase hown hg.grew, fun j v hv => List.mem_cons_of_mem _ (h.first j v hv), fun r u hu => ?_⟩
  obtain ⟨m, h1, h2⟩ := h.long r u hu
  exact ⟨m, h1, List.mem_cons_of_mem _ h2⟩
theorem Gw.add (h : Gw base w0 w bx vs lv us wv nw ws R) (hbase : base ≤ w0.heap.size) (ho : w'.ownsRow base 25 1 lv' (us.length + 1) (us ++ [u])) (hg : Grew w w' lv lv') (hu : (⟨u, m, markA (us.length % 5)⟩ : Mk) ∈ R) (hm : m ≤ 200) : Gw base w0 w' bx vs lv' (us ++ [u]) wv nw ws R := by
  refine ⟨h.fam.longer (by decide) h.reg.long hg, h.reg.push ho hg, World.ownsRow.kept h.were hg.grown (own_unlike h.were h.reg.long (by decide)), grew_below h.below hbase h.reg.long hg, h.first, fun r u' hu' => ?_⟩
  by_cases hr : r < us.length
  · rw [List.getElem?_append_left hr] at hu'
    exact h.long r u' hu'
  · by_cases he : r = us.length
    · subst he
      simp at hu'
      subst hu'
      exact ⟨m, hm, hu⟩
    · rw [List.getElem?_eq_none (by simp; omega)] at hu'
      cases hu'
end
theorem Gw.start {base nw n : Nat} {w0 w : World} {bx wv : Value} {ws : List Value} {cu : List Item} (hs : Ph1 .u8 5 25 markA 64 base w0 w bx n n cu) (h64 : ∀ (j : Nat) (q : Item), cu[j]? = some q → q.2.length = 64) (hn : n ≤ 1000) (hw : w.ownsRow base 9 1 wv nw ws) :
    ∃ R, Gw base w0 w bx (cu.map Prod.fst) (.slice none 0 0) [] wv nw ws R := by
  have hit : ∀ (j : Nat) (q : Item), cu[j]? = some q → q.2 = List.replicate 64 (markA j) := fun j q hq => by
    have h1 := hs.mark j q (by have := (List.getElem?_eq_some_iff.1 hq).1; have := hs.len; omega) hq
    rwa [h64 j q hq] at h1
  refine ⟨cu.zipIdx.map fun p => ⟨p.1.1, 64, markA p.2⟩, ⟨fun p hp => ?_, fun p hp p' hp' b hb hb' => ?_⟩, Reg.start (by rw [List.length_map]; exact hs.st.box), hw, hs.below, fun j v hv => ?_, fun r u hu => by simp at hu⟩
  · obtain ⟨⟨q, j⟩, h1, rfl⟩ := List.mem_map.1 hp
    have hq := List.mem_zipIdx_iff_getElem?.1 h1
    have h2 := hs.st.it j q hq
    rw [hit j q hq] at h2
    exact h2
  · obtain ⟨⟨q, j⟩, h1, rfl⟩ := List.mem_map.1 hp
    obtain ⟨⟨q', j'⟩, h1', rfl⟩ := List.mem_map.1 hp'
    have hq := List.mem_zipIdx_iff_getElem?.1 h1
    have hq' := List.mem_zipIdx_iff_getElem?.1 h1'
    by_cases hj : j = j'
    · subst hj; rfl
    · rcases hs.st.away j j' q q' hj hq hq' with h | h
      · simp only at hb
        rw [h] at hb; cases hb
      · exact absurd (hb.trans hb'.symm) h
  · rw [List.getElem?_map] at hv
    obtain ⟨q, hq, rfl⟩ := Option.map_eq_some_iff.1 hv
    exact List.mem_map.2 ⟨(q, j), List.mem_zipIdx_iff_getElem?.2 hq, rfl⟩
end Go.Proofs.YtblfmofhfbbmdaaDoor

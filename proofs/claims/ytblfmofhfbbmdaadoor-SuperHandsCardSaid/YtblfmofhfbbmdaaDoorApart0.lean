/- Rows of one's own that don't share memory: written, grown by append, one after the other; and what has been told of them stays. -/
import Derived.Test.YtblfmofhfbbmdaaDoorOct0
import Derived.Deep.DeepAppendRoom
import Derived.ArgAppend
set_option linter.unusedVariables false
set_option linter.unusedSimpArgs false
namespace Go.Proofs.YtblfmofhfbbmdaaDoor
open Go.RowKit

abbrev Item := Value × List Int
/-- Two values that don't lie in one block. -/
def Away (q x : Value) : Prop := q.ownBlock = none ∨ q.ownBlock ≠ x.ownBlock
/-- How append has grown a row: in its own block, or in a new one, and nothing else was touched. -/
def Grew (w w' : World) (v v' : Value) : Prop := (∃ g n cap, v = .slice (some ⟨g, 0, none⟩) n cap ∧ v' = .slice (some ⟨g, 0, none⟩) (n + 1) cap ∧ w.grownBy w' (some g)) ∨ (w.grownBy w' none ∧ ∃ b, v'.ownBlock = some b ∧ w.heap.size ≤ b)

section
variable {P : Program} {w : World} {ops : Array Oper} {rest : List Oper} {o : Oper} {a : Act} {Q : Exit → Act → World → Prop}
/-- append(v, y): one cell, behind the box of the variadic; where the row has grown to. -/
theorem wpList_push (hgd : o.guard = none) (s x : Operand) (t e : TypeId) (z : Value) (bts : Nat)
    (ho : o.op = .call { callee := .builtin .append, args := #[s, x], argTypes := #[t, t] })
    (ht : P.underlying t = some (.slice e)) (hinfo : (P.info? e).map (fun i => (i.zero, i.size, i.bytes)) = some (some z, 1, bts)) (hzs : z.cells.size = 1) (hb0 : 0 < bts)
    (base : Nat) (v : Value) (n : Nat) (xs : List Value) (y : Value) (hy : y.oneCell' = true) (hs : a.eval s = v) (hx : a.eval x = .slice (some ⟨w.heap.size, 0, none⟩) 1 1) (hown : w.ownsRow base e 1 v n xs)
    (hlen : (n + 1) * bts ≤ 140737488355328) (hbase : base ≤ w.heap.size)
    (h : ∀ v' w', w'.ownsRow base e 1 v' (n + 1) (xs ++ [y]) → Grew w w' v v' → wpList P ops Q rest (a.put o.dst v') w') :
    wpList P ops Q (o :: rest) a (w.alloc (.cells #[y] e)) := by
  obtain ⟨i0, hi, hzz⟩ := Option.map_eq_some_iff.1 hinfo
  simp only [Prod.mk.injEq] at hzz
  obtain ⟨hz0, hz1, hz2⟩ := hzz
  have h2 : n + 1 ≤ 140737488355328 := Nat.le_trans (Nat.le_mul_of_pos_right _ hb0) hlen
  have hnews := cell_one_new w y e
  have h1c : ∀ u ∈ [y], u.oneCell' = true := fun u hu => by simp at hu; subst hu; exact hy
  have hga : ∀ row, w.grownBy (w.alloc (.cells #[y] e)) row := fun row => World.grownBy_alloc w _ row
  have hgrow : ∀ v' w', w'.ownsRow (w.alloc (.cells #[y] e)).heap.size e 1 v' (n + 1) (xs ++ [y]) → (w.alloc (.cells #[y] e)).grownBy w' none → wpList P ops Q rest (a.put o.dst v') w' := fun v' w' ho' hg => by
    refine h v' w' ?_ (Or.inr ⟨World.grownBy.trans (hga _) hg, ?_⟩)
    · obtain ⟨g1, g2⟩ := ho'
      refine ⟨g1, ?_⟩
      rcases g2 with g2 | ⟨g, cap, cur, e', hg', r⟩
      · exact Or.inl g2
      · exact Or.inr ⟨g, cap, cur, e', by simp at hg'; omega, r⟩
    · rcases ho'.2 with ⟨_, h0⟩ | ⟨g, cap, cur, rfl, hg', _⟩
      · omega
      · exact ⟨g, rfl, by simp at hg'; omega⟩
  have hown1 := World.ownsRow.alloc hown (.cells #[y] e)
  rcases hown.2 with ⟨rfl, rfl⟩ | ⟨g, cap, cur, rfl, hbg, hh, hnc, hcm, hcs, htake⟩
  · obtain rfl : xs = [] := List.eq_nil_of_length_eq_zero (by simpa using hown.1)
    refine wpList_append_grows _ hgd s x t ho e i0 z 1 bts ht hi hz0 hz1 hz2 hzs (by decide) none 0 0 [] hs (fun _ => ⟨rfl, rfl⟩) rfl (fun b e => by cases e) ⟨w.heap.size, 0, none⟩ 1 1 [y] hx rfl hnews h1c (by omega) (by simp only [maxLen]; omega) hlen ?_
    simpa using hgrow
  · by_cases hroom : n + 1 ≤ cap
    · refine wpList_append_own_spare _ hgd s x t ho base e i0 1 ht hi hz1 g n cap xs hs hown1 ⟨w.heap.size, 0, none⟩ 1 1 [y] hx rfl hnews h1c hroom ?_
      intro w' ho' hg'
      exact h _ w' ho' (Or.inl ⟨g, n, cap, rfl, rfl, World.grownBy.trans (hga _) hg'⟩)
    · refine wpList_append_grows _ hgd s x t ho e i0 z 1 bts ht hi hz0 hz1 hz2 hzs (by decide) (some ⟨g, 0, none⟩) n cap xs hs (fun e => by cases e) hown.1 (fun b e => by cases e; exact World.ownsRow.cells hown1 rfl) ⟨w.heap.size, 0, none⟩ 1 1 [y] hx rfl hnews h1c (by omega) (by simp only [maxLen]; omega) hlen hgrow
end

theorem Grew.grown {w w' : World} {v v' : Value} (h : Grew w w' v v') : w.grownBy w' v.ownBlock := by
  rcases h with ⟨g, n, cap, rfl, rfl, h3⟩ | ⟨h1, b, h2, h3⟩
  · exact h3
  · exact ⟨h1.os, h1.tape, h1.output, h1.size, fun k hk _ => h1.block k hk (by simp)⟩

theorem OI.bare {k : IntKind} {e : TypeId} {w : World} {base : Nat} {v : Value} {xs : List Int} (h : OI k e w base v xs) (hn : v.ownBlock = none) : xs = [] := by
  rcases h.2 with ⟨rfl, h0⟩ | ⟨g, cap, cur, rfl, _⟩
  · exact List.eq_nil_of_length_eq_zero h0
  · simp [Value.ownBlock] at hn
/-- A value of the same block tells the beginning of what the row tells now. -/
theorem OI.part {k : IntKind} {e : TypeId} {w w' : World} {base g n n' cap : Nat} {u : Value} {L X X' : List Int} (hu : OI k e w base u L) (hv : OI k e w base (.slice (some ⟨g, 0, none⟩) n cap) X) (hv' : OI k e w' base (.slice (some ⟨g, 0, none⟩) n' cap) X')
    (hb : u.ownBlock = some g) (hp : L <+: X') : OI k e w' base u L := by
  rcases hu.2 with ⟨rfl, h0⟩ | ⟨g1, cap1, cur1, rfl, hg1, hh1, hn1, hm1, hs1, ht1⟩
  · exact ⟨hu.1, Or.inl ⟨rfl, h0⟩⟩
  · obtain rfl : g1 = g := by simpa [Value.ownBlock] using hb
    rcases hv.2 with ⟨e1, h0⟩ | ⟨g2, cap2, cur2, e2, hg2, hh2, hn2, hm2, hs2, ht2⟩
    · cases e1
    · rcases hv'.2 with ⟨e1, h0⟩ | ⟨g3, cap3, cur3, e3, hg3, hh3, hn3, hm3, hs3, ht3⟩
      · cases e1
      · simp only [Value.slice.injEq, Option.some.injEq, Addr.mk.injEq] at e2 e3
        obtain ⟨⟨rfl, _⟩, rfl, rfl⟩ := e2
        obtain ⟨⟨rfl, _⟩, rfl, rfl⟩ := e3
        rw [hh1] at hh2
        simp only [Option.some.injEq, Obj.cells.injEq] at hh2
        obtain ⟨rfl, _⟩ := hh2
        refine ⟨hu.1, Or.inr ⟨g1, cap1, cur3, rfl, hg1, hh3, hn1, hm1, by omega, ?_⟩⟩
        obtain ⟨T, rfl⟩ := hp
        rw [Nat.mul_one] at ht3 ⊢
        have h8 := congrArg (List.take L.length) ht3
        rw [List.take_take, Nat.min_eq_left (by simp), nums_append, List.take_left' (by simp [nums])] at h8
        exact h8

/-- One row that is being grown, others that are still to come, and what has been told so far. -/
structure Chains (k : IntKind) (e : TypeId) (base : Nat) (w : World) (x : Value) (X : List Int) (rest R : List Item) : Prop where
  own : OI k e w base x X
  left : ∀ q ∈ rest, OI k e w base q.1 q.2 ∧ Away q.1 x
  told : ∀ p ∈ R, OI k e w base p.1 p.2 ∧ (p.1.ownBlock = x.ownBlock → p.2 <+: X) ∧ ∀ q ∈ rest, Away q.1 p.1
  apart : rest.Pairwise fun q q' => Away q.1 q'.1 ∧ Away q'.1 q.1
structure Pool (k : IntKind) (e : TypeId) (base : Nat) (w : World) (rest R : List Item) : Prop where
  left : ∀ q ∈ rest, OI k e w base q.1 q.2
  told : ∀ p ∈ R, OI k e w base p.1 p.2 ∧ ∀ q ∈ rest, Away q.1 p.1
  apart : rest.Pairwise fun q q' => Away q.1 q'.1 ∧ Away q'.1 q.1
theorem Pool.start {k : IntKind} {e : TypeId} {base : Nat} {w : World} {q : Item} {rest R : List Item} (h : Pool k e base w (q :: rest) R) : Chains k e base w q.1 q.2 rest (q :: R) := by
  have hp := List.pairwise_cons.1 h.apart
  refine ⟨h.left q (by simp), fun r hr => ⟨h.left r (by simp [hr]), (hp.1 r hr).2⟩, fun p hp' => ?_, hp.2⟩
  rcases List.mem_cons.1 hp' with rfl | hp'
  · exact ⟨h.left p (by simp), fun _ => List.prefix_refl _, fun r hr => (hp.1 r hr).2⟩
  · refine ⟨(h.told p hp').1, fun hb => ?_, fun r hr => (h.told p hp').2 r (by simp [hr])⟩
    rcases (h.told p hp').2 q (by simp) with hn | hn
    · rw [hn] at hb
      rw [(h.told p hp').1.bare hb]
      exact List.nil_prefix
    · exact absurd hb.symm hn
theorem Chains.stop {k : IntKind} {e : TypeId} {base : Nat} {w : World} {x : Value} {X : List Int} {rest R : List Item} (h : Chains k e base w x X rest R) : Pool k e base w rest R :=
  ⟨fun q hq => (h.left q hq).1, fun p hp => ⟨(h.told p hp).1, (h.told p hp).2.2⟩, h.apart⟩
/-- Something else was grown. -/
theorem Chains.keep {k : IntKind} {e : TypeId} {base : Nat} {w w' : World} {x : Value} {X : List Int} {rest R : List Item} (h : Chains k e base w x X rest R) {row : Option Nat} (hg : w.grownBy w' row)
    (hrow : ∀ v xs, OI k e w base v xs → v.ownBlock = none ∨ v.ownBlock ≠ row) : Chains k e base w' x X rest R :=
  ⟨h.own.kept hg (hrow _ _ h.own), fun q hq => ⟨(h.left q hq).1.kept hg (hrow _ _ (h.left q hq).1), (h.left q hq).2⟩,
    fun p hp => ⟨(h.told p hp).1.kept hg (hrow _ _ (h.told p hp).1), (h.told p hp).2⟩, h.apart⟩
theorem Pool.keep {k : IntKind} {e : TypeId} {base : Nat} {w w' : World} {rest R : List Item} (h : Pool k e base w rest R) {row : Option Nat} (hg : w.grownBy w' row)
    (hrow : ∀ v xs, OI k e w base v xs → v.ownBlock = none ∨ v.ownBlock ≠ row) : Pool k e base w' rest R :=
  ⟨fun q hq => (h.left q hq).kept hg (hrow _ _ (h.left q hq)), fun p hp => ⟨(h.told p hp).1.kept hg (hrow _ _ (h.told p hp).1), (h.told p hp).2⟩, h.apart⟩
/-- The row itself has been grown. -/
theorem Chains.push {k : IntKind} {e : TypeId} {base : Nat} {w w' : World} {x x' : Value} {X : List Int} {y : Int} {rest R : List Item} (h : Chains k e base w x X rest R)
    (ho : OI k e w' base x' (X ++ [y])) (hg : Grew w w' x x') : Chains k e base w' x' (X ++ [y]) rest R := by
  rcases hg with ⟨g, n, cap, rfl, rfl, h3⟩ | ⟨h1, b, h2, h3⟩
  · have hown := h.own
    refine ⟨ho, fun q hq => ?_, fun p hp => ?_, h.apart⟩
    · obtain ⟨a1, a2⟩ := h.left q hq
      exact ⟨a1.kept h3 a2, a2⟩
    · obtain ⟨a1, a2, a3⟩ := h.told p hp
      by_cases hb : p.1.ownBlock = some g
      · have hpre : p.2 <+: X ++ [y] := (a2 hb).trans (List.prefix_append _ _)
        exact ⟨a1.part hown ho hb hpre, fun _ => hpre, a3⟩
      · exact ⟨a1.kept h3 (Or.inr hb), fun hb' => absurd hb' hb, a3⟩
  · refine ⟨ho, fun q hq => ?_, fun p hp => ?_, h.apart⟩
    · obtain ⟨a1, a2⟩ := h.left q hq
      refine ⟨a1.kept h1 (by cases q.1.ownBlock <;> simp), ?_⟩
      cases hq2 : q.1.ownBlock with
      | none => exact Or.inl hq2
      | some c =>
        refine Or.inr ?_
        have := (a1.blk c hq2).2
        rw [hq2, h2]
        intro hc
        simp only [Option.some.injEq] at hc
        omega
    · obtain ⟨a1, a2, a3⟩ := h.told p hp
      refine ⟨a1.kept h1 (by cases p.1.ownBlock <;> simp), fun hb' => ?_, a3⟩
      have := (a1.blk b (by rw [hb', h2])).2
      omega
theorem Chains.tell {k : IntKind} {e : TypeId} {base : Nat} {w : World} {x : Value} {X : List Int} {rest R : List Item} (h : Chains k e base w x X rest R) : Chains k e base w x X rest ((x, X) :: R) :=
  ⟨h.own, h.left, fun p hp => by
    rcases List.mem_cons.1 hp with rfl | hp
    · exact ⟨h.own, fun _ => List.prefix_refl _, fun q hq => (h.left q hq).2⟩
    · exact h.told p hp, h.apart⟩
end Go.Proofs.YtblfmofhfbbmdaaDoor

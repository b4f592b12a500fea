/- What a slice reads as, in a world: bytes, and lists of bytes; such readings stay while nothing old is written. The CRC table's cells. -/
import Derived.Test.YtblfmofhfbbmdaaDoorProg
import Derived.Test.YtblfmofhfbbmdaaDoorMath
import Derived.WalkKit
import Derived.WalkSpells
import Derived.WalkLawsBesides
import Derived.Lib.Hide
import Derived.Maps.AppendAt
import Derived.Laws.AppendOwnNone
import Derived.OwnWalk
import Derived.OneCell
set_option linter.unusedVariables false
set_option linter.unusedSimpArgs false
namespace Go.Proofs.YtblfmofhfbbmdaaDoor
open Go.RowKit Crc

/-- The table's sixteen cells. -/
def Tab (w : World) : Prop := ∀ i : Nat, i < 16 → w.cell? ⟨1, i, none⟩ = some (.int .u32 (halves[i]?.getD 0))
/-- A value that reads as these bytes. -/
def RBy (w : World) (v : Value) (xs : List Int) : Prop :=
  ∃ A c, v = .slice A xs.length c ∧ xs.length ≤ c ∧ xs.length ≤ 9223372036854775807 ∧ (∀ x ∈ xs, 0 ≤ x ∧ x < 256) ∧ (A = none → c = 0) ∧
    (0 < xs.length → ∃ ad, A = some ad ∧ ∀ j, j < xs.length → w.cell? (ad.add j) = some (.int .u8 (xs[j]?.getD 0)))
/-- A value that reads as these lists of bytes. -/
def RBs (w : World) (v : Value) (xss : List (List Int)) : Prop :=
  ∃ A c, v = .slice A xss.length c ∧ xss.length ≤ c ∧ xss.length ≤ 9223372036854775807 ∧
    (0 < xss.length → ∃ ad, A = some ad ∧ ∀ j, j < xss.length → ∃ u, w.cell? (ad.add j) = some u ∧ RBy w u (xss[j]?.getD []))

theorem keep_cell {w w' : World} {B : Nat} (h : Below B w w') (hB : w.heap.size ≤ B) {a : Addr} {v : Value} (hc : w.cell? a = some v) : w'.cell? a = some v :=
  (h.cell (Nat.lt_of_lt_of_le (World.block_lt_of_cell? w a hc) hB)).trans hc
theorem Tab.below {w w' : World} (h : Tab w) (hb : Below w.heap.size w w') : Tab w' := fun i hi => keep_cell hb (Nat.le_refl _) (h i hi)
theorem RBy.below {w w' : World} {v : Value} {xs : List Int} (h : RBy w v xs) (hb : Below w.heap.size w w') : RBy w' v xs := by
  obtain ⟨A, c, h1, h2, h3, h4, h6, h5⟩ := h
  refine ⟨A, c, h1, h2, h3, h4, h6, fun hp => ?_⟩
  obtain ⟨ad, e, hc⟩ := h5 hp
  exact ⟨ad, e, fun j hj => keep_cell hb (Nat.le_refl _) (hc j hj)⟩
theorem RBs.below {w w' : World} {v : Value} {xss : List (List Int)} (h : RBs w v xss) (hb : Below w.heap.size w w') : RBs w' v xss := by
  obtain ⟨A, c, h1, h2, h3, h5⟩ := h
  refine ⟨A, c, h1, h2, h3, fun hp => ?_⟩
  obtain ⟨ad, e, hc⟩ := h5 hp
  exact ⟨ad, e, fun j hj => by obtain ⟨u, hu, hr⟩ := hc j hj; exact ⟨u, keep_cell hb (Nat.le_refl _) hu, hr.below hb⟩⟩
theorem RBy.nil (w : World) : RBy w (.slice none 0 0) [] := ⟨none, 0, rfl, by simp, by simp, by simp, fun _ => rfl, fun h => absurd h (by simp)⟩

theorem heap_at (w : World) (o : Obj) (k : Nat) : (w.alloc o).heap[k]? = if k = w.heap.size then some o else w.heap[k]? := by
  by_cases h : k = w.heap.size
  · subst h; rw [if_pos rfl]; exact heap_alloc_new w o
  · rw [if_neg h]
    by_cases l : k < w.heap.size
    · exact Below.heap_alloc w o k l
    · rw [Array.getElem?_eq_none (by simp; omega), Array.getElem?_eq_none (by omega)]
theorem add_plain (g j : Nat) : (⟨g, 0, none⟩ : Addr).add j = ⟨g, j, none⟩ := by unfold Addr.add; split <;> simp_all
theorem Below.setRow' {B : Nat} {a w : World} (h : Below B a w) {g : Nat} (hg : B ≤ g) (cs : Array Value) : Below B a (w.setRow g cs) :=
  h.trans ⟨rfl, rfl, rfl, by simp, fun k hk => setRow_other w g k _ (by omega)⟩

def bytes (xs : List Int) : List Value := xs.map (Value.int .u8)
theorem bytes_length (xs : List Int) : (bytes xs).length = xs.length := by simp [bytes]
theorem bytes_append (xs ys : List Int) : bytes (xs ++ ys) = bytes xs ++ bytes ys := by simp [bytes]
theorem bytes_get (xs : List Int) (j : Nat) (h : j < xs.length) : (bytes xs)[j]? = some (.int .u8 (xs[j]?.getD 0)) := by
  simp [bytes, h]
/-- Every number is a byte's. -/
def IsB (xs : List Int) : Prop := ∀ x ∈ xs, 0 ≤ x ∧ x < 256
theorem IsB.append {xs ys : List Int} (h : IsB xs) (k : IsB ys) : IsB (xs ++ ys) := fun x hx => by
  rcases List.mem_append.1 hx with h' | h'
  · exact h x h'
  · exact k x h'
theorem IsB.take {xs : List Int} (h : IsB xs) (n : Nat) : IsB (xs.take n) := fun x hx => h x (List.mem_of_mem_take hx)
theorem IsB.drop {xs : List Int} (h : IsB xs) (n : Nat) : IsB (xs.drop n) := fun x hx => h x (List.mem_of_mem_drop hx)

/-- A row whose first cells are these bytes. -/
theorem RBy.row {w : World} {g : Nat} {arr : Array Value} {t : TypeId} {fr : Nat × Nat} (hg : w.heap[g]? = some (.cells arr t fr)) (xs : List Int) (hr : IsB xs) (c : Nat) (hc : xs.length ≤ c) (hl : xs.length ≤ 9223372036854775807)
    (ha : arr.toList.take xs.length = bytes xs) : RBy w (.slice (some ⟨g, 0, none⟩) xs.length c) xs := by
  refine ⟨_, c, rfl, hc, hl, hr, (fun h => by cases h), fun _ => ⟨_, rfl, fun j hj => ?_⟩⟩
  rw [add_plain, cell_of_row w g j _ _ _ hg]
  have h1 : (arr.toList.take xs.length)[j]? = some (.int .u8 (xs[j]?.getD 0)) := by rw [ha, bytes_get _ _ hj]
  rw [List.getElem?_take, if_pos hj] at h1
  simpa using h1
/-- A row whose first cells are slices that read as these bytes. -/
theorem RBs.row {w : World} {g : Nat} {arr : Array Value} {t : TypeId} {fr : Nat × Nat} (hg : w.heap[g]? = some (.cells arr t fr)) (xss : List (List Int)) (c : Nat) (hc : xss.length ≤ c) (hl : xss.length ≤ 9223372036854775807)
    (ha : ∀ j, j < xss.length → ∃ u, arr[j]? = some u ∧ RBy w u (xss[j]?.getD [])) : RBs w (.slice (some ⟨g, 0, none⟩) xss.length c) xss := by
  refine ⟨_, c, rfl, hc, hl, fun _ => ⟨_, rfl, fun j hj => ?_⟩⟩
  rw [add_plain, cell_of_row w g j _ _ _ hg]
  exact ha j hj
theorem RBs.nil (w : World) : RBs w (.slice none 0 0) [] := ⟨none, 0, rfl, by simp, by simp, fun h => absurd h (by simp)⟩

theorem heap_top (w : World) (o : Obj) (b : Nat) (h : b = w.heap.size) : (w.alloc o).heap[b]? = some o := by rw [h]; exact heap_alloc_new w o
theorem heap_under {w : World} {b : Nat} {x : Obj} (o : Obj) (h : w.heap[b]? = some x) : (w.alloc o).heap[b]? = some x := by
  rw [Below.heap_alloc w o b (Array.getElem?_eq_some_iff.1 h).1]; exact h
theorem below_alloc {w W : World} (h : Below w.heap.size w W) (o : Obj) : Below w.heap.size w (W.alloc o) := h.alloc h.size o
theorem below_then {w w1 w2 : World} (h : Below w.heap.size w w1) (k : Below w1.heap.size w1 w2) : Below w.heap.size w w2 := h.trans (k.mono h.size)
theorem below_drewN {B : Nat} {w W : World} (h : Below B w W) (n : Nat) : Below B w (W.drewN n) := ⟨h.os, h.tape, h.output, h.size, h.block⟩

theorem isB_lit (xs : List Int) (h : xs.all (fun x => decide (0 ≤ x) && decide (x < 256)) = true) : IsB xs := fun x hx => by
  have := List.all_eq_true.1 h x hx
  simpa using this
theorem RBy.lit {w : World} {g n : Nat} {arr : Array Value} {t : TypeId} {fr : Nat × Nat} (xs : List Int) (hg : w.heap[g]? = some (.cells arr t fr)) (ha : arr.toList = bytes xs) (hb : xs.all (fun x => decide (0 ≤ x) && decide (x < 256)) = true)
    (hn : xs.length = n) (hl : n ≤ 9223372036854775807) : RBy w (.slice (some ⟨g, 0, none⟩) n n) xs := by
  subst hn
  exact RBy.row hg xs (isB_lit xs hb) _ (Nat.le_refl _) hl (by rw [ha, ← bytes_length, List.take_length])
theorem RBs.one {w : World} {g c : Nat} {u : Value} {t : TypeId} {fr : Nat × Nat} {xs : List Int} (hg : w.heap[g]? = some (.cells #[u] t fr)) (hc : 1 ≤ c) (h0 : RBy w u xs) : RBs w (.slice (some ⟨g, 0, none⟩) 1 c) [xs] :=
  RBs.row hg [xs] c hc (by simp) (fun j hj => by
    have : j = 0 := by simpa using hj
    subst this
    exact ⟨u, rfl, h0⟩)
theorem RBs.two {w : World} {g c : Nat} {u v : Value} {t : TypeId} {fr : Nat × Nat} {xs ys : List Int} (hg : w.heap[g]? = some (.cells #[u, v] t fr)) (hc : 2 ≤ c) (h0 : RBy w u xs) (h1 : RBy w v ys) : RBs w (.slice (some ⟨g, 0, none⟩) 2 c) [xs, ys] :=
  RBs.row hg [xs, ys] c hc (by simp) (fun j hj => by
    rcases Nat.lt_or_ge j 1 with h | h
    · have : j = 0 := by omega
      subst this
      exact ⟨u, rfl, h0⟩
    · have : j = 1 := by simp at hj; omega
      subst this
      exact ⟨v, rfl, h1⟩)
theorem RBs.three {w : World} {g c : Nat} {u v z : Value} {t : TypeId} {fr : Nat × Nat} {xs ys zs : List Int} (hg : w.heap[g]? = some (.cells #[u, v, z] t fr)) (hc : 3 ≤ c) (h0 : RBy w u xs) (h1 : RBy w v ys) (h2 : RBy w z zs) : RBs w (.slice (some ⟨g, 0, none⟩) 3 c) [xs, ys, zs] :=
  RBs.row hg [xs, ys, zs] c hc (by simp) (fun j hj => by
    have hj' : j < 3 := by simpa using hj
    rcases (by omega : j = 0 ∨ j = 1 ∨ j = 2) with h | h | h <;> subst h
    · exact ⟨u, rfl, h0⟩
    · exact ⟨v, rfl, h1⟩
    · exact ⟨z, rfl, h2⟩)

/-- The first m of the bytes. -/
theorem RBy.first {w : World} {A : Option Addr} {n c : Nat} {xs : List Int} (h : RBy w (.slice A n c) xs) {m : Nat} (hm : m ≤ xs.length) : RBy w (.slice A m c) (xs.take m) := by
  obtain ⟨A', c', e, h2, h3, h4, h6, h5⟩ := h
  simp only [Value.slice.injEq] at e
  obtain ⟨rfl, rfl, rfl⟩ := e
  have hl : (xs.take m).length = m := by rw [List.length_take]; omega
  refine ⟨A, c, by rw [hl], by rw [hl]; omega, by rw [hl]; omega, fun x hx => h4 x (List.mem_of_mem_take hx), h6, fun hp => ?_⟩
  rw [hl] at hp ⊢
  obtain ⟨ad, e, hc⟩ := h5 (by omega)
  exact ⟨ad, e, fun j hj => by rw [List.getElem?_take, if_pos hj]; exact hc j (by omega)⟩
theorem RBy.isB {w : World} {v : Value} {xs : List Int} (h : RBy w v xs) : IsB xs := by
  obtain ⟨_, _, _, _, _, h4, _⟩ := h; exact h4

/-! ### A slice of the call's own: it owns its row, whose first cells are these bytes -/
def OB (w : World) (base : Nat) (v : Value) (xs : List Int) : Prop := w.ownsRow base 5 1 v xs.length (bytes xs) ∧ IsB xs
theorem OB.nil (w : World) (base : Nat) : OB w base (.slice none 0 0) [] := ⟨World.ownsRow_nil w base 5 1, fun x hx => by cases hx⟩
theorem OB.reads {w : World} {base : Nat} {v : Value} {xs : List Int} (h : OB w base v xs) : RBy w v xs := by
  obtain ⟨⟨h1, h2⟩, hb⟩ := h
  rcases h2 with ⟨rfl, h0⟩ | ⟨g, cap, cur, rfl, hg, hh, hn, hm, hs, ht⟩
  · obtain rfl : xs = [] := List.eq_nil_of_length_eq_zero h0
    exact RBy.nil w
  · exact RBy.row hh xs hb cap hn (by simp only [maxLen] at hm; omega) (by rw [← ht, Nat.mul_one])
theorem OB.kept {w w' : World} {base : Nat} {v : Value} {xs : List Int} {row : Option Nat} (h : OB w base v xs) (hg : w.grownBy w' row) (hne : v.ownBlock = none ∨ v.ownBlock ≠ row) : OB w' base v xs := ⟨h.1.kept hg hne, h.2⟩
theorem grown_of_below {w w1 : World} (h : Below w.heap.size w w1) (row : Option Nat) : w.grownBy w1 row := ⟨h.os, h.tape, h.output, h.size, fun i hi _ => h.block i hi⟩
theorem OB.below {w w' : World} {base : Nat} {v : Value} {xs : List Int} (h : OB w base v xs) (hb : Below w.heap.size w w') : OB w' base v xs := h.kept (grown_of_below hb none) (by cases v.ownBlock <;> simp)
theorem OB.lower {w : World} {b1 b2 : Nat} {v : Value} {xs : List Int} (h : OB w b1 v xs) (hb : b2 ≤ b1) : OB w b2 v xs := by
  obtain ⟨⟨h1, h2⟩, h3⟩ := h
  refine ⟨⟨h1, ?_⟩, h3⟩
  rcases h2 with h2 | ⟨g, cap, cur, e, hg, r⟩
  · exact Or.inl h2
  · exact Or.inr ⟨g, cap, cur, e, Nat.le_trans hb hg, r⟩
theorem OB.blk {w : World} {base : Nat} {v : Value} {xs : List Int} (h : OB w base v xs) : ∀ k, v.ownBlock = some k → base ≤ k ∧ k < w.heap.size := h.1.lt
theorem below_grown {w W w1 : World} {base : Nat} {v : Value} {xs : List Int} (hb : Below w.heap.size w W) (ho : OB W base v xs) (hbase : w.heap.size ≤ base) (hg : W.grownBy w1 v.ownBlock) : Below w.heap.size w w1 :=
  hb.grown hg hb.size (fun k hk => Nat.le_trans hbase (ho.blk k hk).1)
/-- A row made empty. -/
theorem OB.made (w : World) (base : Nat) (cur : Array Value) (cap : Nat) (hb : base ≤ w.heap.size) (hm : cap ≤ maxLen) (hs : cur.size = cap) : OB (w.alloc (.cells cur 5)) base (.slice (some ⟨w.heap.size, 0, none⟩) 0 cap) [] :=
  ⟨World.ownsRow_made w cur cap hb hm (by simpa using hs), fun x hx => by cases hx⟩

theorem OB.form {w : World} {base : Nat} {v : Value} {xs : List Int} (h : OB w base v xs) (hp : 0 < xs.length) : ∃ g cap, v = .slice (some ⟨g, 0, none⟩) xs.length cap ∧ base ≤ g ∧ xs.length ≤ cap ∧ xs.length ≤ 9223372036854775807 ∧ (v.ownBlock = some g) := by
  obtain ⟨⟨h1, h2⟩, hb⟩ := h
  rcases h2 with ⟨rfl, h0⟩ | ⟨g, cap, cur, rfl, hg, hh, hn, hm, hs, ht⟩
  · omega
  · exact ⟨g, cap, rfl, hg, hn, by simp only [maxLen] at hm; omega, rfl⟩
theorem OB.cell {w : World} {base g n cap : Nat} {xs : List Int} (h : OB w base (.slice (some ⟨g, 0, none⟩) n cap) xs) (j : Nat) (hj : j < xs.length) : w.cell? ⟨g, j, none⟩ = some (.int .u8 (xs[j]?.getD 0)) := by
  have := h.1.cells (g := g) rfl j (.int .u8 (xs[j]?.getD 0)) (bytes_get xs j hj)
  rwa [add_plain] at this
theorem OB.free {w : World} {base g n cap : Nat} {xs : List Int} (h : OB w base (.slice (some ⟨g, 0, none⟩) n cap) xs) (j : Nat) : w.frozen? ⟨g, j, none⟩ = false := by
  obtain ⟨⟨h1, h2⟩, hb⟩ := h
  rcases h2 with ⟨e, h0⟩ | ⟨g', cap', cur, e, hg, hh, hn, hm, hs, ht⟩
  · cases e
  · simp only [Value.slice.injEq, Option.some.injEq, Addr.mk.injEq] at e
    obtain ⟨⟨rfl, _⟩, _⟩ := e
    exact frozen_of_row w g j cur _ hh
theorem OB.set {w : World} {base g n cap : Nat} {xs : List Int} (h : OB w base (.slice (some ⟨g, 0, none⟩) n cap) xs) (j : Nat) (hj : j < xs.length) (c : Int) (hc : 0 ≤ c ∧ c < 256) :
    OB (w.setCell ⟨g, j, none⟩ (.int .u8 c)) base (.slice (some ⟨g, 0, none⟩) n cap) (xs.set j c) := by
  obtain ⟨⟨h1, h2⟩, hb⟩ := h
  rcases h2 with ⟨e, h0⟩ | ⟨g', cap', cur, e, hg, hh, hn, hm, hs, ht⟩
  · cases e
  · simp only [Value.slice.injEq, Option.some.injEq, Addr.mk.injEq] at e
    obtain ⟨⟨rfl, _⟩, rfl, rfl⟩ := e
    refine ⟨⟨by simp [bytes], Or.inr ⟨g, cap, cur.setIfInBounds j (.int .u8 c), by rw [List.length_set], hg, heap_setCell_same _ _ _ _ _ _ hh, by rw [List.length_set]; exact hn, hm, by simpa using hs, ?_⟩⟩, fun x hx => ?_⟩
    · rw [List.length_set, Nat.mul_one] at *
      rw [Array.toList_setIfInBounds, List.take_set, ht]
      simp [bytes, List.map_set]
    · rcases List.mem_or_eq_of_mem_set hx with h | h
      · exact hb x h
      · subst h; exact hc
theorem OB.set_other {w : World} {base : Nat} {v : Value} {xs : List Int} (h : OB w base v xs) {p : Addr} (hp : v.ownBlock ≠ some p.block) (u : Value) : OB (w.setCell p u) base v xs :=
  ⟨ownsRow_setCell_other h.1 hp u, h.2⟩
section
variable {P : Program} {w : World} {ops : Array Oper} {rest : List Oper} {o : Oper} {a : Act} {Q : Exit → Act → World → Prop}
/-- append(v, u...): whatever the source, nil too. -/
theorem wpList_app (hgd : o.guard = none) (s x : Operand) (t : TypeId)
    (ho : o.op = .call { callee := .builtin .append, args := #[s, x], argTypes := #[t, t] })
    (ht : P.underlying t = some (.slice 5)) (hinfo : (P.info? 5).map (fun i => (i.zero, i.size, i.bytes)) = some (some (.int .u8 0), 1, 1))
    (base : Nat) (v u : Value) (xs ys : List Int) (hs : a.eval s = v) (hx : a.eval x = u) (hown : OB w base v xs) (hr : RBy w u ys)
    (hlen : xs.length + ys.length ≤ 140737488355328) (hbase : base ≤ w.heap.size)
    (h : ∀ v' w', OB w' base v' (xs ++ ys) → w.grownBy w' v.ownBlock → (v'.ownBlock = v.ownBlock ∨ v'.ownBlock = some w.heap.size) → wpList P ops Q rest (a.put o.dst v') w') :
    wpList P ops Q (o :: rest) a w := by
  obtain ⟨i0, hi, hzz⟩ := Option.map_eq_some_iff.1 hinfo
  simp only [Prod.mk.injEq] at hzz
  obtain ⟨hz0, hz1, hz2⟩ := hzz
  have hby := hr.isB
  obtain ⟨A, c, rfl, hc, hl, hb, hA, hcell⟩ := hr
  cases A with
  | none =>
    have hy : ys = [] := by
      cases ys with
      | nil => rfl
      | cons y ys => obtain ⟨ad, e, _⟩ := hcell (by simp); cases e
    subst hy
    have hc0 := hA rfl
    subst hc0
    refine wpList_append_own_none hgd s x t ho base 5 i0 1 ht hi v xs.length (bytes xs) hs hown.1 hx ?_
    exact h v w (by rw [List.append_nil]; exact hown) ⟨rfl, rfl, rfl, Nat.le_refl _, fun _ _ _ => rfl⟩ (Or.inl rfl)
  | some ad =>
    refine wpList_append_own_at _ hgd s x t ho base 5 i0 (.int .u8 0) 1 1 ht hi hz0 hz1 hz2 rfl (by decide) v xs.length (bytes xs) hs hown.1 ad ys.length c (bytes ys) hx (by simp [bytes]) (fun j u hj => ?_) (fun u hu => ?_) (by simp only [maxLen]; omega) (by omega) hbase ?_
    · have hjl : j < ys.length := by
        have := (List.getElem?_eq_some_iff.1 hj).1
        simpa [bytes] using this
      obtain ⟨ad', e, hcs⟩ := hcell (by omega)
      cases e
      rw [bytes_get ys j hjl] at hj
      cases hj
      exact hcs j hjl
    · simp only [bytes, List.mem_map] at hu
      obtain ⟨z, _, rfl⟩ := hu
      rfl
    · intro v' w' ho' hg _ hat
      exact h v' w' ⟨by rw [bytes_append, List.length_append]; exact ho', hown.2.append hby⟩ hg hat
end
end Go.Proofs.YtblfmofhfbbmdaaDoor

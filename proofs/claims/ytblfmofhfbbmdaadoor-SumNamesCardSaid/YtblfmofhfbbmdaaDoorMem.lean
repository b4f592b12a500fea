/- What a slice reads as, in a world: bytes, and lists of bytes; such readings stay while nothing old is written. The CRC table's cells. -/
import Derived.Test.YtblfmofhfbbmdaaDoorProg
import Derived.Test.YtblfmofhfbbmdaaDoorMath
import Derived.WalkKit
import Derived.WalkSpells
import Derived.WalkLawsBesides
import Derived.Lib.Hide
namespace Go.Proofs.YtblfmofhfbbmdaaDoor
open Go.RowKit Crc

/-- The table's sixteen cells. -/
def Tab (w : World) : Prop := ∀ i : Nat, i < 16 → w.cell? ⟨1, i, none⟩ = some (.int .u32 (halves[i]?.getD 0))
/-- A value that reads as these bytes. -/
def RBy (w : World) (v : Value) (xs : List Int) : Prop :=
  ∃ A c, v = .slice A xs.length c ∧ xs.length ≤ c ∧ xs.length ≤ 9223372036854775807 ∧ (∀ x ∈ xs, 0 ≤ x ∧ x < 256) ∧
    (0 < xs.length → ∃ ad, A = some ad ∧ ∀ j, j < xs.length → w.cell? (ad.add j) = some (.int .u8 (xs[j]?.getD 0)))
/-- A value that reads as these lists of bytes. -/
def RBs (w : World) (v : Value) (xss : List (List Int)) : Prop :=
  ∃ A c, v = .slice A xss.length c ∧ xss.length ≤ c ∧ xss.length ≤ 9223372036854775807 ∧
    (0 < xss.length → ∃ ad, A = some ad ∧ ∀ j, j < xss.length → ∃ u, w.cell? (ad.add j) = some u ∧ RBy w u (xss[j]?.getD []))

theorem keep_cell {w w' : World} {B : Nat} (h : Below B w w') (hB : w.heap.size ≤ B) {a : Addr} {v : Value} (hc : w.cell? a = some v) : w'.cell? a = some v :=
  (h.cell (Nat.lt_of_lt_of_le (World.block_lt_of_cell? w a hc) hB)).trans hc
theorem Tab.below {w w' : World} (h : Tab w) (hb : Below w.heap.size w w') : Tab w' := fun i hi => keep_cell hb (Nat.le_refl _) (h i hi)
theorem RBy.below {w w' : World} {v : Value} {xs : List Int} (h : RBy w v xs) (hb : Below w.heap.size w w') : RBy w' v xs := by
  obtain ⟨A, c, h1, h2, h3, h4, h5⟩ := h
  refine ⟨A, c, h1, h2, h3, h4, fun hp => ?_⟩
  obtain ⟨ad, e, hc⟩ := h5 hp
  exact ⟨ad, e, fun j hj => keep_cell hb (Nat.le_refl _) (hc j hj)⟩
theorem RBs.below {w w' : World} {v : Value} {xss : List (List Int)} (h : RBs w v xss) (hb : Below w.heap.size w w') : RBs w' v xss := by
  obtain ⟨A, c, h1, h2, h3, h5⟩ := h
  refine ⟨A, c, h1, h2, h3, fun hp => ?_⟩
  obtain ⟨ad, e, hc⟩ := h5 hp
  exact ⟨ad, e, fun j hj => by obtain ⟨u, hu, hr⟩ := hc j hj; exact ⟨u, keep_cell hb (Nat.le_refl _) hu, hr.below hb⟩⟩
theorem RBy.nil (w : World) : RBy w (.slice none 0 0) [] := ⟨none, 0, rfl, by simp, by simp, by simp, fun h => absurd h (by simp)⟩

theorem heap_at (w : World) (o : Obj) (k : Nat) : (w.alloc o).heap[k]? = if k = w.heap.size then some o else w.heap[k]? := by
  by_cases h : k = w.heap.size
  · subst h; rw [if_pos rfl]; exact heap_alloc_new w o
  · rw [if_neg h]
    by_cases l : k < w.heap.size
    · exact Below.heap_alloc w o k l
    · rw [Array.getElem?_eq_none (by simp; omega), Array.getElem?_eq_none (by omega)]
theorem add_plain (g j : Nat) : (⟨g, 0, none⟩ : Addr).add j = ⟨g, j, none⟩ := by unfold Addr.add; split <;> simp_all
theorem Below.setRow' {B : Nat} {a w : World} (h : Below B a w) {g : Nat} (hg : B ≤ g) (cs : Array Value) : Below B a (w.setRow g cs) :=
  h.trans ⟨rfl, rfl, rfl, by simp, fun k hk => setRow_other w g k _ (by omega)⟩

def bytes (xs : List Int) : List Value := xs.map (Value.int .u8)
theorem bytes_length (xs : List Int) : (bytes xs).length = xs.length := by simp [bytes]
theorem bytes_append (xs ys : List Int) : bytes (xs ++ ys) = bytes xs ++ bytes ys := by simp [bytes]
theorem bytes_get (xs : List Int) (j : Nat) (h : j < xs.length) : (bytes xs)[j]? = some (.int .u8 (xs[j]?.getD 0)) := by
  simp [bytes, h]
/-- Every number is a byte's. -/
def IsB (xs : List Int) : Prop := ∀ x ∈ xs, 0 ≤ x ∧ x < 256
theorem IsB.append {xs ys : List Int} (h : IsB xs) (k : IsB ys) : IsB (xs ++ ys) := fun x hx => by
  rcases List.mem_append.1 hx with h' | h'
  · exact h x h'
  · exact k x h'
theorem IsB.take {xs : List Int} (h : IsB xs) (n : Nat) : IsB (xs.take n) := fun x hx => h x (List.mem_of_mem_take hx)
theorem IsB.drop {xs : List Int} (h : IsB xs) (n : Nat) : IsB (xs.drop n) := fun x hx => h x (List.mem_of_mem_drop hx)

/-- A row whose first cells are these bytes. -/
theorem RBy.row {w : World} {g : Nat} {arr : Array Value} {t : TypeId} {fr : Nat × Nat} (hg : w.heap[g]? = some (.cells arr t fr)) (xs : List Int) (hr : IsB xs) (c : Nat) (hc : xs.length ≤ c) (hl : xs.length ≤ 9223372036854775807)
    (ha : arr.toList.take xs.length = bytes xs) : RBy w (.slice (some ⟨g, 0, none⟩) xs.length c) xs := by
  refine ⟨_, c, rfl, hc, hl, hr, fun _ => ⟨_, rfl, fun j hj => ?_⟩⟩
  rw [add_plain, cell_of_row w g j _ _ _ hg]
  have h1 : (arr.toList.take xs.length)[j]? = some (.int .u8 (xs[j]?.getD 0)) := by rw [ha, bytes_get _ _ hj]
  rw [List.getElem?_take, if_pos hj] at h1
  simpa using h1
/-- A row whose first cells are slices that read as these bytes. -/
theorem RBs.row {w : World} {g : Nat} {arr : Array Value} {t : TypeId} {fr : Nat × Nat} (hg : w.heap[g]? = some (.cells arr t fr)) (xss : List (List Int)) (c : Nat) (hc : xss.length ≤ c) (hl : xss.length ≤ 9223372036854775807)
    (ha : ∀ j, j < xss.length → ∃ u, arr[j]? = some u ∧ RBy w u (xss[j]?.getD [])) : RBs w (.slice (some ⟨g, 0, none⟩) xss.length c) xss := by
  refine ⟨_, c, rfl, hc, hl, fun _ => ⟨_, rfl, fun j hj => ?_⟩⟩
  rw [add_plain, cell_of_row w g j _ _ _ hg]
  exact ha j hj
theorem RBs.nil (w : World) : RBs w (.slice none 0 0) [] := ⟨none, 0, rfl, by simp, by simp, fun h => absurd h (by simp)⟩

theorem heap_top (w : World) (o : Obj) (b : Nat) (h : b = w.heap.size) : (w.alloc o).heap[b]? = some o := by rw [h]; exact heap_alloc_new w o
theorem heap_under {w : World} {b : Nat} {x : Obj} (o : Obj) (h : w.heap[b]? = some x) : (w.alloc o).heap[b]? = some x := by
  rw [Below.heap_alloc w o b (Array.getElem?_eq_some_iff.1 h).1]; exact h
theorem below_alloc {w W : World} (h : Below w.heap.size w W) (o : Obj) : Below w.heap.size w (W.alloc o) := h.alloc h.size o
theorem below_then {w w1 w2 : World} (h : Below w.heap.size w w1) (k : Below w1.heap.size w1 w2) : Below w.heap.size w w2 := h.trans (k.mono h.size)
theorem below_drewN {B : Nat} {w W : World} (h : Below B w W) (n : Nat) : Below B w (W.drewN n) := ⟨h.os, h.tape, h.output, h.size, h.block⟩

theorem isB_lit (xs : List Int) (h : xs.all (fun x => decide (0 ≤ x) && decide (x < 256)) = true) : IsB xs := fun x hx => by
  have := List.all_eq_true.1 h x hx
  simpa using this
theorem RBy.lit {w : World} {g n : Nat} {arr : Array Value} {t : TypeId} {fr : Nat × Nat} (xs : List Int) (hg : w.heap[g]? = some (.cells arr t fr)) (ha : arr.toList = bytes xs) (hb : xs.all (fun x => decide (0 ≤ x) && decide (x < 256)) = true)
    (hn : xs.length = n) (hl : n ≤ 9223372036854775807) : RBy w (.slice (some ⟨g, 0, none⟩) n n) xs := by
  subst hn
  exact RBy.row hg xs (isB_lit xs hb) _ (Nat.le_refl _) hl (by rw [ha, ← bytes_length, List.take_length])
theorem RBs.one {w : World} {g c : Nat} {u : Value} {t : TypeId} {fr : Nat × Nat} {xs : List Int} (hg : w.heap[g]? = some (.cells #[u] t fr)) (hc : 1 ≤ c) (h0 : RBy w u xs) : RBs w (.slice (some ⟨g, 0, none⟩) 1 c) [xs] :=
  RBs.row hg [xs] c hc (by simp) (fun j hj => by
    have : j = 0 := by simpa using hj
    subst this
    exact ⟨u, rfl, h0⟩)
theorem RBs.two {w : World} {g c : Nat} {u v : Value} {t : TypeId} {fr : Nat × Nat} {xs ys : List Int} (hg : w.heap[g]? = some (.cells #[u, v] t fr)) (hc : 2 ≤ c) (h0 : RBy w u xs) (h1 : RBy w v ys) : RBs w (.slice (some ⟨g, 0, none⟩) 2 c) [xs, ys] :=
  RBs.row hg [xs, ys] c hc (by simp) (fun j hj => by
    rcases Nat.lt_or_ge j 1 with h | h
    · have : j = 0 := by omega
      subst this
      exact ⟨u, rfl, h0⟩
    · have : j = 1 := by simp at hj; omega
      subst this
      exact ⟨v, rfl, h1⟩)
theorem RBs.three {w : World} {g c : Nat} {u v z : Value} {t : TypeId} {fr : Nat × Nat} {xs ys zs : List Int} (hg : w.heap[g]? = some (.cells #[u, v, z] t fr)) (hc : 3 ≤ c) (h0 : RBy w u xs) (h1 : RBy w v ys) (h2 : RBy w z zs) : RBs w (.slice (some ⟨g, 0, none⟩) 3 c) [xs, ys, zs] :=
  RBs.row hg [xs, ys, zs] c hc (by simp) (fun j hj => by
    have hj' : j < 3 := by simpa using hj
    rcases (by omega : j = 0 ∨ j = 1 ∨ j = 2) with h | h | h <;> subst h
    · exact ⟨u, rfl, h0⟩
    · exact ⟨v, rfl, h1⟩
    · exact ⟨z, rfl, h2⟩)
end Go.Proofs.YtblfmofhfbbmdaaDoor

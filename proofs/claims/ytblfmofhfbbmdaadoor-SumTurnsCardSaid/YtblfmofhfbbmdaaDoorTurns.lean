/- A slice of turns (a number and a byte each), read; where it is an argument of a row. -/
import Derived.Test.YtblfmofhfbbmdaaDoorTable
import Derived.Deep.SlicePairs
set_option linter.unusedVariables false
set_option linter.unusedSimpArgs false
namespace Go.Proofs.YtblfmofhfbbmdaaDoor
open Go.ChangeShapes Go.WideShapes Go.ChangeAt Go.RowKit Crc
/-- A value that reads as these turns. -/
def RTs (w : World) (v : Value) (ts : List (Int × Int)) : Prop :=
  ∃ A c, v = .slice A ts.length c ∧ ts.length ≤ c ∧ ts.length ≤ 9223372036854775807 ∧ (∀ t ∈ ts, (-9223372036854775808 ≤ t.1 ∧ t.1 ≤ 9223372036854775807) ∧ 0 ≤ t.2 ∧ t.2 < 256) ∧
    (0 < ts.length → ∃ b off, A = some ⟨b, off, none⟩ ∧ ∀ j, j < ts.length → w.cell? ⟨b, off + j * 2, none⟩ = some (.int .i64 (ts[j]?.getD (0, 0)).1) ∧ w.cell? ⟨b, off + j * 2 + 1, none⟩ = some (.int .u8 (ts[j]?.getD (0, 0)).2))
theorem RTs.below {w w' : World} {v : Value} {ts : List (Int × Int)} (h : RTs w v ts) (hb : Below w.heap.size w w') : RTs w' v ts := by
  obtain ⟨A, c, h1, h2, h3, h4, h5⟩ := h
  refine ⟨A, c, h1, h2, h3, h4, fun hp => ?_⟩
  obtain ⟨b, off, e, hc⟩ := h5 hp
  exact ⟨b, off, e, fun j hj => ⟨keep_cell hb (Nat.le_refl _) (hc j hj).1, keep_cell hb (Nat.le_refl _) (hc j hj).2⟩⟩
section
variable {H : Type} {P : Program} {t e : TypeId} {enc : TypeId × Value → H} {W : World} {base : Nat} {v : Value} {d : DataW H} {ps : List MemPlace}
theorem turns_of_trod {f0 f1 : Field} (hu : P.underlying t = some (.slice e)) (he : P.underlying e = some (.struct #[f0, f1])) (ce : P.cellsOf e = 2) (o0 : f0.offset = 0) (o1 : f1.offset = 1) (c0 : P.cellsOf f0.type = 1) (c1 : P.cellsOf f1.type = 1)
    (u0 : P.underlying f0.type = some (.int .i64)) (u1 : P.underlying f1.type = some (.int .u8)) (hv : Value.okWide P W .any base t v) (h : DataW.Trod enc P W 0 (fun _ => true) true t v d ps) : ∃ ts, RTs W v ts := by
  obtain ⟨a, len, cap, rfl⟩ := okWide_slice hu hv
  obtain ⟨fuel, hf⟩ := h
  rcases Deep.open_slice_pairs hu he ce o0 o1 c0 c1 hf with ⟨hcs, _⟩ | ⟨x, l, c, m, n, V0, V1, D0, D1, P0, P1, hcs, _, hl, hm, hmm, hx, hcell⟩
  · simp [Value.cells] at hcs
    obtain ⟨rfl, rfl, rfl⟩ := hcs
    exact ⟨[], none, 0, rfl, by simp, by simp, by simp, fun h => absurd h (by simp)⟩
  · simp [Value.cells] at hcs
    obtain ⟨rfl, rfl, rfl⟩ := hcs
    simp only [if_true] at hmm
    have each : ∀ i, i < len → ∃ q : Int × Int, V0 i = .int .i64 q.1 ∧ V1 i = .int .u8 q.2 ∧ (Lit.int .i64 q.1).wf = true ∧ (Lit.int .u8 q.2).wf = true := fun i hi => by
      obtain ⟨_, _, h0, h1⟩ := hcell i (by omega)
      obtain ⟨z0, e0, _, w0⟩ := DataW.trod_int u0 h0
      obtain ⟨z1, e1, _, w1⟩ := DataW.trod_int u1 h1
      simp at e0 e1
      exact ⟨(z0, z1), e0, e1, w0, w1⟩
    have pick : ∃ q : Nat → Int × Int, ∀ i, i < len → V0 i = .int .i64 (q i).1 ∧ V1 i = .int .u8 (q i).2 ∧ (Lit.int .i64 (q i).1).wf = true ∧ (Lit.int .u8 (q i).2).wf = true :=
      Deep.choose_lt each
    obtain ⟨q, hq⟩ := pick
    have hlen : ((List.range len).map q).length = len := by simp
    refine ⟨(List.range len).map q, some x, cap, by rw [hlen], by rw [hlen]; exact hl, by rw [hlen]; simp only [maxLen] at hm; omega, fun y hy => ?_, fun hp => ?_⟩
    · obtain ⟨i, hi, rfl⟩ := List.mem_map.1 hy
      have hi' : i < len := List.mem_range.1 hi
      exact ⟨range_of_wf_i64 (hq i hi').2.2.1, range_of_wf_u8 (hq i hi').2.2.2⟩
    · rw [hlen] at hp ⊢
      obtain ⟨b, off, spot⟩ := x
      have hspot : spot = none := by simpa [Addr.add] using World.cell?_spot (hcell 0 (by omega)).1
      subst hspot
      refine ⟨b, off, rfl, fun j hj => ?_⟩
      have hg : ((List.range len).map q)[j]?.getD (0, 0) = q j := by simp [hj]
      rw [hg]
      obtain ⟨a0, a1, _⟩ := hcell j (by omega)
      obtain ⟨b0, b1, _⟩ := hq j hj
      rw [b0, Go.WideShapes.add_plain] at a0; rw [b1, Go.WideShapes.add_plain] at a1
      exact ⟨a0, a1⟩
end
end Go.Proofs.YtblfmofhfbbmdaaDoor

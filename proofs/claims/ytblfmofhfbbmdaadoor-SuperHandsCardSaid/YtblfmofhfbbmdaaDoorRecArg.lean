/- A record that comes in, read. -/
import Derived.Test.YtblfmofhfbbmdaaDoorRec0
import Derived.Test.YtblfmofhfbbmdaaDoorTable
import Derived.OpenShut
set_option linter.unusedVariables false
set_option linter.unusedSimpArgs false
namespace Go.Proofs.YtblfmofhfbbmdaaDoor
open Go.ChangeShapes Go.WideShapes Go.ChangeAt Go.RowKit

theorem take_one {L : List Value} {o : Nat} {x : Value} (h : (L.drop o).take 1 = [x]) : L[o]? = some x := by
  have h2 := congrArg (fun l => l[0]?) h
  simpa [List.getElem?_take, List.getElem?_drop] using h2
theorem some_of {α : Type} {xs : List α} {i : Nat} (h : i < xs.length) : ∃ y, xs[i]? = some y := ⟨_, List.getElem?_eq_getElem h⟩
set_option maxRecDepth 100000 in
theorem rec_of_trod {H : Type} {enc : TypeId × Value → H} {W : World} {base : Nat} {v : Value} {d : DataW H} {ps : List MemPlace} (hv : Value.okWide Tryd.prog W .any base 71 v) (h : DataW.Trod enc Tryd.prog W 0 (fun _ => true) true 71 v d ps) :
    ∃ r : Rec, v = .agg r.cells ∧ r.ok := by
  obtain ⟨cs, rfl, hsz⟩ := okWide_struct Tryd.underlying71 hv
  have hs36 : cs.size = 36 := hsz.trans (by kernel_rfl)
  obtain ⟨fuel, hf⟩ := h
  obtain ⟨xs, n, _, _, hl, hxl, hg⟩ := DataW.trod_struct Tryd.underlying71 hf
  have hxl5 : xs.length = 5 := hxl
  have c3 : Tryd.prog.cellsOf 3 = 1 := by kernel_rfl
  have c49 : Tryd.prog.cellsOf 49 = 1 := by kernel_rfl
  have c63 : Tryd.prog.cellsOf 63 = 32 := by kernel_rfl
  have c5 : Tryd.prog.cellsOf 5 = 1 := by kernel_rfl
  have hL : (Value.cells (.agg cs)).toList = cs.toList := rfl
  rw [hL] at hg
  have hlen : cs.toList.length = 36 := by simpa using hs36
  generalize hLL : cs.toList = L at hg hlen
  obtain ⟨y0, e0⟩ := some_of (xs := xs) (i := 0) (by omega)
  obtain ⟨y1, e1⟩ := some_of (xs := xs) (i := 1) (by omega)
  obtain ⟨y2, e2⟩ := some_of (xs := xs) (i := 2) (by omega)
  obtain ⟨y3, e3⟩ := some_of (xs := xs) (i := 3) (by omega)
  obtain ⟨y4, e4⟩ := some_of (xs := xs) (i := 4) (by omega)
  have g0 : DataW.trod enc Tryd.prog W 0 (fun _ => true) true n 3 ((L.drop 0).take (Tryd.prog.cellsOf 3)) = some y0 := (hg 0 _ rfl).trans e0
  have g1 : DataW.trod enc Tryd.prog W 0 (fun _ => true) true n 49 ((L.drop 1).take (Tryd.prog.cellsOf 49)) = some y1 := (hg 1 _ rfl).trans e1
  have g2 : DataW.trod enc Tryd.prog W 0 (fun _ => true) true n 3 ((L.drop 2).take (Tryd.prog.cellsOf 3)) = some y2 := (hg 2 _ rfl).trans e2
  have g3 : DataW.trod enc Tryd.prog W 0 (fun _ => true) true n 63 ((L.drop 3).take (Tryd.prog.cellsOf 63)) = some y3 := (hg 3 _ rfl).trans e3
  have g4 : DataW.trod enc Tryd.prog W 0 (fun _ => true) true n 3 ((L.drop 35).take (Tryd.prog.cellsOf 3)) = some y4 := (hg 4 _ rfl).trans e4
  rw [c3] at g0 g2 g4
  rw [c49] at g1
  rw [c63] at g3
  obtain ⟨k, k1, _, kw⟩ := DataW.trod_int Tryd.underlying3 g0
  obtain ⟨p, p1, _, pw⟩ := DataW.trod_int Tryd.underlying49 g1
  obtain ⟨b, b1, _, bw⟩ := DataW.trod_int Tryd.underlying3 g2
  obtain ⟨i, i1, _, iw⟩ := DataW.trod_int Tryd.underlying3 g4
  obtain ⟨ys, m, _, _, _, hyl, ha⟩ := DataW.trod_array Tryd.underlying63 g3
  have hz : ∀ j : Nat, ∃ z : Int, j < 32 → L[3 + j]? = some (.int .u8 z) ∧ (Lit.int .u8 z).wf = true := fun j => by
    by_cases hj : j < 32
    · obtain ⟨u, eu⟩ := some_of (xs := ys) (i := j) (by omega)
      have gj := (ha j hj).trans eu
      rw [c5] at gj
      obtain ⟨z, z1, _, zw⟩ := DataW.trod_int Tryd.underlying5 gj
      refine ⟨z, fun _ => ⟨?_, zw⟩⟩
      have h9 := take_one z1
      rw [List.getElem?_take, if_pos (by omega), List.getElem?_drop, Nat.mul_one] at h9
      exact h9
    · exact ⟨0, fun h => absurd h hj⟩
  obtain ⟨f, hf2⟩ := Classical.axiomOfChoice hz
  have q0 := take_one k1
  have q1 := take_one p1
  have q2 := take_one b1
  have q4 := take_one i1
  refine ⟨⟨k, p, b, (List.range 32).map f, i⟩, ?_, ⟨range_of_wf_i64 kw, range_of_wf_u64 pw, range_of_wf_i64 bw, fun x hx => ?_, by simp, range_of_wf_i64 iw⟩⟩
  · congr 1
    apply Array.ext'
    rw [hLL]
    apply List.ext_getElem?
    intro j
    have hn : ((List.range 32).map f).length = 32 := by simp
    by_cases h3 : j < 3
    · rcases (by omega : j = 0 ∨ j = 1 ∨ j = 2) with rfl | rfl | rfl
      · rw [q0]; rfl
      · rw [q1]; rfl
      · rw [q2]; rfl
    · obtain ⟨t, rfl⟩ : ∃ t, j = 3 + t := ⟨j - 3, by omega⟩
      by_cases ht : t < 32
      · rw [(hf2 t ht).1]
        have h9 := Rec.getv ⟨k, p, b, (List.range 32).map f, i⟩ t (by simpa using ht)
        rw [← Array.getElem?_toList] at h9
        rw [h9]
        simp [ht]
      · by_cases h35 : t = 32
        · subst h35
          have h9 := Rec.geti ⟨k, p, b, (List.range 32).map f, i⟩ hn
          rw [← Array.getElem?_toList] at h9
          rw [h9, q4]
        · have hsz2 := Rec.size (r := ⟨k, p, b, (List.range 32).map f, i⟩) hn
          rw [List.getElem?_eq_none (by omega), List.getElem?_eq_none (by rw [Array.length_toList, hsz2]; omega)]
  · simp only [List.mem_map, List.mem_range] at hx
    obtain ⟨j, hj, rfl⟩ := hx
    exact range_of_wf_u8 (hf2 j hj).2
end Go.Proofs.YtblfmofhfbbmdaaDoor

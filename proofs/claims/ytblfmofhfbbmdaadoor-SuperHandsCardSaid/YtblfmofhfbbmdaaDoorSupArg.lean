/- A superblock that comes in, read. -/
import Derived.Test.YtblfmofhfbbmdaaDoorSup0
import Derived.Test.YtblfmofhfbbmdaaDoorRecArg
set_option linter.unusedVariables false
set_option linter.unusedSimpArgs false
namespace Go.Proofs.YtblfmofhfbbmdaaDoor
open Go.ChangeShapes Go.WideShapes Go.ChangeAt Go.RowKit

set_option maxRecDepth 100000 in
theorem sup_of_trod {H : Type} {enc : TypeId × Value → H} {W : World} {base : Nat} {v : Value} {d : DataW H} {ps : List MemPlace} (hv : Value.okWide Tryd.prog W .any base 51 v) (h : DataW.Trod enc Tryd.prog W 0 (fun _ => true) true 51 v d ps) :
    ∃ s : Sup, v = .agg s.cells ∧ s.ok := by
  obtain ⟨cs, rfl, hsz⟩ := okWide_struct Tryd.underlying51 hv
  have hs7 : cs.size = 7 := hsz.trans (by kernel_rfl)
  obtain ⟨fuel, hf⟩ := h
  obtain ⟨xs, n, _, _, hl, hxl, hg⟩ := DataW.trod_struct Tryd.underlying51 hf
  have hxl3 : xs.length = 3 := hxl
  have c3 : Tryd.prog.cellsOf 3 = 1 := by kernel_rfl
  have c49 : Tryd.prog.cellsOf 49 = 1 := by kernel_rfl
  have c48 : Tryd.prog.cellsOf 48 = 5 := by kernel_rfl
  have hL : (Value.cells (.agg cs)).toList = cs.toList := rfl
  rw [hL] at hg
  have hlen : cs.toList.length = 7 := by simpa using hs7
  generalize hLL : cs.toList = L at hg hlen
  obtain ⟨y0, e0⟩ := some_of (xs := xs) (i := 0) (by omega)
  obtain ⟨y1, e1⟩ := some_of (xs := xs) (i := 1) (by omega)
  obtain ⟨y2, e2⟩ := some_of (xs := xs) (i := 2) (by omega)
  have g0 : DataW.trod enc Tryd.prog W 0 (fun _ => true) true n 48 ((L.drop 0).take (Tryd.prog.cellsOf 48)) = some y0 := (hg 0 _ rfl).trans e0
  have g1 : DataW.trod enc Tryd.prog W 0 (fun _ => true) true n 49 ((L.drop 5).take (Tryd.prog.cellsOf 49)) = some y1 := (hg 1 _ rfl).trans e1
  have g2 : DataW.trod enc Tryd.prog W 0 (fun _ => true) true n 49 ((L.drop 6).take (Tryd.prog.cellsOf 49)) = some y2 := (hg 2 _ rfl).trans e2
  rw [c48] at g0
  rw [c49] at g1 g2
  obtain ⟨t, t1, _, tw⟩ := DataW.trod_int Tryd.underlying49 g1
  obtain ⟨f, f1, _, fw⟩ := DataW.trod_int Tryd.underlying49 g2
  obtain ⟨ys, m, _, _, _, hyl, ha⟩ := DataW.trod_struct Tryd.underlying48 g0
  have hyl5 : ys.length = 5 := hyl
  obtain ⟨z0, k0⟩ := some_of (xs := ys) (i := 0) (by omega)
  obtain ⟨z1, k1⟩ := some_of (xs := ys) (i := 1) (by omega)
  obtain ⟨z2, k2⟩ := some_of (xs := ys) (i := 2) (by omega)
  obtain ⟨z3, k3⟩ := some_of (xs := ys) (i := 3) (by omega)
  obtain ⟨z4, k4⟩ := some_of (xs := ys) (i := 4) (by omega)
  have a0 : DataW.trod enc Tryd.prog W 0 (fun _ => true) true m 3 ((((L.drop 0).take 5).drop 0).take (Tryd.prog.cellsOf 3)) = some z0 := (ha 0 _ rfl).trans k0
  have a1 : DataW.trod enc Tryd.prog W 0 (fun _ => true) true m 3 ((((L.drop 0).take 5).drop 1).take (Tryd.prog.cellsOf 3)) = some z1 := (ha 1 _ rfl).trans k1
  have a2 : DataW.trod enc Tryd.prog W 0 (fun _ => true) true m 3 ((((L.drop 0).take 5).drop 2).take (Tryd.prog.cellsOf 3)) = some z2 := (ha 2 _ rfl).trans k2
  have a3 : DataW.trod enc Tryd.prog W 0 (fun _ => true) true m 3 ((((L.drop 0).take 5).drop 3).take (Tryd.prog.cellsOf 3)) = some z3 := (ha 3 _ rfl).trans k3
  have a4 : DataW.trod enc Tryd.prog W 0 (fun _ => true) true m 3 ((((L.drop 0).take 5).drop 4).take (Tryd.prog.cellsOf 3)) = some z4 := (ha 4 _ rfl).trans k4
  rw [c3] at a0 a1 a2 a3 a4
  obtain ⟨b, b1, _, bw⟩ := DataW.trod_int Tryd.underlying3 a0
  obtain ⟨l, l1, _, lw⟩ := DataW.trod_int Tryd.underlying3 a1
  obtain ⟨mm, m1, _, mw⟩ := DataW.trod_int Tryd.underlying3 a2
  obtain ⟨hh, h1, _, hw⟩ := DataW.trod_int Tryd.underlying3 a3
  obtain ⟨c, c1, _, cw⟩ := DataW.trod_int Tryd.underlying3 a4
  have q0 := take_one b1
  have q1 := take_one l1
  have q2 := take_one m1
  have q3 := take_one h1
  have q4 := take_one c1
  have q5 := take_one t1
  have q6 := take_one f1
  rw [List.getElem?_take, if_pos (by omega), List.drop_zero] at q0 q1 q2 q3 q4
  refine ⟨⟨b, l, mm, hh, c, t, f⟩, ?_, ⟨range_of_wf_i64 bw, range_of_wf_i64 lw, range_of_wf_i64 mw, range_of_wf_i64 hw, range_of_wf_i64 cw, range_of_wf_u64 tw, range_of_wf_u64 fw⟩⟩
  congr 1
  apply Array.ext'
  rw [hLL]
  apply List.ext_getElem?
  intro j
  by_cases hj : j < 7
  · have h9 : j = 0 ∨ j = 1 ∨ j = 2 ∨ j = 3 ∨ j = 4 ∨ j = 5 ∨ j = 6 := by omega
    rcases h9 with rfl | rfl | rfl | rfl | rfl | rfl | rfl
    · exact q0
    · exact q1
    · exact q2
    · exact q3
    · exact q4
    · exact q5
    · exact q6
  · rw [List.getElem?_eq_none (by omega), List.getElem?_eq_none (by show 7 ≤ j; omega)]
end Go.Proofs.YtblfmofhfbbmdaaDoor

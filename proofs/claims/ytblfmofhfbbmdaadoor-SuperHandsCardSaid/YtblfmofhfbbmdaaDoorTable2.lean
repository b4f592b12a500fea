/- What a row's two listed variables give; and a world for the witness. -/
import Derived.Test.YtblfmofhfbbmdaaDoorTable
import Derived.Test.YtblfmofhfbbmdaaDoorSupC
set_option linter.unusedVariables false
set_option linter.unusedSimpArgs false
namespace Go.Proofs.YtblfmofhfbbmdaaDoor
open Go.ChangeShapes Go.WideShapes Go.ChangeAt Go.RowKit Crc

/-- Both tables. -/
def Tabs (w : World) : Prop := Tab w ∧ Wid w
theorem gWid : Tryd.prog.globalNamed "wicket/super.widths" = some 0 := by kernel_rfl
theorem gWidType : (Tryd.prog.globals[0]?).map (·.type) = some 99 := by kernel_rfl
theorem cells99 : Tryd.prog.cellsOf 99 = 10 := by kernel_rfl
theorem cells3 : Tryd.prog.cellsOf 3 = 1 := by kernel_rfl
theorem tabs_of_laid {W : World} (h : laidMetH Tryd.prog [("wicket/sum.halves", Rows.laid_wicket_sum_halves), ("wicket/super.widths", Rows.laid_wicket_super_widths)] W) : Tabs W := by
  constructor
  · have ht : Lib.TabIs Tryd.prog W "wicket/sum.halves" .u32 halves :=
      Lib.tabIs_of_head (rest := [("wicket/super.widths", Rows.laid_wicket_super_widths)]) gTab gTabType Tryd.underlying113 Tryd.underlying23 cells23 cells113 h
    intro i hi
    have := ht.cell gTab i (by simpa [halves] using hi)
    simpa using this
  · have ht : Lib.TabIs Tryd.prog W "wicket/super.widths" .i64 widthsL := by
      have h' : laidMet Tryd.prog (("wicket/sum.halves", Rows.laid_wicket_sum_halves) :: [("wicket/super.widths", Rows.laid_wicket_super_widths)]) W := h
      obtain ⟨ps, ⟨_, _, _, _, _, q0, _, _, _, _, hrest, _⟩, _⟩ := h'
      obtain ⟨g', t', cs, fuel, p, q, hg', ht', hvar, hd, _, _⟩ := hrest
      obtain rfl := Option.some.inj (gWid.symm.trans hg')
      obtain rfl := Option.some.inj (gWidType.symm.trans ht')
      unfold Lib.TabIs
      rw [hvar, ← Lib.cells_of_tab (zs := widthsL) (k := .i64) Tryd.underlying99 Tryd.underlying3 cells3 cells99 hd]
    intro i hi
    have := ht.cell gWid i (by simpa [widthsL] using hi)
    simpa using this
/-- A world for the witness: the settled one, both tables holding what their initialisers lay. -/
noncomputable def laidWorld2 (os : Os) : World :=
  { laidWorld os with heap := (laidWorld os).heap.modify 0 fun
      | .cells _ t frozen => .cells (widthsL.map (Value.int .i64)).toArray t frozen
      | o => o }
end Go.Proofs.YtblfmofhfbbmdaaDoor

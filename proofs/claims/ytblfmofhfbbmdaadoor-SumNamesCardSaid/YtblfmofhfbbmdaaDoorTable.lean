/- What a row's listed variables give: the CRC table's cells in the world in which the call begins; and a world for the witness. -/
import Derived.Test.YtblfmofhfbbmdaaDoorCards
import Derived.Test.YtblfmofhfbbmdaaDoorTie
import Derived.Test.YtblfmofhfbbmdaaDoorMem
import Derived.ProofKit
import Derived.OpenShut
import Derived.Deep.DeepHandedRow
import Derived.Lib.LaidTab
namespace Go.Proofs.YtblfmofhfbbmdaaDoor
open Go.ChangeShapes Go.WideShapes Go.ChangeAt Go.RowKit Crc

theorem own : ownKnob Tryd.prog.godebug = none := by kernel_rfl
theorem gTab : Tryd.prog.globalNamed "wicket/sum.halves" = some 1 := by kernel_rfl
theorem gTabType : (Tryd.prog.globals[1]?).map (·.type) = some 113 := by kernel_rfl
theorem cells113 : Tryd.prog.cellsOf 113 = 16 := by kernel_rfl
theorem cells23 : Tryd.prog.cellsOf 23 = 1 := by kernel_rfl

/-- What the row's list gives, of a row that lists the one table. -/
theorem tab_of_laid {W : World} (h : laidMetH Tryd.prog [("wicket/sum.halves", Rows.laid_wicket_sum_halves)] W) : Tab W := by
  have ht : Lib.TabIs Tryd.prog W "wicket/sum.halves" .u32 halves :=
    Lib.tabIs_of_head (rest := []) gTab gTabType Tryd.underlying113 Tryd.underlying23 cells23 cells113 h
  intro i hi
  have := ht.cell gTab i (by simpa [halves] using hi)
  simpa using this

/-- A world for the witness: the settled one, the table (block 1) holding what its initialiser lays. -/
noncomputable def laidWorld (os : Os) : World :=
  { World.holding Tryd.prog os ⟨#[], #[], []⟩ with heap := (World.holding Tryd.prog os ⟨#[], #[], []⟩).heap.modify 1 fun
      | .cells _ t frozen => .cells (halves.map (Value.int .u32)).toArray t frozen
      | o => o }
end Go.Proofs.YtblfmofhfbbmdaaDoor

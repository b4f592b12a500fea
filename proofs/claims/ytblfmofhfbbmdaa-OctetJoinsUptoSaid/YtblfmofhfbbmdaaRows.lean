/-
  No cell of these rows narrows 'for every input' (looked for: loops, veiled, ifaces, maps, wideKeys, modest, calm, conditions, laid).
  DERIVED. THE GIVEN ROWS OF THIS SEAT. 7 by the template 'for every input the law returns true; each argument reads behind the call as it read before'; 0 by the template 'total and deterministic' (their statements: YtblfmofhfbbmdaaTotals.lean).
  GIVEN WITH THE SEED: the statements are not yours to turn. If you find one false, say at which input.
  Laid BY PROGRAM, IN A SANDBOX (cutbox-rows.mjs): the forced cells as the released guide's own fill.sh prints them over the translation 63b4ad060039f440… (all of the seat's roots in one cut). By AI agents, Wed Nov 11 2026. No macro, syntax, notation, axiom, sorry.
-/
import Derived.Test.YtblfmofhfbbmdaaChecked
import GoSem.Claim
import GoSem.ClaimJoined
import GoSem.ClaimMapViews
import Derived.JoinedTies
import Derived.KernelRfl
namespace Go.Proofs.Ytblfmofhfbbmdaa
/- THE CELL 'sum', in the pinned program and in every row, IS THE sha256 OF THE DUMP (.gsa) THAT YtblfmofhfbbmdaaProg.lean LOADS. Nothing in Lean hashes anything: it is a label: what it is worth is what the hold of that sum in a sandbox is worth. -/
noncomputable def Try.pinned : Pinned := { name := "ytblfmofhfbbmdaa", sum := "63b4ad060039f440f58379672cac68b09606fa2c3c17c7ce57d418533aec4e0b", checked := Try.checked }
namespace Rows
def none {H : Type} : Left H := { results := [], args := [] }

/-- 'wicketlaw01.OctetNames': WHATEVER THE INPUT: true; the input reads as it did. -/
def octetNamesSpec : ChangeSpec := { name := "octetNames", fn := fun _ => fun
  | [] => { results := [.lit (.bool true)], args := [] }
  | _ => none }
def octetNamesRow : OpenClaim := { program := "ytblfmofhfbbmdaa", sum := "63b4ad060039f440f58379672cac68b09606fa2c3c17c7ce57d418533aec4e0b", func := "wicket/wicketlaw01.OctetNames", spec := "octetNames", apart := false }
def OctetNamesSaid : Prop := octetNamesRow.holds Try.pinned (OpenSpec.ofChange octetNamesSpec)

/-- ITS FALSE NEIGHBOUR: 'it returns false'. Refute it at one input. -/
def octetNamesWrong : ChangeSpec := { name := "octetNames", fn := fun _ => fun
  | [] => { results := [.lit (.bool false)], args := [] }
  | _ => none }
def OctetNamesWrongFalsely : Prop := octetNamesRow.holds Try.pinned (OpenSpec.ofChange octetNamesWrong)

/-- 'wicketlaw01.OctetPuts': WHATEVER THE INPUT: true; the input reads as it did. -/
def octetPutsSpec : ChangeSpec := { name := "octetPuts", fn := fun _ => fun
  | [d1, d2, d3] => { results := [.lit (.bool true)], args := [d1, d2, d3] }
  | _ => none }
def octetPutsRow : OpenClaim := { program := "ytblfmofhfbbmdaa", sum := "63b4ad060039f440f58379672cac68b09606fa2c3c17c7ce57d418533aec4e0b", func := "wicket/wicketlaw01.OctetPuts", spec := "octetPuts", apart := false }
def OctetPutsSaid : Prop := octetPutsRow.holds Try.pinned (OpenSpec.ofChange octetPutsSpec)

/-- ITS FALSE NEIGHBOUR: 'it returns false'. Refute it at one input. -/
def octetPutsWrong : ChangeSpec := { name := "octetPuts", fn := fun _ => fun
  | [d1, d2, d3] => { results := [.lit (.bool false)], args := [d1, d2, d3] }
  | _ => none }
def OctetPutsWrongFalsely : Prop := octetPutsRow.holds Try.pinned (OpenSpec.ofChange octetPutsWrong)

/-- 'wicketlaw01.OctetTakes': WHATEVER THE INPUT: true; the input reads as it did. -/
def octetTakesSpec : ChangeSpec := { name := "octetTakes", fn := fun _ => fun
  | [d1, d2, d3] => { results := [.lit (.bool true)], args := [d1, d2, d3] }
  | _ => none }
def octetTakesRow : OpenClaim := { program := "ytblfmofhfbbmdaa", sum := "63b4ad060039f440f58379672cac68b09606fa2c3c17c7ce57d418533aec4e0b", func := "wicket/wicketlaw01.OctetTakes", spec := "octetTakes", apart := false }
def OctetTakesSaid : Prop := octetTakesRow.holds Try.pinned (OpenSpec.ofChange octetTakesSpec)

/-- ITS FALSE NEIGHBOUR: 'it returns false'. Refute it at one input. -/
def octetTakesWrong : ChangeSpec := { name := "octetTakes", fn := fun _ => fun
  | [d1, d2, d3] => { results := [.lit (.bool false)], args := [d1, d2, d3] }
  | _ => none }
def OctetTakesWrongFalsely : Prop := octetTakesRow.holds Try.pinned (OpenSpec.ofChange octetTakesWrong)

/-- 'wicketlaw01.OctetFields': WHATEVER THE INPUT: true; the input reads as it did. -/
def octetFieldsSpec : ChangeSpec := { name := "octetFields", fn := fun _ => fun
  | [d1, d2] => { results := [.lit (.bool true)], args := [d1, d2] }
  | _ => none }
def octetFieldsRow : OpenClaim := { program := "ytblfmofhfbbmdaa", sum := "63b4ad060039f440f58379672cac68b09606fa2c3c17c7ce57d418533aec4e0b", func := "wicket/wicketlaw01.OctetFields", spec := "octetFields", apart := false }
def OctetFieldsSaid : Prop := octetFieldsRow.holds Try.pinned (OpenSpec.ofChange octetFieldsSpec)

/-- ITS FALSE NEIGHBOUR: 'it returns false'. Refute it at one input. -/
def octetFieldsWrong : ChangeSpec := { name := "octetFields", fn := fun _ => fun
  | [d1, d2] => { results := [.lit (.bool false)], args := [d1, d2] }
  | _ => none }
def OctetFieldsWrongFalsely : Prop := octetFieldsRow.holds Try.pinned (OpenSpec.ofChange octetFieldsWrong)

/-- 'wicketlaw01.OctetJoins': WHATEVER THE INPUT: true; the input reads as it did. -/
def octetJoinsSpec : ChangeSpec := { name := "octetJoins", fn := fun _ => fun
  | [d] => { results := [.lit (.bool true)], args := [d] }
  | _ => none }
def octetJoinsRow : OpenClaim := { program := "ytblfmofhfbbmdaa", sum := "63b4ad060039f440f58379672cac68b09606fa2c3c17c7ce57d418533aec4e0b", func := "wicket/wicketlaw01.OctetJoins", spec := "octetJoins", apart := false }
def OctetJoinsSaid : Prop := octetJoinsRow.holds Try.pinned (OpenSpec.ofChange octetJoinsSpec)

/-- ITS FALSE NEIGHBOUR: 'it returns false'. Refute it at one input. -/
def octetJoinsWrong : ChangeSpec := { name := "octetJoins", fn := fun _ => fun
  | [d] => { results := [.lit (.bool false)], args := [d] }
  | _ => none }
def OctetJoinsWrongFalsely : Prop := octetJoinsRow.holds Try.pinned (OpenSpec.ofChange octetJoinsWrong)

/-- 'wicketlaw01.OctetPads': WHATEVER THE INPUT: true; the input reads as it did. -/
def octetPadsSpec : ChangeSpec := { name := "octetPads", fn := fun _ => fun
  | [d1, d2] => { results := [.lit (.bool true)], args := [d1, d2] }
  | _ => none }
def octetPadsRow : OpenClaim := { program := "ytblfmofhfbbmdaa", sum := "63b4ad060039f440f58379672cac68b09606fa2c3c17c7ce57d418533aec4e0b", func := "wicket/wicketlaw01.OctetPads", spec := "octetPads", apart := false }
def OctetPadsSaid : Prop := octetPadsRow.holds Try.pinned (OpenSpec.ofChange octetPadsSpec)

/-- ITS FALSE NEIGHBOUR: 'it returns false'. Refute it at one input. -/
def octetPadsWrong : ChangeSpec := { name := "octetPads", fn := fun _ => fun
  | [d1, d2] => { results := [.lit (.bool false)], args := [d1, d2] }
  | _ => none }
def OctetPadsWrongFalsely : Prop := octetPadsRow.holds Try.pinned (OpenSpec.ofChange octetPadsWrong)

/-- 'wicketlaw01.OctetBack': WHATEVER THE INPUT: true; the input reads as it did. -/
def octetBackSpec : ChangeSpec := { name := "octetBack", fn := fun _ => fun
  | [d1, d2, d3, d4] => { results := [.lit (.bool true)], args := [d1, d2, d3, d4] }
  | _ => none }
def octetBackRow : OpenClaim := { program := "ytblfmofhfbbmdaa", sum := "63b4ad060039f440f58379672cac68b09606fa2c3c17c7ce57d418533aec4e0b", func := "wicket/wicketlaw01.OctetBack", spec := "octetBack", apart := false }
def OctetBackSaid : Prop := octetBackRow.holds Try.pinned (OpenSpec.ofChange octetBackSpec)

/-- ITS FALSE NEIGHBOUR: 'it returns false'. Refute it at one input. -/
def octetBackWrong : ChangeSpec := { name := "octetBack", fn := fun _ => fun
  | [d1, d2, d3, d4] => { results := [.lit (.bool false)], args := [d1, d2, d3, d4] }
  | _ => none }
def OctetBackWrongFalsely : Prop := octetBackRow.holds Try.pinned (OpenSpec.ofChange octetBackWrong)

/- THE SECOND FORM. 'bulk': how many values and letters a reading holds, each counted each time it is reached (what is shared counts as often as it is met; a slice's spare places count too). A statement '..UptoSaid' is the law's where the arguments, and the package variables that the reading takes, are together of bulk at most 1048576: NARROWER than '..Said'. Prove '..Said' where nothing that the law and all that it calls make is longer than what came in: it says more and counts as full. Else prove '..UptoSaid'. A law counts once. -/
mutual
def uptoBulk {H : Type} : DataW H → Nat
  | .lit (.string bytes) => bytes.length + 1
  | .lit _ => 1
  | .nil => 1
  | .ptr d => uptoBulk d + 1
  | .slice elems spare => uptoBulkAll elems + uptoBulkAll spare + 1
  | .agg parts => uptoBulkAll parts + 1
  | .iface _ d => uptoBulk d + 1
  | .map entries => uptoBulkEntries entries + 1
  | .held _ => 1
def uptoBulkAll {H : Type} : List (DataW H) → Nat
  | [] => 0
  | d :: r => uptoBulk d + uptoBulkAll r
def uptoBulkEntries {H : Type} : List (Lit × DataW H) → Nat
  | [] => 0
  | x :: r => uptoBulkEntry x + uptoBulkEntries r
def uptoBulkEntry {H : Type} : Lit × DataW H → Nat
  | (.string bytes, d) => bytes.length + uptoBulk d + 1
  | (_, d) => uptoBulk d + 1
 end
def uptoSmall : (H : Type) → List (DataW H) → Bool := fun _ ds => decide (uptoBulkAll ds ≤ 1048576)
def OpenSpec.upto (s : _root_.Go.ChangeSpec) : _root_.Go.OpenSpec := { _root_.Go.OpenSpec.ofChange s with cond := some uptoSmall }

/-- 'wicketlaw01.OctetNames', WHERE WHAT IT READS IS OF BULK AT MOST 1048576: true; the input reads as it did. -/
def octetNamesUptoRow : OpenClaim := { program := "ytblfmofhfbbmdaa", sum := "63b4ad060039f440f58379672cac68b09606fa2c3c17c7ce57d418533aec4e0b", func := "wicket/wicketlaw01.OctetNames", spec := "octetNames", apart := false, narrowed := true }
def OctetNamesUptoSaid : Prop := octetNamesUptoRow.holds Try.pinned (OpenSpec.upto octetNamesSpec)

/-- 'wicketlaw01.OctetPuts', WHERE WHAT IT READS IS OF BULK AT MOST 1048576: true; the input reads as it did. -/
def octetPutsUptoRow : OpenClaim := { program := "ytblfmofhfbbmdaa", sum := "63b4ad060039f440f58379672cac68b09606fa2c3c17c7ce57d418533aec4e0b", func := "wicket/wicketlaw01.OctetPuts", spec := "octetPuts", apart := false, narrowed := true }
def OctetPutsUptoSaid : Prop := octetPutsUptoRow.holds Try.pinned (OpenSpec.upto octetPutsSpec)

/-- 'wicketlaw01.OctetTakes', WHERE WHAT IT READS IS OF BULK AT MOST 1048576: true; the input reads as it did. -/
def octetTakesUptoRow : OpenClaim := { program := "ytblfmofhfbbmdaa", sum := "63b4ad060039f440f58379672cac68b09606fa2c3c17c7ce57d418533aec4e0b", func := "wicket/wicketlaw01.OctetTakes", spec := "octetTakes", apart := false, narrowed := true }
def OctetTakesUptoSaid : Prop := octetTakesUptoRow.holds Try.pinned (OpenSpec.upto octetTakesSpec)

/-- 'wicketlaw01.OctetFields', WHERE WHAT IT READS IS OF BULK AT MOST 1048576: true; the input reads as it did. -/
def octetFieldsUptoRow : OpenClaim := { program := "ytblfmofhfbbmdaa", sum := "63b4ad060039f440f58379672cac68b09606fa2c3c17c7ce57d418533aec4e0b", func := "wicket/wicketlaw01.OctetFields", spec := "octetFields", apart := false, narrowed := true }
def OctetFieldsUptoSaid : Prop := octetFieldsUptoRow.holds Try.pinned (OpenSpec.upto octetFieldsSpec)

/-- 'wicketlaw01.OctetJoins', WHERE WHAT IT READS IS OF BULK AT MOST 1048576: true; the input reads as it did. -/
def octetJoinsUptoRow : OpenClaim := { program := "ytblfmofhfbbmdaa", sum := "63b4ad060039f440f58379672cac68b09606fa2c3c17c7ce57d418533aec4e0b", func := "wicket/wicketlaw01.OctetJoins", spec := "octetJoins", apart := false, narrowed := true }
def OctetJoinsUptoSaid : Prop := octetJoinsUptoRow.holds Try.pinned (OpenSpec.upto octetJoinsSpec)

/-- 'wicketlaw01.OctetPads', WHERE WHAT IT READS IS OF BULK AT MOST 1048576: true; the input reads as it did. -/
def octetPadsUptoRow : OpenClaim := { program := "ytblfmofhfbbmdaa", sum := "63b4ad060039f440f58379672cac68b09606fa2c3c17c7ce57d418533aec4e0b", func := "wicket/wicketlaw01.OctetPads", spec := "octetPads", apart := false, narrowed := true }
def OctetPadsUptoSaid : Prop := octetPadsUptoRow.holds Try.pinned (OpenSpec.upto octetPadsSpec)

/-- 'wicketlaw01.OctetBack', WHERE WHAT IT READS IS OF BULK AT MOST 1048576: true; the input reads as it did. -/
def octetBackUptoRow : OpenClaim := { program := "ytblfmofhfbbmdaa", sum := "63b4ad060039f440f58379672cac68b09606fa2c3c17c7ce57d418533aec4e0b", func := "wicket/wicketlaw01.OctetBack", spec := "octetBack", apart := false, narrowed := true }
def OctetBackUptoSaid : Prop := octetBackUptoRow.holds Try.pinned (OpenSpec.upto octetBackSpec)

end Rows
end Go.Proofs.Ytblfmofhfbbmdaa

/-
  NARROWER THAN 'FOR EVERY INPUT', by the rows' own cells (each row's printed sentence says how): SumNames: laid · SumParts: laid · SumJoins: laid · SumTexts: laid · SumTurns: laid · SumBursts: laid · SuperTurned: laid · SuperHands: laid · RecordNames: laid · RecordEncodes: laid · RecordDecodes: laid · RecordBack: laid · RecordOneForm: laid · SuperEncodes: laid · SuperDecodes: laid · SuperForged: laid · SuperBack: laid.
  DERIVED. THE GIVEN ROWS OF THIS SEAT. 17 by the template 'for every input the law returns true; each argument reads behind the call as it read before'; 0 by the template 'total and deterministic' (their statements: YtblfmofhfbbmdaaDoorTotals.lean).
  GIVEN WITH THE SEED: the statements are not yours to turn. If you find one false, say at which input.
  Laid BY PROGRAM, IN A SANDBOX (cutbox-rows.mjs): the forced cells as the released guide's own fill.sh prints them over the translation f1c8141b656dcb1d… (all of the seat's roots in one cut). By AI agents, Wed Nov 11 2026. No macro, syntax, notation, axiom, sorry.
-/
import Derived.Test.YtblfmofhfbbmdaaDoorChecked
import GoSem.Claim
import GoSem.ClaimJoined
import GoSem.ClaimMapViews
import Derived.JoinedTies
import Derived.KernelRfl
namespace Go.Proofs.YtblfmofhfbbmdaaDoor
/- THE CELL 'sum', in the pinned program and in every row, IS THE sha256 OF THE DUMP (.gsa) THAT YtblfmofhfbbmdaaDoorProg.lean LOADS. Nothing in Lean hashes anything: it is a label: what it is worth is what the hold of that sum in a sandbox is worth. -/
noncomputable def Tryd.pinned : Pinned := { name := "ytblfmofhfbbmdaadoor", sum := "f1c8141b656dcb1d1ce3147df41f892d7a691013139039f4ca818c1c8ed0b13a", checked := Tryd.checked }
namespace Rows
def none {H : Type} : Left H := { results := [], args := [] }

/- WHAT THE LISTED PACKAGE-LEVEL VARIABLES READ AS WHEN THE CALL BEGINS. Each datum BY PROGRAM (the guide's laid-datum.mjs) off the statement by which the dump's own 'gosem.cut.vars' lays the variable. In a bare row this is a premise. The card (YtblfmofhfbbmdaaDoorCards.lean) ties it to the program's text. -/
def laid_wicket_sum_halves {H : Type} : DataW H := .agg [.lit (.int .u32 0), .lit (.int .u32 498536548), .lit (.int .u32 997073096), .lit (.int .u32 651767980), .lit (.int .u32 1994146192), .lit (.int .u32 1802195444), .lit (.int .u32 1303535960), .lit (.int .u32 1342533948), .lit (.int .u32 3988292384), .lit (.int .u32 4027552580), .lit (.int .u32 3604390888), .lit (.int .u32 3412177804), .lit (.int .u32 2607071920), .lit (.int .u32 2262029012), .lit (.int .u32 2685067896), .lit (.int .u32 3183342108)]
def laid_wicket_super_widths {H : Type} : DataW H := .agg [.lit (.int .i64 1), .lit (.int .i64 1), .lit (.int .i64 1), .lit (.int .i64 1), .lit (.int .i64 1), .lit (.int .i64 1), .lit (.int .i64 1), .lit (.int .i64 3), .lit (.int .i64 8), .lit (.int .i64 8)]

/-- 'wicketlaw02.SumNames': WHATEVER THE INPUT: true; the input reads as it did. -/
def sumNamesSpec : ChangeSpec := { name := "sumNames", fn := fun _ => fun
  | [] => { results := [.lit (.bool true)], args := [] }
  | _ => none }
def sumNamesRow : OpenClaim := { program := "ytblfmofhfbbmdaadoor", sum := "f1c8141b656dcb1d1ce3147df41f892d7a691013139039f4ca818c1c8ed0b13a", func := "wicket/wicketlaw02.SumNames", spec := "sumNames", named := ["wicket/sum.halves"], apart := false, laid := [("wicket/sum.halves", laid_wicket_sum_halves)] }
def SumNamesSaid : Prop := sumNamesRow.holds Tryd.pinned (OpenSpec.ofChange sumNamesSpec)

/-- ITS FALSE NEIGHBOUR: 'it returns false'. Refute it at one input. -/
def sumNamesWrong : ChangeSpec := { name := "sumNames", fn := fun _ => fun
  | [] => { results := [.lit (.bool false)], args := [] }
  | _ => none }
def SumNamesWrongFalsely : Prop := sumNamesRow.holds Tryd.pinned (OpenSpec.ofChange sumNamesWrong)

/-- 'wicketlaw02.SumParts': WHATEVER THE INPUT: true; the input reads as it did. -/
def sumPartsSpec : ChangeSpec := { name := "sumParts", fn := fun _ => fun
  | [d] => { results := [.lit (.bool true)], args := [d] }
  | _ => none }
def sumPartsRow : OpenClaim := { program := "ytblfmofhfbbmdaadoor", sum := "f1c8141b656dcb1d1ce3147df41f892d7a691013139039f4ca818c1c8ed0b13a", func := "wicket/wicketlaw02.SumParts", spec := "sumParts", named := ["wicket/sum.halves"], apart := false, laid := [("wicket/sum.halves", laid_wicket_sum_halves)] }
def SumPartsSaid : Prop := sumPartsRow.holds Tryd.pinned (OpenSpec.ofChange sumPartsSpec)

/-- ITS FALSE NEIGHBOUR: 'it returns false'. Refute it at one input. -/
def sumPartsWrong : ChangeSpec := { name := "sumParts", fn := fun _ => fun
  | [d] => { results := [.lit (.bool false)], args := [d] }
  | _ => none }
def SumPartsWrongFalsely : Prop := sumPartsRow.holds Tryd.pinned (OpenSpec.ofChange sumPartsWrong)

/-- 'wicketlaw02.SumJoins': WHATEVER THE INPUT: true; the input reads as it did. -/
def sumJoinsSpec : ChangeSpec := { name := "sumJoins", fn := fun _ => fun
  | [d1, d2, d3, d4, d5] => { results := [.lit (.bool true)], args := [d1, d2, d3, d4, d5] }
  | _ => none }
def sumJoinsRow : OpenClaim := { program := "ytblfmofhfbbmdaadoor", sum := "f1c8141b656dcb1d1ce3147df41f892d7a691013139039f4ca818c1c8ed0b13a", func := "wicket/wicketlaw02.SumJoins", spec := "sumJoins", named := ["wicket/sum.halves"], apart := false, laid := [("wicket/sum.halves", laid_wicket_sum_halves)] }
def SumJoinsSaid : Prop := sumJoinsRow.holds Tryd.pinned (OpenSpec.ofChange sumJoinsSpec)

/-- ITS FALSE NEIGHBOUR: 'it returns false'. Refute it at one input. -/
def sumJoinsWrong : ChangeSpec := { name := "sumJoins", fn := fun _ => fun
  | [d1, d2, d3, d4, d5] => { results := [.lit (.bool false)], args := [d1, d2, d3, d4, d5] }
  | _ => none }
def SumJoinsWrongFalsely : Prop := sumJoinsRow.holds Tryd.pinned (OpenSpec.ofChange sumJoinsWrong)

/-- 'wicketlaw02.SumTexts': WHATEVER THE INPUT: true; the input reads as it did. -/
def sumTextsSpec : ChangeSpec := { name := "sumTexts", fn := fun _ => fun
  | [d1, d2, d3, d4, d5] => { results := [.lit (.bool true)], args := [d1, d2, d3, d4, d5] }
  | _ => none }
def sumTextsRow : OpenClaim := { program := "ytblfmofhfbbmdaadoor", sum := "f1c8141b656dcb1d1ce3147df41f892d7a691013139039f4ca818c1c8ed0b13a", func := "wicket/wicketlaw02.SumTexts", spec := "sumTexts", named := ["wicket/sum.halves"], apart := false, laid := [("wicket/sum.halves", laid_wicket_sum_halves)] }
def SumTextsSaid : Prop := sumTextsRow.holds Tryd.pinned (OpenSpec.ofChange sumTextsSpec)

/-- ITS FALSE NEIGHBOUR: 'it returns false'. Refute it at one input. -/
def sumTextsWrong : ChangeSpec := { name := "sumTexts", fn := fun _ => fun
  | [d1, d2, d3, d4, d5] => { results := [.lit (.bool false)], args := [d1, d2, d3, d4, d5] }
  | _ => none }
def SumTextsWrongFalsely : Prop := sumTextsRow.holds Tryd.pinned (OpenSpec.ofChange sumTextsWrong)

/-- 'wicketlaw02.SumTurns': WHATEVER THE INPUT: true; the input reads as it did. -/
def sumTurnsSpec : ChangeSpec := { name := "sumTurns", fn := fun _ => fun
  | [d1, d2] => { results := [.lit (.bool true)], args := [d1, d2] }
  | _ => none }
def sumTurnsRow : OpenClaim := { program := "ytblfmofhfbbmdaadoor", sum := "f1c8141b656dcb1d1ce3147df41f892d7a691013139039f4ca818c1c8ed0b13a", func := "wicket/wicketlaw02.SumTurns", spec := "sumTurns", named := ["wicket/sum.halves"], apart := false, laid := [("wicket/sum.halves", laid_wicket_sum_halves)] }
def SumTurnsSaid : Prop := sumTurnsRow.holds Tryd.pinned (OpenSpec.ofChange sumTurnsSpec)

/-- ITS FALSE NEIGHBOUR: 'it returns false'. Refute it at one input. -/
def sumTurnsWrong : ChangeSpec := { name := "sumTurns", fn := fun _ => fun
  | [d1, d2] => { results := [.lit (.bool false)], args := [d1, d2] }
  | _ => none }
def SumTurnsWrongFalsely : Prop := sumTurnsRow.holds Tryd.pinned (OpenSpec.ofChange sumTurnsWrong)

/-- 'wicketlaw02.SumBursts': WHATEVER THE INPUT: true; the input reads as it did. -/
def sumBurstsSpec : ChangeSpec := { name := "sumBursts", fn := fun _ => fun
  | [d1, d2, d3] => { results := [.lit (.bool true)], args := [d1, d2, d3] }
  | _ => none }
def sumBurstsRow : OpenClaim := { program := "ytblfmofhfbbmdaadoor", sum := "f1c8141b656dcb1d1ce3147df41f892d7a691013139039f4ca818c1c8ed0b13a", func := "wicket/wicketlaw02.SumBursts", spec := "sumBursts", named := ["wicket/sum.halves"], apart := false, laid := [("wicket/sum.halves", laid_wicket_sum_halves)] }
def SumBurstsSaid : Prop := sumBurstsRow.holds Tryd.pinned (OpenSpec.ofChange sumBurstsSpec)

/-- ITS FALSE NEIGHBOUR: 'it returns false'. Refute it at one input. -/
def sumBurstsWrong : ChangeSpec := { name := "sumBursts", fn := fun _ => fun
  | [d1, d2, d3] => { results := [.lit (.bool false)], args := [d1, d2, d3] }
  | _ => none }
def SumBurstsWrongFalsely : Prop := sumBurstsRow.holds Tryd.pinned (OpenSpec.ofChange sumBurstsWrong)

/-- 'wicketlaw07.SuperTurned': WHATEVER THE INPUT: true; the input reads as it did. -/
def superTurnedSpec : ChangeSpec := { name := "superTurned", fn := fun _ => fun
  | [d1, d2, d3] => { results := [.lit (.bool true)], args := [d1, d2, d3] }
  | _ => none }
def superTurnedRow : OpenClaim := { program := "ytblfmofhfbbmdaadoor", sum := "f1c8141b656dcb1d1ce3147df41f892d7a691013139039f4ca818c1c8ed0b13a", func := "wicket/wicketlaw07.SuperTurned", spec := "superTurned", unfollowed := true, recurses := true, named := ["wicket/super.widths", "wicket/sum.halves"], apart := false, laid := [("wicket/sum.halves", laid_wicket_sum_halves), ("wicket/super.widths", laid_wicket_super_widths)] }
def SuperTurnedSaid : Prop := superTurnedRow.holds Tryd.pinned (OpenSpec.ofChange superTurnedSpec)

/-- ITS FALSE NEIGHBOUR: 'it returns false'. Refute it at one input. -/
def superTurnedWrong : ChangeSpec := { name := "superTurned", fn := fun _ => fun
  | [d1, d2, d3] => { results := [.lit (.bool false)], args := [d1, d2, d3] }
  | _ => none }
def SuperTurnedWrongFalsely : Prop := superTurnedRow.holds Tryd.pinned (OpenSpec.ofChange superTurnedWrong)

/-- 'wicketlaw07.SuperHands': WHATEVER THE INPUT: true; the input reads as it did. -/
def superHandsSpec : ChangeSpec := { name := "superHands", fn := fun _ => fun
  | [d1, d2] => { results := [.lit (.bool true)], args := [d1, d2] }
  | _ => none }
def superHandsRow : OpenClaim := { program := "ytblfmofhfbbmdaadoor", sum := "f1c8141b656dcb1d1ce3147df41f892d7a691013139039f4ca818c1c8ed0b13a", func := "wicket/wicketlaw07.SuperHands", spec := "superHands", unfollowed := true, recurses := true, named := ["wicket/super.widths", "wicket/sum.halves"], apart := false, laid := [("wicket/sum.halves", laid_wicket_sum_halves), ("wicket/super.widths", laid_wicket_super_widths)] }
def SuperHandsSaid : Prop := superHandsRow.holds Tryd.pinned (OpenSpec.ofChange superHandsSpec)

/-- ITS FALSE NEIGHBOUR: 'it returns false'. Refute it at one input. -/
def superHandsWrong : ChangeSpec := { name := "superHands", fn := fun _ => fun
  | [d1, d2] => { results := [.lit (.bool false)], args := [d1, d2] }
  | _ => none }
def SuperHandsWrongFalsely : Prop := superHandsRow.holds Tryd.pinned (OpenSpec.ofChange superHandsWrong)

/-- 'wicketlaw06.RecordNames': WHATEVER THE INPUT: true; the input reads as it did. -/
def recordNamesSpec : ChangeSpec := { name := "recordNames", fn := fun _ => fun
  | [] => { results := [.lit (.bool true)], args := [] }
  | _ => none }
def recordNamesRow : OpenClaim := { program := "ytblfmofhfbbmdaadoor", sum := "f1c8141b656dcb1d1ce3147df41f892d7a691013139039f4ca818c1c8ed0b13a", func := "wicket/wicketlaw06.RecordNames", spec := "recordNames", named := ["wicket/sum.halves"], apart := false, laid := [("wicket/sum.halves", laid_wicket_sum_halves)] }
def RecordNamesSaid : Prop := recordNamesRow.holds Tryd.pinned (OpenSpec.ofChange recordNamesSpec)

/-- ITS FALSE NEIGHBOUR: 'it returns false'. Refute it at one input. -/
def recordNamesWrong : ChangeSpec := { name := "recordNames", fn := fun _ => fun
  | [] => { results := [.lit (.bool false)], args := [] }
  | _ => none }
def RecordNamesWrongFalsely : Prop := recordNamesRow.holds Tryd.pinned (OpenSpec.ofChange recordNamesWrong)

/-- 'wicketlaw06.RecordEncodes': WHATEVER THE INPUT: true; the input reads as it did. -/
def recordEncodesSpec : ChangeSpec := { name := "recordEncodes", fn := fun _ => fun
  | [d] => { results := [.lit (.bool true)], args := [d] }
  | _ => none }
def recordEncodesRow : OpenClaim := { program := "ytblfmofhfbbmdaadoor", sum := "f1c8141b656dcb1d1ce3147df41f892d7a691013139039f4ca818c1c8ed0b13a", func := "wicket/wicketlaw06.RecordEncodes", spec := "recordEncodes", named := ["wicket/sum.halves"], apart := false, laid := [("wicket/sum.halves", laid_wicket_sum_halves)] }
def RecordEncodesSaid : Prop := recordEncodesRow.holds Tryd.pinned (OpenSpec.ofChange recordEncodesSpec)

/-- ITS FALSE NEIGHBOUR: 'it returns false'. Refute it at one input. -/
def recordEncodesWrong : ChangeSpec := { name := "recordEncodes", fn := fun _ => fun
  | [d] => { results := [.lit (.bool false)], args := [d] }
  | _ => none }
def RecordEncodesWrongFalsely : Prop := recordEncodesRow.holds Tryd.pinned (OpenSpec.ofChange recordEncodesWrong)

/-- 'wicketlaw06.RecordDecodes': WHATEVER THE INPUT: true; the input reads as it did. -/
def recordDecodesSpec : ChangeSpec := { name := "recordDecodes", fn := fun _ => fun
  | [d1, d2, d3] => { results := [.lit (.bool true)], args := [d1, d2, d3] }
  | _ => none }
def recordDecodesRow : OpenClaim := { program := "ytblfmofhfbbmdaadoor", sum := "f1c8141b656dcb1d1ce3147df41f892d7a691013139039f4ca818c1c8ed0b13a", func := "wicket/wicketlaw06.RecordDecodes", spec := "recordDecodes", named := ["wicket/sum.halves"], apart := false, laid := [("wicket/sum.halves", laid_wicket_sum_halves)] }
def RecordDecodesSaid : Prop := recordDecodesRow.holds Tryd.pinned (OpenSpec.ofChange recordDecodesSpec)

/-- ITS FALSE NEIGHBOUR: 'it returns false'. Refute it at one input. -/
def recordDecodesWrong : ChangeSpec := { name := "recordDecodes", fn := fun _ => fun
  | [d1, d2, d3] => { results := [.lit (.bool false)], args := [d1, d2, d3] }
  | _ => none }
def RecordDecodesWrongFalsely : Prop := recordDecodesRow.holds Tryd.pinned (OpenSpec.ofChange recordDecodesWrong)

/-- 'wicketlaw06.RecordBack': WHATEVER THE INPUT: true; the input reads as it did. -/
def recordBackSpec : ChangeSpec := { name := "recordBack", fn := fun _ => fun
  | [d1, d2, d3, d4] => { results := [.lit (.bool true)], args := [d1, d2, d3, d4] }
  | _ => none }
def recordBackRow : OpenClaim := { program := "ytblfmofhfbbmdaadoor", sum := "f1c8141b656dcb1d1ce3147df41f892d7a691013139039f4ca818c1c8ed0b13a", func := "wicket/wicketlaw06.RecordBack", spec := "recordBack", named := ["wicket/sum.halves"], apart := false, laid := [("wicket/sum.halves", laid_wicket_sum_halves)] }
def RecordBackSaid : Prop := recordBackRow.holds Tryd.pinned (OpenSpec.ofChange recordBackSpec)

/-- ITS FALSE NEIGHBOUR: 'it returns false'. Refute it at one input. -/
def recordBackWrong : ChangeSpec := { name := "recordBack", fn := fun _ => fun
  | [d1, d2, d3, d4] => { results := [.lit (.bool false)], args := [d1, d2, d3, d4] }
  | _ => none }
def RecordBackWrongFalsely : Prop := recordBackRow.holds Tryd.pinned (OpenSpec.ofChange recordBackWrong)

/-- 'wicketlaw06.RecordOneForm': WHATEVER THE INPUT: true; the input reads as it did. -/
def recordOneFormSpec : ChangeSpec := { name := "recordOneForm", fn := fun _ => fun
  | [d] => { results := [.lit (.bool true)], args := [d] }
  | _ => none }
def recordOneFormRow : OpenClaim := { program := "ytblfmofhfbbmdaadoor", sum := "f1c8141b656dcb1d1ce3147df41f892d7a691013139039f4ca818c1c8ed0b13a", func := "wicket/wicketlaw06.RecordOneForm", spec := "recordOneForm", named := ["wicket/sum.halves"], apart := false, laid := [("wicket/sum.halves", laid_wicket_sum_halves)] }
def RecordOneFormSaid : Prop := recordOneFormRow.holds Tryd.pinned (OpenSpec.ofChange recordOneFormSpec)

/-- ITS FALSE NEIGHBOUR: 'it returns false'. Refute it at one input. -/
def recordOneFormWrong : ChangeSpec := { name := "recordOneForm", fn := fun _ => fun
  | [d] => { results := [.lit (.bool false)], args := [d] }
  | _ => none }
def RecordOneFormWrongFalsely : Prop := recordOneFormRow.holds Tryd.pinned (OpenSpec.ofChange recordOneFormWrong)

/-- 'wicketlaw07.SuperEncodes': WHATEVER THE INPUT: true; the input reads as it did. -/
def superEncodesSpec : ChangeSpec := { name := "superEncodes", fn := fun _ => fun
  | [d] => { results := [.lit (.bool true)], args := [d] }
  | _ => none }
def superEncodesRow : OpenClaim := { program := "ytblfmofhfbbmdaadoor", sum := "f1c8141b656dcb1d1ce3147df41f892d7a691013139039f4ca818c1c8ed0b13a", func := "wicket/wicketlaw07.SuperEncodes", spec := "superEncodes", named := ["wicket/super.widths", "wicket/sum.halves"], apart := false, laid := [("wicket/sum.halves", laid_wicket_sum_halves), ("wicket/super.widths", laid_wicket_super_widths)] }
def SuperEncodesSaid : Prop := superEncodesRow.holds Tryd.pinned (OpenSpec.ofChange superEncodesSpec)

/-- ITS FALSE NEIGHBOUR: 'it returns false'. Refute it at one input. -/
def superEncodesWrong : ChangeSpec := { name := "superEncodes", fn := fun _ => fun
  | [d] => { results := [.lit (.bool false)], args := [d] }
  | _ => none }
def SuperEncodesWrongFalsely : Prop := superEncodesRow.holds Tryd.pinned (OpenSpec.ofChange superEncodesWrong)

/-- 'wicketlaw07.SuperDecodes': WHATEVER THE INPUT: true; the input reads as it did. -/
def superDecodesSpec : ChangeSpec := { name := "superDecodes", fn := fun _ => fun
  | [d] => { results := [.lit (.bool true)], args := [d] }
  | _ => none }
def superDecodesRow : OpenClaim := { program := "ytblfmofhfbbmdaadoor", sum := "f1c8141b656dcb1d1ce3147df41f892d7a691013139039f4ca818c1c8ed0b13a", func := "wicket/wicketlaw07.SuperDecodes", spec := "superDecodes", named := ["wicket/super.widths", "wicket/sum.halves"], apart := false, laid := [("wicket/sum.halves", laid_wicket_sum_halves), ("wicket/super.widths", laid_wicket_super_widths)] }
def SuperDecodesSaid : Prop := superDecodesRow.holds Tryd.pinned (OpenSpec.ofChange superDecodesSpec)

/-- ITS FALSE NEIGHBOUR: 'it returns false'. Refute it at one input. -/
def superDecodesWrong : ChangeSpec := { name := "superDecodes", fn := fun _ => fun
  | [d] => { results := [.lit (.bool false)], args := [d] }
  | _ => none }
def SuperDecodesWrongFalsely : Prop := superDecodesRow.holds Tryd.pinned (OpenSpec.ofChange superDecodesWrong)

/-- 'wicketlaw07.SuperForged': WHATEVER THE INPUT: true; the input reads as it did. -/
def superForgedSpec : ChangeSpec := { name := "superForged", fn := fun _ => fun
  | [d1, d2, d3] => { results := [.lit (.bool true)], args := [d1, d2, d3] }
  | _ => none }
def superForgedRow : OpenClaim := { program := "ytblfmofhfbbmdaadoor", sum := "f1c8141b656dcb1d1ce3147df41f892d7a691013139039f4ca818c1c8ed0b13a", func := "wicket/wicketlaw07.SuperForged", spec := "superForged", named := ["wicket/super.widths", "wicket/sum.halves"], apart := false, laid := [("wicket/sum.halves", laid_wicket_sum_halves), ("wicket/super.widths", laid_wicket_super_widths)] }
def SuperForgedSaid : Prop := superForgedRow.holds Tryd.pinned (OpenSpec.ofChange superForgedSpec)

/-- ITS FALSE NEIGHBOUR: 'it returns false'. Refute it at one input. -/
def superForgedWrong : ChangeSpec := { name := "superForged", fn := fun _ => fun
  | [d1, d2, d3] => { results := [.lit (.bool false)], args := [d1, d2, d3] }
  | _ => none }
def SuperForgedWrongFalsely : Prop := superForgedRow.holds Tryd.pinned (OpenSpec.ofChange superForgedWrong)

/-- 'wicketlaw07.SuperBack': WHATEVER THE INPUT: true; the input reads as it did. -/
def superBackSpec : ChangeSpec := { name := "superBack", fn := fun _ => fun
  | [d1, d2, d3] => { results := [.lit (.bool true)], args := [d1, d2, d3] }
  | _ => none }
def superBackRow : OpenClaim := { program := "ytblfmofhfbbmdaadoor", sum := "f1c8141b656dcb1d1ce3147df41f892d7a691013139039f4ca818c1c8ed0b13a", func := "wicket/wicketlaw07.SuperBack", spec := "superBack", unfollowed := true, recurses := true, named := ["wicket/super.widths", "wicket/sum.halves"], apart := false, laid := [("wicket/sum.halves", laid_wicket_sum_halves), ("wicket/super.widths", laid_wicket_super_widths)] }
def SuperBackSaid : Prop := superBackRow.holds Tryd.pinned (OpenSpec.ofChange superBackSpec)

/-- ITS FALSE NEIGHBOUR: 'it returns false'. Refute it at one input. -/
def superBackWrong : ChangeSpec := { name := "superBack", fn := fun _ => fun
  | [d1, d2, d3] => { results := [.lit (.bool false)], args := [d1, d2, d3] }
  | _ => none }
def SuperBackWrongFalsely : Prop := superBackRow.holds Tryd.pinned (OpenSpec.ofChange superBackWrong)

/- THE SECOND FORM. 'bulk': how many values and letters a reading holds, each counted each time it is reached (what is shared counts as often as it is met; a slice's spare places count too). A statement '..UptoSaid' is the law's where the arguments, and the package variables that the reading takes, are together of bulk at most 1048576: NARROWER than '..Said'. Prove '..Said' where nothing that the law and all that it calls make is longer than what came in: it says more and counts as full. Else prove '..UptoSaid'. A law counts once. -/
mutual
def uptoBulk {H : Type} : DataW H → Nat
  | .lit (.string bytes) => bytes.length + 1
  | .lit _ => 1
  | .nil => 1
  | .ptr d => uptoBulk d + 1
  | .slice elems spare => uptoBulkAll elems + uptoBulkAll spare + 1
  | .agg parts => uptoBulkAll parts + 1
  | .iface _ d => uptoBulk d + 1
  | .map entries => uptoBulkEntries entries + 1
  | .held _ => 1
def uptoBulkAll {H : Type} : List (DataW H) → Nat
  | [] => 0
  | d :: r => uptoBulk d + uptoBulkAll r
def uptoBulkEntries {H : Type} : List (Lit × DataW H) → Nat
  | [] => 0
  | x :: r => uptoBulkEntry x + uptoBulkEntries r
def uptoBulkEntry {H : Type} : Lit × DataW H → Nat
  | (.string bytes, d) => bytes.length + uptoBulk d + 1
  | (_, d) => uptoBulk d + 1
 end
def uptoSmall : (H : Type) → List (DataW H) → Bool := fun _ ds => decide (uptoBulkAll ds ≤ 1048576)
def OpenSpec.upto (s : _root_.Go.ChangeSpec) : _root_.Go.OpenSpec := { _root_.Go.OpenSpec.ofChange s with cond := some uptoSmall }

/-- 'wicketlaw02.SumNames', WHERE WHAT IT READS IS OF BULK AT MOST 1048576: true; the input reads as it did. -/
def sumNamesUptoRow : OpenClaim := { program := "ytblfmofhfbbmdaadoor", sum := "f1c8141b656dcb1d1ce3147df41f892d7a691013139039f4ca818c1c8ed0b13a", func := "wicket/wicketlaw02.SumNames", spec := "sumNames", named := ["wicket/sum.halves"], apart := false, laid := [("wicket/sum.halves", laid_wicket_sum_halves)], narrowed := true }
def SumNamesUptoSaid : Prop := sumNamesUptoRow.holds Tryd.pinned (OpenSpec.upto sumNamesSpec)

/-- 'wicketlaw02.SumParts', WHERE WHAT IT READS IS OF BULK AT MOST 1048576: true; the input reads as it did. -/
def sumPartsUptoRow : OpenClaim := { program := "ytblfmofhfbbmdaadoor", sum := "f1c8141b656dcb1d1ce3147df41f892d7a691013139039f4ca818c1c8ed0b13a", func := "wicket/wicketlaw02.SumParts", spec := "sumParts", named := ["wicket/sum.halves"], apart := false, laid := [("wicket/sum.halves", laid_wicket_sum_halves)], narrowed := true }
def SumPartsUptoSaid : Prop := sumPartsUptoRow.holds Tryd.pinned (OpenSpec.upto sumPartsSpec)

/-- 'wicketlaw02.SumJoins', WHERE WHAT IT READS IS OF BULK AT MOST 1048576: true; the input reads as it did. -/
def sumJoinsUptoRow : OpenClaim := { program := "ytblfmofhfbbmdaadoor", sum := "f1c8141b656dcb1d1ce3147df41f892d7a691013139039f4ca818c1c8ed0b13a", func := "wicket/wicketlaw02.SumJoins", spec := "sumJoins", named := ["wicket/sum.halves"], apart := false, laid := [("wicket/sum.halves", laid_wicket_sum_halves)], narrowed := true }
def SumJoinsUptoSaid : Prop := sumJoinsUptoRow.holds Tryd.pinned (OpenSpec.upto sumJoinsSpec)

/-- 'wicketlaw02.SumTexts', WHERE WHAT IT READS IS OF BULK AT MOST 1048576: true; the input reads as it did. -/
def sumTextsUptoRow : OpenClaim := { program := "ytblfmofhfbbmdaadoor", sum := "f1c8141b656dcb1d1ce3147df41f892d7a691013139039f4ca818c1c8ed0b13a", func := "wicket/wicketlaw02.SumTexts", spec := "sumTexts", named := ["wicket/sum.halves"], apart := false, laid := [("wicket/sum.halves", laid_wicket_sum_halves)], narrowed := true }
def SumTextsUptoSaid : Prop := sumTextsUptoRow.holds Tryd.pinned (OpenSpec.upto sumTextsSpec)

/-- 'wicketlaw02.SumTurns', WHERE WHAT IT READS IS OF BULK AT MOST 1048576: true; the input reads as it did. -/
def sumTurnsUptoRow : OpenClaim := { program := "ytblfmofhfbbmdaadoor", sum := "f1c8141b656dcb1d1ce3147df41f892d7a691013139039f4ca818c1c8ed0b13a", func := "wicket/wicketlaw02.SumTurns", spec := "sumTurns", named := ["wicket/sum.halves"], apart := false, laid := [("wicket/sum.halves", laid_wicket_sum_halves)], narrowed := true }
def SumTurnsUptoSaid : Prop := sumTurnsUptoRow.holds Tryd.pinned (OpenSpec.upto sumTurnsSpec)

/-- 'wicketlaw02.SumBursts', WHERE WHAT IT READS IS OF BULK AT MOST 1048576: true; the input reads as it did. -/
def sumBurstsUptoRow : OpenClaim := { program := "ytblfmofhfbbmdaadoor", sum := "f1c8141b656dcb1d1ce3147df41f892d7a691013139039f4ca818c1c8ed0b13a", func := "wicket/wicketlaw02.SumBursts", spec := "sumBursts", named := ["wicket/sum.halves"], apart := false, laid := [("wicket/sum.halves", laid_wicket_sum_halves)], narrowed := true }
def SumBurstsUptoSaid : Prop := sumBurstsUptoRow.holds Tryd.pinned (OpenSpec.upto sumBurstsSpec)

/-- 'wicketlaw07.SuperTurned', WHERE WHAT IT READS IS OF BULK AT MOST 1048576: true; the input reads as it did. -/
def superTurnedUptoRow : OpenClaim := { program := "ytblfmofhfbbmdaadoor", sum := "f1c8141b656dcb1d1ce3147df41f892d7a691013139039f4ca818c1c8ed0b13a", func := "wicket/wicketlaw07.SuperTurned", spec := "superTurned", unfollowed := true, recurses := true, named := ["wicket/super.widths", "wicket/sum.halves"], apart := false, laid := [("wicket/sum.halves", laid_wicket_sum_halves), ("wicket/super.widths", laid_wicket_super_widths)], narrowed := true }
def SuperTurnedUptoSaid : Prop := superTurnedUptoRow.holds Tryd.pinned (OpenSpec.upto superTurnedSpec)

/-- 'wicketlaw07.SuperHands', WHERE WHAT IT READS IS OF BULK AT MOST 1048576: true; the input reads as it did. -/
def superHandsUptoRow : OpenClaim := { program := "ytblfmofhfbbmdaadoor", sum := "f1c8141b656dcb1d1ce3147df41f892d7a691013139039f4ca818c1c8ed0b13a", func := "wicket/wicketlaw07.SuperHands", spec := "superHands", unfollowed := true, recurses := true, named := ["wicket/super.widths", "wicket/sum.halves"], apart := false, laid := [("wicket/sum.halves", laid_wicket_sum_halves), ("wicket/super.widths", laid_wicket_super_widths)], narrowed := true }
def SuperHandsUptoSaid : Prop := superHandsUptoRow.holds Tryd.pinned (OpenSpec.upto superHandsSpec)

/-- 'wicketlaw06.RecordNames', WHERE WHAT IT READS IS OF BULK AT MOST 1048576: true; the input reads as it did. -/
def recordNamesUptoRow : OpenClaim := { program := "ytblfmofhfbbmdaadoor", sum := "f1c8141b656dcb1d1ce3147df41f892d7a691013139039f4ca818c1c8ed0b13a", func := "wicket/wicketlaw06.RecordNames", spec := "recordNames", named := ["wicket/sum.halves"], apart := false, laid := [("wicket/sum.halves", laid_wicket_sum_halves)], narrowed := true }
def RecordNamesUptoSaid : Prop := recordNamesUptoRow.holds Tryd.pinned (OpenSpec.upto recordNamesSpec)

/-- 'wicketlaw06.RecordEncodes', WHERE WHAT IT READS IS OF BULK AT MOST 1048576: true; the input reads as it did. -/
def recordEncodesUptoRow : OpenClaim := { program := "ytblfmofhfbbmdaadoor", sum := "f1c8141b656dcb1d1ce3147df41f892d7a691013139039f4ca818c1c8ed0b13a", func := "wicket/wicketlaw06.RecordEncodes", spec := "recordEncodes", named := ["wicket/sum.halves"], apart := false, laid := [("wicket/sum.halves", laid_wicket_sum_halves)], narrowed := true }
def RecordEncodesUptoSaid : Prop := recordEncodesUptoRow.holds Tryd.pinned (OpenSpec.upto recordEncodesSpec)

/-- 'wicketlaw06.RecordDecodes', WHERE WHAT IT READS IS OF BULK AT MOST 1048576: true; the input reads as it did. -/
def recordDecodesUptoRow : OpenClaim := { program := "ytblfmofhfbbmdaadoor", sum := "f1c8141b656dcb1d1ce3147df41f892d7a691013139039f4ca818c1c8ed0b13a", func := "wicket/wicketlaw06.RecordDecodes", spec := "recordDecodes", named := ["wicket/sum.halves"], apart := false, laid := [("wicket/sum.halves", laid_wicket_sum_halves)], narrowed := true }
def RecordDecodesUptoSaid : Prop := recordDecodesUptoRow.holds Tryd.pinned (OpenSpec.upto recordDecodesSpec)

/-- 'wicketlaw06.RecordBack', WHERE WHAT IT READS IS OF BULK AT MOST 1048576: true; the input reads as it did. -/
def recordBackUptoRow : OpenClaim := { program := "ytblfmofhfbbmdaadoor", sum := "f1c8141b656dcb1d1ce3147df41f892d7a691013139039f4ca818c1c8ed0b13a", func := "wicket/wicketlaw06.RecordBack", spec := "recordBack", named := ["wicket/sum.halves"], apart := false, laid := [("wicket/sum.halves", laid_wicket_sum_halves)], narrowed := true }
def RecordBackUptoSaid : Prop := recordBackUptoRow.holds Tryd.pinned (OpenSpec.upto recordBackSpec)

/-- 'wicketlaw06.RecordOneForm', WHERE WHAT IT READS IS OF BULK AT MOST 1048576: true; the input reads as it did. -/
def recordOneFormUptoRow : OpenClaim := { program := "ytblfmofhfbbmdaadoor", sum := "f1c8141b656dcb1d1ce3147df41f892d7a691013139039f4ca818c1c8ed0b13a", func := "wicket/wicketlaw06.RecordOneForm", spec := "recordOneForm", named := ["wicket/sum.halves"], apart := false, laid := [("wicket/sum.halves", laid_wicket_sum_halves)], narrowed := true }
def RecordOneFormUptoSaid : Prop := recordOneFormUptoRow.holds Tryd.pinned (OpenSpec.upto recordOneFormSpec)

/-- 'wicketlaw07.SuperEncodes', WHERE WHAT IT READS IS OF BULK AT MOST 1048576: true; the input reads as it did. -/
def superEncodesUptoRow : OpenClaim := { program := "ytblfmofhfbbmdaadoor", sum := "f1c8141b656dcb1d1ce3147df41f892d7a691013139039f4ca818c1c8ed0b13a", func := "wicket/wicketlaw07.SuperEncodes", spec := "superEncodes", named := ["wicket/super.widths", "wicket/sum.halves"], apart := false, laid := [("wicket/sum.halves", laid_wicket_sum_halves), ("wicket/super.widths", laid_wicket_super_widths)], narrowed := true }
def SuperEncodesUptoSaid : Prop := superEncodesUptoRow.holds Tryd.pinned (OpenSpec.upto superEncodesSpec)

/-- 'wicketlaw07.SuperDecodes', WHERE WHAT IT READS IS OF BULK AT MOST 1048576: true; the input reads as it did. -/
def superDecodesUptoRow : OpenClaim := { program := "ytblfmofhfbbmdaadoor", sum := "f1c8141b656dcb1d1ce3147df41f892d7a691013139039f4ca818c1c8ed0b13a", func := "wicket/wicketlaw07.SuperDecodes", spec := "superDecodes", named := ["wicket/super.widths", "wicket/sum.halves"], apart := false, laid := [("wicket/sum.halves", laid_wicket_sum_halves), ("wicket/super.widths", laid_wicket_super_widths)], narrowed := true }
def SuperDecodesUptoSaid : Prop := superDecodesUptoRow.holds Tryd.pinned (OpenSpec.upto superDecodesSpec)

/-- 'wicketlaw07.SuperForged', WHERE WHAT IT READS IS OF BULK AT MOST 1048576: true; the input reads as it did. -/
def superForgedUptoRow : OpenClaim := { program := "ytblfmofhfbbmdaadoor", sum := "f1c8141b656dcb1d1ce3147df41f892d7a691013139039f4ca818c1c8ed0b13a", func := "wicket/wicketlaw07.SuperForged", spec := "superForged", named := ["wicket/super.widths", "wicket/sum.halves"], apart := false, laid := [("wicket/sum.halves", laid_wicket_sum_halves), ("wicket/super.widths", laid_wicket_super_widths)], narrowed := true }
def SuperForgedUptoSaid : Prop := superForgedUptoRow.holds Tryd.pinned (OpenSpec.upto superForgedSpec)

/-- 'wicketlaw07.SuperBack', WHERE WHAT IT READS IS OF BULK AT MOST 1048576: true; the input reads as it did. -/
def superBackUptoRow : OpenClaim := { program := "ytblfmofhfbbmdaadoor", sum := "f1c8141b656dcb1d1ce3147df41f892d7a691013139039f4ca818c1c8ed0b13a", func := "wicket/wicketlaw07.SuperBack", spec := "superBack", unfollowed := true, recurses := true, named := ["wicket/super.widths", "wicket/sum.halves"], apart := false, laid := [("wicket/sum.halves", laid_wicket_sum_halves), ("wicket/super.widths", laid_wicket_super_widths)], narrowed := true }
def SuperBackUptoSaid : Prop := superBackUptoRow.holds Tryd.pinned (OpenSpec.upto superBackSpec)

end Rows
end Go.Proofs.YtblfmofhfbbmdaaDoor

/-
  No cell of these rows narrows 'for every input' (looked for: loops, veiled, ifaces, maps, wideKeys, modest, calm, conditions, laid).
  DERIVED. THE GIVEN ROWS OF THIS SEAT. 22 by the template 'for every input the law returns true; each argument reads behind the call as it read before'; 0 by the template 'total and deterministic' (their statements: YtflaanfmanileaaTotals.lean).
  GIVEN WITH THE SEED: the statements are not yours to turn. If you find one false, say at which input.
  Laid BY PROGRAM, IN A SANDBOX (cutbox-rows.mjs): the forced cells as the released guide's own fill.sh prints them over the translation 84bb4f0483c30c99… (all of the seat's roots in one cut). By AI agents, Wed Nov 11 2026. No macro, syntax, notation, axiom, sorry.
-/
import Derived.Test.YtflaanfmanileaaChecked
import GoSem.Claim
import GoSem.ClaimJoined
import GoSem.ClaimMapViews
import Derived.JoinedTies
import Derived.KernelRfl
namespace Go.Proofs.Ytflaanfmanileaa
/- THE CELL 'sum', in the pinned program and in every row, IS THE sha256 OF THE DUMP (.gsa) THAT YtflaanfmanileaaProg.lean LOADS. Nothing in Lean hashes anything: it is a label: what it is worth is what the hold of that sum in a sandbox is worth. -/
noncomputable def Try.pinned : Pinned := { name := "ytflaanfmanileaa", sum := "84bb4f0483c30c99e186fa16950a7b533b6598f074754fec6d29253ddfa7be6f", checked := Try.checked }
namespace Rows
def none {H : Type} : Left H := { results := [], args := [] }

/-- 'fourwatchkeep.VecSwaps': WHATEVER THE INPUT: true; the input reads as it did. -/
def vecSwapsSpec : ChangeSpec := { name := "vecSwaps", fn := fun _ => fun
  | [d1, d2] => { results := [.lit (.bool true)], args := [d1, d2] }
  | _ => none }
def vecSwapsRow : OpenClaim := { program := "ytflaanfmanileaa", sum := "84bb4f0483c30c99e186fa16950a7b533b6598f074754fec6d29253ddfa7be6f", func := "fourwatch/fourwatchkeep.VecSwaps", spec := "vecSwaps", inPlace := ["math/bits.Add64"], unfollowed := true, recurses := true, apart := false }
def VecSwapsSaid : Prop := vecSwapsRow.holds Try.pinned (OpenSpec.ofChange vecSwapsSpec)

/-- ITS FALSE NEIGHBOUR: 'it returns false'. Refute it at one input. -/
def vecSwapsWrong : ChangeSpec := { name := "vecSwaps", fn := fun _ => fun
  | [d1, d2] => { results := [.lit (.bool false)], args := [d1, d2] }
  | _ => none }
def VecSwapsWrongFalsely : Prop := vecSwapsRow.holds Try.pinned (OpenSpec.ofChange vecSwapsWrong)

/-- 'fourwatchkeep.MatUnit': WHATEVER THE INPUT: true; the input reads as it did. -/
def matUnitSpec : ChangeSpec := { name := "matUnit", fn := fun _ => fun
  | [d] => { results := [.lit (.bool true)], args := [d] }
  | _ => none }
def matUnitRow : OpenClaim := { program := "ytflaanfmanileaa", sum := "84bb4f0483c30c99e186fa16950a7b533b6598f074754fec6d29253ddfa7be6f", func := "fourwatch/fourwatchkeep.MatUnit", spec := "matUnit", inPlace := ["math/bits.Add64"], apart := false }
def MatUnitSaid : Prop := matUnitRow.holds Try.pinned (OpenSpec.ofChange matUnitSpec)

/-- ITS FALSE NEIGHBOUR: 'it returns false'. Refute it at one input. -/
def matUnitWrong : ChangeSpec := { name := "matUnit", fn := fun _ => fun
  | [d] => { results := [.lit (.bool false)], args := [d] }
  | _ => none }
def MatUnitWrongFalsely : Prop := matUnitRow.holds Try.pinned (OpenSpec.ofChange matUnitWrong)

/-- 'fourwatchkeep.VecLong': WHATEVER THE INPUT: true; the input reads as it did. -/
def vecLongSpec : ChangeSpec := { name := "vecLong", fn := fun _ => fun
  | [d] => { results := [.lit (.bool true)], args := [d] }
  | _ => none }
def vecLongRow : OpenClaim := { program := "ytflaanfmanileaa", sum := "84bb4f0483c30c99e186fa16950a7b533b6598f074754fec6d29253ddfa7be6f", func := "fourwatch/fourwatchkeep.VecLong", spec := "vecLong", inPlace := ["math/bits.Add64"], apart := false }
def VecLongSaid : Prop := vecLongRow.holds Try.pinned (OpenSpec.ofChange vecLongSpec)

/-- ITS FALSE NEIGHBOUR: 'it returns false'. Refute it at one input. -/
def vecLongWrong : ChangeSpec := { name := "vecLong", fn := fun _ => fun
  | [d] => { results := [.lit (.bool false)], args := [d] }
  | _ => none }
def VecLongWrongFalsely : Prop := vecLongRow.holds Try.pinned (OpenSpec.ofChange vecLongWrong)

/-- 'fourwatchkeep.MatTurnTwice': WHATEVER THE INPUT: true; the input reads as it did. -/
def matTurnTwiceSpec : ChangeSpec := { name := "matTurnTwice", fn := fun _ => fun
  | [d] => { results := [.lit (.bool true)], args := [d] }
  | _ => none }
def matTurnTwiceRow : OpenClaim := { program := "ytflaanfmanileaa", sum := "84bb4f0483c30c99e186fa16950a7b533b6598f074754fec6d29253ddfa7be6f", func := "fourwatch/fourwatchkeep.MatTurnTwice", spec := "matTurnTwice", inPlace := ["math/bits.Add64"], apart := false }
def MatTurnTwiceSaid : Prop := matTurnTwiceRow.holds Try.pinned (OpenSpec.ofChange matTurnTwiceSpec)

/-- ITS FALSE NEIGHBOUR: 'it returns false'. Refute it at one input. -/
def matTurnTwiceWrong : ChangeSpec := { name := "matTurnTwice", fn := fun _ => fun
  | [d] => { results := [.lit (.bool false)], args := [d] }
  | _ => none }
def MatTurnTwiceWrongFalsely : Prop := matTurnTwiceRow.holds Try.pinned (OpenSpec.ofChange matTurnTwiceWrong)

/-- 'fourwatchkeep.MatTurnMul': WHATEVER THE INPUT: true; the input reads as it did. -/
def matTurnMulSpec : ChangeSpec := { name := "matTurnMul", fn := fun _ => fun
  | [d1, d2] => { results := [.lit (.bool true)], args := [d1, d2] }
  | _ => none }
def matTurnMulRow : OpenClaim := { program := "ytflaanfmanileaa", sum := "84bb4f0483c30c99e186fa16950a7b533b6598f074754fec6d29253ddfa7be6f", func := "fourwatch/fourwatchkeep.MatTurnMul", spec := "matTurnMul", inPlace := ["math/bits.Add64"], apart := false }
def MatTurnMulSaid : Prop := matTurnMulRow.holds Try.pinned (OpenSpec.ofChange matTurnMulSpec)

/-- ITS FALSE NEIGHBOUR: 'it returns false'. Refute it at one input. -/
def matTurnMulWrong : ChangeSpec := { name := "matTurnMul", fn := fun _ => fun
  | [d1, d2] => { results := [.lit (.bool false)], args := [d1, d2] }
  | _ => none }
def MatTurnMulWrongFalsely : Prop := matTurnMulRow.holds Try.pinned (OpenSpec.ofChange matTurnMulWrong)

/-- 'fourwatchkeep.VecNoughts': WHATEVER THE INPUT: true; the input reads as it did. -/
def vecNoughtsSpec : ChangeSpec := { name := "vecNoughts", fn := fun _ => fun
  | [d1, d2] => { results := [.lit (.bool true)], args := [d1, d2] }
  | _ => none }
def vecNoughtsRow : OpenClaim := { program := "ytflaanfmanileaa", sum := "84bb4f0483c30c99e186fa16950a7b533b6598f074754fec6d29253ddfa7be6f", func := "fourwatch/fourwatchkeep.VecNoughts", spec := "vecNoughts", inPlace := ["math/bits.Add64"], unfollowed := true, recurses := true, apart := false }
def VecNoughtsSaid : Prop := vecNoughtsRow.holds Try.pinned (OpenSpec.ofChange vecNoughtsSpec)

/-- ITS FALSE NEIGHBOUR: 'it returns false'. Refute it at one input. -/
def vecNoughtsWrong : ChangeSpec := { name := "vecNoughts", fn := fun _ => fun
  | [d1, d2] => { results := [.lit (.bool false)], args := [d1, d2] }
  | _ => none }
def VecNoughtsWrongFalsely : Prop := vecNoughtsRow.holds Try.pinned (OpenSpec.ofChange vecNoughtsWrong)

/-- 'fourwatchkeep.MatColumns': WHATEVER THE INPUT: true; the input reads as it did. -/
def matColumnsSpec : ChangeSpec := { name := "matColumns", fn := fun _ => fun
  | [d1, d2] => { results := [.lit (.bool true)], args := [d1, d2] }
  | _ => none }
def matColumnsRow : OpenClaim := { program := "ytflaanfmanileaa", sum := "84bb4f0483c30c99e186fa16950a7b533b6598f074754fec6d29253ddfa7be6f", func := "fourwatch/fourwatchkeep.MatColumns", spec := "matColumns", inPlace := ["math/bits.Add64"], apart := false }
def MatColumnsSaid : Prop := matColumnsRow.holds Try.pinned (OpenSpec.ofChange matColumnsSpec)

/-- ITS FALSE NEIGHBOUR: 'it returns false'. Refute it at one input. -/
def matColumnsWrong : ChangeSpec := { name := "matColumns", fn := fun _ => fun
  | [d1, d2] => { results := [.lit (.bool false)], args := [d1, d2] }
  | _ => none }
def MatColumnsWrongFalsely : Prop := matColumnsRow.holds Try.pinned (OpenSpec.ofChange matColumnsWrong)

/-- 'fourwatchkeep.FixOnes': WHATEVER THE INPUT: true; the input reads as it did. -/
def fixOnesSpec : ChangeSpec := { name := "fixOnes", fn := fun _ => fun
  | [d] => { results := [.lit (.bool true)], args := [d] }
  | _ => none }
def fixOnesRow : OpenClaim := { program := "ytflaanfmanileaa", sum := "84bb4f0483c30c99e186fa16950a7b533b6598f074754fec6d29253ddfa7be6f", func := "fourwatch/fourwatchkeep.FixOnes", spec := "fixOnes", inPlace := ["math/bits.Add64"], named := ["math/bits.divideError", "math/bits.overflowError"], apart := false }
def FixOnesSaid : Prop := fixOnesRow.holds Try.pinned (OpenSpec.ofChange fixOnesSpec)

/-- ITS FALSE NEIGHBOUR: 'it returns false'. Refute it at one input. -/
def fixOnesWrong : ChangeSpec := { name := "fixOnes", fn := fun _ => fun
  | [d] => { results := [.lit (.bool false)], args := [d] }
  | _ => none }
def FixOnesWrongFalsely : Prop := fixOnesRow.holds Try.pinned (OpenSpec.ofChange fixOnesWrong)

/-- 'fourwatchkeep.FixRises': WHATEVER THE INPUT: true; the input reads as it did. -/
def fixRisesSpec : ChangeSpec := { name := "fixRises", fn := fun _ => fun
  | [d1, d2, d3] => { results := [.lit (.bool true)], args := [d1, d2, d3] }
  | _ => none }
def fixRisesRow : OpenClaim := { program := "ytflaanfmanileaa", sum := "84bb4f0483c30c99e186fa16950a7b533b6598f074754fec6d29253ddfa7be6f", func := "fourwatch/fourwatchkeep.FixRises", spec := "fixRises", inPlace := ["math/bits.Add64"], named := ["math/bits.divideError", "math/bits.overflowError"], apart := false }
def FixRisesSaid : Prop := fixRisesRow.holds Try.pinned (OpenSpec.ofChange fixRisesSpec)

/-- ITS FALSE NEIGHBOUR: 'it returns false'. Refute it at one input. -/
def fixRisesWrong : ChangeSpec := { name := "fixRises", fn := fun _ => fun
  | [d1, d2, d3] => { results := [.lit (.bool false)], args := [d1, d2, d3] }
  | _ => none }
def FixRisesWrongFalsely : Prop := fixRisesRow.holds Try.pinned (OpenSpec.ofChange fixRisesWrong)

/-- 'fourwatchkeep.FixExact': WHATEVER THE INPUT: true; the input reads as it did. -/
def fixExactSpec : ChangeSpec := { name := "fixExact", fn := fun _ => fun
  | [d1, d2] => { results := [.lit (.bool true)], args := [d1, d2] }
  | _ => none }
def fixExactRow : OpenClaim := { program := "ytflaanfmanileaa", sum := "84bb4f0483c30c99e186fa16950a7b533b6598f074754fec6d29253ddfa7be6f", func := "fourwatch/fourwatchkeep.FixExact", spec := "fixExact", inPlace := ["math/bits.Add64"], named := ["math/bits.divideError", "math/bits.overflowError"], apart := false }
def FixExactSaid : Prop := fixExactRow.holds Try.pinned (OpenSpec.ofChange fixExactSpec)

/-- ITS FALSE NEIGHBOUR: 'it returns false'. Refute it at one input. -/
def fixExactWrong : ChangeSpec := { name := "fixExact", fn := fun _ => fun
  | [d1, d2] => { results := [.lit (.bool false)], args := [d1, d2] }
  | _ => none }
def FixExactWrongFalsely : Prop := fixExactRow.holds Try.pinned (OpenSpec.ofChange fixExactWrong)

/-- 'fourwatchkeep.FixRootNear': WHATEVER THE INPUT: true; the input reads as it did. -/
def fixRootNearSpec : ChangeSpec := { name := "fixRootNear", fn := fun _ => fun
  | [d] => { results := [.lit (.bool true)], args := [d] }
  | _ => none }
def fixRootNearRow : OpenClaim := { program := "ytflaanfmanileaa", sum := "84bb4f0483c30c99e186fa16950a7b533b6598f074754fec6d29253ddfa7be6f", func := "fourwatch/fourwatchkeep.FixRootNear", spec := "fixRootNear", inPlace := ["math/bits.Add64"], named := ["math/bits.divideError", "math/bits.overflowError"], apart := false }
def FixRootNearSaid : Prop := fixRootNearRow.holds Try.pinned (OpenSpec.ofChange fixRootNearSpec)

/-- ITS FALSE NEIGHBOUR: 'it returns false'. Refute it at one input. -/
def fixRootNearWrong : ChangeSpec := { name := "fixRootNear", fn := fun _ => fun
  | [d] => { results := [.lit (.bool false)], args := [d] }
  | _ => none }
def FixRootNearWrongFalsely : Prop := fixRootNearRow.holds Try.pinned (OpenSpec.ofChange fixRootNearWrong)

/-- 'fourwatchkeep.FixOrder': WHATEVER THE INPUT: true; the input reads as it did. -/
def fixOrderSpec : ChangeSpec := { name := "fixOrder", fn := fun _ => fun
  | [d1, d2, d3] => { results := [.lit (.bool true)], args := [d1, d2, d3] }
  | _ => none }
def fixOrderRow : OpenClaim := { program := "ytflaanfmanileaa", sum := "84bb4f0483c30c99e186fa16950a7b533b6598f074754fec6d29253ddfa7be6f", func := "fourwatch/fourwatchkeep.FixOrder", spec := "fixOrder", inPlace := ["math/bits.Add64"], named := ["math/bits.divideError", "math/bits.overflowError"], apart := false }
def FixOrderSaid : Prop := fixOrderRow.holds Try.pinned (OpenSpec.ofChange fixOrderSpec)

/-- ITS FALSE NEIGHBOUR: 'it returns false'. Refute it at one input. -/
def fixOrderWrong : ChangeSpec := { name := "fixOrder", fn := fun _ => fun
  | [d1, d2, d3] => { results := [.lit (.bool false)], args := [d1, d2, d3] }
  | _ => none }
def FixOrderWrongFalsely : Prop := fixOrderRow.holds Try.pinned (OpenSpec.ofChange fixOrderWrong)

/-- 'fourwatchkeep.FixSwaps': WHATEVER THE INPUT: true; the input reads as it did. -/
def fixSwapsSpec : ChangeSpec := { name := "fixSwaps", fn := fun _ => fun
  | [d1, d2] => { results := [.lit (.bool true)], args := [d1, d2] }
  | _ => none }
def fixSwapsRow : OpenClaim := { program := "ytflaanfmanileaa", sum := "84bb4f0483c30c99e186fa16950a7b533b6598f074754fec6d29253ddfa7be6f", func := "fourwatch/fourwatchkeep.FixSwaps", spec := "fixSwaps", inPlace := ["math/bits.Add64"], named := ["math/bits.divideError", "math/bits.overflowError"], apart := false }
def FixSwapsSaid : Prop := fixSwapsRow.holds Try.pinned (OpenSpec.ofChange fixSwapsSpec)

/-- ITS FALSE NEIGHBOUR: 'it returns false'. Refute it at one input. -/
def fixSwapsWrong : ChangeSpec := { name := "fixSwaps", fn := fun _ => fun
  | [d1, d2] => { results := [.lit (.bool false)], args := [d1, d2] }
  | _ => none }
def FixSwapsWrongFalsely : Prop := fixSwapsRow.holds Try.pinned (OpenSpec.ofChange fixSwapsWrong)

/-- 'fourwatchkeep.FixFloors': WHATEVER THE INPUT: true; the input reads as it did. -/
def fixFloorsSpec : ChangeSpec := { name := "fixFloors", fn := fun _ => fun
  | [d] => { results := [.lit (.bool true)], args := [d] }
  | _ => none }
def fixFloorsRow : OpenClaim := { program := "ytflaanfmanileaa", sum := "84bb4f0483c30c99e186fa16950a7b533b6598f074754fec6d29253ddfa7be6f", func := "fourwatch/fourwatchkeep.FixFloors", spec := "fixFloors", inPlace := ["math/bits.Add64"], named := ["math/bits.divideError", "math/bits.overflowError"], apart := false }
def FixFloorsSaid : Prop := fixFloorsRow.holds Try.pinned (OpenSpec.ofChange fixFloorsSpec)

/-- ITS FALSE NEIGHBOUR: 'it returns false'. Refute it at one input. -/
def fixFloorsWrong : ChangeSpec := { name := "fixFloors", fn := fun _ => fun
  | [d] => { results := [.lit (.bool false)], args := [d] }
  | _ => none }
def FixFloorsWrongFalsely : Prop := fixFloorsRow.holds Try.pinned (OpenSpec.ofChange fixFloorsWrong)

/-- 'fourwatchkeep.FilterPasses': WHATEVER THE INPUT: true; the input reads as it did. -/
def filterPassesSpec : ChangeSpec := { name := "filterPasses", fn := fun _ => fun
  | [d1, d2, d3, d4] => { results := [.lit (.bool true)], args := [d1, d2, d3, d4] }
  | _ => none }
def filterPassesRow : OpenClaim := { program := "ytflaanfmanileaa", sum := "84bb4f0483c30c99e186fa16950a7b533b6598f074754fec6d29253ddfa7be6f", func := "fourwatch/fourwatchkeep.FilterPasses", spec := "filterPasses", inPlace := ["math/bits.Add64"], named := ["math/bits.divideError", "math/bits.overflowError"], apart := false }
def FilterPassesSaid : Prop := filterPassesRow.holds Try.pinned (OpenSpec.ofChange filterPassesSpec)

/-- ITS FALSE NEIGHBOUR: 'it returns false'. Refute it at one input. -/
def filterPassesWrong : ChangeSpec := { name := "filterPasses", fn := fun _ => fun
  | [d1, d2, d3, d4] => { results := [.lit (.bool false)], args := [d1, d2, d3, d4] }
  | _ => none }
def FilterPassesWrongFalsely : Prop := filterPassesRow.holds Try.pinned (OpenSpec.ofChange filterPassesWrong)

/-- 'fourwatchkeep.FilterStill': WHATEVER THE INPUT: true; the input reads as it did. -/
def filterStillSpec : ChangeSpec := { name := "filterStill", fn := fun _ => fun
  | [d1, d2] => { results := [.lit (.bool true)], args := [d1, d2] }
  | _ => none }
def filterStillRow : OpenClaim := { program := "ytflaanfmanileaa", sum := "84bb4f0483c30c99e186fa16950a7b533b6598f074754fec6d29253ddfa7be6f", func := "fourwatch/fourwatchkeep.FilterStill", spec := "filterStill", inPlace := ["math/bits.Add64"], named := ["math/bits.divideError", "math/bits.overflowError"], apart := false }
def FilterStillSaid : Prop := filterStillRow.holds Try.pinned (OpenSpec.ofChange filterStillSpec)

/-- ITS FALSE NEIGHBOUR: 'it returns false'. Refute it at one input. -/
def filterStillWrong : ChangeSpec := { name := "filterStill", fn := fun _ => fun
  | [d1, d2] => { results := [.lit (.bool false)], args := [d1, d2] }
  | _ => none }
def FilterStillWrongFalsely : Prop := filterStillRow.holds Try.pinned (OpenSpec.ofChange filterStillWrong)

/-- 'fourwatchkeep.FilterCut': WHATEVER THE INPUT: true; the input reads as it did. -/
def filterCutSpec : ChangeSpec := { name := "filterCut", fn := fun _ => fun
  | [d1, d2, d3, d4] => { results := [.lit (.bool true)], args := [d1, d2, d3, d4] }
  | _ => none }
def filterCutRow : OpenClaim := { program := "ytflaanfmanileaa", sum := "84bb4f0483c30c99e186fa16950a7b533b6598f074754fec6d29253ddfa7be6f", func := "fourwatch/fourwatchkeep.FilterCut", spec := "filterCut", inPlace := ["math/bits.Add64"], named := ["math/bits.divideError", "math/bits.overflowError"], apart := false }
def FilterCutSaid : Prop := filterCutRow.holds Try.pinned (OpenSpec.ofChange filterCutSpec)

/-- ITS FALSE NEIGHBOUR: 'it returns false'. Refute it at one input. -/
def filterCutWrong : ChangeSpec := { name := "filterCut", fn := fun _ => fun
  | [d1, d2, d3, d4] => { results := [.lit (.bool false)], args := [d1, d2, d3, d4] }
  | _ => none }
def FilterCutWrongFalsely : Prop := filterCutRow.holds Try.pinned (OpenSpec.ofChange filterCutWrong)

/-- 'fourwatchkeep.FilterBent': WHATEVER THE INPUT: true; the input reads as it did. -/
def filterBentSpec : ChangeSpec := { name := "filterBent", fn := fun _ => fun
  | [d1, d2, d3] => { results := [.lit (.bool true)], args := [d1, d2, d3] }
  | _ => none }
def filterBentRow : OpenClaim := { program := "ytflaanfmanileaa", sum := "84bb4f0483c30c99e186fa16950a7b533b6598f074754fec6d29253ddfa7be6f", func := "fourwatch/fourwatchkeep.FilterBent", spec := "filterBent", inPlace := ["math/bits.Add64"], named := ["math/bits.divideError", "math/bits.overflowError"], apart := false }
def FilterBentSaid : Prop := filterBentRow.holds Try.pinned (OpenSpec.ofChange filterBentSpec)

/-- ITS FALSE NEIGHBOUR: 'it returns false'. Refute it at one input. -/
def filterBentWrong : ChangeSpec := { name := "filterBent", fn := fun _ => fun
  | [d1, d2, d3] => { results := [.lit (.bool false)], args := [d1, d2, d3] }
  | _ => none }
def FilterBentWrongFalsely : Prop := filterBentRow.holds Try.pinned (OpenSpec.ofChange filterBentWrong)

/-- 'fourwatchkeep.MatFactored': WHATEVER THE INPUT: true; the input reads as it did. -/
def matFactoredSpec : ChangeSpec := { name := "matFactored", fn := fun _ => fun
  | [d] => { results := [.lit (.bool true)], args := [d] }
  | _ => none }
def matFactoredRow : OpenClaim := { program := "ytflaanfmanileaa", sum := "84bb4f0483c30c99e186fa16950a7b533b6598f074754fec6d29253ddfa7be6f", func := "fourwatch/fourwatchkeep.MatFactored", spec := "matFactored", inPlace := ["math/bits.Add64"], named := ["math/bits.divideError", "math/bits.overflowError"], apart := false }
def MatFactoredSaid : Prop := matFactoredRow.holds Try.pinned (OpenSpec.ofChange matFactoredSpec)

/-- ITS FALSE NEIGHBOUR: 'it returns false'. Refute it at one input. -/
def matFactoredWrong : ChangeSpec := { name := "matFactored", fn := fun _ => fun
  | [d] => { results := [.lit (.bool false)], args := [d] }
  | _ => none }
def MatFactoredWrongFalsely : Prop := matFactoredRow.holds Try.pinned (OpenSpec.ofChange matFactoredWrong)

/-- 'fourwatchkeep.MatDiagonal': WHATEVER THE INPUT: true; the input reads as it did. -/
def matDiagonalSpec : ChangeSpec := { name := "matDiagonal", fn := fun _ => fun
  | [d1, d2] => { results := [.lit (.bool true)], args := [d1, d2] }
  | _ => none }
def matDiagonalRow : OpenClaim := { program := "ytflaanfmanileaa", sum := "84bb4f0483c30c99e186fa16950a7b533b6598f074754fec6d29253ddfa7be6f", func := "fourwatch/fourwatchkeep.MatDiagonal", spec := "matDiagonal", inPlace := ["math/bits.Add64"], named := ["math/bits.divideError", "math/bits.overflowError"], apart := false }
def MatDiagonalSaid : Prop := matDiagonalRow.holds Try.pinned (OpenSpec.ofChange matDiagonalSpec)

/-- ITS FALSE NEIGHBOUR: 'it returns false'. Refute it at one input. -/
def matDiagonalWrong : ChangeSpec := { name := "matDiagonal", fn := fun _ => fun
  | [d1, d2] => { results := [.lit (.bool false)], args := [d1, d2] }
  | _ => none }
def MatDiagonalWrongFalsely : Prop := matDiagonalRow.holds Try.pinned (OpenSpec.ofChange matDiagonalWrong)

/-- 'fourwatchkeep.FixBack': WHATEVER THE INPUT: true; the input reads as it did. -/
def fixBackSpec : ChangeSpec := { name := "fixBack", fn := fun _ => fun
  | [d] => { results := [.lit (.bool true)], args := [d] }
  | _ => none }
def fixBackRow : OpenClaim := { program := "ytflaanfmanileaa", sum := "84bb4f0483c30c99e186fa16950a7b533b6598f074754fec6d29253ddfa7be6f", func := "fourwatch/fourwatchkeep.FixBack", spec := "fixBack", inPlace := ["math/bits.Add64"], unfollowed := true, recurses := true, named := ["math/bits.divideError", "math/bits.overflowError"], apart := false }
def FixBackSaid : Prop := fixBackRow.holds Try.pinned (OpenSpec.ofChange fixBackSpec)

/-- ITS FALSE NEIGHBOUR: 'it returns false'. Refute it at one input. -/
def fixBackWrong : ChangeSpec := { name := "fixBack", fn := fun _ => fun
  | [d] => { results := [.lit (.bool false)], args := [d] }
  | _ => none }
def FixBackWrongFalsely : Prop := fixBackRow.holds Try.pinned (OpenSpec.ofChange fixBackWrong)

/-- 'fourwatchkeep.MatMemory': WHATEVER THE INPUT: true; the input reads as it did. -/
def matMemorySpec : ChangeSpec := { name := "matMemory", fn := fun _ => fun
  | [d1, d2] => { results := [.lit (.bool true)], args := [d1, d2] }
  | _ => none }
def matMemoryRow : OpenClaim := { program := "ytflaanfmanileaa", sum := "84bb4f0483c30c99e186fa16950a7b533b6598f074754fec6d29253ddfa7be6f", func := "fourwatch/fourwatchkeep.MatMemory", spec := "matMemory", inPlace := ["math/bits.Add64"], named := ["math/bits.divideError", "math/bits.overflowError"], apart := false }
def MatMemorySaid : Prop := matMemoryRow.holds Try.pinned (OpenSpec.ofChange matMemorySpec)

/-- ITS FALSE NEIGHBOUR: 'it returns false'. Refute it at one input. -/
def matMemoryWrong : ChangeSpec := { name := "matMemory", fn := fun _ => fun
  | [d1, d2] => { results := [.lit (.bool false)], args := [d1, d2] }
  | _ => none }
def MatMemoryWrongFalsely : Prop := matMemoryRow.holds Try.pinned (OpenSpec.ofChange matMemoryWrong)

/- THE SECOND FORM. 'bulk': how many values and letters a reading holds, each counted each time it is reached (what is shared counts as often as it is met; a slice's spare places count too). A statement '..UptoSaid' is the law's where the arguments, and the package variables that the reading takes, are together of bulk at most 1048576: NARROWER than '..Said'. Prove '..Said' where nothing that the law and all that it calls make is longer than what came in: it says more and counts as full. Else prove '..UptoSaid'. A law counts once. -/
mutual
def uptoBulk {H : Type} : DataW H → Nat
  | .lit (.string bytes) => bytes.length + 1
  | .lit _ => 1
  | .nil => 1
  | .ptr d => uptoBulk d + 1
  | .slice elems spare => uptoBulkAll elems + uptoBulkAll spare + 1
  | .agg parts => uptoBulkAll parts + 1
  | .iface _ d => uptoBulk d + 1
  | .map entries => uptoBulkEntries entries + 1
  | .held _ => 1
def uptoBulkAll {H : Type} : List (DataW H) → Nat
  | [] => 0
  | d :: r => uptoBulk d + uptoBulkAll r
def uptoBulkEntries {H : Type} : List (Lit × DataW H) → Nat
  | [] => 0
  | x :: r => uptoBulkEntry x + uptoBulkEntries r
def uptoBulkEntry {H : Type} : Lit × DataW H → Nat
  | (.string bytes, d) => bytes.length + uptoBulk d + 1
  | (_, d) => uptoBulk d + 1
 end
def uptoSmall : (H : Type) → List (DataW H) → Bool := fun _ ds => decide (uptoBulkAll ds ≤ 1048576)
def OpenSpec.upto (s : _root_.Go.ChangeSpec) : _root_.Go.OpenSpec := { _root_.Go.OpenSpec.ofChange s with cond := some uptoSmall }

/-- 'fourwatchkeep.VecSwaps', WHERE WHAT IT READS IS OF BULK AT MOST 1048576: true; the input reads as it did. -/
def vecSwapsUptoRow : OpenClaim := { program := "ytflaanfmanileaa", sum := "84bb4f0483c30c99e186fa16950a7b533b6598f074754fec6d29253ddfa7be6f", func := "fourwatch/fourwatchkeep.VecSwaps", spec := "vecSwaps", inPlace := ["math/bits.Add64"], unfollowed := true, recurses := true, apart := false, narrowed := true }
def VecSwapsUptoSaid : Prop := vecSwapsUptoRow.holds Try.pinned (OpenSpec.upto vecSwapsSpec)

/-- 'fourwatchkeep.MatUnit', WHERE WHAT IT READS IS OF BULK AT MOST 1048576: true; the input reads as it did. -/
def matUnitUptoRow : OpenClaim := { program := "ytflaanfmanileaa", sum := "84bb4f0483c30c99e186fa16950a7b533b6598f074754fec6d29253ddfa7be6f", func := "fourwatch/fourwatchkeep.MatUnit", spec := "matUnit", inPlace := ["math/bits.Add64"], apart := false, narrowed := true }
def MatUnitUptoSaid : Prop := matUnitUptoRow.holds Try.pinned (OpenSpec.upto matUnitSpec)

/-- 'fourwatchkeep.VecLong', WHERE WHAT IT READS IS OF BULK AT MOST 1048576: true; the input reads as it did. -/
def vecLongUptoRow : OpenClaim := { program := "ytflaanfmanileaa", sum := "84bb4f0483c30c99e186fa16950a7b533b6598f074754fec6d29253ddfa7be6f", func := "fourwatch/fourwatchkeep.VecLong", spec := "vecLong", inPlace := ["math/bits.Add64"], apart := false, narrowed := true }
def VecLongUptoSaid : Prop := vecLongUptoRow.holds Try.pinned (OpenSpec.upto vecLongSpec)

/-- 'fourwatchkeep.MatTurnTwice', WHERE WHAT IT READS IS OF BULK AT MOST 1048576: true; the input reads as it did. -/
def matTurnTwiceUptoRow : OpenClaim := { program := "ytflaanfmanileaa", sum := "84bb4f0483c30c99e186fa16950a7b533b6598f074754fec6d29253ddfa7be6f", func := "fourwatch/fourwatchkeep.MatTurnTwice", spec := "matTurnTwice", inPlace := ["math/bits.Add64"], apart := false, narrowed := true }
def MatTurnTwiceUptoSaid : Prop := matTurnTwiceUptoRow.holds Try.pinned (OpenSpec.upto matTurnTwiceSpec)

/-- 'fourwatchkeep.MatTurnMul', WHERE WHAT IT READS IS OF BULK AT MOST 1048576: true; the input reads as it did. -/
def matTurnMulUptoRow : OpenClaim := { program := "ytflaanfmanileaa", sum := "84bb4f0483c30c99e186fa16950a7b533b6598f074754fec6d29253ddfa7be6f", func := "fourwatch/fourwatchkeep.MatTurnMul", spec := "matTurnMul", inPlace := ["math/bits.Add64"], apart := false, narrowed := true }
def MatTurnMulUptoSaid : Prop := matTurnMulUptoRow.holds Try.pinned (OpenSpec.upto matTurnMulSpec)

/-- 'fourwatchkeep.VecNoughts', WHERE WHAT IT READS IS OF BULK AT MOST 1048576: true; the input reads as it did. -/
def vecNoughtsUptoRow : OpenClaim := { program := "ytflaanfmanileaa", sum := "84bb4f0483c30c99e186fa16950a7b533b6598f074754fec6d29253ddfa7be6f", func := "fourwatch/fourwatchkeep.VecNoughts", spec := "vecNoughts", inPlace := ["math/bits.Add64"], unfollowed := true, recurses := true, apart := false, narrowed := true }
def VecNoughtsUptoSaid : Prop := vecNoughtsUptoRow.holds Try.pinned (OpenSpec.upto vecNoughtsSpec)

/-- 'fourwatchkeep.MatColumns', WHERE WHAT IT READS IS OF BULK AT MOST 1048576: true; the input reads as it did. -/
def matColumnsUptoRow : OpenClaim := { program := "ytflaanfmanileaa", sum := "84bb4f0483c30c99e186fa16950a7b533b6598f074754fec6d29253ddfa7be6f", func := "fourwatch/fourwatchkeep.MatColumns", spec := "matColumns", inPlace := ["math/bits.Add64"], apart := false, narrowed := true }
def MatColumnsUptoSaid : Prop := matColumnsUptoRow.holds Try.pinned (OpenSpec.upto matColumnsSpec)

/-- 'fourwatchkeep.FixOnes', WHERE WHAT IT READS IS OF BULK AT MOST 1048576: true; the input reads as it did. -/
def fixOnesUptoRow : OpenClaim := { program := "ytflaanfmanileaa", sum := "84bb4f0483c30c99e186fa16950a7b533b6598f074754fec6d29253ddfa7be6f", func := "fourwatch/fourwatchkeep.FixOnes", spec := "fixOnes", inPlace := ["math/bits.Add64"], named := ["math/bits.divideError", "math/bits.overflowError"], apart := false, narrowed := true }
def FixOnesUptoSaid : Prop := fixOnesUptoRow.holds Try.pinned (OpenSpec.upto fixOnesSpec)

/-- 'fourwatchkeep.FixRises', WHERE WHAT IT READS IS OF BULK AT MOST 1048576: true; the input reads as it did. -/
def fixRisesUptoRow : OpenClaim := { program := "ytflaanfmanileaa", sum := "84bb4f0483c30c99e186fa16950a7b533b6598f074754fec6d29253ddfa7be6f", func := "fourwatch/fourwatchkeep.FixRises", spec := "fixRises", inPlace := ["math/bits.Add64"], named := ["math/bits.divideError", "math/bits.overflowError"], apart := false, narrowed := true }
def FixRisesUptoSaid : Prop := fixRisesUptoRow.holds Try.pinned (OpenSpec.upto fixRisesSpec)

/-- 'fourwatchkeep.FixExact', WHERE WHAT IT READS IS OF BULK AT MOST 1048576: true; the input reads as it did. -/
def fixExactUptoRow : OpenClaim := { program := "ytflaanfmanileaa", sum := "84bb4f0483c30c99e186fa16950a7b533b6598f074754fec6d29253ddfa7be6f", func := "fourwatch/fourwatchkeep.FixExact", spec := "fixExact", inPlace := ["math/bits.Add64"], named := ["math/bits.divideError", "math/bits.overflowError"], apart := false, narrowed := true }
def FixExactUptoSaid : Prop := fixExactUptoRow.holds Try.pinned (OpenSpec.upto fixExactSpec)

/-- 'fourwatchkeep.FixRootNear', WHERE WHAT IT READS IS OF BULK AT MOST 1048576: true; the input reads as it did. -/
def fixRootNearUptoRow : OpenClaim := { program := "ytflaanfmanileaa", sum := "84bb4f0483c30c99e186fa16950a7b533b6598f074754fec6d29253ddfa7be6f", func := "fourwatch/fourwatchkeep.FixRootNear", spec := "fixRootNear", inPlace := ["math/bits.Add64"], named := ["math/bits.divideError", "math/bits.overflowError"], apart := false, narrowed := true }
def FixRootNearUptoSaid : Prop := fixRootNearUptoRow.holds Try.pinned (OpenSpec.upto fixRootNearSpec)

/-- 'fourwatchkeep.FixOrder', WHERE WHAT IT READS IS OF BULK AT MOST 1048576: true; the input reads as it did. -/
def fixOrderUptoRow : OpenClaim := { program := "ytflaanfmanileaa", sum := "84bb4f0483c30c99e186fa16950a7b533b6598f074754fec6d29253ddfa7be6f", func := "fourwatch/fourwatchkeep.FixOrder", spec := "fixOrder", inPlace := ["math/bits.Add64"], named := ["math/bits.divideError", "math/bits.overflowError"], apart := false, narrowed := true }
def FixOrderUptoSaid : Prop := fixOrderUptoRow.holds Try.pinned (OpenSpec.upto fixOrderSpec)

/-- 'fourwatchkeep.FixSwaps', WHERE WHAT IT READS IS OF BULK AT MOST 1048576: true; the input reads as it did. -/
def fixSwapsUptoRow : OpenClaim := { program := "ytflaanfmanileaa", sum := "84bb4f0483c30c99e186fa16950a7b533b6598f074754fec6d29253ddfa7be6f", func := "fourwatch/fourwatchkeep.FixSwaps", spec := "fixSwaps", inPlace := ["math/bits.Add64"], named := ["math/bits.divideError", "math/bits.overflowError"], apart := false, narrowed := true }
def FixSwapsUptoSaid : Prop := fixSwapsUptoRow.holds Try.pinned (OpenSpec.upto fixSwapsSpec)

/-- 'fourwatchkeep.FixFloors', WHERE WHAT IT READS IS OF BULK AT MOST 1048576: true; the input reads as it did. -/
def fixFloorsUptoRow : OpenClaim := { program := "ytflaanfmanileaa", sum := "84bb4f0483c30c99e186fa16950a7b533b6598f074754fec6d29253ddfa7be6f", func := "fourwatch/fourwatchkeep.FixFloors", spec := "fixFloors", inPlace := ["math/bits.Add64"], named := ["math/bits.divideError", "math/bits.overflowError"], apart := false, narrowed := true }
def FixFloorsUptoSaid : Prop := fixFloorsUptoRow.holds Try.pinned (OpenSpec.upto fixFloorsSpec)

/-- 'fourwatchkeep.FilterPasses', WHERE WHAT IT READS IS OF BULK AT MOST 1048576: true; the input reads as it did. -/
def filterPassesUptoRow : OpenClaim := { program := "ytflaanfmanileaa", sum := "84bb4f0483c30c99e186fa16950a7b533b6598f074754fec6d29253ddfa7be6f", func := "fourwatch/fourwatchkeep.FilterPasses", spec := "filterPasses", inPlace := ["math/bits.Add64"], named := ["math/bits.divideError", "math/bits.overflowError"], apart := false, narrowed := true }
def FilterPassesUptoSaid : Prop := filterPassesUptoRow.holds Try.pinned (OpenSpec.upto filterPassesSpec)

/-- 'fourwatchkeep.FilterStill', WHERE WHAT IT READS IS OF BULK AT MOST 1048576: true; the input reads as it did. -/
def filterStillUptoRow : OpenClaim := { program := "ytflaanfmanileaa", sum := "84bb4f0483c30c99e186fa16950a7b533b6598f074754fec6d29253ddfa7be6f", func := "fourwatch/fourwatchkeep.FilterStill", spec := "filterStill", inPlace := ["math/bits.Add64"], named := ["math/bits.divideError", "math/bits.overflowError"], apart := false, narrowed := true }
def FilterStillUptoSaid : Prop := filterStillUptoRow.holds Try.pinned (OpenSpec.upto filterStillSpec)

/-- 'fourwatchkeep.FilterCut', WHERE WHAT IT READS IS OF BULK AT MOST 1048576: true; the input reads as it did. -/
def filterCutUptoRow : OpenClaim := { program := "ytflaanfmanileaa", sum := "84bb4f0483c30c99e186fa16950a7b533b6598f074754fec6d29253ddfa7be6f", func := "fourwatch/fourwatchkeep.FilterCut", spec := "filterCut", inPlace := ["math/bits.Add64"], named := ["math/bits.divideError", "math/bits.overflowError"], apart := false, narrowed := true }
def FilterCutUptoSaid : Prop := filterCutUptoRow.holds Try.pinned (OpenSpec.upto filterCutSpec)

/-- 'fourwatchkeep.FilterBent', WHERE WHAT IT READS IS OF BULK AT MOST 1048576: true; the input reads as it did. -/
def filterBentUptoRow : OpenClaim := { program := "ytflaanfmanileaa", sum := "84bb4f0483c30c99e186fa16950a7b533b6598f074754fec6d29253ddfa7be6f", func := "fourwatch/fourwatchkeep.FilterBent", spec := "filterBent", inPlace := ["math/bits.Add64"], named := ["math/bits.divideError", "math/bits.overflowError"], apart := false, narrowed := true }
def FilterBentUptoSaid : Prop := filterBentUptoRow.holds Try.pinned (OpenSpec.upto filterBentSpec)

/-- 'fourwatchkeep.MatFactored', WHERE WHAT IT READS IS OF BULK AT MOST 1048576: true; the input reads as it did. -/
def matFactoredUptoRow : OpenClaim := { program := "ytflaanfmanileaa", sum := "84bb4f0483c30c99e186fa16950a7b533b6598f074754fec6d29253ddfa7be6f", func := "fourwatch/fourwatchkeep.MatFactored", spec := "matFactored", inPlace := ["math/bits.Add64"], named := ["math/bits.divideError", "math/bits.overflowError"], apart := false, narrowed := true }
def MatFactoredUptoSaid : Prop := matFactoredUptoRow.holds Try.pinned (OpenSpec.upto matFactoredSpec)

/-- 'fourwatchkeep.MatDiagonal', WHERE WHAT IT READS IS OF BULK AT MOST 1048576: true; the input reads as it did. -/
def matDiagonalUptoRow : OpenClaim := { program := "ytflaanfmanileaa", sum := "84bb4f0483c30c99e186fa16950a7b533b6598f074754fec6d29253ddfa7be6f", func := "fourwatch/fourwatchkeep.MatDiagonal", spec := "matDiagonal", inPlace := ["math/bits.Add64"], named := ["math/bits.divideError", "math/bits.overflowError"], apart := false, narrowed := true }
def MatDiagonalUptoSaid : Prop := matDiagonalUptoRow.holds Try.pinned (OpenSpec.upto matDiagonalSpec)

/-- 'fourwatchkeep.FixBack', WHERE WHAT IT READS IS OF BULK AT MOST 1048576: true; the input reads as it did. -/
def fixBackUptoRow : OpenClaim := { program := "ytflaanfmanileaa", sum := "84bb4f0483c30c99e186fa16950a7b533b6598f074754fec6d29253ddfa7be6f", func := "fourwatch/fourwatchkeep.FixBack", spec := "fixBack", inPlace := ["math/bits.Add64"], unfollowed := true, recurses := true, named := ["math/bits.divideError", "math/bits.overflowError"], apart := false, narrowed := true }
def FixBackUptoSaid : Prop := fixBackUptoRow.holds Try.pinned (OpenSpec.upto fixBackSpec)

/-- 'fourwatchkeep.MatMemory', WHERE WHAT IT READS IS OF BULK AT MOST 1048576: true; the input reads as it did. -/
def matMemoryUptoRow : OpenClaim := { program := "ytflaanfmanileaa", sum := "84bb4f0483c30c99e186fa16950a7b533b6598f074754fec6d29253ddfa7be6f", func := "fourwatch/fourwatchkeep.MatMemory", spec := "matMemory", inPlace := ["math/bits.Add64"], named := ["math/bits.divideError", "math/bits.overflowError"], apart := false, narrowed := true }
def MatMemoryUptoSaid : Prop := matMemoryUptoRow.holds Try.pinned (OpenSpec.upto matMemorySpec)

end Rows
end Go.Proofs.Ytflaanfmanileaa

/-
  No cell of these rows narrows 'for every input' (looked for: loops, veiled, ifaces, maps, wideKeys, modest, calm, conditions, laid).
  DERIVED. THE GIVEN ROWS OF THIS SEAT. 11 by the template 'for every input the law returns true; each argument reads behind the call as it read before'; 0 by the template 'total and deterministic' (their statements: YtaobnddnefabeaaTotals.lean).
  GIVEN WITH THE SEED: the statements are not yours to turn. If you find one false, say at which input.
  Laid BY PROGRAM, IN A SANDBOX (cutbox-rows.mjs): the forced cells as the released guide's own fill.sh prints them over the translation aac3de22c1d0881d… (all of the seat's roots in one cut). By AI agents, Wed Nov 11 2026. No macro, syntax, notation, axiom, sorry.
-/
import Derived.Test.YtaobnddnefabeaaChecked
import GoSem.Claim
import GoSem.ClaimJoined
import GoSem.ClaimMapViews
import Derived.JoinedTies
import Derived.KernelRfl
namespace Go.Proofs.Ytaobnddnefabeaa
/- THE CELL 'sum', in the pinned program and in every row, IS THE sha256 OF THE DUMP (.gsa) THAT YtaobnddnefabeaaProg.lean LOADS. Nothing in Lean hashes anything: it is a label: what it is worth is what the hold of that sum in a sandbox is worth. -/
noncomputable def Try.pinned : Pinned := { name := "ytaobnddnefabeaa", sum := "aac3de22c1d0881d143508632580f68dbc222aaba5d6be9799ba8772b84914ef", checked := Try.checked }
namespace Rows
def none {H : Type} : Left H := { results := [], args := [] }

/-- 'fourwatchkeep.BusKeeps': WHATEVER THE INPUT: true; the input reads as it did. -/
def busKeepsSpec : ChangeSpec := { name := "busKeeps", fn := fun _ => fun
  | [d1, d2, d3] => { results := [.lit (.bool true)], args := [d1, d2, d3] }
  | _ => none }
def busKeepsRow : OpenClaim := { program := "ytaobnddnefabeaa", sum := "aac3de22c1d0881d143508632580f68dbc222aaba5d6be9799ba8772b84914ef", func := "fourwatch/fourwatchkeep.BusKeeps", spec := "busKeeps", unfollowed := true, recurses := true, apart := false }
def BusKeepsSaid : Prop := busKeepsRow.holds Try.pinned (OpenSpec.ofChange busKeepsSpec)

/-- ITS FALSE NEIGHBOUR: 'it returns false'. Refute it at one input. -/
def busKeepsWrong : ChangeSpec := { name := "busKeeps", fn := fun _ => fun
  | [d1, d2, d3] => { results := [.lit (.bool false)], args := [d1, d2, d3] }
  | _ => none }
def BusKeepsWrongFalsely : Prop := busKeepsRow.holds Try.pinned (OpenSpec.ofChange busKeepsWrong)

/-- 'fourwatchkeep.BusLinks': WHATEVER THE INPUT: true; the input reads as it did. -/
def busLinksSpec : ChangeSpec := { name := "busLinks", fn := fun _ => fun
  | [d1, d2] => { results := [.lit (.bool true)], args := [d1, d2] }
  | _ => none }
def busLinksRow : OpenClaim := { program := "ytaobnddnefabeaa", sum := "aac3de22c1d0881d143508632580f68dbc222aaba5d6be9799ba8772b84914ef", func := "fourwatch/fourwatchkeep.BusLinks", spec := "busLinks", unfollowed := true, recurses := true, apart := false }
def BusLinksSaid : Prop := busLinksRow.holds Try.pinned (OpenSpec.ofChange busLinksSpec)

/-- ITS FALSE NEIGHBOUR: 'it returns false'. Refute it at one input. -/
def busLinksWrong : ChangeSpec := { name := "busLinks", fn := fun _ => fun
  | [d1, d2] => { results := [.lit (.bool false)], args := [d1, d2] }
  | _ => none }
def BusLinksWrongFalsely : Prop := busLinksRow.holds Try.pinned (OpenSpec.ofChange busLinksWrong)

/-- 'fourwatchkeep.BusTwice': WHATEVER THE INPUT: true; the input reads as it did. -/
def busTwiceSpec : ChangeSpec := { name := "busTwice", fn := fun _ => fun
  | [d1, d2, d3, d4] => { results := [.lit (.bool true)], args := [d1, d2, d3, d4] }
  | _ => none }
def busTwiceRow : OpenClaim := { program := "ytaobnddnefabeaa", sum := "aac3de22c1d0881d143508632580f68dbc222aaba5d6be9799ba8772b84914ef", func := "fourwatch/fourwatchkeep.BusTwice", spec := "busTwice", unfollowed := true, recurses := true, apart := false }
def BusTwiceSaid : Prop := busTwiceRow.holds Try.pinned (OpenSpec.ofChange busTwiceSpec)

/-- ITS FALSE NEIGHBOUR: 'it returns false'. Refute it at one input. -/
def busTwiceWrong : ChangeSpec := { name := "busTwice", fn := fun _ => fun
  | [d1, d2, d3, d4] => { results := [.lit (.bool false)], args := [d1, d2, d3, d4] }
  | _ => none }
def BusTwiceWrongFalsely : Prop := busTwiceRow.holds Try.pinned (OpenSpec.ofChange busTwiceWrong)

/-- 'fourwatchkeep.BusMemory': WHATEVER THE INPUT: true; the input reads as it did. -/
def busMemorySpec : ChangeSpec := { name := "busMemory", fn := fun _ => fun
  | [d1, d2, d3, d4] => { results := [.lit (.bool true)], args := [d1, d2, d3, d4] }
  | _ => none }
def busMemoryRow : OpenClaim := { program := "ytaobnddnefabeaa", sum := "aac3de22c1d0881d143508632580f68dbc222aaba5d6be9799ba8772b84914ef", func := "fourwatch/fourwatchkeep.BusMemory", spec := "busMemory", unfollowed := true, recurses := true, apart := false }
def BusMemorySaid : Prop := busMemoryRow.holds Try.pinned (OpenSpec.ofChange busMemorySpec)

/-- ITS FALSE NEIGHBOUR: 'it returns false'. Refute it at one input. -/
def busMemoryWrong : ChangeSpec := { name := "busMemory", fn := fun _ => fun
  | [d1, d2, d3, d4] => { results := [.lit (.bool false)], args := [d1, d2, d3, d4] }
  | _ => none }
def BusMemoryWrongFalsely : Prop := busMemoryRow.holds Try.pinned (OpenSpec.ofChange busMemoryWrong)

/-- 'fourwatchkeep.MiddleWithin': WHATEVER THE INPUT: true; the input reads as it did. -/
def middleWithinSpec : ChangeSpec := { name := "middleWithin", fn := fun _ => fun
  | [d] => { results := [.lit (.bool true)], args := [d] }
  | _ => none }
def middleWithinRow : OpenClaim := { program := "ytaobnddnefabeaa", sum := "aac3de22c1d0881d143508632580f68dbc222aaba5d6be9799ba8772b84914ef", func := "fourwatch/fourwatchkeep.MiddleWithin", spec := "middleWithin", unfollowed := true, recurses := true, apart := false }
def MiddleWithinSaid : Prop := middleWithinRow.holds Try.pinned (OpenSpec.ofChange middleWithinSpec)

/-- ITS FALSE NEIGHBOUR: 'it returns false'. Refute it at one input. -/
def middleWithinWrong : ChangeSpec := { name := "middleWithin", fn := fun _ => fun
  | [d] => { results := [.lit (.bool false)], args := [d] }
  | _ => none }
def MiddleWithinWrongFalsely : Prop := middleWithinRow.holds Try.pinned (OpenSpec.ofChange middleWithinWrong)

/-- 'fourwatchkeep.MiddleGuards': WHATEVER THE INPUT: true; the input reads as it did. -/
def middleGuardsSpec : ChangeSpec := { name := "middleGuards", fn := fun _ => fun
  | [d1, d2] => { results := [.lit (.bool true)], args := [d1, d2] }
  | _ => none }
def middleGuardsRow : OpenClaim := { program := "ytaobnddnefabeaa", sum := "aac3de22c1d0881d143508632580f68dbc222aaba5d6be9799ba8772b84914ef", func := "fourwatch/fourwatchkeep.MiddleGuards", spec := "middleGuards", unfollowed := true, recurses := true, apart := false }
def MiddleGuardsSaid : Prop := middleGuardsRow.holds Try.pinned (OpenSpec.ofChange middleGuardsSpec)

/-- ITS FALSE NEIGHBOUR: 'it returns false'. Refute it at one input. -/
def middleGuardsWrong : ChangeSpec := { name := "middleGuards", fn := fun _ => fun
  | [d1, d2] => { results := [.lit (.bool false)], args := [d1, d2] }
  | _ => none }
def MiddleGuardsWrongFalsely : Prop := middleGuardsRow.holds Try.pinned (OpenSpec.ofChange middleGuardsWrong)

/-- 'fourwatchkeep.MiddleOrder': WHATEVER THE INPUT: true; the input reads as it did. -/
def middleOrderSpec : ChangeSpec := { name := "middleOrder", fn := fun _ => fun
  | [d1, d2] => { results := [.lit (.bool true)], args := [d1, d2] }
  | _ => none }
def middleOrderRow : OpenClaim := { program := "ytaobnddnefabeaa", sum := "aac3de22c1d0881d143508632580f68dbc222aaba5d6be9799ba8772b84914ef", func := "fourwatch/fourwatchkeep.MiddleOrder", spec := "middleOrder", unfollowed := true, recurses := true, apart := false }
def MiddleOrderSaid : Prop := middleOrderRow.holds Try.pinned (OpenSpec.ofChange middleOrderSpec)

/-- ITS FALSE NEIGHBOUR: 'it returns false'. Refute it at one input. -/
def middleOrderWrong : ChangeSpec := { name := "middleOrder", fn := fun _ => fun
  | [d1, d2] => { results := [.lit (.bool false)], args := [d1, d2] }
  | _ => none }
def MiddleOrderWrongFalsely : Prop := middleOrderRow.holds Try.pinned (OpenSpec.ofChange middleOrderWrong)

/-- 'fourwatchkeep.MiddleMoves': WHATEVER THE INPUT: true; the input reads as it did. -/
def middleMovesSpec : ChangeSpec := { name := "middleMoves", fn := fun _ => fun
  | [d1, d2] => { results := [.lit (.bool true)], args := [d1, d2] }
  | _ => none }
def middleMovesRow : OpenClaim := { program := "ytaobnddnefabeaa", sum := "aac3de22c1d0881d143508632580f68dbc222aaba5d6be9799ba8772b84914ef", func := "fourwatch/fourwatchkeep.MiddleMoves", spec := "middleMoves", unfollowed := true, recurses := true, apart := false }
def MiddleMovesSaid : Prop := middleMovesRow.holds Try.pinned (OpenSpec.ofChange middleMovesSpec)

/-- ITS FALSE NEIGHBOUR: 'it returns false'. Refute it at one input. -/
def middleMovesWrong : ChangeSpec := { name := "middleMoves", fn := fun _ => fun
  | [d1, d2] => { results := [.lit (.bool false)], args := [d1, d2] }
  | _ => none }
def MiddleMovesWrongFalsely : Prop := middleMovesRow.holds Try.pinned (OpenSpec.ofChange middleMovesWrong)

/-- 'fourwatchkeep.MiddleHalves': WHATEVER THE INPUT: true; the input reads as it did. -/
def middleHalvesSpec : ChangeSpec := { name := "middleHalves", fn := fun _ => fun
  | [d1, d2, d3] => { results := [.lit (.bool true)], args := [d1, d2, d3] }
  | _ => none }
def middleHalvesRow : OpenClaim := { program := "ytaobnddnefabeaa", sum := "aac3de22c1d0881d143508632580f68dbc222aaba5d6be9799ba8772b84914ef", func := "fourwatch/fourwatchkeep.MiddleHalves", spec := "middleHalves", unfollowed := true, recurses := true, apart := false }
def MiddleHalvesSaid : Prop := middleHalvesRow.holds Try.pinned (OpenSpec.ofChange middleHalvesSpec)

/-- ITS FALSE NEIGHBOUR: 'it returns false'. Refute it at one input. -/
def middleHalvesWrong : ChangeSpec := { name := "middleHalves", fn := fun _ => fun
  | [d1, d2, d3] => { results := [.lit (.bool false)], args := [d1, d2, d3] }
  | _ => none }
def MiddleHalvesWrongFalsely : Prop := middleHalvesRow.holds Try.pinned (OpenSpec.ofChange middleHalvesWrong)

/-- 'fourwatchkeep.ClockMemory': WHATEVER THE INPUT: true; the input reads as it did. -/
def clockMemorySpec : ChangeSpec := { name := "clockMemory", fn := fun _ => fun
  | [d] => { results := [.lit (.bool true)], args := [d] }
  | _ => none }
def clockMemoryRow : OpenClaim := { program := "ytaobnddnefabeaa", sum := "aac3de22c1d0881d143508632580f68dbc222aaba5d6be9799ba8772b84914ef", func := "fourwatch/fourwatchkeep.ClockMemory", spec := "clockMemory", unfollowed := true, recurses := true, apart := false }
def ClockMemorySaid : Prop := clockMemoryRow.holds Try.pinned (OpenSpec.ofChange clockMemorySpec)

/-- ITS FALSE NEIGHBOUR: 'it returns false'. Refute it at one input. -/
def clockMemoryWrong : ChangeSpec := { name := "clockMemory", fn := fun _ => fun
  | [d] => { results := [.lit (.bool false)], args := [d] }
  | _ => none }
def ClockMemoryWrongFalsely : Prop := clockMemoryRow.holds Try.pinned (OpenSpec.ofChange clockMemoryWrong)

/-- 'fourwatchkeep.RoundHalves': WHATEVER THE INPUT: true; the input reads as it did. -/
def roundHalvesSpec : ChangeSpec := { name := "roundHalves", fn := fun _ => fun
  | [d1, d2, d3] => { results := [.lit (.bool true)], args := [d1, d2, d3] }
  | _ => none }
def roundHalvesRow : OpenClaim := { program := "ytaobnddnefabeaa", sum := "aac3de22c1d0881d143508632580f68dbc222aaba5d6be9799ba8772b84914ef", func := "fourwatch/fourwatchkeep.RoundHalves", spec := "roundHalves", unfollowed := true, recurses := true, apart := false }
def RoundHalvesSaid : Prop := roundHalvesRow.holds Try.pinned (OpenSpec.ofChange roundHalvesSpec)

/-- ITS FALSE NEIGHBOUR: 'it returns false'. Refute it at one input. -/
def roundHalvesWrong : ChangeSpec := { name := "roundHalves", fn := fun _ => fun
  | [d1, d2, d3] => { results := [.lit (.bool false)], args := [d1, d2, d3] }
  | _ => none }
def RoundHalvesWrongFalsely : Prop := roundHalvesRow.holds Try.pinned (OpenSpec.ofChange roundHalvesWrong)

/- THE SECOND FORM. 'bulk': how many values and letters a reading holds, each counted each time it is reached (what is shared counts as often as it is met; a slice's spare places count too). A statement '..UptoSaid' is the law's where the arguments, and the package variables that the reading takes, are together of bulk at most 1048576: NARROWER than '..Said'. Prove '..Said' where nothing that the law and all that it calls make is longer than what came in: it says more and counts as full. Else prove '..UptoSaid'. A law counts once. -/
mutual
def uptoBulk {H : Type} : DataW H → Nat
  | .lit (.string bytes) => bytes.length + 1
  | .lit _ => 1
  | .nil => 1
  | .ptr d => uptoBulk d + 1
  | .slice elems spare => uptoBulkAll elems + uptoBulkAll spare + 1
  | .agg parts => uptoBulkAll parts + 1
  | .iface _ d => uptoBulk d + 1
  | .map entries => uptoBulkEntries entries + 1
  | .held _ => 1
def uptoBulkAll {H : Type} : List (DataW H) → Nat
  | [] => 0
  | d :: r => uptoBulk d + uptoBulkAll r
def uptoBulkEntries {H : Type} : List (Lit × DataW H) → Nat
  | [] => 0
  | x :: r => uptoBulkEntry x + uptoBulkEntries r
def uptoBulkEntry {H : Type} : Lit × DataW H → Nat
  | (.string bytes, d) => bytes.length + uptoBulk d + 1
  | (_, d) => uptoBulk d + 1
 end
def uptoSmall : (H : Type) → List (DataW H) → Bool := fun _ ds => decide (uptoBulkAll ds ≤ 1048576)
def OpenSpec.upto (s : _root_.Go.ChangeSpec) : _root_.Go.OpenSpec := { _root_.Go.OpenSpec.ofChange s with cond := some uptoSmall }

/-- 'fourwatchkeep.BusKeeps', WHERE WHAT IT READS IS OF BULK AT MOST 1048576: true; the input reads as it did. -/
def busKeepsUptoRow : OpenClaim := { program := "ytaobnddnefabeaa", sum := "aac3de22c1d0881d143508632580f68dbc222aaba5d6be9799ba8772b84914ef", func := "fourwatch/fourwatchkeep.BusKeeps", spec := "busKeeps", unfollowed := true, recurses := true, apart := false, narrowed := true }
def BusKeepsUptoSaid : Prop := busKeepsUptoRow.holds Try.pinned (OpenSpec.upto busKeepsSpec)

/-- 'fourwatchkeep.BusLinks', WHERE WHAT IT READS IS OF BULK AT MOST 1048576: true; the input reads as it did. -/
def busLinksUptoRow : OpenClaim := { program := "ytaobnddnefabeaa", sum := "aac3de22c1d0881d143508632580f68dbc222aaba5d6be9799ba8772b84914ef", func := "fourwatch/fourwatchkeep.BusLinks", spec := "busLinks", unfollowed := true, recurses := true, apart := false, narrowed := true }
def BusLinksUptoSaid : Prop := busLinksUptoRow.holds Try.pinned (OpenSpec.upto busLinksSpec)

/-- 'fourwatchkeep.BusTwice', WHERE WHAT IT READS IS OF BULK AT MOST 1048576: true; the input reads as it did. -/
def busTwiceUptoRow : OpenClaim := { program := "ytaobnddnefabeaa", sum := "aac3de22c1d0881d143508632580f68dbc222aaba5d6be9799ba8772b84914ef", func := "fourwatch/fourwatchkeep.BusTwice", spec := "busTwice", unfollowed := true, recurses := true, apart := false, narrowed := true }
def BusTwiceUptoSaid : Prop := busTwiceUptoRow.holds Try.pinned (OpenSpec.upto busTwiceSpec)

/-- 'fourwatchkeep.BusMemory', WHERE WHAT IT READS IS OF BULK AT MOST 1048576: true; the input reads as it did. -/
def busMemoryUptoRow : OpenClaim := { program := "ytaobnddnefabeaa", sum := "aac3de22c1d0881d143508632580f68dbc222aaba5d6be9799ba8772b84914ef", func := "fourwatch/fourwatchkeep.BusMemory", spec := "busMemory", unfollowed := true, recurses := true, apart := false, narrowed := true }
def BusMemoryUptoSaid : Prop := busMemoryUptoRow.holds Try.pinned (OpenSpec.upto busMemorySpec)

/-- 'fourwatchkeep.MiddleWithin', WHERE WHAT IT READS IS OF BULK AT MOST 1048576: true; the input reads as it did. -/
def middleWithinUptoRow : OpenClaim := { program := "ytaobnddnefabeaa", sum := "aac3de22c1d0881d143508632580f68dbc222aaba5d6be9799ba8772b84914ef", func := "fourwatch/fourwatchkeep.MiddleWithin", spec := "middleWithin", unfollowed := true, recurses := true, apart := false, narrowed := true }
def MiddleWithinUptoSaid : Prop := middleWithinUptoRow.holds Try.pinned (OpenSpec.upto middleWithinSpec)

/-- 'fourwatchkeep.MiddleGuards', WHERE WHAT IT READS IS OF BULK AT MOST 1048576: true; the input reads as it did. -/
def middleGuardsUptoRow : OpenClaim := { program := "ytaobnddnefabeaa", sum := "aac3de22c1d0881d143508632580f68dbc222aaba5d6be9799ba8772b84914ef", func := "fourwatch/fourwatchkeep.MiddleGuards", spec := "middleGuards", unfollowed := true, recurses := true, apart := false, narrowed := true }
def MiddleGuardsUptoSaid : Prop := middleGuardsUptoRow.holds Try.pinned (OpenSpec.upto middleGuardsSpec)

/-- 'fourwatchkeep.MiddleOrder', WHERE WHAT IT READS IS OF BULK AT MOST 1048576: true; the input reads as it did. -/
def middleOrderUptoRow : OpenClaim := { program := "ytaobnddnefabeaa", sum := "aac3de22c1d0881d143508632580f68dbc222aaba5d6be9799ba8772b84914ef", func := "fourwatch/fourwatchkeep.MiddleOrder", spec := "middleOrder", unfollowed := true, recurses := true, apart := false, narrowed := true }
def MiddleOrderUptoSaid : Prop := middleOrderUptoRow.holds Try.pinned (OpenSpec.upto middleOrderSpec)

/-- 'fourwatchkeep.MiddleMoves', WHERE WHAT IT READS IS OF BULK AT MOST 1048576: true; the input reads as it did. -/
def middleMovesUptoRow : OpenClaim := { program := "ytaobnddnefabeaa", sum := "aac3de22c1d0881d143508632580f68dbc222aaba5d6be9799ba8772b84914ef", func := "fourwatch/fourwatchkeep.MiddleMoves", spec := "middleMoves", unfollowed := true, recurses := true, apart := false, narrowed := true }
def MiddleMovesUptoSaid : Prop := middleMovesUptoRow.holds Try.pinned (OpenSpec.upto middleMovesSpec)

/-- 'fourwatchkeep.MiddleHalves', WHERE WHAT IT READS IS OF BULK AT MOST 1048576: true; the input reads as it did. -/
def middleHalvesUptoRow : OpenClaim := { program := "ytaobnddnefabeaa", sum := "aac3de22c1d0881d143508632580f68dbc222aaba5d6be9799ba8772b84914ef", func := "fourwatch/fourwatchkeep.MiddleHalves", spec := "middleHalves", unfollowed := true, recurses := true, apart := false, narrowed := true }
def MiddleHalvesUptoSaid : Prop := middleHalvesUptoRow.holds Try.pinned (OpenSpec.upto middleHalvesSpec)

/-- 'fourwatchkeep.ClockMemory', WHERE WHAT IT READS IS OF BULK AT MOST 1048576: true; the input reads as it did. -/
def clockMemoryUptoRow : OpenClaim := { program := "ytaobnddnefabeaa", sum := "aac3de22c1d0881d143508632580f68dbc222aaba5d6be9799ba8772b84914ef", func := "fourwatch/fourwatchkeep.ClockMemory", spec := "clockMemory", unfollowed := true, recurses := true, apart := false, narrowed := true }
def ClockMemoryUptoSaid : Prop := clockMemoryUptoRow.holds Try.pinned (OpenSpec.upto clockMemorySpec)

/-- 'fourwatchkeep.RoundHalves', WHERE WHAT IT READS IS OF BULK AT MOST 1048576: true; the input reads as it did. -/
def roundHalvesUptoRow : OpenClaim := { program := "ytaobnddnefabeaa", sum := "aac3de22c1d0881d143508632580f68dbc222aaba5d6be9799ba8772b84914ef", func := "fourwatch/fourwatchkeep.RoundHalves", spec := "roundHalves", unfollowed := true, recurses := true, apart := false, narrowed := true }
def RoundHalvesUptoSaid : Prop := roundHalvesUptoRow.holds Try.pinned (OpenSpec.upto roundHalvesSpec)

end Rows
end Go.Proofs.Ytaobnddnefabeaa

/-
  No cell of these rows narrows 'for every input' (looked for: loops, veiled, ifaces, maps, wideKeys, modest, calm, conditions, laid).
  DERIVED. THE GIVEN ROWS OF THIS SEAT. 7 by the template 'for every input the law returns true; each argument reads behind the call as it read before'; 0 by the template 'total and deterministic' (their statements: YtofeoeknmlkjgaaTotals.lean).
  GIVEN WITH THE SEED: the statements are not yours to turn. If you find one false, say at which input.
  Laid BY PROGRAM, IN A SANDBOX (cutbox-rows.mjs): the forced cells as the released guide's own fill.sh prints them over the translation c1409e848b9e60fa… (all of the seat's roots in one cut). By AI agents, Wed Nov 11 2026. No macro, syntax, notation, axiom, sorry.
-/
import Derived.Test.YtofeoeknmlkjgaaChecked
import GoSem.Claim
import GoSem.ClaimJoined
import GoSem.ClaimMapViews
import Derived.JoinedTies
import Derived.KernelRfl
namespace Go.Proofs.Ytofeoeknmlkjgaa
/- THE CELL 'sum', in the pinned program and in every row, IS THE sha256 OF THE DUMP (.gsa) THAT YtofeoeknmlkjgaaProg.lean LOADS. Nothing in Lean hashes anything: it is a label: what it is worth is what the hold of that sum in a sandbox is worth. -/
noncomputable def Try.pinned : Pinned := { name := "ytofeoeknmlkjgaa", sum := "c1409e848b9e60fa7382fb83f48411373287f3b7909ae0b7c750b82feab740fb", checked := Try.checked }
namespace Rows
def none {H : Type} : Left H := { results := [], args := [] }

/-- 'fourwatchtop.TopTrue': WHATEVER THE INPUT: true; the input reads as it did. -/
def topTrueSpec : ChangeSpec := { name := "topTrue", fn := fun _ => fun
  | [d1, d2, d3] => { results := [.lit (.bool true)], args := [d1, d2, d3] }
  | _ => none }
def topTrueRow : OpenClaim := { program := "ytofeoeknmlkjgaa", sum := "c1409e848b9e60fa7382fb83f48411373287f3b7909ae0b7c750b82feab740fb", func := "fourwatch/fourwatchtop.TopTrue", spec := "topTrue", inPlace := ["math/bits.Add64"], unfollowed := true, recurses := true, named := ["math/bits.divideError", "math/bits.overflowError"], apart := false }
def TopTrueSaid : Prop := topTrueRow.holds Try.pinned (OpenSpec.ofChange topTrueSpec)

/-- ITS FALSE NEIGHBOUR: 'it returns false'. Refute it at one input. -/
def topTrueWrong : ChangeSpec := { name := "topTrue", fn := fun _ => fun
  | [d1, d2, d3] => { results := [.lit (.bool false)], args := [d1, d2, d3] }
  | _ => none }
def TopTrueWrongFalsely : Prop := topTrueRow.holds Try.pinned (OpenSpec.ofChange topTrueWrong)

/-- 'fourwatchtop.TopIn': WHATEVER THE INPUT: true; the input reads as it did. -/
def topInSpec : ChangeSpec := { name := "topIn", fn := fun _ => fun
  | [d1, d2, d3] => { results := [.lit (.bool true)], args := [d1, d2, d3] }
  | _ => none }
def topInRow : OpenClaim := { program := "ytofeoeknmlkjgaa", sum := "c1409e848b9e60fa7382fb83f48411373287f3b7909ae0b7c750b82feab740fb", func := "fourwatch/fourwatchtop.TopIn", spec := "topIn", inPlace := ["math/bits.Add64"], unfollowed := true, recurses := true, named := ["math/bits.divideError", "math/bits.overflowError"], apart := false }
def TopInSaid : Prop := topInRow.holds Try.pinned (OpenSpec.ofChange topInSpec)

/-- ITS FALSE NEIGHBOUR: 'it returns false'. Refute it at one input. -/
def topInWrong : ChangeSpec := { name := "topIn", fn := fun _ => fun
  | [d1, d2, d3] => { results := [.lit (.bool false)], args := [d1, d2, d3] }
  | _ => none }
def TopInWrongFalsely : Prop := topInRow.holds Try.pinned (OpenSpec.ofChange topInWrong)

/-- 'fourwatchtop.TopPlain': WHATEVER THE INPUT: true; the input reads as it did. -/
def topPlainSpec : ChangeSpec := { name := "topPlain", fn := fun _ => fun
  | [d1, d2] => { results := [.lit (.bool true)], args := [d1, d2] }
  | _ => none }
def topPlainRow : OpenClaim := { program := "ytofeoeknmlkjgaa", sum := "c1409e848b9e60fa7382fb83f48411373287f3b7909ae0b7c750b82feab740fb", func := "fourwatch/fourwatchtop.TopPlain", spec := "topPlain", inPlace := ["math/bits.Add64"], unfollowed := true, recurses := true, named := ["math/bits.divideError", "math/bits.overflowError"], apart := false }
def TopPlainSaid : Prop := topPlainRow.holds Try.pinned (OpenSpec.ofChange topPlainSpec)

/-- ITS FALSE NEIGHBOUR: 'it returns false'. Refute it at one input. -/
def topPlainWrong : ChangeSpec := { name := "topPlain", fn := fun _ => fun
  | [d1, d2] => { results := [.lit (.bool false)], args := [d1, d2] }
  | _ => none }
def TopPlainWrongFalsely : Prop := topPlainRow.holds Try.pinned (OpenSpec.ofChange topPlainWrong)

/-- 'fourwatchkeep.NodeMemory': WHATEVER THE INPUT: true; the input reads as it did. -/
def nodeMemorySpec : ChangeSpec := { name := "nodeMemory", fn := fun _ => fun
  | [d1, d2] => { results := [.lit (.bool true)], args := [d1, d2] }
  | _ => none }
def nodeMemoryRow : OpenClaim := { program := "ytofeoeknmlkjgaa", sum := "c1409e848b9e60fa7382fb83f48411373287f3b7909ae0b7c750b82feab740fb", func := "fourwatch/fourwatchkeep.NodeMemory", spec := "nodeMemory", inPlace := ["math/bits.Add64"], unfollowed := true, recurses := true, named := ["math/bits.divideError", "math/bits.overflowError"], apart := false }
def NodeMemorySaid : Prop := nodeMemoryRow.holds Try.pinned (OpenSpec.ofChange nodeMemorySpec)

/-- ITS FALSE NEIGHBOUR: 'it returns false'. Refute it at one input. -/
def nodeMemoryWrong : ChangeSpec := { name := "nodeMemory", fn := fun _ => fun
  | [d1, d2] => { results := [.lit (.bool false)], args := [d1, d2] }
  | _ => none }
def NodeMemoryWrongFalsely : Prop := nodeMemoryRow.holds Try.pinned (OpenSpec.ofChange nodeMemoryWrong)

/-- 'fourwatchkeep.ClusterMemory': WHATEVER THE INPUT: true; the input reads as it did. -/
def clusterMemorySpec : ChangeSpec := { name := "clusterMemory", fn := fun _ => fun
  | [d1, d2] => { results := [.lit (.bool true)], args := [d1, d2] }
  | _ => none }
def clusterMemoryRow : OpenClaim := { program := "ytofeoeknmlkjgaa", sum := "c1409e848b9e60fa7382fb83f48411373287f3b7909ae0b7c750b82feab740fb", func := "fourwatch/fourwatchkeep.ClusterMemory", spec := "clusterMemory", inPlace := ["math/bits.Add64"], unfollowed := true, recurses := true, named := ["math/bits.divideError", "math/bits.overflowError"], apart := false }
def ClusterMemorySaid : Prop := clusterMemoryRow.holds Try.pinned (OpenSpec.ofChange clusterMemorySpec)

/-- ITS FALSE NEIGHBOUR: 'it returns false'. Refute it at one input. -/
def clusterMemoryWrong : ChangeSpec := { name := "clusterMemory", fn := fun _ => fun
  | [d1, d2] => { results := [.lit (.bool false)], args := [d1, d2] }
  | _ => none }
def ClusterMemoryWrongFalsely : Prop := clusterMemoryRow.holds Try.pinned (OpenSpec.ofChange clusterMemoryWrong)

/-- 'fourwatchtop.TopSilent': WHATEVER THE INPUT: true; the input reads as it did. -/
def topSilentSpec : ChangeSpec := { name := "topSilent", fn := fun _ => fun
  | [d1, d2, d3] => { results := [.lit (.bool true)], args := [d1, d2, d3] }
  | _ => none }
def topSilentRow : OpenClaim := { program := "ytofeoeknmlkjgaa", sum := "c1409e848b9e60fa7382fb83f48411373287f3b7909ae0b7c750b82feab740fb", func := "fourwatch/fourwatchtop.TopSilent", spec := "topSilent", inPlace := ["math/bits.Add64"], unfollowed := true, recurses := true, named := ["math/bits.divideError", "math/bits.overflowError"], apart := false }
def TopSilentSaid : Prop := topSilentRow.holds Try.pinned (OpenSpec.ofChange topSilentSpec)

/-- ITS FALSE NEIGHBOUR: 'it returns false'. Refute it at one input. -/
def topSilentWrong : ChangeSpec := { name := "topSilent", fn := fun _ => fun
  | [d1, d2, d3] => { results := [.lit (.bool false)], args := [d1, d2, d3] }
  | _ => none }
def TopSilentWrongFalsely : Prop := topSilentRow.holds Try.pinned (OpenSpec.ofChange topSilentWrong)

/-- 'fourwatchtop.TopFollows': WHATEVER THE INPUT: true; the input reads as it did. -/
def topFollowsSpec : ChangeSpec := { name := "topFollows", fn := fun _ => fun
  | [d1, d2, d3] => { results := [.lit (.bool true)], args := [d1, d2, d3] }
  | _ => none }
def topFollowsRow : OpenClaim := { program := "ytofeoeknmlkjgaa", sum := "c1409e848b9e60fa7382fb83f48411373287f3b7909ae0b7c750b82feab740fb", func := "fourwatch/fourwatchtop.TopFollows", spec := "topFollows", inPlace := ["math/bits.Add64"], unfollowed := true, recurses := true, named := ["math/bits.divideError", "math/bits.overflowError"], apart := false }
def TopFollowsSaid : Prop := topFollowsRow.holds Try.pinned (OpenSpec.ofChange topFollowsSpec)

/-- ITS FALSE NEIGHBOUR: 'it returns false'. Refute it at one input. -/
def topFollowsWrong : ChangeSpec := { name := "topFollows", fn := fun _ => fun
  | [d1, d2, d3] => { results := [.lit (.bool false)], args := [d1, d2, d3] }
  | _ => none }
def TopFollowsWrongFalsely : Prop := topFollowsRow.holds Try.pinned (OpenSpec.ofChange topFollowsWrong)

/- THE SECOND FORM. 'bulk': how many values and letters a reading holds, each counted each time it is reached (what is shared counts as often as it is met; a slice's spare places count too). A statement '..UptoSaid' is the law's where the arguments, and the package variables that the reading takes, are together of bulk at most 1048576: NARROWER than '..Said'. Prove '..Said' where nothing that the law and all that it calls make is longer than what came in: it says more and counts as full. Else prove '..UptoSaid'. A law counts once. -/
mutual
def uptoBulk {H : Type} : DataW H → Nat
  | .lit (.string bytes) => bytes.length + 1
  | .lit _ => 1
  | .nil => 1
  | .ptr d => uptoBulk d + 1
  | .slice elems spare => uptoBulkAll elems + uptoBulkAll spare + 1
  | .agg parts => uptoBulkAll parts + 1
  | .iface _ d => uptoBulk d + 1
  | .map entries => uptoBulkEntries entries + 1
  | .held _ => 1
def uptoBulkAll {H : Type} : List (DataW H) → Nat
  | [] => 0
  | d :: r => uptoBulk d + uptoBulkAll r
def uptoBulkEntries {H : Type} : List (Lit × DataW H) → Nat
  | [] => 0
  | x :: r => uptoBulkEntry x + uptoBulkEntries r
def uptoBulkEntry {H : Type} : Lit × DataW H → Nat
  | (.string bytes, d) => bytes.length + uptoBulk d + 1
  | (_, d) => uptoBulk d + 1
 end
def uptoSmall : (H : Type) → List (DataW H) → Bool := fun _ ds => decide (uptoBulkAll ds ≤ 1048576)
def OpenSpec.upto (s : _root_.Go.ChangeSpec) : _root_.Go.OpenSpec := { _root_.Go.OpenSpec.ofChange s with cond := some uptoSmall }

/-- 'fourwatchtop.TopTrue', WHERE WHAT IT READS IS OF BULK AT MOST 1048576: true; the input reads as it did. -/
def topTrueUptoRow : OpenClaim := { program := "ytofeoeknmlkjgaa", sum := "c1409e848b9e60fa7382fb83f48411373287f3b7909ae0b7c750b82feab740fb", func := "fourwatch/fourwatchtop.TopTrue", spec := "topTrue", inPlace := ["math/bits.Add64"], unfollowed := true, recurses := true, named := ["math/bits.divideError", "math/bits.overflowError"], apart := false, narrowed := true }
def TopTrueUptoSaid : Prop := topTrueUptoRow.holds Try.pinned (OpenSpec.upto topTrueSpec)

/-- 'fourwatchtop.TopIn', WHERE WHAT IT READS IS OF BULK AT MOST 1048576: true; the input reads as it did. -/
def topInUptoRow : OpenClaim := { program := "ytofeoeknmlkjgaa", sum := "c1409e848b9e60fa7382fb83f48411373287f3b7909ae0b7c750b82feab740fb", func := "fourwatch/fourwatchtop.TopIn", spec := "topIn", inPlace := ["math/bits.Add64"], unfollowed := true, recurses := true, named := ["math/bits.divideError", "math/bits.overflowError"], apart := false, narrowed := true }
def TopInUptoSaid : Prop := topInUptoRow.holds Try.pinned (OpenSpec.upto topInSpec)

/-- 'fourwatchtop.TopPlain', WHERE WHAT IT READS IS OF BULK AT MOST 1048576: true; the input reads as it did. -/
def topPlainUptoRow : OpenClaim := { program := "ytofeoeknmlkjgaa", sum := "c1409e848b9e60fa7382fb83f48411373287f3b7909ae0b7c750b82feab740fb", func := "fourwatch/fourwatchtop.TopPlain", spec := "topPlain", inPlace := ["math/bits.Add64"], unfollowed := true, recurses := true, named := ["math/bits.divideError", "math/bits.overflowError"], apart := false, narrowed := true }
def TopPlainUptoSaid : Prop := topPlainUptoRow.holds Try.pinned (OpenSpec.upto topPlainSpec)

/-- 'fourwatchkeep.NodeMemory', WHERE WHAT IT READS IS OF BULK AT MOST 1048576: true; the input reads as it did. -/
def nodeMemoryUptoRow : OpenClaim := { program := "ytofeoeknmlkjgaa", sum := "c1409e848b9e60fa7382fb83f48411373287f3b7909ae0b7c750b82feab740fb", func := "fourwatch/fourwatchkeep.NodeMemory", spec := "nodeMemory", inPlace := ["math/bits.Add64"], unfollowed := true, recurses := true, named := ["math/bits.divideError", "math/bits.overflowError"], apart := false, narrowed := true }
def NodeMemoryUptoSaid : Prop := nodeMemoryUptoRow.holds Try.pinned (OpenSpec.upto nodeMemorySpec)

/-- 'fourwatchkeep.ClusterMemory', WHERE WHAT IT READS IS OF BULK AT MOST 1048576: true; the input reads as it did. -/
def clusterMemoryUptoRow : OpenClaim := { program := "ytofeoeknmlkjgaa", sum := "c1409e848b9e60fa7382fb83f48411373287f3b7909ae0b7c750b82feab740fb", func := "fourwatch/fourwatchkeep.ClusterMemory", spec := "clusterMemory", inPlace := ["math/bits.Add64"], unfollowed := true, recurses := true, named := ["math/bits.divideError", "math/bits.overflowError"], apart := false, narrowed := true }
def ClusterMemoryUptoSaid : Prop := clusterMemoryUptoRow.holds Try.pinned (OpenSpec.upto clusterMemorySpec)

/-- 'fourwatchtop.TopSilent', WHERE WHAT IT READS IS OF BULK AT MOST 1048576: true; the input reads as it did. -/
def topSilentUptoRow : OpenClaim := { program := "ytofeoeknmlkjgaa", sum := "c1409e848b9e60fa7382fb83f48411373287f3b7909ae0b7c750b82feab740fb", func := "fourwatch/fourwatchtop.TopSilent", spec := "topSilent", inPlace := ["math/bits.Add64"], unfollowed := true, recurses := true, named := ["math/bits.divideError", "math/bits.overflowError"], apart := false, narrowed := true }
def TopSilentUptoSaid : Prop := topSilentUptoRow.holds Try.pinned (OpenSpec.upto topSilentSpec)

/-- 'fourwatchtop.TopFollows', WHERE WHAT IT READS IS OF BULK AT MOST 1048576: true; the input reads as it did. -/
def topFollowsUptoRow : OpenClaim := { program := "ytofeoeknmlkjgaa", sum := "c1409e848b9e60fa7382fb83f48411373287f3b7909ae0b7c750b82feab740fb", func := "fourwatch/fourwatchtop.TopFollows", spec := "topFollows", inPlace := ["math/bits.Add64"], unfollowed := true, recurses := true, named := ["math/bits.divideError", "math/bits.overflowError"], apart := false, narrowed := true }
def TopFollowsUptoSaid : Prop := topFollowsUptoRow.holds Try.pinned (OpenSpec.upto topFollowsSpec)

end Rows
end Go.Proofs.Ytofeoeknmlkjgaa

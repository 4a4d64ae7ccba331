/-
  No cell of these rows narrows 'for every input' (looked for: loops, veiled, ifaces, maps, wideKeys, modest, calm, conditions, laid).
  DERIVED. THE GIVEN ROWS OF THIS SEAT. 18 by the template 'for every input the law returns true; each argument reads behind the call as it read before'; 0 by the template 'total and deterministic' (their statements: YtllgjbjcdenchaaTotals.lean).
  GIVEN WITH THE SEED: the statements are not yours to turn. If you find one false, say at which input.
  Laid BY PROGRAM, IN A SANDBOX (cutbox-rows.mjs): the forced cells as the released guide's own fill.sh prints them over the translation 0412adf3dde4a932… (all of the seat's roots in one cut). By AI agents, Wed Nov 11 2026. No macro, syntax, notation, axiom, sorry.
-/
import Derived.Test.YtllgjbjcdenchaaChecked
import GoSem.Claim
import GoSem.ClaimJoined
import GoSem.ClaimMapViews
import Derived.JoinedTies
import Derived.KernelRfl
namespace Go.Proofs.Ytllgjbjcdenchaa
/- THE CELL 'sum', in the pinned program and in every row, IS THE sha256 OF THE DUMP (.gsa) THAT YtllgjbjcdenchaaProg.lean LOADS. Nothing in Lean hashes anything: it is a label: what it is worth is what the hold of that sum in a sandbox is worth. -/
noncomputable def Try.pinned : Pinned := { name := "ytllgjbjcdenchaa", sum := "0412adf3dde4a9326322e35f127a8eb4504b6dc0832ba81da0dc2b68e6d10b9d", checked := Try.checked }
namespace Rows
def none {H : Type} : Left H := { results := [], args := [] }

/-- 'fourwatchkeep.ClockDrifts': WHATEVER THE INPUT: true; the input reads as it did. -/
def clockDriftsSpec : ChangeSpec := { name := "clockDrifts", fn := fun _ => fun
  | [d1, d2, d3] => { results := [.lit (.bool true)], args := [d1, d2, d3] }
  | _ => none }
def clockDriftsRow : OpenClaim := { program := "ytllgjbjcdenchaa", sum := "0412adf3dde4a9326322e35f127a8eb4504b6dc0832ba81da0dc2b68e6d10b9d", func := "fourwatch/fourwatchkeep.ClockDrifts", spec := "clockDrifts", apart := false }
def ClockDriftsSaid : Prop := clockDriftsRow.holds Try.pinned (OpenSpec.ofChange clockDriftsSpec)

/-- ITS FALSE NEIGHBOUR: 'it returns false'. Refute it at one input. -/
def clockDriftsWrong : ChangeSpec := { name := "clockDrifts", fn := fun _ => fun
  | [d1, d2, d3] => { results := [.lit (.bool false)], args := [d1, d2, d3] }
  | _ => none }
def ClockDriftsWrongFalsely : Prop := clockDriftsRow.holds Try.pinned (OpenSpec.ofChange clockDriftsWrong)

/-- 'fourwatchkeep.VoteMasks': WHATEVER THE INPUT: true; the input reads as it did. -/
def voteMasksSpec : ChangeSpec := { name := "voteMasks", fn := fun _ => fun
  | [d1, d2, d3, d4] => { results := [.lit (.bool true)], args := [d1, d2, d3, d4] }
  | _ => none }
def voteMasksRow : OpenClaim := { program := "ytllgjbjcdenchaa", sum := "0412adf3dde4a9326322e35f127a8eb4504b6dc0832ba81da0dc2b68e6d10b9d", func := "fourwatch/fourwatchkeep.VoteMasks", spec := "voteMasks", apart := false }
def VoteMasksSaid : Prop := voteMasksRow.holds Try.pinned (OpenSpec.ofChange voteMasksSpec)

/-- ITS FALSE NEIGHBOUR: 'it returns false'. Refute it at one input. -/
def voteMasksWrong : ChangeSpec := { name := "voteMasks", fn := fun _ => fun
  | [d1, d2, d3, d4] => { results := [.lit (.bool false)], args := [d1, d2, d3, d4] }
  | _ => none }
def VoteMasksWrongFalsely : Prop := voteMasksRow.holds Try.pinned (OpenSpec.ofChange voteMasksWrong)

/-- 'fourwatchkeep.VoteCounts': WHATEVER THE INPUT: true; the input reads as it did. -/
def voteCountsSpec : ChangeSpec := { name := "voteCounts", fn := fun _ => fun
  | [d1, d2] => { results := [.lit (.bool true)], args := [d1, d2] }
  | _ => none }
def voteCountsRow : OpenClaim := { program := "ytllgjbjcdenchaa", sum := "0412adf3dde4a9326322e35f127a8eb4504b6dc0832ba81da0dc2b68e6d10b9d", func := "fourwatch/fourwatchkeep.VoteCounts", spec := "voteCounts", apart := false }
def VoteCountsSaid : Prop := voteCountsRow.holds Try.pinned (OpenSpec.ofChange voteCountsSpec)

/-- ITS FALSE NEIGHBOUR: 'it returns false'. Refute it at one input. -/
def voteCountsWrong : ChangeSpec := { name := "voteCounts", fn := fun _ => fun
  | [d1, d2] => { results := [.lit (.bool false)], args := [d1, d2] }
  | _ => none }
def VoteCountsWrongFalsely : Prop := voteCountsRow.holds Try.pinned (OpenSpec.ofChange voteCountsWrong)

/-- 'fourwatchkeep.MajorityOrder': WHATEVER THE INPUT: true; the input reads as it did. -/
def majorityOrderSpec : ChangeSpec := { name := "majorityOrder", fn := fun _ => fun
  | [d1, d2, d3] => { results := [.lit (.bool true)], args := [d1, d2, d3] }
  | _ => none }
def majorityOrderRow : OpenClaim := { program := "ytllgjbjcdenchaa", sum := "0412adf3dde4a9326322e35f127a8eb4504b6dc0832ba81da0dc2b68e6d10b9d", func := "fourwatch/fourwatchkeep.MajorityOrder", spec := "majorityOrder", apart := false }
def MajorityOrderSaid : Prop := majorityOrderRow.holds Try.pinned (OpenSpec.ofChange majorityOrderSpec)

/-- ITS FALSE NEIGHBOUR: 'it returns false'. Refute it at one input. -/
def majorityOrderWrong : ChangeSpec := { name := "majorityOrder", fn := fun _ => fun
  | [d1, d2, d3] => { results := [.lit (.bool false)], args := [d1, d2, d3] }
  | _ => none }
def MajorityOrderWrongFalsely : Prop := majorityOrderRow.holds Try.pinned (OpenSpec.ofChange majorityOrderWrong)

/-- 'fourwatchkeep.SumJoins': WHATEVER THE INPUT: true; the input reads as it did. -/
def sumJoinsSpec : ChangeSpec := { name := "sumJoins", fn := fun _ => fun
  | [d1, d2] => { results := [.lit (.bool true)], args := [d1, d2] }
  | _ => none }
def sumJoinsRow : OpenClaim := { program := "ytllgjbjcdenchaa", sum := "0412adf3dde4a9326322e35f127a8eb4504b6dc0832ba81da0dc2b68e6d10b9d", func := "fourwatch/fourwatchkeep.SumJoins", spec := "sumJoins", apart := false }
def SumJoinsSaid : Prop := sumJoinsRow.holds Try.pinned (OpenSpec.ofChange sumJoinsSpec)

/-- ITS FALSE NEIGHBOUR: 'it returns false'. Refute it at one input. -/
def sumJoinsWrong : ChangeSpec := { name := "sumJoins", fn := fun _ => fun
  | [d1, d2] => { results := [.lit (.bool false)], args := [d1, d2] }
  | _ => none }
def SumJoinsWrongFalsely : Prop := sumJoinsRow.holds Try.pinned (OpenSpec.ofChange sumJoinsWrong)

/-- 'fourwatchkeep.SumLinear': WHATEVER THE INPUT: true; the input reads as it did. -/
def sumLinearSpec : ChangeSpec := { name := "sumLinear", fn := fun _ => fun
  | [d1, d2] => { results := [.lit (.bool true)], args := [d1, d2] }
  | _ => none }
def sumLinearRow : OpenClaim := { program := "ytllgjbjcdenchaa", sum := "0412adf3dde4a9326322e35f127a8eb4504b6dc0832ba81da0dc2b68e6d10b9d", func := "fourwatch/fourwatchkeep.SumLinear", spec := "sumLinear", apart := false }
def SumLinearSaid : Prop := sumLinearRow.holds Try.pinned (OpenSpec.ofChange sumLinearSpec)

/-- ITS FALSE NEIGHBOUR: 'it returns false'. Refute it at one input. -/
def sumLinearWrong : ChangeSpec := { name := "sumLinear", fn := fun _ => fun
  | [d1, d2] => { results := [.lit (.bool false)], args := [d1, d2] }
  | _ => none }
def SumLinearWrongFalsely : Prop := sumLinearRow.holds Try.pinned (OpenSpec.ofChange sumLinearWrong)

/-- 'fourwatchkeep.SumBursts': WHATEVER THE INPUT: true; the input reads as it did. -/
def sumBurstsSpec : ChangeSpec := { name := "sumBursts", fn := fun _ => fun
  | [d1, d2, d3] => { results := [.lit (.bool true)], args := [d1, d2, d3] }
  | _ => none }
def sumBurstsRow : OpenClaim := { program := "ytllgjbjcdenchaa", sum := "0412adf3dde4a9326322e35f127a8eb4504b6dc0832ba81da0dc2b68e6d10b9d", func := "fourwatch/fourwatchkeep.SumBursts", spec := "sumBursts", apart := false }
def SumBurstsSaid : Prop := sumBurstsRow.holds Try.pinned (OpenSpec.ofChange sumBurstsSpec)

/-- ITS FALSE NEIGHBOUR: 'it returns false'. Refute it at one input. -/
def sumBurstsWrong : ChangeSpec := { name := "sumBursts", fn := fun _ => fun
  | [d1, d2, d3] => { results := [.lit (.bool false)], args := [d1, d2, d3] }
  | _ => none }
def SumBurstsWrongFalsely : Prop := sumBurstsRow.holds Try.pinned (OpenSpec.ofChange sumBurstsWrong)

/-- 'fourwatchkeep.SumSealed': WHATEVER THE INPUT: true; the input reads as it did. -/
def sumSealedSpec : ChangeSpec := { name := "sumSealed", fn := fun _ => fun
  | [d] => { results := [.lit (.bool true)], args := [d] }
  | _ => none }
def sumSealedRow : OpenClaim := { program := "ytllgjbjcdenchaa", sum := "0412adf3dde4a9326322e35f127a8eb4504b6dc0832ba81da0dc2b68e6d10b9d", func := "fourwatch/fourwatchkeep.SumSealed", spec := "sumSealed", apart := false }
def SumSealedSaid : Prop := sumSealedRow.holds Try.pinned (OpenSpec.ofChange sumSealedSpec)

/-- ITS FALSE NEIGHBOUR: 'it returns false'. Refute it at one input. -/
def sumSealedWrong : ChangeSpec := { name := "sumSealed", fn := fun _ => fun
  | [d] => { results := [.lit (.bool false)], args := [d] }
  | _ => none }
def SumSealedWrongFalsely : Prop := sumSealedRow.holds Try.pinned (OpenSpec.ofChange sumSealedWrong)

/-- 'fourwatchkeep.SumBroken': WHATEVER THE INPUT: true; the input reads as it did. -/
def sumBrokenSpec : ChangeSpec := { name := "sumBroken", fn := fun _ => fun
  | [d1, d2, d3] => { results := [.lit (.bool true)], args := [d1, d2, d3] }
  | _ => none }
def sumBrokenRow : OpenClaim := { program := "ytllgjbjcdenchaa", sum := "0412adf3dde4a9326322e35f127a8eb4504b6dc0832ba81da0dc2b68e6d10b9d", func := "fourwatch/fourwatchkeep.SumBroken", spec := "sumBroken", apart := false }
def SumBrokenSaid : Prop := sumBrokenRow.holds Try.pinned (OpenSpec.ofChange sumBrokenSpec)

/-- ITS FALSE NEIGHBOUR: 'it returns false'. Refute it at one input. -/
def sumBrokenWrong : ChangeSpec := { name := "sumBroken", fn := fun _ => fun
  | [d1, d2, d3] => { results := [.lit (.bool false)], args := [d1, d2, d3] }
  | _ => none }
def SumBrokenWrongFalsely : Prop := sumBrokenRow.holds Try.pinned (OpenSpec.ofChange sumBrokenWrong)

/-- 'fourwatchkeep.AgreeSame': WHATEVER THE INPUT: true; the input reads as it did. -/
def agreeSameSpec : ChangeSpec := { name := "agreeSame", fn := fun _ => fun
  | [d1, d2, d3] => { results := [.lit (.bool true)], args := [d1, d2, d3] }
  | _ => none }
def agreeSameRow : OpenClaim := { program := "ytllgjbjcdenchaa", sum := "0412adf3dde4a9326322e35f127a8eb4504b6dc0832ba81da0dc2b68e6d10b9d", func := "fourwatch/fourwatchkeep.AgreeSame", spec := "agreeSame", apart := false }
def AgreeSameSaid : Prop := agreeSameRow.holds Try.pinned (OpenSpec.ofChange agreeSameSpec)

/-- ITS FALSE NEIGHBOUR: 'it returns false'. Refute it at one input. -/
def agreeSameWrong : ChangeSpec := { name := "agreeSame", fn := fun _ => fun
  | [d1, d2, d3] => { results := [.lit (.bool false)], args := [d1, d2, d3] }
  | _ => none }
def AgreeSameWrongFalsely : Prop := agreeSameRow.holds Try.pinned (OpenSpec.ofChange agreeSameWrong)

/-- 'fourwatchkeep.AgreeTrue': WHATEVER THE INPUT: true; the input reads as it did. -/
def agreeTrueSpec : ChangeSpec := { name := "agreeTrue", fn := fun _ => fun
  | [d1, d2, d3] => { results := [.lit (.bool true)], args := [d1, d2, d3] }
  | _ => none }
def agreeTrueRow : OpenClaim := { program := "ytllgjbjcdenchaa", sum := "0412adf3dde4a9326322e35f127a8eb4504b6dc0832ba81da0dc2b68e6d10b9d", func := "fourwatch/fourwatchkeep.AgreeTrue", spec := "agreeTrue", apart := false }
def AgreeTrueSaid : Prop := agreeTrueRow.holds Try.pinned (OpenSpec.ofChange agreeTrueSpec)

/-- ITS FALSE NEIGHBOUR: 'it returns false'. Refute it at one input. -/
def agreeTrueWrong : ChangeSpec := { name := "agreeTrue", fn := fun _ => fun
  | [d1, d2, d3] => { results := [.lit (.bool false)], args := [d1, d2, d3] }
  | _ => none }
def AgreeTrueWrongFalsely : Prop := agreeTrueRow.holds Try.pinned (OpenSpec.ofChange agreeTrueWrong)

/-- 'fourwatchkeep.MemberStays': WHATEVER THE INPUT: true; the input reads as it did. -/
def memberStaysSpec : ChangeSpec := { name := "memberStays", fn := fun _ => fun
  | [d1, d2] => { results := [.lit (.bool true)], args := [d1, d2] }
  | _ => none }
def memberStaysRow : OpenClaim := { program := "ytllgjbjcdenchaa", sum := "0412adf3dde4a9326322e35f127a8eb4504b6dc0832ba81da0dc2b68e6d10b9d", func := "fourwatch/fourwatchkeep.MemberStays", spec := "memberStays", apart := false }
def MemberStaysSaid : Prop := memberStaysRow.holds Try.pinned (OpenSpec.ofChange memberStaysSpec)

/-- ITS FALSE NEIGHBOUR: 'it returns false'. Refute it at one input. -/
def memberStaysWrong : ChangeSpec := { name := "memberStays", fn := fun _ => fun
  | [d1, d2] => { results := [.lit (.bool false)], args := [d1, d2] }
  | _ => none }
def MemberStaysWrongFalsely : Prop := memberStaysRow.holds Try.pinned (OpenSpec.ofChange memberStaysWrong)

/-- 'fourwatchkeep.MemberRight': WHATEVER THE INPUT: true; the input reads as it did. -/
def memberRightSpec : ChangeSpec := { name := "memberRight", fn := fun _ => fun
  | [d1, d2] => { results := [.lit (.bool true)], args := [d1, d2] }
  | _ => none }
def memberRightRow : OpenClaim := { program := "ytllgjbjcdenchaa", sum := "0412adf3dde4a9326322e35f127a8eb4504b6dc0832ba81da0dc2b68e6d10b9d", func := "fourwatch/fourwatchkeep.MemberRight", spec := "memberRight", apart := false }
def MemberRightSaid : Prop := memberRightRow.holds Try.pinned (OpenSpec.ofChange memberRightSpec)

/-- ITS FALSE NEIGHBOUR: 'it returns false'. Refute it at one input. -/
def memberRightWrong : ChangeSpec := { name := "memberRight", fn := fun _ => fun
  | [d1, d2] => { results := [.lit (.bool false)], args := [d1, d2] }
  | _ => none }
def MemberRightWrongFalsely : Prop := memberRightRow.holds Try.pinned (OpenSpec.ofChange memberRightWrong)

/-- 'fourwatchkeep.MemberGoes': WHATEVER THE INPUT: true; the input reads as it did. -/
def memberGoesSpec : ChangeSpec := { name := "memberGoes", fn := fun _ => fun
  | [d] => { results := [.lit (.bool true)], args := [d] }
  | _ => none }
def memberGoesRow : OpenClaim := { program := "ytllgjbjcdenchaa", sum := "0412adf3dde4a9326322e35f127a8eb4504b6dc0832ba81da0dc2b68e6d10b9d", func := "fourwatch/fourwatchkeep.MemberGoes", spec := "memberGoes", apart := false }
def MemberGoesSaid : Prop := memberGoesRow.holds Try.pinned (OpenSpec.ofChange memberGoesSpec)

/-- ITS FALSE NEIGHBOUR: 'it returns false'. Refute it at one input. -/
def memberGoesWrong : ChangeSpec := { name := "memberGoes", fn := fun _ => fun
  | [d] => { results := [.lit (.bool false)], args := [d] }
  | _ => none }
def MemberGoesWrongFalsely : Prop := memberGoesRow.holds Try.pinned (OpenSpec.ofChange memberGoesWrong)

/-- 'fourwatchkeep.WireBack': WHATEVER THE INPUT: true; the input reads as it did. -/
def wireBackSpec : ChangeSpec := { name := "wireBack", fn := fun _ => fun
  | [d] => { results := [.lit (.bool true)], args := [d] }
  | _ => none }
def wireBackRow : OpenClaim := { program := "ytllgjbjcdenchaa", sum := "0412adf3dde4a9326322e35f127a8eb4504b6dc0832ba81da0dc2b68e6d10b9d", func := "fourwatch/fourwatchkeep.WireBack", spec := "wireBack", unfollowed := true, recurses := true, apart := false }
def WireBackSaid : Prop := wireBackRow.holds Try.pinned (OpenSpec.ofChange wireBackSpec)

/-- ITS FALSE NEIGHBOUR: 'it returns false'. Refute it at one input. -/
def wireBackWrong : ChangeSpec := { name := "wireBack", fn := fun _ => fun
  | [d] => { results := [.lit (.bool false)], args := [d] }
  | _ => none }
def WireBackWrongFalsely : Prop := wireBackRow.holds Try.pinned (OpenSpec.ofChange wireBackWrong)

/-- 'fourwatchkeep.WireOnly': WHATEVER THE INPUT: true; the input reads as it did. -/
def wireOnlySpec : ChangeSpec := { name := "wireOnly", fn := fun _ => fun
  | [d] => { results := [.lit (.bool true)], args := [d] }
  | _ => none }
def wireOnlyRow : OpenClaim := { program := "ytllgjbjcdenchaa", sum := "0412adf3dde4a9326322e35f127a8eb4504b6dc0832ba81da0dc2b68e6d10b9d", func := "fourwatch/fourwatchkeep.WireOnly", spec := "wireOnly", unfollowed := true, recurses := true, apart := false }
def WireOnlySaid : Prop := wireOnlyRow.holds Try.pinned (OpenSpec.ofChange wireOnlySpec)

/-- ITS FALSE NEIGHBOUR: 'it returns false'. Refute it at one input. -/
def wireOnlyWrong : ChangeSpec := { name := "wireOnly", fn := fun _ => fun
  | [d] => { results := [.lit (.bool false)], args := [d] }
  | _ => none }
def WireOnlyWrongFalsely : Prop := wireOnlyRow.holds Try.pinned (OpenSpec.ofChange wireOnlyWrong)

/-- 'fourwatchkeep.WireTurned': WHATEVER THE INPUT: true; the input reads as it did. -/
def wireTurnedSpec : ChangeSpec := { name := "wireTurned", fn := fun _ => fun
  | [d1, d2, d3] => { results := [.lit (.bool true)], args := [d1, d2, d3] }
  | _ => none }
def wireTurnedRow : OpenClaim := { program := "ytllgjbjcdenchaa", sum := "0412adf3dde4a9326322e35f127a8eb4504b6dc0832ba81da0dc2b68e6d10b9d", func := "fourwatch/fourwatchkeep.WireTurned", spec := "wireTurned", unfollowed := true, recurses := true, apart := false }
def WireTurnedSaid : Prop := wireTurnedRow.holds Try.pinned (OpenSpec.ofChange wireTurnedSpec)

/-- ITS FALSE NEIGHBOUR: 'it returns false'. Refute it at one input. -/
def wireTurnedWrong : ChangeSpec := { name := "wireTurned", fn := fun _ => fun
  | [d1, d2, d3] => { results := [.lit (.bool false)], args := [d1, d2, d3] }
  | _ => none }
def WireTurnedWrongFalsely : Prop := wireTurnedRow.holds Try.pinned (OpenSpec.ofChange wireTurnedWrong)

/-- 'fourwatchkeep.WireMemory': WHATEVER THE INPUT: true; the input reads as it did. -/
def wireMemorySpec : ChangeSpec := { name := "wireMemory", fn := fun _ => fun
  | [d1, d2] => { results := [.lit (.bool true)], args := [d1, d2] }
  | _ => none }
def wireMemoryRow : OpenClaim := { program := "ytllgjbjcdenchaa", sum := "0412adf3dde4a9326322e35f127a8eb4504b6dc0832ba81da0dc2b68e6d10b9d", func := "fourwatch/fourwatchkeep.WireMemory", spec := "wireMemory", unfollowed := true, recurses := true, apart := false }
def WireMemorySaid : Prop := wireMemoryRow.holds Try.pinned (OpenSpec.ofChange wireMemorySpec)

/-- ITS FALSE NEIGHBOUR: 'it returns false'. Refute it at one input. -/
def wireMemoryWrong : ChangeSpec := { name := "wireMemory", fn := fun _ => fun
  | [d1, d2] => { results := [.lit (.bool false)], args := [d1, d2] }
  | _ => none }
def WireMemoryWrongFalsely : Prop := wireMemoryRow.holds Try.pinned (OpenSpec.ofChange wireMemoryWrong)

/- THE SECOND FORM. 'bulk': how many values and letters a reading holds, each counted each time it is reached (what is shared counts as often as it is met; a slice's spare places count too). A statement '..UptoSaid' is the law's where the arguments, and the package variables that the reading takes, are together of bulk at most 1048576: NARROWER than '..Said'. Prove '..Said' where nothing that the law and all that it calls make is longer than what came in: it says more and counts as full. Else prove '..UptoSaid'. A law counts once. -/
mutual
def uptoBulk {H : Type} : DataW H → Nat
  | .lit (.string bytes) => bytes.length + 1
  | .lit _ => 1
  | .nil => 1
  | .ptr d => uptoBulk d + 1
  | .slice elems spare => uptoBulkAll elems + uptoBulkAll spare + 1
  | .agg parts => uptoBulkAll parts + 1
  | .iface _ d => uptoBulk d + 1
  | .map entries => uptoBulkEntries entries + 1
  | .held _ => 1
def uptoBulkAll {H : Type} : List (DataW H) → Nat
  | [] => 0
  | d :: r => uptoBulk d + uptoBulkAll r
def uptoBulkEntries {H : Type} : List (Lit × DataW H) → Nat
  | [] => 0
  | x :: r => uptoBulkEntry x + uptoBulkEntries r
def uptoBulkEntry {H : Type} : Lit × DataW H → Nat
  | (.string bytes, d) => bytes.length + uptoBulk d + 1
  | (_, d) => uptoBulk d + 1
 end
def uptoSmall : (H : Type) → List (DataW H) → Bool := fun _ ds => decide (uptoBulkAll ds ≤ 1048576)
def OpenSpec.upto (s : _root_.Go.ChangeSpec) : _root_.Go.OpenSpec := { _root_.Go.OpenSpec.ofChange s with cond := some uptoSmall }

/-- 'fourwatchkeep.ClockDrifts', WHERE WHAT IT READS IS OF BULK AT MOST 1048576: true; the input reads as it did. -/
def clockDriftsUptoRow : OpenClaim := { program := "ytllgjbjcdenchaa", sum := "0412adf3dde4a9326322e35f127a8eb4504b6dc0832ba81da0dc2b68e6d10b9d", func := "fourwatch/fourwatchkeep.ClockDrifts", spec := "clockDrifts", apart := false, narrowed := true }
def ClockDriftsUptoSaid : Prop := clockDriftsUptoRow.holds Try.pinned (OpenSpec.upto clockDriftsSpec)

/-- 'fourwatchkeep.VoteMasks', WHERE WHAT IT READS IS OF BULK AT MOST 1048576: true; the input reads as it did. -/
def voteMasksUptoRow : OpenClaim := { program := "ytllgjbjcdenchaa", sum := "0412adf3dde4a9326322e35f127a8eb4504b6dc0832ba81da0dc2b68e6d10b9d", func := "fourwatch/fourwatchkeep.VoteMasks", spec := "voteMasks", apart := false, narrowed := true }
def VoteMasksUptoSaid : Prop := voteMasksUptoRow.holds Try.pinned (OpenSpec.upto voteMasksSpec)

/-- 'fourwatchkeep.VoteCounts', WHERE WHAT IT READS IS OF BULK AT MOST 1048576: true; the input reads as it did. -/
def voteCountsUptoRow : OpenClaim := { program := "ytllgjbjcdenchaa", sum := "0412adf3dde4a9326322e35f127a8eb4504b6dc0832ba81da0dc2b68e6d10b9d", func := "fourwatch/fourwatchkeep.VoteCounts", spec := "voteCounts", apart := false, narrowed := true }
def VoteCountsUptoSaid : Prop := voteCountsUptoRow.holds Try.pinned (OpenSpec.upto voteCountsSpec)

/-- 'fourwatchkeep.MajorityOrder', WHERE WHAT IT READS IS OF BULK AT MOST 1048576: true; the input reads as it did. -/
def majorityOrderUptoRow : OpenClaim := { program := "ytllgjbjcdenchaa", sum := "0412adf3dde4a9326322e35f127a8eb4504b6dc0832ba81da0dc2b68e6d10b9d", func := "fourwatch/fourwatchkeep.MajorityOrder", spec := "majorityOrder", apart := false, narrowed := true }
def MajorityOrderUptoSaid : Prop := majorityOrderUptoRow.holds Try.pinned (OpenSpec.upto majorityOrderSpec)

/-- 'fourwatchkeep.SumJoins', WHERE WHAT IT READS IS OF BULK AT MOST 1048576: true; the input reads as it did. -/
def sumJoinsUptoRow : OpenClaim := { program := "ytllgjbjcdenchaa", sum := "0412adf3dde4a9326322e35f127a8eb4504b6dc0832ba81da0dc2b68e6d10b9d", func := "fourwatch/fourwatchkeep.SumJoins", spec := "sumJoins", apart := false, narrowed := true }
def SumJoinsUptoSaid : Prop := sumJoinsUptoRow.holds Try.pinned (OpenSpec.upto sumJoinsSpec)

/-- 'fourwatchkeep.SumLinear', WHERE WHAT IT READS IS OF BULK AT MOST 1048576: true; the input reads as it did. -/
def sumLinearUptoRow : OpenClaim := { program := "ytllgjbjcdenchaa", sum := "0412adf3dde4a9326322e35f127a8eb4504b6dc0832ba81da0dc2b68e6d10b9d", func := "fourwatch/fourwatchkeep.SumLinear", spec := "sumLinear", apart := false, narrowed := true }
def SumLinearUptoSaid : Prop := sumLinearUptoRow.holds Try.pinned (OpenSpec.upto sumLinearSpec)

/-- 'fourwatchkeep.SumBursts', WHERE WHAT IT READS IS OF BULK AT MOST 1048576: true; the input reads as it did. -/
def sumBurstsUptoRow : OpenClaim := { program := "ytllgjbjcdenchaa", sum := "0412adf3dde4a9326322e35f127a8eb4504b6dc0832ba81da0dc2b68e6d10b9d", func := "fourwatch/fourwatchkeep.SumBursts", spec := "sumBursts", apart := false, narrowed := true }
def SumBurstsUptoSaid : Prop := sumBurstsUptoRow.holds Try.pinned (OpenSpec.upto sumBurstsSpec)

/-- 'fourwatchkeep.SumSealed', WHERE WHAT IT READS IS OF BULK AT MOST 1048576: true; the input reads as it did. -/
def sumSealedUptoRow : OpenClaim := { program := "ytllgjbjcdenchaa", sum := "0412adf3dde4a9326322e35f127a8eb4504b6dc0832ba81da0dc2b68e6d10b9d", func := "fourwatch/fourwatchkeep.SumSealed", spec := "sumSealed", apart := false, narrowed := true }
def SumSealedUptoSaid : Prop := sumSealedUptoRow.holds Try.pinned (OpenSpec.upto sumSealedSpec)

/-- 'fourwatchkeep.SumBroken', WHERE WHAT IT READS IS OF BULK AT MOST 1048576: true; the input reads as it did. -/
def sumBrokenUptoRow : OpenClaim := { program := "ytllgjbjcdenchaa", sum := "0412adf3dde4a9326322e35f127a8eb4504b6dc0832ba81da0dc2b68e6d10b9d", func := "fourwatch/fourwatchkeep.SumBroken", spec := "sumBroken", apart := false, narrowed := true }
def SumBrokenUptoSaid : Prop := sumBrokenUptoRow.holds Try.pinned (OpenSpec.upto sumBrokenSpec)

/-- 'fourwatchkeep.AgreeSame', WHERE WHAT IT READS IS OF BULK AT MOST 1048576: true; the input reads as it did. -/
def agreeSameUptoRow : OpenClaim := { program := "ytllgjbjcdenchaa", sum := "0412adf3dde4a9326322e35f127a8eb4504b6dc0832ba81da0dc2b68e6d10b9d", func := "fourwatch/fourwatchkeep.AgreeSame", spec := "agreeSame", apart := false, narrowed := true }
def AgreeSameUptoSaid : Prop := agreeSameUptoRow.holds Try.pinned (OpenSpec.upto agreeSameSpec)

/-- 'fourwatchkeep.AgreeTrue', WHERE WHAT IT READS IS OF BULK AT MOST 1048576: true; the input reads as it did. -/
def agreeTrueUptoRow : OpenClaim := { program := "ytllgjbjcdenchaa", sum := "0412adf3dde4a9326322e35f127a8eb4504b6dc0832ba81da0dc2b68e6d10b9d", func := "fourwatch/fourwatchkeep.AgreeTrue", spec := "agreeTrue", apart := false, narrowed := true }
def AgreeTrueUptoSaid : Prop := agreeTrueUptoRow.holds Try.pinned (OpenSpec.upto agreeTrueSpec)

/-- 'fourwatchkeep.MemberStays', WHERE WHAT IT READS IS OF BULK AT MOST 1048576: true; the input reads as it did. -/
def memberStaysUptoRow : OpenClaim := { program := "ytllgjbjcdenchaa", sum := "0412adf3dde4a9326322e35f127a8eb4504b6dc0832ba81da0dc2b68e6d10b9d", func := "fourwatch/fourwatchkeep.MemberStays", spec := "memberStays", apart := false, narrowed := true }
def MemberStaysUptoSaid : Prop := memberStaysUptoRow.holds Try.pinned (OpenSpec.upto memberStaysSpec)

/-- 'fourwatchkeep.MemberRight', WHERE WHAT IT READS IS OF BULK AT MOST 1048576: true; the input reads as it did. -/
def memberRightUptoRow : OpenClaim := { program := "ytllgjbjcdenchaa", sum := "0412adf3dde4a9326322e35f127a8eb4504b6dc0832ba81da0dc2b68e6d10b9d", func := "fourwatch/fourwatchkeep.MemberRight", spec := "memberRight", apart := false, narrowed := true }
def MemberRightUptoSaid : Prop := memberRightUptoRow.holds Try.pinned (OpenSpec.upto memberRightSpec)

/-- 'fourwatchkeep.MemberGoes', WHERE WHAT IT READS IS OF BULK AT MOST 1048576: true; the input reads as it did. -/
def memberGoesUptoRow : OpenClaim := { program := "ytllgjbjcdenchaa", sum := "0412adf3dde4a9326322e35f127a8eb4504b6dc0832ba81da0dc2b68e6d10b9d", func := "fourwatch/fourwatchkeep.MemberGoes", spec := "memberGoes", apart := false, narrowed := true }
def MemberGoesUptoSaid : Prop := memberGoesUptoRow.holds Try.pinned (OpenSpec.upto memberGoesSpec)

/-- 'fourwatchkeep.WireBack', WHERE WHAT IT READS IS OF BULK AT MOST 1048576: true; the input reads as it did. -/
def wireBackUptoRow : OpenClaim := { program := "ytllgjbjcdenchaa", sum := "0412adf3dde4a9326322e35f127a8eb4504b6dc0832ba81da0dc2b68e6d10b9d", func := "fourwatch/fourwatchkeep.WireBack", spec := "wireBack", unfollowed := true, recurses := true, apart := false, narrowed := true }
def WireBackUptoSaid : Prop := wireBackUptoRow.holds Try.pinned (OpenSpec.upto wireBackSpec)

/-- 'fourwatchkeep.WireOnly', WHERE WHAT IT READS IS OF BULK AT MOST 1048576: true; the input reads as it did. -/
def wireOnlyUptoRow : OpenClaim := { program := "ytllgjbjcdenchaa", sum := "0412adf3dde4a9326322e35f127a8eb4504b6dc0832ba81da0dc2b68e6d10b9d", func := "fourwatch/fourwatchkeep.WireOnly", spec := "wireOnly", unfollowed := true, recurses := true, apart := false, narrowed := true }
def WireOnlyUptoSaid : Prop := wireOnlyUptoRow.holds Try.pinned (OpenSpec.upto wireOnlySpec)

/-- 'fourwatchkeep.WireTurned', WHERE WHAT IT READS IS OF BULK AT MOST 1048576: true; the input reads as it did. -/
def wireTurnedUptoRow : OpenClaim := { program := "ytllgjbjcdenchaa", sum := "0412adf3dde4a9326322e35f127a8eb4504b6dc0832ba81da0dc2b68e6d10b9d", func := "fourwatch/fourwatchkeep.WireTurned", spec := "wireTurned", unfollowed := true, recurses := true, apart := false, narrowed := true }
def WireTurnedUptoSaid : Prop := wireTurnedUptoRow.holds Try.pinned (OpenSpec.upto wireTurnedSpec)

/-- 'fourwatchkeep.WireMemory', WHERE WHAT IT READS IS OF BULK AT MOST 1048576: true; the input reads as it did. -/
def wireMemoryUptoRow : OpenClaim := { program := "ytllgjbjcdenchaa", sum := "0412adf3dde4a9326322e35f127a8eb4504b6dc0832ba81da0dc2b68e6d10b9d", func := "fourwatch/fourwatchkeep.WireMemory", spec := "wireMemory", unfollowed := true, recurses := true, apart := false, narrowed := true }
def WireMemoryUptoSaid : Prop := wireMemoryUptoRow.holds Try.pinned (OpenSpec.upto wireMemorySpec)

end Rows
end Go.Proofs.Ytllgjbjcdenchaa

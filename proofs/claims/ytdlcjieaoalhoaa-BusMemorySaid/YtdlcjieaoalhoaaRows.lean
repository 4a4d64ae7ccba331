/-
  No cell of these rows narrows 'for every input' (looked for: loops, veiled, ifaces, maps, wideKeys, modest, calm, conditions, laid).
  DERIVED. THE GIVEN ROWS OF THIS SEAT. 4 by the template 'for every input the law returns true; each argument reads behind the call as it read before'; 0 by the template 'total and deterministic' (their statements: YtdlcjieaoalhoaaTotals.lean).
  GIVEN WITH THE SEED: the statements are not yours to turn. If you find one false, say at which input.
  Laid BY PROGRAM, IN A SANDBOX (cutbox-rows.mjs): the forced cells as the released guide's own fill.sh prints them over the translation c6281f46af568940… (all of the seat's roots in one cut). By AI agents, Wed Nov 11 2026. No macro, syntax, notation, axiom, sorry.
-/
import Derived.Test.YtdlcjieaoalhoaaChecked
import GoSem.Claim
import GoSem.ClaimJoined
import GoSem.ClaimMapViews
import Derived.JoinedTies
import Derived.KernelRfl
namespace Go.Proofs.Ytdlcjieaoalhoaa
/- THE CELL 'sum', in the pinned program and in every row, IS THE sha256 OF THE DUMP (.gsa) THAT YtdlcjieaoalhoaaProg.lean LOADS. Nothing in Lean hashes anything: it is a label: what it is worth is what the hold of that sum in a sandbox is worth. -/
noncomputable def Try.pinned : Pinned := { name := "ytdlcjieaoalhoaa", sum := "c6281f46af56894073daac44aec3e395ed43b730daa056136047c40f99597f85", checked := Try.checked }
namespace Rows
def none {H : Type} : Left H := { results := [], args := [] }

/-- 'fourwatchkeep.BusKeeps': WHATEVER THE INPUT: true; the input reads as it did. -/
def busKeepsSpec : ChangeSpec := { name := "busKeeps", fn := fun _ => fun
  | [d1, d2, d3] => { results := [.lit (.bool true)], args := [d1, d2, d3] }
  | _ => none }
def busKeepsRow : OpenClaim := { program := "ytdlcjieaoalhoaa", sum := "c6281f46af56894073daac44aec3e395ed43b730daa056136047c40f99597f85", func := "fourwatch/fourwatchkeep.BusKeeps", spec := "busKeeps", unfollowed := true, recurses := true, apart := false }
def BusKeepsSaid : Prop := busKeepsRow.holds Try.pinned (OpenSpec.ofChange busKeepsSpec)

/-- ITS FALSE NEIGHBOUR: 'it returns false'. Refute it at one input. -/
def busKeepsWrong : ChangeSpec := { name := "busKeeps", fn := fun _ => fun
  | [d1, d2, d3] => { results := [.lit (.bool false)], args := [d1, d2, d3] }
  | _ => none }
def BusKeepsWrongFalsely : Prop := busKeepsRow.holds Try.pinned (OpenSpec.ofChange busKeepsWrong)

/-- 'fourwatchkeep.BusLinks': WHATEVER THE INPUT: true; the input reads as it did. -/
def busLinksSpec : ChangeSpec := { name := "busLinks", fn := fun _ => fun
  | [d1, d2] => { results := [.lit (.bool true)], args := [d1, d2] }
  | _ => none }
def busLinksRow : OpenClaim := { program := "ytdlcjieaoalhoaa", sum := "c6281f46af56894073daac44aec3e395ed43b730daa056136047c40f99597f85", func := "fourwatch/fourwatchkeep.BusLinks", spec := "busLinks", unfollowed := true, recurses := true, apart := false }
def BusLinksSaid : Prop := busLinksRow.holds Try.pinned (OpenSpec.ofChange busLinksSpec)

/-- ITS FALSE NEIGHBOUR: 'it returns false'. Refute it at one input. -/
def busLinksWrong : ChangeSpec := { name := "busLinks", fn := fun _ => fun
  | [d1, d2] => { results := [.lit (.bool false)], args := [d1, d2] }
  | _ => none }
def BusLinksWrongFalsely : Prop := busLinksRow.holds Try.pinned (OpenSpec.ofChange busLinksWrong)

/-- 'fourwatchkeep.BusTwice': WHATEVER THE INPUT: true; the input reads as it did. -/
def busTwiceSpec : ChangeSpec := { name := "busTwice", fn := fun _ => fun
  | [d1, d2, d3, d4] => { results := [.lit (.bool true)], args := [d1, d2, d3, d4] }
  | _ => none }
def busTwiceRow : OpenClaim := { program := "ytdlcjieaoalhoaa", sum := "c6281f46af56894073daac44aec3e395ed43b730daa056136047c40f99597f85", func := "fourwatch/fourwatchkeep.BusTwice", spec := "busTwice", unfollowed := true, recurses := true, apart := false }
def BusTwiceSaid : Prop := busTwiceRow.holds Try.pinned (OpenSpec.ofChange busTwiceSpec)

/-- ITS FALSE NEIGHBOUR: 'it returns false'. Refute it at one input. -/
def busTwiceWrong : ChangeSpec := { name := "busTwice", fn := fun _ => fun
  | [d1, d2, d3, d4] => { results := [.lit (.bool false)], args := [d1, d2, d3, d4] }
  | _ => none }
def BusTwiceWrongFalsely : Prop := busTwiceRow.holds Try.pinned (OpenSpec.ofChange busTwiceWrong)

/-- 'fourwatchkeep.BusMemory': WHATEVER THE INPUT: true; the input reads as it did. -/
def busMemorySpec : ChangeSpec := { name := "busMemory", fn := fun _ => fun
  | [d1, d2, d3, d4] => { results := [.lit (.bool true)], args := [d1, d2, d3, d4] }
  | _ => none }
def busMemoryRow : OpenClaim := { program := "ytdlcjieaoalhoaa", sum := "c6281f46af56894073daac44aec3e395ed43b730daa056136047c40f99597f85", func := "fourwatch/fourwatchkeep.BusMemory", spec := "busMemory", unfollowed := true, recurses := true, apart := false }
def BusMemorySaid : Prop := busMemoryRow.holds Try.pinned (OpenSpec.ofChange busMemorySpec)

/-- ITS FALSE NEIGHBOUR: 'it returns false'. Refute it at one input. -/
def busMemoryWrong : ChangeSpec := { name := "busMemory", fn := fun _ => fun
  | [d1, d2, d3, d4] => { results := [.lit (.bool false)], args := [d1, d2, d3, d4] }
  | _ => none }
def BusMemoryWrongFalsely : Prop := busMemoryRow.holds Try.pinned (OpenSpec.ofChange busMemoryWrong)

/- THE SECOND FORM. 'bulk': how many values and letters a reading holds, each counted each time it is reached (what is shared counts as often as it is met; a slice's spare places count too). A statement '..UptoSaid' is the law's where the arguments, and the package variables that the reading takes, are together of bulk at most 1048576: NARROWER than '..Said'. Prove '..Said' where nothing that the law and all that it calls make is longer than what came in: it says more and counts as full. Else prove '..UptoSaid'. A law counts once. -/
mutual
def uptoBulk {H : Type} : DataW H → Nat
  | .lit (.string bytes) => bytes.length + 1
  | .lit _ => 1
  | .nil => 1
  | .ptr d => uptoBulk d + 1
  | .slice elems spare => uptoBulkAll elems + uptoBulkAll spare + 1
  | .agg parts => uptoBulkAll parts + 1
  | .iface _ d => uptoBulk d + 1
  | .map entries => uptoBulkEntries entries + 1
  | .held _ => 1
def uptoBulkAll {H : Type} : List (DataW H) → Nat
  | [] => 0
  | d :: r => uptoBulk d + uptoBulkAll r
def uptoBulkEntries {H : Type} : List (Lit × DataW H) → Nat
  | [] => 0
  | x :: r => uptoBulkEntry x + uptoBulkEntries r
def uptoBulkEntry {H : Type} : Lit × DataW H → Nat
  | (.string bytes, d) => bytes.length + uptoBulk d + 1
  | (_, d) => uptoBulk d + 1
 end
def uptoSmall : (H : Type) → List (DataW H) → Bool := fun _ ds => decide (uptoBulkAll ds ≤ 1048576)
def OpenSpec.upto (s : _root_.Go.ChangeSpec) : _root_.Go.OpenSpec := { _root_.Go.OpenSpec.ofChange s with cond := some uptoSmall }

/-- 'fourwatchkeep.BusKeeps', WHERE WHAT IT READS IS OF BULK AT MOST 1048576: true; the input reads as it did. -/
def busKeepsUptoRow : OpenClaim := { program := "ytdlcjieaoalhoaa", sum := "c6281f46af56894073daac44aec3e395ed43b730daa056136047c40f99597f85", func := "fourwatch/fourwatchkeep.BusKeeps", spec := "busKeeps", unfollowed := true, recurses := true, apart := false, narrowed := true }
def BusKeepsUptoSaid : Prop := busKeepsUptoRow.holds Try.pinned (OpenSpec.upto busKeepsSpec)

/-- 'fourwatchkeep.BusLinks', WHERE WHAT IT READS IS OF BULK AT MOST 1048576: true; the input reads as it did. -/
def busLinksUptoRow : OpenClaim := { program := "ytdlcjieaoalhoaa", sum := "c6281f46af56894073daac44aec3e395ed43b730daa056136047c40f99597f85", func := "fourwatch/fourwatchkeep.BusLinks", spec := "busLinks", unfollowed := true, recurses := true, apart := false, narrowed := true }
def BusLinksUptoSaid : Prop := busLinksUptoRow.holds Try.pinned (OpenSpec.upto busLinksSpec)

/-- 'fourwatchkeep.BusTwice', WHERE WHAT IT READS IS OF BULK AT MOST 1048576: true; the input reads as it did. -/
def busTwiceUptoRow : OpenClaim := { program := "ytdlcjieaoalhoaa", sum := "c6281f46af56894073daac44aec3e395ed43b730daa056136047c40f99597f85", func := "fourwatch/fourwatchkeep.BusTwice", spec := "busTwice", unfollowed := true, recurses := true, apart := false, narrowed := true }
def BusTwiceUptoSaid : Prop := busTwiceUptoRow.holds Try.pinned (OpenSpec.upto busTwiceSpec)

/-- 'fourwatchkeep.BusMemory', WHERE WHAT IT READS IS OF BULK AT MOST 1048576: true; the input reads as it did. -/
def busMemoryUptoRow : OpenClaim := { program := "ytdlcjieaoalhoaa", sum := "c6281f46af56894073daac44aec3e395ed43b730daa056136047c40f99597f85", func := "fourwatch/fourwatchkeep.BusMemory", spec := "busMemory", unfollowed := true, recurses := true, apart := false, narrowed := true }
def BusMemoryUptoSaid : Prop := busMemoryUptoRow.holds Try.pinned (OpenSpec.upto busMemorySpec)

end Rows
end Go.Proofs.Ytdlcjieaoalhoaa

/- Merged: Roomy. -/
import Derived.Deep.QuietTactic
import Derived.Laws.CopyOwn
import Derived.Laws.MakeOwn
import Derived.Test.YtofeoeknmlkjgaaProg
import Derived.Test.YtofeoeknmlkjgaaZ11
set_option linter.unusedVariables false
set_option linter.unusedSimpArgs false
section
/- fourwatchkeep.roomy, same, stayed: a list with marked room behind it; does it still hold what it held? -/
set_option linter.unusedVariables false
namespace Go.Proofs.Ytofeoeknmlkjgaa.Ro
open Go.RowKit Go.Proofs.Ytofeoeknmlkjgaa

section
variable {P : Program} {w : World} {ops : Array Oper} {rest : List Oper} {o : Oper} {a : Act} {Q : Exit → Act → World → Prop}
end

def roomC (zs : List Int) : Array Value := (zs.map (Value.int .i64) ++ [Value.int .i64 (-4711), Value.int .i64 (-4712)]).toArray
def SameRel (n : Nat) (w : World) (i : Value) (wr : World) : Prop := ∃ j : Nat, j ≤ n ∧ i = .int .i64 j ∧ Below w.heap.size w wr

end Go.Proofs.Ytofeoeknmlkjgaa.Ro
end

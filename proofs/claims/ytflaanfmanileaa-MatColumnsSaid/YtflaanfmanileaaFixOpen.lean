/- A number that came in. -/
import Derived.Test.YtflaanfmanileaaFixAwake
import Derived.Test.YtflaanfmanileaaOpen
set_option linter.unusedVariables false
namespace Go.Proofs.Ytflaanfmanileaa
theorem Fx.in_of {x : Int} (h : IntKind.i64.has x) : Fx.In x := by unfold Fx.In; exact in_i64 h
end Go.Proofs.Ytflaanfmanileaa

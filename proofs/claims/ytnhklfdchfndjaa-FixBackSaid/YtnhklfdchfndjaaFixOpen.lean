/- A number that came in. -/
import Derived.Test.YtnhklfdchfndjaaFixAwake
import Derived.Test.YtnhklfdchfndjaaOpen
set_option linter.unusedVariables false
namespace Go.Proofs.Ytnhklfdchfndjaa
theorem Fx.in_of {x : Int} (h : IntKind.i64.has x) : Fx.In x := by unfold Fx.In; exact in_i64 h
end Go.Proofs.Ytnhklfdchfndjaa

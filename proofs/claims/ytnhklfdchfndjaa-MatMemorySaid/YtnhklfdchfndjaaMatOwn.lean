/- fourwatchkeep.own: a copy. -/
import Derived.Test.YtnhklfdchfndjaaMatGood
import Derived.Test.YtnhklfdchfndjaaAppend
set_option linter.unusedVariables false
namespace Go.Proofs.Ytnhklfdchfndjaa.Mt
open Go.RowKit Go.Proofs.Ytnhklfdchfndjaa Fx

theorem infoInt : (Try.prog.info? 3).map (fun i => (i.zero, i.size, i.bytes)) = some (some (.int .i64 0), 1, 8) := by kernel_rfl

end Go.Proofs.Ytnhklfdchfndjaa.Mt

/- Merged: FixAwake. -/
import Derived.BigQuiet
import Derived.BigRegion
import Derived.Deep.CutRange
import Derived.Deep.DeepCutAuto
import Derived.Deep.QuietTactic
import Derived.Test.YtofeoeknmlkjgaaZ18
set_option linter.unusedVariables false
set_option linter.unusedSimpArgs false
section
/- The contracts of awake, spot. -/
set_option linter.unusedVariables false
namespace Go.Proofs.Ytofeoeknmlkjgaa
open Go.RowKit Fx

end Go.Proofs.Ytofeoeknmlkjgaa
end

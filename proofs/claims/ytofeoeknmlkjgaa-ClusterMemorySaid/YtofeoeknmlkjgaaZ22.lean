/- Merged: FixOpen. -/
import Derived.Test.YtofeoeknmlkjgaaZ06
import Derived.Test.YtofeoeknmlkjgaaZ21
set_option linter.unusedVariables false
set_option linter.unusedSimpArgs false
section
/- A number that came in. -/
set_option linter.unusedVariables false
namespace Go.Proofs.Ytofeoeknmlkjgaa
end Go.Proofs.Ytofeoeknmlkjgaa
end

/- Merged: FixOpen. -/
import Derived.Test.YtofeoeknmlkjgaaGreatZ08
import Derived.Test.YtofeoeknmlkjgaaGreatZ32
set_option linter.unusedVariables false
set_option linter.unusedSimpArgs false
section
/- A number that came in. -/
set_option linter.unusedVariables false
namespace Go.Proofs.YtofeoeknmlkjgaaGreat
end Go.Proofs.YtofeoeknmlkjgaaGreat
end

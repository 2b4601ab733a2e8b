/- Nf: Ra (merged by merge2.py from the working texts). -/
import Derived.Test.YtlnfojhdicbgiaaDoorNe
set_option linter.unusedSimpArgs false
set_option linter.unnecessarySimpa false
set_option linter.unusedVariables false
set_option linter.unusedSectionVars false
namespace Uw.Tryd
open Go Uw
end Uw.Tryd

/-
  The document's token of digits.
-/
import Derived.Test.YtniibdfnijeaeaaDoorK7q
set_option linter.unusedVariables false
set_option linter.unusedSimpArgs false
set_option linter.unusedSectionVars false
namespace Go.Proofs.YtniibdfnijeaeaaDoor
namespace Ab
section
variable [Laid2]
end
end Ab
end Go.Proofs.YtniibdfnijeaeaaDoor

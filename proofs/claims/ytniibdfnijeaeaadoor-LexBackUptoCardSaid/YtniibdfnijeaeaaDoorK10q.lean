/-
  The token at a place, as the document's one tells it; blanks, and the next token.
-/
import Derived.Test.YtniibdfnijeaeaaDoorK9q
set_option linter.unusedVariables false
set_option linter.unusedSimpArgs false
set_option linter.unusedSectionVars false
namespace Go.Proofs.YtniibdfnijeaeaaDoor
namespace Ab
section
variable [Laid2]
end
end Ab
end Go.Proofs.YtniibdfnijeaeaaDoor

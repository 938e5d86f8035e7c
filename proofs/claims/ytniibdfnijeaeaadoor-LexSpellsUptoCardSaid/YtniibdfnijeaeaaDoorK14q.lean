/-
  A token stands where its bytes stand: moved to another text, it is the token there.
-/
import Derived.Test.YtniibdfnijeaeaaDoorK12q
set_option linter.unusedVariables false
set_option linter.unusedSimpArgs false
set_option linter.unusedSectionVars false
namespace Go.Proofs.YtniibdfnijeaeaaDoor
namespace Ab
end Ab
end Go.Proofs.YtniibdfnijeaeaaDoor

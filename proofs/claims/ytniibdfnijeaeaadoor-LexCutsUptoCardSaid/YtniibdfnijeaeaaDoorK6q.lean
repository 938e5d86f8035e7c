/-
  The document's Number, on digits in the one way.
-/
import Derived.Test.YtniibdfnijeaeaaDoorK5q
set_option linter.unusedVariables false
set_option linter.unusedSimpArgs false
set_option linter.unusedSectionVars false
namespace Go.Proofs.YtniibdfnijeaeaaDoor
namespace Ab
/-- the value of the first digits. -/
def pre (s : ByteArray) (i : Nat) : Nat := dv (s.data.toList.take i)
section
variable [Laid2]
end
end Ab
end Go.Proofs.YtniibdfnijeaeaaDoor

/-
  SsaMakes is true of any conditions.
-/
import Derived.Test.YtebmcaceklbopaaN14
set_option linter.unusedVariables false
set_option linter.unusedSimpArgs false
namespace Go.Proofs.Ytebmcaceklbopaa
namespace Ab

theorem pi0 : PI t0 := fun i x h => by simp [t0] at h

end Ab
end Go.Proofs.Ytebmcaceklbopaa

/-
  Expr's awake.
-/
import Derived.Test.YtfekohpjaafnhaaDoorFEcq
set_option linter.all false
set_option maxRecDepth 10000
namespace Go.Proofs.YtfekohpjaafnhaaDoor
namespace Ab
variable [vo]
theorem awk (k:Nat):g7 (k+100)=some true:=by kernel_rfl
end Ab
end Go.Proofs.YtfekohpjaafnhaaDoor

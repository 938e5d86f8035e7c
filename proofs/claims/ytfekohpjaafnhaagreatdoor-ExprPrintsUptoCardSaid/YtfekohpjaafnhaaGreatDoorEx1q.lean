/-
  Expr's awake.
-/
import Derived.Test.YtfekohpjaafnhaaGreatDoorFEeq
set_option linter.all false
set_option maxRecDepth 10000
namespace Go.Proofs.YtfekohpjaafnhaaGreatDoor
namespace Ab
variable [vo]
theorem awk (k:Nat):g8 (k+100)=some true:=by kernel_rfl
end Ab
end Go.Proofs.YtfekohpjaafnhaaGreatDoor

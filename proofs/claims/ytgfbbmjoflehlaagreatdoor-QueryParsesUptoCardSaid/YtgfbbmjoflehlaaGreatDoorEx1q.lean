/-
  Query's awake.
-/
import Derived.Test.YtgfbbmjoflehlaaGreatDoorFQeq
set_option linter.all false
set_option maxRecDepth 10000
namespace Go.Proofs.YtgfbbmjoflehlaaGreatDoor
namespace Ab
variable [vo]
theorem awk (k:Nat):g7 (k+200)=some true:=by kernel_rfl
end Ab
end Go.Proofs.YtgfbbmjoflehlaaGreatDoor

/-
  FormatInt at base 10, by the shelf.
-/
import Derived.Shelf.Strconv.Itoa4
import Derived.Lib.AppendIntMem
import Derived.Test.YtniibdfnijeaeaaDoorSxq
namespace Go.Proofs
open Go.Shelf
namespace YtniibdfnijeaeaaDoor
namespace Ab
/-- what stands from the beginning on bears the table of powers. -/
class Laid extends Glob where
  tab : ∀ w : World, (∀ b, b < n → w.heap[b]? = H b) → Lib.TabIs Tryd.prog w "internal/strconv.uint64pow10" .u64 Lib.pow10Tab
variable [Laid]
end Ab
end YtniibdfnijeaeaaDoor
end Go.Proofs

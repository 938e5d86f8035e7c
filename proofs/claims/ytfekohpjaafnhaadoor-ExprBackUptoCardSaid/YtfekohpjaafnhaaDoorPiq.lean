/-
  ExprBrackets: an expression in brackets; one bracket too few, and one too many.
-/
import Derived.Test.YtfekohpjaafnhaaDoorPhq
set_option linter.all false
namespace Go.Proofs.YtfekohpjaafnhaaDoor
namespace Ab
section
variable {s:ByteArray} {T:List Tok} (hT:yn s (s.size+1) 0=.inl (T++[endT s])) (hl:T.length≤s.size)
include hT hl
end
section
variable [vo]
end
end Ab
end Go.Proofs.YtfekohpjaafnhaaDoor

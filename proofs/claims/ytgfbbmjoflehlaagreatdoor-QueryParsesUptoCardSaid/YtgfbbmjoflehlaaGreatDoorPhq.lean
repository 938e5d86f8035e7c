/-
  Texts put together: what is scanned of them; what is read of an expression in brackets.
-/
import Derived.Test.YtgfbbmjoflehlaaGreatDoorPgq
import Derived.KernelRfl
set_option linter.all false
namespace Go.Proofs.YtgfbbmjoflehlaaGreatDoor
namespace Ab
theorem qkE (T:List Tok)(t:Tok):tkA (T++[t]) T.length=t:=by simp[tkA]
theorem qka (T:List Tok)(s:ByteArray):Lm (T++[endT s])=T.length:=by
 unfold Lm;have:(T++[endT s]).length-1=T.length:=by simp
 rw[this,qkE];rfl
end Ab
end Go.Proofs.YtgfbbmjoflehlaaGreatDoor

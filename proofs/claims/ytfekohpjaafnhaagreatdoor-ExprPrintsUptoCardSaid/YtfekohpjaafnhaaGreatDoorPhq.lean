/-
  Texts put together: what is scanned of them; what is read of an expression in brackets.
-/
import Derived.Test.YtfekohpjaafnhaaGreatDoorPgq
import Derived.KernelRfl
set_option linter.all false
namespace Go.Proofs.YtfekohpjaafnhaaGreatDoor
namespace Ab
theorem qcP (a b:ByteArray)(i:Nat):bAt (a++b) i=if i<a.size then bAt a i else bAt b (i-a.size):=by
 unfold bAt;rw[YO,List.getD_eq_getElem?_getD,List.getD_eq_getElem?_getD,List.getD_eq_getElem?_getD];split
 · rename_i h;rw[aY (by rw[qD];exact h)]
 · rename_i h;rw[aZ (by rw[qD];omega),qD]
theorem qkE (T:List Tok)(t:Tok):tkA (T++[t]) T.length=t:=by simp[tkA]
theorem qle {T:List Tok}{R:List Tok}{i:Nat}(h:i<T.length):tkA (T++R) i=tkA T i:=by unfold tkA;rw[aY h]
def Stp (t:Tok):Prop:=∀ l,opA l t=0
theorem qhF (s:ByteArray):Stp (endT s):=fun l=>by unfold opA;split<;>rfl
end Ab
end Go.Proofs.YtfekohpjaafnhaaGreatDoor

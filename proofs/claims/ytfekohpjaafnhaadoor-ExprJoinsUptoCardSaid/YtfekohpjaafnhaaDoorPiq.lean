/-
  ExprBrackets: an expression in brackets; one bracket too few, and one too many.
-/
import Derived.Test.YtfekohpjaafnhaaDoorPhq
set_option linter.unusedVariables false
set_option linter.unusedSimpArgs false
set_option linter.unusedSectionVars false
namespace Go.Proofs.YtfekohpjaafnhaaDoor
namespace Ab
theorem qd5:(strB [40]).size=1 := rfl
theorem qln:(strB [41]).size=1 := rfl
theorem b40:bAt (strB [40]) 0=40 := by kernel_rfl
theorem b41:bAt (strB [41]) 0=41 := by kernel_rfl
section
variable {s:ByteArray} {T:List Tok} (hT:yn s (s.size+1) 0=.inl (T ++ [endT s])) (hl:T.length≤s.size)
include hT hl
end
theorem qhm (T:List Tok) (c:Int) (R:List Tok) {k:Nat} (hk:k < T.length):tkA (T.map (shT c) ++ R) k=shT c (tkA T k) := by
 unfold tkA
 rw [List.getElem?_append_left (by simpa using hk),List.getElem?_map,List.getElem?_eq_getElem hk]
 rfl
theorem qeT (T:List Tok) (c:Int) (t:Tok) (R:List Tok):tkA (T.map (shT c) ++ t :: R) T.length=t := by
 unfold tkA
 rw [List.getElem?_append_right (by simp)]
 simp
theorem qjI (T:List Tok) (c:Int) (t u:Tok) (R:List Tok):tkA (T.map (shT c) ++ t :: u :: R) (T.length+1)=u := by
 unfold tkA
 rw [List.getElem?_append_right (by simp)]
 simp
theorem qbx (t:Tok) (L:List Tok) (k:Nat):tkA (t :: L) (k+1)=tkA L k := by simp [tkA]
theorem qfj {u:ByteArray} {L:List Tok} {n:Nat} {out:PO} (hs:u.size≤4000) (hL:yn u (u.size+1) 0=.inl L) (hp:pp L n (.p 0 0 0)=some out):parT u n=some (outP L out) := by
 unfold parT
 rw [if_pos hs,hL]
 simp only [hp,Option.map_some]
section
variable [vo]
end
end Ab
end Go.Proofs.YtfekohpjaafnhaaDoor

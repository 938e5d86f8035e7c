/-
  Texts put together: what is scanned of them; what is read of an expression in brackets.
-/
import Derived.Test.YtfekohpjaafnhaaDoorPgq
import Derived.KernelRfl
set_option linter.all false
namespace Go.Proofs.YtfekohpjaafnhaaDoor
namespace Ab
theorem qcP (a b:ByteArray)(i:Nat):bAt (a++b) i=if i<a.size then bAt a i else bAt b (i-a.size):=by
 unfold bAt;rw[YO,List.getD_eq_getElem?_getD,List.getD_eq_getElem?_getD,List.getD_eq_getElem?_getD];split
 · rename_i h;rw[aY (by rw[qD];exact h)]
 · rename_i h;rw[aZ (by rw[qD];omega),qD]
theorem qkE (T:List Tok)(t:Tok):tkA (T++[t]) T.length=t:=by simp[tkA]
theorem qle {T:List Tok}{R:List Tok}{i:Nat}(h:i<T.length):tkA (T++R) i=tkA T i:=by unfold tkA;rw[aY h]
theorem qkK {T:List Tok}(h:∀ t∈T,t.kind≠0){i:Nat}(hi:i<T.length):(tkA T i).kind≠0:=by unfold tkA;rw[ax hi];exact h _ (List.getElem_mem hi)
theorem qka (T:List Tok)(s:ByteArray):Lm (T++[endT s])=T.length:=by
 unfold Lm;have:(T++[endT s]).length-1=T.length:=by simp
 rw[this,qkE];rfl
theorem qkC {s:ByteArray}{n:Nat}{x:Ex}{a:Int}(h:parT s n=some (x,a,0)):s.size≤4000∧∃ T,yn s (s.size+1) 0=.inl (T++[endT s])∧(∀ t∈T,t.kind≠0)∧T.length≤s.size ∧
  pp (T++[endT s]) n (.p 0 0 0)=some (.ok x T.length)∧cnt x≤200:=by
 unfold parT at h;split at h
 ·
  rename_i hs;refine⟨hs,?_⟩;cases hT:yn s (s.size+1) 0 with
  |inr z=>rw[hT]at h;cases h
  |inl L=>
   rw[hT]at h;obtain⟨T,rfl,h2,h3⟩:=vE s _ _ _ (Nat.zero_le _) hT;simp only at h;cases hp:pp (T++[endT s]) n (.p 0 0 0)with
   |none=>rw[hp]at h;cases h
   |some out=>
    rw[hp]at h;cases out with
    |err p e=>cases h;rcases qix _ _ _ _ _ hp with h|h<;>cases h
    |ok y j=>
     simp only[av,outP]at h;have hj:=(qeh _ n).1 0 0 0 y j (by omega) hp;rw[qka]at hj;by_cases hk:(tkA (T++[endT s]) j).kind=0
     ·
      rw[aD hk]at h;by_cases hc:cnt y≤200
      · rw[aD hc]at h;cases h;have:j=T.length:=by
         by_cases hlt:j<T.length
         · exact absurd (by rw[← qle (R:=[endT s]) hlt];exact hk) (qkK h2 hlt)
         · omega
        subst this;exact⟨T,rfl,h2,by omega,hp,hc⟩
      · rw[aF hc]at h;cases h
     · rw[aF hk]at h;cases h
 · cases h
theorem qk0 (s:ByteArray){n:Nat}(hn:70000≤n):∃ r,parT s n=some r:=by
 unfold parT;split
 ·
  rename_i hs;cases hT:yn s (s.size+1) 0 with
  |inr z=>exact⟨_,rfl⟩
  |inl L=>obtain⟨T,rfl,h2,h3⟩:=vE s _ _ _ (Nat.zero_le _) hT;obtain⟨out,ho⟩:=(qh7 (T++[endT s]) n).1 0 0 0 (by omega) (Nat.zero_le _) (by rw[qka];omega);exact⟨outP (T++[endT s]) out,by simp only[ho,av]⟩
 · exact⟨_,rfl⟩
theorem qhF (s:ByteArray):Stp (endT s):=fun l=>by unfold opA;split<;>rfl
end Ab
end Go.Proofs.YtfekohpjaafnhaaDoor

/-
  The plain scanner and the plain parser on a text that stands within another.
-/
import Derived.Test.YtgfbbmjoflehlaaGreatDoorPbq
import Derived.Test.YtgfbbmjoflehlaaGreatDoorKsq
set_option linter.all false
namespace Go.Proofs.YtgfbbmjoflehlaaGreatDoor
namespace Ab
def endT (s:ByteArray):Tok:=⟨0,strB [],0,0,s.size⟩
def mkT (t:Tk)(p:Nat):Tok:=⟨t.kind,t.text,t.n,t.scale,p⟩
def pfT (t:Tok):List Tok⊕Nat->List Tok⊕Nat
 |.inl l=>.inl (t::l)
 |.inr z=>.inr z
def yn (s:ByteArray):Nat->Nat->List Tok⊕Nat
 |0,p=>.inr p
 |n+1,p=>if stop isBl s p=s.size then .inl [endT s]else match tok s (stop isBl s p)with
  |some (t,e)=>pfT (mkT t (stop isBl s p)) (yn s n e)
  |none=>.inr (stop isBl s p)
theorem qjQ (s:ByteArray):∀ n p,qcV s n p=match yn s n p with|.inl L=>.inl (rwT L)|.inr z=>.inr z
 |0,p=>rfl
 |n+1,p=>by
  unfold qcV yn;split
  . rfl
  .
   cases tok s (stop isBl s p)with
   |none=>rfl
   |some x=>
    obtain⟨t,e⟩:=x;simp only[qjQ s n e];cases yn s n e with
    |inl L=>rfl
    |inr z=>rfl
theorem qjo {s:ByteArray}{p:Nat}{t:Tk}{e:Nat}(ht:tok s p=some (t,e)):t.kind≠0:=by
 unfold tok qd6 Zt qdt qav at ht;intro hk
 repeat' split at ht
 all_goals first|(cases ht;done)|(cases ht;simp at hk)
theorem vE (s:ByteArray):∀ n p L,p<=s.size->yn s n p=.inl L->∃ T,L=T++[endT s]/\(∀ t∈T,t.kind≠0)/\T.length<=s.size-p
 |0,_,_,_,h=>by cases h
 |n+1,p,L,hp,h=>by
  unfold yn at h;have h0:=zC isBl s p;split at h
  . cases h;exact⟨[],rfl,by simp,by simp⟩
  .
   rename_i hne;have hz:stop isBl s p<s.size:=by have:=yQ (f:=isBl) hp;omega
   cases ht:tok s (stop isBl s p)with
   |none=>rw[ht]at h;cases h
   |some x=>
    obtain⟨t,e⟩:=x;rw[ht]at h;have he:=qeR hz ht;cases hs:yn s n e with
    |inr z=>simp only[hs,pfT]at h;cases h
    |inl L2=>
     simp only[hs,pfT]at h;cases h;obtain⟨T,rfl,h2,h3⟩:=vE s n e L2 he.2 hs;refine⟨mkT t (stop isBl s p)::T,rfl,fun x hx=>?_,by simp only[List.length_cons];omega⟩;rcases List.mem_cons.1 hx with rfl|hx
     . exact qjo ht
     . exact h2 x hx
end Ab
end Go.Proofs.YtgfbbmjoflehlaaGreatDoor

/-
  The plain scanner and the plain parser on a text that stands within another.
-/
import Derived.Test.YtpdhhkfllkgahaaGreatDoorPbq
import Derived.Test.YtpdhhkfllkgahaaGreatDoorKsq
set_option linter.all false
namespace Go.Proofs.YtpdhhkfllkgahaaGreatDoor
namespace Ab
def endT (s:ByteArray):Tok:=⟨0,strB [],0,0,s.size⟩
def mkT (t:Tk)(p:Nat):Tok:=⟨t.kind,t.text,t.n,t.scale,p⟩
def pfT (t:Tok):List Tok⊕Nat→List Tok⊕Nat
 |.inl l=>.inl (t::l)
 |.inr z=>.inr z
def yn (s:ByteArray):Nat→Nat→List Tok⊕Nat
 |0,p=>.inr p
 |n+1,p=>if stop isBl s p=s.size then .inl [endT s]else match tok s (stop isBl s p)with
  |some (t,e)=>pfT (mkT t (stop isBl s p)) (yn s n e)
  |none=>.inr (stop isBl s p)
theorem qjQ (s:ByteArray):∀ n p,qcV s n p=match yn s n p with|.inl L=>.inl (rwT L)|.inr z=>.inr z
 |0,p=>rfl
 |n+1,p=>by
  unfold qcV yn;split
  · rfl
  ·
   cases tok s (stop isBl s p)with
   |none=>rfl
   |some x=>
    obtain⟨t,e⟩:=x;simp only[qjQ s n e];cases yn s n e with
    |inl L=>rfl
    |inr z=>rfl
theorem qjo {s:ByteArray}{p:Nat}{t:Tk}{e:Nat}(ht:tok s p=some (t,e)):t.kind≠0:=by
 unfold tok qd6 Zt qdt qav at ht;intro hk
 repeat' split at ht
 all_goals first|(cases ht;done)|(cases ht;simp at hk)
theorem vE (s:ByteArray):∀ n p L,p≤s.size→yn s n p=.inl L→∃ T,L=T++[endT s]∧(∀ t∈T,t.kind≠0)∧T.length≤s.size-p
 |0,_,_,_,h=>by cases h
 |n+1,p,L,hp,h=>by
  unfold yn at h;have h0:=zC isBl s p;split at h
  · cases h;exact⟨[],rfl,by simp,by simp⟩
  ·
   rename_i hne;have hz:stop isBl s p<s.size:=by have:=yQ (f:=isBl) hp;omega
   cases ht:tok s (stop isBl s p)with
   |none=>rw[ht]at h;cases h
   |some x=>
    obtain⟨t,e⟩:=x;rw[ht]at h;have he:=qeR hz ht;cases hs:yn s n e with
    |inr z=>simp only[hs,pfT]at h;cases h
    |inl L2=>
     simp only[hs,pfT]at h;cases h;obtain⟨T,rfl,h2,h3⟩:=vE s n e L2 he.2 hs;refine⟨mkT t (stop isBl s p)::T,rfl,fun x hx=>?_,by simp only[List.length_cons];omega⟩;rcases List.mem_cons.1 hx with rfl|hx
     · exact qjo ht
     · exact h2 x hx
def shT (c:Int)(t:Tok):Tok:=⟨t.kind,t.text,t.n,t.scale,t.pos+c⟩
mutual
def shX (c:Int):Ex→Ex
 |.mk op args n s a b p=>.mk op (shXs c args) n s a b (p+c)
def shXs (c:Int):List Ex→List Ex
 |[]=>[]
 |x::l=>shX c x::shXs c l
end
mutual
theorem qhc (c:Int):∀ x:Ex,cnt (shX c x)=cnt x
 |.mk op args n s a b p=>by rw[shX,cnt,cnt,qhb c args]
theorem qhb (c:Int):∀ l:List Ex,cnts (shXs c l)=cnts l
 |[]=>by rw[shXs]
 |x::l=>by rw[shXs,cnts,cnts,qhc c x,qhb c l]
end
theorem qkf (c:Int):∀ l:List Ex,(shXs c l).length=l.length
 |[]=>by rw[shXs]
 |x::l=>by rw[shXs,List.length_cons,List.length_cons,qkf c l]
mutual
theorem qiB (c:Int):∀ x:Ex,qbA (shX c x) x=true
 |.mk op args n s a b p=>by rw[shX,qbA,qfn c args,qkf];simp
theorem qfn (c:Int):∀ l:List Ex,Zp (shXs c l) l=true
 |[]=>by rw[shXs,Zp]
 |x::l=>by rw[shXs,Zp,qiB c x,qfn c l];rfl
end
section
variable {L L':List Tok} {d:Nat} {c:Int}
def Agr (L L':List Tok)(d:Nat)(c:Int)(i j:Nat):Prop:=∀ k,i≤k→k<j→tkA L' (k+d)=shT c (tkA L k)
def Stp (t:Tok):Prop:=∀ l,opA l t=0
def EndA (L L':List Tok)(d:Nat)(c:Int)(j:Nat):Prop:=tkA L' (j+d)=shT c (tkA L j)∨Stp (tkA L' (j+d))
theorem Agr.at {i j:Nat}(h:Agr L L' d c i j)(m:Nat)(hm:i+m<j):tkA L' (i+d+m)=shT c (tkA L (i+m)):=by rw[← h (i+m) (by omega) hm];congr 1;omega
theorem Agr.sub {i j i' j':Nat}(h:Agr L L' d c i j)(h1:i≤i')(h2:j'≤j):Agr L L' d c i' j':=fun k a b=>h k (by omega) (by omega)
def Dp (o o':Nat)(R r:Option PO):Prop:=r=R∨o<o'∧∃ p,r=some (.err p 14)
theorem Dp.bnd {o o':Nat}{x:Ex}{j:Nat}{r:Option PO}(h:Dp o o' (some (.ok x j)) r){f:Ex→Nat→Option PO}{R:Option PO}(hf:Dp o o' R (f x j)):Dp o o' R (bnd r f):=by
 rcases h with rfl|⟨h1,p,rfl⟩
 · exact hf
 · exact .inr ⟨h1,p,rfl⟩
theorem Dp.up {o o':Nat}{R r:Option PO}(h:Dp (o+1) (o'+1) R r):Dp o o' R r:=by
 rcases h with h|⟨h1,h2⟩
 · exact .inl h
 · exact .inr ⟨by omega,h2⟩
theorem EndA.of {i j k:Nat}(ha:Agr L L' d c i j)(he:EndA L L' d c j)(h1:i≤k)(h2:k≤j):EndA L L' d c k:=by
 by_cases hk:k=j
 · rw[hk];exact he
 · exact .inl (ha k h1 (by omega))
end
end Ab
end Go.Proofs.YtpdhhkfllkgahaaGreatDoor

/-
  The document's parser of queries ends, and the query that it gives is of the form. No claim stands here.
-/
import Derived.Test.YtnnhdcidgfjfpaaGreatDoorV14q
set_option linter.all false
namespace Go.Proofs.YtnnhdcidgfjfpaaGreatDoor
namespace Ab
theorem AllT.imm {X:Rs}(h:AllT X):qG X=X:=by
 induction X with
 |nil=>rfl
 |cons r l a=>obtain⟨k,t,n,s,p,rfl,_⟩:=h _ (au ..);rw[qG,a λx b=>h x (aB _ b)];rfl
theorem AllB.imm {X:Rs}(h:AllB X):qG X=X:=by
 induction X with
 |nil=>rfl
 |cons r l a=>obtain⟨Y,rfl,_⟩:=h _ (au ..);rw[qG,a λx b=>h x (aB _ b)];rfl
theorem AllX.imm {X:Rs}{m:Nat}(h:AllX X m):qG X=X:=by obtain⟨ts,rfl,_⟩:=h;exact qxR ts
theorem AllX.nil {m:Nat}:AllX [] m:=⟨[],rfl,by simp,Nat.zero_le _⟩
theorem TK.zero {L:Rs}(h:TK L):TI L 0:=by
 refine⟨h,Int.le_refl 0,?_⟩;obtain⟨_,_,_,_,_,_,e⟩:=h;cases L with
 |nil=>simp at e
 |cons x l=>simp
def QB (B W:Rs)(key:By):Prop:=AllB B/\B.length<=6000/\AllX W 20001/\key.size<=4000
def I8:S8->Prop
 |.e _=>True
 |.h0 a b c d e f g i=>QB c d g
 |.h1 a b c d e f g i j l m n o p q=>TI a b/\f=[]/\AllX g 20001/\l.size<=4000/\p.size<=4000
 |.h2 a b c d e f g i j l m n o p q=>TI a b/\AllB f/\f.length<=b+1/\AllX g 20001/\l.size<=4000
 |.h3 a b c d e f g i j l m n o p q t=>TI b c/\AllB g/\g.length<=c+1/\AllX i 20001/\m.size<=4000/\(a=true->c+1<b.length)
 |.h4 a b c d e f g i j l m n o p q t=>TI b c/\QB g i m
 |.h5 a b c d e f g i j l m n o p q=>QB f g l
 |.h6 a b c d e f g i=>QB c d g
 |.h7 a b c d e f g i=>QB c d g
 |.h8 a b c d e f g i=>QB c d g
def m8:S8->Nat
 |.e _=>10000000
 |.h1 a b ..=>qvn a b+20
 |.h2 a b ..=>qvn a b+10
 |.h3 a b c ..=>qvn b c+9
 |.h4 ..=>5
 |.h5 ..=>4
 |_=>0
instance {a:By}:Ends (λk=>g8 k a) True λ(r:Rs×Rs×Int×Int×By×Int×Int×Int)=>QB r.1 r.2.1 r.2.2.2.2.1:=⟨λ_=>by
 have nil:QB [] [] (strB []):=⟨by simp[AllB],by simp,.nil,z4⟩
 refine .loop I8 m8 (λs h u=>match s,h,u with
 |.e a,_,u=>by simp only[nt,qbD];refine .call trivial λr D=>?_;simp only[tup3];refine .br (λ_=>u (.h0 ..) nil (by simp[m8])) λI=>?_;have E:=D (by simpa using I);have v:=E.zero;rw[E.1.imm];refine .call v λq z=>?_;have P:=E.2.1;have:=qvm z;exact u (.h1 ..) ⟨z.ti,rfl,.nil,z4,z4⟩ (by simp only[m8,tup4];simp only[qvn]at *;omega)
 |.h0 a b c d e f g i,h,u=>by simp only[nt,qbD];exact .ret h
 |.h1 a b c d e f g i j l m n o p q,⟨v,x,A,y,_⟩,u=>by simp only[nt,qbD];subst x;refine .call ⟨v,by simp[AllB],by simp⟩ λr ⟨w,r2,C,F⟩=>?_;simp only[tup6,F];have:=w.ti.2.1;exact u (.h2 ..) ⟨w.ti,r2,by simp at C;omega,A,y⟩ (by have:=qvm w;simp only[m8];omega)
 |.h2 a b c d e f g i j l m n o p q,⟨v,x,A,y,B⟩,u=>by simp only[nt,qbD];refine .br (λ_=>?_) λ_=>u (.h3 ..) ⟨v,x,A,y,B,λh=>by cases h⟩ (by simp only[m8];omega);refine .call v λr ⟨w,r2⟩=>?_;simp only[tup4,w];exact u (.h3 ..) ⟨v,x,A,y,B,r2⟩ (by simp only[m8];omega)
 |.h3 a b c d e f g i j l m n o p q t,⟨v,x,A,y,B,G⟩,u=>by
  simp only[nt,qbD];have lt:=v.1.2.1;have J:=v.2.2;have K:=v.2.1;refine .br (λH=>?_) λ_=>?_
  . have s:=Aft.next v (G H);have Q:=qwI v (G H);rw[v.w]at *;refine .call ⟨s.ti,x,by omega⟩ λr ⟨w,r2,C,F⟩=>?_;simp only[tup6,F];have:=w.le;exact u (.h2 ..) ⟨w.ti,r2,by omega,y,B⟩ (by have:=qvm w;simp only[m8];omega)
  . refine .call ⟨v,y⟩ λr ⟨w,r2,C⟩=>?_;simp only[tup6,r2];refine .call ⟨w.ti,B⟩ λq ⟨L,M,N,O⟩=>?_;simp only[ql,M,N];have h:=L.ti;have z:QB g r.2.2.2.2.2 q.2.2.2.2.2.2.2.2.1:=⟨x,by omega,C,O⟩
    refine .br (λ_=>?_) λ_=>u (.h4 ..) ⟨h,z⟩ (by simp only[m8];omega);refine .ixR h.2.1 h.2.2 λrow D=>?_;obtain⟨kd,tx,n,s,p,w1,R,S⟩:=h.tok;obtain rfl:=aQ (D.symm.trans w1);simp only[qjp];exact u (.h4 ..) ⟨h,z⟩ (by simp only[m8];omega)
 |.h4 a b c d e f g i j l m n o p q t,⟨v,x⟩,u=>by simp only[nt,qbD];refine .br (λ_=>?_) λ_=>u (.h5 ..) x (by simp[m8]);refine .call v λr ⟨w,r2⟩=>?_;simp only[tup5,r2];exact u (.h5 ..) x (by simp[m8])
 |.h5 a b c d e f g i j l m n o p q,h,u=>by simp only[nt,qbD];refine .br (λ_=>u (.h6 ..) nil (by simp[m8])) λ_=>?_;rw[h.1.imm,h.2.2.1.imm];refine .call h.2.2.1 λr _=>?_;refine .br (λ_=>u (.h7 ..) nil (by simp[m8])) λ_=>u (.h8 ..) h (by simp[m8])
 |.h6 a b c d e f g i,h,u=>by simp only[nt,qbD];exact .ret h
 |.h7 a b c d e f g i,h,u=>by simp only[nt,qbD];exact .ret h
 |.h8 a b c d e f g i,h,u=>by simp only[nt,qbD];exact .ret h) _ trivial⟩
end Ab
end Go.Proofs.YtnnhdcidgfjfpaaGreatDoor

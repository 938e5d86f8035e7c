/-
  The document's parser of queries: items and branches. No claim stands here.
-/
import Derived.Test.YtnnhdcidgfjfpaaGreatDoorV10q
set_option linter.all false
namespace Go.Proofs.YtnnhdcidgfjfpaaGreatDoor
namespace Ab
def I46 (L:Rs)(i:Int)(h k:Rs):S46b->Prop
 |.e a b c d e f g r ..=>Aft L i b c/\g=h/\r=k
 |.h0 a _ _ _ _ _ _ r j l m n o p q t u ..=>Aft L i m n/\t=h/\u=k
 |.h1 a b c d e f g r j l m n o p q ..=>Aft L i j l/\p=h/\q=k
 |.h2 a b c d e f g r j l m n o p q t ..=>Aft L i l m/\q=h/\t=k/\c.size<=4000/\(a=true->m+1<l.length)
 |.h3 a b c d e f g r j l m n o p q ..=>Aft L i j l/\p=h/\q=k/\b.size<=4000
def m46:S46b->Nat
 |.e ..=>5
 |.h0 ..=>4
 |.h1 ..=>3
 |.h2 ..=>2
 |.h3 ..=>1
instance {n:Int} {L:Rs} {i o e a H wd I:Int} {key:By} {c d:Rs}:Ends (λk=>g46b k n L i o e a c d H wd key I) (TI L i)
  λ(r:Int×By×By×Int×Rs×Int×Int×Int×Rs×Rs)=>r.2.1.size<=4000/\r.2.2.1.size<=4000/\Aft L i r.2.2.2.2.1 r.2.2.2.2.2.1/\r.2.2.2.2.2.2.2.2=(c,d):=⟨λJ=>.loop (I46 L i c d) m46 (λs h w=>match s,h,w with
 |.e a b c1 D E f g B ..,⟨v,x,y⟩,w=>by
  simp only[nt,qwM];subst x y;have h:=v.ti;refine .ixR h.2.1 h.2.2 λrow F=>?_;obtain⟨kd,tx,n,s,p,x,y,A⟩:=h.tok;obtain rfl:=aQ (F.symm.trans x);simp only[qjp];refine .br (λ_=>.br (λ_=>?_) λ_=>?_) λ_=>?_
  . exact w (.h0 ..) ⟨v,rfl,rfl⟩ (by simp[m46])
  . refine .call h λr ⟨z,_⟩=>?_;simp only[tup4,z];exact w (.h0 ..) ⟨v,rfl,rfl⟩ (by simp[m46])
  . exact w (.h0 ..) ⟨v,rfl,rfl⟩ (by simp[m46])
 |.h0 a _ _ _ _ _ _ B j l m n o p q t u ..,⟨v,x,y⟩,w=>by
  simp only[nt,qwM];subst x y;refine .br (λ_=>?_) λ_=>?_
  . refine .call v.ti λr ⟨z,r2⟩=>?_;simp only[tup5,z,r2];exact .ret ⟨z4,z4,v,rfl⟩
  . refine .call v.ti λr ⟨z,r2⟩=>?_;simp only[tup4,z];refine .br (λF=>?_) λ_=>?_
    . exact w (.h1 ..) ⟨v.step (r2 F),rfl,rfl⟩ (by simp[m46])
    . exact w (.h1 ..) ⟨v,rfl,rfl⟩ (by simp[m46])
 |.h1 a b c1 D E f g B j l m n o p q ..,⟨v,x,y⟩,w=>by
  simp only[nt,qwM];subst x y;refine .call v.ti λr ⟨z,r2,G⟩=>?_;simp only[tup7,G];have C:=v.trans r2;refine .br (λ_=>.br (λ_=>?_) λ_=>?_) λ_=>?_
  . refine .call C.ti λq ⟨K,M⟩=>?_;simp only[tup4,K];exact w (.h2 ..) ⟨C,rfl,rfl,z,M⟩ (by simp[m46])
  . exact w (.h2 ..) ⟨C,rfl,rfl,z,λh=>by cases h⟩ (by simp[m46])
  . exact w (.h2 ..) ⟨C,rfl,rfl,z,λh=>by cases h⟩ (by simp[m46])
 |.h2 a b c1 D E f g B j l m n o p q t ..,⟨v,x,y,A,N⟩,w=>by
  simp only[nt,qwM];refine .br (λO=>?_) λ_=>?_
  . exact w (.h3 ..) ⟨v.step (N O),x,y,A⟩ (by simp[m46])
  . exact w (.h3 ..) ⟨v,x,y,A⟩ (by simp[m46])
 |.h3 a b c1 D E f g B j l m n o p q ..,⟨v,x,y,A⟩,w=>by simp only[nt,qwM];subst x y;refine .call v.ti λr ⟨z,r2,G⟩=>?_;simp only[tup7,G];exact .ret ⟨A,z,v.trans r2,rfl⟩) _ ⟨.same J,rfl,rfl⟩⟩
def itR (f:Int)(t n:By)(p:Int):List Cell:=[ic f,sc t,sc n,ic p]
def AllI (X:Rs):Prop:=∀ row∈X,∃ (f:Int) (t n:By) (p:Int),row=itR f t n p/\t.size<=4000/\n.size<=4000
theorem AllI.add {X:Rs}(h:AllI X){f:Int}{t n:By}{p:Int}(a:t.size<=4000)(b:n.size<=4000):AllI (X++[itR f t n p]):=λrow hr=>by
 rcases List.mem_append.1 hr with hr|hr
 . exact h row hr
 . obtain rfl:=aU.1 hr;exact⟨f,t,n,p,rfl,a,b⟩
theorem AllI.imm {X:Rs}(h:AllI X):qG X=X:=by
 induction X with
 |nil=>rfl
 |cons r l a=>obtain⟨f,t,n,p,rfl,_⟩:=h _ (au ..);rw[qG,a λx b=>h x (aB _ b)];rfl
def AllB (B:Rs):Prop:=∀ row∈B,∃ X:Rs,row=[.imm X]/\AllI X/\X.length<=6000
theorem AllB.add {B X:Rs}(h:AllB B)(a:AllI X)(b:X.length<=6000):AllB (B++[[.imm X]]):=λrow hr=>by
 rcases List.mem_append.1 hr with hr|hr
 . exact h row hr
 . obtain rfl:=aU.1 hr;exact⟨X,rfl,a,b⟩
theorem apI {b:Rs}{a c d e:Cell}(h:b.length<=6000):apOk 48 4 b [[a,c,d,e]]=true:=by simp[apOk,lim];omega
theorem apB {b:Rs}{a:Cell}(h:b.length<=6000):apOk 24 1 b [[a]]=true:=by simp[apOk,lim];omega
theorem Aft.lt {L:Rs}{i:Int}{a:Rs}{j:Int}(h:Aft L i a j):0<=j/\j<5000:=by have:=h.ti.1.2.1;have:=h.ti.2.2;have:=h.ti.2.1;omega
def I22 (L:Rs)(i:Int)(k l:Rs):S22b->Prop
 |.e a b c d e f g ..=>Aft L i a b/\f=k/\g=l
 |.h0 a b c d e f g h ..=>Aft L i b c/\g=k/\h=l
 |.h1 a b c d e f g ..=>Aft L i a b/\f=k/\g=l
 |.h2 a b c d e f g h ..=>Aft L i b c/\g=k/\h=l/\AllI a/\a.length<=c
 |.h3 a b c d e f g h j ..=>Aft L i c d/\h=k/\j=l/\AllI a/\a.length<=d+1/\(b=false->d+1<c.length)
 |.h4 a b c d e f g h ..=>Aft L i b c/\g=k/\h=l/\AllI a/\a.length<=6000
def m22:S22b->Nat
 |.e a b ..=>qvn a b+9
 |.h0 a b c ..=>qvn b c+8
 |.h1 a b ..=>qvn a b+7
 |.h2 a b c ..=>qvn b c+6
 |.h3 a b c d ..=>qvn c d+5
 |.h4 ..=>0
instance {L:Rs} {i o e a F wd G:Int} {key:By} {c d:Rs}:Ends (λk=>g22b k L i o e a c d F wd key G) (TI L i/\AllB c/\c.length<=6000)
  λ(r:Rs×Int×Int×Int×Rs×Rs)=>Aft L i r.1 r.2.1/\AllB r.2.2.2.2.1/\r.2.2.2.2.1.length=c.length+1/\r.2.2.2.2.2=d:=⟨λ⟨H,I,J⟩=>.loop (I22 L i c d) m22 (λs h m=>match s,h,m with
 |.e a b c1 x y f g ..,⟨l,n,p⟩,m=>by simp only[nt,qwm];subst n p;refine .br (λ_=>?_) λ_=>m (.h0 ..) ⟨l,rfl,rfl⟩ (by simp only[m22];omega);refine .call l.ti λr ⟨u,r2⟩=>?_;simp only[tup4,u];refine .br (λ_=>?_) λ_=>?_<;>exact m (.h0 ..) ⟨l,rfl,rfl⟩ (by simp only[m22];omega)
 |.h0 a b c1 x y f g A ..,⟨l,n,p⟩,m=>by simp only[nt,qwm];subst n p;refine .br (λ_=>?_) λ_=>m (.h1 ..) ⟨l,rfl,rfl⟩ (by simp only[m22];omega);refine .call l.ti λr ⟨u,r2⟩=>?_;simp only[tup5,u,r2];exact m (.h1 ..) ⟨l,rfl,rfl⟩ (by simp only[m22];omega)
 |.h1 a b c1 x y f g ..,⟨l,n,p⟩,m=>by simp only[nt,qwm];subst n p;refine .call l.ti λr ⟨u,r2⟩=>?_;simp only[tup6,r2];have t:=l.trans u;refine .call t.ti λq ⟨z,B⟩=>?_;simp only[B];have v:=t.trans z;exact m (.h2 ..) ⟨v,rfl,rfl,by simp[AllI],by have:=v.lt;simp;omega⟩ (by have:=qvm u;have:=qvm z;simp only[m22];omega)
 |.h2 a b c1 x y f g A ..,⟨l,n,p,t,v⟩,m=>by
  simp only[nt,qwm];subst n p;have lt:=l.lt;refine .br (λ_=>?_) λ_=>m (.h4 ..) ⟨l,rfl,rfl,t,by omega⟩ (by simp only[m22];omega);refine .call l.ti λr ⟨u,r2,C,K⟩=>?_;simp only[ql,K];have le:=C.le;have w:=l.trans C;have D:=qvm C;refine .gd (apI (by omega)) (.br (λ_=>?_) λ_=>?_)
  . exact m (.h3 ..) ⟨w,rfl,rfl,t.add u r2,by simp;omega,λh=>by cases h⟩ (by simp only[m22];omega)
  . refine .call w.ti λq ⟨z,B⟩=>?_;simp only[tup4,z];exact m (.h3 ..) ⟨w,rfl,rfl,t.add u r2,by simp;omega,λh=>B (by simpa using h)⟩ (by simp only[m22];omega)
 |.h3 a b c1 x y f g A j ..,⟨l,n,p,t,v,w⟩,m=>by simp only[nt,qwm];have lt:=l.lt;refine .br (λ_=>m (.h4 ..) ⟨l,n,p,t,by omega⟩ (by simp only[m22];omega)) λE=>?_;have D:=l.step (w E);have M:=qwI l.ti (w E);rw[l.ti.w]at *;exact m (.h2 ..) ⟨D,n,p,t,by omega⟩ (by simp only[m22];omega)
 |.h4 a b c1 x y f g A ..,⟨l,n,p,t,v⟩,m=>by simp only[nt,qwm];subst n p;refine .call l.ti λr ⟨u,r2⟩=>?_;simp only[tup6,r2];refine .gd (apB J) ?_;rw[t.imm];exact .ret ⟨l.trans u,I.add t v,by simp,rfl⟩) _ ⟨.same H,rfl,rfl⟩⟩
end Ab
end Go.Proofs.YtnnhdcidgfjfpaaGreatDoor

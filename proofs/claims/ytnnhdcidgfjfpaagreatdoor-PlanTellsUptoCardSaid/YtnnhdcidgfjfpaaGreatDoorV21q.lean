/-
  The document's printer of queries ends, and what it prints is of the form. No claim stands here.
-/
import Derived.Test.YtnnhdcidgfjfpaaGreatDoorV20q
set_option linter.all false
namespace Go.Proofs.YtnnhdcidgfjfpaaGreatDoor
namespace Ab
theorem qCC {α:Type}{f:Int}{t n:By}{p:Int}(k:Int->By->By->Int->Option α):qxj (itR f t n p) k=k f t n p:=rfl
theorem qEj {α:Type}{X:Rs}(k:Rs->Option α):un_m [.imm X] k=k X:=rfl
def RX (b:Rs):Prop:=∃ ts:List Tx,b=trows ts/\(∀ t∈ts,t.Good/\Rt t)/\cnts ts<=20001
def KB (A:Rs)(a d:Int):Prop:=0<A.length/\1<=a/\a<=3/\∀ i row,i<d.toNat->A[i]? = some row->∃ X:Rs,row=[.imm X]/\0<X.length
def RQ (A b:Rs)(a:Int):Prop:=KB A a A.length/\RX b
def I73 (A:Rs)(ts:List Tx)(h:Int):S73->Prop
 |.e a b c ..=>a=A/\b=trows ts/\c=h
 |.h0 a b c d e f g ..=>b=A/\c=A.length/\0<=d/\d<=A.length/\e=A/\f=trows ts/\g=h/\(a=true->KB A h d)
 |.h1 a b c d e f g i j l ..=>b=A/\c=A.length/\0<=d/\d<A.length/\i=A/\j=trows ts/\l=h/\AllI e/\e.length<=6000/\f=e.length/\0<=g/\g<=e.length/\A[d.toNat]? = some [.imm e]/\(a=true->KB A h d/\0<e.length)
 |.h3 a b c d e f g i j l ..=>b=A/\c=A.length/\0<=d/\d<A.length/\i=A/\j=trows ts/\l=h/\AllI e/\e.length<=6000/\f=e.length/\0<=g/\g<e.length/\A[d.toNat]? = some [.imm e]/\(a=true->KB A h d/\0<e.length)
 |.h2 a b c d e f ..=>b=ts.length/\0<=c/\c<=ts.length/\d=A/\e=trows ts/\f=h/\(a=true->KB A h A.length/\∀ i t,i<c.toNat->ts[i]? = some t->Rt t)
 |.h4 a b c d e f ..=>b=ts.length/\0<=c/\c<ts.length/\d=A/\e=trows ts/\f=h/\(a=true->KB A h A.length/\∀ i t,i<c.toNat+1->ts[i]? = some t->Rt t)
def m73:S73->Nat
 |.e ..=>10000000000
 |.h0 _ b _ d ..=>1000000+20000*(b.length-d.toNat)+1
 |.h1 _ b _ d e _ g ..=>1000000+20000*(b.length-d.toNat-1)+2*(e.length-g.toNat)+2
 |.h3 _ b _ d e _ g ..=>1000000+20000*(b.length-d.toNat-1)+2*(e.length-g.toNat)+1
 |.h2 _ b c ..=>2*(b.toNat-c.toNat)+1
 |.h4 _ b c ..=>2*(b.toNat-c.toNat)
instance {a b:Rs} {c d:Int} {e:By} {f:Int}:Ends (λk=>g73 k a b c d e f) (AllB a/\a.length<=6000/\AllX b 20001) λr=>r=true->RQ a b c:=⟨λ⟨p0,p1,ts,p2,p3,p4⟩=>by
 have p5:=qvl ts;refine .loop (I73 a ts c) m73 (λs h A=>match s,h,A with
 |.e x y z u v w,⟨G,C,D⟩,A=>by
  simp only[nt,qsw];subst G C D;refine .br (λg0=>.br (λg1=>.br (λg2=>.br (λ_=>.br (λ_=>.br (λ_=>?_) (λ_=>.call trivial λr _=>?_)) (λ_=>?_)) (λ_=>?_)) (λ_=>?_)) (λ_=>?_)) (λ_=>?_)
  all_goals
   try simp only[aW]at g0 g1 g2
   exact A (.h0 ..) ⟨rfl,rfl,Int.le_refl 0,by omega,rfl,rfl,rfl,λh=>by first|(cases h;done)|exact⟨by omega,by omega,by omega,λi row W=>by simp at W⟩⟩ (by simp only[m73];omega)
 |.h0 x y z u v w g i j l,⟨G,C,D,N,E,J,F,O⟩,A=>by
  simp only[nt,qsw];subst G J F C;refine .br (λp=>?_) λp=>A (.h2 ..) ⟨by rw[ve],Int.le_refl 0,by omega,E,rfl,rfl,λB=>⟨?_,λi t W=>by simp at W⟩⟩ (by simp only[m73,ve];omega)
  . simp only[aW]at p;refine .ixR D p λrow I=>?_;obtain⟨X,rfl,R,S⟩:=p0 _ (aM I);simp only[qEj];refine .br (λB=>?_) λ_=>?_
    . exact A (.h1 ..) ⟨rfl,rfl,D,p,E,rfl,rfl,R,S,rfl,Int.le_refl 0,by omega,I,λh=>⟨O B,by simpa using h⟩⟩ (by simp only[m73];omega)
    . exact A (.h1 ..) ⟨rfl,rfl,D,p,E,rfl,rfl,R,S,rfl,Int.le_refl 0,by omega,I,λh=>by cases h⟩ (by simp only[m73];omega)
  . simp only[decide_eq_false_iff_not]at p;have:=O B;rwa [show u=(y.length:Int)by omega]at this
 |.h1 x y z u e f g i j l m n o,⟨G,C,D,N,E,J,F,O,Y,Z,K,h11,L,M⟩,A=>by
  simp only[nt,qsw];subst G C J F Z;refine .br (λp=>?_) λp=>?_
  . simp only[aW]at p;refine .ixR K p λrow I=>?_;obtain⟨k1,s1,s2,V,rfl,_⟩:=O _ (aM I);simp only[qCC];refine .br (λB=>.br (λ_=>.br (λ_=>.call trivial λr _=>.br (λ_=>.call trivial λr _=>?_) (λ_=>?_)) (λ_=>?_)) (λ_=>?_)) (λ_=>?_)
    all_goals exact A (.h3 ..) ⟨rfl,rfl,D,N,E,rfl,rfl,O,Y,rfl,K,p,L,λh=>by first|exact M B|cases h⟩ (by simp only[m73];omega)
  .
   rw[w1 D (by omega)];refine A (.h0 ..) ⟨rfl,rfl,by omega,by omega,E,rfl,rfl,λB=>?_⟩ (by simp only[m73];omega);obtain⟨⟨k1,V,k3,k4⟩,k5⟩:=M B;refine⟨k1,V,k3,λq row T H=>?_⟩;by_cases P:q<u.toNat
   . exact k4 q row P H
   . obtain rfl:q=u.toNat:=by omega
     rw[L]at H;cases H;exact⟨_,rfl,k5⟩
 |.h2 x b c d e f g i j,⟨G,C,D,N,E,J,F⟩,A=>by
  simp only[nt,qsw];subst G N E J;refine .br (λp=>?_) λp=>.ret λB=>?_
  .
   simp only[aW]at p;refine .br (λB=>?_) λ_=>A (.h4 ..) ⟨rfl,C,p,rfl,rfl,rfl,λh=>by cases h⟩ (by simp only[m73];omega);refine .ixR C (by rw[ve];exact p) λrow I=>?_;rw[qvk]at I;obtain⟨t,U,rfl⟩:=aG.1 I;have hc:=qvh (aM U);obtain⟨o1,n1,s1,p1,m1,a1,xs⟩:=t;simp only[Tx.cnt]at hc;simp only[qzz];refine .br (λ_=>.bind (qC6 20002 o1 n1 s1 p1 m1 a1 xs (by omega) (by omega)) λr I=>?_) λ_=>A (.h4 ..) ⟨rfl,C,p,rfl,rfl,rfl,λh=>by cases h⟩ (by simp only[m73];omega);refine A (.h4 ..) ⟨rfl,C,p,rfl,rfl,rfl,λhy=>⟨(F B).1,λq t T Q=>?_⟩⟩ (by simp only[m73];omega);by_cases P:q<c.toNat
   . exact(F B).2 q t P Q
   . obtain rfl:q=c.toNat:=by omega
     rw[U]at Q;cases Q;exact I hy
  . simp only[decide_eq_false_iff_not]at p;obtain⟨k1,V⟩:=F B;refine⟨k1,ts,p2,λt U=>⟨p3 t U,?_⟩,p4⟩;obtain⟨q,T⟩:=List.getElem?_of_mem U;have:=(az.1 T).1;exact V q t (by omega) T
 |.h3 x y z u e f g i j l m n o,⟨G,C,D,N,E,J,F,O,Y,Z,K,h11,L,M⟩,A=>by simp only[nt,qsw];rw[w1 K (by omega)];exact A (.h1 ..) ⟨G,C,D,N,E,J,F,O,Y,Z,by omega,by omega,L,M⟩ (by simp only[m73];omega)
 |.h4 x b c d e f g i j,⟨G,C,D,N,E,J,F⟩,A=>by simp only[nt,qsw];rw[w1 C (by omega)];exact A (.h2 ..) ⟨G,by omega,by omega,N,E,J,λB=>⟨(F B).1,λq t T=>(F B).2 q t (by omega)⟩⟩ (by simp only[m73];omega)) _ ⟨rfl,p2,rfl⟩⟩
instance {a:Rs}:Ends (λk=>g74 k a) (AllI a/\a.length<=8) λr=>r.size<=80000:=⟨λ⟨w,A⟩=>.loop
 (λs=>match s with
  |.e x=>x=a
  |.h0 x y c d=>y=a/\c=a.length/\0<=d/\d<=a.length/\(x.size:Int)<=4+8010*d
  |.h1 x y c d e f g i=>y=a/\c=a.length/\0<=d/\d<a.length/\(x.size:Int)<=6+8010*d/\f.size<=4000/\g.size<=4000
  |.h2 x y c d e f g i=>y=a/\c=a.length/\0<=d/\d<a.length/\(x.size:Int)<=7+8010*d/\f.size<=4000/\g.size<=4000
  |.h3 x y c d e f g i=>y=a/\c=a.length/\0<=d/\d<a.length/\(x.size:Int)<=4008+8010*d/\g.size<=4000)
 (λs=>match s with
  |.e _=>1000
  |.h0 _ y _ d=>4*(y.length-d.toNat)+3
  |.h1 _ y _ d ..=>4*(y.length-d.toNat)+2
  |.h2 _ y _ d ..=>4*(y.length-d.toNat)+1
  |.h3 _ y _ d ..=>4*(y.length-d.toNat)) (λs h b=>match s,h,b with
 |.e x,h,b=>by simp only[nt,qpu];subst h;exact b (.h0 ..) ⟨rfl,rfl,Int.le_refl 0,by omega,by simp[quY]⟩ (by dsimp only;omega)
 |.h0 x y c d,⟨l,m,j,n,t⟩,b=>by
  simp only[nt,qpu];subst l m;refine .br (λo=>?_) λ_=>.gd ?_ (.ret ?_)
  . simp only[aW]at o;refine .ixR j o λrow z=>?_;obtain⟨k1,B,C,D,rfl,u,v⟩:=w _ (aM z);simp only[qCC];refine .br (λ_=>.gd ?_ ?_) λ_=>b (.h1 ..) ⟨rfl,rfl,j,o,by omega,u,v⟩ (by dsimp only;omega)
    . simp only[aW,quY,List.length_cons,List.length_nil];omega
    . exact b (.h1 ..) ⟨rfl,rfl,j,o,by simp only[ByteArray.size_append,quY,List.length_cons,List.length_nil];omega,u,v⟩ (by dsimp only;omega)
  all_goals (simp only[aW,ByteArray.size_append,quY,List.length_cons,List.length_nil];omega)
 |.h1 x y c d e f g i,⟨l,m,j,n,t,p,q⟩,b=>by
  simp only[nt,qpu];refine .br (λ_=>.gd ?_ ?_) λ_=>b (.h2 ..) ⟨l,m,j,n,by omega,p,q⟩ (by dsimp only;omega)
  . simp only[aW,quY,List.length_cons,List.length_nil];omega
  . exact b (.h2 ..) ⟨l,m,j,n,by simp only[ByteArray.size_append,quY,List.length_cons,List.length_nil];omega,p,q⟩ (by dsimp only;omega)
 |.h2 x y c d e f g i,⟨l,m,j,n,t,p,q⟩,b=>by
  simp only[nt,qpu];refine .gd ?_ (.br (λ_=>.gd ?_ ?_) λ_=>?_)
  . simp only[aW];omega
  . simp only[aW,ByteArray.size_append,quY,List.length_cons,List.length_nil];omega
  all_goals exact b (.h3 ..) ⟨l,m,j,n,by simp only[ByteArray.size_append,quY,List.length_cons,List.length_nil];omega,q⟩ (by dsimp only;omega)
 |.h3 x y c d e f g i,⟨l,m,j,n,t,p⟩,b=>by
  simp only[nt,qpu];refine .gd ?_ (.gd ?_ ?_)
  . simp only[aW,quY,List.length_cons,List.length_nil];omega
  . simp only[aW,ByteArray.size_append,quY,List.length_cons,List.length_nil];omega
  . rw[w1 j (by omega)];subst l;exact b (.h0 ..) ⟨rfl,m,by omega,by omega,by simp only[ByteArray.size_append,quY,List.length_cons,List.length_nil];omega⟩ (by dsimp only;omega)) _ rfl⟩
end Ab
end Go.Proofs.YtnnhdcidgfjfpaaGreatDoor

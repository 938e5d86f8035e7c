/-
  The document's parser of queries ends: its tail, the whole. No claim stands here.
-/
import Derived.Test.YtnnhdcidgfjfpaaGreatDoorV13q
set_option linter.all false
namespace Go.Proofs.YtnnhdcidgfjfpaaGreatDoor
namespace Ab
theorem qEO {b:Int}{L:Rs}{i o e a f wd g:Int}{key:By}{c d:Rs}(h:TI L i)(j:b≠0):En (λ(r:Rs×Int×Int×Rs×Rs)=>r.1=L/\r.2.2.2=(c,d)/\r.2.1≠0) λk=>g26b k b L i o e a c d f wd key g:=by refine .go ?_;simp only[nt,qyP];refine .br (λ_=>?_) λl=>.ret ⟨rfl,rfl,by simpa using l⟩;refine .call h λr ⟨m,_⟩=>?_;simp only[tup8,m];exact .ret ⟨rfl,rfl,j⟩
theorem qDf {b:Int}{L:Rs}{i o e a f wd g:Int}{key:By}{c d:Rs}(h:TI L i)(j:b≠0):En (λ(r:Rs×Int×Int×Rs×Rs)=>r.1=L/\r.2.2.2=(c,d)/\r.2.1≠0) λk=>g50b k b L i o e a c d f wd key g:=by refine .go ?_;simp only[nt,qyQ];refine .br (λ_=>?_) λl=>.ret ⟨rfl,rfl,by simpa using l⟩;exact .bind (qEO h j) λr m=>.ret m
def I25 (L:Rs)(i:Int)(k r:Rs):S25->Prop
 |.e a b c d e f g h j l m=>Aft L i a b/\f=k/\g=r/\l.size<=4000
 |.h0 a b c d e f g h j l m n o p=>Aft L i d e/\j=k/\l=r/\o.size<=4000/\AllS a/\a.length=3/\b=a.length/\0<=c/\c<=3
 |.h1 a b c d e f g h j l m n o p q t=>Aft L i f g/\m=k/\n=r/\q.size<=4000/\AllS b/\b.length=3/\c=b.length/\0<=d/\d<3/\(e=true->g+1<f.length)
 |.h2 a b c d e f g h j l m=>Aft L i a b/\f=k/\g=r/\l.size<=4000
 |.h3 a b c d e f g h j l m n o p=>Aft L i d e/\j=k/\l=r/\o.size<=4000/\AllS a/\a.length=3/\b=a.length/\0<=c/\c<3
 |.h4 a b c d e f g h j l m n=>Aft L i b c/\g=k/\h=r/\m.size<=4000/\(e=0->a=false->c+1<b.length)
 |.h5 a b c d e f g h j l m=>Aft L i a b/\f=k/\g=r/\l.size<=4000/\(d=0->b+1<a.length)
 |.h6 a b c d e f g h j l m n=>Aft L i b c/\g=k/\h=r/\m.size<=4000/\(e=0->a=false->c+1<b.length)
 |.h7 a b c d e f g h j l m=>Aft L i a b/\f=k/\g=r/\l.size<=4000/\(d=0->b+1<a.length)
def m25:S25->Nat
 |.e ..=>100
 |.h0 _ _ c ..=>90-4*c.toNat
 |.h1 _ _ _ d ..=>89-4*d.toNat
 |.h3 _ _ c ..=>88-4*c.toNat
 |.h2 ..=>7
 |.h4 ..=>6
 |.h5 ..=>5
 |.h6 ..=>4
 |.h7 ..=>3
instance {L:Rs} {i o e a S wd T:Int} {key:By} {c d:Rs}:Ends (λk=>g25 k L i o e a c d S wd key T) (TI L i/\key.size<=4000)
  λ(r:Rs×Int×Int×Int×Rs×Rs×Int×Int×By×Int)=>Aft L i r.1 r.2.1/\r.2.2.2.2.1=c/\r.2.2.2.2.2.1=d/\r.2.2.2.2.2.2.2.2.1.size<=4000:=⟨λ⟨U,V⟩=>.loop (I25 L i c d) m25 (λs h v=>match s,h,v with
 |.e a b c1 G H f g I j l m,⟨u,z,A,w⟩,v=>by simp only[nt,qjZ];subst z A;refine .call u.ti λr ⟨B,r2⟩=>?_;simp only[tup6,r2];exact v (.h0 ..) ⟨u.trans B,rfl,rfl,w,by simp[AllS,sc,quY],rfl,rfl,Int.le_refl 0,by omega⟩ (by simp[m25])
 |.h0 a b c1 G H f g I j l m n o p,⟨u,z,A,w,y,E,F,C,J⟩,v=>by
  simp only[nt,qjZ];subst z A;rw[F];refine .br (λR=>?_) λ_=>.br (λ_=>?_) λ_=>?_
  .
   simp only[aW]at R;refine .ixR C R λrow D=>?_;obtain⟨t,rfl,_⟩:=y.at D;simp only[qwu];refine .br (λ_=>.br (λ_=>?_) λ_=>?_) λ_=>?_
   . refine .call u.ti λr ⟨B,r2⟩=>?_;simp only[tup4,B];exact v (.h1 ..) ⟨u,rfl,rfl,w,y,E,rfl,C,by omega,r2⟩ (by simp only[m25];omega)
   . exact v (.h1 ..) ⟨u,rfl,rfl,w,y,E,rfl,C,by omega,λh=>by cases h⟩ (by simp only[m25];omega)
   . exact v (.h1 ..) ⟨u,rfl,rfl,w,y,E,rfl,C,by omega,λh=>by cases h⟩ (by simp only[m25];omega)
  . refine .call u.ti λr ⟨B,r2⟩=>?_;simp only[tup5,B,r2];exact v (.h2 ..) ⟨u,rfl,rfl,w⟩ (by simp only[m25];omega)
  . exact v (.h2 ..) ⟨u,rfl,rfl,w⟩ (by simp only[m25];omega)
 |.h1 a b c1 G H f g I j l m n o p q t,⟨u,z,A,w,y,E,F,C,J,W⟩,v=>by
  simp only[nt,qjZ];refine .br (λM=>?_) λ_=>?_
  . exact v (.h3 ..) ⟨u.step (W M),z,A,w,y,E,F,C,J⟩ (by simp only[m25];omega)
  . exact v (.h3 ..) ⟨u,z,A,w,y,E,F,C,J⟩ (by simp only[m25];omega)
 |.h3 a b c1 G H f g I j l m n o p,⟨u,z,A,w,y,E,F,C,J⟩,v=>by simp only[nt,qjZ];rw[w1 C (by omega)];exact v (.h0 ..) ⟨u,z,A,w,y,E,F,by omega,by omega⟩ (by simp only[m25];omega)
 |.h2 a b c1 G H f g I j l m,⟨u,z,A,w⟩,v=>by
  simp only[nt,qjZ];subst z A;refine .call u.ti λr ⟨B,r2⟩=>?_;simp only[tup6,r2];have y:=u.trans B;have h:=y.ti;refine .br (λ_=>?_) λM=>?_
  . refine .ixR h.2.1 h.2.2 λrow D=>?_;obtain⟨kd,tx,n,s,p,K,O,N⟩:=h.tok;obtain rfl:=aQ (D.symm.trans K);simp only[qjp];exact v (.h4 ..) ⟨y,rfl,rfl,w,λ_ X=>N (by simp at X;omega)⟩ (by simp[m25])
  . exact v (.h4 ..) ⟨y,rfl,rfl,w,λh=>by simp[h]at M⟩ (by simp[m25])
 |.h4 a b c1 G H f g I j l m n,⟨u,z,A,w,y⟩,v=>by
  simp only[nt,qjZ];subst z A;refine .br (λ_=>?_) λP=>?_
  . refine .bind (qDf u.ti (by omega)) λr ⟨B,r2,Q⟩=>?_;simp only[tup5,B,r2];exact v (.h5 ..) ⟨u,rfl,rfl,w,λh=>absurd h Q⟩ (by simp[m25])
  . exact v (.h5 ..) ⟨u,rfl,rfl,w,λh=>y h P⟩ (by simp[m25])
 |.h5 a b c1 G H f g I j l m,⟨u,z,A,w,y⟩,v=>by
  simp only[nt,qjZ];have h:=u.ti;refine .br (λM=>?_) λ_=>?_
  . refine .ixR h.2.1 h.2.2 λrow D=>?_;obtain⟨kd,tx,n,s,p,K,O,N⟩:=h.tok;obtain rfl:=aQ (D.symm.trans K);simp only[qjp];exact v (.h6 ..) ⟨u,z,A,w,λh _=>y h⟩ (by simp[m25])
  . exact v (.h6 ..) ⟨u,z,A,w,λh _=>y h⟩ (by simp[m25])
 |.h6 a b c1 G H f g I j l m n,⟨u,z,A,w,y⟩,v=>by
  simp only[nt,qjZ];subst z A;refine .br (λ_=>?_) λP=>?_
  . refine .bind (qDf u.ti (by omega)) λr ⟨B,r2,Q⟩=>?_;simp only[tup5,B,r2];exact v (.h7 ..) ⟨u,rfl,rfl,w,λh=>absurd h Q⟩ (by simp[m25])
  . exact v (.h7 ..) ⟨u,rfl,rfl,w,λh=>y h P⟩ (by simp[m25])
 |.h7 a b c1 G H f g I j l m,⟨u,z,A,w,y⟩,v=>by simp only[nt,qjZ];subst z A;refine .br (λ_=>.ret ⟨u,rfl,rfl,w⟩) λM=>?_;have E:=y (by simpa using M);have h:=u.ti;refine .ixR h.2.1 h.2.2 λrow D=>?_;obtain⟨kd,tx,n,s,p,K,O,N⟩:=h.tok;obtain rfl:=aQ (D.symm.trans K);simp only[qjp];have F:=u.step E;refine .call F.ti λr ⟨B,r2⟩=>?_;simp only[tup4,B];refine .br (λD=>?_) λ_=>.ret ⟨F,rfl,rfl,w⟩;have C:=F.step (r2 D);refine .call C.ti λq ⟨w1,Y⟩=>?_;simp only[tup6,Y];have J:=C.trans w1;have h:=J.ti;refine .ixR h.2.1 h.2.2 λrow D=>?_;obtain⟨kd,tx,n,s,p,K,O,N⟩:=h.tok;obtain rfl:=aQ (D.symm.trans K);simp only[qjp];refine .call h λx ⟨Z,x2,x3⟩=>?_;simp only[tup7,x3];exact .ret ⟨J.trans x2,rfl,rfl,Z⟩) _ ⟨.same U,rfl,rfl,V⟩⟩
end Ab
end Go.Proofs.YtnnhdcidgfjfpaaGreatDoor

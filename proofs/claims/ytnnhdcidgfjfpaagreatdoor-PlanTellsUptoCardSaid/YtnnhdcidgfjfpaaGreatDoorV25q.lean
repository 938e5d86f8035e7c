/-
  The document's planner: a branch, the keys. Each ends. No claim stands here.
-/
import Derived.Test.YtnnhdcidgfjfpaaGreatDoorV24q
set_option linter.all false
namespace Go.Proofs.YtnnhdcidgfjfpaaGreatDoor
namespace Ab
def Wd (A:Rs)(b p:Int):Prop:=0<=b/\0<=p/\∃ X:Rs,A[b.toNat]? = some [.imm X]/\p<X.length
def qvG (A X:Rs):Prop:=∀ row∈X,∃ (n:By) (b p q f k:Int),row=itR8 n b p q f k/\Wd A b p
theorem qvG.is {A X:Rs}(h:qvG A X):qAX X:=λrow a=>let ⟨n,b,p,q,f,k,e,_⟩:=h row a;⟨n,b,p,q,f,k,e⟩
theorem qvG.add {A X:Rs}(h:qvG A X){n:By}{b p q f k:Int}(a:Wd A b p):qvG A (X++[itR8 n b p q f k]):=λrow hr=>by
 rcases List.mem_append.1 hr with hr|hr
 . exact h row hr
 . obtain rfl:=aU.1 hr;exact⟨n,b,p,q,f,k,rfl,a⟩
def GC (c:Nat)(x:Cell):Prop:=x=.nil\/∃ X:Rs,x=.own 7 X/\NR X c
def PRow (c:Nat)(row:List Cell):Prop:=∃ (f t:Int) (G C:Cell),row=[ic f,ic t,G,C]/\GC c G/\GC c C
theorem apIt {b:Rs}{a c d e f g:Cell}(h:b.length<=big):apOk 56 6 b [[a,c,d,e,f,g]]=true:=by unfold big at h;simp[apOk,lim];omega
theorem apPa {b:Rs}{a c d e:Cell}(h:b.length<=big):apOk 64 4 b [[a,c,d,e]]=true:=by unfold big at h;simp[apOk,lim];omega
def J39 (A:Rs)(e:Int)(R T S:Rs)(a:Int)(rows:Rs)(len d:Int)(b f g c:Rs)(n:Nat):Prop:=a=e/\rows=R/\len=R.length/\0<=d/\f=T/\g=S/\qvG A c/\c.length=n/\(b.length:Int)=d/\∀ row∈b,PRow 0 row
def I39 (A:Rs)(h:Int)(R T S:Rs)(m:Nat):S39b->Prop
 |.e a b c d e f ..=>a=h/\b=R/\d=T/\e=S/\qvG A f/\f.length=m
 |.h0 a b c d e f g i j l x y z ..=>J39 A h R T S a c d e i x y z (m+e.toNat)/\e<=R.length
 |.h1 a b c d e f g i j l k n o p q t u x y z ..=>J39 A h R T S a e f g q x y z (m+g.toNat)/\g<R.length/\c=g
 |.h3 a b c d e f g i j l k n o p q t u x y z ..=>J39 A h R T S a e f g q x y z (m+g.toNat)/\g<R.length/\c=g
 |.h2 a b c d e f g i j l k n o p q t x y z ..=>J39 A h R T S a e f g p x y z (m+g.toNat)/\g<R.length/\c=g
 |.h4 a b c d e f g i j l k n o p q t x y z ..=>J39 A h R T S a e f g p x y z (m+g.toNat)/\g<R.length/\c=g
 |.h5 a b c d e f g i j l k n o p q x y z ..=>J39 A h R T S a d e f o x y z (m+f.toNat+1)/\f<R.length
def m39:S39b->Nat
 |.e _ b ..=>10*b.length+8
 |.h0 _ _ _ d e ..=>10*(d.toNat-e.toNat)+6
 |.h1 _ _ _ _ _ f g ..=>10*(f.toNat-g.toNat)+5
 |.h2 _ _ _ _ _ f g ..=>10*(f.toNat-g.toNat)+4
 |.h3 _ _ _ _ _ f g ..=>10*(f.toNat-g.toNat)+3
 |.h4 _ _ _ _ _ f g ..=>10*(f.toNat-g.toNat)+2
 |.h5 _ _ _ _ e f ..=>10*(e.toNat-f.toNat)+1
abbrev R39:=Int×Int×Rs×Rs×Rs×Rs×Int×Int
theorem qCP {A:Rs}{a:Int}{b:Rs}{c:Int}{d e f:Rs}{g i:Int}(M:SC d e)(N:qvG A f)(Q:f.length<=100000000)(R:b.length<=6000)(O:AllI b)(S:0<=a)(P:A[a.toNat]? = some [.imm b]):
  En (λ(r:R39)=>(r.2.2.1.length=b.length/\∀ row∈r.2.2.1,PRow 0 row)/\r.2.2.2.1=d/\r.2.2.2.2.1=e/\qvG A r.2.2.2.2.2.1/\r.2.2.2.2.2.1.length=f.length+b.length) λk=>g39b k a b c d e f g i:=by
 have J:∀ {n:Nat},n<=100010000->n<=big:=λh=>by unfold big;omega
 refine .loop (I39 A a b d e f.length) m39 (λs h l=>match s,h,l with
 |.e x y z u v w ..,⟨q,m,D,B,o,C⟩,l=>by simp only[nt,qv8];subst m;exact l (.h0 ..) ⟨⟨q,rfl,rfl,Int.le_refl 0,D,B,o,by simpa using C,rfl,by simp⟩,by omega⟩ (by simp only[m39];omega)
 |.h0 x y z u v w k1 T U V t s W ..,⟨⟨q,m,D,B,o,C,E,H,G,F⟩,j⟩,l=>by
  simp only[nt,qv8];refine .br (λI=>?_) λI=>.ret ⟨⟨?_,F⟩,o,C,E,?_⟩
  . simp only[aW]at I;refine .ixR B (by rw[m];omega) λrow hr=>?_;rw[m]at hr;obtain⟨X,ty,Y,Z,rfl,_⟩:=O _ (aM hr);simp only[qCC];refine .call (by rw[o];exact⟨M.1,M.2.1⟩) λ_ _=>.call ⟨E.is,J (by omega)⟩ λr ⟨_,hr⟩=>?_;simp only[ql,hr];refine .br (λ_=>?_) λ_=>?_
    all_goals exact l (.h1 ..) ⟨⟨q,m,D,B,o,C,E,H,G,F⟩,by omega,rfl⟩ (by simp only[m39];omega)
  . simp only[decide_eq_false_iff_not]at I;dsimp only;omega
  . simp only[decide_eq_false_iff_not]at I;dsimp only;omega
 |.h1 ..,⟨⟨q,m,D,B,o,C,E,H,G,F⟩,j,p⟩,l=>by simp only[nt,qv8];refine .br (λ_=>.call trivial λr ⟨K,L,r2⟩=>?_) λ_=>l (.h2 ..) ⟨⟨q,m,D,B,o,C,E,H,G,F⟩,j,p⟩ (by simp only[m39];omega);simp only[tup5,K,L,r2];exact l (.h2 ..) ⟨⟨q,m,D,B,o,C,E,H,G,F⟩,j,p⟩ (by simp only[m39];omega)
 |.h2 ..,⟨⟨q,m,D,B,o,C,E,H,G,F⟩,j,p⟩,l=>by
  simp only[nt,qv8];refine .br (λ_=>?_) λ_=>?_
  all_goals exact l (.h3 ..) ⟨⟨q,m,D,B,o,C,E,H,G,F⟩,j,p⟩ (by simp only[m39];omega)
 |.h3 ..,⟨⟨q,m,D,B,o,C,E,H,G,F⟩,j,p⟩,l=>by simp only[nt,qv8];refine .br (λ_=>.call trivial λr ⟨K,L,r2⟩=>?_) λ_=>l (.h4 ..) ⟨⟨q,m,D,B,o,C,E,H,G,F⟩,j,p⟩ (by simp only[m39];omega);simp only[tup5,K,L,r2];exact l (.h4 ..) ⟨⟨q,m,D,B,o,C,E,H,G,F⟩,j,p⟩ (by simp only[m39];omega)
 |.h4 ..,⟨⟨q,m,D,B,o,C,E,H,G,F⟩,j,p⟩,l=>by
  simp only[nt,qv8];refine .gd (apIt (J (by omega))) (.br (λ_=>?_) λ_=>?_)
  all_goals
   refine l (.h5 ..) ⟨⟨q,m,D,B,o,C,E.add ⟨by omega,by omega,b,by rw[q];exact P,by omega⟩,by simp;omega,G,F⟩,j⟩ (by simp only[m39];omega)
 |.h5 ..,⟨⟨q,m,D,B,o,C,E,H,G,F⟩,j⟩,l=>by
  simp only[nt,qv8];refine .gd (apPa (J (by omega))) ?_;rw[w1 B (by omega)];refine l (.h0 ..) ⟨⟨q,m,D,by omega,o,C,E,by omega,by simp;omega,λrow hr=>?_⟩,by omega⟩ (by simp only[m39];omega);rcases List.mem_append.1 hr with hr|hr
  . exact F row hr
  . obtain rfl:=aU.1 hr;exact⟨_,_,_,_,rfl,.inl rfl,.inl rfl⟩) _ ⟨rfl,rfl,rfl,rfl,N,rfl⟩
def Z3 (T S I x y z:Rs):Prop:=x=T/\y=S/\z=I
def I40 (T S I:Rs):S40b->Prop
 |.e _ _ _ _ _ _ x y z ..=>Z3 T S I x y z
 |.h0 _ _ _ _ _ _ _ x y z ..=>Z3 T S I x y z
 |.h1 k x y z ..=>Z3 T S I x y z/\AllK k/\k.length<=big
 |.h2 _ _ _ _ _ _ _ x y z ..=>Z3 T S I x y z
 |.h3 _ b c d _ _ _ _ _ _ x y z ..=>Z3 T S I x y z/\b=I/\c=I.length/\0<=d
 |.h4 _ b c d _ _ _ _ _ _ x y z ..=>Z3 T S I x y z/\b=I/\c=I.length/\0<=d/\d<c
 |.h5 _ b c d _ _ _ _ _ _ x y z ..=>Z3 T S I x y z/\c=T.length/\0<=d/\AllK b/\(b.length:Int)=d/\d<=c
 |.h6 _ b _ c d _ _ _ _ _ _ _ x y z ..=>Z3 T S I x y z/\c=T.length/\0<=d/\AllK b/\(b.length:Int)=d/\d<c
 |.h7 k x y z ..=>Z3 T S I x y z/\AllK k/\k.length<=big
 |.h8 _ b _ c d _ _ _ _ _ _ x y z ..=>Z3 T S I x y z/\c=T.length/\0<=d/\AllK b/\(b.length:Int)=d/\d<c
def m40:S40b->Nat
 |.e ..=>10*big+9*big+60
 |.h0 ..=>10*big+9*big+50
 |.h1 ..=>0
 |.h2 ..=>10*big+9*big+40
 |.h3 _ _ c d ..=>4*big+20+3*(c.toNat-d.toNat)+2
 |.h4 _ _ c d ..=>4*big+20+3*(c.toNat-d.toNat)
 |.h5 _ _ c d ..=>4*(c.toNat-d.toNat)+4
 |.h6 _ _ _ c d ..=>4*(c.toNat-d.toNat)+3
 |.h8 _ _ _ c d ..=>4*(c.toNat-d.toNat)+2
 |.h7 ..=>0
def Q40 (T S I:Rs):R40b->Prop
 |.inl r=>AllK r.1/\r.1.length<=big/\r.2.1=T/\r.2.2.1=S/\r.2.2.2.1=I
 |.inr r=>AllK r.1/\r.1.length<=big/\r.2.1=T/\r.2.2.1=S/\r.2.2.2.1=I
theorem qER {a b:Rs}{c d:Int}{e:By}{f:Int}{T S I:Rs}{l m:Int}(G:SI T S I)(H:0<I.length):En (Q40 T S I) λk=>g40b k a b c d e f T S I l m:=by
 obtain⟨t,D,F⟩:=G;have w:=t.2.1;refine .loop (I40 T S I) m40 (λs h g=>match s,h,g with
 |.e _ _ _ _ _ _ x y z ..,h,g=>by simp only[nt,qvB];exact .br (λ_=>g (.h0 ..) h (by simp only[m40];omega)) λ_=>g (.h0 ..) h (by simp only[m40];omega)
 |.h0 _ _ _ _ _ _ _ x y z ..,⟨i,p,q⟩,g=>by simp only[nt,qvB];subst i p q;refine .br (λ_=>g (.h1 ..) ⟨⟨rfl,rfl,rfl⟩,by simp[AllK],Nat.zero_le _⟩ (by simp only[m40];omega)) λ_=>?_;refine .ixR (Int.le_refl 0) (by omega) λrow E=>?_;obtain⟨_,_,_,_,_,_,rfl⟩:=D _ (aM E);simp only[qw7];refine .call ⟨t.1,w⟩ λ_ _=>.call t.1 λ_ _=>.br (λ_=>.call trivial λr ⟨A,B,r2⟩=>?_) λ_=>g (.h2 ..) ⟨rfl,rfl,rfl⟩ (by simp only[m40];omega);simp only[tup5];exact g (.h2 ..) ⟨A,B,r2⟩ (by simp only[m40];omega)
 |.h1 ..,⟨⟨i,p,q⟩,j,n⟩,g=>by simp only[nt,qvB];exact .ret ⟨j,n,i,p,q⟩
 |.h2 _ _ _ _ _ _ _ x y z ..,⟨i,p,q⟩,g=>by simp only[nt,qvB];subst i p q;rw[D.imm];exact g (.h3 ..) ⟨⟨rfl,rfl,rfl⟩,rfl,rfl,Int.le_refl 0⟩ (by simp only[m40];omega)
 |.h3 _ b c d _ _ _ _ _ _ x y z ..,⟨⟨i,p,q⟩,j,n,o⟩,g=>by
  simp only[nt,qvB];subst i p q j n;refine .br (λu=>?_) λ_=>g (.h5 ..) ⟨⟨rfl,rfl,rfl⟩,rfl,Int.le_refl 0,by simp[AllK],rfl,by omega⟩ (by simp only[m40];omega);simp only[aW]at u;refine .ixR o u λrow E=>?_;obtain⟨_,_,_,_,_,_,rfl⟩:=D _ (aM E);simp only[qw7];refine .call ⟨t.1,w⟩ λ_ _=>.br (λ_=>.call trivial λr ⟨A,B,r2⟩=>?_) λ_=>.call t.1 λ_ _=>.br (λ_=>.call trivial λr ⟨A,B,r2⟩=>?_) λ_=>?_
  . exact g (.h4 ..) ⟨⟨rfl,rfl,rfl⟩,rfl,rfl,o,u⟩ (by simp only[m40];omega)
  all_goals
   simp only[tup5];exact g (.h4 ..) ⟨⟨A,B,r2⟩,rfl,rfl,o,u⟩ (by simp only[m40];omega)
 |.h4 _ b c d _ _ _ _ _ _ x y z ..,⟨i,j,n,o,v⟩,g=>by simp only[nt,qvB];unfold big at F w;rw[w1 o (by omega)];exact g (.h3 ..) ⟨i,j,n,by omega⟩ (by simp only[m40];omega)
 |.h5 _ b c d _ _ _ _ _ _ x y z ..,⟨⟨i,p,q⟩,j,n,o,v,C⟩,g=>by
  simp only[nt,qvB];subst i p q j;refine .br (λu=>?_) λ_=>g (.h7 ..) ⟨⟨rfl,rfl,rfl⟩,o,by omega⟩ (by simp only[m40];omega);simp only[aW]at u;refine .call ⟨t.1,w⟩ λ_ _=>.br (λ_=>.call t.1 λ_ _=>?_) λ_=>?_
  all_goals exact g (.h6 ..) ⟨⟨rfl,rfl,rfl⟩,rfl,n,o,v,u⟩ (by simp only[m40];omega)
 |.h6 ..,⟨i,j,n,o,v,C⟩,g=>by simp only[nt,qvB];exact .br (λ_=>g (.h8 ..) ⟨i,j,n,o,v,C⟩ (by simp only[m40];omega)) λ_=>g (.h8 ..) ⟨i,j,n,o,v,C⟩ (by simp only[m40];omega)
 |.h7 ..,⟨⟨i,p,q⟩,j,n⟩,g=>by simp only[nt,qvB];exact .ret ⟨j,n,i,p,q⟩
 |.h8 ..,⟨i,j,n,o,v,C⟩,g=>by simp only[nt,qvB];refine .gd (apK (by omega)) ?_;unfold big at F w;rw[w1 n (by omega)];exact g (.h5 ..) ⟨i,j,by omega,o.add,by simp;omega,by omega⟩ (by simp only[m40];omega)) _ ⟨rfl,rfl,rfl⟩
end Ab
end Go.Proofs.YtnnhdcidgfjfpaaGreatDoor

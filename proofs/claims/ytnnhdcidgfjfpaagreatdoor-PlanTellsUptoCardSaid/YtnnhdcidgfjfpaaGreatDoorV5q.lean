/-
  The document's parser of trees ends; the trees that it gives, as data. No claim stands here.
-/
import Derived.Test.YtnnhdcidgfjfpaaGreatDoorV4q
import Derived.Test.YtnnhdcidgfjfpaaGreatDoorFQbq
set_option linter.all false
namespace Go.Proofs.YtnnhdcidgfjfpaaGreatDoor
namespace Ab
theorem Aft.ti {L:Rs}{i:Int}{a:Rs}{j:Int}(h:Aft L i a j):TI a j:=by rw[h.1];exact h.2.2
theorem Aft.le {L:Rs}{i:Int}{a:Rs}{j:Int}(h:Aft L i a j):i<=j:=h.2.1
theorem Aft.step {L:Rs}{i:Int}{a:Rs}{j:Int}(h:Aft L i a j)(b:j+1<a.length):Aft L i a (IntKind.i64.wrap (j+1)):=h.trans (.next h.ti b)
def I143 (r:Rs)(s h:Int)(k:Rs):S143b->Prop
 |.e a b c d e f g i j l m n=>a=r/\b=s/\TI r s/\f=h/\g=k/\l.size<=4000/\m.size<=4000
 |.h0 a b c d e f g i j l m n o p q=>AllS a/\a.length=7/\b=a.length/\0<=c/\c<=7/\Aft r s d e/\(j=h\/25<=j)/\l=k/\o.size<=4000/\p.size<=4000
 |.h1 a b c d e f g i j l m n o p q t u=>a=d/\AllS b/\b.length=7/\c=b.length/\0<=d/\d<7/\Aft r s f g/\(e=true->g+1<f.length)/\(m=h\/25<=m)/\n=k/\q.size<=4000/\t.size<=4000
 |.h2 a b c d e f g i j l m n o p q=>AllS a/\a.length=7/\b=a.length/\0<=c/\c<7/\Aft r s d e/\(j=h\/25<=j)/\l=k/\o.size<=4000/\p.size<=4000
 |.h3 a b c d e f g i j l m n o p q=>AllS a/\a.length=7/\b=a.length/\0<=c/\c<7/\Aft r s d e/\(j=h\/25<=j)/\l=k/\o.size<=4000/\p.size<=4000
def m143:S143b->Nat
 |.e ..=>100
 |.h0 _ _ c ..=>40-4*c.toNat
 |.h1 _ _ _ d ..=>39-4*d.toNat
 |.h2 _ _ c ..=>38-4*c.toNat
 |.h3 _ _ c ..=>37-4*c.toNat
instance {a:Rs} {b c d e f:Int} {g:Rs} {i j:Int} {l m:By} {n:Int}:Ends (λk=>qDO k a b c d e f g i j l m n) (TI a b/\l.size<=4000/\m.size<=4000)
  λ(r:Rs×Int×Int×Int×Int×Rs×By×By)=>Aft a b r.1 r.2.1/\(r.2.2.2.2.1=f\/25<=r.2.2.2.2.1)/\r.2.2.2.2.2.1=g/\r.2.2.2.2.2.2.1.size<=4000/\r.2.2.2.2.2.2.2.size<=4000:=⟨λ⟨S,T,U⟩=>
 .loop (I143 a b f g) m143 (λs h q=>match s,h,q with
 |.e L I o N at_ op xs n s O F p,⟨V,W,v,X,Y,y,B⟩,q=>by subst V W X Y;simp only[nt,qv7];refine .call trivial λr ⟨w,G⟩=>?_;exact q (.h0 ..) ⟨w,G,rfl,Int.le_refl 0,by omega,.same v,.inl rfl,rfl,y,B⟩ (by simp only[m143];omega)
 |.h0 A len c L I o N at_ op xs n s O F p,⟨v,y,B,w,G,u,D,z,E,C⟩,q=>by
  simp only[nt,qv7];rw[B];refine .br (λR=>?_) λ_=>.br (λ_=>?_) λ_=>.ret ⟨u,D,z,E,C⟩
  . simp only[aW]at R;refine .ixR w R λrow Z=>?_;obtain⟨t,rfl,_⟩:=v.at Z;simp only[qwu];refine .br (λ_=>?_) λ_=>q (.h1 ..) ⟨rfl,v,y,rfl,w,by omega,u,(λh=>by cases h),D,z,E,C⟩ (by simp only[m143];omega);refine .call u.ti λr ⟨J,r2⟩=>?_;simp only[tup2,J];exact q (.h1 ..) ⟨rfl,v,y,rfl,w,by omega,u,r2,D,z,E,C⟩ (by simp only[m143];omega)
  . refine .call u.ti λr J=>?_;simp only[tup3,J];exact .ret ⟨u,D,z,E,C⟩
 |.h1 x A len c e L I o N at_ op xs n s O F p,⟨hx,v,y,B,w,G,u,P,D,z,E,C⟩,q=>by
  simp only[nt,qv7];refine .br (λhe=>?_) λ_=>q (.h3 ..) ⟨v,y,B,w,G,u,D,z,E,C⟩ (by simp only[m143];omega);have K:=u.step (P he);refine .call K.ti λr J=>?_;simp only[tup4];have H:=K.trans J;have M:25<=IntKind.i64.wrap ((25:Int)+x):=by rw[qes (x:=(25:Int)+x) (by omega)];omega
  refine .br (λ_=>.call H.ti λr ⟨r2,Q⟩=>?_) λ_=>.call H.ti λr ⟨r2,r4,Q⟩=>?_
  . exact q (.h2 ..) ⟨v,y,B,w,G,H.trans Q,.inr M,z,r2,C⟩ (by simp only[m143];omega)
  . exact q (.h2 ..) ⟨v,y,B,w,G,H.trans Q,.inr M,z,r2,r4⟩ (by simp only[m143];omega)
 |.h2 A len c L I o N at_ op xs n s O F p,⟨v,y,B,w,G,u,D,z,E,C⟩,q=>by simp only[nt,qv7];refine .call u.ti λr J=>?_;simp only[tup4];exact q (.h3 ..) ⟨v,y,B,w,G,u.trans J,D,z,E,C⟩ (by simp only[m143];omega)
 |.h3 A len c L I o N at_ op xs n s O F p,⟨v,y,B,w,G,u,D,z,E,C⟩,q=>by simp only[nt,qv7];rw[w1 w (by omega)];exact q (.h0 ..) ⟨v,y,B,by omega,by omega,u,D,z,E,C⟩ (by simp only[m143];omega)) _ ⟨rfl,rfl,S,rfl,rfl,T,U⟩⟩
end Ab
end Go.Proofs.YtnnhdcidgfjfpaaGreatDoor

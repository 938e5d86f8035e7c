/-
  The document's check of a schema ends: the whole. No claim stands here.
-/
import Derived.Test.YtnnhdcidgfjfpaaGreatDoorV17q
set_option linter.all false
namespace Go.Proofs.YtnnhdcidgfjfpaaGreatDoor
namespace Ab
def SC (a b:Rs):Prop:=qw9 a/\a.length<=big/\AllN b/\b.length<=big
def I37 (A B:Rs):S37->Prop
 |.e a b=>a=A/\b=B
 |.h0 a b c d e f g i j=>i=A/\j=B/\e=A/\f=A.length/\0<=g/\g<=A.length/\AllN d/\d.length<=g
 |.h1 a b c d e f g i j=>i=A/\j=B/\e=A/\f=A.length/\0<=g/\g<A.length/\AllN d/\d.length<=g+1
 |.h2 a b c d e f g i=>g=A/\i=B/\d=A/\e=A.length/\0<=f/\f<=A.length/\AllN c/\c.length<=big
 |.h3 a b c d e f g i j l m n=>m=A/\n=B/\e=A/\f=A.length/\0<=g/\g<A.length/\AllN c/\c.length<=big/\AllF i/\i.length<=big/\j=i.length/\0<=l/\l<=i.length/\AllN d/\d.length<=l
 |.h4 ..=>True
 |.h5 a b c d e f g i j l m n=>m=A/\n=B/\e=A/\f=A.length/\0<=g/\g<A.length/\AllN c/\c.length<=big/\AllF i/\i.length<=big/\j=i.length/\0<=l/\l<i.length/\AllN d/\d.length<=l+1
 |.h6 a b c d e f g i=>g=A/\i=B/\d=A/\e=A.length/\0<=f/\f<A.length/\AllN c/\c.length<=big
def m37 (T:Nat):S37->Nat
 |.e ..=>4000000000100*(T+2)+2*T+50
 |.h0 _ _ _ _ _ _ g ..=>4000000000100*(T+2)+2*(T-g.toNat)+45
 |.h1 _ _ _ _ _ _ g ..=>4000000000100*(T+2)+2*(T-g.toNat)+44
 |.h2 _ _ _ _ _ f ..=>4000000000100*(T-f.toNat)+12
 |.h3 _ _ _ _ _ _ g i _ l ..=>4000000000100*(T-g.toNat-1)+2*(i.length-l.toNat)+15
 |.h4 ..=>0
 |.h5 _ _ _ _ _ _ g i _ l ..=>4000000000100*(T-g.toNat-1)+2*(i.length-l.toNat)+14
 |.h6 _ _ _ _ _ f ..=>4000000000100*(T-f.toNat-1)+13
instance {a b:Rs}:Ends (λk=>g37 k a b) (SC a b) λ_=>True:=⟨λ⟨N,O,P,Q⟩=>by
 have K:=O;unfold big at K;refine .loop (I37 a b) (m37 a.length) (λs h o=>match s,h,o with
 |.e x y,⟨q,r⟩,o=>by simp only[nt,qfl];subst q r;refine .br (λ_=>?_) λ_=>?_<;>exact o (.h0 ..) ⟨rfl,rfl,rfl,rfl,Int.le_refl 0,by omega,by simp[AllN],by simp⟩ (by simp only[m37];omega)
 |.h0 x y z d e f g i j,⟨q,r,u,v,t,C,p,w⟩,o=>by
  simp only[nt,qfl];subst q r v;rw[u];refine .br (λA=>?_) λ_=>?_
  . simp only[aW]at A;refine .ixR t A λrow I=>?_;obtain⟨s,F,rfl,_⟩:=N.at I;simp only[qyD];refine .br (λ_=>.gd (apN (by unfold big;omega)) ?_) λ_=>.gd (apN (by unfold big;omega)) ?_<;>exact o (.h1 ..) ⟨rfl,rfl,rfl,rfl,t,A,p.add,by simp;omega⟩ (by simp only[m37];omega)
  . refine .br (λ_=>.ret trivial) λ_=>?_;exact o (.h2 ..) ⟨rfl,rfl,rfl,rfl,Int.le_refl 0,by omega,p,by unfold big;omega⟩ (by simp only[m37];omega)
 |.h1 x y z d e f g i j,⟨q,r,u,v,t,C,p,w⟩,o=>by simp only[nt,qfl];rw[w1 t (by omega)];exact o (.h0 ..) ⟨q,r,u,v,by omega,by omega,p,w⟩ (by simp only[m37];omega)
 |.h2 x y c d e f g i,⟨q,r,u,v,t,C,p,w⟩,o=>by
  simp only[nt,qfl];subst q r v;rw[u];refine .br (λA=>?_) λ_=>.br (λ_=>o (.h4 ..) trivial (by simp[m37])) λ_=>?_
  . simp only[aW]at A;refine .ixR t A λrow I=>?_;obtain⟨s,F,rfl,H,E⟩:=N.at I;simp only[qyD];exact o (.h3 ..) ⟨rfl,rfl,rfl,rfl,t,A,p,w,H,E,rfl,Int.le_refl 0,by omega,by simp[AllN],by simp⟩ (by unfold big at E;simp only[m37];omega)
  . rw[p.imm];refine .call ⟨p,w⟩ λ_ _=>.br (λ_=>o (.h4 ..) trivial (by simp[m37])) λ_=>?_;exact .call ⟨P,Q⟩ λ_ _=>o (.h4 ..) trivial (by simp[m37])
 |.h3 x y c d e f g i j l m n,⟨q,r,u,v,t,C,p,w,H,E,G,D,L,B,J⟩,o=>by
  simp only[nt,qfl];rw[G];refine .br (λA=>?_) λ_=>?_
  . simp only[aW]at A;refine .ixR D A λrow I=>?_;obtain⟨s,k,rfl⟩:=H.at I;simp only[qCJ];refine .gd (apN (by omega)) ?_
    repeat' first|exact o (.h5 ..) ⟨q,r,u,v,t,C,p,w,H,E,rfl,D,A,B.add,by simp;omega⟩ (by simp only[m37];omega)|refine .br (λ_=>?_) (λ_=>?_)
  . refine .br (λ_=>o (.h6 ..) ⟨q,r,u,v,t,C,p,w⟩ (by simp only[m37];omega)) λ_=>?_;rw[B.imm];exact .call ⟨B,by omega⟩ λ_ _=>o (.h6 ..) ⟨q,r,u,v,t,C,p,w⟩ (by simp only[m37];omega)
 |.h4 x y,_,o=>by
  simp only[nt,qfl]
  repeat' first|exact .ret trivial|refine .br (λ_=>?_) (λ_=>?_)
 |.h5 x y c d e f g i j l m n,⟨q,r,u,v,t,C,p,w,H,E,G,D,L,B,J⟩,o=>by simp only[nt,qfl];have M:=E;unfold big at M;rw[w1 D (by omega)];exact o (.h3 ..) ⟨q,r,u,v,t,C,p,w,H,E,G,by omega,by omega,B,J⟩ (by simp only[m37];omega)
 |.h6 x y c d e f g i,⟨q,r,u,v,t,C,p,w⟩,o=>by simp only[nt,qfl];rw[w1 t (by omega)];exact o (.h2 ..) ⟨q,r,u,v,by omega,by omega,p,w⟩ (by simp only[m37];omega)) _ ⟨rfl,rfl⟩⟩
end Ab
end Go.Proofs.YtnnhdcidgfjfpaaGreatDoor

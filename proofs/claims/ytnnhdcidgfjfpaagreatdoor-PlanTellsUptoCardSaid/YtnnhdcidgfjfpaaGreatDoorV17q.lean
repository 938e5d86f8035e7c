/-
  The document's check of a schema ends. No claim stands here.
-/
import Derived.Test.YtnnhdcidgfjfpaaGreatDoorV16q
set_option linter.all false
namespace Go.Proofs.YtnnhdcidgfjfpaaGreatDoor
namespace Ab
instance {a b:Rs} {c d:Int}:Ends (λk=>g80 k a b c d) (qw9 a) λ_=>True:=⟨λq=>.loop
 (λs=>match s with
  |.e x _ _ _=>qw9 x
  |.h0 a _ c d ..=>qw9 d/\(c=false->0<=a/\a<d.length)
  |.h1 a b c d ..=>qw9 d/\0<=a/\a<d.length/\(c=false->0<=b/\∃ (s:By) (F:Rs),d[a.toNat]? = some [sc s,.imm F]/\b<F.length))
 (λs=>match s with|.e ..=>2|.h0 ..=>1|.h1 ..=>0) (λs h f=>match s,h,f with
 |.e x _ c _,g,f=>by simp only[nt,qq5];refine .br (λi=>f (.h0 ..) ⟨g,λh=>by cases h⟩ (by dsimp only;omega)) λi=>?_;simp only[decide_eq_false_iff_not]at i;exact f (.h0 ..) ⟨g,λh=>⟨by omega,by simp only[decide_eq_false_iff_not]at h;omega⟩⟩ (by dsimp only;omega)
 |.h0 a b c d ..,⟨g,n⟩,f=>by simp only[nt,qq5];refine .br (λ_=>.ret trivial) λi=>.br (λ_=>.ret trivial) λ_=>?_;obtain⟨l,m⟩:=n i;refine .br (λ_=>f (.h1 ..) ⟨g,l,m,λh=>by cases h⟩ (by dsimp only;omega)) λr=>?_;simp only[decide_eq_false_iff_not]at r;refine .ixR l m λrow j=>?_;obtain⟨s,F,rfl,p,o⟩:=g.at j;simp only[qyD];exact f (.h1 ..) ⟨g,l,m,λh=>⟨by omega,s,F,j,by simp only[decide_eq_false_iff_not]at h;omega⟩⟩ (by dsimp only;omega)
 |.h1 a b c d ..,⟨g,l,m,n⟩,f=>by simp only[nt,qq5];refine .br (λ_=>.ret trivial) λi=>?_;obtain⟨p,s,F,o,t⟩:=n i;refine .ixR l m λrow j=>?_;obtain rfl:=aQ (j.symm.trans o);simp only[qyD];obtain⟨_,_,e,u,_⟩:=g.at o;simp only[List.cons.injEq,Cell.imm.injEq,and_true]at e;obtain⟨_,rfl⟩:=e;refine .ixR p t λrow j=>?_;obtain⟨s,k,rfl⟩:=u.at j;simp only[qCJ];exact .ret trivial) _ q⟩
instance {a:Rs}:Ends (λk=>g72 k a) (AllN a/\a.length<=big) λ_=>True:=⟨λ⟨r,t⟩=>by
 have h:∀ (j:Nat) (b:Int) (c:By) (d:Int) (f g:Int),0<=b->b<a.length->0<=d->b.toNat-d.toNat=j->(En (λ_=>True) λk=>itS qwy k (.h0 a a f (IntKind.i64.wrap (g+1))))->En (λ_=>True) λk=>itS qwy k (.h1 a b c d a f g):=by
  intro j
  induction j with
  |zero=>intro b c d f g i m o u n;refine .go ?_;simp only[nt,qwy];refine .br (λe=>?_) λ_=>n;simp only[aW]at e;omega
  |succ j p=>intro b c d f g i m o u n;refine .go ?_;simp only[nt,qwy];refine .br (λe=>?_) λ_=>n;simp only[aW]at e;refine .ixR o (by omega) λrow q=>?_;obtain⟨s,rfl⟩:=r.at q;simp only[qwu];refine .br (λ_=>.ret trivial) λ_=>?_;unfold big at t;rw[w1 o (by omega)];exact p b c (d+1) f g i m (by omega) (by omega) n
 have l:∀ (j:Nat) (d:Int),0<=d->a.length-d.toNat=j->En (λ_=>True) λk=>itS qwy k (.h0 a a (a.length:Int) d):=by
  intro j
  induction j with
  |zero=>intro d i m;refine .go ?_;simp only[nt,qwy];refine .br (λe=>?_) λ_=>.ret trivial;simp only[aW]at e;omega
  |succ j p=>intro d i m;refine .go ?_;simp only[nt,qwy];refine .br (λe=>?_) λ_=>.ret trivial;simp only[aW]at e;refine .ixR i e λrow q=>?_;obtain⟨s,rfl⟩:=r.at q;simp only[qwu];refine .call trivial λ_ _=>.br (λ_=>.ret trivial) λ_=>?_;unfold big at t;refine h _ d s 0 _ d i e (Int.le_refl 0) rfl ?_;rw[w1 i (by omega)];exact p (d+1) (by omega) (by omega)
 refine .go ?_;simp only[nt,qwy];exact l _ 0 (Int.le_refl 0) rfl⟩
end Ab
end Go.Proofs.YtnnhdcidgfjfpaaGreatDoor

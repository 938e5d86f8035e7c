/-
  The document's parser of queries: nodes, the conditions. No claim stands here.
-/
import Derived.Test.YtnnhdcidgfjfpaaGreatDoorV12q
set_option linter.all false
namespace Go.Proofs.YtnnhdcidgfjfpaaGreatDoor
namespace Ab
instance {a:Int} {b:Rs} {c d:Int} {e f:By} {g:Int}:Ends (λk=>g49 k a b c d e f g) (GI a b 20001/\e.size<=4000/\f.size<=4000) λ(r:Rs)=>AllX r 20001:=⟨λ⟨h,i,j⟩=>by
 obtain⟨ts,rfl,l,m,q⟩:=h;refine(qEP 20001 (.mk a c d g e f ts) (by simp only[Tx.cnt];omega) (by omega) (.mk l m i j)).mono λr ⟨us,n,o,p⟩=>⟨us,n,o,?_⟩
 simp only[Tx.cnt]at p;omega⟩
theorem qD1 (m:Nat):∀ (op n s p:Int) (e a:By) (args:List Tx),cnts args<m->m<=50000->En (λ_=>True) λk=>itS qfC k (.e op (trows args) n s e a p):=by
 induction m with
 |zero=>intro _ _ _ _ _ _ _ h;omega
 |succ m i=>
  intro op n s p e a args h C;have D:=qvl args;have loop:∀ (j:Nat) (c:Int) (b:Int),0<=c->args.length-c.toNat=j->c<=args.length->En (λ_=>True) λk=>itS qfC k (.h0 b ((trows args).length:Int) c op (trows args) n s e a p):=by
   intro j
   induction j with
   |zero=>intro c b f l o;refine .go ?_;simp only[nt,qfC,ve];refine .br (λd=>?_) λ_=>.ret trivial;simp only[aW]at d;omega
   |succ j q=>intro c b f l o;refine .go ?_;simp only[nt,qfC];refine .br (λd=>?_) λ_=>.ret trivial;simp only[aW]at d;refine .ixR f d λrow g=>?_;rw[ve]at d;rw[qvk]at g;obtain⟨t,u,rfl⟩:=aG.1 g;have v:=qvh (aM u);obtain⟨w,x,y,z,A,B,xs⟩:=t;simp only[Tx.cnt]at v;refine En.bind (P:=λ_=>True) (i w x y z A B xs (by omega) (by omega)) λr _=>?_;rw[w1 f (by omega)];exact q _ _ (by omega) (by omega) (by omega)
  refine .go ?_;simp only[nt,qfC];exact loop _ 0 1 (Int.le_refl 0) rfl (by omega)
theorem qDY {d:Rs}{f g:Int}{i:By}{l:Int}{ts:List Tx}(z:cnts ts<=20001):∀ (j:Nat) (c:Int) (a:Int),0<=c->ts.length-c.toNat=j->c<=ts.length->En (λ_=>True) λk=>itS qj8 k (.h0 a ((trows ts).length:Int) c d (trows ts) f g i l):=by
 have A:=qvl ts;intro j
 induction j with
 |zero=>intro c a e m n;refine .go ?_;simp only[nt,qj8,ve];refine .br (λb=>?_) λ_=>.ret trivial;simp only[aW]at b;omega
 |succ j o=>
  intro c a e m n;refine .go ?_;simp only[nt,qj8];refine .br (λb=>?_) λ_=>.ret trivial;simp only[aW]at b;refine .ixR e b λrow h=>?_;rw[ve]at b;rw[qvk]at h;obtain⟨t,p,rfl⟩:=aG.1 h;have q:=qvh (aM p);obtain⟨s,u,v,w,x,y,xs⟩:=t;simp only[Tx.cnt]at q;refine En.bind (P:=λ_=>True) (qD1 20002 s u v w x y xs (by omega) (by omega)) λr _=>?_;refine .br (λ_=>.go ?_) λ_=>.go ?_
  all_goals
   simp only[nt,qj8];rw[w1 e (by omega)];exact o _ _ (by omega) (by omega) (by omega)
instance {a b:Rs} {c d:Int} {e:By} {f:Int}:Ends (λk=>g27 k a b c d e f) (AllX b 20001) λ_=>True:=⟨λ⟨ts,h,_,g⟩=>by subst h;refine .go ?_;simp only[nt,qj8];exact qDY g _ 0 0 (Int.le_refl 0) rfl (by omega)⟩
instance {L:Rs} {i o e a j wd l:Int} {key:By} {c d:Rs}:Ends (λk=>g24 k L i o e a c d j wd key l) (TI L i/\AllX d 20001) λ(r:Rs×Int×Int×Int×Rs×Rs)=>Aft L i r.1 r.2.1/\r.2.2.2.2.1=c/\AllX r.2.2.2.2.2 20001:=⟨λ⟨h,hd⟩=>by have key:∀ b:Bool,(b=false->i+1<L.length)->En (λ(r:Rs×Int×Int×Int×Rs×Rs)=>Aft L i r.1 r.2.1/\r.2.2.2.2.1=c/\AllX r.2.2.2.2.2 20001) λk=>itS qj6 k (.h0 b L i o e a c d j wd key l):=λb m=>.go (by simp only[nt,qj6];refine .br (λ_=>.ret ⟨.same h,rfl,hd⟩) λn=>?_;have f:=Aft.next h (m n);refine .call f.ti λr p=>?_;simp only[ql];refine .br (λ_=>.ret ⟨f,rfl,hd⟩) λq=>?_;obtain⟨g,r2,s,t⟩:=p (by simpa using q);refine .call ⟨g,r2,s⟩ λw u=>?_;exact .ret ⟨f.trans t,rfl,u⟩);refine .go ?_;simp only[nt,qj6];refine .br (λ_=>key _ λh=>by cases h) λ_=>?_;refine .call h λr ⟨g,r2⟩=>?_;simp only[tup4,g];exact key _ λh=>r2 (by simpa using h)⟩
end Ab
end Go.Proofs.YtnnhdcidgfjfpaaGreatDoor

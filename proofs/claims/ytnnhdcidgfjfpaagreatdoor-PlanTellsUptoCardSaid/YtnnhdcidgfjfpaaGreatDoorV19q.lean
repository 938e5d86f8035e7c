/-
  The document's printer of trees: which trees are right, and their texts. No claim stands here.
-/
import Derived.Test.YtnnhdcidgfjfpaaGreatDoorV15q
set_option linter.all false
namespace Go.Proofs.YtnnhdcidgfjfpaaGreatDoor
namespace Ab
theorem p10 {d:Nat}(h:d<=15):(10:Int) ^ d<=1000000000000000/\0<(10:Int) ^ d:=by
 have:d=0\/d=1\/d=2\/d=3\/d=4\/d=5\/d=6\/d=7\/d=8\/d=9\/d=10\/d=11\/d=12\/d=13\/d=14\/d=15:=by omega
 rcases this with rfl|rfl|rfl|rfl|rfl|rfl|rfl|rfl|rfl|rfl|rfl|rfl|rfl|rfl|rfl|rfl<;>simp
instance {a b:Int}:Ends (λk=>g137 k a b) (0<=b/\b<=15) λr=>r.size<=50:=⟨λ⟨l,o⟩=>.loop
 (λs=>match s with
  |.e _ y=>y=b
  |.h0 _ y c d=>y=b/\0<=d/\d<=b/\c=10 ^ d.toNat
  |.h1 _ y c d=>y=b/\c≠0/\d.size<=21)
 (λs=>match s with|.e ..=>100|.h0 _ _ _ d=>90-d.toNat|.h1 _ _ _ d=>30-d.size) (λs h e=>match s,h,e with
 |.e _ y,h,e=>by simp only[nt,qx7];exact e (.h0 ..) ⟨h,Int.le_refl 0,l,rfl⟩ (by dsimp only;omega)
 |.h0 _ y c d,⟨h,f,m,i⟩,e=>by simp only[nt,qx7];subst h;have n:=p10 (d:=d.toNat) (by omega);rw[<- i]at n;refine .br (λg=>?_) λ_=>.gd (aO (by omega)) (.call trivial λr j=>e (.h1 ..) ⟨rfl,by omega,j.2⟩ (by dsimp only;omega));simp only[aW]at g;rw[w1 f (by omega),qes (x:=c*10) (by omega)];exact e (.h0 ..) ⟨rfl,by omega,by omega,by rw[i,show(d+1).toNat=d.toNat+1 by omega,Int.pow_succ]⟩ (by dsimp only;omega)
 |.h1 _ y c d,⟨h,f,m⟩,e=>by
  simp only[nt,qx7];subst h;refine .br (λg=>.gd (aO (by simp only[quY,List.length_cons,List.length_nil];omega)) ?_) λ_=>.gd (aO f) (.call trivial λr j=>.gd (aO ?_) (.gd (aO ?_) (.ret ?_)))
  . simp only[aW]at g;exact e (.h1 ..) ⟨rfl,f,by simp only[ByteArray.size_append,quY,List.length_cons,List.length_nil];omega⟩ (by simp only[ByteArray.size_append,quY,List.length_cons,List.length_nil];omega)
  all_goals simp only[ByteArray.size_append,quY,List.length_cons,List.length_nil];omega) _ rfl⟩
def RtO (op s l:Int):Prop:=((op=6\/15<=op/\op<=17)/\l=1)\/(1<=op/\op<=14/\op≠6/\l=2)\/(20<=op/\op<=31/\l=0/\(op=21->1<=s/\s<=14))
inductive Rt:Tx->Prop
 |mk {op n s p:Int} {nm att:By} {args:List Tx}:(∀ t∈args,Rt t)->RtO op s args.length->Rt (.mk op n s p nm att args)
theorem qC6 (m:Nat):∀ (op n s p:Int) (l f:By) (args:List Tx),cnts args<m->m<=50000->En (λr=>r=true->Rt (.mk op n s p l f args)) λk=>itS qvd k (.e op (trows args) n s l f p):=by
 induction m with
 |zero=>intro _ _ _ _ _ _ _ h;omega
 |succ m I=>
  intro op n s p l f args h T;have U:=qvl args;have no:∀ {t:Nat->Option Bool},(∀ k,t k=some false)->En (λr=>r=true->Rt (.mk op n s p l f args)) t:=λv=>⟨false,by simp,0,λk _=>v k⟩
  have loop:RtO op s args.length->∀ (j:Nat) (c:Int),0<=c->args.length-c.toNat=j->c<=args.length->(∀ i t,i<c.toNat->args[i]? = some t->Rt t)->En (λr=>r=true->Rt (.mk op n s p l f args)) λk=>itS qvd k (.h5 (args.length:Int) c op (trows args) n s l f p):=by
   intro J j;have x:∀ c:Int,¬ c<args.length->(∀ i t,i<c.toNat->args[i]? = some t->Rt t)->Rt (.mk op n s p l f args):=λc g w=>.mk (λt v=>by obtain⟨i,y⟩:=List.getElem?_of_mem v;have:=(az.1 y).1;exact w i t (by omega) y) J
   induction j with
   |zero=>intro c q z C w;refine .go ?_;simp only[nt,qvd];refine .br (λg=>?_) λg=>.ret λ_=>x c (by simpa using g) w;simp only[aW]at g;omega
   |succ j K=>
    intro c q z C w;refine .go ?_;simp only[nt,qvd];refine .br (λg=>?_) λg=>.ret λ_=>x c (by simpa using g) w;simp only[aW]at g;refine .ixR q (by rw[ve];exact g) λrow A=>?_;rw[qvk]at A;obtain⟨t,v,rfl⟩:=aG.1 A;have u:=qvh (aM v);obtain⟨L,M,N,O,P,Q,xs⟩:=t;simp only[Tx.cnt]at u;refine En.bind (I L M N O P Q xs (by omega) (by omega)) λr A=>?_;refine .br (λ_=>no λ_=>rfl) λD=>?_;rw[w1 q (by omega)];refine K _ (by omega) (by omega) (by omega) λi t y e=>?_;by_cases R:i<c.toNat
    . exact w i t R e
    . obtain rfl:i=c.toNat:=by omega
      rw[v]at e;cases e;exact A (by simpa using D)
  have B:∀ a:Bool,(a=false->RtO op s args.length)->En (λr=>r=true->Rt (.mk op n s p l f args)) λk=>itS qvd k (.h3 a op (trows args) n s l f p):=λa o=>.go (by simp only[nt,qvd];refine .br (λ_=>no λ_=>rfl) λg=>?_;rw[ve];exact loop (o g) _ 0 (Int.le_refl 0) rfl (by omega) λi t y=>by simp at y);have k1:∀ (a:Int) (b c d:Bool),(d=true->RtO op s a)->En (λr=>r=true->Rt (.mk op n s p l f args)) λk=>itS qvd k (.h1 a b c d op (trows args) n s l f p):=λa b c d o=>.go (by
   simp only[nt,qvd];refine .br (λ_=>B _ λh=>by cases h) λ_=>.br (λ_=>B _ λh=>by cases h) λ_=>.br (λ_=>B _ λh=>by cases h) λg=>B _ λu=>?_;rw[ve]at u;have:(args.length:Int)=a:=by simpa using u
   rw[this];exact o (by simpa using g))
  have E:∀ (b c d:Bool),(c=true->op=24\/26<=op/\op<=31)->En (λr=>r=true->Rt (.mk op n s p l f args)) λk=>itS qvd k (.h6 0 b c op (trows args) n s l f p):=λb c d o=>.go (by simp only[nt,qvd];refine .br (λg=>?_) λ_=>no λ_=>rfl;have:=o g;refine .call trivial λ_ _=>.call trivial λ_ _=>.br (λ_=>k1 _ _ _ _ λ_=>.inr (.inr ?_)) λ_=>k1 _ _ _ _ λ_=>.inr (.inr ?_)<;>omega);have G:∀ (b c d:Bool),(d=true->op=23\/op=25)->En (λr=>r=true->Rt (.mk op n s p l f args)) λk=>itS qvd k (.h4 0 b c d op (trows args) n s l f p):=λb c d o=>.go (by
   simp only[nt,qvd];refine .br (λg=>?_) λ_=>?_
   . have:=o g;exact .call trivial λ_ _=>k1 _ _ _ _ λ_=>.inr (.inr (by omega))
   . refine .br (λg=>E _ _ true λ_=>?_) λ_=>.br (λg=>E _ _ true λu=>?_) λ_=>E _ _ true λh=>by cases h
     . exact .inl (by simpa using g)
     . simp only[aW]at g u;omega)
  have H:∀ (b c d e:Bool),(e=true->1<=op/\op<=14/\op≠6)->En (λr=>r=true->Rt (.mk op n s p l f args)) λk=>itS qvd k (.h2 0 b c d e op (trows args) n s l f p):=λb c d e o=>.go (by
   simp only[nt,qvd];refine .br (λg=>k1 _ _ _ _ λ_=>?_) λ_=>.br (λq=>?_) λ_=>.br (λq=>?_) λ_=>.br (λq=>?_) λ_=>?_
   . have:=o g;exact .inr (.inl (by omega))
   all_goals try simp only[beq_iff_eq]at q
   . exact .br (λ_=>k1 _ _ _ _ λ_=>.inr (.inr (by omega))) λ_=>k1 _ _ _ _ λh=>by cases h
   . refine .br (λ_=>.br (λz=>.br (λC=>?_) λ_=>k1 _ _ _ _ λh=>by cases h) λ_=>k1 _ _ _ _ λh=>by cases h) λ_=>k1 _ _ _ _ λh=>by cases h
     simp only[aW]at z C;exact .call ⟨by omega,by omega⟩ λ_ _=>k1 _ _ _ _ λ_=>.inr (.inr (by omega))
   . refine .br (λ_=>k1 _ _ _ _ λ_=>.inr (.inr (by omega))) λ_=>.br (λ_=>k1 _ _ _ _ λ_=>.inr (.inr (by omega))) λ_=>k1 _ _ _ _ λh=>by cases h
   . exact .br (λg=>G _ _ _ λ_=>.inl (by simpa using g)) λ_=>G _ _ _ λg=>.inr (by simpa using g))
  have F:∀ (b c d e:Bool),(e=true↔op=6\/15<=op/\op<=17)->En (λr=>r=true->Rt (.mk op n s p l f args)) λk=>itS qvd k (.h0 0 b c d e op (trows args) n s l f p):=λb c d e o=>.go (by
   simp only[nt,qvd];refine .br (λg=>k1 _ _ _ _ λ_=>.inl ⟨o.1 g,rfl⟩) λS=>.br (λg=>H _ _ _ _ λu=>?_) λ_=>H _ _ _ _ λh=>by cases h
   rw[S]at o;simp only[aW]at g u;have:¬(op=6\/15<=op/\op<=17):=λh=>by cases o.2 h
   omega)
  refine .go ?_;simp only[nt,qvd];refine .br (λ_=>?_) λ_=>?_<;>(
   refine .br (λq=>F _ _ _ _ ?_) λq=>.br (λz=>F _ _ _ _ ?_) λz=>F _ _ _ _ ?_
   all_goals
    simp only[beq_iff_eq,beq_eq_false_iff_ne,aW,decide_eq_false_iff_not,ne_eq]at *
    first|omega|simp;omega)
end Ab
end Go.Proofs.YtnnhdcidgfjfpaaGreatDoor

/-
  The document's planner: what finds items, what tells kinds: each ends, and leaves the state's rows as they are. No claim stands here.
-/
import Derived.Test.YtnnhdcidgfjfpaaGreatDoorV22q
import Derived.Test.YtnnhdcidgfjfpaaGreatDoorV18q
set_option linter.all false
namespace Go.Proofs.YtnnhdcidgfjfpaaGreatDoor
namespace Ab
def itR8 (n:By)(b p q f k:Int):List Cell:=[sc n,ic b,ic p,ic q,ic f,ic k]
def qAX (X:Rs):Prop:=∀ row∈X,∃ (n:By) (b p q f k:Int),row=itR8 n b p q f k
theorem qw7 {α:Type}{n:By}{b p q f k:Int}(g:By->Int->Int->Int->Int->Int->Option α):qvD (itR8 n b p q f k) g=g n b p q f k:=rfl
theorem qAX.imm {X:Rs}(h:qAX X):qG X=X:=by
 induction X with
 |nil=>rfl
 |cons r l a=>obtain⟨_,_,_,_,_,_,rfl⟩:=h _ (au ..);rw[qG,a λx b=>h x (aB _ b)];rfl
def Fd (X:Rs)(n:By)(b p q f k:Int):Prop:=itR8 n b p q f k∈X\/itR8 n b p q f k=itR8 (strB []) 0 0 0 0 0
def AllK (X:Rs):Prop:=∀ row∈X,∃ k:Int,row=[ic k]
theorem AllK.imm {X:Rs}(h:AllK X):qG X=X:=by
 induction X with
 |nil=>rfl
 |cons r l a=>obtain⟨_,rfl⟩:=h _ (au ..);rw[qG,a λx b=>h x (aB _ b)];rfl
theorem AllK.add {X:Rs}(h:AllK X){k:Int}:AllK (X++[[ic k]]):=λrow hr=>by
 rcases List.mem_append.1 hr with hr|hr
 . exact h row hr
 . obtain rfl:=aU.1 hr;exact⟨k,rfl⟩
theorem qzx {α:Type}{k:Int}(g:Int->Option α):un_i [ic k] g=g k:=rfl
theorem apK {b:Rs}{k:Int}(h:b.length<=big):apOk 8 1 b [[ic k]]=true:=by simp[apOk,lim];unfold big at h;omega
abbrev R78:=By×Int×Int×Int×Int×Int×Bool×Rs×Rs×Rs
def Q78 (b c d:Rs)(r:R78):Prop:=Fd d r.1 r.2.1 r.2.2.1 r.2.2.2.1 r.2.2.2.2.1 r.2.2.2.2.2.1/\r.2.2.2.2.2.2.2=(b,c,d)
instance {a:By} {b c d:Rs} {e f:Int}:Ends (λk=>g78c k a b c d e f) (qAX d/\d.length<=big) (Q78 b c d):=⟨λ⟨u,v⟩=>.loop
 (λs=>match s with
  |.e _ x y z ..=>x=b/\y=c/\z=d
  |.h0 _ x n i _ _ _ _ _ _ y z w ..=>x=d/\n=d.length/\0<=i/\y=b/\z=c/\w=d)
 (λs=>match s with|.e ..=>big+1|.h0 _ x n i ..=>x.length-i.toNat) (λs h g=>match s,h,g with
 |.e _ x y z ..,⟨l,m,j⟩,g=>by simp only[nt,qyS];subst l m j;exact g (.h0 ..) ⟨rfl,rfl,Int.le_refl 0,rfl,rfl,rfl⟩ (by dsimp only;omega)
 |.h0 _ x n i _ _ _ _ _ _ y z w ..,⟨l,m,j,A,B,o⟩,g=>by simp only[nt,qyS];subst l m A B;refine .br (λr=>?_) λ_=>.ret ⟨.inr rfl,by rw[o]⟩;simp only[aW]at r;refine .ixR j r λrow C=>?_;have t:=aM C;obtain⟨n,b,p,q,f,k,rfl⟩:=u _ t;simp only[qw7];refine .br (λ_=>.ret ⟨.inl t,by rw[o]⟩) λ_=>?_;unfold big at v;rw[w1 j (by omega)];exact g (.h0 ..) ⟨rfl,rfl,by omega,rfl,rfl,o⟩ (by dsimp only;omega)) _ ⟨rfl,rfl,rfl⟩⟩
instance {a:By} {b c d:Rs} {e f:Int}:Ends (λk=>g78b k a b c d e f) (qAX d/\d.length<=big) (Q78 b c d):=⟨λ⟨r,t⟩=>.loop
 (λs=>match s with
  |.e _ x y z ..=>x=b/\y=c/\z=d
  |.h0 _ n i _ _ _ _ _ _ y z w ..=>n=d.length/\0<=i/\y=b/\z=c/\w=d)
 (λs=>match s with|.e ..=>big+1|.h0 _ n i ..=>n.toNat-i.toNat) (λs h g=>match s,h,g with
 |.e _ x y z ..,⟨u,l,j⟩,g=>by simp only[nt,qyR];subst u l j;exact g (.h0 ..) ⟨rfl,Int.le_refl 0,rfl,rfl,rfl⟩ (by dsimp only;omega)
 |.h0 _ n i _ _ _ _ _ _ y z w ..,⟨l,j,v,A,B⟩,g=>by simp only[nt,qyR];subst l v A B;refine .br (λm=>?_) λ_=>.ret ⟨.inr rfl,rfl⟩;simp only[aW]at m;refine .ixR j m λrow C=>?_;have o:=aM C;obtain⟨n,b,p,q,f,k,rfl⟩:=r _ o;simp only[qw7];refine .br (λ_=>.ret ⟨.inl o,rfl⟩) λ_=>?_;unfold big at t;rw[w1 j (by omega)];exact g (.h0 ..) ⟨rfl,by omega,rfl,rfl,rfl⟩ (by dsimp only;omega)) _ ⟨rfl,rfl,rfl⟩⟩
instance {a b:Int} {c d e:Rs} {f g:Int}:Ends (λk=>g79b k a b c d e f g) True λ(r:Rs×Rs×Rs×Int×Int)=>r.1=c/\r.2.1=d/\r.2.2.1=e:=⟨λ_=>by refine .go ?_;simp only[nt,qAl];exact .br (λ_=>.ret ⟨rfl,rfl,rfl⟩) λ_=>.ret ⟨rfl,rfl,rfl⟩⟩
instance {a b:Int} {c d e:Rs} {f g:Int}:Ends (λk=>g79c k a b c d e f g) True λ(r:Rs×Rs×Rs×Int×Int)=>r.1=c/\r.2.1=d/\r.2.2.1=e:=⟨λ_=>by refine .go ?_;simp only[nt,qAm];exact .br (λ_=>.ret ⟨rfl,rfl,rfl⟩) λ_=>.ret ⟨rfl,rfl,rfl⟩⟩
instance {a:Int} {b:Rs}:Ends (λk=>g115 k a b) (AllK b) λ_=>True:=⟨λf=>.loop
 (λs=>match s with
  |.e _ x=>x=b
  |.h1 _ x c=>x=b/\(c=false->0<b.length)
  |_=>True)
 (λs=>match s with|.e ..=>5|.h0 ..=>4|.h1 ..=>4|.h2 ..=>3|.h3 ..=>3|.h4 ..=>0|.h5 ..=>0) (λs h d=>match s,h,d with
 |.e _ x,h,d=>by
  simp only[nt,qv6];subst h;refine .br (λg=>?_) λ_=>.br (λ_=>d (.h1 ..) ⟨rfl,λh=>by cases h⟩ (by dsimp only;omega)) λg=>?_
  . simp only[beq_iff_eq]at g;refine .ixR (by omega) (by omega) λrow e=>?_;obtain⟨k,rfl⟩:=f _ (aM e);simp only[qzx]
    repeat' first|exact d (.h0 ..) trivial (by dsimp only;omega)|refine .br (λ_=>?_) (λ_=>?_)
  . have g:(x.length:Int)=2:=by simpa using g
    refine .ixR (by omega) (by omega) λrow e=>?_;obtain⟨k,rfl⟩:=f _ (aM e);simp only[qzx];refine .ixR (by omega) (by omega) λrow e=>?_;obtain⟨m,rfl⟩:=f _ (aM e);simp only[qzx];exact d (.h1 ..) ⟨rfl,λ_=>by omega⟩ (by dsimp only;omega)
 |.h0 ..,_,d=>by
  simp only[nt,qv6]
  repeat' first|exact .ret trivial|exact d (.h2 ..) trivial (by dsimp only;omega)|refine .br (λ_=>?_) (λ_=>?_)
 |.h1 _ x c,⟨i,j⟩,d=>by
  simp only[nt,qv6];subst i;refine .br (λ_=>.ret trivial) λl=>?_;have:=j l;refine .ixR (by omega) (by omega) λrow e=>?_;obtain⟨k,rfl⟩:=f _ (aM e);simp only[qzx]
  repeat' first|exact d (.h3 ..) trivial (by dsimp only;omega)|refine .br (λ_=>?_) (λ_=>?_)
 |.h2 ..,_,d=>by
  simp only[nt,qv6]
  repeat' first|exact .ret trivial|exact d (.h4 ..) trivial (by dsimp only;omega)|refine .br (λ_=>?_) (λ_=>?_)
 |.h3 ..,_,d=>by
  simp only[nt,qv6]
  repeat' first|exact .ret trivial|exact d (.h5 ..) trivial (by dsimp only;omega)|refine .br (λ_=>?_) (λ_=>?_)
 |.h4 ..,_,d=>by simp only[nt,qv6];exact .br (λ_=>.ret trivial) λ_=>.ret trivial
 |.h5 ..,_,d=>by simp only[nt,qv6];exact .br (λ_=>.ret trivial) λ_=>.ret trivial) _ rfl⟩
abbrev S3:=Int×Rs×Rs×Rs×Int×Int
def SI (i j l:Rs):Prop:=SC i j/\qAX l/\l.length<=big
instance {a:Int} {b:Rs} {c d:Int} {e f:By} {g:Int} {i j l:Rs} {m n:Int}:Ends (λk=>qCX k a b c d e f g i j l m n) (SI i j l) λ(r:S3)=>r.2.1=i/\r.2.2.1=j/\r.2.2.2.1=l:=⟨λ⟨u,v,w⟩=>.loop
 (λs=>match s with
  |.e _ _ _ _ _ _ _ x y z ..=>x=i/\y=j/\z=l
  |.h0 _ _ _ _ _ _ _ _ _ _ _ _ _ _ _ _ x y z ..=>x=i/\y=j/\z=l
  |.h1 _ _ _ _ _ _ _ _ _ _ _ _ _ _ _ x y z ..=>x=i/\y=j/\z=l
  |.h2 _ _ _ _ _ _ _ _ _ x y z ..=>x=i/\y=j/\z=l
  |.h3 _ x y z ..=>x=i/\y=j/\z=l)
 (λs=>match s with|.e ..=>5|.h0 ..=>4|.h1 ..=>3|.h2 ..=>2|.h3 ..=>1) (λs h o=>match s,h,o with
 |.e _ _ _ _ _ _ _ x y z ..,⟨p,q,t⟩,o=>by simp only[nt,qv5];subst p q t;refine .call ⟨v,w⟩ λr ⟨_,A⟩=>?_;simp only[ql,A];exact .br (λ_=>o (.h0 ..) ⟨rfl,rfl,rfl⟩ (by dsimp only;omega)) λ_=>o (.h0 ..) ⟨rfl,rfl,rfl⟩ (by dsimp only;omega)
 |.h0 _ _ _ _ _ _ _ _ _ _ _ _ _ _ _ _ x y z ..,⟨p,q,t⟩,o=>by
  simp only[nt,qv5];subst p q t;refine .br (λ_=>?_) λ_=>o (.h1 ..) ⟨rfl,rfl,rfl⟩ (by dsimp only;omega);refine .call ⟨u.1,u.2.1⟩ λ_ _=>.br (λ_=>.call u.1 λ_ _=>?_) λ_=>.call u.1 λ_ _=>?_
  all_goals exact o (.h1 ..) ⟨rfl,rfl,rfl⟩ (by dsimp only;omega)
 |.h1 _ _ _ _ _ _ _ _ _ _ _ _ _ _ _ x y z ..,⟨p,q,t⟩,o=>by
  simp only[nt,qv5];subst p q t;refine .br (λ_=>.call trivial λr ⟨p,q,t⟩=>?_) λ_=>?_
  . repeat' first|exact o (.h2 ..) ⟨rfl,rfl,rfl⟩ (by dsimp only;omega)|refine .br (λ_=>?_) (λ_=>?_)
  . simp only[tup5];exact .ret ⟨p,q,t⟩
 |.h2 _ _ _ _ _ _ _ _ _ x y z ..,⟨p,q,t⟩,o=>by simp only[nt,qv5];subst p q t;refine .br (λ_=>.call trivial λr ⟨p,q,t⟩=>?_) λ_=>o (.h3 ..) ⟨rfl,rfl,rfl⟩ (by dsimp only;omega);simp only[tup5];exact o (.h3 ..) ⟨p,q,t⟩ (by dsimp only;omega)
 |.h3 _ x y z ..,h,o=>by simp only[nt,qv5];exact .ret h) _ ⟨rfl,rfl,rfl⟩⟩
theorem qDg (m:Nat){i j l:Rs}(x:SI i j l):∀ (op n s p:Int) (u d:By) (args:List Tx) (b at_:Int),cnts args<m->m<=50000->En (λ(r:S3)=>r.2.1=i/\r.2.2.1=j/\r.2.2.2.1=l) λk=>itS qvC k (.e op (trows args) n s u d p i j l b at_):=by
 induction m with
 |zero=>intro _ _ _ _ _ _ _ _ _ h;omega
 |succ m B=>
  intro op n s p u d args b at_ h O;have P:=qvl args;have o:∀ (a:Rs) (c b at_:Int),AllK a->¬ c<args.length->En (λ(r:S3)=>r.2.1=i/\r.2.2.1=j/\r.2.2.2.1=l) λk=>itS qvC k (.h0 a ((trows args).length:Int) c op (trows args) n s u d p i j l b at_):=λa c b at_ z y=>.go (by
   simp only[nt,qvC,ve];refine .br (λv=>absurd (by simpa using v) y) λ_=>?_;refine .br (λ_=>.ret ⟨rfl,rfl,rfl⟩) λ_=>.br (λ_=>.ret ⟨rfl,rfl,rfl⟩) λ_=>.br (λ_=>.ret ⟨rfl,rfl,rfl⟩) λ_=>.br (λ_=>.ret ⟨rfl,rfl,rfl⟩) λ_=>.br (λ_=>?_) λ_=>.br (λ_=>?_) λ_=>?_
   . refine .call ⟨x.1.2.2.1,x.1.2.2.2⟩ λ_ _=>.br (λ_=>.call trivial λr ⟨e,f,g⟩=>?_) λ_=>?_
     . refine .go ?_;simp only[nt,qvC];exact .ret ⟨rfl,rfl,rfl⟩
     . simp only[tup5,e,f,g];refine .go ?_;simp only[nt,qvC];exact .ret ⟨rfl,rfl,rfl⟩
   . refine .call x λr ⟨e,f,g⟩=>?_;simp only[tup6];exact .ret ⟨e,f,g⟩
   . rw[z.imm];refine .call z λ_ _=>.br (λ_=>.call trivial λr ⟨e,f,g⟩=>?_) λ_=>?_
     . refine .go ?_;simp only[nt,qvC];exact .ret ⟨rfl,rfl,rfl⟩
     . simp only[tup5,e,f,g];refine .go ?_;simp only[nt,qvC];exact .ret ⟨rfl,rfl,rfl⟩)
  have loop:∀ (q:Nat) (a:Rs) (c b at_:Int),0<=c->args.length-c.toNat=q->c<=args.length->AllK a->(a.length:Int)=c->En (λ(r:S3)=>r.2.1=i/\r.2.2.1=j/\r.2.2.2.1=l) λk=>itS qvC k (.h0 a ((trows args).length:Int) c op (trows args) n s u d p i j l b at_):=by
   intro q
   induction q with
   |zero=>intro a c b at_ e f g w C;exact o a c b at_ w (by omega)
   |succ q D=>
    intro a c b at_ e f g w C;by_cases v:c<args.length
    . refine .go ?_;simp only[nt,qvC];refine .br (λ_=>?_) λE=>by simp only[decide_eq_false_iff_not,ve]at E;omega
      refine .ixR e (by rw[ve];exact v) λrow A=>?_;rw[qvk]at A;obtain⟨t,F,rfl⟩:=aG.1 A;have y:=qvh (aM F);obtain⟨G,H,I,J,K,L,xs⟩:=t;simp only[Tx.cnt]at y;simp only[qzz];refine .bind (B G H I J K L xs b at_ (by omega) (by omega)) λr ⟨M,N,r2⟩=>?_;simp only[tup6,M,N,r2];refine .gd (apK (by unfold big;omega)) ?_;rw[w1 e (by omega)];exact D _ _ _ _ (by omega) (by omega) (by omega) w.add (by simp;omega)
    . exact o a c b at_ w v
  refine .go ?_;simp only[nt,qvC];exact loop _ [] 0 _ _ (Int.le_refl 0) rfl (by omega) (by simp[AllK]) rfl
end Ab
end Go.Proofs.YtnnhdcidgfjfpaaGreatDoor

/-
  The document's planner: what an expression names; its node. Each ends. No claim stands here.
-/
import Derived.Test.YtnnhdcidgfjfpaaGreatDoorV23q
set_option linter.all false
namespace Go.Proofs.YtnnhdcidgfjfpaaGreatDoor
namespace Ab
def qvO (I X:Rs):Prop:=∀ row∈X,∃ (n:By) (b p q f k:Int),row=itR8 n b p q f k/\Fd I n b p q f k
theorem qvO.nil {I:Rs}:qvO I []:=by simp[qvO]
theorem qvO.app {I X Y:Rs}(h:qvO I X)(a:qvO I Y):qvO I (X++Y):=λrow hr=>by
 rcases List.mem_append.1 hr with hr|hr
 . exact h row hr
 . exact a row hr
theorem apNm {I a b:Rs}(c:qvO I b)(e:a.length<=100000)(f:b.length<=100000):apOk 56 6 a b=true:=by
 have d:b.head?.all (·.length==6)=true:=by
  cases b with
  |nil=>rfl
  |cons r l=>obtain⟨_,_,_,_,_,_,rfl,_⟩:=c _ (au ..);rfl
 unfold apOk;rw[d];simp[lim];exact⟨by omega,aO (by omega)⟩
abbrev R83:=Rs×Rs×Rs×Rs
theorem qDW (m:Nat){i j l:Rs}(C:SI i j l):∀ (op n s p:Int) (g a:By) (args:List Tx) (d:Bool) (e at_:Int),cnts args<m->m<=50000->En (λ(r:R83)=>qvO l r.1/\r.1.length<=1+cnts args/\r.2=(i,j,l)) λk=>itS qvJ k (.e op (trows args) n s g a p d i j l e at_):=by
 induction m with
 |zero=>intro _ _ _ _ _ _ _ _ _ _ h;omega
 |succ m D=>
  intro op n s p g a args d e at_ h P;have Q:=qvl args;have loop:∀ (q:Nat) (b:Rs) (c:Int),0<=c->args.length-c.toNat=q->c<=args.length->qvO l b->b.length+cnts (args.drop c.toNat)<=1+cnts args->En (λ(r:R83)=>qvO l r.1/\r.1.length<=1+cnts args/\r.2=(i,j,l)) λk=>itS qvJ k (.h2 d b (args.length:Int) c op (trows args) n s g a p i j l e at_):=by
   intro q
   induction q with
   |zero=>intro b c w E F u x;refine .go ?_;simp only[nt,qvJ];refine .br (λf=>?_) λ_=>.ret ⟨u,by dsimp only;omega,rfl⟩;simp only[aW]at f;omega
   |succ q G=>intro b c w E F u x;refine .go ?_;simp only[nt,qvJ];refine .br (λf=>?_) λ_=>.ret ⟨u,by dsimp only;omega,rfl⟩;simp only[aW]at f;refine .ixR w (by rw[ve];exact f) λrow v=>?_;rw[qvk]at v;obtain⟨t,A,rfl⟩:=aG.1 v;have H:=qvh (aM A);rw[qy7 A]at x;obtain⟨I,J,K,L,M,N,xs⟩:=t;simp only[Tx.cnt]at H x;simp only[qzz];refine .bind (D I J K L M N xs d e at_ (by omega) (by omega)) λr ⟨B,R,r2⟩=>?_;simp only[tup4,r2];refine .gd (apNm B (by omega) (by omega)) ?_;rw[w1 w (by omega)];exact G _ _ (by omega) (by omega) (by omega) (u.app B) (by rw[show(c+1).toNat=c.toNat+1 by omega,List.length_append];omega)
  have k1:∀ (b:Rs),qvO l b->b.length<=1->En (λ(r:R83)=>qvO l r.1/\r.1.length<=1+cnts args/\r.2=(i,j,l)) λk=>itS qvJ k (.h1 d b op (trows args) n s g a p i j l e at_):=λb f O=>.go (by simp only[nt,qvJ,ve];exact loop _ b 0 (Int.le_refl 0) rfl (by omega) f (by simp;omega));have y:∀ (b:Bool),En (λ(r:R83)=>qvO l r.1/\r.1.length<=1+cnts args/\r.2=(i,j,l)) λk=>itS qvJ k (.h0 d b op (trows args) n s g a p i j l e at_):=λb=>.go (by simp only[nt,qvJ];refine .br (λ_=>.call C.2 λr ⟨v,z⟩=>?_) λ_=>k1 _ .nil (by simp);simp only[ql,z];exact k1 _ (λrow o=>by obtain rfl:=aU.1 o;exact⟨_,_,_,_,_,_,rfl,v⟩) (by simp));refine .go ?_;simp only[nt,qvJ];exact .br (λ_=>y _) λ_=>.br (λ_=>y _) λ_=>y _
instance {a:Int}:Ends (λk=>g140 k a) (-9223372036854775808<=a/\a<9223372036854775808) λ(r:Int)=>0<=r/\r<18446744073709551616:=⟨λi=>.loop
 (λs=>match s with
  |.e x=>x=a
  |.h0 x _=>0<x/\x<18446744073709551616
  |.h1 x _ _=>0<x/\x<18446744073709551616
  |_=>True)
 (λs=>match s with|.e _=>18446744073709551630|.h0 ..=>18446744073709551620|.h1 x ..=>18446744073709551618-x.toNat|.h2 ..=>1|.h3 ..=>0) (λs h b=>match s,h,b with
 |.e x,e,b=>by
  simp only[nt,qwL];subst e;refine .br (λ_=>.ret ⟨Int.le_refl 0,by omega⟩) λf=>.br (λd=>b (.h0 ..) ?_ (by dsimp only;omega)) λd=>b (.h0 ..) ?_ (by dsimp only;omega)
  all_goals
   simp only[beq_eq_false_iff_ne,ne_eq,aW,decide_eq_false_iff_not]at f d;simp only[IntKind.wrap_u64];omega
 |.h0 x y,h,b=>by simp only[nt,qwL];exact b (.h1 ..) h (by dsimp only;omega)
 |.h1 x y c,⟨f,d⟩,b=>by
  simp only[nt,qwL];refine .br (λg=>?_) λ_=>?_
  . simp only[beq_iff_eq]at g;have e:x<9223372036854775808:=by rw[Int.fdiv_eq_ediv_of_nonneg _ (by omega)]at g;omega
    rw[show IntKind.u64.wrap (x*2 ^ 1)=x*2 by rw[IntKind.wrap_u64];omega];exact b (.h1 ..) ⟨by omega,by omega⟩ (by dsimp only;omega)
  . repeat' first|exact b (.h2 ..) trivial (by dsimp only;omega)|refine .br (λ_=>?_) (λ_=>?_)
 |.h2 ..,_,b=>by simp only[nt,qwL];exact .br (λ_=>b (.h3 ..) trivial (by dsimp only;omega)) λ_=>b (.h3 ..) trivial (by dsimp only;omega)
 |.h3 ..,_,b=>by simp only[nt,qwL];exact .ret (u64r _)) _ rfl⟩
theorem qDH {b:Nat}(h:b<18446744073709551616):0<=canon b/\canon b<18446744073709551616:=by unfold canon;split<;>omega
theorem qFN (op a b:Int):0<=doF op a b/\doF op a b<18446744073709551616:=by unfold doF;rw[<- qDy _ _ _ default];exact qDH (qFL _ _ _ _)
instance {op a b:Int}:Ends (λ_=>doX op a b) ((0<=a/\a<18446744073709551616)/\0<=b/\b<18446744073709551616) λ(r:Int)=>0<=r/\r<18446744073709551616:=⟨λ⟨⟨c,d⟩,e,f⟩=>by unfold doX;rw[aD ⟨c,d,e,f⟩];exact .ret (qFN _ _ _)⟩
instance {a b:Int}:Ends (λk=>g116 k a b) True λ(r:Int×Bool)=>0<=r.1/\r.1<18446744073709551616:=⟨λ_=>.loop
 (λs=>match s with
  |.e _ y=>True
  |.h0 x y c=>c=false->y<=15/\0<=x/\x<1000000000000000
  |.h1 x y c d=>(y<=15/\0<=x/\x<1000000000000000)/\0<=d/\0<=c/\c<18446744073709551616)
 (λs=>match s with|.e ..=>30|.h0 ..=>29|.h1 _ _ _ d=>20-d.toNat) (λs h e=>match s,h,e with
 |.e x y,_,e=>by simp only[nt,qoW];refine .br (λ_=>e (.h0 ..) (λh=>by cases h) (by dsimp only;omega)) λl=>.br (λ_=>e (.h0 ..) (λh=>by cases h) (by dsimp only;omega)) λm=>.br (λ_=>e (.h0 ..) (λh=>by cases h) (by dsimp only;omega)) λ_=>e (.h0 ..) (λh=>?_) (by dsimp only;omega);simp only[decide_eq_false_iff_not]at h l m;omega
 |.h0 x y c,h,e=>by simp only[nt,qoW];exact .br (λ_=>.ret ⟨Int.le_refl 0,by dsimp only;omega⟩) λn=>e (.h1 ..) ⟨h n,Int.le_refl 0,by omega,by omega⟩ (by dsimp only;omega)
 |.h1 x y c d,⟨o,p,i,j⟩,e=>by simp only[nt,qoW];refine .br (λt=>?_) λ_=>.call ⟨by omega,by omega⟩ λr f=>.call ⟨f,i,j⟩ λq g=>.ret g;simp only[aW]at t;refine .call ⟨by omega,by omega⟩ λr f=>.call ⟨⟨i,j⟩,f⟩ λq g=>?_;rw[w1 p (by omega)];exact e (.h1 ..) ⟨o,by omega,g⟩ (by dsimp only;omega)) _ trivial⟩
inductive Nx where
 |mk (op kd vk bits pos att:Int) (args:List Nx)
mutual
def nrow:Nx->List Cell
 |.mk op kd b bits pos a args=>[ic op,ic kd,.imm (nrows args),ic b,.val (.int .u64 bits),ic pos,ic a]
def nrows:List Nx->Rs
 |[]=>[]
 |t::l=>nrow t::nrows l
end
mutual
def Nx.cnt:Nx->Nat
 |.mk _ _ _ _ _ _ args=>1+ncnts args
def ncnts:List Nx->Nat
 |[]=>0
 |t::l=>t.cnt+ncnts l
end
inductive Nx.Ok:Nx->Prop
 |mk {op kd vk bits pos att:Int} {args:List Nx}:(∀ t∈args,t.Ok)->args.length<=big->Ok (.mk op kd vk bits pos att args)
theorem qCY (t:Nx):qfz (nrow t)=nrow t:=by obtain⟨op,kd,b,bits,pos,a,args⟩:=t;rfl
theorem qvT:∀ l:List Nx,qG (nrows l)=nrows l
 |[]=>rfl
 |t::l=>by rw[nrows,qG,qCY,qvT l]
theorem qxW:∀ a b:List Nx,nrows (a++b)=nrows a++nrows b
 |[],_=>rfl
 |t::a,b=>by rw[List.cons_append,nrows,nrows,qxW a b];rfl
theorem qvj:∀ l:List Nx,(nrows l).length=l.length
 |[]=>rfl
 |t::l=>by rw[nrows,List.length_cons,List.length_cons,qvj l]
theorem qvU:∀ (l:List Nx) (i:Nat),(nrows l)[i]? = (l[i]?).map nrow
 |[],_=>rfl
 |t::l,0=>rfl
 |t::l,i+1=>by rw[nrows,List.getElem?_cons_succ,List.getElem?_cons_succ,qvU l i]
theorem apNx {b:Rs}{a c d e f g i:Cell}(h:b.length<=100000):apOk 72 7 b [[a,c,d,e,f,g,i]]=true:=by simp[apOk,lim];omega
def NR (X:Rs)(m:Nat):Prop:=∃ us:List Nx,X=nrows us/\(∀ t∈us,t.Ok)/\us.length<=m
theorem NR.nil {m:Nat}:NR [] m:=⟨[],rfl,by simp,Nat.zero_le _⟩
theorem NR.add {X:Rs}{m:Nat}(h:NR X m){t:Nx}(b:t.Ok):NR (X++[nrow t]) (m+1):=by
 obtain⟨us,rfl,c,d⟩:=h;refine⟨us++[t],by rw[qxW];rfl,λx a=>?_,by simp;omega⟩;rcases List.mem_append.1 a with a|a
 . exact c x a
 . obtain rfl:=aU.1 a;exact b
theorem NR.imm {X:Rs}{m:Nat}(h:NR X m):qG X=X:=by obtain⟨us,rfl,_⟩:=h;exact qvT us
theorem NR.len {X:Rs}{m:Nat}(h:NR X m):X.length<=m:=by obtain⟨us,rfl,_,a⟩:=h;rw[qvj];exact a
theorem NR.row {X:Rs}{m:Nat}(h:NR X m)(d:m<=big)(op kd b bits pos a:Int):∃ t:Nx,t.Ok/\[ic op,ic kd,.imm X,ic b,.val (.int .u64 bits),ic pos,ic a]=nrow t:=by obtain⟨us,rfl,c,e⟩:=h;exact⟨.mk op kd b bits pos a us,.mk c (by omega),rfl⟩
abbrev R84:=Int×Int×Rs×Int×Int×Int×Int×Rs×Rs×Rs×Int×Int
def Q84 (i j l:Rs)(r:R84):Prop:=NR r.2.2.1 20001/\r.2.2.2.2.2.2.2.1=i/\r.2.2.2.2.2.2.2.2.1=j/\r.2.2.2.2.2.2.2.2.2.1=l
theorem qEY (m:Nat){i j l:Rs}(E:SI i j l):∀ (op n s p:Int) (w u ask:By) (args:List Tx) (o at_:Int),cnts args<m->m<=20002->En (Q84 i j l) λk=>itS qvb k (.e op (trows args) n s w u p ask i j l o at_):=by
 induction m with
 |zero=>intro _ _ _ _ _ _ _ _ _ _ h;omega
 |succ m V=>
  intro op n s p w u ask args o at_ h hm;have hl:=qvl args;have W:∀ (a b:Int) (c:Rs) (d e f g o at_:Int),NR c 20001->En (Q84 i j l) λk=>itS qvb k (.h6 a b c d e f g i j l o at_):=λa b c d e f g o at_ v=>.go (by simp only[nt,qvb];exact .ret ⟨v,rfl,rfl,rfl⟩);have k1:∀ (a b:Int) (c:Rs) (d e f g o at_:Int),NR c 20001->En (Q84 i j l) λk=>itS qvb k (.h1 a b c d e f g i j l o at_):=λa b c d e f g o at_ v=>.go (by simp only[nt,qvb];exact .ret ⟨v,rfl,rfl,rfl⟩);have X:∀ (a b:Int) (c:Rs) (d e f g o at_:Int),NR c 20001->En (Q84 i j l) λk=>itS qvb k (.h3 a b c d e f g i j l o at_):=λa b c d e f g o at_ v=>.go (by simp only[nt,qvb];exact .ret ⟨v,rfl,rfl,rfl⟩);have O:∀ (a b:Int) (c:Rs) (d e f g y z A B C D o at_:Int),NR c 20001->En (Q84 i j l) λk=>itS qvb k (.h5 a b c d e f g y z A B C D i j l o at_):=λa b c d e f g y z A B C D o at_ v=>.go (by simp only[nt,qvb];rw[v.imm];exact W _ _ _ _ _ _ _ _ _ v);have Y:∀ (ask:By) (b c:Int) (f:Rs) (y z A B C D F G H I:Int) (op:Int) (J:Rs) (n s:Int) (w u:By) (p o at_:Int),NR f 20001->En (Q84 i j l) λk=>itS qvb k (.h4 ask b c f y z A B C D F G H I op J n s w u p i j l o at_):=λask b c f y z A B C D F G H I op J n s w u p o at_ x=>.go (by simp only[nt,qvb];exact .br (λ_=>.br (λ_=>O _ _ _ _ _ _ _ _ _ _ _ _ _ _ _ x) λ_=>O _ _ _ _ _ _ _ _ _ _ _ _ _ _ _ x) λ_=>O _ _ _ _ _ _ _ _ _ _ _ _ _ _ _ x);have Z:∀ (ask:By) (b c d e:Int) (f:Rs) (y z A B C D F G H I:Int) (op:Int) (J:Rs) (n s:Int) (w u:By) (p o at_:Int),NR f 20001->En (Q84 i j l) λk=>itS qvb k (.h2 ask b c d e f y z A B C D F G H I op J n s w u p i j l o at_):=λask b c d e f y z A B C D F G H I op J n s w u p o at_ x=>.go (by
   simp only[nt,qvb];refine .br (λ_=>X _ _ _ _ _ _ _ _ _ .nil) λ_=>.call E.2 λr ⟨_,M⟩=>?_;simp only[ql,M];refine .br (λ_=>.br (λ_=>.call ⟨E.1.1,E.1.2.1⟩ λ_ _=>?_) λ_=>?_) λ_=>?_
   all_goals exact Y _ _ _ _ _ _ _ _ _ _ _ _ _ _ _ _ _ _ _ _ _ _ _ x)
  have K:∀ (f:Rs) (c e o at_:Int),NR f 20001->¬ c<args.length->En (Q84 i j l) λk=>itS qvb k (.h0 ask (args.length:Int) c op e f 0 0 0 0 0 0 0 0 0 0 op (trows args) n s w u p i j l o at_):=λf c e o at_ x v=>.go (by
   simp only[nt,qvb];refine .br (λN=>absurd (by simpa using N) v) λ_=>?_;rw[x.imm];refine .br (λ_=>k1 _ _ _ _ _ _ _ _ _ x) λ_=>.br (λ_=>.call trivial λr _=>?_) λ_=>.br (λ_=>.call ⟨E.1.2.2.1,E.1.2.2.2⟩ λ_ _=>?_) λ_=>.br (λ_=>?_) λ_=>?_
   all_goals try simp only[tup2]
   all_goals exact Z _ _ _ _ _ _ _ _ _ _ _ _ _ _ _ _ _ _ _ _ _ _ _ _ _ x)
  have loop:∀ (q:Nat) (f:Rs) (c e o at_:Int),0<=c->args.length-c.toNat=q->c<=args.length->NR f c.toNat->En (Q84 i j l) λk=>itS qvb k (.h0 ask (args.length:Int) c op e f 0 0 0 0 0 0 0 0 0 0 op (trows args) n s w u p i j l o at_):=by
   have up:∀ {f:Rs} {c:Int},NR f c.toNat->c<=args.length->NR f 20001:=λ⟨us,e1,e2,e3⟩ v=>⟨us,e1,e2,by omega⟩
   intro q
   induction q with
   |zero=>intro f c e o at_ P h1 Q L;exact K f c e o at_ (up L Q) (by omega)
   |succ q jh=>
    intro f c e o at_ P h1 Q L;by_cases N:c<args.length
    . refine .go ?_;simp only[nt,qvb];refine .br (λ_=>?_) λhx=>by simp only[decide_eq_false_iff_not]at hx;omega
      refine .ixR P (by rw[ve];exact N) λrow M=>?_;rw[qvk]at M;obtain⟨t,ht,rfl⟩:=aG.1 M;have v:=qvh (aM ht);obtain⟨o1,n1,s1,p1,m1,a1,xs⟩:=t;simp only[Tx.cnt]at v;simp only[qzz];refine .bind (V o1 n1 s1 p1 m1 a1 ask xs o at_ (by omega) (by omega)) λr ⟨R,S,r2,r3⟩=>?_;simp only[zu,S,r2,r3];have x:=L.len;refine .gd (apNx (by omega)) ?_;rw[w1 P (by omega)];obtain⟨t,T,U⟩:=R.row (by unfold big;omega) r.1 r.2.1 r.2.2.2.1 r.2.2.2.2.1 r.2.2.2.2.2.1 r.2.2.2.2.2.2.1;rw[U];exact jh _ _ _ _ _ (by omega) (by omega) (by omega) (by rw[show(c+1).toNat=c.toNat+1 by omega];exact L.add T)
    . exact K f c e o at_ (up L Q) N
  refine .go ?_;simp only[nt,qvb];refine .bind (qDg 20003 E op n s p w u args o at_ (by omega) (by omega)) λr ⟨R,S,r2⟩=>?_;simp only[tup6,R,S,r2,ve];exact loop _ [] 0 _ _ _ (Int.le_refl 0) rfl (by omega) .nil
end Ab
end Go.Proofs.YtnnhdcidgfjfpaaGreatDoor

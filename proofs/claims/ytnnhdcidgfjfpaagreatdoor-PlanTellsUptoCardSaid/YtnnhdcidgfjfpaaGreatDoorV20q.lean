/-
  The document's printer of trees ends. No claim stands here.
-/
import Derived.Test.YtnnhdcidgfjfpaaGreatDoorV19q
import Derived.Test.YtnnhdcidgfjfpaaGreatDoorV16q
set_option linter.all false
namespace Go.Proofs.YtnnhdcidgfjfpaaGreatDoor
namespace Ab
def lev (a:Int):Int:=if a=14 then 1 else if a=13 then 2 else if a=15 then 3 else if 7<=a/\a<=12 then 4 else if a=1\/a=2 then 5 else if 3<=a/\a<=5 then 6 else if a=6 then 7 else 8
instance {a:Int}:Ends (λk=>g110 k a) True λ(r:Int)=>r=lev a:=⟨λ_=>by
 have g:∀ b:Bool,¬ (a=14\/a=13\/a=15\/7<=a/\a<=12\/a=1\/a=2)->(b=true↔3<=a/\a<=5)->En (λ(r:Int)=>r=lev a) λk=>itS qv4 k (.h2 a b):=λb f d=>.go (by
  simp only[nt,qv4];refine .br (λc=>.ret ?_) λc=>?_
  . have:=d.1 c;unfold lev;repeat' split<;>omega
  .
   have i:¬(3<=a/\a<=5):=λh=>by rw[d.2 h]at c;cases c
   refine .br (λe=>.ret ?_) λe=>.ret ?_
   all_goals
    simp only[beq_iff_eq,beq_eq_false_iff_ne,ne_eq]at e;unfold lev
    repeat' split<;>omega)
 have k1:∀ b:Bool,¬ (a=14\/a=13\/a=15\/7<=a/\a<=12)->(b=true↔a=1\/a=2)->En (λ(r:Int)=>r=lev a) λk=>itS qv4 k (.h1 a b):=λb f d=>.go (by
  simp only[nt,qv4];refine .br (λc=>.ret ?_) λc=>?_
  . have:=d.1 c;unfold lev;repeat' split<;>omega
  .
   have i:¬(a=1\/a=2):=λh=>by rw[d.2 h]at c;cases c
   refine .br (λe=>g _ (by omega) ?_) λe=>g _ (by omega) ?_
   all_goals
    simp only[aW,decide_eq_false_iff_not]at e;simp;omega)
 have j:∀ b:Bool,¬ (a=14\/a=13\/a=15)->(b=true↔7<=a/\a<=12)->En (λ(r:Int)=>r=lev a) λk=>itS qv4 k (.h0 a b):=λb f d=>.go (by
  simp only[nt,qv4];refine .br (λc=>.ret ?_) λc=>?_
  . have:=d.1 c;unfold lev;repeat' split<;>omega
  .
   have i:¬(7<=a/\a<=12):=λh=>by rw[d.2 h]at c;cases c
   refine .br (λe=>k1 _ (by omega) ?_) λe=>k1 _ (by omega) ?_
   all_goals
    simp only[beq_iff_eq,beq_eq_false_iff_ne,ne_eq]at e;simp;omega)
 refine .go ?_;simp only[nt,qv4];refine .br (λc=>.ret ?_) λl=>.br (λc=>.ret ?_) λf=>.br (λc=>.ret ?_) λd=>.br (λc=>j _ ?_ ?_) λc=>j _ ?_ ?_
 all_goals simp only[beq_iff_eq,beq_eq_false_iff_ne,ne_eq,aW,decide_eq_false_iff_not]at *
 all_goals first|omega|(simp;omega)|(unfold lev;repeat' split<;>omega)⟩
theorem qGw {op:Int}(h:1<=op/\op<=14/\op≠6):En (λ(r:Rs×Int)=>AllS r.1/\0<=op-r.2/\op-r.2<r.1.length/\0<=r.2/\r.2<=14) λk=>g111 k (lev op):=by
 have:lev op=1/\op=14\/lev op=2/\op=13\/lev op=4/\7<=op/\op<=12\/lev op=5/\(op=1\/op=2)\/lev op=6/\3<=op/\op<=5:=by unfold lev;repeat' split<;>omega
 rcases this with⟨e,h⟩|⟨e,h⟩|⟨e,h⟩|⟨e,h⟩|⟨e,h⟩<;>rw[e]<;>refine .go ?_<;>simp only[nt,qxh] <;>
  (repeat' refine .br (λa=>?_) (λa=>?_)<;>try exact absurd a (by decide)) <;>
  (refine .go ?_;simp only[nt,qxh];refine .ret ⟨by simp[AllS,sc,quY],?_,?_,?_,?_⟩<;>dsimp only[List.length_cons,List.length_nil]<;>omega)
instance {a:Int} {b:Rs} {c d:Int} {e f:By} {g:Int}:Ends (λk=>g112 k a b c d e f g) (20<=a/\a<=31/\(a=21->1<=d/\d<=14)/\e.size<=4000/\f.size<=4000) λr=>r.size<=8500:=⟨λ⟨u,v,j,w,y⟩=>by
 refine .go ?_;simp only[nt,qAa];refine .br (λ_=>.call trivial λr i=>.ret (by omega)) λl=>.br (λh=>?_) λm=>.br (λ_=>.br (λ_=>.ret ?_) λ_=>.ret ?_) λn=>.br (λ_=>.gd ?_ (.gd ?_ (.ret ?_))) λo=>.br (λ_=>.gd ?_ (.gd ?_ (.ret ?_))) λp=>.br (λ_=>.gd ?_ (.gd ?_ (.ret ?_))) λq=>.call trivial λL ⟨t,z⟩=>?_
 . have:=j (by simpa using h);exact .call ⟨by omega,by omega⟩ λr i=>.ret (by omega)
 any_goals (simp only[aW,ByteArray.size_append,quY,List.length_cons,List.length_nil];omega)
 simp only[beq_eq_false_iff_ne,ne_eq]at l m n o p q;rw[qes (x:=a-25) (by omega)];refine .ixR (by omega) (by omega) λrow i=>?_;obtain⟨s,rfl,A⟩:=t.at i;simp only[qwu];refine .gd ?_ (.gd ?_ (.gd ?_ (.gd ?_ (.gd ?_ (.ret ?_)))))
 all_goals (simp only[aW,ByteArray.size_append,quY,List.length_cons,List.length_nil];omega)⟩
def PT (b:Rs)(args:List Tx)(j:Nat):Prop:=b.length=j/\∀ (i:Nat) row,b[i]? = some row->∃ (s:By) (t:Tx),row=[sc s]/\args[i]? = some t/\s.size<=9000*t.cnt+2
theorem PT.add {b:Rs}{args:List Tx}{j:Nat}(h:PT b args j){s:By}{t:Tx}(c:args[j]? = some t)(d:s.size<=9000*t.cnt+2):PT (b++[[sc s]]) args (j+1):=⟨by simp[h.1],λi row e=>by
 by_cases f:i<b.length
 . rw[aX f]at e;exact h.2 i row e
 . rw[aY (by omega)]at e;have a:i=b.length:=by have:=(az.1 e).1;simp at this;omega
   subst a;simp only[Nat.sub_self,aI,aa]at e;subst e;exact⟨s,t,rfl,by rw[h.1];exact c,d⟩⟩
theorem qFF (m:Nat):∀ (op n s p:Int) (o g:By) (args:List Tx),cnts args<m->m<=50000->(Tx.mk op n s p o g args).Good->Rt (.mk op n s p o g args)->En (λ(r:By×Int)=>r.1.size<=9000*(1+cnts args)) λk=>itS qrC k (.e op (trows args) n s o g p):=by
 induction m with
 |zero=>intro _ _ _ _ _ _ _ h;omega
 |succ m ih=>
  intro op n s p o g args h hm hg B;have hl:=qvl args;obtain⟨P,_,Q,R⟩:=hg;obtain⟨S,C⟩:=B;have T:∀ (b:Rs) (c d:Int),PT b args args.length->¬ d<args.length->En (λ(r:By×Int)=>r.1.size<=9000*(1+cnts args)) λk=>itS qrC k (.h0 (lev op) b c (args.length:Int) d op (trows args) n s o g p):=λb c d u hd=>.go (by
   simp only[nt,qrC];refine .br (λh'=>absurd (by simpa using h') hd) λ_=>?_;rw[u.1];have one:∀ {f:Nat->By->Option (By×Int)},(op=6\/15<=op/\op<=17)->(∀ s:By,s.size<=9000*cnts args+2->En (λ(r:By×Int)=>r.1.size<=9000*(1+cnts args)) λk=>f k s)->En (λ(r:By×Int)=>r.1.size<=9000*(1+cnts args)) λk=>ixR b 0 λrow=>un_s row (f k):=λZ hf=>by
    have hlen:args.length=1:=by unfold RtO at C;omega
    refine .ixR (by omega) (by rw[u.1];omega) λrow a=>?_;obtain⟨s,t,rfl,U,N⟩:=u.2 _ _ a;have:=qvh (aM U);simp only[qwu];exact hf s (by omega)
   refine .br (λN=>?_) λN=>.br (λF=>?_) λF=>.br (λh4=>?_) λh4=>.br (λh5=>?_) λh5=>.br (λh6=>?_) λh6=>?_
   all_goals simp only[beq_iff_eq,beq_eq_false_iff_ne,ne_eq]at *
   .
    have Z:1<=op/\op<=14/\op≠6:=by unfold RtO at C;omega
    refine .bind (qGw Z) λr ⟨r1,r2,r3,r4,r5⟩=>?_;simp only[tup2];refine .ixR (by omega) (by rw[u.1];omega) λrow a=>?_;obtain⟨s0,t0,rfl,v,h20⟩:=u.2 _ _ a;simp only[qwu];have V:∀ t1,args[1]? = some t1->t0.cnt+t1.cnt<=cnts args:=λt1 L=>by
     have hx:args.length=2:=by omega
     match args,hx with
     |[x,y],_=>simp only[show(0:Int).toNat=0 from rfl,aI,aa,List.getElem?_cons_succ]at v L;subst v L;simp only[cnts];omega
    refine .gd (aO (by simp only[ByteArray.size_append,quY,List.length_cons,List.length_nil];have:=qvh (aM v);omega)) ?_;rw[qes (x:=op-r.2) (by omega)];refine .ixR r2 r3 λrow a=>?_;obtain⟨s2,rfl,hs2⟩:=r1.at a;simp only[qwu];have hc0:=qvh (aM v);refine .gd (aO (by simp only[ByteArray.size_append,quY,List.length_cons,List.length_nil];omega)) (.gd (aO (by simp only[ByteArray.size_append,quY,List.length_cons,List.length_nil];omega)) ?_);refine .ixR (by omega) (by rw[u.1];omega) λrow a=>?_;obtain⟨D,t1,rfl,W,h21⟩:=u.2 _ _ a;simp only[qwu];have:=V t1 W;refine .gd (aO (by simp only[ByteArray.size_append,quY,List.length_cons,List.length_nil];omega)) (.ret ?_);simp only[ByteArray.size_append,quY,List.length_cons,List.length_nil];omega
   . refine one (by omega) λs X=>.gd ?_ (.ret ?_)
     all_goals (simp only[aW,ByteArray.size_append,quY,List.length_cons,List.length_nil];omega)
   . refine one (by omega) λs X=>.gd ?_ (.ret ?_)
     all_goals (simp only[aW,ByteArray.size_append,quY,List.length_cons,List.length_nil];omega)
   . refine one (by omega) λs X=>.gd ?_ (.gd ?_ (.ret ?_))
     all_goals (simp only[aW,ByteArray.size_append,quY,List.length_cons,List.length_nil];omega)
   . refine one (by omega) λs X=>.gd ?_ (.gd ?_ (.ret ?_))
     all_goals (simp only[aW,ByteArray.size_append,quY,List.length_cons,List.length_nil];omega)
   . refine .call ⟨?_,?_,?_,Q,R⟩ λr B=>.ret (by dsimp only;omega)
     all_goals unfold RtO at C;omega)
  have loop:∀ (j:Nat) (b:Rs) (c d:Int),0<=d->args.length-d.toNat=j->d<=args.length->PT b args d.toNat->En (λ(r:By×Int)=>r.1.size<=9000*(1+cnts args)) λk=>itS qrC k (.h0 (lev op) b c (args.length:Int) d op (trows args) n s o g p):=by
   intro j
   induction j with
   |zero=>intro b c d O U N F;exact T b c d (by rw[show args.length=d.toNat by omega];exact F) (by omega)
   |succ j jh=>
    intro b c d O U N F;have M:d<args.length:=by omega
    refine .go ?_;simp only[nt,qrC];refine .br (λ_=>?_) λu=>by simp only[decide_eq_false_iff_not]at u;omega
    refine .ixR O (by rw[ve];exact M) λrow a=>?_;have E:=a;rw[qvk]at a;obtain⟨t,L,rfl⟩:=aG.1 a;have l:=aM L;have V:=qvh l;have k4:∀ (z:By) (x:Int),z.size<=9000*t.cnt+2->En (λ(r:By×Int)=>r.1.size<=9000*(1+cnts args)) λk=>itS qrC k (.h4 (lev op) b c z x (args.length:Int) d op (trows args) n s o g p):=λz x A=>.go (by simp only[nt,qrC];refine .gd (apN (by rw[F.1];unfold big;omega)) ?_;rw[w1 O (by omega)];exact jh _ _ _ (by omega) (by omega) (by omega) (by rw[show(d+1).toNat=d.toNat+1 by omega];exact F.add L A));have k3:∀ (z:By) (x y:Int),z.size<=9000*t.cnt->En (λ(r:By×Int)=>r.1.size<=9000*(1+cnts args)) λk=>itS qrC k (.h3 (lev op) b c d z x y (args.length:Int) d op (trows args) n s o g p):=λz x y A=>.go (by
     simp only[nt,qrC];refine .ixR O (by rw[ve];exact M) λrow a=>?_;obtain rfl:=aQ (a.symm.trans E);obtain⟨G,H,D,I,J,K,xs⟩:=t;simp only[qzz];refine .call trivial λw _=>.br (λ_=>.gd ?_ (.gd ?_ (k4 _ _ ?_))) λ_=>k4 _ _ (by omega)
     all_goals (simp only[aW,ByteArray.size_append,quY,List.length_cons,List.length_nil];omega))
    have k2:∀ (z:By) (x y:Int) (q:Bool),z.size<=9000*t.cnt->En (λ(r:By×Int)=>r.1.size<=9000*(1+cnts args)) λk=>itS qrC k (.h2 (lev op) b c d z x y (args.length:Int) d q op (trows args) n s o g p):=λz x y q A=>.go (by simp only[nt,qrC];exact .br (λ_=>k3 _ _ _ A) λ_=>k3 _ _ _ A);have k1:∀ (z:By) (x y:Int),z.size<=9000*t.cnt->En (λ(r:By×Int)=>r.1.size<=9000*(1+cnts args)) λk=>itS qrC k (.h1 (lev op) b c d z x y (args.length:Int) d op (trows args) n s o g p):=λz x y A=>.go (by simp only[nt,qrC];exact .br (λ_=>k2 _ _ _ _ A) λ_=>k2 _ _ _ _ A);have Y:∀ G H D I J K xs,t=.mk G H D I J K xs->En (λ(r:By×Int)=>r.1.size<=9000*t.cnt) λk=>itS qrC k (.e G (trows xs) H D J K I):=λG H D I J K xs e=>by subst e;simp only[Tx.cnt]at V |-;exact ih G H D I J K xs (by omega) (by omega) (P _ l) (S _ l)
    cases t with
    |mk G H D I J K xs=>simp only[qzz];refine .bind (Y _ _ _ _ _ _ _ rfl) λr B=>?_;simp only[tup2];exact .br (λ_=>k1 _ _ _ B) λ_=>k1 _ _ _ B
  refine .go ?_;simp only[nt,qrC];refine .call trivial λr B=>?_;subst B;rw[ve];exact loop _ [] 0 0 (Int.le_refl 0) rfl (by omega) ⟨rfl,λi row e=>by simp at e⟩
end Ab
end Go.Proofs.YtnnhdcidgfjfpaaGreatDoor

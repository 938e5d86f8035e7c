/-
  The document's planner: a condition is put into its place. It ends, and the plan stays a plan. No claim stands here.
-/
import Derived.Test.YtnnhdcidgfjfpaaGreatDoorV25q
import Derived.Test.YtnnhdcidgfjfpaaGreatDoorFQdq
set_option linter.all false
namespace Go.Proofs.YtnnhdcidgfjfpaaGreatDoor
namespace Ab
theorem qvX {rows:Rs}{n o:Nat}{c:Cell}{row:List Cell}(h:rows[n]? = some row):setRow rows n o c=rows.set n (row.set o c):=by unfold setRow;rw[h];rfl
theorem qwq {rows:Rs}{n o:Nat}{x y:Cell}{row:List Cell}(h:rows[n]? = some row):setRow (setRow rows n o x) n o y=setRow rows n o y:=by have a:=(az.1 h).1;rw[qvX h,qvX h,qvX (row:=row.set o x) (by rw[List.getElem?_set_self a])];simp
theorem qx4 {X:Rs}{r:List Cell}{o:Nat}{c:Cell}:setRow (X++[r]) ((X.length:Int).toNat) o c=X++[r.set o c]:=by rw[qvX (row:=r) (by simp)];simp
def PB (A:Rs)(b:Nat->Nat)(B:Rs):Prop:=B.length=A.length/\∀ (i:Nat) row,B[i]? = some row->∃ (id a:Int) (P X:Rs),row=[ic id,ic a,.own 4 P]/\A[i]? = some [.imm X]/\P.length=X.length/\∀ row∈P,PRow (b i) row
theorem NR.mono {X:Rs}{m n:Nat}(h:NR X m)(e:m<=n):NR X n:=by obtain⟨us,a,b,c⟩:=h;exact⟨us,a,b,by omega⟩
theorem GC.mono {m n:Nat}{x:Cell}(h:GC m x)(e:m<=n):GC n x:=by
 rcases h with h|⟨X,h,a⟩
 . exact .inl h
 . exact .inr ⟨X,h,a.mono e⟩
theorem PRow.mono {m n:Nat}{r:List Cell}(h:PRow m r)(e:m<=n):PRow n r:=by obtain⟨f,t,G,C,a,b,c⟩:=h;exact⟨f,t,G,C,a,b.mono e,c.mono e⟩
theorem PB.mono {A:Rs}{c a:Nat->Nat}{B:Rs}(h:PB A c B)(e:∀ i,c i<=a i):PB A a B:=⟨h.1,λi row d=>by obtain⟨id,b,P,X,g,j,k,l⟩:=h.2 i row d;exact⟨id,b,P,X,g,j,k,λr m=>(l r m).mono (e i)⟩⟩
theorem PB.set {A:Rs}{a:Nat->Nat}{B P:Rs}{i j o:Nat}{id d:Int}{r r':List Cell}{x:Cell}(h:PB A a B)(p:B[i]? = some [ic id,ic d,.own 4 P])(w:P[j]? = some r)(y:r.set o x=r')(z:PRow (a i+1) r'):
  PB A (λk=>if k=i then a i+1 else a k) (setRow B i 2 (.own 4 (setRow P j o x))):=by
 rw[qvX p,qvX w,y];refine⟨by rw[List.length_set];exact h.1,λk row m=>?_⟩;have D:=(az.1 p).1;rw[List.getElem?_set]at m;split at m
 .
  rename_i c;subst c;obtain rfl:=aQ m;obtain⟨g,b,v,X,n,q,s,u⟩:=h.2 i _ p;simp only[List.cons.injEq,Cell.own.injEq,true_and,and_true]at n;obtain⟨_,_,rfl⟩:=n;refine⟨id,d,_,X,rfl,q,by rw[List.length_set];exact s,λr l=>?_⟩;show PRow (if i=i then a i+1 else a i) r;rw[aD rfl];rcases List.mem_or_eq_of_mem_set l with l|rfl
  . exact(u r l).mono (by omega)
  . exact z
 . rename_i c;obtain⟨g,b,v,X,n,q,s,u⟩:=h.2 k _ m;exact⟨g,b,v,X,n,q,s,λr l=>by show PRow (if k=i then a i+1 else a k) r;rw[aF λe=>c e.symm];exact u r l⟩
theorem qCE {α:Type}{a b:Int}{P:Rs}(k:Int->Int->Rs->Option α):qwO [ic a,ic b,.own 4 P] k=k a b P:=rfl
section
variable {α:Type} {f t:Int} {G C:Rs} (k1:Int->Int->Option α) (k2 k3:Int->Int->Rs->Option α) (k4:Int->Int->Rs->Rs->Option α)
theorem ua1:xe [ic f,ic t,.nil,.nil] k1 k2 k3 k4=k1 f t:=rfl
theorem ua2:xe [ic f,ic t,.nil,.own 7 C] k1 k2 k3 k4=k2 f t C:=rfl
theorem ua3:xe [ic f,ic t,.own 7 G,.nil] k1 k2 k3 k4=k3 f t G:=rfl
theorem ua4:xe [ic f,ic t,.own 7 G,.own 7 C] k1 k2 k3 k4=k4 f t G C:=rfl
end
theorem NR.one {t:Nx}{m:Nat}(h:t.Ok):NR [nrow t] (m+1):=⟨[t],rfl,λx a=>by obtain rfl:=aU.1 a;exact h,by simp⟩
abbrev R41:=Rs×Rs×Rs×Int×Int×Rs×Rs
def Q41 (A T S I K:Rs)(n:Nat)(r:R41):Prop:=r.1=T/\r.2.1=S/\r.2.2.1=I/\r.2.2.2.2.2.1=K/\PB A (λ_=>n) r.2.2.2.2.2.2
theorem Wd.row {A:Rs}{d:Nat->Nat}{B:Rs}{b p:Int}(h:Wd A b p)(e:PB A d B):0<=b/\b<B.length/\∀ row,B[b.toNat]? = some row->∃ (id a:Int) (P:Rs),row=[ic id,ic a,.own 4 P]/\0<=p/\p<P.length/\∀ row∈P,PRow (d b.toNat) row:=by obtain⟨i,j,X,g,o⟩:=h;have k:=(az.1 g).1;refine⟨i,by rw[e.1];omega,λrow l=>?_⟩;obtain⟨id,a,P,q,m,c,r,n⟩:=e.2 _ _ l;rw[g]at c;simp only[aa,List.cons.injEq,Cell.imm.injEq,and_true]at c;subst c;exact⟨id,a,P,m,j,by omega,n⟩
theorem qvO.wd {A I X:Rs}(h:qvO I X)(c:qvG A I)(d:Wd A 0 0){row:List Cell}(g:row∈X):∃ (n:By) (b p q f k:Int),row=itR8 n b p q f k/\Wd A b p:=by
 obtain⟨n,b,p,q,f,k,rfl,a⟩:=h row g;refine⟨n,b,p,q,f,k,rfl,?_⟩;rcases a with a|a
 . obtain⟨j,l,m,o,r,s,e,i⟩:=c _ a;simp only[itR8,List.cons.injEq,Cell.val.injEq,Value.int.injEq,true_and,and_true]at e;obtain⟨_,rfl,rfl,_⟩:=e;exact i
 . simp only[itR8,List.cons.injEq,Cell.val.injEq,Value.int.injEq,true_and,and_true]at a;obtain⟨_,rfl,rfl,_⟩:=a;exact d
def nR (r:R84):List Cell:=[ic r.1,ic r.2.1,.imm r.2.2.1,ic r.2.2.2.1,.val (.int .u64 r.2.2.2.2.1),ic r.2.2.2.2.2.1,ic r.2.2.2.2.2.2.1]
theorem qEE {A T S I K:Rs}{c:Nat}(hs:SC T S)(hI:qvG A I)(hIl:I.length<=big)(h00:Wd A 0 0)(hne:∀ (i:Nat) (row:List Cell),A[i]? = some row->∃ X:Rs,row=[.imm X]/\0<X.length)(hc:c<=50000)(hAl:A.length<=6000){op n s p:Int}{N m:By}{args:List Tx}(hm:cnts args<=20001){l at_ R:Int}{B:Rs}(O:PB A (λ_=>c) B):
  En (Q41 A T S I K (c+1)) λk=>g41c k op (trows args) n s N m p T S I l at_ R K B:=by
 have hSI:SI T S I:=⟨hs,hI.is,hIl⟩
 have nmd:∀ (pl:Bool) (l at_:Int),En (λ(r:R83)=>qvO I r.1/\r.1.length<=1+cnts args/\r.2=(T,S,I)) λk=>g83b k op (trows args) n s N m p pl T S I l at_:=λpl l at_=>qDW 20002 hSI op n s p N m args pl l at_ (by omega) (by omega);have nod:∀ (ask:By) (l at_:Int),En (Q84 T S I) λk=>g84b k op (trows args) n s N m p ask T S I l at_:=λask l at_=>qEY 20002 hSI op n s p N m ask args l at_ (by omega) (by omega)
 -- one more condition at a place
 have put:∀ {U:Nat->Nat} {B P:Rs} {i j:Nat} {id V f t:Int} {G C:Cell} (r:R84),Q84 T S I r->PB A U B->U i<=60000->B[i]? = some [ic id,ic V,.own 4 P]->P[j]? = some [ic f,ic t,G,C]->GC (U i) G->GC (U i) C ->
   (∀ X:Rs,(X=[nR r]\/∃ g:Rs,G=.own 7 g/\X=g++[nR r])->PB A (λk=>if k=i then U i+1 else U k) (setRow B i 2 (.own 4 (setRow P j 2 (.own 7 X))))) /\
   (∀ X:Rs,(X=[nR r]\/∃ g:Rs,C=.own 7 g/\X=g++[nR r])->PB A (λk=>if k=i then U i+1 else U k) (setRow B i 2 (.own 4 (setRow P j 3 (.own 7 X))))):=by
  intro U B P i j id V f t G C r D O hbd hi hj M W;obtain⟨tn,ht,e⟩:=D.1.row (by unfold big;omega) r.1 r.2.1 r.2.2.2.1 r.2.2.2.2.1 r.2.2.2.2.2.1 r.2.2.2.2.2.2.1;rw[show nR r=nrow tn from e];have nr:∀ {G:Cell} {X:Rs},GC (U i) G->(X=[nrow tn]\/∃ g:Rs,G=.own 7 g/\X=g++[nrow tn])->NR X (U i+1):=by
   intro G X M hX;rcases hX with rfl|⟨g,rfl,rfl⟩
   . exact .one ht
   . rcases M with M|⟨Y,M,hY⟩
     . cases M
     . simp only[Cell.own.injEq,true_and]at M;subst M;exact hY.add ht
  exact⟨λX hX=>O.set (r':=[ic f,ic t,.own 7 X,C]) hi hj rfl ⟨f,t,_,_,rfl,.inr ⟨X,rfl,nr M hX⟩,W.mono (by omega)⟩,λX hX=>O.set (r':=[ic f,ic t,G,.own 7 X]) hi hj rfl ⟨f,t,_,_,rfl,M.mono (by omega),.inr ⟨X,rfl,nr W hX⟩⟩⟩
 -- with names: the end
 have k10:∀ (a:Bool) (ask:By) (b q E v F l at_:Int),Wd A b q->En (Q41 A T S I K (c+1)) λk=>itS qu3 k (.h10 a ask b q E v F op (trows args) n s N m p T S I l at_ R K B):=λa ask b q E v F l at_ J=>.go (by
  obtain⟨w0,w1',w2⟩:=J.row O;have fin:∀ {B':Rs},PB A (λk=>if k=b.toNat then c+1 else c) B'->PB A (λ_=>c+1) B':=λh=>h.mono λi=>by split<;>omega
  simp only[nt,qu3];refine .br (λ_=>?_) λ_=>?_
  all_goals
   refine .ixR w0 w1' λrow D=>?_;obtain⟨id,V,P,rfl,v0,v1,v2⟩:=w2 row D;simp only[qCE];refine .ixR v0 v1 λrow2 L=>?_;obtain⟨f,t,G,C,rfl,M,W⟩:=v2 _ (aM L);have hG0:=M;have hC0:=W;rcases M with rfl|⟨g,rfl,hg⟩<;>rcases W with rfl|⟨y,rfl,hy⟩
   all_goals
    simp only[ua1,ua2,ua3,ua4];refine .bind (nod _ _ _) λr Z=>?_;obtain⟨p1,p2⟩:=put r Z O (by omega) D L hG0 hC0;obtain⟨_,r1,r2,r3⟩:=Z;simp only[zu,r1,r2,r3]
    first
     |exact .ret ⟨rfl,rfl,rfl,rfl,fin (p1 _ (.inl rfl))⟩
     |exact .ret ⟨rfl,rfl,rfl,rfl,fin (p2 _ (.inl rfl))⟩
     |(refine .gd (apNx (by first|(have:=hg.len;omega)|(have:=hy.len;omega))) ?_;rw[qwq D,qwq L];simp only[qx4,List.set_cons_zero,List.set_cons_succ];first|exact .ret ⟨rfl,rfl,rfl,rfl,fin (p1 _ (.inr ⟨_,rfl,rfl⟩))⟩|exact .ret ⟨rfl,rfl,rfl,rfl,fin (p2 _ (.inr ⟨_,rfl,rfl⟩))⟩))
 have stay:PB A (λ_=>c+1) B:=O.mono λ_=>by omega
 have lst:∀ {X:Rs} {j:Int} {row:List Cell},qvO I X->X[j.toNat]? = some row->∃ (n:By) (b p q f k:Int),row=itR8 n b p q f k/\Wd A b p:=λh D=>h.wd hI h00 (aM D);have k8:∀ (q:Nat) (a:Int) (b H:Bool) (d:Rs) (f:Int) (ask:By) (w z E v F l at_:Int),qvO I d->Wd A w z->d.length<=30000->0<=f->d.length-f.toNat=q ->
   En (Q41 A T S I K (c+1)) λk=>itS qu3 k (.h8 a b H d (d.length:Int) f ask w z E v F op (trows args) n s N m p T S I l at_ R K B):=by
  intro q
  induction q with
  |zero=>
   intro a b H d f ask w z E v F l at_ hd J hl Q h1;refine .go ?_;simp only[nt,qu3];refine .br (λu=>by simp only[aW]at u;omega) λ_=>.br (λ_=>.call trivial λr ⟨r0,r1,r2⟩=>?_) λ_=>?_
   . obtain⟨w0,w1',w2⟩:=J.row O;refine .ixR w0 w1' λrow D=>?_;obtain⟨id,V,P,rfl,v0,v1,v2⟩:=w2 row D;simp only[qCE];refine .ixR v0 v1 λrow2 L=>?_;obtain⟨f,t,G,C,rfl,M,W⟩:=v2 _ (aM L);rcases M with rfl|⟨g,rfl,hg⟩<;>rcases W with rfl|⟨y,rfl,hy⟩
     all_goals
      simp only[ua1,ua2,ua3,ua4];exact k10 _ _ _ _ _ _ _ _ _ J
   . simp only[tup5,r0,r1,r2];exact .ret ⟨rfl,rfl,rfl,rfl,stay⟩
  |succ q jh=>
   intro a b H d f ask w z E v F l at_ hd J hl Q h1;have k9:∀ (a:Int) (b H:Bool),En (Q41 A T S I K (c+1)) λk=>itS qu3 k (.h9 a b H d (d.length:Int) f ask w z E v F op (trows args) n s N m p T S I l at_ R K B):=λa b H=>.go (by simp only[nt,qu3];rw[w1 Q (by omega)];exact jh _ _ _ _ _ _ _ _ _ _ _ _ _ hd J hl (by omega) (by omega));refine .go ?_;simp only[nt,qu3];refine .br (λu=>?_) λu=>by simp only[decide_eq_false_iff_not]at u;omega
   simp only[aW]at u;refine .ixR Q u λrow D=>?_;obtain⟨_,_,_,_,_,_,rfl,_⟩:=lst hd D;simp only[qw7];exact .br (λ_=>.br (λ_=>.br (λ_=>k9 _ _ _) λ_=>k9 _ _ _) λ_=>k9 _ _ _) λ_=>k9 _ _ _
 have k5:∀ (q:Nat) (a:Rs) (b:Int) (H d:Bool) (f:Int) (ask:By) (w z E v F l at_:Int),qvO I a->Wd A w z->a.length<=30000->0<=f->a.length-f.toNat=q ->
   En (Q41 A T S I K (c+1)) λk=>itS qu3 k (.h5 a b H d (a.length:Int) f ask w z E v F op (trows args) n s N m p T S I l at_ R K B):=by
  intro q
  induction q with
  |zero=>intro a b H d f ask w z E v F l at_ hd J hl Q h1;refine .go ?_;simp only[nt,qu3];refine .br (λu=>by simp only[aW]at u;omega) λ_=>.bind (nmd _ _ _) λr ⟨r0,r1,r2⟩=>?_;simp only[tup4,r2];exact k8 _ _ _ _ _ _ _ _ _ _ _ _ _ _ r0 J (by omega) (Int.le_refl 0) rfl
  |succ q jh=>
   intro a b H d f ask w z E v F l at_ hd J hl Q h1;have k7:∀ (b:Int) (H d:Bool),En (Q41 A T S I K (c+1)) λk=>itS qu3 k (.h7 a b H d (a.length:Int) f ask w z E v F op (trows args) n s N m p T S I l at_ R K B):=λb H d=>.go (by simp only[nt,qu3];rw[w1 Q (by omega)];exact jh _ _ _ _ _ _ _ _ _ _ _ _ _ hd J hl (by omega) (by omega));refine .go ?_;simp only[nt,qu3];refine .br (λu=>?_) λu=>by simp only[decide_eq_false_iff_not]at u;omega
   simp only[aW]at u;refine .ixR Q u λrow D=>?_;obtain⟨_,_,_,_,_,_,rfl,_⟩:=lst hd D;simp only[qw7];exact .br (λ_=>.br (λ_=>k7 _ _ _) λ_=>k7 _ _ _) λ_=>k7 _ _ _
 have k2:∀ (q:Nat) (a:Rs) (b:Int) (H:Bool) (f:Int) (ask:By) (w z E v F l at_:Int),qvO I a->Wd A w z->a.length<=30000->0<=f->a.length-f.toNat=q ->
   En (Q41 A T S I K (c+1)) λk=>itS qu3 k (.h2 a b H (a.length:Int) f ask w z E v F op (trows args) n s N m p T S I l at_ R K B):=by
  intro q
  induction q with
  |zero=>intro a b H f ask w z E v F l at_ hd J hl Q h1;refine .go ?_;simp only[nt,qu3];exact .br (λu=>by simp only[aW]at u;omega) λ_=>k5 _ _ _ _ _ _ _ _ _ _ _ _ _ _ hd J hl (Int.le_refl 0) rfl
  |succ q jh=>
   intro a b H f ask w z E v F l at_ hd J hl Q h1;have k6:∀ (H:Bool) (ask:By) (w z E v F:Int),Wd A w z->En (Q41 A T S I K (c+1)) λk=>itS qu3 k (.h6 a b H (a.length:Int) f ask w z E v F op (trows args) n s N m p T S I l at_ R K B):=λH ask w z E v F J=>.go (by simp only[nt,qu3];rw[w1 Q (by omega)];exact jh _ _ _ _ _ _ _ _ _ _ _ _ hd J hl (by omega) (by omega));have k4:∀ (y:By) (y1 y2 y3 y4 y5:Int) (ask:By) (w z E v F:Int),Wd A w z->En (Q41 A T S I K (c+1)) λk=>itS qu3 k (.h4 a b H (a.length:Int) f y y1 y2 y3 y4 y5 ask w z E v F op (trows args) n s N m p T S I l at_ R K B):=λy y1 y2 y3 y4 y5 ask w z E v F J=>.go (by simp only[nt,qu3];refine .br (λ_=>?_) λ_=>k6 _ _ _ _ _ _ _ J;refine .ixR (Int.le_refl 0) (by omega) λrow D=>?_;obtain⟨_,_,_,_,_,_,rfl,_⟩:=lst hd D;simp only[qw7];exact k6 _ _ _ _ _ _ _ J);refine .go ?_;simp only[nt,qu3];refine .br (λu=>?_) λu=>by simp only[decide_eq_false_iff_not]at u;omega
   simp only[aW]at u;refine .ixR Q u λrow D=>?_;obtain⟨_,_,_,_,_,_,rfl,hw2⟩:=lst hd D;simp only[qw7];exact .br (λ_=>k4 _ _ _ _ _ _ _ _ _ _ _ _ hw2) λ_=>k4 _ _ _ _ _ _ _ _ _ _ _ _ J
 have k1:∀ (q:Nat) (b l at_:Int) (B:Rs),0<=b->b<=A.length->A.length-b.toNat=q->PB A (λi=>if (i:Int)<b then c+1 else c) B ->
   En (Q41 A T S I K (c+1)) λk=>itS qu3 k (.h1 (A.length:Int) b op (trows args) n s N m p T S I l at_ R K B):=by
  intro q
  induction q with
  |zero=>intro b l at_ B Q h1 h2 O;refine .go ?_;simp only[nt,qu3];refine .br (λu=>by simp only[aW]at u;omega) λ_=>.ret ⟨rfl,rfl,rfl,rfl,O.mono λi=>by split<;>omega⟩
  |succ q jh=>
   intro b l at_ B Q h1 h2 O;have nx:∀ {B':Rs},PB A (λk=>if k=b.toNat then c+1 else if (k:Int)<b then c+1 else c) B'->PB A (λi=>if (i:Int)<b+1 then c+1 else c) B':=λh=>h.mono λi=>by
    by_cases hx:i=b.toNat
    . rw[aD hx,aD (by omega)];omega
    . rw[aF hx];by_cases hy:(i:Int)<b
      . rw[aD hy,aD (by omega)];omega
      . rw[aF hy,aF (by omega)];omega
   have k3:∀ (l at_:Int) (B':Rs),PB A (λk=>if k=b.toNat then c+1 else if (k:Int)<b then c+1 else c) B'->En (Q41 A T S I K (c+1)) λk=>itS qu3 k (.h3 (A.length:Int) b op (trows args) n s N m p T S I l at_ R K B'):=λl at_ B' hB'=>.go (by simp only[nt,qu3];rw[w1 Q (by omega)];exact jh _ _ _ _ (by omega) (by omega) (by omega) (nx hB'));refine .go ?_;simp only[nt,qu3];refine .br (λu=>?_) λu=>by simp only[decide_eq_false_iff_not]at u;omega
   simp only[aW]at u;refine .ixR Q (by rw[O.1];exact u) λrow D=>?_;obtain⟨id,V,P,X,rfl,x1,x2,x3⟩:=O.2 _ _ D;obtain⟨X',e,x4⟩:=hne _ _ x1;simp only[List.cons.injEq,Cell.imm.injEq,and_true]at e;subst e;simp only[qCE];refine .ixR (Int.le_refl 0) (by omega) λrow2 L=>?_;obtain⟨f,t,G,C,rfl,M,W⟩:=x3 _ (aM L);have hbd:(λ(i:Nat)=>if (i:Int)<b then c+1 else c) b.toNat=c:=aF (by omega);have hbd':(if (b.toNat:Int)<b then c+1 else c)=c:=aF (by omega);have hG0:=M;have hC0:=W;rw[hbd]at M W;rcases M with rfl|⟨g,rfl,hg⟩<;>rcases W with rfl|⟨y,rfl,hy⟩
   all_goals
    simp only[ua1,ua2,ua3,ua4];refine .bind (nod _ _ _) λr Z=>?_;have p1:=(put r Z O (by show(if (b.toNat:Int)<b then c+1 else c)<=60000;rw[hbd'];omega) D L hG0 hC0).1;simp only[hbd']at p1;obtain⟨_,r1,r2,r3⟩:=Z;simp only[zu,r1,r2,r3]
    first
     |exact k3 _ _ _ (p1 _ (.inl rfl))
     |(refine .gd (apNx (by have:=hg.len;omega)) ?_;rw[qwq D,show(2:Nat)=2 from rfl];have v:=qwq (o:=2) (x:=.dead) (y:=.own 7 (g++[nR r])) L;rw[show(0:Int).toNat=0 from rfl]at v;simp only[qx4,List.set_cons_zero,List.set_cons_succ];refine k3 _ _ _ ?_;have:=p1 _ (.inr ⟨_,rfl,rfl⟩);rw[show(0:Int).toNat=0 from rfl]at this;rw[<- v]at this;exact this)
 have k0:∀ (l at_:Int),En (Q41 A T S I K (c+1)) λk=>itS qu3 k (.h0 op (trows args) n s N m p T S I l at_ R K B):=λl at_=>.go (by
  simp only[nt,qu3];refine .br (λ_=>.ret ⟨rfl,rfl,rfl,rfl,stay⟩) λ_=>.bind (nmd _ _ _) λr ⟨r0,r1,r2⟩=>?_;simp only[tup4,r2];refine .br (λ_=>?_) λu=>?_
  . rw[O.1];exact k1 _ 0 _ _ _ (Int.le_refl 0) (by omega) rfl (O.mono λi=>by split<;>omega)
  . have u:¬ (r.1.length:Int)=0:=by simpa using u
    refine .ixR (Int.le_refl 0) (by omega) λrow D=>?_;obtain⟨_,_,_,_,_,_,rfl,hw2⟩:=lst r0 D;simp only[qw7];exact k2 _ _ _ _ _ _ _ _ _ _ _ _ _ r0 hw2 (by omega) (Int.le_refl 0) rfl)
 refine .go ?_;simp only[nt,qu3];refine .br (λ_=>.ret ⟨rfl,rfl,rfl,rfl,stay⟩) λ_=>.bind (qDg 20002 hSI op n s p N m args l at_ (by omega) (by omega)) λr ⟨r0,r1,r2⟩=>?_;simp only[tup6,r0,r1,r2];refine .br (λ_=>.call trivial λr ⟨r0,r1,r2⟩=>?_) λ_=>k0 _ _;simp only[tup5,r0,r1,r2];exact k0 _ _
end Ab
end Go.Proofs.YtnnhdcidgfjfpaaGreatDoor

/-
  Plans are compared: both ways tell whether they are the same data. No claim stands here.
-/
import Derived.Test.YtnnhdcidgfjfpaaGreatDoorV27q
set_option linter.all false
namespace Go.Proofs.YtnnhdcidgfjfpaaGreatDoor
namespace Ab
theorem qCD {α:Type}{op kd b bits pos a:Int}{args:List Nx}(k:Int->Int->Rs->Int->Int->Int->Int->Option α):qvr (nrow (.mk op kd b bits pos a args)) k=k op kd (nrows args) b bits pos a:=rfl
theorem qCF {α:Type}{p:PTy}(k:Int->Int->Rs->Rs->Option α):qvQ (prow p) k=k p.1 p.2.1 (nrows p.2.2.1) (nrows p.2.2.2):=rfl
theorem qCz {α:Type}{b:BTy}(k:Int->Int->Rs->Option α):qwz (brow b) k=k b.1 b.2.1 (b.2.2.map prow):=rfl
theorem qwW {t:Nx}:∀ {l:List Nx},t∈l->t.cnt<=ncnts l
 |u::l,h=>by
  rw[ncnts];rcases List.mem_cons.1 h with rfl|h
  . omega
  . have:=qwW h;omega
theorem qwg {α:Type}{a b:List α}{d:Nat}(e:a.length=b.length)(hd:a.length<=d)(h:∀ i,i<d->a[i]? = b[i]?):a=b:=by
 apply List.ext_getElem?;intro i;by_cases c:i<d
 . exact h i c
 . rw[List.getElem?_eq_none (by omega),List.getElem?_eq_none (by omega)]
theorem qD0 (m:Nat):∀ (us vs:List Nx),ncnts us<m->(∀ t∈us,t.Ok)->us.length<=big->En (λ(r:Bool)=>r=true↔us=vs) λk=>itS qd3 k (.e (nrows us) (nrows vs)):=by
 induction m with
 |zero=>intro _ _ h;omega
 |succ m I=>
  intro us vs h J p;unfold big at p;have a:∀ {d:Int},us≠vs->En (λ(r:Bool)=>r=true↔us=vs) λk=>itS qd3 k (.h1 (nrows vs) (nrows us) (us.length:Int) d true):=λb=>.go (by simp only[nt,qd3];exact .ret ⟨λh=>(by cases h),λh=>absurd h b⟩);have loop:us.length=vs.length->∀ (q:Nat) (d:Int),0<=d->us.length-d.toNat=q->d<=us.length->(∀ i,i<d.toNat->us[i]? = vs[i]?)->En (λ(r:Bool)=>r=true↔us=vs) λk=>itS qd3 k (.h0 (nrows vs) (nrows us) (us.length:Int) d):=by
   intro K q
   induction q with
   |zero=>intro d n L M s;refine .go ?_;simp only[nt,qd3];exact .br (λp=>by simp only[aW]at p;omega) λ_=>.ret ⟨λ_=>qwg K (by omega) s,λ_=>rfl⟩
   |succ q N=>
    intro d n L M s;refine .go ?_;simp only[nt,qd3];refine .br (λz=>?_) λz=>by simp only[decide_eq_false_iff_not]at z;omega
    refine .ixR n (by rw[qvj];omega) λrow f=>?_;rw[qvU]at f;obtain⟨t,o,rfl⟩:=aG.1 f;obtain⟨u,v⟩:∃ u,vs[d.toNat]? = some u:=⟨_,ax (by omega)⟩
    have A:=aM o;have O:=qwW A;obtain⟨w,j⟩:=J t A;rename_i P k1 Q R S T xs;obtain⟨U,k2,V,b2,W,X,B⟩:=u;simp only[Nx.cnt]at O;simp only[qCD];refine .ixR n (by rw[qvj];omega) λC l=>?_;rw[qvU,v]at l;obtain rfl:=aQ l;simp only[qCD];have c:Nx.mk P k1 Q R S T xs≠.mk U k2 V b2 W X B->us≠vs:=λb Y=>b (by rw[Y,v]at o;exact(aQ o).symm);refine .br (λg=>a (c λe=>by simp only[Nx.mk.injEq]at e;simp[e.1]at g)) λD=>.br (λg=>a (c λe=>by simp only[Nx.mk.injEq]at e;simp[e.2.1]at g)) λE=>.br (λg=>a (c λe=>by simp only[Nx.mk.injEq]at e;simp[e.2.2.1,e.2.2.2.1]at g)) λx=>.br (λg=>a (c λe=>by simp only[Nx.mk.injEq]at e;simp[e.2.2.2.2.1]at g)) λF=>.br (λg=>a (c λe=>by simp only[Nx.mk.injEq]at e;simp[e.2.2.2.2.2.1]at g)) λG=>.bind (I xs B (by omega) w j) λr f=>?_;cases r with
    |false=>exact a (c λe=>by simp only[Nx.mk.injEq]at e;exact absurd (f.2 e.2.2.2.2.2.2) (by simp))
    |true=>
     refine .go ?_;simp only[nt,qd3];refine .br (λh=>by cases h) λ_=>?_;rw[w1 n (by omega)];refine N _ (by omega) (by omega) (by omega) λi H=>?_;by_cases y:i<d.toNat
     . exact s i y
     . obtain rfl:i=d.toNat:=by omega
       rw[o,v];simp only[bne_eq_false_iff_eq,Bool.not_eq_false',aC,beq_iff_eq,and_true]at D E x F G;rw[D,E,x.1,x.2,F,G,f.1 rfl]
  refine .go ?_;simp only[nt,qd3,qvj];refine .br (λg=>.ret ⟨λh=>(by cases h),λh=>by simp[h]at g⟩) λg=>?_;exact loop (by simp at g;omega) _ 0 (Int.le_refl 0) rfl (by omega) λi H=>by simp at H
theorem qDZ (m:Nat):∀ (us vs:List Nx),ncnts us<m->(∀ t∈us,t.Ok)->us.length<=big->En (λ(r:Bool)=>r=true↔us=vs) λk=>itS qoR k (.e (nrows us) (nrows vs)):=by
 induction m with
 |zero=>intro _ _ h;omega
 |succ m I=>
  intro us vs h J p;unfold big at p;have a:∀ {d:Int},us≠vs->En (λ(r:Bool)=>r=true↔us=vs) λk=>itS qoR k (.h1 (nrows us) (nrows vs) (us.length:Int) d true):=λb=>.go (by simp only[nt,qoR];exact .ret ⟨λh=>(by cases h),λh=>absurd h b⟩);have loop:us.length=vs.length->∀ (q:Nat) (d:Int),0<=d->us.length-d.toNat=q->d<=us.length->(∀ i,i<d.toNat->us[i]? = vs[i]?)->En (λ(r:Bool)=>r=true↔us=vs) λk=>itS qoR k (.h0 (nrows us) (nrows vs) (us.length:Int) d):=by
   intro K q
   induction q with
   |zero=>intro d n L M s;refine .go ?_;simp only[nt,qoR];exact .br (λp=>by simp only[aW]at p;omega) λ_=>.ret ⟨λ_=>qwg K (by omega) s,λ_=>rfl⟩
   |succ q N=>
    intro d n L M s;refine .go ?_;simp only[nt,qoR];refine .br (λz=>?_) λz=>by simp only[decide_eq_false_iff_not]at z;omega
    refine .ixR n (by rw[qvj];omega) λrow f=>?_;rw[qvU]at f;obtain⟨t,o,rfl⟩:=aG.1 f;obtain⟨u,v⟩:∃ u,vs[d.toNat]? = some u:=⟨_,ax (by omega)⟩
    have A:=aM o;have O:=qwW A;obtain⟨w,j⟩:=J t A;rename_i P k1 Q R S T xs;obtain⟨U,k2,V,b2,W,X,B⟩:=u;simp only[Nx.cnt]at O;simp only[qCD];refine .ixR n (by rw[qvj];omega) λC l=>?_;rw[qvU,v]at l;obtain rfl:=aQ l;simp only[qCD];have c:Nx.mk P k1 Q R S T xs≠.mk U k2 V b2 W X B->us≠vs:=λb Y=>b (by rw[Y,v]at o;exact(aQ o).symm);refine .br (λg=>a (c λe=>by simp only[Nx.mk.injEq]at e;simp[e.1]at g)) λD=>.br (λg=>a (c λe=>by simp only[Nx.mk.injEq]at e;simp[e.2.1]at g)) λE=>.br (λg=>a (c λe=>by simp only[Nx.mk.injEq]at e;simp[e.2.2.1,e.2.2.2.1]at g)) λx=>.br (λg=>a (c λe=>by simp only[Nx.mk.injEq]at e;simp[e.2.2.2.2.1]at g)) λF=>.br (λg=>a (c λe=>by simp only[Nx.mk.injEq]at e;simp[e.2.2.2.2.2.1]at g)) λG=>.bind (I xs B (by omega) w j) λr f=>?_;cases r with
    |false=>exact a (c λe=>by simp only[Nx.mk.injEq]at e;exact absurd (f.2 e.2.2.2.2.2.2) (by simp))
    |true=>
     refine .go ?_;simp only[nt,qoR];refine .br (λh=>by cases h) λ_=>?_;rw[w1 n (by omega)];refine N _ (by omega) (by omega) (by omega) λi H=>?_;by_cases y:i<d.toNat
     . exact s i y
     . obtain rfl:i=d.toNat:=by omega
       rw[o,v];simp only[bne_eq_false_iff_eq,Bool.not_eq_false',aC,beq_iff_eq,and_true]at D E x F G;rw[D,E,x.1,x.2,F,G,f.1 rfl]
  refine .go ?_;simp only[nt,qoR,qvj];refine .br (λg=>.ret ⟨λh=>(by cases h),λh=>by simp[h]at g⟩) λg=>?_;exact loop (by simp at g;omega) _ 0 (Int.le_refl 0) rfl (by omega) λi H=>by simp at H
theorem qEV {us vs:List Nx}(h:NOk us):En (λ(r:Bool)=>r=true↔us=vs) λk=>g42 k (nrows us) (nrows vs):=qD0 (ncnts us+1) us vs (by omega) h.1 h.2
theorem qEU {us vs:List Nx}(h:NOk us):En (λ(r:Bool)=>r=true↔us=vs) λk=>g36 k (nrows us) (nrows vs):=qDZ (ncnts us+1) us vs (by omega) h.1 h.2
def Eq3 (s1 s2:Int)(k1 k2:Rs)(bs cs:List BTy):Prop:=s1=s2/\k1=k2/\bs=cs
section
variable {s1 s2:Int} {k1 k2:Rs} {bs cs:List BTy}
theorem qDs (J:AllK k1)(K:AllK k2)(s:∀ b∈bs,BOk b)(L:k1.length<=big)(M:bs.length<=big):En (λ(r:Bool)=>r=true↔Eq3 s1 s2 k1 k2 bs cs) λk=>g18 k s1 k1 (bs.map brow) s2 k2 (cs.map brow):=by
 have L1:=L;have L2:=M;unfold big at L1 L2;have no:∀ {t:Nat->Option Bool},(∀ k,t k=some false)->¬ Eq3 s1 s2 k1 k2 bs cs->En (λ(r:Bool)=>r=true↔Eq3 s1 s2 k1 k2 bs cs) t:=λht f=>⟨false,⟨λh=>(by cases h),λh=>absurd h f⟩,0,λk _=>ht k⟩
 have Q:s1=s2->k1=k2->bs.length=cs.length->∀ (q:Nat) (c:Int),0<=c->bs.length-c.toNat=q->c<=bs.length->(∀ i,i<c.toNat->bs[i]? = cs[i]?) ->
   En (λ(r:Bool)=>r=true↔Eq3 s1 s2 k1 k2 bs cs) λk=>itS qj2 k (.h2 (bs.map brow) (bs.length:Int) c s2 k2 (cs.map brow)):=by
  intro F R S q
  induction q with
  |zero=>intro c w J K A;refine .go ?_;simp only[nt,qj2];exact .br (λs=>by simp only[aW]at s;omega) λ_=>.ret ⟨λ_=>⟨F,R,qwg S (by omega) A⟩,λ_=>rfl⟩
  |succ q T=>
   intro c w J K A;obtain⟨x,m⟩:∃ x,bs[c.toNat]? = some x:=⟨_,ax (by omega)⟩
   obtain⟨y,U⟩:∃ y,cs[c.toNat]? = some y:=⟨_,ax (by omega)⟩
   have ok:=s x (aM m);have V:=ok.2;unfold big at V;have ne:x≠y->¬ Eq3 s1 s2 k1 k2 bs cs:=λf W=>f (by rw[W.2.2,U]at m;exact(aQ m).symm);have n:∀ (a1 b1:Int) (L:Rs) (a2 b2:Int) (M:Rs),x≠y->En (λ(r:Bool)=>r=true↔Eq3 s1 s2 k1 k2 bs cs) λk=>itS qj2 k (.h3 (bs.map brow) (bs.length:Int) c true a1 b1 L a2 b2 M s2 k2 (cs.map brow)):=λa1 b1 L a2 b2 M f=>.go (by simp only[nt,qj2];exact no (λ_=>rfl) (ne f));have B:x.1=y.1->x.2.1=y.2.1->x.2.2.length=y.2.2.length->∀ (q:Nat) (d:Int),0<=d->x.2.2.length-d.toNat=q->d<=x.2.2.length->(∀ i,i<d.toNat->x.2.2[i]? = y.2.2[i]?) ->
     En (λ(r:Bool)=>r=true↔Eq3 s1 s2 k1 k2 bs cs) λk=>itS qj2 k (.h4 (bs.map brow) (bs.length:Int) c (x.2.2.map prow) (x.2.2.length:Int) d y.1 y.2.1 (y.2.2.map prow) s2 k2 (cs.map brow)):=by
    intro f1 f2 o q
    induction q with
    |zero=>
     intro d N O X Y;refine .go ?_;simp only[nt,qj2];refine .br (λs=>by simp only[aW]at s;omega) λ_=>?_;rw[w1 w (by omega)];refine T _ (by omega) (by omega) (by omega) λi z=>?_;by_cases p:i<c.toNat
     . exact A i p
     . obtain rfl:i=c.toNat:=by omega
       rw[m,U];have:=qwg o (by omega) Y;exact congrArg some (by obtain⟨xa,xb,xc⟩:=x;obtain⟨ya,yb,yc⟩:=y;simp only at f1 f2 this;rw[f1,f2,this])
    |succ q kh=>
     intro d N O X Y;obtain⟨u,G⟩:∃ u,x.2.2[d.toNat]? = some u:=⟨_,ax (by omega)⟩
     obtain⟨v,Z⟩:∃ v,y.2.2[d.toNat]? = some v:=⟨_,ax (by omega)⟩
     have H:=ok.1 u (aM G);have nep:u≠v->x≠y:=λf W=>f (by rw[W,Z]at G;exact(aQ G).symm);have l:u≠v->En (λ(r:Bool)=>r=true↔Eq3 s1 s2 k1 k2 bs cs) λk=>itS qj2 k (.h5 (bs.map brow) (bs.length:Int) c (x.2.2.map prow) (x.2.2.length:Int) d true y.1 y.2.1 (y.2.2.map prow) s2 k2 (cs.map brow)):=λf=>.go (by simp only[nt,qj2];exact no (λ_=>rfl) (ne (nep f)));refine .go ?_;simp only[nt,qj2];refine .br (λm=>?_) λm=>by simp only[decide_eq_false_iff_not]at m;omega
     refine .ixR N (by rw[List.length_map];omega) λrow j=>?_;rw[aH,G]at j;obtain rfl:=aQ j;simp only[qCF];refine .ixR N (by rw[List.length_map];omega) λrow j=>?_;rw[aH,Z]at j;obtain rfl:=aQ j;simp only[qCF];refine .br (λg=>l λe=>by simp[e]at g) λD=>.br (λg=>l λe=>by simp[e]at g) λE=>.bind (qEV H.1) λr3 y3=>.br (λg=>l λe=>by simp[y3.2 (by rw[e])]at g) λz3=>.bind (qEV H.2) λr4 y4=>?_;cases r4 with
     |false=>exact l λe=>absurd (y4.2 (by rw[e])) (by simp)
     |true=>
      refine .go ?_;simp only[nt,qj2];refine .br (λh=>by cases h) λ_=>?_;rw[w1 N (by omega)];refine kh _ (by omega) (by omega) (by omega) λi z=>?_;by_cases p:i<d.toNat
      . exact Y i p
      . obtain rfl:i=d.toNat:=by omega
        rw[G,Z];simp only[bne_eq_false_iff_eq,Bool.not_eq_false']at D E z3;exact congrArg some (by have P:=y3.1 z3;have e4:=y4.1 rfl;obtain⟨ua,ub,uc,ud⟩:=u;obtain⟨va,vb,vc,vd⟩:=v;simp only at D E P e4;rw[D,E,P,e4])
   refine .go ?_;simp only[nt,qj2];refine .br (λm=>?_) λm=>by simp only[decide_eq_false_iff_not]at m;omega
   refine .ixR w (by rw[List.length_map];omega) λrow j=>?_;rw[aH,‹bs[c.toNat]? = some x›]at j;obtain rfl:=aQ j;simp only[qCz];refine .ixR w (by rw[List.length_map];omega) λrow j=>?_;rw[aH,U]at j;obtain rfl:=aQ j;simp only[qCz];refine .br (λg=>n _ _ _ _ _ _ λe=>by simp[e]at g) λD=>.br (λg=>n _ _ _ _ _ _ λe=>by simp[e]at g) λE=>?_;simp only[bne_eq_false_iff_eq]at D E;simp only[List.length_map];by_cases o:x.2.2.length=y.2.2.length
   . rw[show((x.2.2.length:Int)!=(y.2.2.length:Int))=false by simp[o]];refine .go ?_;simp only[nt,qj2,List.length_map];exact .br (λh=>by cases h) λ_=>B D E o _ 0 (Int.le_refl 0) rfl (by omega) λi z=>by simp at z
   . rw[show((x.2.2.length:Int)!=(y.2.2.length:Int))=true by simp;omega];exact n _ _ _ _ _ _ λe=>o (by rw[e])
 have I:s1=s2->k1.length=k2.length->bs.length=cs.length->∀ (q:Nat) (c:Int),0<=c->k1.length-c.toNat=q->c<=k1.length->(∀ i,i<c.toNat->k1[i]? = k2[i]?) ->
   En (λ(r:Bool)=>r=true↔Eq3 s1 s2 k1 k2 bs cs) λk=>itS qj2 k (.h1 (k1.length:Int) c s2 k2 (cs.map brow) s1 k1 (bs.map brow)):=by
  intro F hk S q
  induction q with
  |zero=>intro c w J K A;refine .go ?_;simp only[nt,qj2,List.length_map];exact .br (λs=>by simp only[aW]at s;omega) λ_=>Q F (qwg hk (by omega) A) S _ 0 (Int.le_refl 0) rfl (by omega) λi z=>by simp at z
  |succ q T=>
   intro c w h1' h2' A;refine .go ?_;simp only[nt,qj2];refine .br (λm=>?_) λm=>by simp only[decide_eq_false_iff_not]at m;omega
   refine .ixR w (by omega) λrow j=>?_;obtain⟨a,rfl⟩:=J _ (aM j);simp only[qzx];refine .ixR w (by omega) λrow C=>?_;obtain⟨b,rfl⟩:=K _ (aM C);simp only[qzx];refine .br (λg=>no (λ_=>rfl) λe=>?_) λg=>?_
   . rw[e.2.1,C]at j;simp only[aa,List.cons.injEq,Cell.val.injEq,Value.int.injEq,true_and,and_true]at j;simp[j]at g
   .
    rw[w1 w (by omega)];refine T _ (by omega) (by omega) (by omega) λi z=>?_;by_cases p:i<c.toNat
    . exact A i p
    . obtain rfl:i=c.toNat:=by omega
      simp only[bne_eq_false_iff_eq]at g;rw[j,C,g]
 have k0:∀ b:Bool,(b=true->¬ Eq3 s1 s2 k1 k2 bs cs)->(b=false->s1=s2/\k1.length=k2.length/\bs.length=cs.length)->En (λ(r:Bool)=>r=true↔Eq3 s1 s2 k1 k2 bs cs) λk=>itS qj2 k (.h0 b s2 k2 (cs.map brow) s1 k1 (bs.map brow)):=λb s hb2=>.go (by simp only[nt,qj2];refine .br (λh=>no (λ_=>rfl) (s h)) λh=>?_;obtain⟨F,R,P⟩:=hb2 h;exact I F R P _ 0 (Int.le_refl 0) rfl (by omega) λi z=>by simp at z);refine .go ?_;simp only[nt,qj2,List.length_map];refine .br (λg=>k0 _ (λ_ e=>by simp[e.1]at g) λh=>by cases h) λO=>.br (λg=>k0 _ (λ_ e=>by simp[e.2.1]at g) λh=>by cases h) λX=>k0 _ (λh e=>by simp[e.2.2]at h) λh=>?_;simp only[bne_eq_false_iff_eq]at O X h;exact⟨O,by omega,by omega⟩
theorem qE5 (J:AllK k1)(K:AllK k2)(s:∀ b∈bs,BOk b)(L:k1.length<=big)(M:bs.length<=big):En (λ(r:Bool)=>r=true↔Eq3 s1 s2 k1 k2 bs cs) λk=>g15 k s1 k1 (bs.map brow) s2 k2 (cs.map brow):=by
 have L1:=L;have L2:=M;unfold big at L1 L2;have no:∀ {t:Nat->Option Bool},(∀ k,t k=some false)->¬ Eq3 s1 s2 k1 k2 bs cs->En (λ(r:Bool)=>r=true↔Eq3 s1 s2 k1 k2 bs cs) t:=λht f=>⟨false,⟨λh=>(by cases h),λh=>absurd h f⟩,0,λk _=>ht k⟩
 have Q:s1=s2->k1=k2->bs.length=cs.length->∀ (q:Nat) (c:Int),0<=c->bs.length-c.toNat=q->c<=bs.length->(∀ i,i<c.toNat->bs[i]? = cs[i]?) ->
   En (λ(r:Bool)=>r=true↔Eq3 s1 s2 k1 k2 bs cs) λk=>itS Zu k (.h2 (bs.length:Int) c s2 k2 (cs.map brow) s1 k1 (bs.map brow)):=by
  intro F R S q
  induction q with
  |zero=>intro c w J K A;refine .go ?_;simp only[nt,Zu];exact .br (λs=>by simp only[aW]at s;omega) λ_=>.ret ⟨λ_=>⟨F,R,qwg S (by omega) A⟩,λ_=>rfl⟩
  |succ q T=>
   intro c w J K A;obtain⟨x,m⟩:∃ x,bs[c.toNat]? = some x:=⟨_,ax (by omega)⟩
   obtain⟨y,U⟩:∃ y,cs[c.toNat]? = some y:=⟨_,ax (by omega)⟩
   have ok:=s x (aM m);have V:=ok.2;unfold big at V;have ne:x≠y->¬ Eq3 s1 s2 k1 k2 bs cs:=λf W=>f (by rw[W.2.2,U]at m;exact(aQ m).symm);have n:∀ (a1 b1:Int) (L:Rs) (a2 b2:Int) (M:Rs),x≠y->En (λ(r:Bool)=>r=true↔Eq3 s1 s2 k1 k2 bs cs) λk=>itS Zu k (.h3 (bs.length:Int) c true a1 b1 L a2 b2 M s2 k2 (cs.map brow) s1 k1 (bs.map brow)):=λa1 b1 L a2 b2 M f=>.go (by simp only[nt,Zu];exact no (λ_=>rfl) (ne f));have B:x.1=y.1->x.2.1=y.2.1->x.2.2.length=y.2.2.length->∀ (q:Nat) (d:Int),0<=d->x.2.2.length-d.toNat=q->d<=x.2.2.length->(∀ i,i<d.toNat->x.2.2[i]? = y.2.2[i]?) ->
     En (λ(r:Bool)=>r=true↔Eq3 s1 s2 k1 k2 bs cs) λk=>itS Zu k (.h4 (bs.length:Int) c (x.2.2.length:Int) d y.1 y.2.1 (y.2.2.map prow) x.1 x.2.1 (x.2.2.map prow) s2 k2 (cs.map brow) s1 k1 (bs.map brow)):=by
    intro f1 f2 o q
    induction q with
    |zero=>
     intro d N O X Y;refine .go ?_;simp only[nt,Zu];refine .br (λs=>by simp only[aW]at s;omega) λ_=>?_;rw[w1 w (by omega)];refine T _ (by omega) (by omega) (by omega) λi z=>?_;by_cases p:i<c.toNat
     . exact A i p
     . obtain rfl:i=c.toNat:=by omega
       rw[m,U];have:=qwg o (by omega) Y;exact congrArg some (by obtain⟨xa,xb,xc⟩:=x;obtain⟨ya,yb,yc⟩:=y;simp only at f1 f2 this;rw[f1,f2,this])
    |succ q kh=>
     intro d N O X Y;obtain⟨u,G⟩:∃ u,x.2.2[d.toNat]? = some u:=⟨_,ax (by omega)⟩
     obtain⟨v,Z⟩:∃ v,y.2.2[d.toNat]? = some v:=⟨_,ax (by omega)⟩
     have H:=ok.1 u (aM G);have nep:u≠v->x≠y:=λf W=>f (by rw[W,Z]at G;exact(aQ G).symm);have l:u≠v->En (λ(r:Bool)=>r=true↔Eq3 s1 s2 k1 k2 bs cs) λk=>itS Zu k (.h5 (bs.length:Int) c (x.2.2.length:Int) d true y.1 y.2.1 (y.2.2.map prow) x.1 x.2.1 (x.2.2.map prow) s2 k2 (cs.map brow) s1 k1 (bs.map brow)):=λf=>.go (by simp only[nt,Zu];exact no (λ_=>rfl) (ne (nep f)));refine .go ?_;simp only[nt,Zu];refine .br (λm=>?_) λm=>by simp only[decide_eq_false_iff_not]at m;omega
     refine .ixR N (by rw[List.length_map];omega) λrow j=>?_;rw[aH,G]at j;obtain rfl:=aQ j;simp only[qCF];refine .ixR N (by rw[List.length_map];omega) λrow j=>?_;rw[aH,Z]at j;obtain rfl:=aQ j;simp only[qCF];refine .br (λg=>l λe=>by simp[e]at g) λD=>.br (λg=>l λe=>by simp[e]at g) λE=>.bind (qEU H.1) λr3 y3=>.br (λg=>l λe=>by simp[y3.2 (by rw[e])]at g) λz3=>.bind (qEU H.2) λr4 y4=>?_;cases r4 with
     |false=>exact l λe=>absurd (y4.2 (by rw[e])) (by simp)
     |true=>
      refine .go ?_;simp only[nt,Zu];refine .br (λh=>by cases h) λ_=>?_;rw[w1 N (by omega)];refine kh _ (by omega) (by omega) (by omega) λi z=>?_;by_cases p:i<d.toNat
      . exact Y i p
      . obtain rfl:i=d.toNat:=by omega
        rw[G,Z];simp only[bne_eq_false_iff_eq,Bool.not_eq_false']at D E z3;exact congrArg some (by have P:=y3.1 z3;have e4:=y4.1 rfl;obtain⟨ua,ub,uc,ud⟩:=u;obtain⟨va,vb,vc,vd⟩:=v;simp only at D E P e4;rw[D,E,P,e4])
   refine .go ?_;simp only[nt,Zu];refine .br (λm=>?_) λm=>by simp only[decide_eq_false_iff_not]at m;omega
   refine .ixR w (by rw[List.length_map];omega) λrow j=>?_;rw[aH,‹bs[c.toNat]? = some x›]at j;obtain rfl:=aQ j;simp only[qCz];refine .ixR w (by rw[List.length_map];omega) λrow j=>?_;rw[aH,U]at j;obtain rfl:=aQ j;simp only[qCz];refine .br (λg=>n _ _ _ _ _ _ λe=>by simp[e]at g) λD=>.br (λg=>n _ _ _ _ _ _ λe=>by simp[e]at g) λE=>?_;simp only[bne_eq_false_iff_eq]at D E;simp only[List.length_map];by_cases o:x.2.2.length=y.2.2.length
   . rw[show((x.2.2.length:Int)!=(y.2.2.length:Int))=false by simp[o]];refine .go ?_;simp only[nt,Zu,List.length_map];exact .br (λh=>by cases h) λ_=>B D E o _ 0 (Int.le_refl 0) rfl (by omega) λi z=>by simp at z
   . rw[show((x.2.2.length:Int)!=(y.2.2.length:Int))=true by simp;omega];exact n _ _ _ _ _ _ λe=>o (by rw[e])
 have I:s1=s2->k1.length=k2.length->bs.length=cs.length->∀ (q:Nat) (c:Int),0<=c->k1.length-c.toNat=q->c<=k1.length->(∀ i,i<c.toNat->k1[i]? = k2[i]?) ->
   En (λ(r:Bool)=>r=true↔Eq3 s1 s2 k1 k2 bs cs) λk=>itS Zu k (.h1 (k1.length:Int) c s2 k2 (cs.map brow) s1 k1 (bs.map brow)):=by
  intro F hk S q
  induction q with
  |zero=>intro c w J K A;refine .go ?_;simp only[nt,Zu,List.length_map];exact .br (λs=>by simp only[aW]at s;omega) λ_=>Q F (qwg hk (by omega) A) S _ 0 (Int.le_refl 0) rfl (by omega) λi z=>by simp at z
  |succ q T=>
   intro c w h1' h2' A;refine .go ?_;simp only[nt,Zu];refine .br (λm=>?_) λm=>by simp only[decide_eq_false_iff_not]at m;omega
   refine .ixR w (by omega) λrow j=>?_;obtain⟨a,rfl⟩:=J _ (aM j);simp only[qzx];refine .ixR w (by omega) λrow C=>?_;obtain⟨b,rfl⟩:=K _ (aM C);simp only[qzx];refine .br (λg=>no (λ_=>rfl) λe=>?_) λg=>?_
   . rw[e.2.1,C]at j;simp only[aa,List.cons.injEq,Cell.val.injEq,Value.int.injEq,true_and,and_true]at j;simp[j]at g
   .
    rw[w1 w (by omega)];refine T _ (by omega) (by omega) (by omega) λi z=>?_;by_cases p:i<c.toNat
    . exact A i p
    . obtain rfl:i=c.toNat:=by omega
      simp only[bne_eq_false_iff_eq]at g;rw[j,C,g]
 have k0:∀ b:Bool,(b=true->¬ Eq3 s1 s2 k1 k2 bs cs)->(b=false->s1=s2/\k1.length=k2.length/\bs.length=cs.length)->En (λ(r:Bool)=>r=true↔Eq3 s1 s2 k1 k2 bs cs) λk=>itS Zu k (.h0 b s2 k2 (cs.map brow) s1 k1 (bs.map brow)):=λb s hb2=>.go (by simp only[nt,Zu];refine .br (λh=>no (λ_=>rfl) (s h)) λh=>?_;obtain⟨F,R,P⟩:=hb2 h;exact I F R P _ 0 (Int.le_refl 0) rfl (by omega) λi z=>by simp at z);refine .go ?_;simp only[nt,Zu,List.length_map];refine .br (λg=>k0 _ (λ_ e=>by simp[e.1]at g) λh=>by cases h) λO=>.br (λg=>k0 _ (λ_ e=>by simp[e.2.1]at g) λh=>by cases h) λX=>k0 _ (λh e=>by simp[e.2.2]at h) λh=>?_;simp only[bne_eq_false_iff_eq]at O X h;exact⟨O,by omega,by omega⟩
end
end Ab
end Go.Proofs.YtnnhdcidgfjfpaaGreatDoor

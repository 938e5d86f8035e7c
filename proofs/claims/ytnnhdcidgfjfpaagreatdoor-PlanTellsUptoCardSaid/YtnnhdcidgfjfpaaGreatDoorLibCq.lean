/-
  The interpreter of the model's code over values, and its soundness: part 3 of 5. No claim stands here.
-/
import Derived.Test.YtnnhdcidgfjfpaaGreatDoorLibBq
set_option linter.all false
namespace Go.Proofs.YtnnhdcidgfjfpaaGreatDoor
namespace Ab
section
variable [Glob]
def qcq (G:Gh)(w:World)(F:Fr)(xs:List (Option Pl))(v:AV)(V:Value):Prop:=∃ l us,qvg G w F xs l us/\((v=.ag l/\V=.agg us.toArray)\/(∃ c,v=.c c/\l=[c]/\us=[V]))
theorem qcq.shr {G G' F F' w}(b:Shr G F G' F')(a:GInv G w){xs v V}(h:qcq G w F xs v V):qcq G' w F' xs v V:=by obtain⟨l,us,c,d⟩:=h;exact⟨l,us,c.shr b a,d⟩
def Args (G:Gh)(w:World)(F:Fr)(a:Nat->Bool):Nat->List (List (Option Pl))->List AV->List Value->Prop
 |_,[],[],[]=>True
 |j,xs::xss,v::vs,V::Vs=>(if a j then qcq G w F xs v V else xs=[]/\RelV G w v V)/\Args G w F a (j+1) xss vs Vs
 |_,_,_,_=>False
theorem Args.shr {G G' F F' w}(c:Shr G F G' F')(b:GInv G w){a}:∀ {j:Nat} {xss:List (List (Option Pl))} {vs:List AV} {Vs:List Value},
  Args G w F a j xss vs Vs->Args G' w F' a j xss vs Vs
 |_,[],[],[],_=>trivial
 |j,xs::xss,v::vs,V::Vs,⟨d,f⟩=>by
  refine⟨?_,f.shr c b⟩;by_cases e:a j=true
  . rw[aD e]at *;exact d.shr c b
  . rw[aF e]at *;exact⟨d.1,d.2.shr c⟩
 |_,[],[],_::_,h=>h.elim
 |_,[],_::_,_,h=>h.elim
 |_,_::_,[],_,h=>h.elim
 |_,_::_,_::_,[],h=>h.elim
theorem qdn {cx G w F F' ts}(h:RelF G w F ts){v v' V}(q:RelV G w v V)(e:Qb cx F v=some (v',F')):
  ∃ im' xs,RelF { G with im:=im' } w F' ts/\Gain G w { G with im:=im' } w/\Shr G F { G with im:=im' } F'/\qcq { G with im:=im' } w F' xs v' V/\Dis xs /\
   ∀ s,some s∈xs->Uses F s.toKey:=by
 obtain⟨z,rows⟩:=v;unfold Qb at e;split at e
 . rename_i x a b;simp only at a b;subst a;subst b;simp only[aG,Prod.exists,ai]at e;obtain⟨d,f,g,rfl,rfl⟩:=e;have r:qxi cx F [x]=some ([d],f):=by simp[qxi,g]
   obtain⟨u,t,A⟩:=q.2 0 0 x rfl;simp only[qX,aa]at t;subst t;obtain⟨im',xs,i,j,k,m,n,p⟩:=Zl [x] [d] [V] G F f h ⟨A,trivial⟩ r;exact⟨im',xs,i,j,k,⟨[d],[V],m,.inr ⟨d,rfl,rfl,rfl⟩⟩,n,p⟩
 . rename_i l a b;simp only at a b;subst a;subst b;simp only[aG,Prod.exists,ai]at e;obtain⟨y,f,g,rfl,rfl⟩:=e;obtain⟨vs,rfl,r,B⟩:=q.agg_inv;obtain⟨im',xs,i,j,k,m,n,p⟩:=Zl l y vs.toList G F f h (vz.of_get (by omega) (λo c C=>by grind)) g;exact⟨im',xs,i,j,k,⟨y,vs.toList,m,.inl ⟨rfl,by simp⟩⟩,n,p⟩
 grind
theorem qcq.nouse {G w F xs v V}(h:qcq G w F xs v V){s}(a:some s∈xs):¬ Uses F s.toKey:=by obtain⟨l,us,b,_⟩:=h;exact b.nouse a
theorem vX {cx f w ts}:∀ (vs:List AV) (Vs:List Value) (j:Nat) (a:List AV) (G:Gh) (F F':Fr),RelF G w F ts ->
  vs.length=Vs.length->(∀ (j:Nat) v V,vs[j]? = some v->Vs[j]? = some V->RelV G w v V)->yT cx f F j vs=some (a,F') ->
  ∃ im' xss,RelF { G with im:=im' } w F' ts/\Gain G w { G with im:=im' } w/\Shr G F { G with im:=im' } F'/\Args { G with im:=im' } w F' (cx.hand f) j xss a Vs/\Nod xss.flatten /\
   ∀ s,some s∈xss.flatten->Uses F s.toKey
 |[],[],j,a,G,F,F',h,_,_,e=>by simp only[yT,aa,ai]at e;obtain⟨rfl,rfl⟩:=e;exact⟨G.im,[],h,Gain.refl G w,Shr.refl G F,trivial,List.nodup_nil,by grind⟩
 |v::vs,V::Vs,j,a,G,F,F',h,p,k,e=>by
  simp only[yT]at e;have q:=k 0 v V rfl rfl;by_cases i:cx.hand f j=true
  .
   rw[aD i]at e;cases r:Qb cx F v with
   |none=>grind
   |some y=>
    obtain⟨I,t⟩:=y;simp only[r]at e;cases d:yT cx f t (j+1) vs with
    |none=>grind
    |some z=>
     obtain⟨b,l⟩:=z;simp only[d,aa,ai]at e;obtain⟨rfl,rfl⟩:=e;obtain⟨m,xs,u,B,n,A,C,J⟩:=qdn h q r;obtain⟨c,xss,o,b2,b3,b4,b5,b6⟩:=vX vs Vs (j+1) b { G with im:=m } t l u (by grind) (λj x X D E=>(k (j+1) x X (by grind) (by grind)).shr n) d;refine⟨c,xs::xss,o,B.trans b2,n.trans b3,⟨by rw[aD i];exact A.shr b3 u.inv,b4⟩,?_,λs hs=>?_⟩
     . unfold Nod;rw[List.flatten_cons,List.filterMap_append,List.nodup_append];refine⟨ZN.1 C,b5,?_⟩;intro s hs K g H;subst H;simp only[List.mem_filterMap,id,exists_eq_right]at hs g;exact A.nouse hs (b6 s g)
     . rw[List.flatten_cons,List.mem_append]at hs;rcases hs with hs|hs
       . grind
       . exact n.uses _ (b6 s hs)
  . rw[aF i]at e;cases d:yT cx f F (j+1) vs with
    |none=>grind
    |some z=>obtain⟨b,l⟩:=z;simp only[d,aa,ai]at e;obtain⟨rfl,rfl⟩:=e;obtain⟨c,xss,o,b2,b3,b4,b5,b6⟩:=vX vs Vs (j+1) b G F l h (by grind) (λj x X D E=>k (j+1) x X (by grind) (by grind)) d;refine⟨c,[]::xss,o,b2,b3,⟨by rw[aF i];exact⟨rfl,q.shr b3⟩,b4⟩,by grind,λs hs=>b6 s (by grind)⟩
 |[],_::_,_,_,_,_,_,_,p,_,_=>by grind
 |_::_,[],_,_,_,_,_,_,p,_,_=>by grind
theorem qdq {F:Fr}{p rest rows}(h:F.rowsAt (p.under rest)=some rows):∃ b d,F.get p=some (.own b d):=by
 unfold Fr.rowsAt Pl.under at h;simp only at h;cases f:F.rows p.key.root with
 |none=>grind
 |some d=>
  simp only[f,ae]at h;rw[qba]at h;cases g:getR d p.key.path with
  |none=>grind
  |some e=>
   simp only[g,ae,getR]at h;cases i:cellAt e p.r p.o with
   |none=>grind
   |some c=>
    rw[i]at h;cases c with
    |own b a=>exact⟨b,a,by simp[Fr.get,Fr.rowsAt,f,g,i]⟩
    |_=>grind
theorem qi0 {F F':Fr}{p c}(h:F.set p c=some F'){r}(e:r≠p.key.root):F'.rows r=F.rows r:=by
 unfold Fr.set at h;cases b:F.rows p.key.root with
 |none=>grind
 |some rows=>
  simp only[b]at h;cases d:updR (putAt p.r p.o c) rows p.key.path with
  |none=>grind
  |some a=>
   simp only[d,aa]at h;subst h;have f:rows.map List.length=a.map List.length:=by
    have:=qe2 c p.r p.o p.key.path rows a d
    grind
   rw[qao b f,aF e]
def Froz (G:Gh)(F:Fr)(p:Pl)(im:Nat->Prop):Prop:=∀ rest rows h,F.rowsAt (p.under rest)=some rows->G.γ (p.under rest)=some h->im h.b
theorem xE {w ts}:∀ (c:List Pl) (G:Gh) (F F':Fr),RelF G w F ts->zG F c=some F' ->
  ∃ im',RelF { G with im:=im' } w F' ts/\Gain G w { G with im:=im' } w/\Shr G F { G with im:=im' } F' /\
   (∀ p∈c,∀ d rows,F.get p=some (.own d rows)->Froz G F p im')/\∀ r,(∀ p∈c,r≠p.key.root)->F'.rows r=F.rows r
 |[],G,F,F',h,e=>by simp only[zG,aa]at e;subst e;exact⟨G.im,h,Gain.refl G w,Shr.refl G F,by simp,by simp⟩
 |p::c,G,F,F',h,e=>by
  have skip:zG F c=some F'->(∀ d rows,F.get p≠some (.own d rows))->∃ im',RelF { G with im:=im' } w F' ts/\Gain G w { G with im:=im' } w/\Shr G F { G with im:=im' } F' /\
    (∀ q∈p::c,∀ d rows,F.get q=some (.own d rows)->Froz G F q im')/\∀ r,(∀ q∈p::c,r≠q.key.root)->F'.rows r=F.rows r:=by
   intro e K;obtain⟨im',o,s,j,t,u⟩:=xE c G F F' h e
   grind
  simp only[zG]at e;split at e
  .
   rename_i d rows v;cases k:F.set p (.imm (qG rows))with
   |none=>grind
   |some C=>
    simp only[k]at e;have y:=Fr.setTo k;obtain⟨D,b2,b3,b4⟩:=h.freezeAt v y;obtain⟨im',o,s,j,t,u⟩:=xE c _ C F' D e;refine⟨im',o,b2.trans s,b3.trans j,λq hq E l H=>?_,λr z=>?_⟩
    .
     have A:Froz G F p im':=λrest m x f g=>j.im _ (.inr ⟨rest,m,x,by rw[qoN v]at f;exact f,g,rfl⟩);rcases List.mem_cons.1 hq with rfl|hq
     . exact A
     . intro rest m x f g;by_cases i:∃ π,q.under rest=p.under π
       . obtain⟨π,i⟩:=i;rw[i]at f g;exact A π m x f g
       . rcases y.other (q.under rest) (λπ e=>i ⟨π,e⟩)with⟨I,_⟩|⟨a,b,I,B,_⟩
         . grind
         . obtain⟨J,r2,n⟩:=qdq B;exact t q hq J r2 n rest b x B g
    . rw[u r λq hq=>z q (aB _ hq)];exact qi0 k (z p au)
  grind
theorem qbt {G w F Ff ts im'}(h:RelF G w F ts)(j:Shr G F { G with im:=im' } Ff){c k l V}(g:c=.dead\/(Seen c/\∀ p,Sh G w p c V))(e:Yb F c=some (k,l))(m:∀ p∈l,∀ a rows,F.get p=some (.own a rows)->Froz G F p im'):
  Hold { G with im:=im' } w Ff none k V:=by
 rcases g with rfl|⟨g,b⟩
 . simp[Yb]at e
 .
  have up:∀ {c:Cell},(∀ i,c≠.mp i)->(∀ p,Sh G w p c V)->∀ p,Sh { G with im:=im' } w p c V:=λn h p=>(h p).shr j n;cases c with
  |ref p=>
   simp only[Yb]at e;cases d:F.get p with
   |none=>grind
   |some x=>
    rw[d]at e;cases x with
    |own a rows=>simp only[aa,ai]at e;obtain⟨rfl,rfl⟩:=e;have r:¬ Seen (.own a rows):=λh=>h.1 a rows rfl;obtain⟨s,_⟩:=yD h b d r;have fz:=m p (by simp) a rows d;have:RelI im' w (immC (.own a rows)) V:=Tree.relI j.im (.own a rows) p V rfl s (h.tree d) (λrest t x v y=>fz rest t x (by rw[qoN d];exact v) y);exact⟨⟨by simp,by simp⟩,by simp,by simp,by simp,λ_=>this⟩
    |_=>grind
  |nil=>simp only[Yb,aa,ai]at e;obtain⟨rfl,rfl⟩:=e;have:V=.slice none 0 0:=b ⟨⟨.res,[]⟩,0,0⟩;subst this;exact⟨⟨by simp,by simp⟩,by simp,by simp,by simp,λ_=>.immE none 0⟩
  |dead=>simp[Yb]at e
  |mpb i=>exact(b ⟨⟨.res,[]⟩,0,0⟩).elim
  |ptr q=>
   simp only[Yb]at e;split at e
   . rename_i z;simp only[aa,ai]at e;obtain⟨rfl,rfl⟩:=e;exact⟨⟨by simp,by simp⟩,by simp,by simp,λA B=>by grind,up (by simp) b⟩
   grind
  |val u=>simp only[Yb,aa,ai]at e;obtain⟨rfl,rfl⟩:=e;exact⟨⟨by simp,by simp⟩,by simp,by simp,by simp,up (by simp) b⟩
  |imm rows=>simp only[Yb,aa,ai]at e;obtain⟨rfl,rfl⟩:=e;exact⟨⟨by simp,by simp⟩,by simp,by simp,by simp,up (by simp) b⟩
  |cptr row o=>simp only[Yb,aa,ai]at e;obtain⟨rfl,rfl⟩:=e;exact⟨⟨by simp,by simp⟩,by simp,by simp,by simp,up (by simp) b⟩
  |clo f fs cs=>simp only[Yb,aa,ai]at e;obtain⟨rfl,rfl⟩:=e;exact⟨⟨by simp,by simp⟩,by simp,by simp,by simp,up (by simp) b⟩
  |own a rows=>exact absurd rfl (g.1 a rows)
  |mp i=>exact absurd rfl (g.2 i)
theorem qbo {G w F Ff ts im'}(h:RelF G w F ts)(f:Shr G F { G with im:=im' } Ff):∀ {l a:List Cell} {b:List Pl} {us:List Value},
  vz G w l us->qci F l=some (a,b)->(∀ p∈b,∀ k rows,F.get p=some (.own k rows)->Froz G F p im')->qvg { G with im:=im' } w Ff (List.replicate l.length none) a us
 |[],a,b,[],_,e,_=>by simp only[qci,aa,ai]at e;obtain⟨rfl,rfl⟩:=e;trivial
 |c::l,a,b,u::us,⟨m,n⟩,e,g=>by
  simp only[qci]at e;cases i:Yb F c with
  |none=>grind
  |some y=>
   obtain⟨q,r⟩:=y;simp only[i]at e;cases j:qci F l with
   |none=>grind
   |some z=>obtain⟨s,o⟩:=z;simp only[j,aa,ai]at e;obtain⟨rfl,rfl⟩:=e;exact⟨qbt h f m i (λp d=>g p (aL _ d)),qbo h f n j (λp d=>g p (aR _ d))⟩
 |[],_,_,_::_,h,_,_=>h.elim
 |_::_,_,_,[],h,_,_=>h.elim
theorem qen {G w F Ff ts im'}(h:RelF G w F ts)(f:Shr G F { G with im:=im' } Ff){v v' g V}(i:RelV G w v V)(e:qgH F v=some (v',g))(j:∀ p∈g,∀ q rows,F.get p=some (.own q rows)->Froz G F p im'):∃ n,qcq { G with im:=im' } w Ff (List.replicate n none) v' V:=by
 obtain⟨r,rows⟩:=v;unfold qgH at e;split at e
 .
  rename_i x a b;simp only at a b;subst a;subst b;cases d:Yb F x with
  |none=>grind
  |some y=>obtain⟨k,s⟩:=y;simp only[d,aa,ai]at e;obtain⟨rfl,rfl⟩:=e;obtain⟨u,m,t⟩:=i.2 0 0 x rfl;simp only[qX,aa]at m;subst m;exact⟨1,[k],[V],⟨qbt h f t d j,trivial⟩,.inr ⟨k,rfl,rfl,rfl⟩⟩
 .
  rename_i l a b;simp only at a b;subst a;subst b;cases d:qci F l with
  |none=>grind
  |some y=>obtain⟨z,s⟩:=y;simp only[d,aa,ai]at e;obtain⟨rfl,rfl⟩:=e;obtain⟨vs,rfl,A,B⟩:=i.agg_inv;exact⟨l.length,z,vs.toList,qbo h f (vz.of_get (by omega) (λo c C=>by grind)) d j,.inl ⟨rfl,by simp⟩⟩
 grind
theorem Xx {cx f G w F Ff ts im'}(h:RelF G w F ts)(i:Shr G F { G with im:=im' } Ff):
  ∀ {j:Nat} {xss:List (List (Option Pl))} {vs b:List AV} {g:List Pl} {Vs:List Value},Args G w F (cx.hand f) j xss vs Vs->vg cx f F j vs=some (b,g) ->
  (∀ p∈g,∀ r rows,F.get p=some (.own r rows)->Froz G F p im') ->
  ∃ a,Args { G with im:=im' } w Ff (λ_=>true) j a b Vs/\a.flatten.filterMap id=xss.flatten.filterMap id
 |j,[],[],b,g,[],_,e,_=>by simp only[vg,aa,ai]at e;obtain⟨rfl,rfl⟩:=e;exact⟨[],trivial,rfl⟩
 |j,xs::xss,v::vs,b,g,V::Vs,⟨c,s⟩,e,l=>by
  simp only[vg]at e;cases d:(if cx.hand f j then some (v,[])else qgH F v)with
  |none=>grind
  |some y=>
   obtain⟨x,A⟩:=y;simp only[d]at e;cases m:vg cx f F (j+1) vs with
   |none=>grind
   |some z=>
    obtain⟨t,u⟩:=z;simp only[m,aa,ai]at e;obtain⟨rfl,rfl⟩:=e;obtain⟨a,o,B⟩:=Xx h i s m (λp k=>l p (aR _ k));by_cases q:cx.hand f j=true
    . rw[aD q]at c d;simp only[aa,ai]at d;obtain⟨rfl,rfl⟩:=d;refine⟨xs::a,⟨by rw[aD rfl];exact c.shr i h.inv,o⟩,?_⟩
      grind
    . rw[aF q]at c d;obtain⟨rfl,c⟩:=c;obtain⟨n,C⟩:=qen h i c d (λp k=>l p (aL _ k));refine⟨List.replicate n none::a,⟨by grind,o⟩,?_⟩;simp_all
 |_,[],[],_,_,_::_,h,_,_=>h.elim
 |_,[],_::_,_,_,_,h,_,_=>h.elim
 |_,_::_,[],_,_,_,h,_,_=>h.elim
 |_,_::_,_::_,_,_,[],h,_,_=>h.elim
end
section
variable [Glob]
theorem zM {α β f}:∀ {l:List α} {a:List β},mapO f l=some a->a.length=l.length/\∀ (i:Nat) y,a[i]? = some y->∃ x,l[i]? = some x/\f x=some y
 |[],a,e=>by simp only[mapO,aa]at e;grind
 |x::l,a,e=>by
  simp only[mapO]at e;cases c:f x with
  |none=>grind
  |some y=>
   cases b:mapO f l with
   |none=>grind
   |some d=>
    simp only[c,b,aa]at e;subst e;obtain⟨g,h⟩:=zM b
    grind
theorem xu {l r r'}(h:idxOf l r=some r'):∃ i,r'=.par i/\l[i]? = some r:=by
 unfold idxOf at h;simp only[aG]at h;obtain⟨i,a,rfl⟩:=h;refine⟨i,rfl,?_⟩;unfold List.idxOf? at a;rw[List.findIdx?_eq_some_iff_getElem]at a
 grind
theorem qb9:∀ {l:List Root},nodupB l=true->l.Nodup
 |[],_=>List.nodup_nil
 |r::l,h=>by simp only[nodupB,aC,Bool.not_eq_true',List.contains_eq_mem,decide_eq_false_iff_not]at h;exact List.nodup_cons.2 ⟨h.1,qb9 h.2⟩
theorem qdD {α:Type}{l:List α}(h:l.Nodup){i j:Nat}{x}(a:l[i]? = some x)(b:l[j]? = some x):i=j:=by obtain⟨e,c⟩:=az.1 a;obtain⟨f,d⟩:=az.1 b;exact(List.getElem_inj h).1 (c.trans d.symm)
theorem qiG {l}(a:l.Nodup){i r}(h:l[i]? = some r):idxOf l r=some (.par i):=by
 unfold idxOf;cases d:l.idxOf? r with
 |none=>grind
 |some k=>
  have:idxOf l r=some (.par k):=by unfold idxOf;grind
  obtain⟨e,b,c⟩:=xu this;cases b;rw[qdD a h c];rfl
theorem qji {f W}(a:∀ r r',f r=some r'->W r'=some r){c1 c}(e:renF f c1=some c):RenX W c1 c:=by
 cases c1 with
 |ptr q=>simp only[renF,renP,Option.map_map,aG]at e;obtain⟨r',b,rfl⟩:=e;exact⟨a _ _ b,rfl,rfl,rfl⟩
 |val v=>simp only[renF,aa]at e;subst e;rfl
 |_=>simp[renF]at e
theorem qbs {f W}(a:∀ r r',f r=some r'->W r'=some r):∀ {l m:List Cell},mapO (renF f) l=some m->qev W l m
 |[],m,e=>by simp only[mapO,aa]at e;subst e;trivial
 |c::l,m,e=>by
  simp only[mapO]at e;cases b:renF f c with
  |none=>grind
  |some y=>
   cases d:mapO (renF f) l with
   |none=>grind
   |some g=>simp only[b,d,aa]at e;subst e;exact⟨qji a b,qbs a d⟩
theorem qfI {f W}(b:∀ r r',f r=some r'->W r'=some r){c1 c}(e:renC f c1=some c):c=.dead\/RenC W c1 c:=by
 cases c1 with
 |ptr q=>simp only[renC,renP,Option.map_map,aG]at e;obtain⟨r',a,rfl⟩:=e;exact .inr ⟨b _ _ a,rfl,rfl,rfl⟩
 |clo g fs cs=>
  simp only[renC]at e;cases a:mapO (renF f) fs with
  |none=>grind
  |some h=>
   cases d:mapO (renF f) cs with
   |none=>grind
   |some i=>simp only[a,d,aa]at e;subst e;exact .inr ⟨rfl,qbs b a,qbs b d⟩
 |ref q=>simp[renC]at e
 |dead=>simp only[renC,aa]at e;grind
 |own z rows=>simp only[renC,aa]at e;subst e;exact .inr ⟨rfl,rfl⟩
 |cptr z rows=>simp only[renC,aa]at e;subst e;exact .inr ⟨rfl,rfl⟩
 |nil=>simp only[renC,aa]at e;subst e;exact .inr trivial
 |_=>simp only[renC,aa]at e;subst e;exact .inr rfl
theorem qAC {f l a}(e:mapO (renC f) l=some a){o:Nat}{b}(h:l[o]? = some (.mpb b)):a[o]? = some (.mpb b):=by
 obtain⟨k,i⟩:=zM e;cases j:a[o]? with
 |none=>grind
 |some c=>obtain⟨x,d,g⟩:=i o c j;rw[h]at d;cases d;simp only[renC,aa]at g;rw[g]
theorem qbh {f W}(g:∀ r r',f r=some r'->W r'=some r){l d}(e:mapO (renC f) l=some d):yS W [l] [d]:=by
 obtain⟨k,h⟩:=zM e;refine⟨by grind,λr o c a=>?_,λr o m a=>?_⟩
 . obtain⟨rfl,b⟩:=zI a;obtain⟨x,i,j⟩:=h o c b;exact⟨x,by simp[cellAt,i],qfI g j⟩
 . obtain⟨rfl,b⟩:=zI a;simp[cellAt,qAC e b]
theorem Qf {f W}(q:∀ r r',f r=some r'->W r'=some r){l g}(e:mapO (mapO (renC f)) l=some g):yS W l g:=by
 obtain⟨u,k⟩:=zM e;refine⟨?_,λr o c m=>?_,λr o v m=>?_⟩
 .
  apply List.ext_getElem?;intro i;rw[aH,aH];cases h:g[i]? with
  |none=>grind
  |some y=>obtain⟨x,a,b⟩:=k i y h;rw[a];simp[(zM b).1]
 . obtain⟨row,a,b⟩:=qc.1 m;obtain⟨x,j,n⟩:=k r row a;obtain⟨y,s,t⟩:=(zM n).2 o c b;exact⟨y,by simp[cellAt,j,s],qfI q t⟩
 .
  obtain⟨row,a,b⟩:=qc.1 m;cases p:g[r]? with
  |none=>grind
  |some d=>obtain⟨x,j,n⟩:=k r d p;rw[a]at j;cases j;simp[cellAt,p,qAC n b]
section
variable {W:Root->Option Root} {G1 Gc:Gh} {w:World}
theorem qY.ren2 (c:∀ r a,W r=some a->G1.ok a->Gc.ok r)(d:∀ r a π,W r=some a->Gc.γ ⟨r,π⟩=G1.γ ⟨a,π⟩):∀ {l m:List Cell} {vs:List Value},qev W l m->qY G1 l vs->qY Gc m vs
 |[],[],vs,_,h=>by cases vs<;>exact h
 |a::l,b::m,[],_,h=>h.elim
 |a::l,b::m,v::vs,⟨e,i⟩,⟨f,j⟩=>by
  refine⟨?_,qY.ren2 c d i j⟩;cases a with
  |ptr s=>
   cases b with
   |ptr q=>obtain⟨g,k,t,y⟩:=e;obtain⟨n,z,x,o,p,A⟩:=f;refine⟨c _ _ g n,by grind,x,?_,p,by grind⟩;have:=d _ _ q.key.path g;rw[show q.key=⟨q.key.root,q.key.path⟩from rfl,this,k];exact o
   |_=>exact e.elim
  |val u=>
   cases b with
   |val v'=>cases e;exact f
   |_=>exact e.elim
  |_=>exact f.elim
 |[],_::_,_,h,_=>h.elim
 |_::_,[],_,h,_=>h.elim
theorem Sh.ren2 (e:∀ r a,W r=some a->G1.ok a->Gc.ok r)(m:∀ r a π,W r=some a->Gc.γ ⟨r,π⟩=G1.γ ⟨a,π⟩)(s:Gc.im=G1.im){v p c1 c u}(d:RenC W c1 c)(l:¬ Seen c1->Gc.γ p.toKey=G1.γ v.toKey)(h:Sh G1 w v c1 u):Sh Gc w p c u:=by
 cases c1 with
 |val L=>
  cases c with
  |val v'=>cases d;exact h
  |_=>exact d.elim
 |nil=>
  cases c with
  |nil=>exact h
  |_=>exact d.elim
 |imm rows=>
  cases c with
  |imm b=>cases d;unfold Sh;rw[s];exact h
  |_=>exact d.elim
 |own B rows=>
  cases c with
  |own C t=>obtain⟨rfl,rfl⟩:=d;unfold Sh;rw[l (λh=>h.1 B rows rfl)];exact h
  |_=>exact d.elim
 |mp y=>
  cases c with
  |mp D=>cases d;obtain⟨x,n,clock,i,j,k,o,E,M⟩:=h;exact⟨x,n,clock,by rw[l (λh=>h.2 y rfl)];exact i,j,k,by grind,E,by grind⟩
  |_=>exact d.elim
 |ptr z=>
  cases c with
  |ptr q=>obtain⟨i,j,k,o⟩:=d;obtain⟨F,x,N,O,P⟩:=h;refine⟨e _ _ i F,x,?_,λQ=>by rw[qBT j k];grind,by grind⟩;simp_all
  |_=>exact d.elim
 |mpb y=>exact h.elim
 |cptr row R=>
  cases c with
  |cptr A G=>obtain⟨rfl,rfl⟩:=d;obtain⟨b,base,vs,T,fr,i,j,k,o⟩:=h;exact⟨b,base,vs,T,fr,by grind,j,k,by grind⟩
  |_=>exact d.elim
 |ref z=>
  cases c with
  |ref q=>
   obtain⟨i,j,k,o⟩:=d;refine⟨e _ _ i h.1,?_⟩;have:q.toKey=⟨q.key.root,z.toKey.path⟩:=by simp[Pl.toKey,j,k,o]
   rw[this,m _ _ _ i];exact h.2
  |_=>exact d.elim
 |clo f fs cs=>
  cases c with
  |clo g H I=>obtain⟨rfl,J,K⟩:=d;obtain⟨vs,us,i,j,k⟩:=h;exact⟨vs,us,i,j.ren2 e m J,k.ren2 e m K⟩
  |_=>exact d.elim
 |dead=>cases c<;>exact d.elim
theorem qU.ren2 (m:∀ r a,W r=some a->G1.ok a->Gc.ok r)(n:∀ r a π,W r=some a->Gc.γ ⟨r,π⟩=G1.γ ⟨a,π⟩)(p:Gc.im=G1.im){k1 k b rows}(d:yS W b rows)(j:k.path≠[]↔k1.path≠[])(q:Gc.γ k=G1.γ k1)(f:∀ r o,Gc.γ (⟨k,r,o⟩:Pl).toKey=G1.γ (⟨k1,r,o⟩:Pl).toKey)(h:qU G1 w k1 b):qU Gc w k rows:=by
 have g:rows.length=b.length:=by simpa using (congrArg List.length d.1).symm
 rcases h with(⟨L,B,C⟩|⟨x,v,i,clock,rfl,D,M,E,N,F,O⟩)|⟨x,vs,T,P,G,Q,H,R,S,U,y,I⟩
 . subst B;exact .inl (.inl ⟨by grind,List.eq_nil_of_length_eq_zero g,j.2 C⟩)
 . obtain rfl:=qyL d.1 (d.2.2 0 0 v rfl);exact .inl (.inr ⟨x,v,i,clock,rfl,Decidable.byContradiction λJ=>j.1 J D,by grind,E,by grind,F,by grind⟩)
 refine .inr ⟨x,vs,T,by grind,G,by grind,H,λrow z=>?_,by grind,by omega,λq=>⟨(y (j.1 q)).1,λr o c s=>?_⟩,λr o c s=>?_⟩
 . have:row.length∈b.map List.length:=by rw[d.1];grind
   grind
 .
  obtain⟨l,t,e⟩:=d.2.1 r o c s;have:=(y (j.1 q)).2 r o l t;rcases e with rfl|e
  . rfl
  . cases l<;>cases c<;>simp_all[qw,RenC]
 .
  obtain⟨l,t,e⟩:=d.2.1 r o c s;obtain⟨u,K,A⟩:=I r o l t;refine⟨u,K,?_⟩;rcases e with rfl|e
  . exact A.one
  . exact Sh.ren2 m n p e (λ_=>f r o) A
end
theorem za:∀ (a:List (List Cell)) (n:Nat) (r:Root) (l:List Cell),(qd n a).lookup r=some l->∃ i,r=.par (n+i)/\a[i]? = some l
 |[],n,r,l,e=>by simp[qd]at e
 |b::a,n,r,l,e=>by
  simp only[qd,List.lookup_cons]at e;by_cases h:r=.par n
  . simp_all
  . have:(r==Root.par n)=false:=by simp[h]
    rw[this]at e;obtain⟨i,c,d⟩:=za a (n+1) r l e;exact⟨i+1,by grind,by grind⟩
theorem qbj:∀ (a:List (List Cell)) (n i:Nat),(qd n a).lookup (.par (n+i))=a[i]?
 |[],n,i=>by simp[qd]
 |b::a,n,0=>by simp[qd]
 |b::a,n,i+1=>by
  have:(Root.par (n+(i+1))==Root.par n)=false:=by simp
  simp only[qd,List.lookup_cons,this];have:=qbj a (n+1) i
  grind
def qo0 (xss:List (List (Option Pl)))(j o:Nat):Option Pl:=match xss[j]? with
 |some xs=>match xs[o]? with
  |some (some s)=>some s
  |_=>none
 |none=>none
theorem ZH {xss j o s}(h:qo0 xss j o=some s):∃ xs,xss[j]? = some xs/\xs[o]? = some (some s):=by
 unfold qo0 at h
 grind
theorem qaP:∀ {xss:List (List (Option Pl))},(xss.flatten.filterMap id).Nodup->∀ {j o a d:Nat} {s:Pl},qo0 xss j o=some s->qo0 xss a d=some s->j=a/\o=d
 |[],_,j,o,a,d,s,h,_=>by simp[qo0]at h
 |xs::xss,g,j,o,a,d,s,h,f=>by
  rw[List.flatten_cons,List.filterMap_append,List.nodup_append]at g;obtain⟨n,p,r⟩:=g;have b:∀ {o},qo0 (xs::xss) 0 o=some s->xs[o]? = some (some s):=λe=>by
   obtain⟨i,k,l⟩:=ZH e
   grind
  have c:∀ {j o},qo0 (xs::xss) (j+1) o=qo0 xss j o:=λ{j o}=>by simp[qo0]
  have q:∀ {j o},qo0 xss j o=some s->s∈xss.flatten.filterMap id:=λe=>by obtain⟨i,k,l⟩:=ZH e;simp only[List.mem_filterMap,id,exists_eq_right,List.mem_flatten];exact⟨i,aM k,aM l⟩
  have m:∀ {o},xs[o]? = some (some s)->s∈xs.filterMap id:=λe=>by simp only[List.mem_filterMap,id,exists_eq_right];exact aM e
  cases j with
  |zero=>
   cases a with
   |zero=>exact⟨rfl,ZN.2 n _ _ _ (b h) (b f)⟩
   |succ a=>grind
  |succ j=>
   cases a with
   |zero=>grind
   |succ a=>rw[c]at h f;obtain⟨rfl,rfl⟩:=qaP p h f;omega
theorem Args.get {G w F}:∀ {a:Nat} {xss:List (List (Option Pl))} {vs:List AV} {Vs:List Value},Args G w F (λ_=>true) a xss vs Vs->vs.length=Vs.length /\
  ∀ (j:Nat) v,vs[j]? = some v->∃ xs V,xss[j]? = some xs/\Vs[j]? = some V/\qcq G w F xs v V
 |_,[],[],[],_=>⟨rfl,by simp⟩
 |a,xs::xss,v::vs,V::Vs,⟨c,b⟩=>by
  obtain⟨d,e⟩:=b.get
  grind
 |_,[],[],_::_,h=>h.elim
 |_,[],_::_,_,h=>h.elim
 |_,_::_,[],_,h=>h.elim
 |_,_::_,_::_,[],h=>h.elim
def Gh.enter (G:Gh)(roots:List Root)(xss:List (List (Option Pl))):Gh where
 γ k:=match k.root with
  |.par i=>match roots[i]? with
   |some r=>G.γ ⟨r,k.path⟩
   |none=>none
  |.slot j=>match k.path with
   |(0,o)::π=>match qo0 xss j o with
    |some s=>G.γ (s.under π)
    |none=>none
   |_=>none
  |_=>none
 im:=G.im
 lv _:=False
theorem vL {G:Gh}{roots xss k x}(e:(G.enter roots xss).γ k=some x):
  (∃ i r,k.root=.par i/\roots[i]? = some r/\G.γ ⟨r,k.path⟩=some x)\/(∃ j o π s,k=⟨.slot j,(0,o)::π⟩/\qo0 xss j o=some s/\G.γ (s.under π)=some x):=by
 obtain⟨r,a⟩:=k;unfold Gh.enter at e
 grind
theorem qio {G w F ts}(h:RelF G w F ts){xss args Vs}(Y:Args G w F (λ_=>true) 0 xss args Vs)(hd:(xss.flatten.filterMap id).Nodup){roots}(hr:roots.Nodup){q Q}(e1:mapO (renV (idxOf roots)) args=some q)(e2:mapO (qbl F (idxOf roots)) roots=some Q):
  RelF (G.enter roots xss) w ⟨q,qd 0 Q⟩ Vs.toArray /\
   (∀ k1 x,(G.enter roots xss).γ k1=some x->∃ k,G.γ k=some x/\((∃ i:Nat,roots[i]? = some k.root)\/(k.path≠[]/\¬ Uses F k))) /\
   (∀ (i:Nat) r,roots[i]? = some r->r.boxed=true/\∃ l,F.boxes.lookup r=some l):=by
 obtain⟨a1,a2⟩:=Y.get;obtain⟨m1,m2⟩:=zM e1;obtain⟨n1,n2⟩:=zM e2;have g:∀ (i:Nat) r,roots[i]? = some r->∃ l Z,r.boxed=true/\F.boxes.lookup r=some l/\mapO (renC (idxOf roots)) l=some Z/\Q[i]? = some Z:=by
  intro i r hi;have B:i<Q.length:=by grind
  obtain⟨r',L,J⟩:=n2 i _ (ax B);rw[hi]at L;cases L;unfold qbl at J;split at J
  . rename_i n;simp only[Option.bind_eq_some_iff]at J
    grind
  grind
 have src:∀ {j o s},qo0 xss j o=some s->(∃ k a b,s=⟨⟨.slot k,[]⟩,a,b⟩)/\∀ π,¬ Uses F (s.under π):=by
  intro j o s e;obtain⟨xs,K,f⟩:=ZH e;have B:j<xss.length:=(az.1 K).1;have:∃ v,args[j]? = some v:=by
   have hl:xss.length=args.length:=by
    clear m1 m2 g n1 n2 e1 e2 e K f B a1 a2 hd;generalize (0:Nat)=z at Y
    induction xss generalizing z args Vs with
    |nil=>cases args<;>cases Vs<;>first|rfl|exact Y.elim
    |cons x xss ih=>cases args<;>cases Vs<;>first|exact Y.elim|(simp[ih _ Y.2])
   simp_all
  obtain⟨v,hv⟩:=this;obtain⟨xs',V,U,g2,l,us,R,_⟩:=a2 j v hv;rw[K]at U;cases U;have ho:o<l.length:=by rw[<- R.len.1];grind
  obtain⟨x,u,X,i2,M⟩:=R.get (ax ho);rw[f]at X;cases X;exact⟨M.1,M.2.2.2.2⟩
 have hW:∀ r r',idxOf roots r=some r'->yP roots r'=some r:=λr r' e=>by obtain⟨i,rfl,J⟩:=xu e;exact J
 have m:∀ r a π,yP roots r=some a->(G.enter roots xss).γ ⟨r,π⟩=G.γ ⟨a,π⟩:=by
  intro r a π e;cases r with
  |par i=>simp only[yP]at e;simp only[Gh.enter,e]
  |_=>simp[yP]at e
 have E:∀ r a,yP roots r=some a->G.ok a->(G.enter roots xss).ok r:=by
  intro r a e _;cases r with
  |par i=>trivial
  |_=>simp[yP]at e
 refine⟨⟨⟨λk k' x x' e S n=>?_,λk x e=>?_,h.inv.imlt,h.inv.glob⟩,by grind,λj v' e=>?_,λr l e=>?_,λd hd=>hd.elim,λk rows e hi=>?_⟩,λk1 x e=>?_,λi r hi=>?_⟩
 .
  rcases vL e with⟨i,r,K,f,D⟩|⟨j,o,π,s,rfl,f,D⟩
  . rcases vL S with⟨C,r',f1',p,t⟩|⟨j',o',π',s',rfl,p,t⟩
    . have:=h.inv.inj _ _ _ _ D t n;simp only[Key.mk.injEq]at this;obtain⟨rfl,hp⟩:=this;have:=qdD hr f p;subst this;cases k;cases k';simp_all
    . have:=h.inv.inj _ _ _ _ D t n;obtain⟨⟨k0,a,b,rfl⟩,_⟩:=src p;obtain⟨_,_,n,_⟩:=g i r f;simp only[Pl.under,Key.mk.injEq]at this;rw[this.1]at n;simp[Root.boxed]at n
  . rcases vL S with⟨C,r',f1',p,t⟩|⟨j',o',π',s',rfl,p,t⟩
    . have:=h.inv.inj _ _ _ _ D t n;obtain⟨⟨k0,a,b,rfl⟩,_⟩:=src f;obtain⟨_,_,n,_⟩:=g C r' p;simp only[Pl.under,Key.mk.injEq]at this;rw[<- this.1]at n;simp[Root.boxed]at n
    . have:=h.inv.inj _ _ _ _ D t n;obtain⟨⟨k0,a,b,rfl⟩,_⟩:=src f;obtain⟨⟨k0',a',b',rfl⟩,_⟩:=src p;simp only[Pl.under,Key.mk.injEq,Root.slot.injEq,List.nil_append,List.cons.injEq,ai]at this;obtain⟨rfl,⟨rfl,rfl⟩,rfl⟩:=this;obtain⟨rfl,rfl⟩:=qaP hd f p;rfl
 .
  rcases vL e with⟨i,r,K,f,D⟩|⟨j,o,π,s,rfl,f,D⟩
  . exact h.inv.lt _ _ D
  . exact h.inv.lt _ _ D
 .
  obtain⟨v,K,f⟩:=m2 j v' e;obtain⟨xs,V,U,g2,l,us,R,g4⟩:=a2 j v K;refine⟨V,by grind,?_⟩;have A:v.rows=[l]:=by rcases g4 with⟨rfl,_⟩|⟨c,rfl,rfl,_⟩<;>rfl
  unfold renV at f;cases hm:mapO (mapO (renC (idxOf roots))) v.rows with
  |none=>grind
  |some T=>
   simp only[hm,aa]at f;subst f;have N:=Qf hW hm;rw[A]at N;refine⟨?_,λr o c hc=>?_⟩
   . simp only[<- N.1];rcases g4 with⟨rfl,rfl⟩|⟨c,rfl,rfl,rfl⟩
     . exact⟨_,rfl,by simp[R.len.2]⟩
     . trivial
   .
    obtain⟨c1,d1,d2⟩:=N.2.1 r o c hc;obtain⟨rfl,d3⟩:=zI d1;obtain⟨x,u,X,i2,M⟩:=R.get d3;refine⟨u,?_,?_⟩
    .
     rcases g4 with⟨rfl,rfl⟩|⟨c,rfl,rfl,rfl⟩
     . simpa [qX,AV.ag]using i2
     . cases o with
       |zero=>simpa [qX,AV.c]using i2
       |succ o=>grind
    .
     rcases d2 with rfl|d2
     . grind
     . right;cases x with
       |none=>exact Sh.ren2 E m rfl d2 (λhn=>absurd M.1 hn) (M.2.2.2.2 ⟨⟨.res,[]⟩,0,0⟩)
       |some s=>
        refine Sh.ren2 E m rfl d2 (λ_=>?_) M.2.2.1;have:qo0 xss j o=some s:=by simp[qo0,U,X]
        simp only[Gh.enter,Pl.toKey,List.nil_append,this];rfl
 . obtain⟨i,L,J⟩:=za _ _ _ _ e;rw[L];exact⟨rfl,trivial⟩
 .
  obtain⟨r,H⟩:=k;cases r with
  |slot j=>
   have hπ:H≠[]:=by
    rcases hi with hi|hi
    . exact hi
    . simp[Root.boxed]at hi
   cases H with
   |nil=>grind
   |cons y π=>
    obtain⟨r,o⟩:=y;unfold Fr.rowsAt at e;simp only[Fr.rows]at e;cases hj:q[j]? with
    |none=>grind
    |some v'=>
     simp only[hj,av,ae]at e;obtain⟨v,K,f⟩:=m2 j v' hj;obtain⟨xs,V,U,g2,l,us,R,g4⟩:=a2 j v K;have A:v.rows=[l]:=by rcases g4 with⟨rfl,_⟩|⟨c,rfl,rfl,_⟩<;>rfl
     unfold renV at f;cases hm:mapO (mapO (renC (idxOf roots))) v.rows with
     |none=>grind
     |some T=>
      simp only[hm,aa]at f;subst f;have N:=Qf hW hm;rw[A]at N;have S:=N.getR e;simp only[getR]at S;cases hc:cellAt [l] r o with
      |none=>grind
      |some c=>
       rw[hc]at S;obtain⟨rfl,d3⟩:=zI hc;obtain⟨x,u,X,i2,M⟩:=R.get d3;cases x with
       |none=>
        cases c with
        |own zz rs=>exact absurd rfl (M.1.1 zz rs)
        |_=>grind
       |some s=>
        have hs:qo0 xss j o=some s:=by simp[qo0,U,X]
        have hc':subR c π=some rows:=by cases c<;>first|exact S|simp at S
        have tr:=M.2.2.2.1 π rows hc';have hp:=λr o c (e:cellAt _ r o=some c)=>tr.pure (by simp[Pl.under]) e;refine qU.ren2 (W:=yP roots) E m rfl (.pure hp) (by simp[Pl.under]) ?_ (λr' o'=>?_) tr
        . simp only[Gh.enter,hs]
        . simp only[Gh.enter,Pl.toKey,List.cons_append,hs,Pl.under,List.append_assoc]
  |par i=>
   unfold Fr.rowsAt at e;have I:∀ k,Root.par i≠.slot k:=by simp
   simp only at e;rw[Fr.rows_ns _ I]at e;cases n:(qd 0 Q).lookup (.par i)with
   |none=>grind
   |some Z=>
    simp only[n,av,ae]at e;obtain⟨C,L,J⟩:=za _ _ _ _ n;have:C=i:=by grind
    subst this;have B:C<roots.length:=by grind
    obtain⟨l,l'',q1,q2,q3,q4⟩:=g C _ (ax B);rw[J]at q4;cases q4;have N:=qbh hW q3;have O:yP roots (.par C)=some roots[C]:=by simp[yP,B]
    have P:∀ k,roots[C]≠.slot k:=λk e=>by rw[e]at q1;simp[Root.boxed]at q1
    cases H with
    |nil=>simp only[getR,aa]at e;subst e;refine qU.ren2 (W:=yP roots) (k1:=⟨roots[C],[]⟩) E m rfl N (by simp) (m _ _ _ O) (λr' o'=>m _ _ _ O) (h.cont _ _ ?_ (.inr q1));simp only[Fr.rowsAt,F.rows_ns P,q2,av,ae,getR]
    |cons y π=>
     have hF:F.rowsAt ⟨roots[C],y::π⟩=some rows:=by simp only[Fr.rowsAt,F.rows_ns P,q2,av,ae];exact N.getR e
     have tr:=h.cont _ _ hF (.inl (by simp));exact qU.ren2 (W:=yP roots) E m rfl (.pure λr o c e=>tr.pure (by simp) e) (by simp) (m _ _ _ O) (λr' o'=>m _ _ _ O) tr
  |loc d=>
   exfalso;unfold Fr.rowsAt at e;have I:∀ k,Root.loc d≠.slot k:=by simp
   simp only at e;rw[Fr.rows_ns _ I]at e;cases n:(qd 0 Q).lookup (.loc d)with
   |none=>grind
   |some Z=>obtain⟨C,L,J⟩:=za _ _ _ _ n;cases L
  |res=>
   exfalso;unfold Fr.rowsAt at e;have I:∀ k,Root.res≠.slot k:=by simp
   simp only at e;rw[Fr.rows_ns _ I]at e;cases n:(qd 0 Q).lookup .res with
   |none=>grind
   |some Z=>obtain⟨C,L,J⟩:=za _ _ _ _ n;cases L
 .
  rcases vL e with⟨i,r,K,f,D⟩|⟨j,o,π,s,rfl,f,D⟩
  . grind
  . exact⟨_,D,.inr ⟨by simp[Pl.under],(src f).2 π⟩⟩
 grind
end
section
variable [Glob]
def yA (roots:List Root)(c:Cell):Cell:=roots.foldl (λc r=>yz r c) c
theorem qdl (roots):yA roots .dead=.dead:=by
 induction roots with
 |nil=>rfl
 |cons r l a=>exact a
theorem qck (roots)(c):yA roots c=.dead\/(yA roots c=c/\∀ r∈roots,yz r c=c):=by
 induction roots with
 |nil=>exact .inr ⟨rfl,by simp⟩
 |cons r l a=>
  show yA l (yz r c)=.dead\/_;rcases qP r c with h|h
  .
   rcases a with a|⟨b,d⟩
   . grind
   . right;refine⟨by show yA l (yz r c)=c;grind,λr' e=>?_⟩
     grind
  . left;rw[h];exact qdl l
theorem qdH (f g):∀ a:List (Root×List Cell),mapB g (mapB f a)=mapB (λc=>g (f c)) a
 |[]=>rfl
 |(r,l)::a=>by simp[mapB,qdH f g a,Function.comp_def]
theorem qgZ:∀ a:List (Root×List Cell),mapB (λc=>c) a=a
 |[]=>rfl
 |(r,l)::a=>by simp[mapB,qgZ a]
theorem qgX (F:Fr)(f g):(F.mapC f).mapC g=F.mapC (λc=>g (f c)):=by unfold Fr.mapC;simp only[qdH,List.map_map];congr 1;apply List.map_congr_left;intro v _;simp[AV.mapC,Function.comp_def]
theorem vT:∀ (roots:List Root) (F:Fr),yj F roots=F.mapC (yA roots)
 |[],F=>by
  show F=F.mapC (λc=>c);unfold Fr.mapC;rw[qgZ];have:F.slots.map (λv=>v.mapC λc=>c)=F.slots:=by
   conv=>rhs;rw[<- List.map_id F.slots]
   apply List.map_congr_left;intro v _;simp[AV.mapC]
  rw[this]
 |r::l,F=>by show yj (F.killR r) l=_;rw[vT l,Fr.killR,qgX];rfl
theorem yE:∀ (roots:List Root) (ls:List (List Cell)) (F:Fr),(qu2 F roots ls).slots=F.slots
 |[],_,F=>by simp[qu2]
 |_::_,[],F=>by simp[qu2]
 |r::roots,l::ls,F=>by show(qu2 { F with boxes:=YQ r l F.boxes } roots ls).slots=_;rw[yE]
theorem vB:∀ (roots:List Root) (ls:List (List Cell)) (F:Fr) (r:Root),r∉roots->(qu2 F roots ls).boxes.lookup r=F.boxes.lookup r
 |[],_,F,r,_=>by simp[qu2]
 |_::_,[],F,r,_=>by simp[qu2]
 |a::roots,l::ls,F,r,h=>by simp only[List.mem_cons,not_or]at h;show(qu2 { F with boxes:=YQ a l F.boxes } roots ls).boxes.lookup r=_;rw[vB roots ls _ r h.2,yu,aF h.1]
theorem qbr:∀ (roots:List Root) (ls:List (List Cell)) (F:Fr),roots.Nodup->roots.length=ls.length->(∀ r∈roots,(F.boxes.lookup r).isSome=true) ->
  ∀ (i:Nat) r,roots[i]? = some r->(qu2 F roots ls).boxes.lookup r=ls[i]?
 |[],_,F,_,_,_,i,r,h=>by grind
 |_::_,[],F,_,a,_,i,r,h=>by grind
 |b::roots,l::ls,F,c,a,d,i,r,h=>by
  obtain⟨e,f⟩:=List.nodup_cons.1 c;show(qu2 { F with boxes:=YQ b l F.boxes } roots ls).boxes.lookup r=_;cases i with
  |zero=>simp only[aI,aa]at h;subst h;rw[vB roots ls _ _ e,yu,aD rfl,aD (d _ au)];rfl
  |succ i=>
   refine qbr roots ls _ f (by grind) (λr' g=>?_) i r (by grind);simp only;rw[yu]
   grind
def retW (dst:Option Nat)(roots:List Root)(r:Root):Option Root:=if dst.map Root.slot=some r then some (.slot 0)else idxOf roots r
def qdQ (dst:Option Nat)(roots:List Root)(c:Cell):Cell:=match dst with
 |some d=>zn (.slot d) (yA roots c)
 |none=>yA roots c
theorem qf2 {dst roots}(t:∀ r∈roots,r.boxed=true)(c)(k:∀ f fs cs q,c=.clo f fs cs->.ptr q∈fs++cs->q.key.path=[]):
  qdQ dst roots c=.dead\/(qdQ dst roots c=c/\qdX (retW dst roots) c):=by
 have p:∀ r,r∉roots->(∀ d,dst=some d->r≠.slot d)->retW dst roots r=none:=by
  intro r x hd;unfold retW;rw[aF]
  . cases u:idxOf roots r with
    |none=>rfl
    |some a=>obtain⟨i,_,g⟩:=xu u;grind
  . cases dst with
    |none=>simp
    |some d=>grind
 have l:∀ q:Pl,(q.key.root∈roots->q.key.path=[])->(∀ d,dst=some d->q.key.root≠.slot d)->qeH (retW dst roots) q:=by
  intro q m g;by_cases j:q.key.root∈roots
  . exact .inr ⟨m j,t _ j⟩
  . exact .inl (p _ j g)
 have s:∀ n,yA roots c=n->n=.dead\/(n=c/\∀ r∈roots,yz r c=c):=λn e=>by
  rcases qck roots c with h|⟨m,g⟩
  . grind
  grind
 have b:(∀ r∈roots,yz r c=c)->(∀ d,dst=some d->zn (.slot d) c=c)->qdX (retW dst roots) c:=by
  intro m g;cases c with
  |ptr q=>
   refine l q (λj=>?_) (λd hd e=>?_)
   . have:=m _ j;simp only[yz,decide_true,Bool.true_and]at this
     grind
   . have:=g d hd;simp[zn,e]at this
  |ref q=>
   show retW dst roots q.key.root=none;refine p _ (λj=>?_) (λd hd e=>?_)
   . have:=m _ j;simp[yz]at this
   . have:=g d hd;simp[zn,e]at this
  |clo f fs cs=>
   intro q v;refine l q (λ_=>k f fs cs q rfl v) (λd hd e=>?_);have:=g d hd;simp only[zn]at this
   grind
  |_=>trivial
 cases dst with
 |none=>
  rcases s _ rfl with h|⟨h,o⟩
  . exact .inl h
  . exact .inr ⟨h,b o (by simp)⟩
 |some d=>
  show zn (.slot d) (yA roots c)=.dead\/_;rcases s _ rfl with h|⟨h,o⟩
  . left;rw[h];rfl
  . rcases yN (.slot d) c with hc|hc
    . right;refine⟨by show zn (.slot d) (yA roots c)=c;grind,b o (λy e=>by grind)⟩
    grind
theorem qfU {W f rows}(e:∀ r o c,cellAt rows r o=some c->f c=.dead\/(f c=c/\qdX W c))(b:∀ a,f (.mpb a)=.mpb a):yJ W rows (rows.map (·.map f)):=by
 refine⟨by simp_all,λr o g d=>?_,λr o a h=>?_⟩
 . obtain⟨c,i,rfl⟩:=zH d
   grind
 . rw[qvZ,h,av,b]
theorem qwH (a):∀ roots:List Root,yA roots (.mpb a)=.mpb a
 |[]=>rfl
 |_::l=>qwH a l
theorem qyX (dst roots)(a):qdQ dst roots (.mpb a)=.mpb a:=by
 unfold qdQ;cases dst with
 |none=>exact qwH a roots
 |some d=>simp only[qwH];rfl
theorem RelF.clo_ptr {G w F ts}(h:RelF G w F ts){x c}(e:F.get x=some c):∀ f fs cs q,c=.clo f fs cs->.ptr q∈fs++cs->q.key.path=[]:=by
 intro f fs cs q a b;subst a;exact h.clo_path e (by
  simp only[deps,List.mem_filterMap]
  grind)
theorem Qg {I K G1 w w' B ts ts1}(A:RelF I w B ts){roots}(hn:roots.Nodup)(b:∀ (i:Nat) r,roots[i]? = some r->r.boxed=true/\∃ l,B.boxes.lookup r=some l)(P:Gain K w G1 w')(Q:K.im=I.im)(L:∀ k1 x,K.γ k1=some x->∃ k,I.γ k=some x/\((∃ i:Nat,roots[i]? = some k.root)\/(k.path≠[]/\¬ Uses B k)))(hpar:∀ (i:Nat) r,roots[i]? = some r->K.γ ⟨.par i,[]⟩=I.γ ⟨r,[]⟩){sl bx' bx''}(h1:RelF G1 w' ⟨sl,qd 0 bx'⟩ ts1)(eb:mapO (mapO (renC (yP roots))) bx'=some bx'')(hlen:bx'.length=roots.length){dst v' V}{a:Act}(R:ts=a.tmps)(hv:∀ d,dst=some d->∃ v,sl[0]? = some v/\ts1[0]? = some V/\renV (yP roots) v=some v'):
  ∃ G',RelF G' w' ((qu2 (yj B roots) roots bx'').putK dst v') (a.put dst V).tmps/\Gain I w G' w':=by
 subst R;have hb:∀ r∈roots,r.boxed=true:=λr t=>by
  obtain⟨i,g⟩:=List.getElem?_of_mem t
  grind
 have C:∀ r∈roots,((yj B roots).boxes.lookup r).isSome=true:=λr t=>by obtain⟨i,g⟩:=List.getElem?_of_mem t;obtain⟨_,l,hl⟩:=b i r g;rw[vT];simp[Fr.mapC,qH,hl]
 obtain⟨m1,m2⟩:=zM eb;have S:roots.length=bx''.length:=by omega
 have N:∀ r r',yP roots r=some r'->retW dst roots r'=some r:=by
  intro r r' e;cases r with
  |par i=>
   simp only[yP]at e;unfold retW;rw[aF,qiG hn e];intro hd;have:=hb r' (aM e);cases dst with
   |none=>cases hd
   |some d=>simp only[av,aa]at hd;subst hd;simp[Root.boxed]at this
  |_=>simp[yP]at e
 let F:=(qu2 (yj B roots) roots bx'').putK dst v'
 -- T slots of T frame
 have slots:∀ k v,F.slots[k]? = some v->(dst=some k/\v=v'/\k<B.slots.length)\/(dst≠some k/\∃ y,B.slots[k]? = some y/\v=y.mapC (qdQ dst roots)):=by
  intro k v e;have base:(qu2 (yj B roots) roots bx'').slots=B.slots.map (·.mapC (yA roots)):=by rw[yE,vT];rfl
  cases dst with
  |none=>right;refine⟨by simp,?_⟩;have u:(qu2 (yj B roots) roots bx'').slots[k]? = some v:=e;rw[base,aH]at u;simp only[aG]at u;obtain⟨y,M,rfl⟩:=u;exact⟨y,M,rfl⟩
  |some d=>
   have u:((((qu2 (yj B roots) roots bx'').slots.map (·.mapC (zn (.slot d)))).set d v')[k]?)=some v:=e;rw[base,List.getElem?_set]at u;by_cases U:d=k
   . grind
   . rw[aF U]at u;right;refine⟨by grind,?_⟩;rw[aH,aH]at u;simp only[aG]at u;obtain⟨X,⟨y,M,rfl⟩,rfl⟩:=u;refine⟨y,M,?_⟩;simp[AV.mapC,qdQ,Function.comp_def]
 have boxes:∀ r,(∀ (i:Nat),roots[i]? = some r->∃ n,bx''[i]? = some n/\∃ f:Cell->Cell,((∀ c,f c=c\/f c=.dead)/\∀ O,f (.mpb O)=.mpb O)/\F.boxes.lookup r=some (n.map f)) /\
   (r∉roots->F.boxes.lookup r=(B.boxes.lookup r).map (·.map (qdQ dst roots))):=by
  intro r;constructor
  .
   intro i g;have p:=qbr roots bx'' (yj B roots) hn S C i r g;have D:i<bx''.length:=by grind
   refine⟨_,ax D,?_⟩;rw[ax D]at p;cases dst with
   |none=>exact⟨λc=>c,⟨λc=>.inl rfl,λ_=>rfl⟩,by rw[List.map_id'];exact p⟩
   |some d=>refine⟨zn (.slot d),⟨yN _,λ_=>rfl⟩,?_⟩;show(mapB (zn (.slot d)) (qu2 (yj B roots) roots bx'').boxes).lookup r=_;rw[qH,p];rfl
  .
   intro t;have p:=vB roots bx'' (yj B roots) r t;have hy:(yj B roots).boxes.lookup r=(B.boxes.lookup r).map (·.map (yA roots)):=by rw[vT];exact qH _ _ _
   rw[hy]at p;cases dst with
   |none=>exact p
   |some d=>show(mapB (zn (.slot d)) (qu2 (yj B roots) roots bx'').boxes).lookup r=_;rw[qH,p];simp only[Option.map_map,Function.comp_def,List.map_map];rfl
 have z:∀ r,(F.boxes.lookup r).isSome=(B.boxes.lookup r).isSome:=by
  intro r;by_cases t:r∈roots
  . obtain⟨i,g⟩:=List.getElem?_of_mem t
    grind
  grind
 have len:F.slots.length=(a.put dst V).tmps.size:=by
  have h0:F.slots.length=B.slots.length:=by
   show((qu2 (yj B roots) roots bx'').putK dst v').slots.length=_;cases dst with
   |none=>show(qu2 (yj B roots) roots bx'').slots.length=_;rw[yE,vT];simp[Fr.mapC]
   |some d=>simp only[Fr.putK,Fr.put,List.length_set,Fr.mapC,List.length_map];rw[yE,vT];simp[Fr.mapC]
  rw[h0,A.size];cases dst<;>simp[Act.put]
 have tsk:∀ k,dst≠some k->(a.put dst V).tmps[k]? = a.tmps[k]?:=by
  intro k U;cases dst with
  |none=>rfl
  |some d=>
   have:d≠k:=by grind
   simp only[Act.put]
   grind
 have q:∀ {x:Pl} {c:Cell},B.get x=some c->qdQ dst roots c=.dead\/(qdQ dst roots c=c/\qdX (retW dst roots) c):=λe=>qf2 hb _ (A.clo_ptr e);have sp:Spliced (retW dst roots) ⟨sl,qd 0 bx'⟩ B F ts1 a.tmps (a.put dst V).tmps:=by
  refine⟨len,λk v e=>?_,λr l e=>?_⟩
  .
   rcases slots k v e with⟨rfl,rfl,D⟩|⟨U,y,E,rfl⟩
   . obtain⟨X,f1,f2,Y⟩:=hv k rfl;have hV:(a.put (some k) V).tmps[k]? = some V:=by simp only[Act.put];rw[aV,aD rfl,aD (by rw[<- A.size];omega)]
     refine⟨V,hV,.inl ⟨0,X,by simp[retW],f1,f2,?_⟩⟩;unfold renV at Y;cases hm:mapO (mapO (renC (yP roots))) X.rows with
     |none=>grind
     |some Z=>simp only[hm,aa]at Y;subst Y;exact⟨rfl,Qf N hm⟩
   .
    obtain⟨V0,g1,_⟩:=A.slots k y E;by_cases hW:retW dst roots (.slot k)=none
    . refine⟨V0,by grind,.inr (.inl ⟨hW,y,E,g1,rfl,qfU (λr o c G=>q (qz (zR E) G)) (qyX _ _)⟩)⟩
    .
     exfalso;apply hW;unfold retW;rw[aF]
     . cases p:idxOf roots (.slot k)with
       |none=>rfl
       |some s=>obtain⟨i,_,g⟩:=xu p;have:=(b i _ g).1;simp[Root.boxed]at this
     . cases dst with
       |none=>simp
       |some d=>grind
  .
   by_cases t:r∈roots
   .
    obtain⟨i,g⟩:=List.getElem?_of_mem t;obtain⟨n,q1,f,q2,q3⟩:=(boxes r).1 i g;rw[q3]at e;cases e;obtain⟨l',q4,q5⟩:=m2 i n q1;left;refine⟨.par i,l',N (.par i) r g,by have:=qbj bx' 0 i;grind,?_⟩;have rr:=qbh N q5;refine⟨by rw[rr.1];simp,λr' o c G=>?_,λr' o O G=>?_⟩
    . obtain⟨rfl,J⟩:=zI G;rw[aH]at J;simp only[aG]at J;obtain⟨c0,J,rfl⟩:=J;obtain⟨c1,d1,d2⟩:=rr.2.1 0 o c0 (by simp[cellAt,J])
      grind
    . have h0:=rr.2.2 r' o O G;have:=qvZ f [n] r' o
      grind
   .
    rw[(boxes r).2 t]at e;simp only[aG]at e;obtain⟨l0,E,rfl⟩:=e;right;have hns:∀ k,r≠.slot k:=λk e=>by have:=(A.boxes r l0 E).1;rw[e]at this;simp[Root.boxed]at this
    refine⟨?_,l0,E,?_⟩
    .
     unfold retW;rw[aF]
     . cases p:idxOf roots r with
       |none=>rfl
       |some s=>obtain⟨i,_,g⟩:=xu p;grind
     . cases dst with
       |none=>simp
       |some d=>grind
    . have:=qfU (W:=retW dst roots) (f:=qdQ dst roots) (rows:=[l0]) (λr' o c G=>q (x:=⟨⟨r,[]⟩,r',o⟩) (qz (by simp only[Fr.rowsAt,B.rows_ns hns,E,av,ae,getR]) G)) (qyX _ _)
      grind
 have m:∀ r s,retW dst roots r=some s->(∃ i,s=.par i/\roots[i]? = some r)\/(dst.map Root.slot=some r/\s=.slot 0):=by
  intro r s e;unfold retW at e;split at e
  . grind
  . obtain⟨i,h1,A⟩:=xu e;grind
 have part:Part (retW dst roots) I K G1 w w' B F:=by
  refine⟨P,λr r' s e u=>?_,λr s e=>?_,Q,λk1 x e=>?_,λi s e=>?_,λd s e hd=>?_,λd s e J=>?_,λd e hd=>by rw[z];exact A.live d hd⟩
  . grind
  .
   rcases m _ _ e with⟨i,rfl,g⟩|⟨hd,rfl⟩
   . rw[(b i r g).1];rfl
   . cases dst with
     |none=>cases hd
     |some d=>simp only[av,aa]at hd;subst hd;rfl
  . obtain⟨k,M,e2⟩:=L k1 x e;refine⟨k,M,e2.imp (λ⟨i,g⟩=>?_) (λh=>h)⟩;rw[N (.par i) k.root g];rfl
  . rcases m _ _ e with⟨j,rfl,hj⟩|⟨hd,rfl⟩
    . rw[P.par j];grind
    . cases dst<;>simp at hd
  . rcases m _ _ e with⟨j,rfl,hj⟩|⟨H,rfl⟩
    . exact⟨by rw[P.par j];grind,trivial⟩
    . cases dst<;>simp at H
  . rcases m _ _ e with⟨j,rfl,hj⟩|⟨H,rfl⟩
    . grind
    . cases dst<;>simp at H
 exact⟨_,qap A h1 sp part⟩
end
section
variable [Glob]
theorem qiz {f c1 c}(e:renC f c1=some c):Xg c=Xg c1:=by
 cases c1 with
 |ptr q=>simp only[renC,renP,Option.map_map,aG]at e;obtain⟨r',a,rfl⟩:=e;rfl
 |clo g fs cs=>
  simp only[renC]at e;split at e
  . simp only[aa]at e;subst e;rfl
  grind
 |ref q=>simp[renC]at e
 |_=>simp only[renC,aa]at e;grind
theorem RelF.thaw {G w v ts}(h:RelF G w ⟨[v],[]⟩ ts){im0}(i:∀ b,im0 b->G.im b)(B:∀ b,b<Glob.n->im0 b)(q:∀ r o c,cellAt v.rows r o=some c->Xg c=true):RelF { G with im:=im0 } w ⟨[v],[]⟩ ts where
 inv:=⟨h.inv.inj,h.inv.lt,λb g=>h.inv.imlt b (i b g),λb g=>⟨B b g,(h.inv.glob b g).2⟩⟩
 size:=h.size
 slots k v' e:=by
  obtain⟨V,O,C,D⟩:=h.slots k v' e;refine⟨V,O,C,λr o c s=>?_⟩;obtain⟨u,E,t⟩:=D r o c s;refine⟨u,E,t.imp (λh=>h) λt=>?_⟩;have P:v'=v:=by grind
  subst P;have:=q r o c s;cases c with
  |imm rows=>simp[Xg]at this
  |mp es=>simp[Xg]at this
  |cptr row o=>simp[Xg]at this
  |clo f fs cs=>obtain⟨vs,us,F,H,I⟩:=t;exact⟨vs,us,F,qY.lv (G:=G) (G':={ G with im:=im0 }) rfl rfl H,qY.lv (G:=G) (G':={ G with im:=im0 }) rfl rfl I⟩
  |_=>exact t
 boxes r l e:=by grind
 live d hd:=by have:=h.live d hd;omega
 cont k rows e hi:=by
  rcases h.cont k rows e hi with(J|⟨_,_,_,_,_,Q,_⟩)|⟨x,vs,T,F,H,I,R,S,U,X,Y,Z⟩
  . exact .inl (.inl J)
  . exfalso;have g:=hi.resolve_left (λq=>q Q);unfold Fr.rowsAt at e;cases D:k.root<;>rw[D]at g e<;>simp[Root.boxed,Fr.rows]at g e
  refine .inr ⟨x,vs,T,F,H,λg=>I (i _ g),R,S,U,X,Y,λr o c s=>?_⟩;obtain⟨u,E,C⟩:=Z r o c s;refine⟨u,E,?_⟩;have m:∃ A,c=.val A:=by
   obtain⟨root,n⟩:=k;cases root with
   |slot j=>
    cases n with
    |nil=>rcases hi with hi|hi<;>simp[Root.boxed]at hi
    |cons y π=>
     obtain⟨r',K⟩:=y;cases j with
     |succ j=>simp[Fr.rowsAt,Fr.rows]at e
     |zero=>
      simp only[Fr.rowsAt,Fr.rows,aI,av,ae,getR]at e;cases L:cellAt v.rows r' K with
      |none=>grind
      |some M=>
       have p:=q r' K M L;rw[L]at e;cases M with
       |own zz rs=>
        simp only[Xg,List.all_eq_true]at p;have N:∀ {a b:Nat} {y:Cell},cellAt rs a b=some y->∃ A,y=.val A:=by
         intro a b y hy;obtain⟨row,q1,q2⟩:=qc.1 hy;have:=p row (aM q1) y (aM q2)
         grind
        cases π with
        |nil=>
         simp only[getR,aa]at e
         grind
        |cons z π=>
         obtain⟨a,b⟩:=z;simp only[getR]at e
         grind
       |_=>grind
   |_=>simp[Fr.rowsAt,Fr.rows]at e
  obtain⟨A,rfl⟩:=m;exact C
theorem Gain.thaw {G G' w w'}(h:Gain G w G' w'){im0}(c:∀ b,im0 b->G.im b):Gain { G with im:=im0 } w { G' with im:=im0 } w' where
 out:=h.out
 size:=h.size
 im b a:=a
 keep b a:=h.keep b (c b a)
 rest b a d:=⟨(h.rest b a d).1,λh=>h⟩
 own:=h.own
 par:=h.par
 loc:=h.loc
theorem qvg.src {G w F}:∀ {xs:List (Option Pl)} {l:List Cell} {us:List Value},qvg G w F xs l us->∀ s,some s∈xs->∀ π,¬ Uses F (s.under π)
 |x::xs,c::l,u::us,⟨a,b⟩,s,hm=>by
  rcases List.mem_cons.1 hm with rfl|hm
  . exact a.2.2.2.2
  . exact b.src s hm
 |[],[],[],_,s,hm=>by grind
 |[],[],_::_,h,_,_=>h.elim
 |[],_::_,_,h,_,_=>h.elim
 |_::_,[],_,h,_,_=>h.elim
 |_::_,_::_,[],h,_,_=>h.elim
theorem Args.src {G w F a}:∀ {j:Nat} {xss:List (List (Option Pl))} {vs:List AV} {Vs:List Value},Args G w F a j xss vs Vs ->
  ∀ s,some s∈xss.flatten->∀ π,¬ Uses F (s.under π)
 |_,[],[],[],_,s,hm=>by grind
 |j,xs::xss,v::vs,V::Vs,⟨b,c⟩,s,hm=>by
  rw[List.flatten_cons,List.mem_append]at hm;rcases hm with hm|hm
  . by_cases d:a j=true
    . rw[aD d]at b;obtain⟨l,us,e,_⟩:=b;exact e.src s hm
    grind
  . exact c.src s hm
 |_,[],[],_::_,h,_,_=>h.elim
 |_,[],_::_,_,h,_,_=>h.elim
 |_,_::_,[],_,h,_,_=>h.elim
 |_,_::_,_::_,[],h,_,_=>h.elim
def Went (G:Gh)(w:World)(res:ARes)(bx':List (List Cell))(e:Ending)(w':World):Prop:=∃ G',Gain G w G' w'/\match res with
 |.ret v=>∃ V,e=.returned V/\RelF G' w' ⟨[v],qd 0 bx'⟩ #[V]
 |.panic v=>e=.panicked [{ v,recovered:=false }]/\RelF G' w' ⟨[],qd 0 bx'⟩ #[]
def qN (P:Program)(rec:Oracle):Prop:=∀ f args a res bx',rec f args a=some (res,bx')->∀ G w (Vs:Array Value),RelF G w ⟨args,qd 0 a⟩ Vs->Calls P f Vs w (Went G w res bx')
def Back (G:Gh)(w:World)(a:Act)(dst:Option Nat)(F':Fr)(r:Option Value)(e:Ending)(w':World):Prop:=∃ G',Gain G w G' w'/\match r with
 |none=>∃ V,e=.returned V/\RelF G' w' F' (a.put dst V).tmps
 |some v=>e=.panicked [{ v,recovered:=false }]/\RelF G' w' F' a.tmps
theorem qaX {cx rec}{C:Nat->Array Value->World->(Ending->World->Prop)->Prop}(E:∀ f Vs w R R',C f Vs w R->(∀ e w',R e w'->R' e w')->C f Vs w R')(M:∀ f args J res bx',rec f args J=some (res,bx')->∀ G w (Vs:Array Value),RelF G w ⟨args,qd 0 J⟩ Vs->C f Vs w (Went G w res bx')){G w F F' a}(h:RelF G w F a.tmps){dst f vs}{Vs:List Value}(hl:vs.length=Vs.length)(hv:∀ (j:Nat) v V,vs[j]? = some v->Vs[j]? = some V->RelV G w v V){r}(e:vZ cx rec F dst f vs=some (F',r)):
  C f Vs.toArray w (Back G w a dst F' r):=by
 unfold vZ at e;cases e1:yT cx f F 0 vs with
 |none=>grind
 |some y=>
  obtain⟨N,u⟩:=y;simp only[e1]at e;cases e2:vg cx f u 0 N with
  |none=>grind
  |some z=>
   obtain⟨args,A⟩:=z;simp only[e2]at e;generalize U:yl u 3 (zm [] (args.flatMap λv=>v.rows.flatMap λl=>l.flatMap Xz))=roots at e;cases e3:mapO (renV (idxOf roots)) args with
   |none=>grind
   |some g=>
    cases e4:mapO (qbl u (idxOf roots)) roots with
    |none=>grind
    |some J=>
     simp only[e3,e4]at e;cases e5:rec f g J with
     |none=>grind
     |some q=>
      obtain⟨res,bx'⟩:=q;simp only[e5]at e;cases X:mapO (mapO (renC (yP roots))) bx' with
      |none=>grind
      |some bx''=>
       simp only[X]at e;split at e
       .
        rename_i Y;simp only[aC,beq_iff_eq,List.all_eq_true,Bool.not_eq_true',List.contains_eq_mem,decide_eq_false_iff_not]at Y;obtain⟨⟨⟨c1,c2⟩,c3⟩,c4⟩:=Y;cases e7:zG u A with
        |none=>grind
        |some Ff=>
         simp only[e7]at e;obtain⟨H,xss,Z,a2,a3,a4,a5,_⟩:=vX vs Vs 0 N G F u h hl hv e1;obtain⟨I,b1,b2,b3,b4,b5⟩:=xE A _ u Ff Z e7;obtain⟨m,d1,d2⟩:=Xx Z b3 a4 e2 b4;have hn:=qb9 c4;have lk:∀ r∈roots,r.boxed=true->Ff.boxes.lookup r=u.boxes.lookup r:=λr hr B=>by
          have:=b5 r (λp hp hpr=>c1 p hp (hpr▸hr));have O:∀ k,r≠.slot k:=λk e=>by rw[e]at B;simp[Root.boxed]at B
          rw[Fr.rows_ns _ O,Fr.rows_ns _ O]at this;cases hx:u.boxes.lookup r<;>cases hy:Ff.boxes.lookup r<;>simp_all
         have e4':mapO (qbl Ff (idxOf roots)) roots=some J:=by
          have:∀ l:List Root,(∀ r∈l,r∈roots)->mapO (qbl Ff (idxOf roots)) l=mapO (qbl u (idxOf roots)) l:=by
           intro l
           induction l with
           |nil=>intro _;rfl
           |cons r l ih=>
            intro hm;have B:qbl Ff (idxOf roots) r=qbl u (idxOf roots) r:=by
             unfold qbl
             grind
            simp only[mapO,B,ih (λr' hr'=>hm r' (aB _ hr'))]
          grind
         obtain⟨g1,g2,g3⟩:=qio b1 d1 (by rw[d2];exact a5) hn e3 e4';have D:∀ (i:Nat) r,roots[i]? = some r->(Gh.enter { G with im:=I } roots m).γ ⟨.par i,[]⟩=G.γ ⟨r,[]⟩:=λi r hi=>by simp only[Gh.enter,hi]
         refine E _ _ _ _ _ (M f g J res bx' e5 _ w _ g1) λen w' hw=>?_;obtain⟨G1,k1,k2⟩:=hw;cases res with
         |panic v=>simp only[aa,ai]at e;obtain⟨rfl,rfl⟩:=e;obtain⟨rfl,k3⟩:=k2;obtain⟨G',P,Q⟩:=Qg (dst:=none) (v':=.undef) (V:=Go.undef) (a:=a) b1 hn g3 k1 rfl g2 D k3 X c2 rfl (by simp);exact⟨G',a2.trans (b2.trans Q),rfl,P⟩
         |ret v=>
          obtain⟨V,rfl,k3⟩:=k2;simp only at e;cases K:renV (yP roots) v with
          |none=>grind
          |some v'=>
           simp only[K,aa,ai]at e;obtain⟨rfl,rfl⟩:=e;by_cases L:(roots.isEmpty&&v'.rows.all (λ(l:List Cell)=>l.all Xg))=true
           .
            rw[aD L];simp only[aC,List.isEmpty_iff,List.all_eq_true]at L;obtain⟨rfl,L⟩:=L;have hb0:bx'=[]:=by cases bx'<;>first|rfl|grind
            subst hb0;have hno:∀ r o c,cellAt v.rows r o=some c->Xg c=true:=by
             intro r o c Y;unfold renV at K;cases hm:mapO (mapO (renC (yP []))) v.rows with
             |none=>grind
             |some n=>
              simp only[hm,aa]at K;subst K;obtain⟨row,q1,q2⟩:=qc.1 Y;obtain⟨m1,m2⟩:=zM hm;have S:r<n.length:=by grind
              obtain⟨row0,q3,q4⟩:=m2 r _ (ax S);rw[q1]at q3;cases q3;obtain⟨n1,n2⟩:=zM q4;have T:o<(n[r]).length:=by grind
              obtain⟨c0,q5,q6⟩:=n2 o _ (ax T);rw[q2]at q5;cases q5;rw[<- qiz q6];exact L _ (List.getElem_mem S) _ (List.getElem_mem T)
            have t:∀ b,H b->I b:=b3.im;have k3':=k3.thaw (im0:=H) (λb B=>k1.im b (t b B)) (λb B=>(Z.inv.glob b B).1) hno;have k1':=k1.thaw (im0:=H) t;obtain⟨G',P,Q⟩:=Qg (dst:=dst) (v':=v') (V:=V) (a:=a) (bx':=[]) (bx'':=bx'') Z hn (by simp) k1' rfl (λk x e=>by
             rcases vL (G:={ G with im:=I }) (k:=k) (x:=x) (roots:=[]) (xss:=m) e with⟨i,r,f1,f2,f3⟩|⟨j,o,π,s,rfl,f2,f3⟩
             . grind
             . refine⟨_,f3,.inr ⟨by simp[Pl.under],?_⟩⟩;obtain⟨xs,p1,p2⟩:=ZH f2;have:s∈m.flatten.filterMap id:=by simp only[List.mem_filterMap,id,exists_eq_right,List.mem_flatten];exact⟨xs,aM p1,aM p2⟩
               rw[d2]at this;simp only[List.mem_filterMap,id,exists_eq_right]at this;exact a4.src s this π) (by simp) k3' X rfl rfl (λd hd=>⟨v,rfl,rfl,K⟩)
            exact⟨G',a2.trans Q,V,rfl,P⟩
           . rw[aF L];obtain⟨G',P,Q⟩:=Qg (dst:=dst) (v':=v') (V:=V) (a:=a) b1 hn g3 k1 rfl g2 D k3 X c2 rfl (λd hd=>⟨v,rfl,rfl,K⟩);exact⟨G',a2.trans (b2.trans Q),V,rfl,P⟩
       grind
theorem qeP {cx rec}(b:qN cx.P rec){G w F F' a}(h:RelF G w F a.tmps){dst f vs}{Vs:List Value}(c:vs.length=Vs.length)(d:∀ (j:Nat) v V,vs[j]? = some v->Vs[j]? = some V->RelV G w v V){r}(e:vZ cx rec F dst f vs=some (F',r)):
  Calls cx.P f Vs.toArray w (Back G w a dst F' r):=qaX (C:=λf Vs w R=>Calls cx.P f Vs w R) (λ_ _ _ _ _ h g=>h.mono g) b h c d e
end
section
variable [Glob]
def Qo (G:Gh)(w:World)(F:Fr):Option Pl->Cell->Value->Prop
 |none,c,v=>c=.dead\/(Seen c/\(∀ q,c≠.ref q)/\(∀ q,c=.ptr q->∃ i,q.key.root=.par i)/\(∀ f fs cs,c≠.clo f fs cs)/\∀ p,Sh G w p c v)
 |some s,c,v=>((∀ i,s.key.root≠.par i)/\s.key.path=[])/\¬ Seen c/\Sh G w s c v/\Tree G w s c/\∀ π,¬ Uses F (s.under π)
theorem Qo.shr {G G' F F' w}(a:Shr G F G' F')(b:GInv G w){x c v}(h:Qo G w F x c v):Qo G' w F' x c v:=by
 cases x with
 |none=>
  rcases h with h|⟨f,g,i,j,d⟩
  . exact .inl h
  . exact .inr ⟨f,g,i,j,λp=>(d p).shr a f.2⟩
 |some s=>
  obtain⟨f,g,i,j,d⟩:=h;have l:=j.shr a b d;refine⟨f,g,?_,l,λπ o=>d π (a.uses _ o)⟩;cases c with
  |own D rows=>exact i.shr a (by simp)
  |mp E=>
   obtain⟨y,e,clock,m,q,r,H,t,u⟩:=i;refine⟨y,e,clock,by rw[a.γ];exact m,q,r,λn=>?_,t,u.mono a.im (λ_ _=>rfl)⟩;rcases a.new _ n with n|⟨k,z,A,B,C⟩
   . grind
   . have:=b.inj _ _ _ _ B m C;subst this;exact d [] (by rw[Pl.under_nil];exact A)
  |_=>exact absurd (by constructor<;>intros<;>simp) g
theorem qgE {G w F F' ts c b v}(h:RelF G w F ts)(t:c=.dead\/(Seen c/\∀ p,Sh G w p c v))(e:resC F c=some (b,F')):
  ∃ im' x,RelF { G with im:=im' } w F' ts/\Gain G w { G with im:=im' } w/\Shr G F { G with im:=im' } F'/\Qo { G with im:=im' } w F' x b v /\
   ∀ s,x=some s->Uses F s.toKey:=by
 rcases t with rfl|⟨t,u⟩
 . simp only[resC,aa,ai]at e;obtain⟨rfl,rfl⟩:=e;exact⟨G.im,none,h,Gain.refl G w,Shr.refl G F,.inl rfl,by grind⟩
 have same:b=c->F'=F->(∀ q,c≠.ref q)->(∀ q,c=.ptr q->∃ i,q.key.root=.par i)->(∀ f fs cs,c≠.clo f fs cs) ->
   ∃ im' x,RelF { G with im:=im' } w F' ts/\Gain G w { G with im:=im' } w/\Shr G F { G with im:=im' } F'/\Qo { G with im:=im' } w F' x b v/\∀ s,x=some s->Uses F s.toKey:=by
  rintro rfl rfl y I J
  exact⟨G.im,none,h,Gain.refl G w,Shr.refl G F',.inr ⟨t,y,I,J,u⟩,by grind⟩
 have z:∀ p g m,F.get p=some g->¬ Seen g->((∀ i,p.key.root≠.par i)/\p.key.path=[])->c=.ref p->F.set p .dead=some m->b=g->F'=m.kill p ->
   ∃ im' x,RelF { G with im:=im' } w F' ts/\Gain G w { G with im:=im' } w/\Shr G F { G with im:=im' } F'/\Qo { G with im:=im' } w F' x b v/\∀ s,x=some s->Uses F s.toKey:=by
  rintro p g m j d C rfl a rfl rfl
  have A:=Fr.setTo a;have D:=h.empty A (by intro E H;rw[j]at H;cases H;exact d ⟨by simp,by simp⟩);have l:=(yD h u j d).1;refine⟨G.im,some p,D.mapC (qM p),Gain.refl G w,⟨rfl,rfl,λ_ h=>h,λ_ h=>.inl h,λk K=>?_⟩,⟨C,d,l,h.tree j,λπ=>vH D A.new π⟩,λs e=>?_⟩
  . exact A.uses rfl (λ_=>rfl) ((Weak.mapC (qM p) m).uses K)
  . cases e;exact .inr ⟨p,b,j,qa2 d⟩
 cases c with
 |ref p=>
  simp only[resC]at e;cases j:F.get p with
  |none=>grind
  |some g=>
   have fr:∀ B rows,g=.own B rows->(F.set p (.imm (qG rows))).map (λF'=>(Cell.imm (qG rows),F'))=some (b,F') ->
     ∃ im' x,RelF { G with im:=im' } w F' ts/\Gain G w { G with im:=im' } w/\Shr G F { G with im:=im' } F'/\Qo { G with im:=im' } w F' x b v/\∀ s,x=some s->Uses F s.toKey:=by
    rintro B rows rfl e
    cases a:F.set p (.imm (qG rows))with
    |none=>grind
    |some m=>simp only[a,av,aa,ai]at e;obtain⟨rfl,rfl⟩:=e;obtain⟨L,M,N,O⟩:=h.freezeAt j (Fr.setTo a);have l:=(yD h u j (λn=>n.1 _ rows rfl)).1;exact⟨_,none,L,M,N,.inr ⟨⟨by grind,by grind⟩,by grind,by grind,by grind,λp=>O v l⟩,by grind⟩
   have mv:((∀ i,p.key.root≠.par i)/\p.key.path=[])->¬ Seen g->(F.set p .dead).map (λF'=>(g,F'.kill p))=some (b,F') ->
     ∃ im' x,RelF { G with im:=im' } w F' ts/\Gain G w { G with im:=im' } w/\Shr G F { G with im:=im' } F'/\Qo { G with im:=im' } w F' x b v/\∀ s,x=some s->Uses F s.toKey:=by
    intro C d e;cases a:F.set p .dead with
    |none=>grind
    |some m=>grind
   have o:movable p=true->(∀ i,p.key.root≠.par i)/\p.key.path=[]:=by
    intro r;unfold movable at r
    grind
   cases g with
   |own B rows=>
    rw[j]at e;simp only at e;split at e
    . rename_i r;exact mv (o r) (λn=>n.1 _ rows rfl) e
    grind
   |mp E=>
    rw[j]at e;simp only at e;split at e
    . rename_i r;exact mv (o r) (λn=>n.2 E rfl) e
    grind
   |_=>grind
 |ptr q=>
  simp only[resC]at e;cases y:q.key.root with
  |par i=>rw[y]at e;simp_all
  |_=>grind
 |clo f fs cs=>simp[resC]at e
 |_=>simp only[resC,aa,ai]at e;exact same e.1.symm e.2.symm (λ_ h=>by cases h) (λ_ h=>by cases h) (λ_ _ _ h=>by cases h)
def vV (G:Gh)(w:World)(F:Fr):List (Option Pl)->List Cell->List Value->Prop
 |[],[],[]=>True
 |x::xs,c::l,u::us=>Qo G w F x c u/\vV G w F xs l us
 |_,_,_=>False
theorem vV.shr {G G' F F' w}(b:Shr G F G' F')(a:GInv G w):∀ {xs:List (Option Pl)} {l:List Cell} {us:List Value},vV G w F xs l us->vV G' w F' xs l us
 |[],[],[],_=>trivial
 |_::_,_::_,_::_,⟨c,d⟩=>⟨c.shr b a,d.shr b a⟩
 |[],[],_::_,h=>h.elim
 |[],_::_,_,h=>h.elim
 |_::_,[],_,h=>h.elim
 |_::_,_::_,[],h=>h.elim
theorem vV.len {G w F}:∀ {xs:List (Option Pl)} {l:List Cell} {us:List Value},vV G w F xs l us->xs.length=l.length/\us.length=l.length
 |[],[],[],_=>⟨rfl,rfl⟩
 |_::_,_::_,_::_,⟨_,a⟩=>by have:=a.len;grind
 |[],[],_::_,h=>h.elim
 |[],_::_,_,h=>h.elim
 |_::_,[],_,h=>h.elim
 |_::_,_::_,[],h=>h.elim
theorem vV.get {G w F}:∀ {xs:List (Option Pl)} {l:List Cell} {us:List Value},vV G w F xs l us->∀ {o:Nat} {c:Cell},l[o]? = some c ->
  ∃ x u,xs[o]? = some x/\us[o]? = some u/\Qo G w F x c u
 |x::xs,c::l,u::us,⟨b,a⟩,0,d,e=>by grind
 |x::xs,c::l,u::us,⟨b,a⟩,o+1,d,e=>by simpa using a.get (by grind)
 |[],[],[],_,o,c,e=>by grind
 |[],[],_::_,h,_,_,_=>h.elim
 |[],_::_,_,h,_,_,_=>h.elim
 |_::_,[],_,h,_,_,_=>h.elim
 |_::_,_::_,[],h,_,_,_=>h.elim
theorem vV.nouse {G w F}:∀ {xs:List (Option Pl)} {l:List Cell} {us:List Value},vV G w F xs l us->∀ {s:Pl},some s∈xs->((∀ i,s.key.root≠.par i)/\s.key.path=[])/\∀ π,¬ Uses F (s.under π)
 |x::xs,c::l,u::us,⟨a,b⟩,s,hm=>by
  rcases List.mem_cons.1 hm with rfl|hm
  . exact⟨a.1,a.2.2.2.2⟩
  . exact b.nouse hm
 |[],[],[],_,s,hm=>by grind
 |[],[],_::_,h,_,_=>h.elim
 |[],_::_,_,h,_,_=>h.elim
 |_::_,[],_,h,_,_=>h.elim
 |_::_,_::_,[],h,_,_=>h.elim
theorem qbS {w ts}:∀ (l a:List Cell) (us:List Value) (G:Gh) (F F':Fr),RelF G w F ts->vz G w l us->resL F l=some (a,F') ->
  ∃ im' xs,RelF { G with im:=im' } w F' ts/\Gain G w { G with im:=im' } w/\Shr G F { G with im:=im' } F'/\vV { G with im:=im' } w F' xs a us/\Nod xs /\
   ∀ s,some s∈xs->Uses F s.toKey
 |[],a,[],G,F,F',h,_,e=>by simp only[resL,aa,ai]at e;obtain⟨rfl,rfl⟩:=e;exact⟨G.im,[],h,Gain.refl G w,Shr.refl G F,trivial,List.nodup_nil,by simp⟩
 |c::l,a,u::us,G,F,F',h,⟨n,o⟩,e=>by
  simp only[resL]at e;cases g:resC F c with
  |none=>grind
  |some y=>
   obtain⟨c1,i⟩:=y;simp only[g]at e;cases j:resL i l with
   |none=>grind
   |some z=>
    obtain⟨p,q⟩:=z;simp only[j,aa,ai]at e;obtain⟨rfl,rfl⟩:=e;obtain⟨b,x,k,r,d,m,A⟩:=qgE h n g;obtain⟨f,xs,t,b2,b3,b4,b5,b6⟩:=qbS l p us { G with im:=b } i q k (o.shr d) j;refine⟨f,x::xs,t,r.trans b2,d.trans b3,⟨m.shr b3 k.inv,b4⟩,?_,λs hs=>?_⟩
    . unfold Nod;cases x with
      |none=>exact b5
      |some s=>simp only[List.filterMap_cons,id];refine List.nodup_cons.2 ⟨λv=>?_,b5⟩;simp only[List.mem_filterMap,id,exists_eq_right]at v;exact m.2.2.2.2 [] (by rw[Pl.under_nil];grind)
    . rcases List.mem_cons.1 hs with rfl|hs
      . grind
      . exact d.uses _ (b6 s hs)
 |[],_,_::_,_,_,_,_,h,_=>h.elim
 |_::_,_,[],_,_,_,_,h,_=>h.elim
def ResV (g:Bool)(l:List Cell)(us:List Value)(U:Value):Prop:=us.length=l.length/\if g then U=.agg us.toArray else ∃ c u,l=[c]/\us=[u]/\U=u
theorem ResV.re {g l a us U}(h:ResV g l us U)(d:us.length=a.length):ResV g a us U:=by
 refine⟨d,?_⟩;have b:=h.2;cases g with
 |true=>exact b
 |false=>
  simp only[aS,if_false]at *;obtain⟨c,u,f,i,j⟩:=b;have:a.length=1:=by grind
  obtain⟨c1,e⟩:=List.length_eq_one_iff.1 this
  grind
def XH (G:Gh)(w:World)(F:Fr):List (List (Option Pl))->List (Bool×List Cell)->List Value->Prop
 |[],[],[]=>True
 |xs::xss,(g,l)::vs,U::a=>(∃ us,vV G w F xs l us/\ResV g l us U)/\XH G w F xss vs a
 |_,_,_=>False
theorem XH.get {G w F}:∀ {xss:List (List (Option Pl))} {vs:List (Bool×List Cell)} {a:List Value},XH G w F xss vs a->a.length=vs.length /\
  ∀ (r:Nat) g l,vs[r]? = some (g,l)->∃ xs U us,xss[r]? = some xs/\a[r]? = some U/\vV G w F xs l us/\ResV g l us U
 |[],[],[],_=>⟨rfl,by simp⟩
 |xs::xss,(g,l)::vs,U::a,⟨⟨us,d,b⟩,c⟩=>by
  obtain⟨e,f⟩:=c.get
  grind
 |[],[],_::_,h=>h.elim
 |[],_::_,_,h=>h.elim
 |_::_,[],_,h=>h.elim
 |_::_,_::_,[],h=>h.elim
theorem qjF {P G w F}{a:Act}(h:RelF G w F a.tmps){x v}(e:resV P F x=some v):
  ∃ U,(match x with
   |.tmp t=>pure (a.tmps.getD t Go.undef)
   |.cell b t=>do loadVar t (<- asAddr (a.tmps.getD b Go.undef)):Sem Value).run P w=.ok U w/\RelV G w v U:=by
 cases x with
 |tmp t=>simp only[resV,aa]at e;subst e;exact⟨_,rfl,qx h (.tmp t)⟩
 |cell b t=>
  simp only[resV]at e;split at e
  .
   rename_i c n g s y z;cases p:F.loadL n c with
   |none=>grind
   |some l=>
    simp only[p,ae]at e;have hd:c≠.dead:=by rintro rfl;simp[Fr.loadL]at p
    obtain⟨_,A⟩:=qp h s hd;obtain⟨i,us,B,j,C,d,k⟩:=qa6 h A p;obtain⟨U,D,E⟩:∃ U,(loadVar t i).run P w=.ok U w/\RelV G w v U:=by
     have f:=vK z;cases g with
     |true=>
      have m:=run_loadCells_list (P:=P) w i us d;rw[j]at m;simp only[mkAV,if_true,aa]at e;subst e;refine⟨.agg us.toArray,?_,RelV.ag (by grind) λo c J=>?_⟩
      . simp only[loadVar,aK,f,ay,if_true,qK y,m,aT]
      grind
     |false=>
      unfold mkAV at e;simp only[aS,if_false]at e;split at e
      . rename_i x;simp only[aa]at e;subst e;obtain⟨u,H,I⟩:=k 0 x rfl;have r:=d 0 u H;have:i.add 0=i:=rfl;rw[this]at r;refine⟨u,?_,RelV.c I⟩;simp only[loadVar,aK,f,ay,aS,if_false,run_load,r]
      grind
    refine⟨U,?_,E⟩;have q:a.tmps.getD b Go.undef=.pointer (some i):=B;simp only[q,asAddr,aK,aT,ay];exact D
  grind
theorem XH.shr {G G' F F' w}(c:Shr G F G' F')(a:GInv G w):∀ {xss:List (List (Option Pl))} {vs:List (Bool×List Cell)} {d:List Value},
  XH G w F xss vs d->XH G' w F' xss vs d
 |[],[],[],_=>trivial
 |_::_,(_,_)::_,_::_,⟨⟨us,e,b⟩,f⟩=>⟨⟨us,e.shr c a,b⟩,f.shr c a⟩
 |[],[],_::_,h=>h.elim
 |[],_::_,_,h=>h.elim
 |_::_,[],_,h=>h.elim
 |_::_,_::_,[],h=>h.elim
theorem QE {P w}{a:Act}:∀ (d:List ResultVar) (vs:List (Bool×List Cell)) (G:Gh) (F F':Fr),RelF G w F a.tmps->QS P F d=some (vs,F') ->
  ∃ im' xss g,(d.mapM (λx=>(match x with
    |.tmp t=>pure (a.tmps.getD t Go.undef)
    |.cell b t=>do loadVar t (<- asAddr (a.tmps.getD b Go.undef)):Sem Value))).run P w=.ok g w /\
   RelF { G with im:=im' } w F' a.tmps/\Gain G w { G with im:=im' } w/\Shr G F { G with im:=im' } F'/\XH { G with im:=im' } w F' xss vs g/\Nod xss.flatten /\
   ∀ s,some s∈xss.flatten->Uses F s.toKey
 |[],vs,G,F,F',h,e=>by simp only[QS,aa,ai]at e;obtain⟨rfl,rfl⟩:=e;exact⟨G.im,[],[],rfl,h,Gain.refl G w,Shr.refl G F,trivial,List.nodup_nil,by simp⟩
 |x::d,vs,G,F,F',h,e=>by
  simp only[QS]at e;cases H:resV P F x with
  |none=>grind
  |some v=>
   simp only[H]at e;obtain⟨U,hU,i⟩:=qjF h H;have key:∃ l,v.cells=some l/\(match resL F l with
     |some (N,F')=>(match QS P F' d with
      |some (vs,k)=>some (((match v.tag with|.agg=>true|_=>false),N)::vs,k)
      |none=>none)
     |none=>none)=some (vs,F'):=by
    grind
   clear e;obtain⟨l,O,e⟩:=key
   .
    skip
    cases I:resL F l with
    |none=>grind
    |some y=>
     obtain⟨Q,m⟩:=y;simp only[I]at e;cases J:QS P m d with
     |none=>grind
     |some z=>
      obtain⟨n,R⟩:=z;simp only[J,aa,ai]at e;obtain⟨rfl,rfl⟩:=e
      -- S cells as j
      have cells:∃ us,vz G w l us/\ResV (match v.tag with|.agg=>true|_=>false) l us U:=by
       rcases Xf O with⟨p,q⟩|⟨p,c,q,T⟩
       . rw[q]at i;obtain⟨r,rfl,e3,e4⟩:=i.agg_inv;refine⟨r.toList,vz.of_get (by omega) (λo c ho=>by grind),by omega,?_⟩
         grind
       . subst T;rw[q]at i;obtain⟨u,K,V⟩:=i.2 0 0 c rfl;simp only[AV.c,qX,aa]at K;subst K;refine⟨[U],⟨V,trivial⟩,rfl,?_⟩
         grind
      obtain⟨us,A,f⟩:=cells;obtain⟨B,xs,L,X,M,C,Y,a6⟩:=qbS l Q us G F m h A I;obtain⟨D,xss,g,b0,Z,b2,b3,b4,b5,b6⟩:=QE d n { G with im:=B } m R L J;refine⟨D,xs::xss,U::g,?_,Z,X.trans b2,M.trans b3,⟨⟨us,C.shr b3 L.inv,?_⟩,b4⟩,?_,λs hs=>?_⟩
      . simp_all
      . exact f.re C.len.2
      . unfold Nod;rw[List.flatten_cons,List.filterMap_append,List.nodup_append];refine⟨Y,b5,?_⟩;intro s hs s' E he;subst he;simp only[List.mem_filterMap,id,exists_eq_right]at hs E;exact(C.nouse hs).2 [] (by rw[Pl.under_nil];grind)
      . rw[List.flatten_cons,List.mem_append]at hs;rcases hs with hs|hs
        . grind
        . exact M.uses _ (b6 s hs)
end
section
variable [Glob]
def Gh.leave (G:Gh)(xss:List (List (Option Pl))):Gh where
 γ k:=match k.root with
  |.par _=>G.γ k
  |.slot 0=>match k.path with
   |(r,o)::π=>match qo0 xss r o with
    |some s=>G.γ (s.under π)
    |none=>none
   |_=>none
  |_=>none
 im:=G.im
 lv _:=False
theorem ZX {G:Gh}{xss k x}(e:(G.leave xss).γ k=some x):
  (∃ i,k.root=.par i/\G.γ k=some x)\/(∃ r o π s,k=⟨.slot 0,(r,o)::π⟩/\qo0 xss r o=some s/\G.γ (s.under π)=some x):=by
 obtain⟨r,a⟩:=k;unfold Gh.leave at e
 grind
def parW:Root->Option Root
 |.par i=>some (.par i)
 |_=>none
theorem qhL (r r')(h:qcR r=some r'):parW r'=some r:=by
 cases r with
 |par i=>simp only[qcR,aa]at h;subst h;rfl
 |_=>simp[qcR]at h
def qbe (a:Array Value):Value:=if h:a.size=1 then a[0]else .tuple a
theorem qii {G w F xss vs b}(d:XH G w F xss vs b){v}(e:qjr vs=some v):
  QO v.tag (v.rows.map List.length) (qbe b.toArray)/\∀ r o c,cellAt v.rows r o=some c->∃ xs us u,xss[r]? = some xs/\qX v.tag (qbe b.toArray) r o=some u/\xs[o]? = some us/\Qo G w F us c u:=by
 obtain⟨P,A⟩:=d.get;unfold qjr at e;split at e
 .
  rename_i g l;obtain⟨xs,U,us,k,I,m,f⟩:=A 0 g l rfl;have J:qbe b.toArray=U:=by
   have:b=[U]:=by
    cases b with
    |nil=>grind
    |cons a l=>grind
   subst this;rfl
  rw[J];cases g with
  |true=>simp only[mkAV,if_true,aa]at e;subst e;have B:U=.agg us.toArray:=f.2;subst B;refine⟨⟨_,rfl,by simp[f.1]⟩,λr o c p=>?_⟩;obtain⟨rfl,K⟩:=zI p;obtain⟨x,u,q,h,s⟩:=m.get K;exact⟨xs,x,u,k,by simpa [qX,AV.ag]using h,q,s⟩
  |false=>
   unfold mkAV at e;simp only[aS,if_false]at e;split at e
   . rename_i x;simp only[aa]at e;subst e;have d:=f.2;simp only[aS,if_false]at d;obtain⟨Q,R,z,C,rfl⟩:=d;refine⟨trivial,λr o c p=>?_⟩;obtain⟨rfl,rfl,rfl⟩:=one_cell p;obtain⟨x,u,q,h,s⟩:=m.get (o:=0) rfl;rw[C]at h;simp only[aI,aa]at h;subst h;exact⟨xs,x,U,k,rfl,q,s⟩
   grind
 .
  rename_i L;simp only[aa]at e;subst e;have M:b.toArray.size≠1:=by
   intro S;have:vs.length=1:=by grind
   obtain⟨y,T⟩:=List.length_eq_one_iff.1 this
   grind
  have N:qbe b.toArray=.tuple b.toArray:=by unfold qbe;grind
  rw[N];refine⟨⟨_,rfl,by simp,by grind,λi g n t D=>?_⟩,λr o c p=>?_⟩
  .
   rw[aH]at t;rw[aH,aH]at D;cases j:vs[i]? with
   |none=>grind
   |some y=>
    obtain⟨E,H⟩:=y;simp only[j,av,aa]at t D;subst t;subst D;obtain⟨xs,U,us,k,I,m,f⟩:=A i E H j;refine⟨U,by grind,?_⟩;have d:=f.2;split
    . rename_i t;rw[aD t]at d;exact⟨_,d,by simp[f.1]⟩
    grind
  .
   obtain⟨row,z,C⟩:=qc.1 p;rw[aH]at z;cases j:vs[r]? with
   |none=>grind
   |some y=>
    obtain⟨E,H⟩:=y;simp only[j,av,aa]at z;subst z;obtain⟨xs,U,us,k,I,m,f⟩:=A r E H j;obtain⟨x,u,q,h,s⟩:=m.get C;refine⟨xs,x,u,k,?_,q,s⟩;have O:b.toArray[r]? = some U:=by grind
    simp only[qX,aH,j,av,O];have d:=f.2
    grind
theorem qdA {G w F ts}(h:RelF G w F ts){xss n bx'}(Y:Nod xss.flatten)(eb:zD F n=some bx'){sl ts1}(Z:sl.length=ts1.size)(hs:∀ k v,sl[k]? = some v->k=0/\∃ V,ts1[k]? = some V/\QO v.tag (v.rows.map List.length) V/\∀ r o c,cellAt v.rows r o=some c->∃ xs us u,xss[r]? = some xs/\qX v.tag V r o=some u/\xs[o]? = some us/\Qo G w F us c u)(p:∀ s,some s∈xss.flatten->((∀ i,s.key.root≠.par i)/\s.key.path=[])/\∀ π,¬ Uses F (s.under π)):
  RelF (G.leave xss) w ⟨sl,qd 0 bx'⟩ ts1/\zS G w (G.leave xss) w:=by
 obtain⟨n1,n2⟩:=zM eb;have src:∀ {r o s},qo0 xss r o=some s->some s∈xss.flatten:=λe=>by obtain⟨xs,P,Q⟩:=ZH e;exact List.mem_flatten.2 ⟨xs,aM P,aM Q⟩
 have C:∀ r a π,parW r=some a->(G.leave xss).γ ⟨r,π⟩=G.γ ⟨a,π⟩:=by
  intro r a π e;cases r with
  |par i=>simp only[parW,aa]at e;subst e;rfl
  |_=>simp[parW]at e
 have D:∀ r a,parW r=some a->G.ok a->(G.leave xss).ok r:=by
  intro r a e _;cases r with
  |par i=>trivial
  |_=>simp[parW]at e
 have cell:∀ {k:Key} {r o:Nat} {c:Cell} {us:Option Pl} {u:Value},k=⟨.slot 0,[]⟩->∀ xs,xss[r]? = some xs->xs[o]? = some us->Qo G w F us c u->c=.dead\/Sh (G.leave xss) w ⟨k,r,o⟩ c u:=by
  intro k r o c us u hk xs q1 q2 hh;subst hk;cases us with
  |none=>
   rcases hh with rfl|⟨t,I,L,R,M⟩
   . grind
   .
    by_cases hcd:c=.dead
    . grind
    right;refine Sh.ren2 (W:=parW) D C rfl (c1:=c) ?_ (λY=>absurd t Y) (M ⟨⟨.res,[]⟩,0,0⟩);cases c with
    |ptr q=>obtain⟨i,hi⟩:=L q rfl;exact⟨by rw[hi];rfl,rfl,rfl,rfl⟩
    |ref q=>grind
    |clo f fs cs=>grind
    |dead=>grind
    |own zz rows=>exact⟨rfl,rfl⟩
    |cptr a b=>exact⟨rfl,rfl⟩
    |nil=>trivial
    |_=>exact rfl
  |some s=>
   right;obtain⟨t,I,L,R,M⟩:=hh;have E:qo0 xss r o=some s:=by simp[qo0,q1,q2]
   have key:(G.leave xss).γ (⟨⟨.slot 0,[]⟩,r,o⟩:Pl).toKey=G.γ s.toKey:=by simp only[Gh.leave,Pl.toKey,List.nil_append,E];rfl
   cases c with
   |own zz rows=>unfold Sh;rw[key];exact L
   |mp es=>obtain⟨x,N,clock,e1,e2⟩:=L;exact⟨x,N,clock,by grind,e2⟩
   |_=>exact absurd (by constructor<;>intros<;>simp) I
 refine⟨⟨⟨λk k' x x' e e' z=>?_,λk x e=>?_,h.inv.imlt,h.inv.glob⟩,Z,λk v e=>?_,λr l e=>?_,λd hd=>hd.elim,λk rows e hi=>?_⟩,
  ⟨Nat.le_refl _,λ_ h=>h,λ_ _=>rfl,λ_ _ _=>⟨rfl,λh=>h⟩,λk x e=>?_,λ_=>rfl,.refl w⟩⟩
 .
  rcases ZX e with⟨i,S,A⟩|⟨r,o,π,s,rfl,A,O⟩
  . rcases ZX e' with⟨H,J,g⟩|⟨r',T,π',U,rfl,g,K⟩
    . exact h.inv.inj _ _ _ _ A g z
    . have:=h.inv.inj _ _ _ _ A K z;have hr:=((p U (src g)).1).1 i;rw[this]at S;exact absurd S hr
  . rcases ZX e' with⟨H,J,g⟩|⟨r',T,π',U,rfl,g,K⟩
    . have:=h.inv.inj _ _ _ _ O g z;have hr:=((p s (src A)).1).1 H;rw[<- this]at J;exact absurd J hr
    . have:=h.inv.inj _ _ _ _ O K z;have P:=((p s (src A)).1).2;have Q:=((p U (src g)).1).2;obtain⟨⟨k1,π1⟩,a,b⟩:=s;obtain⟨⟨k2,π2⟩,a',b'⟩:=U;simp only at P Q;subst P;subst Q;simp only[Pl.under,List.nil_append,Key.mk.injEq,List.cons.injEq,ai]at this;obtain⟨rfl,⟨rfl,rfl⟩,rfl⟩:=this;obtain⟨rfl,rfl⟩:=qaP Y A g;rfl
 .
  rcases ZX e with⟨i,S,A⟩|⟨r,o,π,s,rfl,A,O⟩
  . exact h.inv.lt _ _ A
  . exact h.inv.lt _ _ O
 . obtain⟨rfl,V,g1,g2,g3⟩:=hs k v e;refine⟨V,g1,g2,λr o c hc=>?_⟩
   grind
 . obtain⟨i,t,I⟩:=za _ _ _ _ e;rw[t];exact⟨rfl,trivial⟩
 .
  obtain⟨root,B⟩:=k;cases root with
  |slot j=>
   have hπ:B≠[]:=by
    rcases hi with hi|hi
    . exact hi
    . simp[Root.boxed]at hi
   cases B with
   |nil=>grind
   |cons y π=>
    obtain⟨r,o⟩:=y;simp only[Fr.rowsAt,Fr.rows]at e;cases X:sl[j]? with
    |none=>grind
    |some v=>
     simp only[X,av,ae,getR]at e;obtain⟨rfl,V,g1,g2,g3⟩:=hs j v X;cases hc:cellAt v.rows r o with
     |none=>grind
     |some c=>
      obtain⟨xs,us,u,q1,q2,q3,q4⟩:=g3 r o c hc;rw[hc]at e;cases us with
      |none=>
       exfalso;rcases q4 with rfl|⟨t,_⟩
       . grind
       . cases c with
         |own zz rs=>exact t.1 zz rs rfl
         |_=>grind
      |some s=>
       have E:qo0 xss r o=some s:=by simp[qo0,q1,q3]
       have hc':subR c π=some rows:=by cases c<;>first|exact e|simp at e
       have tr:=q4.2.2.2.1 π rows hc';have hp:=λr o c (e:cellAt _ r o=some c)=>tr.pure (by simp[Pl.under]) e;refine qU.ren2 (W:=parW) D C rfl (.pure hp) (by simp[Pl.under]) ?_ (λr' T=>?_) tr
       . simp only[Gh.leave,E]
       . simp only[Gh.leave,Pl.toKey,List.cons_append,E,Pl.under,List.append_assoc]
  |par i=>
   unfold Fr.rowsAt at e;have m:∀ k,Root.par i≠.slot k:=by simp
   simp only at e;rw[Fr.rows_ns _ m]at e;cases z:(qd 0 bx').lookup (.par i)with
   |none=>grind
   |some l'=>
    simp only[z,av,ae]at e;obtain⟨H,t,I⟩:=za _ _ _ _ z;have:H=i:=by grind
    subst this;obtain⟨j,L,R⟩:=n2 H l' I;have X:j=H:=by grind
    subst X;simp only[Option.bind_eq_some_iff]at R;obtain⟨l,M,h6⟩:=R;have rr:=qbh qhL h6;cases B with
    |nil=>simp only[getR,aa]at e;subst e;refine qU.ren2 (W:=parW) (k1:=⟨.par j,[]⟩) D C rfl rr (by simp) rfl (λr' T=>rfl) (h.cont _ _ ?_ (.inr rfl));simp only[Fr.rowsAt,F.rows_ns m,M,av,ae,getR]
    |cons y π=>
     have hF:F.rowsAt ⟨.par j,y::π⟩=some rows:=by simp only[Fr.rowsAt,F.rows_ns m,M,av,ae];exact rr.getR e
     have tr:=h.cont _ _ hF (.inl (by simp));exact qU.ren2 (W:=parW) D C rfl (.pure λr o c e=>tr.pure (by simp) e) (by simp) rfl (λr' T=>rfl) tr
  |loc d=>
   exfalso;unfold Fr.rowsAt at e;have m:∀ k,Root.loc d≠.slot k:=by simp
   simp only at e;rw[Fr.rows_ns _ m]at e;cases z:(qd 0 bx').lookup (.loc d)with
   |none=>grind
   |some l'=>obtain⟨H,t,I⟩:=za _ _ _ _ z;cases t
  |res=>
   exfalso;unfold Fr.rowsAt at e;have m:∀ k,Root.res≠.slot k:=by simp
   simp only at e;rw[Fr.rows_ns _ m]at e;cases z:(qd 0 bx').lookup .res with
   |none=>grind
   |some l'=>obtain⟨H,t,I⟩:=za _ _ _ _ z;cases t
 .
  rcases ZX e with⟨i,S,A⟩|⟨r,o,π,s,rfl,A,O⟩
  . grind
  grind
theorem qei {P c tmps w d}(h:(c.results.toList.mapM (λx=>(match x with
    |.tmp t=>pure (tmps.getD t Go.undef)
    |.cell b t=>do loadVar t (<- asAddr (tmps.getD b Go.undef)):Sem Value))).run P w=.ok d w):(results c tmps).run P w=.ok (qbe d.toArray) w:=by
 unfold results;rw[Array.mapM_eq_mapM_toList];simp only[aK,Sem.run_map];exact congrArg (λr:Result (List Value)=>(r.andThen λa w'=>Result.ok a.toArray w').andThen λa w'=>Sem.run P (pure (if h:a.size=1 then a[0]else Value.tuple a)) w') h
theorem qbc (a ls):∀ (l:List AV) (i k:Nat),(YS a ls i l)[k]? = (l[k]?).map λv=>if a.contains (i+k)then .deadv else v.mapC (yV a ls)
 |[],i,k=>by simp[YS]
 |v::l,i,0=>by simp[YS]
 |v::l,i,k+1=>by simp only[YS,List.getElem?_cons_succ];rw[qbc a ls l (i+1) k,show i+1+k=i+(k+1)by omega]
theorem yO (a ls):∀ (b:List (Root×List Cell)) (r:Root),(qcZ a ls b).lookup r=if gone a ls r then none else(b.lookup r).map (·.map (yV a ls))
 |[],r=>by simp[qcZ]
 |(c,l)::b,r=>by
  simp only[qcZ];by_cases d:gone a ls c=true
  . rw[aD d,yO a ls b r]
    grind
  .
   rw[aF d,List.lookup_cons,List.lookup_cons];by_cases h:r=c
   . grind
   . have:(r==c)=false:=by grind
     rw[this,yO a ls b r]
theorem qax {G w F ts}(h:RelF G w F ts)(g ls):∃ G',RelF G' w (F.norm g ls) ts/\zS G w G' w:=by
 have B:Weak F (F.norm g ls):=by
  refine⟨?_,λk v' e=>?_,λr H e=>?_⟩
  .
   apply Nat.le_antisymm
   .
    have:∀ (l:List AV) i,(YS g ls i l).length=l.length:=by
     intro l;induction l with
     |nil=>intro i;rfl
     |cons v l y=>intro i;simp[YS,y]
    exact Nat.le_of_eq (this _ _)
   .
    have:∀ (l:List AV) i,(YS g ls i l).length=l.length:=by
     intro l;induction l with
     |nil=>intro i;rfl
     |cons v l y=>intro i;simp[YS,y]
    exact Nat.le_of_eq (this _ _).symm
  . have j:(YS g ls 0 F.slots)[k]? = some v':=e;rw[qbc]at j;simp only[aG]at j;obtain⟨v,o,t⟩:=j;split at t
    . grind
    . subst t;exact .inr ⟨v,o,rfl,zy.map (ZZ g ls) _⟩
  . have j:(qcZ g ls F.boxes).lookup r=some H:=e;rw[yO]at j;split at j
    . cases j
    . simp only[aG]at j;obtain⟨l,o,rfl⟩:=j;exact⟨l,o,by have:=zy.map (ZZ g ls) [l];grind⟩
 have lk:∀ d,((F.norm g ls).boxes.lookup (.loc d)).isSome=true↔gone g ls (.loc d)=false/\(F.boxes.lookup (.loc d)).isSome=true:=by intro d;show((qcZ g ls F.boxes).lookup (.loc d)).isSome=true↔_;rw[yO];split<;>simp_all
 have I:∀ x c,(F.norm g ls).get x=some c->c=.dead\/(F.get x=some c/\(x.key.path=[]->yV g ls c=c)):=by
  intro x c e;rcases B.get e with h'|h'
  . grind
  .
   by_cases u:x.key.path=[]
   .
    by_cases J:yV g ls c=c
    . grind
    .
     left;obtain⟨⟨r,π⟩,a,b⟩:=x;simp only at u;subst u;have hd:yV g ls c=.dead:=(ZZ g ls c).resolve_left J;by_cases C:∃ k,r=.slot k
     .
      obtain⟨k,rfl⟩:=C;simp only[Fr.get,Fr.rowsAt,Fr.rows,Fr.norm,qbc,Nat.zero_add,Option.map_map,Option.bind_eq_bind]at e h';cases z:F.slots[k]? with
      |none=>grind
      |some v=>
       simp only[z,av,ae,getR,Function.comp_def]at e h';split at e
       . obtain⟨_,_,rfl⟩:=one_cell e;rfl
       . obtain⟨K,o,t⟩:=zH (f:=yV g ls) e
         grind
     .
      have A:∀ k,r≠.slot k:=λk e=>C ⟨k,e⟩;simp only[Fr.get,Fr.rowsAt,Fr.rows_ns _ A,Fr.norm,yO]at e h';cases z:F.boxes.lookup r with
      |none=>grind
      |some l=>
       simp only[z,av,ae,getR]at e h';split at e
       . grind
       . simp only[av,ae,getR]at e;obtain⟨K,o,t⟩:=zH (f:=yV g ls) (rows:=[l]) e
         grind
   grind
 refine⟨_,h.weak B (λd=>((F.norm g ls).boxes.lookup (.loc d)).isSome=true) (λd hd=>⟨?_,hd⟩) (λd hd=>hd) (λx c e=>?_),Gain.lv _⟩
 . obtain⟨l,L⟩:=Option.isSome_iff_exists.1 ((lk d).1 hd).2;exact(h.boxes (.loc d) l L).2
 .
  rcases I x c e with rfl|⟨j,u⟩
  . grind
  .
   have p:=h.okPtr j;have s:∀ r,G.ok r->gone g ls r=false->Gh.ok { G with lv:=λd=>((F.norm g ls).boxes.lookup (.loc d)).isSome=true } r:=by
    intro r M N;cases r with
    |loc d=>exact(lk d).2 ⟨N,h.live d M⟩
    |_=>trivial
   by_cases D:x.key.path=[]
   .
    have n:=u D;refine⟨λq m=>?_,λf fs cs q m E=>?_⟩
    .
     refine s _ (p.1 q m) ?_;rcases m with rfl|rfl
     . simp only[yV]at n
       grind
     . simp only[yV]at n
       grind
    . subst m;refine s _ (p.2 f fs cs q rfl E) ?_;simp only[yV]at n
      grind
   . have:=h.pure j D;refine⟨λq m=>?_,λf fs cs q m E=>?_⟩
     . rcases m with rfl|rfl<;>simp[qw]at this
     . subst m;simp[qw]at this
end
section
variable [Glob]
def ZA (P:Program)(rec:Oracle):Prop:=∀ f args b r,rec f args b=some r->∃ a,P.funcs[f]? = some a/\a.body.isSome=true/\(a.name == "runtime.NumGoroutine")=false
theorem qft {cx rec F dst f vs r}(e:vZ cx rec F dst f vs=some r):∃ args a q,rec f args a=some q:=by
 unfold vZ at e
 grind
theorem Yh {P}{f:Nat}{a}(h:P.funcs[f]? = some a)(d:a.body.isSome=true)(c:(a.name == "runtime.NumGoroutine")=false)(args)(w):
  (callFunc f args).run P w=.ok (.enter f args) w:=by
 have b:a.body.isNone=false:=by cases e:a.body<;>simp_all
 simp only[callFunc,program,bind,Sem.bind,Sem.run,h,c,b,aS,if_false];rfl
theorem xM {G}:∀ {l:List Cell} {vs:List Value},qY G l vs->l.length=vs.length
 |[],[],_=>rfl
 |_::_,_::_,⟨_,h⟩=>by simp[xM h]
 |[],_::_,h=>h.elim
 |_::_,[],h=>h.elim
theorem Yd {G w}:∀ {l:List Cell} {vs:List Value},qY G l vs->∀ (j:Nat) c V,l[j]? = some c->vs[j]? = some V->RelV G w (.c c) V
 |[],[],_,j,c,V,h,_=>by grind
 |a::l,b::vs,⟨d,f⟩,j,c,V,h,e=>by
  cases j with
  |zero=>
   simp only[aI,aa]at h e;subst h;subst e;refine RelV.c (.inr ?_);cases a with
   |val u=>exact⟨⟨by grind,by grind⟩,λp=>d⟩
   |ptr q=>obtain⟨g,n,x,i,k,m⟩:=d;exact⟨⟨by grind,by grind⟩,λp=>⟨g,x,i,λo=>(by grind),by rw[Hd.adr_of k];exact m⟩⟩
   |_=>exact d.elim
  |succ j=>exact Yd f j c V (by grind) (by grind)
 |[],_::_,h,_,_,_,_,_=>h.elim
 |_::_,[],h,_,_,_,_,_=>h.elim
theorem XI {cx:Cx}{rec:Oracle}(s:qN cx.P rec)(B:ZA cx.P rec){G:Gh}{w:World}{F F':Fr}{a:Act}{o:Oper}(h:RelF G w F a.tmps){r:Option Value}(e:aop cx rec F o=some (F',r)){next:Act->World->Prop}{Q:Exit->Act->World->Prop}(b:r=none->∀ V G' w',RelF G' w' F' (a.put o.dst V).tmps->Gain G w G' w'->next (a.put o.dst V) w')(i:∀ v,r=some v->∀ G' w',RelF G' w' F' a.tmps->Gain G w G' w'->Q (.panic [{ v,recovered:=false }]) a w'):o.wp cx.P a w next Q:=by
 unfold aop at e;unfold Oper.wp;cases C:mvop cx F o with
 |some R=>
  simp only[C,aa,ai]at e;obtain⟨rfl,rfl⟩:=e;obtain⟨n,V,G',w',d,D,l,p⟩:=qgo h C;rw[d];rcases D with rfl|⟨rfl,rfl⟩
  . exact b rfl V G' w' l p
  . exact b rfl Go.undef G' w' l p
 |none=>
 simp only[C]at e;unfold aop0 at e;cases E:quiet cx F o with
 |some v=>simp only[E,aa,ai]at e;obtain⟨rfl,rfl⟩:=e;obtain⟨V,d,l⟩:=qaS h E;rw[d];exact b rfl V G w (putO h l) (Gain.refl G w)
 |none=>
  simp only[E]at e;cases H:loud cx F o with
  |some R=>
   simp only[H,aa,ai]at e;obtain⟨rfl,rfl⟩:=e;obtain⟨n,V,G',w',d,D,l,p⟩:=qgi h H;rw[d];rcases D with rfl|⟨rfl,rfl⟩
   . exact b rfl V G' w' l p
   . exact b rfl Go.undef G' w' l p
  |none=>
   simp only[H]at e;obtain⟨dst,op,ty,pos,after,guard⟩:=o;simp only at *;split at e
   .
    rename_i x;split at e
    . rename_i t v q;simp only[aa,ai]at e;obtain⟨rfl,rfl⟩:=e;have I:a.eval x=.iface t v:=qvz (qx h x) q;have:(execOp a.eval ⟨dst,.panic x,ty,pos,after,guard⟩).run cx.P w=.halt (.panic (.iface t v)) w:=by simp only[execOp,Instr.panic,I];rfl
      rw[this];exact i _ rfl G w h (Gain.refl G w)
    . cases e
   .
    rename_i g args argTypes;split at e
    .
     rename_i f first u q
     obtain⟨J,S,q0,K⟩:=qft e;obtain⟨fn,T,U,X⟩:=B _ _ _ _ K;have hd:(Cell.clo f first u)≠.dead:=by simp
     obtain⟨_,Y⟩:=qp h q hd;obtain⟨vs,us,Z,L,O⟩:=Y ⟨⟨.res,[]⟩,0,0⟩;have run:(execOp a.eval ⟨dst,.call { callee:=.value g,args,argTypes },ty,pos,after,guard⟩).run cx.P w=.ok (.enter f (vs++args.map a.eval++us)) w:=by have:=Yh (P:=cx.P) T U X (vs++args.map a.eval++us) w;simp only[execOp,resolve,Z,Deferred.ofValue,invoke,pure_bind];exact this
     rw[run];have m:=qeP (Vs:=(vs++args.map a.eval++us).toList) s h (by simp[xM L,xM O]) (λj v V k d=>by
      have M:=xM L;simp only[Array.toList_append,Array.toList_map]at d;rw[List.append_assoc]at k d;by_cases N:j<first.length
      . rw[aX (by simpa using N),aH]at k;rw[aX (by rw[<- M];exact N)]at d;simp only[aG]at k;obtain⟨c,q,rfl⟩:=k;exact Yd L j c V q d
      . rw[aY (by simpa using N)]at k;rw[aY (by rw[<- M];omega)]at d;rw[<- M]at d;simp only[List.length_map]at k;by_cases y:j-first.length<args.toList.length
        . rw[aX (by simpa using y),aH]at k d;simp only[aG]at k d;obtain⟨x,I,rfl⟩:=k;obtain⟨x',z,rfl⟩:=d;rw[I]at z;cases z;exact qx h x
        . rw[aY (by simpa using y)]at k d;simp only[List.length_map]at k d;rw[aH]at k;simp only[aG]at k;obtain⟨c,q,rfl⟩:=k;exact Yd O _ c V q d) e
     rw[Oper.upon_enter];rw[Array.toArray_toList]at m;refine Calls.mono m λen w' A=>?_;obtain⟨G',p,A⟩:=A;cases r with
     |none=>obtain⟨V,rfl,l⟩:=A;exact b rfl V G' w' l p
     |some v=>obtain⟨rfl,l⟩:=A;exact i v rfl G' w' l p
    . cases e
   . cases e
theorem xh {ops G w F}{a:Act}(h:RelF G w F a.tmps){o b}(e:zi ops.toList F o=some b):
  Region.wanted o (yielded ops a.tmps)=b:=by
 unfold zi at e;unfold Region.wanted;split at e
 . grind
 .
  rename_i j l q;simp only[q];split at e
  .
   rename_i r s;split at e
   .
    rename_i d hd;have g:ops[j]? = some r:=by grind
    have t:∀ V,a.tmps[d]? = some V->yielded ops a.tmps j=(match V with|.bool b=>some b|_=>none):=by intro V i;simp only[yielded,g,ae,hd,i];cases V<;>rfl
    split at e
    . rename_i m k;obtain⟨V,i,c,n⟩:=h.slots d _ k;obtain⟨u,p,f⟩:=n 0 0 (.val (.bool m)) rfl;simp only[qX,aa]at p;subst p;rcases f with f|f
      . cases f
      . have:V=.bool m:=f.1;simp_all
    . rename_i k;obtain⟨V,i,c,n⟩:=h.slots d _ k;simp only[aa]at e;subst e;obtain⟨Vs,rfl,_⟩:=c
      grind
    grind
   grind
  grind
def Stands (D:Act->Prop)(G:Gh)(w:World)(F':Fr)(a:Act)(w':World):Prop:=D a/\∃ G',zS G w G' w'/\RelF G' w' F' a.tmps
def D0 (a:Act):Prop:=a.defers=[]
theorem put_defers (a:Act)(d:Option Nat)(V):(a.put d V).defers=a.defers:=by cases d<;>rfl
theorem QH (a)(d:Option Nat)(V)(h:D0 a):D0 (a.put d V):=(put_defers a d V).trans h
theorem Xt (G)(w):RelV G w .undef Go.undef:=⟨⟨#[],rfl,rfl,rfl,by grind⟩,by intro r o c h;simp[AV.undef,cellAt]at h⟩
theorem vN {cx rec}(c:∀ d,qN cx.P (rec d))(f:∀ d,ZA cx.P (rec d)){ops G0 w0 Q D more}:
  ∀ (rest:List Oper) (i:Nat) (G:Gh) (w:World) (F:Fr) (a:Act) (F':Fr) (r:Option Value),(∀ k,k<rest.length->rest[k]? = ops[i+k]?)->(∀ o∈rest,∀ a V,D a->D (a.put o.dst V))->RelF G w F a.tmps->zS G0 w0 G w->D a ->
   aops cx rec ops.toList rest F=some (F',r) ->
   (r=none->∀ l w',Stands D G0 w0 F' l w'->wpOps cx.P ops Q more l w')->(∀ v,r=some v->∀ l w',Stands D G0 w0 F' l w'->Q (.panic [{ v,recovered:=false }]) l w') ->
   wpOps cx.P ops Q (List.range' i rest.length++more) a w
 |[],i,G,w,F,a,F',r,_,_,h,m,hd,e,s,_=>by simp only[aops,aa,ai]at e;obtain⟨rfl,rfl⟩:=e;exact s rfl a w ⟨hd,G,m,h⟩
 |o::rest,i,G,w,F,a,F',r,z,A,h,m,hd,e,s,t=>by
  have n:=A o au;have p:∀ o∈rest,∀ a V,D a->D (a.put o.dst V):=λC E=>A C (aB _ E);have H:ops[i]? = some o:=by have:=z 0 (by simp);grind
  have q:∀ k,k<rest.length->rest[k]? = ops[i+1+k]?:=λk K=>by have:=z (k+1) (by grind);grind
  simp only[aops]at e;show wpOps cx.P ops Q (i::(List.range' (i+1) rest.length++more)) a w;simp only[wpOps,H];cases u:zi ops.toList F o with
  |none=>grind
  |some b=>
   have I:=xh h u;cases b with
   |true=>
    rw[aD I];left;simp only[u]at e;cases B:aop cx (rec o.dst) F o with
    |none=>grind
    |some y=>
     obtain⟨J,L⟩:=y;simp only[B]at e;refine XI (c _) (f _) h B (λx V G' w' g j=>?_) (λv x G' w' g j=>?_)
     . subst x;exact vN c f rest (i+1) G' w' J _ F' r q p g (m.trans j.w) (n _ _ hd) e s t
     . subst x;simp only[aa,ai]at e;obtain⟨rfl,rfl⟩:=e;exact t v rfl a w' ⟨hd,G',m.trans j.w,g⟩
   |false=>rw[aF (by grind)];simp only[u]at e;exact vN c f rest (i+1) G w _ _ F' r q p (putO h (Xt G w)) m (n _ _ hd) e s t
theorem qbV {cx rec}(b:∀ d,qN cx.P (rec d))(f:∀ d,ZA cx.P (rec d)){ops G0 w0 Q D}(rest i G w F a F' r)(g:∀ k,rest[k]? = ops[i+k]?)(j:∀ o∈rest,∀ a V,D a->D (a.put o.dst V))(h:RelF G w F a.tmps)(l:zS G0 w0 G w)(hd:D a)(e:aops cx rec ops.toList rest F=some (F',r))(m:r=none->∀ c w',Stands D G0 w0 F' c w'->Q .normal c w')(n:∀ v,r=some v->∀ c w',Stands D G0 w0 F' c w'->Q (.panic [{ v,recovered:=false }]) c w'):
  wpOps cx.P ops Q (List.range' i rest.length) a w:=by
 have:=vN b f (more:=[]) rest i G w F a F' r (λk _=>g k) j h l hd e m n
 grind
end
section
variable [Glob]
theorem qgR (F:Fr)(r):F.rows r=(F.at r).map (·.rows):=by cases r<;>simp[Fr.rows,Fr.at,AV.ag,Function.comp_def]
theorem QN {F G:Fr}{k}(h:G.at k.root=F.at k.root):G.rowsAt k=F.rowsAt k:=by unfold Fr.rowsAt;rw[qgR,qgR,h]
theorem XC {F G:Fr}{p}(h:G.at p.key.root=F.at p.key.root):G.get p=F.get p:=by unfold Fr.get;rw[QN h]
theorem qaZ {o t}(h:.tmp t∈o.op.operands):t∈readsOf o:=by unfold readsOf;simp only[List.mem_filterMap];exact⟨.tmp t,by grind,rfl⟩
theorem qcX {F G:Fr}{x}(h:∀ t,x=.tmp t->G.slots[t]? = F.slots[t]?):G.ev x=F.ev x:=by
 cases x with
 |tmp t=>simp only[Fr.ev,h t rfl]
 |_=>rfl
theorem qhJ {v:AV}{c}(h:v.cell=some c):v.rows=[[c]]:=by
 unfold AV.cell at h
 grind
theorem qim {F o x}(d:x∈o.op.operands){c}(h:(F.ev x).cell=some c){r}(a:r∈qJ c)(e:∀ f,x≠.func f):r∈qR F o:=by
 cases x with
 |tmp t=>
  unfold qR;simp only[List.mem_flatMap];refine⟨t,qaZ d,?_⟩;unfold AV.rootsBy;rw[qhJ h]
  grind
 |const v=>
  exfalso;have b:(yR v).cell=some c:=h;have:c=qm v:=by cases v<;>simp only[yR,AV.cell,AV.c,AV.ag,AV.deadv,aa]at b<;>first|exact b.symm|grind|cases b
  subst this;unfold qm at a;split at a
  . simp[qJ]at a
  . split at a<;>simp[qJ]at a
 |global g=>exfalso;simp only[Fr.ev,AV.cell,AV.c,aa]at h;subst h;simp[qJ]at a
 |func f=>grind
theorem yC {cx F G o}(a:Hangs o)(h:∀ x∈o.op.operands,G.ev x=F.ev x):yg cx G o=yg cx F o:=by
 unfold yg;have b:(o.op.operands.toList.all λx=>(G.ev x).con.isSome)=(o.op.operands.toList.all λx=>(F.ev x).con.isSome):=by grind
 rw[b,a (λx=>((G.ev x).con).getD Go.undef) (λx=>((F.ev x).con).getD Go.undef) (λx c=>by grind)]
theorem qeA {F G:Fr}{n c}(h:∀ r∈qJ c,G.at r=F.at r):G.loadL n c=F.loadL n c:=by
 cases c with
 |ptr p=>simp only[Fr.loadL];rw[QN (h _ (by simp[qJ]))]
 |_=>rfl
theorem qbX {F G:Fr}{c}(h:∀ r∈qJ c,G.at r=F.at r):G.look c=F.look c:=by
 cases c with
 |ref p=>simp only[Fr.look];rw[XC (h _ (by simp[qJ]))]
 |_=>rfl
theorem qbw {cx F G o}(z:∀ t∈readsOf o,G.slots[t]? = F.slots[t]?)(A:Xl o.op=true->∀ r∈qR F o,G.at r=F.at r):quiet cx G o=quiet cx F o:=by
 have ev:∀ x∈o.op.operands,G.ev x=F.ev x:=λx j=>qcX λt B=>z t (qaZ (B▸j));have k:Xl o.op=true->∀ x∈o.op.operands,∀ c,(F.ev x).cell=some c->∀ r∈qJ c,G.at r=F.at r:=by
  intro C x j c d r m;by_cases q:∃ f,x=.func f
  . obtain⟨f,rfl⟩:=q;exfalso;simp only[Fr.ev,AV.cell,AV.c,aa]at d;subst d;simp[qJ]at m
  . exact A C r (qim j d m λf e=>q ⟨f,e⟩)
 obtain⟨dst,op,ty,pos,after,guard⟩:=o;simp only at *;unfold quiet;cases op with
 |move x=>simp only;rw[ev x (by simp[Op.operands])]
 |pick c a b=>simp only;rw[ev c (by simp[Op.operands]),ev a (by simp[Op.operands]),ev b (by simp[Op.operands])]
 |binOp op t x y u=>have d:=yC (cx:=cx) (o:=⟨dst,.binOp op t x y u,ty,pos,after,guard⟩) (F:=F) (G:=G) qbq ev;simp only;rw[ev x (by simp[Op.operands]),ev y (by simp[Op.operands]),d]
 |unOp op t x=>exact yC qb8 ev
 |convert s t x=>
  have d:=yC (cx:=cx) (o:=⟨dst,.convert s t x,ty,pos,after,guard⟩) (F:=F) (G:=G) XO ev;simp only;unfold XU;rw[ev x (by simp[Op.operands]),d];have:=k rfl x (by simp[Op.operands]);cases l:(F.ev x).cell with
  |none=>grind
  |some c=>
   have D:=qbX (this c l)
   grind
 |makeInterface t x=>exact yC xH ev
 |typeAssert x E t ok=>simp only[qbz];rw[ev x (by simp[Op.operands])]
 |load t a=>
  simp only;have j:=ev a (by simp[Op.operands]);rw[j];have:=k rfl a (by simp[Op.operands]);cases d:(F.ev a).cell with
  |none=>rfl
  |some c=>
   cases qQ cx.P t with
   |none=>rfl
   |some n=>
    cases zW cx.P t with
    |none=>rfl
    |some g=>simp only[qeA (this c d)]
 |nilCheck x=>simp only;rw[ev x (by simp[Op.operands])]
 |fieldAddr s x f=>simp only;rw[ev x (by simp[Op.operands])]
 |indexAddr t x i=>
  simp only;rw[ev x (by simp[Op.operands]),ev i (by simp[Op.operands])];have:=k rfl x (by simp[Op.operands]);generalize asInt (F.ev i)=N;generalize cx.P.underlying t=U;cases d:(F.ev x).cell with
  |none=>grind
  |some c=>
   cases c with
   |ref p=>
    have H:=XC (this _ d p.key.root (by simp[qJ]))
    grind
   |_=>grind
 |index t x i=>exact yC qaW ev
 |field s x f=>simp only;rw[ev x (by simp[Op.operands])]
 |extract x i=>simp only;rw[ev x (by simp[Op.operands])]
 |makeFunc f first h=>
  cases f with
  |func f=>
   simp only;have I:(first.toList.map λx=>(G.ev x).cell)=first.toList.map λx=>(F.ev x).cell:=by apply List.map_congr_left;intro x j;rw[ev x (by simp[Op.operands];grind)]
   have J:(h.toList.map λx=>(G.ev x).cell)=h.toList.map λx=>(F.ev x).cell:=by apply List.map_congr_left;intro x j;rw[ev x (by simp[Op.operands];grind)]
   grind
  |_=>rfl
 |call c=>
  obtain⟨callee,args,argTypes⟩:=c;cases callee with
  |builtin b=>
   have d:=yC (cx:=cx) (o:=⟨dst,.call { callee:=.builtin b,args,argTypes },ty,pos,after,guard⟩) (F:=F) (G:=G) qoY ev;cases b with
   |len=>
    simp only;rw[d];cases K:args[0]? with
    |none=>rfl
    |some x=>
     cases L:argTypes[0]? with
     |none=>rfl
     |some t=>
      simp only;have v:x∈(Op.call { callee:=.builtin .len,args,argTypes }).operands:=by simp[Op.operands,Call.operands];grind
      rw[ev x v];have:=k rfl x v;generalize cx.P.underlying t=U;cases d:(F.ev x).cell with
      |none=>grind
      |some c=>
       have D:=qbX (this c d)
       grind
   |max=>exact d
   |min=>exact d
   |_=>rfl
  |_=>rfl
 |_=>rfl
theorem qjJ {F G:Fr}(a:G.slots.length=F.slots.length)(h:∀ k,G.at (.slot k)=F.at (.slot k)):G.slots=F.slots:=by apply List.ext_getElem?;exact h
theorem qmG {F:Fr}{d v r}(h:r≠.slot d):(F.put (some d) v).at r=F.at r:=by
 cases r with
 |slot k=>have:d≠k:=λe=>h (by rw[e]);simp only[Fr.at,Fr.put,List.getElem?_set,aF this]
 |_=>rfl
theorem qeG {F G:Fr}{d v}(a:G.slots.length=F.slots.length):(G.put (some d) v).at (.slot d)=(F.put (some d) v).at (.slot d):=by simp only[Fr.at,Fr.put,List.getElem?_set,if_true,a]
theorem qbN (W)(a):∀ (l:List AV) (k j:Nat),(mslots W a k l)[j]? = (l[j]?).map λv=>if W.contains (.slot (k+j))then((a[k+j]?).getD .deadv).mapC (cutC W)else v
 |[],k,j=>by simp[mslots]
 |v::l,k,0=>by simp[mslots]
 |v::l,k,j+1=>by simp only[mslots,List.getElem?_cons_succ];rw[qbN W a l (k+1) j,show k+1+j=k+(j+1)by omega]
theorem vO (W)(ts):∀ (l:List AV) (k j:Nat),(lslots W ts k l)[j]? = (l[j]?).map λv=>
  if W.contains (.slot (k+j))then v.mapC (cutC W)else if ts.contains (k+j)then v.mapC (λc=>if qy c then .dead else cutC W c)else .deadv
 |[],k,j=>by simp[lslots]
 |v::l,k,0=>by simp[lslots]
 |v::l,k,j+1=>by simp only[lslots,List.getElem?_cons_succ];rw[vO W ts l (k+1) j,show k+1+j=k+(j+1)by omega]
theorem zT (F)(W):∀ (l:List Root) (r:Root),(lboxes F W l).lookup r=if r∈l/\r.boxed=true then(F.boxes.lookup r).map (·.map (cutC W))else none
 |[],r=>by simp[lboxes]
 |x::l,r=>by
  simp only[lboxes];have a:=zT F W l r
  grind
theorem qc7 {α β:Type}[BEq α](l m:List (α×β))(r):(l++m).lookup r=(l.lookup r).or (m.lookup r):=by grind
theorem YK (M:List (Root×List Cell)):∀ (l:List (Root×List Cell)) (r:Root),(l.filter (λx=>(M.lookup x.1).isNone)).lookup r=if (M.lookup r).isNone=true then l.lookup r else none
 |[],r=>by simp
 |(a,b)::l,r=>by
  have c:=YK M l r
  grind
theorem XX (c)(W):∀ (l:List (Root×List Cell)) (r:Root),(mboxes c W l).lookup r =
  if W.contains r=true then(if (l.lookup r).isSome=true then(if r.boxed then(c.boxes.lookup r).map (·.map (cutC W))else none)else none)else l.lookup r
 |[],r=>by simp[mboxes]
 |(a,b)::l,r=>by
  have d:=XX c W l r;simp only[mboxes]
  grind
theorem Xd (F a:Fr)(W)(r):(F.merge a W).boxes.lookup r=if r∈W then(if r.boxed then(a.boxes.lookup r).map (·.map (cutC W))else none)else F.boxes.lookup r:=by
 simp only[Fr.merge];rw[qc7,YK,XX,zT];by_cases h:r∈W
 .
  have b:W.contains r=true:=by grind
  cases c:F.boxes.lookup r with
  |none=>grind
  |some l=>simp[h]
 grind
def qiy (n:Nat)(a:Fr)(W:List Root):Root->Option AV
 |.slot k=>if k<n then some (((a.slots[k]?).getD .deadv).mapC (cutC W))else none
 |r=>if r.boxed then(a.boxes.lookup r).map (λb=>AV.ag (b.map (cutC W)))else none
theorem qaz (F a:Fr)(W)(r):(F.merge a W).at r=if r∈W then qiy F.slots.length a W r else F.at r:=by
 have c:∀ r:Root,(∀ k,r≠.slot k)->((F.merge a W).boxes.lookup r).map AV.ag=if r∈W then(if r.boxed then(a.boxes.lookup r).map (λb=>AV.ag (b.map (cutC W)))else none)else(F.boxes.lookup r).map AV.ag:=by
  intro r _;rw[Xd];by_cases h:r∈W
  . rw[aD h,aD h];by_cases d:r.boxed=true
    . rw[aD d,aD d];cases a.boxes.lookup r<;>rfl
    grind
  grind
 cases r with
 |slot k=>
  simp only[Fr.at,Fr.merge];rw[qbN];simp only[Nat.zero_add];by_cases h:Root.slot k∈W
  . have e:W.contains (.slot k)=true:=by grind
    rw[aD h];simp only[e,if_true,qiy]
    grind
  grind
 |par i=>exact c (.par i) (by simp)
 |loc i=>exact c (.loc i) (by simp)
 |res=>exact c .res (by simp)
theorem qd2 (F a:Fr)(W):(F.merge a W).slots.length=F.slots.length:=by
 have:∀ (l:List AV) k,(mslots W a.slots k l).length=l.length:=by
  intro l
  induction l with
  |nil=>intro k;rfl
  |cons v l b=>intro k;simp[mslots,b]
 exact this _ _
theorem qgL (F:Fr)(d)(v):(F.put d v).slots.length=F.slots.length:=by cases d<;>simp[Fr.put]
theorem yh (l m):∀ r,r∈l\/r∈m->r∈zm l m:=by
 induction m generalizing l with
 |nil=>intro r h;simpa [zm]using h
 |cons x m a=>
  intro r h;show r∈zm (if l.contains x then l else l++[x]) m
  grind
theorem Yx (F):∀ (n:Nat) (l:List Root) r,r∈l->r∈YL F n l
 |0,l,r,h=>h
 |n+1,l,r,h=>Yx F n _ r (yh _ _ r (.inl h))
theorem qbB {F G r}(h:G.at r=F.at r):xX G r=xX F r:=by
 unfold xX;cases r with
 |par i=>simp only[Fr.at]at h;cases a:F.boxes.lookup (.par i)<;>cases b:G.boxes.lookup (.par i)<;>simp_all[AV.ag]
 |loc i=>simp only[Fr.at]at h;cases a:F.boxes.lookup (.loc i)<;>cases b:G.boxes.lookup (.loc i)<;>simp_all[AV.ag]
 |_=>rfl
theorem qar {F G}:∀ (n:Nat) (l:List Root),(∀ r∈YL F n l,G.at r=F.at r)->YL G n l=YL F n l
 |0,_,_=>rfl
 |n+1,l,h=>by
  have e:l.flatMap (xX G)=l.flatMap (xX F):=by
   have:∀ m:List Root,(∀ r∈m,r∈l)->m.flatMap (xX G)=m.flatMap (xX F):=by
    intro m
    induction m with
    |nil=>grind
    |cons x m b=>intro a;simp only[List.flatMap_cons];rw[b (λr c=>a r (aB _ c)),qbB (h x (Yx F (n+1) l x (a x au)))]
   grind
  simp only[YL,e];exact qar n _ (by simpa [YL]using h)
theorem zU {F G W r}(h:G.at r=F.at r):qu7 G W r=qu7 F W r:=by unfold qu7;rw[h]
theorem qia {l m}:inter l m=true↔∃ r,r∈l/\r∈m:=by simp[inter]
theorem Xj {l m}:inter l m=false↔∀ r,r∈l->r∉m:=by
 rw[<- Bool.not_eq_true,qia]
 grind
theorem qak {F W a}(c:∀ r∈W,r∈a){r}(h:qu7 F a r=false):qu7 F W r=false:=by
 unfold qu7 at *;split
 . rename_i v b;rw[b]at h;simp only[Xj]at *
   grind
 . rfl
theorem qa8 {F W}:xG F W=true↔∀ r,r∉W->(∀ k,r=.slot k->True)->qu7 F W r=false\/(∃ k,r=.slot k/\F.at r=none)\/F.at r=none:=by
 unfold xG;simp only[List.all_eq_true,Bool.or_eq_true,List.contains_eq_mem,aW,Bool.not_eq_true'];constructor
 .
  intro h r b _;by_cases a:r∈qcg F
  . grind
  .
   right;right;unfold qcg at a;simp only[List.mem_append,List.mem_map,List.mem_range,not_or,not_exists,not_and]at a;cases r with
   |slot k=>
    simp only[Fr.at];rw[List.getElem?_eq_none]
    grind
   |_=>
    simp only[Fr.at,Option.map_eq_none_iff]
    grind
 .
  intro h r a;by_cases b:r∈W
  . grind
  .
   right;rcases h r b (λ_ _=>trivial)with h|⟨k,rfl,h⟩|h
   . exact h
   . unfold qu7;rw[h]
   . unfold qu7;rw[h]
theorem yB {F W}(h:xG F W=true){r}(a:r∉W):qu7 F W r=false:=by
 rcases qa8.1 h r a (λ_ _=>trivial)with h|⟨k,rfl,h⟩|h
 . exact h
 . unfold qu7;rw[h]
 . unfold qu7;rw[h]
theorem XT {F G f l}(h:∀ r∈l,G.at r=F.at r):yt G f l=yt F f l:=by
 unfold yt
 induction l with
 |nil=>rfl
 |cons x l a=>grind
theorem Yc {F F' G G' W a b}(h:∀ r∈W++a,G.at r=F.at r)(c:∀ r∈W,G'.at r=F'.at r):zJ G G' W a b=zJ F F' W a b:=by unfold zJ;rw[XT h,XT c]
theorem vW {ops F G o}(h:∀ r∈xW ops o,G.at r=F.at r):zi ops G o=zi ops F o:=by
 unfold zi;unfold xW at h;cases b:o.guard with
 |none=>rfl
 |some y=>
  obtain⟨j,a⟩:=y;simp only[b]at h |-;cases c:ops[j]? with
  |none=>rfl
  |some e=>
   simp only[c,ae]at h |-;cases hd:e.dst with
   |none=>rfl
   |some d=>
    simp only[hd]at h |-;have:G.slots[d]? = F.slots[d]?:=h (.slot d) (by simp)
    grind
theorem qf0 {F G:Fr}{W ts}(k:G.slots.length=F.slots.length)(c:∀ r∈W,G.at r=F.at r)(e:∀ t∈ts,G.slots[t]? = F.slots[t]?):G.part W ts=F.part W ts:=by
 unfold Fr.part;congr 1
 .
  apply List.ext_getElem?;intro j;rw[vO,vO];simp only[Nat.zero_add];by_cases m:W.contains (.slot j)=true
  . have:G.slots[j]? = F.slots[j]?:=c (.slot j) (by grind)
    grind
  grind
 .
  have:∀ l:List Root,(∀ r∈l,r∈W)->lboxes G W l=lboxes F W l:=by
   intro l
   induction l with
   |nil=>intro _;rfl
   |cons x l f=>
    intro d;simp only[lboxes];rw[f (λr g=>d r (aB _ g))];by_cases b:x.boxed=true
    .
     have a:=c x (d x au);have:G.boxes.lookup x=F.boxes.lookup x:=by
      cases x with
      |par i=>
       simp only[Fr.at]at a
       cases b:F.boxes.lookup (.par i)<;>cases h:G.boxes.lookup (.par i)<;>simp_all[AV.ag]
      |loc i=>
       simp only[Fr.at]at a
       cases b:F.boxes.lookup (.loc i)<;>cases h:G.boxes.lookup (.loc i)<;>simp_all[AV.ag]
      |_=>simp[Root.boxed]at b
     grind
    grind
  grind
theorem qed {F G o}(f:G.slots.length=F.slots.length)(n:∀ t∈readsOf o,G.slots[t]? = F.slots[t]?)(e:∀ r∈qC F o,G.at r=F.at r)(p:∀ r,r∉qC F o->qu7 G (qC F o) r=qu7 F (qC F o) r)(d:xG F (qC F o)=true):qC G o=qC F o:=by
 have g:qR G o=qR F o:=by
  unfold qR;have:∀ l:List Nat,(∀ t∈l,t∈readsOf o)->(l.flatMap λt=>(G.ev (.tmp t)).rootsBy qJ)=l.flatMap λt=>(F.ev (.tmp t)).rootsBy qJ:=by
   intro l
   induction l with
   |nil=>grind
   |cons t l h=>intro i;simp only[List.flatMap_cons];rw[h (λr a=>i r (aB _ a)),qcX (F:=F) (G:=G) (x:=.tmp t) (λq s=>by grind)]
  grind
 let c:=YL F 3 (zm (locR o) (qR F o))
 have b:∀ r∈c,r∈qC F o:=λr a=>yh _ _ r (.inl a);have j:YL G 3 (zm (locR o) (qR G o))=c:=by rw[g];exact qar 3 _ (λr a=>e r (b r a))
 unfold qC;simp only;rw[j];congr 1;unfold holders;rw[f];apply List.filter_congr;intro r _;show qu7 G c r=qu7 F c r;by_cases a:r∈qC F o
 . exact zU (e r a)
 . have k:=yB d a;have m:qu7 G (qC F o) r=false:=by grind
   rw[qak b k,qak b m]
theorem Qi:∀ {l:List Root} {r:Root},r∈l->(Ym l).testBit (qld r)=true
 |[],r,h=>by grind
 |x::l,r,h=>by
  simp only[Ym,Nat.testBit_or,Bool.or_eq_true];rcases List.mem_cons.1 h with rfl|h
  . grind
  . exact .inr (Qi h)
theorem qa3 {l m}(h:(Ym l &&& Ym m==0)=true):∀ r,r∈l->r∉m:=by
 intro r a b;have:(Ym l &&& Ym m).testBit (qld r)=true:=by rw[Nat.testBit_and,Qi a,Qi b];rfl
 grind
theorem qz2 {cx F o v}(h:qD cx F o=some v):quiet cx F o=some v:=by
 unfold qD at h;cases e:mvD cx o<;>rw[e]at h
 . exact h
 . cases h
theorem qAL {cx F G o}(h:quiet cx G o=quiet cx F o):qD cx G o=qD cx F o:=by unfold qD;rw[h]
theorem qB9 {cx F o}(h:quiet cx F o=none):qD cx F o=none:=by
 cases e:qD cx F o with
 |none=>rfl
 |some v=>rw[qz2 e]at h;cases h
theorem qaw {cx rec ops F F' o I}(e:dop cx rec ops F o=some (F',I)):I.mW=Ym I.W/\I.mS=Ym I.S:=by
 unfold dop at e;split at e
 . cases e
 . simp only[aa,ai]at e;obtain⟨_,rfl⟩:=e;exact⟨rfl,rfl⟩
 .
  split at e
  . simp only[aa,ai]at e;obtain⟨_,rfl⟩:=e;exact⟨rfl,rfl⟩
  .
   split at e
   . split at e
     . simp only[aa,ai]at e;obtain⟨_,rfl⟩:=e;exact⟨rfl,rfl⟩
     grind
   grind
theorem yL {cx:Cx}{rec:Orac}{ops:List Oper}{F F':Fr}{o:Oper}{I:Info}(e:dop cx rec ops F o=some (F',I)):
  F'.slots.length=F.slots.length/\(∀ r,r∉I.W->F'.at r=F.at r)/\I.S=I.W++I.Rd++yt F qvN (I.W++I.Rd)++yt F' qvN I.W /\
   (I.cl=true->∀ r,r∉I.W->qu7 F I.W r=false)/\((∀ r l,F.boxes.lookup r=some l->r.boxed=true)->∀ r l,F'.boxes.lookup r=some l->r.boxed=true) /\
   ∀ G:Fr,G.slots.length=F.slots.length->(∀ r∈I.W++I.Rd,G.at r=F.at r)->(I.cl=true->∀ r,r∉I.W++I.Rd->qu7 G I.W r=false) ->
    ∃ G',dop cx rec ops G o=some (G',I)/\∀ r∈I.W,G'.at r=F'.at r:=by
 unfold dop at e;cases n:zi ops F o with
 |none=>simp[n]at e
 |some b=>
  have g:∀ v r,r∉dstR o->(F.put o.dst v).at r=F.at r:=by
   intro v r a;cases hd:o.dst with
   |none=>rfl
   |some d=>exact qmG (λe=>a (by simp[dstR,hd,e]))
  have c:∀ v (G:Fr),G.slots.length=F.slots.length->∀ r∈dstR o,(G.put o.dst v).at r=(F.put o.dst v).at r:=by
   intro v G f r a;cases hd:o.dst with
   |none=>simp[dstR,hd]at a
   |some d=>simp only[dstR,hd,aU]at a;subst a;exact qeG f
  cases b with
  |false=>
   simp only[n,aa,ai]at e;obtain⟨rfl,rfl⟩:=e;refine⟨qgL _ _ _,λr a=>g _ r a,rfl,by simp[zJ],λh r l f=>h r l (by cases hd:o.dst<;>simpa [Fr.put,hd]using f),λG f h _=>?_⟩;have i:zi ops G o=some false:=by rw[vW (λr a=>h r (by simp[zJ,a]))];exact n
   refine⟨G.put o.dst .undef,?_,c _ G f⟩;simp only[dop,i,aa,ai,true_and];exact Yc h (c _ G f)
  |true=>
   simp only[n]at e;cases A:qD cx F o with
   |some v=>
    simp only[A,aa,ai]at e;obtain⟨rfl,rfl⟩:=e;refine⟨qgL _ _ _,λr a=>g _ r a,rfl,by simp[zJ],λh r l f=>h r l (by cases hd:o.dst<;>simpa [Fr.put,hd]using f),λG f h _=>?_⟩;have i:zi ops G o=some true:=by rw[vW (λr a=>h r (by simp[zJ,a]))];exact n
    have p:∀ t∈readsOf o,G.slots[t]? = F.slots[t]?:=λt q=>h (.slot t) (by simp[zJ,slotsOf,q]);have k:qD cx G o=some v:=by rw[qAL (qbw p (λf r a=>h r (by simp[zJ,f,a])))];exact A
    have D:(if Xl o.op then qR G o else [])=if Xl o.op then qR F o else []:=by
     split
     . unfold qR;have:∀ l:List Nat,(∀ t∈l,t∈readsOf o)->(l.flatMap λt=>(G.ev (.tmp t)).rootsBy qJ)=l.flatMap λt=>(F.ev (.tmp t)).rootsBy qJ:=by
        intro l
        induction l with
        |nil=>intro _;rfl
        |cons t l E=>intro s;simp only[List.flatMap_cons];rw[E (λr a=>s r (aB _ a)),qcX (F:=F) (G:=G) (x:=.tmp t) (λM q=>by cases q;exact p t (s t au))]
       exact this _ (λt h=>h)
     . rfl
    refine⟨G.put o.dst v,?_,c _ G f⟩;simp only[dop,i,k,D,aa,ai,true_and];exact Yc h (c _ G f)
   |none=>
    simp only[A]at e;split at e
    .
     rename_i j;split at e
     .
      rename_i u H;simp only[aa,ai]at e;obtain⟨rfl,rfl⟩:=e;refine⟨qd2 _ _ _,λr a=>by rw[qaz];exact aF a,rfl,λ_ r a=>yB j a,λh r l f=>?_,λG f h J=>?_⟩
      . rw[Xd]at f;split at f
        . split at f
          . rename_i K;exact K
          . cases f
        . exact h r l f
      .
       have i:zi ops G o=some true:=by rw[vW (λr a=>h r (by simp[zJ,a]))];exact n
       have p:∀ t∈readsOf o,G.slots[t]? = F.slots[t]?:=λt q=>h (.slot t) (by simp[zJ,slotsOf,q]);have B:∀ r∈qC F o,G.at r=F.at r:=λr a=>h r (by simp[zJ,a]);have C:∀ r,r∉qC F o->qu7 G (qC F o) r=false:=by
        intro r a;by_cases s:r∈(zJ F (F.merge u (qC F o)) (qC F o) (xW ops o++slotsOf o) true).W++(zJ F (F.merge u (qC F o)) (qC F o) (xW ops o++slotsOf o) true).Rd
        . rw[zU (h r s)];exact yB j a
        . exact J rfl r s
       have L:qC G o=qC F o:=qed f p B (λr a=>by rw[C r a,yB j a]) j;have y:xG G (qC F o)=true:=qa8.2 λr a _=>.inl (C r a);have m:G.part (qC F o) (readsOf o)=F.part (qC F o) (readsOf o):=qf0 f B p;have z:∀ r∈qC F o,(G.merge u (qC F o)).at r=(F.merge u (qC F o)).at r:=λr a=>by rw[qaz,qaz,aD a,aD a,f]
       have k:qD cx G o=none:=by
        rw[qAL (F:=F) (qbw p (λf r a=>?_))]
        . exact A
        . exact B r (yh _ _ r (.inl (Yx F 3 _ r (yh _ _ r (.inr a)))))
       refine⟨G.merge u (qC F o),?_,z⟩;simp only[dop,i,k,L,y,if_true,m,H,aa,ai,true_and];exact Yc h z
     . cases e
    . cases e
end
section
variable [Glob]
def AtEq (F G:Fr):Prop:=G.slots.length=F.slots.length/\∀ r,G.at r=F.at r
theorem AtEq.refl (F):AtEq F F:=⟨rfl,λ_=>rfl⟩
theorem AtEq.trans {F G H}(a:AtEq F G)(b:AtEq G H):AtEq F H:=⟨b.1.trans a.1,λr=>(b.2 r).trans (a.2 r)⟩
theorem AtEq.symm {F G}(h:AtEq F G):AtEq G F:=⟨h.1.symm,λr=>(h.2 r).symm⟩
def RunL (cx:Cx)(rec:Orac)(ops:List Oper)(info:Nat->Info):List Nat->Fr->Fr->Prop
 |[],F,F'=>AtEq F F'
 |i::l,F,F'=>∃ o a,ops[i]? = some o/\dop cx rec ops F o=some (a,info i)/\RunL cx rec ops info l a F'
section
variable {cx:Cx} {rec:Orac} {ops:List Oper} {info:Nat->Info}
theorem qiV {F F' G o I}(e:dop cx rec ops F o=some (F',I))(h:AtEq F G):∃ G',dop cx rec ops G o=some (G',I)/\AtEq F' G':=by
 obtain⟨c,d,_,i,_,f⟩:=yL e;obtain⟨G',b,j⟩:=f G h.1 (λr _=>h.2 r) (λk r a=>by rw[zU (h.2 r)];grind);obtain⟨k1,g,_⟩:=yL b;refine⟨G',b,by rw[k1,h.1,c],λr=>?_⟩;by_cases a:r∈I.W
 . grind
 . rw[g r a,h.2 r,d r a]
theorem RunL.ateq:∀ {l:List Nat} {F F' G:Fr},RunL cx rec ops info l F F'->AtEq F G->RunL cx rec ops info l G F'
 |[],F,F',G,h,e=>e.symm.trans h
 |i::l,F,F',G,⟨o,g,a,b,c⟩,e=>by obtain⟨G1,d,f⟩:=qiV b e;exact⟨o,G1,a,d,c.ateq f⟩
theorem qex {F f l r x}(a:r∈l){v}(b:F.at r=some v)(c:x∈v.rootsBy f):x∈yt F f l:=by
 unfold yt
 grind
theorem YI {F}{W l S:List Root}{r}(a:r∈l)(b:∀ x∈yt F qvN l,x∈S)(hd:∀ x∈S,x∉W):qu7 F W r=false:=by
 unfold qu7;split
 . rename_i v c;exact Xj.2 λx d e=>hd x (b x (qex a c d)) e
 . rfl
theorem qny {F n h o p a b}(i:dop cx rec ops F o=some (n,a))(j:dop cx rec ops n p=some (h,b))(hd:vY a b=true):
  ∃ G1 g,dop cx rec ops F p=some (G1,b)/\dop cx rec ops G1 o=some (g,a)/\AtEq g h:=by
 obtain⟨z,q,H,I,_,A⟩:=yL i;obtain⟨J,K,L,M,_,B⟩:=yL j;unfold vY at hd;rw[(qaw i).1,(qaw i).2,(qaw j).1,(qaw j).2]at hd;simp only[aC]at hd;have s:∀ x∈a.W,x∉b.S:=qa3 hd.1;have t:∀ x∈b.W,x∉a.S:=qa3 hd.2;have C:∀ r∈a.W++a.Rd,r∈a.S:=λr d=>by grind
 have D:∀ r∈b.W++b.Rd,r∈b.S:=λr d=>by grind
 have k:∀ x∈yt F qvN (a.W++a.Rd),x∈a.S:=λx f=>by grind
 have m:∀ x∈yt h qvN b.W,x∈b.S:=λx f=>by grind
 obtain⟨G1,u,E⟩:=B F z.symm (λr d=>(q r (λc=>s r c (D r d))).symm) (λG r d=>by
  by_cases c:r∈a.W
  . exact YI (l:=a.W++a.Rd) (by grind) k (λx f e=>t x e f)
  . rw[<- zU (q r c)]
    grind)
 obtain⟨k1,v,_⟩:=yL u;obtain⟨g,y,N⟩:=A G1 k1 (λr d=>v r (λc=>t r c (C r d))) (λG r d=>by
  by_cases c:r∈b.W
  . rw[zU (E r c)];exact YI (l:=b.W) c m (λx f e=>s x e f)
  . rw[zU (v r c)]
    grind)
 obtain⟨O,P,_⟩:=yL y;refine⟨G1,g,u,y,by omega,λr=>?_⟩
 grind
theorem RunL.front:∀ {pre:List Nat} {x:Nat} {a:List Nat} {F F':Fr},RunL cx rec ops info (pre++x::a) F F'->(∀ y∈pre,vY (info y) (info x)=true) ->
  RunL cx rec ops info (x::(pre++a)) F F'
 |[],_,_,_,_,h,_=>h
 |y::pre,x,a,F,F',⟨o,n,b,c,d⟩,hd=>by obtain⟨e,p,k1,f,g⟩:=RunL.front d (λz i=>hd z (aB _ i));obtain⟨G1,j,k,l,m⟩:=qny c f (hd y au);exact⟨e,G1,k1,k,o,j,b,l,g.ateq m.symm⟩
theorem qfV:∀ {rest:List Oper} {i:Nat} {F F':Fr} {is all:List Info},(∀ k,rest[k]? = ops[i+k]?)->drun cx rec ops rest F=some (F',is)->(∀ (k:Nat) x,is[k]? = some x->info (i+k)=x) ->
  RunL cx rec ops info (List.range' i rest.length) F F'/\is.length=rest.length
 |[],i,F,F',is,all,_,e,_=>by simp only[drun,aa,ai]at e;obtain⟨rfl,rfl⟩:=e;exact⟨AtEq.refl _,rfl⟩
 |o::rest,i,F,F',is,all,c,e,a=>by
  simp only[drun]at e;cases g:dop cx rec ops F o with
  |none=>grind
  |some y=>
   obtain⟨d,I⟩:=y;simp only[g]at e;cases f:drun cx rec ops rest d with
   |none=>grind
   |some z=>
    obtain⟨l,h⟩:=z;simp only[f,aa,ai]at e;obtain⟨rfl,rfl⟩:=e;have b:∀ k,rest[k]? = ops[i+1+k]?:=λk=>by have:=c (k+1);grind
    obtain⟨j,r2⟩:=qfV (all:=all) b f (λk x m=>by rw[show i+1+k=i+(k+1)by omega];simp_all);refine⟨⟨o,d,by have:=c 0;grind,?_,j⟩,by grind⟩;have:info i=I:=by have:=a 0 I rfl;omega
    grind
end
def Down (ops:List Oper)(S:Nat->Prop):Prop:=∀ (j:Nat) o,ops[j]? = some o->S j->∀ e∈o.after,Region.binds .any e=true->S e.on
theorem Qh {a i}:∀ {l:List Edge},(befE a l).testBit i=true->∃ e∈l,Region.binds .any e=true/\(e.on=i\/((a[e.on]?).getD 0).testBit i=true)
 |[],h=>by simp[befE]at h
 |e::l,h=>by
  simp only[befE]at h;split at h
  .
   rename_i f;simp only[Nat.testBit_or,Bool.or_eq_true]at h;rcases h with h|h|h
   . grind
   . grind
   . obtain⟨b,c,d⟩:=Qh h
     grind
  . obtain⟨b,c,d⟩:=Qh h
    grind
theorem YD {all}:∀ (rest:List Oper) (a:List Nat),(∀ k,rest[k]? = all[a.length+k]?)->(∀ (j:Nat) m,a[j]? = some m->∀ i,m.testBit i=true->∀ S,Down all S->S j->S i) ->
  ∀ (j:Nat) m,(befL rest a)[j]? = some m->∀ i,m.testBit i=true->∀ S,Down all S->S j->S i
 |[],a,_,h,j,l,e=>h j l e
 |o::rest,a,c,h,j,m,e=>by
  refine YD rest _ (λk=>?_) (λj m e i d S f g=>?_) j m e
  . have:=c (k+1)
    grind
  .
   by_cases n:j<a.length
   . grind
   . rw[aY (by omega)]at e;have b:j=a.length:=by grind
     subst b;simp only[Nat.sub_self,aI,aa]at e;subst e;obtain⟨p,s,q,d⟩:=Qh d;have r:all[a.length]? = some o:=by have:=c 0;grind
     have t:=f _ o r g p (by grind) q
     grind
theorem YP {a b}:∀ {l:List Info} {i:Nat},qaB a b i l=true->∀ (k:Nat) x,l[k]? = some x->a.testBit (i+k)=true\/vY x b=true
 |[],i,_,k,x,e=>by grind
 |y::l,i,h,k,x,e=>by
  simp only[qaB,aC,Bool.or_eq_true]at h;cases k with
  |zero=>grind
  |succ k=>rw[show i+(k+1)=i+1+k by omega];exact YP h.2 k x (by grind)
theorem Yg {c all}:∀ {l:List Info} {j:Nat},(∀ k,l[k]? = all[j+k]?)->vS c all j l=true ->
  ∀ (a b:Nat) x y,a<b->j<=b->all[a]? = some x->all[b]? = some y->((c[b]?).getD 0).testBit a=true\/vY x y=true
 |[],j,e,_,a,b,x,y,d,f,g,i=>by
  have:=e (b-j)
  grind
 |z::l,j,e,h,a,b,x,y,d,f,g,i=>by
  simp only[vS,aC]at h;by_cases m:j=b
  . subst m;have n:z=y:=by have:=e 0;grind
    subst n;have:=YP h.1 a x (by grind)
    grind
  . exact Yg (λk=>by have:=e (k+1);grind) h.2 a b x y d (by omega) g i
theorem xn:∀ {l:List Oper} {j:Nat},vw j l=true->∀ (k:Nat) o,l[k]? = some o->∀ e∈o.after,Region.binds .any e=true->e.on<j+k
 |[],j,_,k,o,h=>by grind
 |x::l,j,h,k,o,c=>by
  simp only[vw,aC,List.all_eq_true,Bool.or_eq_true,Bool.not_eq_true',aW]at h;intro e a b;cases k with
  |zero=>grind
  |succ k=>have:=xn h.2 k o (by grind) e a b;omega
theorem Yy (W)(c):cutC W c=c\/cutC W c=.dead:=by unfold cutC;split<;>simp
theorem qha (F W)(ts):Weak F (F.part W ts):=by
 have len:∀ (l:List AV) k,(lslots W ts k l).length=l.length:=by
  intro l
  induction l with
  |nil=>intro k;rfl
  |cons v l f=>intro k;simp[lslots,f]
 refine⟨len _ _,λk v' e=>?_,λr g e=>?_⟩
 .
  have a:(lslots W ts 0 F.slots)[k]? = some v':=e;rw[vO]at a;simp only[aG,Nat.zero_add]at a;obtain⟨v,b,d⟩:=a;split at d
  . subst d;exact .inr ⟨v,b,rfl,zy.map (Yy W) _⟩
  .
   split at d
   . subst d;exact .inr ⟨v,b,rfl,zy.map (λc=>by
      by_cases h:qy c=true
      . grind
      . rw[aF h];exact Yy W c) _⟩
   grind
 .
  have a:(lboxes F W W).lookup r=some g:=e;rw[zT]at a;split at a
  . simp only[aG]at a;obtain⟨l,b,rfl⟩:=a;exact⟨l,b,by have:=zy.map (Yy W) [l];grind⟩
  grind
theorem qaI {F:Fr}{W ts x c}(n:x.key.path=[])(e:(F.part W ts).get x=some c):(∀ r∈qJ c,r∈W)/\(qy c=true->x.key.root∈W):=by
 have cut:∀ d,cutC W d=c->∀ r∈qJ c,r∈W:=by
  intro d h r i;subst h;unfold cutC at i;split at i
  . grind
  . simp[qJ]at i
 obtain⟨⟨r,π⟩,a,b⟩:=x;simp only at n;subst n;by_cases o:∃ k,r=.slot k
 .
  obtain⟨k,rfl⟩:=o;simp only[Fr.get,Fr.rowsAt,Fr.rows,Fr.part,vO,Nat.zero_add,Option.map_map]at e;cases j:F.slots[k]? with
  |none=>grind
  |some v=>
   simp only[j,av,ae,getR,Function.comp_def]at e;split at e
   . rename_i p;obtain⟨d,_,g⟩:=zH (f:=cutC W) e
     grind
   .
    split at e
    .
     obtain⟨d,_,g⟩:=zH (f:=λc=>if qy c then .dead else cutC W c) e;by_cases h:qy d=true
     . rw[aD h]at g;subst g;exact⟨by simp[qJ],by simp[qy]⟩
     . rw[aF h]at g;refine⟨cut d g.symm,λq=>?_⟩;exfalso;rcases Yy W d with h'|h'
       . grind
       . rw[h']at g;subst g;simp[qy]at q
    . obtain⟨_,_,rfl⟩:=one_cell e;exact⟨by simp[qJ],by simp[qy]⟩
 .
  have m:∀ k,r≠.slot k:=λk e=>o ⟨k,e⟩;simp only[Fr.get,Fr.rowsAt,Fr.rows_ns _ m,Fr.part,zT]at e;split at e
  .
   rename_i p;cases j:F.boxes.lookup r with
   |none=>grind
   |some l=>
    simp only[j,av,ae,getR]at e;obtain⟨d,_,g⟩:=zH (f:=cutC W) (rows:=[l]) e
    grind
  grind
theorem Zg {F:Fr}{k rows}(e:F.rowsAt k=some rows)(i:k.path≠[]):∃ r o d f,F.get ⟨⟨k.root,[]⟩,r,o⟩=some (.own d f):=by
 obtain⟨root,b⟩:=k;cases b with
 |nil=>grind
 |cons y π=>
  obtain⟨r,o⟩:=y;unfold Fr.rowsAt at e;simp only at e;cases g:F.rows root with
  |none=>grind
  |some a=>
   simp only[g,ae,getR]at e;cases h:cellAt a r o with
   |none=>grind
   |some c=>
    rw[h]at e;cases c with
    |own d f=>exact⟨r,o,d,f,by simp[Fr.get,Fr.rowsAt,g,getR,h]⟩
    |_=>grind
theorem qfo {G w F j}(h:RelF G w F j)(W)(ts):
  RelF { γ:=λk=>if k.root∈W then G.γ k else none,im:=G.im,lv:=λd=>((F.part W ts).boxes.lookup (.loc d)).isSome=true } w (F.part W ts) j:=by
 have lk:∀ r,((F.part W ts).boxes.lookup r).isSome=true↔(r∈W/\r.boxed=true)/\(F.boxes.lookup r).isSome=true:=by intro r;show((lboxes F W W).lookup r).isSome=true↔_;rw[zT];split<;>simp_all
 have D:=qha F W ts;have m:∀ x c,(F.part W ts).get x=some c->c=.dead\/(F.get x=some c/\∀ r∈qJ c,r∈W):=by
  intro x c e;rcases D.get e with h'|h'
  . grind
  . by_cases g:x.key.path=[]
    . exact .inr ⟨h',(qaI g e).1⟩
    . have:=h.pure h' g;right;refine⟨h',λr n=>?_⟩;cases c<;>simp[qw,qJ]at *
 have E:=h.weak D (λd=>((F.part W ts).boxes.lookup (.loc d)).isSome=true) (λd hd=>⟨?_,hd⟩) (λd hd=>hd) (λx c e=>?_)
 .
  refine E.ghost ⟨λk T x x' e p K=>?_,λk x e=>?_,h.inv.imlt,h.inv.glob⟩ rfl rfl (λk L=>?_)
  .
   simp only at e p;split at e
   . split at p
     . exact h.inv.inj _ _ _ _ e p K
     grind
   grind
  . simp only at e;split at e
    . exact h.inv.lt _ _ e
    grind
  .
   show(if k.root∈W then G.γ k else none)=G.γ k;rw[aD];rcases L with⟨n,hi⟩|⟨x,c,s,b⟩
   .
    obtain⟨rows,a⟩:=Option.isSome_iff_exists.1 n;by_cases g:k.path=[]
    .
     rcases hi with hi|hi
     . grind
     . obtain⟨root,H⟩:=k;simp only at g hi;subst g;have z:∀ k,root≠.slot k:=λk e=>by rw[e]at hi;simp[Root.boxed]at hi
       simp only[Fr.rowsAt,Fr.rows_ns _ z]at a;have:((F.part W ts).boxes.lookup root).isSome=true:=by
        cases M:(F.part W ts).boxes.lookup root with
        |none=>grind
        |some l=>rfl
       grind
    . obtain⟨r,o,I,N,s⟩:=Zg a g;exact(qaI (x:=⟨⟨k.root,[]⟩,r,o⟩) rfl s).2 rfl
   .
    by_cases g:x.key.path=[]
    .
     obtain⟨A,J⟩:=qaI g s;cases c with
     |own I rows=>simp only[deps,aU]at b;subst b;exact J rfl
     |mp U=>simp only[deps,aU]at b;subst b;exact J rfl
     |ref q=>simp only[deps,aU]at b;subst b;exact A _ (by simp[qJ,Pl.toKey])
     |ptr q=>simp only[deps,aU]at b;subst b;exact A _ (by simp[qJ])
     |clo f fs cs=>
      simp only[deps,List.mem_filterMap]at b;obtain⟨y,V,b⟩:=b;cases y with
      |ptr q=>
       simp only[aa]at b;subst b;refine A _ ?_;simp only[qJ,List.mem_filterMap]
       grind
      |_=>grind
     |_=>simp[deps]at b
    .
     have i:=E.pure s g;cases c with
     |own I rows=>
      simp only[deps,aU]at b;subst b;have:∃ rows,(F.part W ts).rowsAt x.key=some rows:=by
       unfold Fr.get at s;cases M:(F.part W ts).rowsAt x.key with
       |none=>grind
       |some rows=>grind
      obtain⟨B,a⟩:=this;obtain⟨r,o,O,N,C⟩:=Zg a g;exact(qaI (x:=⟨⟨x.key.root,[]⟩,r,o⟩) rfl C).2 rfl
     |_=>simp[qw,deps]at i b
 . obtain⟨l,P⟩:=Option.isSome_iff_exists.1 ((lk (.loc d)).1 hd).2;exact(h.boxes (.loc d) l P).2
 .
  rcases m x c e with rfl|⟨p,n⟩
  . grind
  .
   have t:=h.okPtr p;have u:∀ r,G.ok r->r∈W->Gh.ok { G with lv:=λd=>((F.part W ts).boxes.lookup (.loc d)).isSome=true } r:=by
    intro r Q R;cases r with
    |loc d=>exact(lk (.loc d)).2 ⟨⟨R,rfl⟩,h.live d Q⟩
    |_=>trivial
   refine⟨λq v=>u _ (t.1 q v) (n _ ?_),λf fs cs q v S=>u _ (t.2 f fs cs q v S) (n _ ?_)⟩
   . rcases v with rfl|rfl<;>simp[qJ]
   . subst v;simp only[qJ,List.mem_filterMap]
     grind
def inW (W:List Root)(r:Root):Option Root:=if r∈W then some r else none
theorem qkT (W)(b):cutC W b=.dead\/RenC (inW W) b (cutC W b):=by
 by_cases a:(qJ b).all W.contains=true
 .
  have e:cutC W b=b:=by unfold cutC;grind
  rw[e];simp only[List.all_eq_true,List.contains_eq_mem,aW]at a;cases b with
  |ptr q=>exact .inr ⟨by unfold inW;rw[aD (a _ (by simp[qJ]))],rfl,rfl,rfl⟩
  |ref q=>exact .inr ⟨by unfold inW;rw[aD (a _ (by simp[qJ]))],rfl,rfl,rfl⟩
  |clo f fs cs=>
   right;have go:∀ l:List Cell,(∀ c∈l,c∈fs++cs)->qev (inW W) l l:=by
    intro l
    induction l with
    |nil=>intro _;trivial
    |cons x l g=>
     intro d;refine⟨?_,g λc a=>d c (aB _ a)⟩;have h:=d x au;cases x with
     |ptr q=>
      refine⟨?_,rfl,rfl,rfl⟩;unfold inW;rw[aD (a _ _)];simp only[qJ,List.mem_filterMap]
      grind
     |_=>exact rfl
   exact⟨rfl,go fs (λc a=>aL _ a),go cs (λc a=>aR _ a)⟩
  |dead=>grind
  |own z rows=>exact .inr ⟨rfl,rfl⟩
  |cptr z rows=>exact .inr ⟨rfl,rfl⟩
  |nil=>exact .inr trivial
  |val u=>exact .inr rfl
  |imm u=>exact .inr rfl
  |mp u=>exact .inr rfl
  |mpb u=>exact .inr rfl
 . left;unfold cutC;grind
end
section
variable [Glob]
theorem qco {W c}(h:∀ x∈qvN c,x∉W):qdX (inW W) c:=by
 have one:∀ q:Pl,(qie q=true->q.key.root∉W)->qeH (inW W) q:=by
  intro q a;by_cases hd:qie q=true
  . left;unfold inW;grind
  . right;unfold qie at hd
    grind
 cases c with
 |ptr q=>refine one q λhd=>h _ ?_;simp[qvN,hd]
 |ref q=>show inW W q.key.root=none;unfold inW;rw[aF (h _ (by simp[qvN]))]
 |clo f fs cs=>
  intro q a;refine one q λhd=>h _ ?_;simp only[qvN,List.mem_filterMap]
  grind
 |_=>trivial
theorem XD {F W r v}(f:F.at r=some v)(h:qu7 F W r=false):yJ (inW W) v.rows v.rows:=by refine⟨rfl,λa b c d=>⟨c,d,.inr ⟨rfl,qco λx g i=>?_⟩⟩,λ_ _ _ e=>e⟩;unfold qu7 at h;rw[f]at h;refine(Xj.1 h) x ?_ i;obtain⟨row,j,k⟩:=qc.1 d;unfold AV.rootsBy;simp only[List.mem_flatMap];exact⟨row,aM j,c,aM k,g⟩
theorem qeY (W)(rows):yS (inW W) rows (rows.map (·.map (cutC W))):=by
 refine⟨by simp_all,λr o d a=>?_,λr o e h=>?_⟩
 . obtain⟨c,b,rfl⟩:=zH a;exact⟨c,b,qkT W c⟩
 . rw[qvZ,h];rfl
theorem yK (F a:Fr)(W)(r):(F.merge a W).boxes.lookup r=if r∈W then(if r.boxed then(a.boxes.lookup r).map (·.map (cutC W))else none)else F.boxes.lookup r:=Xd F a W r
theorem qdb {F:Fr}{d v}(h:(v.rows.any (·.any qy))=false):F.putS d v=F.put d v:=by
 cases d with
 |none=>rfl
 |some d=>simp only[Fr.putS,h];rfl
theorem qdS {cx:Cx}{G G1 w w1 F n}{a:Act}{o V ts}(h:RelF G w F a.tmps)(s:xG F (qC F o)=true)(y:RelF G1 w1 n (a.put o.dst V).tmps)(B:Gain { γ:=λk=>if k.root∈qC F o then G.γ k else none,im:=G.im,lv:=λd=>((F.part (qC F o) ts).boxes.lookup (.loc d)).isSome=true } w G1 w1):
  ∃ G',RelF G' w1 (F.merge n (qC F o)) (a.put o.dst V).tmps/\Gain G w G' w1:=by
 generalize H:qC F o=W at *;have t:∀ d,o.dst=some d->Root.slot d∈W:=by intro d hd;rw[<- H];exact yh _ _ _ (.inl (Yx F 3 _ _ (yh _ _ _ (.inl (by simp[locR,hd])))))
 have u:(a.put o.dst V).tmps.size=a.tmps.size:=by cases o.dst<;>simp[Act.put]
 have I:∀ k,Root.slot k∉W->(a.put o.dst V).tmps[k]? = a.tmps[k]?:=by
  intro k p;cases hd:o.dst with
  |none=>rfl
  |some d=>
   have:d≠k:=λe=>p (e▸t d hd);simp only[Act.put]
   grind
 have J:∀ r,((F.part W ts).boxes.lookup r).isSome=true↔(r∈W/\r.boxed=true)/\(F.boxes.lookup r).isSome=true:=by intro r;show((lboxes F W W).lookup r).isSome=true↔_;rw[zT];split<;>simp_all
 have c:∀ {r a},inW W r=some a->r∈W/\a=r:=by
  intro r a e;unfold inW at e
  grind
 have g:∀ {r},r∉W->inW W r=none:=λj=>by unfold inW;grind
 have m:∀ {r},r∈W->inW W r=some r:=λj=>by unfold inW;grind
 have q:∀ {r},inW W r=none->r∉W:=λe j=>by grind
 have K:Spliced (inW W) n F (F.merge n W) (a.put o.dst V).tmps a.tmps (a.put o.dst V).tmps:=by
  refine⟨by rw[qd2,u];exact h.size,λk v e=>?_,λr l e=>?_⟩
  .
   have b:(F.merge n W).at (.slot k)=some v:=e;rw[qaz]at b;by_cases p:Root.slot k∈W
   .
    rw[aD p]at b;simp only[qiy]at b;split at b
    . rename_i L;simp only[aa]at b;have f:k<n.slots.length:=by rw[y.size,u,<- h.size];omega
      rw[ax f]at b;obtain⟨C,z,_⟩:=y.slots k _ (ax f);subst b;exact⟨C,z,.inl ⟨k,_,m p,ax f,z,rfl,qeY W _⟩⟩
    grind
   . rw[aF p]at b;obtain⟨C,z,_⟩:=h.slots k v b;exact⟨C,by grind,.inr (.inl ⟨g p,v,b,z,rfl,XD b (yB s p)⟩)⟩
  .
   rw[yK]at e;by_cases j:r∈W
   . rw[aD j]at e;split at e
     . simp only[aG]at e;obtain⟨E,M,rfl⟩:=e;exact .inl ⟨r,E,m j,M,by have:=qeY W [E];grind⟩
     grind
   . rw[aF j]at e;refine .inr ⟨g j,l,e,?_⟩;have D:F.at r=some (AV.ag l):=by have N:=(h.boxes r l e).1;cases r<;>first|(simp only[Fr.at,e];rfl)|simp[Root.boxed]at N
     exact XD D (yB s j)
 have part:Part (inW W) G { γ:=λk=>if k.root∈W then G.γ k else none,im:=G.im,lv:=λd=>((F.part W ts).boxes.lookup (.loc d)).isSome=true } G1 w w1 F (F.merge n W):=by
  refine⟨B,λr r' x e b=>?_,λr x e=>?_,rfl,λk1 x e=>?_,λi x e=>?_,λd x e hd=>?_,λd x e O=>?_,λd e hd=>?_⟩
  . grind
  . grind
  . grind
  . obtain⟨A,rfl⟩:=c e;rw[B.par i]
    grind
  . obtain⟨A,rfl⟩:=c e;obtain⟨k1,Q⟩:=B.loc d ((J _).2 ⟨⟨A,rfl⟩,h.live d hd⟩);refine⟨?_,k1⟩
    grind
  . obtain⟨A,rfl⟩:=c e;have:=y.live d O;rw[yK,aD A];obtain⟨l,P⟩:=Option.isSome_iff_exists.1 this;simp[Root.boxed,P]
  . rw[yK,aF (q e)];exact h.live d hd
 exact⟨_,qap h y K part⟩
theorem vF {cx:Cx}{rec:Orac}(c:∀ d,qN cx.P (rec d))(g:∀ d,ZA cx.P (rec d)){ops:Array Oper}{G:Gh}{w:World}{F F':Fr}{a:Act}{o:Oper}{I:Info}(h:RelF G w F a.tmps)(e:dop cx rec ops.toList F o=some (F',I)){K:Act->World->Prop}{Q:Exit->Act->World->Prop}(i:∀ V G' w',RelF G' w' F' (a.put o.dst V).tmps->Gain G w G' w'->K (a.put o.dst V) w'):
  if Region.wanted o (yielded ops a.tmps)then o.wp cx.P a w K Q else K (a.put o.dst Go.undef) w:=by
 unfold dop at e;cases f:zi ops.toList F o with
 |none=>simp[f]at e
 |some b=>
  have l:=xh h f;cases b with
  |false=>rw[aF (by rw[l];simp)];simp only[f,aa,ai]at e;obtain⟨rfl,_⟩:=e;have:=putO (d:=o.dst) h (Xt G w);rw[qdb (Xt G w).noOwn]at this;exact i _ G w this (Gain.refl G w)
  |true=>
   rw[aD l];simp only[f]at e;cases j:qD cx F o with
   |some v=>simp only[j,aa,ai]at e;obtain⟨rfl,_⟩:=e;obtain⟨V,n,m⟩:=qaS h (qz2 j);unfold Oper.wp;rw[n];have:=putO (d:=o.dst) h m;rw[qdb m.noOwn]at this;exact i V G w this (Gain.refl G w)
   |none=>
    simp only[j]at e;split at e
    . rename_i k;split at e
      . rename_i u p;simp only[aa,ai]at e;obtain⟨rfl,_⟩:=e;refine XI (c _) (g _) (qfo h (qC F o) (readsOf o)) p (λ_ V G1 w1 q r=>?_) (λv s=>by cases s);obtain⟨G',k1,t⟩:=qdS (cx:=cx) h k q r;exact i V G' w1 k1 t
      . cases e
    . cases e
def NoSl (F:Fr):Prop:=∀ r l,F.boxes.lookup r=some l->r.boxed=true
theorem qaQ {cx rec ops}:∀ {rest:List Oper} {F F':Fr} {is:List Info},NoSl F->drun cx rec ops rest F=some (F',is)->NoSl F'
 |[],F,F',is,h,e=>by
  simp only[drun,aa,ai]at e
  grind
 |o::rest,F,F',is,h,e=>by
  simp only[drun]at e;cases a:dop cx rec ops F o with
  |none=>grind
  |some y=>
   obtain⟨c,I⟩:=y;simp only[a]at e;cases b:drun cx rec ops rest c with
   |none=>grind
   |some z=>obtain⟨f,d⟩:=z;simp only[b,aa,ai]at e;obtain⟨rfl,_⟩:=e;exact qaQ ((yL a).2.2.2.2.1 h) b
theorem qcz {G w F F' ts}(h:RelF G w F ts)(e:AtEq F' F)(g:NoSl F'):RelF G w F' ts:=by
 have lk:∀ r,F'.boxes.lookup r=F.boxes.lookup r:=by
  intro r;have a:=e.2 r;cases r with
  |slot k=>
   cases j:F'.boxes.lookup (.slot k)with
   |some l=>have:=g _ _ j;simp[Root.boxed]at this
   |none=>
    cases m:F.boxes.lookup (.slot k)with
    |some l=>have:=(h.boxes _ _ m).1;simp[Root.boxed]at this
    |none=>rfl
  |par i=>simp only[Fr.at]at a;cases d:F.boxes.lookup (.par i)<;>cases f:F'.boxes.lookup (.par i)<;>simp_all[AV.ag]
  |loc i=>simp only[Fr.at]at a;cases d:F.boxes.lookup (.loc i)<;>cases f:F'.boxes.lookup (.loc i)<;>simp_all[AV.ag]
  |res=>simp only[Fr.at]at a;cases d:F.boxes.lookup .res<;>cases f:F'.boxes.lookup .res<;>simp_all[AV.ag]
 have sl:F'.slots=F.slots:=(qjJ e.1 (λk=>e.2 (.slot k))).symm;refine h.weak0 ⟨by rw[sl],λk v n=>.inr ⟨v,by grind,rfl,rfl,λr o c b=>⟨c,b,.inl rfl⟩,λ_ _ _ e=>e⟩,λr l p=>⟨l,by grind,rfl,λr o c b=>⟨c,b,.inl rfl⟩,λ_ _ _ e=>e⟩⟩ (λr=>by rw[lk])
theorem qd4 {D cx rec}(n:∀ d,qN cx.P (rec d))(v:∀ d,ZA cx.P (rec d)){ops info F' G0 w0 Q}(hn:NoSl F')(q:∀ (k:Nat) o,ops[k]? = some o->∀ e∈o.after,Region.binds .any e=true->e.on<k)(p:∀ a b:Nat,a<b->b<ops.size->(∀ S,Down ops.toList S->S b->S a)\/vY (info a) (info b)=true)(hD:∀ o∈ops,∀ a V,D a->D (a.put o.dst V))(hq:∀ a' w',Stands D G0 w0 F' a' w'->Q .normal a' w'):
  ∀ (fuel:Nat) (f:Array Bool) (c:List Nat) (F:Fr) (a:Act) (w:World) (G:Gh),c.length=fuel->(∀ i,i∈c↔i<ops.size/\f.getD i true=false)->f.size=ops.size ->
   c.Pairwise (· < ·)->Down ops.toList (λi=>i<ops.size/\f.getD i true=true)->RunL cx rec ops.toList info c F F'->RelF G w F a.tmps->zS G0 w0 G w->D a ->
   wpAny cx.P .any ops Q fuel f a w
 |0,f,c,F,a,w,G,hl,z,hs,_,_,M,h,N,hd=>by have hc:c=[]:=List.length_eq_zero_iff.1 hl;subst hc;refine⟨?_,hq a w ⟨hd,G,N,qcz h (AtEq.symm M) hn⟩⟩;unfold Region.ready;simp_all
 |fuel+1,f,c,F,a,w,G,hl,z,hs,O,A,M,h,N,hd=>by
  have B:∀ i,i∈Region.ready .any ops f↔i<ops.size/\f.getD i true=false/\∃ o,ops[i]? = some o/\∀ e∈o.after,Region.binds .any e=true->f.getD e.on false=true:=by
   intro i;unfold Region.ready;simp only[List.mem_filter,List.mem_range,aC,Bool.not_eq_true'];constructor
   .
    rintro ⟨P,h2,h3⟩
    cases r:ops[i]? with
    |none=>grind
    |some o=>
     simp only[r,av,Option.getD_some,Array.all_eq_true_iff_forall_mem,Bool.or_eq_true,Bool.not_eq_true']at h3
     grind
   grind
  refine⟨λhnil=>?_,λi hi=>?_⟩
  .
   exfalso;cases c with
   |nil=>grind
   |cons m c=>
    have g:=(z m).1 au;have r:ops[m]? = some (ops[m]'g.1):=Array.getElem?_eq_getElem g.1;have:m∈Region.ready .any ops f:=(B m).2 ⟨g.1,g.2,_,r,λe t u=>by
     have C:=q m _ r e t u;have hnot:e.on∉m::c:=by
      intro E;rcases List.mem_cons.1 E with h'|h'
      . omega
      . have:=(List.pairwise_cons.1 O).1 _ h';omega
     grind⟩
    grind
  .
   obtain⟨P,h2,o,r,h3⟩:=(B i).1 hi;have R:i∈c:=(z i).2 ⟨P,h2⟩;obtain⟨pre,H,rfl⟩:=List.append_of_mem R;have C:∀ y∈pre,y<i:=λy s=>(List.pairwise_append.1 O).2.2 y s i au;have gl:∀ {x:Nat},x<ops.size->f.getD x false=f.getD x true:=λL=>by grind
   have T:∀ y∈pre,vY (info y) (info i)=true:=by
    intro y s;rcases p y i (C y s) P with l|l
    . exfalso;have hym:=(z y).1 (aL _ s);have:=l (λk=>k=i\/(k<ops.size/\f.getD k true=true)) (λj I U l e t u=>by
       rcases l with rfl|l
       . grind
       . exact .inr (A j I U l e t u)) (.inl rfl)
      grind
    omega
   obtain⟨o',F1,k1,k2,k3⟩:=RunL.front M T;have X:o'=o:=by grind
   subst X;unfold wpOp;simp only[r];have key:=vF (Q:=Q) n v h k2 (K:=wpAny cx.P .any ops Q fuel (f.setIfInBounds i true)) (λV G' w' r' g'=>by
    refine qd4 n v hn q p hD hq fuel _ (pre++H) F1 _ w' G' ?_ (λx=>?_) (by grind) ?_ ?_ k3 r' (N.trans g'.w) (hD _ (Array.mem_of_getElem? r) _ _ hd)
    . grind
    .
     have L:=z x;simp only[List.mem_append,List.mem_cons]at L |-;rw[aJ,aV];by_cases J:i=x
     . subst J;rw[aD rfl,aD (by omega)];simp only[Option.getD_some,Bool.true_eq_false,and_false,iff_false,not_or];refine⟨λs=>?_,λs=>?_⟩
       . grind
       . have:=(List.pairwise_cons.1 (List.pairwise_append.1 O).2.1).1 i s;omega
     . rw[aF J,<- aJ,<- L]
       grind
    . grind
    .
     have up:∀ x,x<ops.size->f.getD x true=true->(f.setIfInBounds i true).getD x true=true:=by intro x L hlx;rw[aJ,aV];simp_all
     intro j I U l e t u;have Y:ops[j]? = some I:=by grind
     have hlt':=q j I Y e t u;refine⟨by omega,?_⟩;by_cases Z:j=i
     . grind
     . have hjl:f.getD j true=true:=by have:=l.2;rw[aJ,aV,aF (λe=>Z e.symm),<- aJ]at this;omega
       obtain⟨h5,h6⟩:=A j I U ⟨l.1,hjl⟩ e t u
       grind)
   grind
theorem qek {D cx rec}(c:∀ d,qN cx.P (rec d))(g:∀ d,ZA cx.P (rec d))(hmix:cx.P.follows .mixedOrders=true){ops F F' G0 w0 G w a Q id}(h:RelF G w F a.tmps)(B:zS G0 w0 G w)(hd:D a)(e:adraw cx rec ops.toList F=some F')(C:∀ o∈ops,∀ a V,D a->D (a.put o.dst V))(E:∀ A w',Stands D G0 w0 F' A w'->Q .normal A w'):(Code.region id ops true).wp cx.P Q a w:=by
 unfold adraw at e;cases m:drun cx rec ops.toList ops.toList F with
 |none=>grind
 |some y=>
  obtain⟨L,is⟩:=y;simp only[m]at e;split at e
  .
   rename_i n;simp only[aa]at e;subst e;simp only[aC]at n;have b:∀ (k:Nat) x,is[k]? = some x->(λi=>(is[i]?).getD ⟨[],[],[],false,0,0⟩) (0+k)=x:=λk x M=>by grind
   obtain⟨H,r2⟩:=qfV (info:=λi=>(is[i]?).getD ⟨[],[],[],false,0,0⟩) (all:=is) (λk=>by grind) m b;have p:RelF G { w with drawn:=w.drawn+1 } F a.tmps:=h.same ⟨Nat.le_refl _,λ_ _=>rfl,λ_ _ _=>rfl⟩;have q:zS G0 w0 G { w with drawn:=w.drawn+1 }:=B.trans (Gain.same (G:=G) (w:=w) (w':={ w with drawn:=w.drawn+1 }) (Nat.le_refl w.heap.size) (λ_ _=>rfl) h.inv (Out.drew w _)).w;refine wp_region_any hmix (qd4 c g (info:=λi=>(is[i]?).getD ⟨[],[],[],false,0,0⟩) (qaQ (λr l f=>(h.boxes r l f).1) m) (λk o N e I hb=>?_) (λx y s O=>?_) C E ops.size _ (List.range' 0 ops.toList.length) F a _ G
    (by simp) (λi=>?_) (by simp) ?_ (λj P R t=>?_) H p q hd)
   . have:=xn n.1 k o (by grind) e I hb;omega
   .
    have u:x<is.length:=by grind
    have v:y<is.length:=by grind
    rcases Yg (λk=>by grind) n.2 x y is[x] is[y] s (Nat.zero_le _) (ax u) (ax v)with hb|hb
    . left;cases f:(befL ops.toList [])[y]? with
      |none=>grind
      |some l=>simp only[f,Option.getD_some]at hb;exact λS t z=>YD ops.toList [] (λk=>by simp) (λj l e=>by grind) y l f x hb S t z
    grind
   . simp_all
   . exact List.pairwise_lt_range'
   . obtain⟨J,K⟩:=t;simp_all
  grind
end
end Ab
end Go.Proofs.YtnnhdcidgfjfpaaGreatDoor

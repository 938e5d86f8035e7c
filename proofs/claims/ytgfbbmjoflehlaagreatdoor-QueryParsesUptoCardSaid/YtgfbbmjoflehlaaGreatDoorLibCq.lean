/-
  The interpreter of the model's code over values, and its soundness: part 3 of 5. No claim stands here.
-/
import Derived.Test.YtgfbbmjoflehlaaGreatDoorLibBq
set_option linter.all false
namespace Go.Proofs.YtgfbbmjoflehlaaGreatDoor
namespace Ab
section
variable [Glob]
def yA (roots:List Root)(c:Cell):Cell:=roots.foldl (fun c r=>yz r c) c
theorem qdl (roots):yA roots .dead=.dead:=by
 induction roots with
 |nil=>rfl
 |cons r l ih=>exact ih
theorem qck (roots)(c):yA roots c=.dead\/(yA roots c=c/\∀ r∈roots,yz r c=c):=by
 induction roots with
 |nil=>exact .inr ⟨rfl,by simp⟩
 |cons r l ih=>
  show yA l (yz r c)=.dead\/_;rcases qP r c with h|h
  .
   rcases ih with ih|⟨i1,i2⟩
   . grind
   . right;refine⟨by show yA l (yz r c)=c;grind,fun r' hr=>?_⟩
     grind
  . left;rw[h];exact qdl l
theorem qdH (f g):∀ bs:List (Root×List Cell),mapB g (mapB f bs)=mapB (fun c=>g (f c)) bs
 |[]=>rfl
 |(r,l)::bs=>by simp[mapB,qdH f g bs,Function.comp_def]
theorem qgZ:∀ bs:List (Root×List Cell),mapB (fun c=>c) bs=bs
 |[]=>rfl
 |(r,l)::bs=>by simp[mapB,qgZ bs]
theorem qgX (F:Fr)(f g):(F.mapC f).mapC g=F.mapC (fun c=>g (f c)):=by unfold Fr.mapC;simp only[qdH,List.map_map];congr 1;apply List.map_congr_left;intro v _;simp[AV.mapC,Function.comp_def]
theorem vT:∀ (roots:List Root) (F:Fr),yj F roots=F.mapC (yA roots)
 |[],F=>by
  show F=F.mapC (fun c=>c);unfold Fr.mapC;rw[qgZ];have:F.slots.map (fun v=>v.mapC fun c=>c)=F.slots:=by
   conv=>rhs;rw[<- List.map_id F.slots]
   apply List.map_congr_left;intro v _;simp[AV.mapC]
  rw[this]
 |r::l,F=>by show yj (F.killR r) l=_;rw[vT l,Fr.killR,qgX];rfl
theorem yE:∀ (roots:List Root) (ls:List (List Cell)) (F:Fr),(qB F roots ls).slots=F.slots
 |[],_,F=>by simp[qB]
 |_::_,[],F=>by simp[qB]
 |r::roots,l::ls,F=>by show(qB { F with boxes:=YQ r l F.boxes } roots ls).slots=_;rw[yE]
theorem vB:∀ (roots:List Root) (ls:List (List Cell)) (F:Fr) (r:Root),r∉roots->(qB F roots ls).boxes.lookup r=F.boxes.lookup r
 |[],_,F,r,_=>by simp[qB]
 |_::_,[],F,r,_=>by simp[qB]
 |r0::roots,l::ls,F,r,h=>by simp only[List.mem_cons,not_or]at h;show(qB { F with boxes:=YQ r0 l F.boxes } roots ls).boxes.lookup r=_;rw[vB roots ls _ r h.2,yu,aF h.1]
theorem qbr:∀ (roots:List Root) (ls:List (List Cell)) (F:Fr),roots.Nodup->roots.length=ls.length->(∀ r∈roots,(F.boxes.lookup r).isSome=true) ->
  ∀ (i:Nat) r,roots[i]? = some r->(qB F roots ls).boxes.lookup r=ls[i]?
 |[],_,F,_,_,_,i,r,h=>by simp at h
 |_::_,[],F,_,hl,_,i,r,h=>by simp at hl
 |r0::roots,l::ls,F,hn,hl,hs,i,r,h=>by
  obtain⟨n1,n2⟩:=List.nodup_cons.1 hn;show(qB { F with boxes:=YQ r0 l F.boxes } roots ls).boxes.lookup r=_;cases i with
  |zero=>simp only[aI,aa]at h;subst h;rw[vB roots ls _ _ n1,yu,aD rfl,aD (hs _ au)];rfl
  |succ i=>
   refine qbr roots ls _ n2 (by simpa using hl) (fun r' hr'=>?_) i r (by simpa using h);simp only;rw[yu];split
   . rw[aD (hs _ au)];rfl
   . exact hs r' (aB _ hr')
def retW (dst:Option Nat)(roots:List Root)(r:Root):Option Root:=if dst.map Root.slot=some r then some (.slot 0)else idxOf roots r
def qdQ (dst:Option Nat)(roots:List Root)(c:Cell):Cell:=match dst with
 |some d=>zn (.slot d) (yA roots c)
 |none=>yA roots c
theorem qf2 {dst roots}(hb:∀ r∈roots,r.boxed=true)(c)(hclo:∀ f fs cs q,c=.clo f fs cs->.ptr q∈fs++cs->q.key.path=[]):
  qdQ dst roots c=.dead\/(qdQ dst roots c=c/\qdX (retW dst roots) c):=by
 have hW:∀ r,r∉roots->(∀ d,dst=some d->r≠.slot d)->retW dst roots r=none:=by
  intro r hr hd;unfold retW;rw[aF]
  . cases hx:idxOf roots r with
    |none=>rfl
    |some a=>obtain⟨i,_,h2⟩:=xu hx;grind
  . cases dst with
    |none=>simp
    |some d=>grind
 have fin:∀ q:Pl,(q.key.root∈roots->q.key.path=[])->(∀ d,dst=some d->q.key.root≠.slot d)->qeH (retW dst roots) q:=by
  intro q h1 h2;by_cases hm:q.key.root∈roots
  . exact .inr ⟨h1 hm,hb _ hm⟩
  . exact .inl (hW _ hm h2)
 have hk:∀ c',yA roots c=c'->c'=.dead\/(c'=c/\∀ r∈roots,yz r c=c):=fun c' e=>by
  rcases qck roots c with h|⟨h1,h2⟩
  . grind
  grind
 have good:(∀ r∈roots,yz r c=c)->(∀ d,dst=some d->zn (.slot d) c=c)->qdX (retW dst roots) c:=by
  intro h1 h2;cases c with
  |ptr q=>
   refine fin q (fun hm=>?_) (fun d hd e=>?_)
   . have:=h1 _ hm;simp only[yz,decide_true,Bool.true_and]at this
     grind
   . have:=h2 d hd;simp[zn,e]at this
  |ref q=>
   show retW dst roots q.key.root=none;refine hW _ (fun hm=>?_) (fun d hd e=>?_)
   . have:=h1 _ hm;simp[yz]at this
   . have:=h2 d hd;simp[zn,e]at this
  |clo f fs cs=>
   intro q hq;refine fin q (fun _=>hclo f fs cs q rfl hq) (fun d hd e=>?_);have:=h2 d hd;simp only[zn]at this
   grind
  |_=>trivial
 cases dst with
 |none=>
  rcases hk _ rfl with h|⟨h,h'⟩
  . exact .inl h
  . exact .inr ⟨h,good h' (by simp)⟩
 |some d=>
  show zn (.slot d) (yA roots c)=.dead\/_;rcases hk _ rfl with h|⟨h,h'⟩
  . left;rw[h];rfl
  . rcases yN (.slot d) c with hc|hc
    . right;refine⟨by show zn (.slot d) (yA roots c)=c;grind,good h' (fun d' e=>by grind)⟩
    grind
theorem qfU {W f rows}(hf:∀ r o c,cellAt rows r o=some c->f c=.dead\/(f c=c/\qdX W c)):yJ W rows (rows.map (·.map f)):=by
 refine⟨by simp_all,fun r o c' hc=>?_⟩;obtain⟨c,h1,rfl⟩:=zH hc
 grind
theorem RelF.clo_ptr {G w F ts}(h:RelF G w F ts){x c}(e:F.get x=some c):∀ f fs cs q,c=.clo f fs cs->.ptr q∈fs++cs->q.key.path=[]:=by
 intro f fs cs q hc hq;subst hc;exact h.clo_path e (by
  simp only[deps,List.mem_filterMap]
  grind)
theorem Qg {G2 GR G1 w w' B ts ts1}(h2:RelF G2 w B ts){roots}(hn:roots.Nodup)(hroot:∀ (i:Nat) r,roots[i]? = some r->r.boxed=true/\∃ l,B.boxes.lookup r=some l)(hg:Gain GR w G1 w')(him:GR.im=G2.im)(hsrc:∀ k1 x,GR.γ k1=some x->∃ k,G2.γ k=some x/\((∃ i:Nat,roots[i]? = some k.root)\/(k.path≠[]/\¬ Uses B k)))(hpar:∀ (i:Nat) r,roots[i]? = some r->GR.γ ⟨.par i,[]⟩=G2.γ ⟨r,[]⟩){sl bx' bx''}(h1:RelF G1 w' ⟨sl,qd 0 bx'⟩ ts1)(eb:mapO (mapO (renC (yP roots))) bx'=some bx'')(hlen:bx'.length=roots.length){dst v' V}{a:Act}(hts:ts=a.tmps)(hv:∀ d,dst=some d->∃ v,sl[0]? = some v/\ts1[0]? = some V/\renV (yP roots) v=some v'):
  ∃ G',RelF G' w' ((qB (yj B roots) roots bx'').putK dst v') (a.put dst V).tmps/\Gain G2 w G' w':=by
 subst hts;have hb:∀ r∈roots,r.boxed=true:=fun r hr=>by
  obtain⟨i,hi⟩:=List.getElem?_of_mem hr
  grind
 have hsome:∀ r∈roots,((yj B roots).boxes.lookup r).isSome=true:=fun r hr=>by obtain⟨i,hi⟩:=List.getElem?_of_mem hr;obtain⟨_,l,hl⟩:=hroot i r hi;rw[vT];simp[Fr.mapC,qH,hl]
 obtain⟨m1,m2⟩:=zM eb;have hl2:roots.length=bx''.length:=by omega
 have hU:∀ r r',yP roots r=some r'->retW dst roots r'=some r:=by
  intro r r' e;cases r with
  |par i=>
   simp only[yP]at e;unfold retW;rw[aF,qiG hn e];intro hd;have:=hb r' (aM e);cases dst with
   |none=>cases hd
   |some d=>simp only[av,aa]at hd;subst hd;simp[Root.boxed]at this
  |_=>simp[yP]at e
 let F:=(qB (yj B roots) roots bx'').putK dst v'
 -- the slots of the frame
 have slots:∀ k v,F.slots[k]? = some v->(dst=some k/\v=v'/\k<B.slots.length)\/(dst≠some k/\∃ v0,B.slots[k]? = some v0/\v=v0.mapC (qdQ dst roots)):=by
  intro k v e;have base:(qB (yj B roots) roots bx'').slots=B.slots.map (·.mapC (yA roots)):=by rw[yE,vT];rfl
  cases dst with
  |none=>right;refine⟨by simp,?_⟩;have e':(qB (yj B roots) roots bx'').slots[k]? = some v:=e;rw[base,aH]at e';simp only[aG]at e';obtain⟨v0,e1,rfl⟩:=e';exact⟨v0,e1,rfl⟩
  |some d=>
   have e':((((qB (yj B roots) roots bx'').slots.map (·.mapC (zn (.slot d)))).set d v')[k]?)=some v:=e;rw[base,List.getElem?_set]at e';by_cases hk:d=k
   . grind
   . rw[aF hk]at e';right;refine⟨by grind,?_⟩;rw[aH,aH]at e';simp only[aG]at e';obtain⟨v1,⟨v0,e1,rfl⟩,rfl⟩:=e';refine⟨v0,e1,?_⟩;simp[AV.mapC,qdQ,Function.comp_def]
 have boxes:∀ r,(∀ (i:Nat),roots[i]? = some r->∃ l'',bx''[i]? = some l''/\∃ f:Cell->Cell,(∀ c,f c=c\/f c=.dead)/\F.boxes.lookup r=some (l''.map f)) /\
   (r∉roots->F.boxes.lookup r=(B.boxes.lookup r).map (·.map (qdQ dst roots))):=by
  intro r;constructor
  .
   intro i hi;have hx:=qbr roots bx'' (yj B roots) hn hl2 hsome i r hi;have hlt:i<bx''.length:=by grind
   refine⟨_,ax hlt,?_⟩;rw[ax hlt]at hx;cases dst with
   |none=>exact⟨fun c=>c,fun c=>.inl rfl,by rw[List.map_id'];exact hx⟩
   |some d=>refine⟨zn (.slot d),yN _,?_⟩;show(mapB (zn (.slot d)) (qB (yj B roots) roots bx'').boxes).lookup r=_;rw[qH,hx];rfl
  .
   intro hr;have hx:=vB roots bx'' (yj B roots) r hr;have hy:(yj B roots).boxes.lookup r=(B.boxes.lookup r).map (·.map (yA roots)):=by rw[vT];exact qH _ _ _
   rw[hy]at hx;cases dst with
   |none=>exact hx
   |some d=>show(mapB (zn (.slot d)) (qB (yj B roots) roots bx'').boxes).lookup r=_;rw[qH,hx];simp only[Option.map_map,Function.comp_def,List.map_map];rfl
 have isSome:∀ r,(F.boxes.lookup r).isSome=(B.boxes.lookup r).isSome:=by
  intro r;by_cases hr:r∈roots
  . obtain⟨i,hi⟩:=List.getElem?_of_mem hr
    grind
  grind
 have len:F.slots.length=(a.put dst V).tmps.size:=by
  have h0:F.slots.length=B.slots.length:=by
   show((qB (yj B roots) roots bx'').putK dst v').slots.length=_;cases dst with
   |none=>show(qB (yj B roots) roots bx'').slots.length=_;rw[yE,vT];simp[Fr.mapC]
   |some d=>simp only[Fr.putK,Fr.put,List.length_set,Fr.mapC,List.length_map];rw[yE,vT];simp[Fr.mapC]
  rw[h0,h2.size];cases dst<;>simp[Act.put]
 have tsk:∀ k,dst≠some k->(a.put dst V).tmps[k]? = a.tmps[k]?:=by
  intro k hk;cases dst with
  |none=>rfl
  |some d=>
   have:d≠k:=by grind
   simp only[Act.put]
   grind
 have keepc:∀ {x:Pl} {c:Cell},B.get x=some c->qdQ dst roots c=.dead\/(qdQ dst roots c=c/\qdX (retW dst roots) c):=fun e=>qf2 hb _ (h2.clo_ptr e);have sp:Spliced (retW dst roots) ⟨sl,qd 0 bx'⟩ B F ts1 a.tmps (a.put dst V).tmps:=by
  refine⟨len,fun k v e=>?_,fun r l e=>?_⟩
  .
   rcases slots k v e with⟨rfl,rfl,hlt⟩|⟨hk,v0,e0,rfl⟩
   . obtain⟨v1,f1,f2,f3⟩:=hv k rfl;have hV:(a.put (some k) V).tmps[k]? = some V:=by simp only[Act.put];rw[aW,aD rfl,aD (by rw[<- h2.size];omega)]
     refine⟨V,hV,.inl ⟨0,v1,by simp[retW],f1,f2,?_⟩⟩;unfold renV at f3;cases hm:mapO (mapO (renC (yP roots))) v1.rows with
     |none=>grind
     |some rows'=>simp only[hm,aa]at f3;subst f3;exact⟨rfl,Qf hU hm⟩
   .
    obtain⟨V0,g1,_⟩:=h2.slots k v0 e0;by_cases hW:retW dst roots (.slot k)=none
    . refine⟨V0,by grind,.inr (.inl ⟨hW,v0,e0,g1,rfl,qfU fun r o c hc=>keepc (qz (zR e0) hc)⟩)⟩
    .
     exfalso;apply hW;unfold retW;rw[aF]
     . cases hx:idxOf roots (.slot k)with
       |none=>rfl
       |some a'=>obtain⟨i,_,hi⟩:=xu hx;have:=(hroot i _ hi).1;simp[Root.boxed]at this
     . cases dst with
       |none=>simp
       |some d=>grind
  .
   by_cases hr:r∈roots
   . obtain⟨i,hi⟩:=List.getElem?_of_mem hr;obtain⟨l'',q1,f,q2,q3⟩:=(boxes r).1 i hi;rw[q3]at e;cases e;obtain⟨l',q4,q5⟩:=m2 i l'' q1;left;refine⟨.par i,l',hU (.par i) r hi,by have:=qbj bx' 0 i;grind,?_⟩;have rr:=qbh hU q5;refine⟨by rw[rr.1];simp,fun r' o c hc=>?_⟩;obtain⟨rfl,ho⟩:=zI hc;rw[aH]at ho;simp only[aG]at ho;obtain⟨c0,ho,rfl⟩:=ho;obtain⟨c1,d1,d2⟩:=rr.2 0 o c0 (by simp[cellAt,ho])
     grind
   .
    rw[(boxes r).2 hr]at e;simp only[aG]at e;obtain⟨l0,e0,rfl⟩:=e;right;have hns:∀ k,r≠.slot k:=fun k e=>by have:=(h2.boxes r l0 e0).1;rw[e]at this;simp[Root.boxed]at this
    refine⟨?_,l0,e0,?_⟩
    .
     unfold retW;rw[aF]
     . cases hx:idxOf roots r with
       |none=>rfl
       |some a'=>obtain⟨i,_,hi⟩:=xu hx;grind
     . cases dst with
       |none=>simp
       |some d=>grind
    . have:=qfU (W:=retW dst roots) (f:=qdQ dst roots) (rows:=[l0]) (fun r' o c hc=>keepc (x:=⟨⟨r,[]⟩,r',o⟩) (qz (by simp only[Fr.rowsAt,B.rows_ns hns,e0,av,ae,getR]) hc))
      grind
 have hidx:∀ r a',retW dst roots r=some a'->(∃ i,a'=.par i/\roots[i]? = some r)\/(dst.map Root.slot=some r/\a'=.slot 0):=by
  intro r a' e;unfold retW at e;split at e
  . grind
  . obtain⟨i,h1,h2⟩:=xu e;grind
 have part:Part (retW dst roots) G2 GR G1 w w' B F:=by
  refine⟨hg,fun r r' a' e e'=>?_,fun r a' e=>?_,him,fun k1 x e=>?_,fun i a' e=>?_,fun d a' e hd=>?_,fun d a' e ho=>?_,fun d e hd=>by rw[isSome];exact h2.live d hd⟩
  . grind
  .
   rcases hidx _ _ e with⟨i,rfl,hi⟩|⟨hd,rfl⟩
   . rw[(hroot i r hi).1];rfl
   . cases dst with
     |none=>cases hd
     |some d=>simp only[av,aa]at hd;subst hd;rfl
  . obtain⟨k,e1,e2⟩:=hsrc k1 x e;refine⟨k,e1,e2.imp (fun ⟨i,hi⟩=>?_) (fun h=>h)⟩;rw[hU (.par i) k.root hi];rfl
  . rcases hidx _ _ e with⟨j,rfl,hj⟩|⟨hd,rfl⟩
    . rw[hg.par j];grind
    . cases dst<;>simp at hd
  . rcases hidx _ _ e with⟨j,rfl,hj⟩|⟨hd',rfl⟩
    . exact⟨by rw[hg.par j];grind,trivial⟩
    . cases dst<;>simp at hd'
  . rcases hidx _ _ e with⟨j,rfl,hj⟩|⟨hd',rfl⟩
    . grind
    . cases dst<;>simp at hd'
 exact⟨_,qap h2 h1 sp part⟩
end
section
variable [Glob]
theorem qiz {f c1 c}(e:renC f c1=some c):Xg c=Xg c1:=by
 cases c1 with
 |ptr q=>simp only[renC,renP,Option.map_map,aG]at e;obtain⟨r',h1,rfl⟩:=e;rfl
 |clo g fs cs=>
  simp only[renC]at e;split at e
  . simp only[aa]at e;subst e;rfl
  grind
 |ref q=>simp[renC]at e
 |_=>simp only[renC,aa]at e;grind
theorem RelF.thaw {G w v ts}(h:RelF G w ⟨[v],[]⟩ ts){im0}(him:∀ b,im0 b->G.im b)(hgl:∀ b,b<Glob.n->im0 b)(hn:∀ r o c,cellAt v.rows r o=some c->Xg c=true):RelF { G with im:=im0 } w ⟨[v],[]⟩ ts where
 inv:=⟨h.inv.inj,h.inv.lt,fun b hb=>h.inv.imlt b (him b hb),fun b hb=>⟨hgl b hb,(h.inv.glob b hb).2⟩⟩
 size:=h.size
 slots k v' e:=by
  obtain⟨V,hV,hs,hr⟩:=h.slots k v' e;refine⟨V,hV,hs,fun r o c hc=>?_⟩;obtain⟨u,hu,hh⟩:=hr r o c hc;refine⟨u,hu,hh.imp (fun h=>h) fun hh=>?_⟩;have hv:v'=v:=by grind
  subst hv;have:=hn r o c hc;cases c with
  |imm rows=>simp[Xg]at this
  |mp es=>simp[Xg]at this
  |cptr row o=>simp[Xg]at this
  |clo f fs cs=>obtain⟨vs,us,e1,e2,e3⟩:=hh;exact⟨vs,us,e1,qY.lv (G:=G) (G':={ G with im:=im0 }) rfl rfl e2,qY.lv (G:=G) (G':={ G with im:=im0 }) rfl rfl e3⟩
  |_=>exact hh
 boxes r l e:=by grind
 live d hd:=by have:=h.live d hd;omega
 cont k rows e hi:=by
  rcases h.cont k rows e hi with hnl|⟨x,vs,T,e1,e2,e3,e4,e5,e6,e7,e8,e9⟩
  . exact .inl hnl
  refine .inr ⟨x,vs,T,e1,e2,fun hb=>e3 (him _ hb),e4,e5,e6,e7,e8,fun r o c hc=>?_⟩;obtain⟨u,hu,hs⟩:=e9 r o c hc;refine⟨u,hu,?_⟩;have hval:∃ u',c=.val u':=by
   obtain⟨root,path⟩:=k;cases root with
   |slot j=>
    cases path with
    |nil=>rcases hi with hi|hi<;>simp[Root.boxed]at hi
    |cons y π=>
     obtain⟨r',o'⟩:=y;cases j with
     |succ j=>simp[Fr.rowsAt,Fr.rows]at e
     |zero=>
      simp only[Fr.rowsAt,Fr.rows,aI,av,ae,getR]at e;cases hx:cellAt v.rows r' o' with
      |none=>grind
      |some c'=>
       have hc':=hn r' o' c' hx;rw[hx]at e;cases c' with
       |own zz rs=>
        simp only[Xg,List.all_eq_true]at hc';have leaf:∀ {a b:Nat} {y:Cell},cellAt rs a b=some y->∃ u',y=.val u':=by
         intro a b y hy;obtain⟨row,q1,q2⟩:=qc.1 hy;have:=hc' row (aM q1) y (aM q2)
         grind
        cases π with
        |nil=>
         simp only[getR,aa]at e
         grind
        |cons z π=>
         obtain⟨a,b⟩:=z;simp only[getR]at e
         grind
       |_=>grind
   |_=>simp[Fr.rowsAt,Fr.rows]at e
  obtain⟨u',rfl⟩:=hval;exact hs
theorem Gain.thaw {G G' w w'}(h:Gain G w G' w'){im0}(him:∀ b,im0 b->G.im b):Gain { G with im:=im0 } w { G' with im:=im0 } w' where
 out:=h.out
 size:=h.size
 im b hb:=hb
 keep b hb:=h.keep b (him b hb)
 rest b hb hn:=⟨(h.rest b hb hn).1,fun h=>h⟩
 own:=h.own
 par:=h.par
 loc:=h.loc
theorem zL.src {G w F}:∀ {xs:List (Option Pl)} {l:List Cell} {us:List Value},zL G w F xs l us->∀ s,some s∈xs->∀ π,¬ Uses F (s.under π)
 |x::xs,c::l,u::us,⟨h1,h2⟩,s,hm=>by
  rcases List.mem_cons.1 hm with rfl|hm
  . exact h1.2.2.2.2
  . exact h2.src s hm
 |[],[],[],_,s,hm=>by simp at hm
 |[],[],_::_,h,_,_=>h.elim
 |[],_::_,_,h,_,_=>h.elim
 |_::_,[],_,h,_,_=>h.elim
 |_::_,_::_,[],h,_,_=>h.elim
theorem Args.src {G w F held}:∀ {j:Nat} {xss:List (List (Option Pl))} {vs:List AV} {Vs:List Value},Args G w F held j xss vs Vs ->
  ∀ s,some s∈xss.flatten->∀ π,¬ Uses F (s.under π)
 |_,[],[],[],_,s,hm=>by simp at hm
 |j,xs::xss,v::vs,V::Vs,⟨h1,h2⟩,s,hm=>by
  rw[List.flatten_cons,List.mem_append]at hm;rcases hm with hm|hm
  . by_cases hj:held j=true
    . rw[aD hj]at h1;obtain⟨l,us,h3,_⟩:=h1;exact h3.src s hm
    . rw[aF hj]at h1;rw[h1.1]at hm;simp at hm
  . exact h2.src s hm
 |_,[],[],_::_,h,_,_=>h.elim
 |_,[],_::_,_,h,_,_=>h.elim
 |_,_::_,[],_,h,_,_=>h.elim
 |_,_::_,_::_,[],h,_,_=>h.elim
def Went (G:Gh)(w:World)(res:ARes)(bx':List (List Cell))(e:Ending)(w':World):Prop:=∃ G',Gain G w G' w'/\match res with
 |.ret v=>∃ V,e=.returned V/\RelF G' w' ⟨[v],qd 0 bx'⟩ #[V]
 |.panic v=>e=.panicked [{ v,recovered:=false }]/\RelF G' w' ⟨[],qd 0 bx'⟩ #[]
def qN (P:Program)(rec:Oracle):Prop:=∀ f args bx res bx',rec f args bx=some (res,bx')->∀ G w (Vs:Array Value),RelF G w ⟨args,qd 0 bx⟩ Vs->Calls P f Vs w (Went G w res bx')
def Back (G:Gh)(w:World)(a:Act)(dst:Option Nat)(F':Fr)(r:Option Value)(e:Ending)(w':World):Prop:=∃ G',Gain G w G' w'/\match r with
 |none=>∃ V,e=.returned V/\RelF G' w' F' (a.put dst V).tmps
 |some v=>e=.panicked [{ v,recovered:=false }]/\RelF G' w' F' a.tmps
theorem qaX {cx rec}{C:Nat->Array Value->World->(Ending->World->Prop)->Prop}(hmono:∀ f Vs w R R',C f Vs w R->(∀ e w',R e w'->R' e w')->C f Vs w R')(hrec:∀ f args bx res bx',rec f args bx=some (res,bx')->∀ G w (Vs:Array Value),RelF G w ⟨args,qd 0 bx⟩ Vs->C f Vs w (Went G w res bx')){G w F F' a}(h:RelF G w F a.tmps){dst f vs}{Vs:List Value}(hl:vs.length=Vs.length)(hv:∀ (j:Nat) v V,vs[j]? = some v->Vs[j]? = some V->RelV G w v V){r}(e:vZ cx rec F dst f vs=some (F',r)):
  C f Vs.toArray w (Back G w a dst F' r):=by
 unfold vZ at e;cases e1:yT cx f F 0 vs with
 |none=>grind
 |some y=>
  obtain⟨vs1,F1⟩:=y;simp only[e1]at e;cases e2:vg cx f F1 0 vs1 with
  |none=>grind
  |some z=>
   obtain⟨args,lent⟩:=z;simp only[e2]at e;generalize hroots:yl F1 3 (zm [] (args.flatMap fun v=>v.rows.flatMap fun l=>l.flatMap Xz))=roots at e;cases e3:mapO (renV (idxOf roots)) args with
   |none=>grind
   |some args'=>
    cases e4:mapO (qbl F1 (idxOf roots)) roots with
    |none=>grind
    |some bx=>
     simp only[e3,e4]at e;cases e5:rec f args' bx with
     |none=>grind
     |some q=>
      obtain⟨res,bx'⟩:=q;simp only[e5]at e;cases e6:mapO (mapO (renC (yP roots))) bx' with
      |none=>grind
      |some bx''=>
       simp only[e6]at e;split at e
       .
        rename_i hc;simp only[aC,beq_iff_eq,List.all_eq_true,Bool.not_eq_true',List.contains_eq_mem,decide_eq_false_iff_not]at hc;obtain⟨⟨⟨c1,c2⟩,c3⟩,c4⟩:=hc;cases e7:zG F1 lent with
        |none=>grind
        |some Ff=>
         simp only[e7]at e;obtain⟨im1,xss,a1,a2,a3,a4,a5,_⟩:=vX vs Vs 0 vs1 G F F1 h hl hv e1;obtain⟨im2,b1,b2,b3,b4,b5⟩:=xE lent _ F1 Ff a1 e7;obtain⟨xss',d1,d2⟩:=Xx a1 b3 a4 e2 b4;have hn:=qb9 c4;have lk:∀ r∈roots,r.boxed=true->Ff.boxes.lookup r=F1.boxes.lookup r:=fun r hr hb=>by
          have:=b5 r (fun p hp hpr=>c1 p hp (hpr▸hr));have hns:∀ k,r≠.slot k:=fun k e=>by rw[e]at hb;simp[Root.boxed]at hb
          rw[Fr.rows_ns _ hns,Fr.rows_ns _ hns]at this;cases hx:F1.boxes.lookup r<;>cases hy:Ff.boxes.lookup r<;>simp_all
         have e4':mapO (qbl Ff (idxOf roots)) roots=some bx:=by
          have:∀ l:List Root,(∀ r∈l,r∈roots)->mapO (qbl Ff (idxOf roots)) l=mapO (qbl F1 (idxOf roots)) l:=by
           intro l
           induction l with
           |nil=>intro _;rfl
           |cons r l ih=>
            intro hm;have hb:qbl Ff (idxOf roots) r=qbl F1 (idxOf roots) r:=by
             unfold qbl
             grind
            simp only[mapO,hb,ih (fun r' hr'=>hm r' (aB _ hr'))]
          grind
         obtain⟨g1,g2,g3⟩:=qio b1 d1 (by rw[d2];exact a5) hn e3 e4';have hpar:∀ (i:Nat) r,roots[i]? = some r->(Gh.enter { G with im:=im2 } roots xss').γ ⟨.par i,[]⟩=G.γ ⟨r,[]⟩:=fun i r hi=>by simp only[Gh.enter,hi]
         refine hmono _ _ _ _ _ (hrec f args' bx res bx' e5 _ w _ g1) fun en w' hw=>?_;obtain⟨G1,k1,k2⟩:=hw;cases res with
         |panic v=>simp only[aa,ai]at e;obtain⟨rfl,rfl⟩:=e;obtain⟨rfl,k3⟩:=k2;obtain⟨G',l1,l2⟩:=Qg (dst:=none) (v':=.undef) (V:=Go.undef) (a:=a) b1 hn g3 k1 rfl g2 hpar k3 e6 c2 rfl (by simp);exact⟨G',a2.trans (b2.trans l2),rfl,l1⟩
         |ret v=>
          obtain⟨V,rfl,k3⟩:=k2;simp only at e;cases e8:renV (yP roots) v with
          |none=>grind
          |some v'=>
           simp only[e8,aa,ai]at e;obtain⟨rfl,rfl⟩:=e;by_cases ht:(roots.isEmpty&&v'.rows.all (fun (l:List Cell)=>l.all Xg))=true
           .
            rw[aD ht];simp only[aC,List.isEmpty_iff,List.all_eq_true]at ht;obtain⟨rfl,ht⟩:=ht;have hb0:bx'=[]:=by cases bx'<;>first|rfl|grind
            subst hb0;have hno:∀ r o c,cellAt v.rows r o=some c->Xg c=true:=by
             intro r o c hc;unfold renV at e8;cases hm:mapO (mapO (renC (yP []))) v.rows with
             |none=>grind
             |some rows'=>
              simp only[hm,aa]at e8;subst e8;obtain⟨row,q1,q2⟩:=qc.1 hc;obtain⟨m1,m2⟩:=zM hm;have hlt:r<rows'.length:=by grind
              obtain⟨row0,q3,q4⟩:=m2 r _ (ax hlt);rw[q1]at q3;cases q3;obtain⟨n1,n2⟩:=zM q4;have hlo:o<(rows'[r]).length:=by grind
              obtain⟨c0,q5,q6⟩:=n2 o _ (ax hlo);rw[q2]at q5;cases q5;rw[<- qiz q6];exact ht _ (List.getElem_mem hlt) _ (List.getElem_mem hlo)
            have him12:∀ b,im1 b->im2 b:=b3.im;have k3':=k3.thaw (im0:=im1) (fun b hb=>k1.im b (him12 b hb)) (fun b hb=>(a1.inv.glob b hb).1) hno;have k1':=k1.thaw (im0:=im1) him12;obtain⟨G',l1,l2⟩:=Qg (dst:=dst) (v':=v') (V:=V) (a:=a) (bx':=[]) (bx'':=bx'') a1 hn (by simp) k1' rfl (fun k x e=>by
             rcases vL (G:={ G with im:=im2 }) (k:=k) (x:=x) (roots:=[]) (xss:=xss') e with⟨i,r,f1,f2,f3⟩|⟨j,o,π,s,rfl,f2,f3⟩
             . grind
             . refine⟨_,f3,.inr ⟨by simp[Pl.under],?_⟩⟩;obtain⟨xs,p1,p2⟩:=ZH f2;have:s∈xss'.flatten.filterMap id:=by simp only[List.mem_filterMap,id,exists_eq_right,List.mem_flatten];exact⟨xs,aM p1,aM p2⟩
               rw[d2]at this;simp only[List.mem_filterMap,id,exists_eq_right]at this;exact a4.src s this π) (by simp) k3' e6 rfl rfl (fun d hd=>⟨v,rfl,rfl,e8⟩)
            exact⟨G',a2.trans l2,V,rfl,l1⟩
           . rw[aF ht];obtain⟨G',l1,l2⟩:=Qg (dst:=dst) (v':=v') (V:=V) (a:=a) b1 hn g3 k1 rfl g2 hpar k3 e6 c2 rfl (fun d hd=>⟨v,rfl,rfl,e8⟩);exact⟨G',a2.trans (b2.trans l2),V,rfl,l1⟩
       grind
theorem qeP {cx rec}(hrec:qN cx.P rec){G w F F' a}(h:RelF G w F a.tmps){dst f vs}{Vs:List Value}(hl:vs.length=Vs.length)(hv:∀ (j:Nat) v V,vs[j]? = some v->Vs[j]? = some V->RelV G w v V){r}(e:vZ cx rec F dst f vs=some (F',r)):
  Calls cx.P f Vs.toArray w (Back G w a dst F' r):=qaX (C:=fun f Vs w R=>Calls cx.P f Vs w R) (fun _ _ _ _ _ h hm=>h.mono hm) hrec h hl hv e
end
section
variable [Glob]
def Qo (G:Gh)(w:World)(F:Fr):Option Pl->Cell->Value->Prop
 |none,c,v=>c=.dead\/(Seen c/\(∀ q,c≠.ref q)/\(∀ q,c=.ptr q->∃ i,q.key.root=.par i)/\(∀ f fs cs,c≠.clo f fs cs)/\∀ p,Sh G w p c v)
 |some s,c,v=>((∀ i,s.key.root≠.par i)/\s.key.path=[])/\¬ Seen c/\Sh G w s c v/\Tree G w s c/\∀ π,¬ Uses F (s.under π)
theorem Qo.shr {G G' F F' w}(hs:Shr G F G' F')(inv:GInv G w){x c v}(h:Qo G w F x c v):Qo G' w F' x c v:=by
 cases x with
 |none=>
  rcases h with h|⟨h1,h2,h3,h4,h5⟩
  . exact .inl h
  . exact .inr ⟨h1,h2,h3,h4,fun p=>(h5 p).shr hs h1.2⟩
 |some s=>
  obtain⟨h1,h2,h3,h4,h5⟩:=h;have h4':=h4.shr hs inv h5;refine⟨h1,h2,?_,h4',fun π hu=>h5 π (hs.uses _ hu)⟩;cases c with
  |own zz rows=>exact h3.shr hs (by simp)
  |mp es=>
   obtain⟨y,ents,clock,e1,e2,e3,e4,e5,e6⟩:=h3;refine⟨y,ents,clock,by rw[hs.γ];exact e1,e2,e3,fun hi=>?_,e5,e6.mono hs.im (fun _ _=>rfl)⟩;rcases hs.new _ hi with hi|⟨k,z,hk,hz,hb⟩
   . grind
   . have:=inv.inj _ _ _ _ hz e1 hb;subst this;exact h5 [] (by rw[Pl.under_nil];exact hk)
  |_=>exact absurd (by constructor<;>intros<;>simp) h2
theorem qgE {G w F F' ts c c' v}(h:RelF G w F ts)(hc:c=.dead\/(Seen c/\∀ p,Sh G w p c v))(e:resC F c=some (c',F')):
  ∃ im' x,RelF { G with im:=im' } w F' ts/\Gain G w { G with im:=im' } w/\Shr G F { G with im:=im' } F'/\Qo { G with im:=im' } w F' x c' v /\
   ∀ s,x=some s->Uses F s.toKey:=by
 rcases hc with rfl|⟨hc,hs⟩
 . simp only[resC,aa,ai]at e;obtain⟨rfl,rfl⟩:=e;exact⟨G.im,none,h,Gain.refl G w,Shr.refl G F,.inl rfl,by grind⟩
 have same:c'=c->F'=F->(∀ q,c≠.ref q)->(∀ q,c=.ptr q->∃ i,q.key.root=.par i)->(∀ f fs cs,c≠.clo f fs cs) ->
   ∃ im' x,RelF { G with im:=im' } w F' ts/\Gain G w { G with im:=im' } w/\Shr G F { G with im:=im' } F'/\Qo { G with im:=im' } w F' x c' v/\∀ s,x=some s->Uses F s.toKey:=by
  rintro rfl rfl hr hp hf
  exact⟨G.im,none,h,Gain.refl G w,Shr.refl G F',.inr ⟨hc,hr,hp,hf,hs⟩,by grind⟩
 have moved:∀ p c0 F1,F.get p=some c0->¬ Seen c0->((∀ i,p.key.root≠.par i)/\p.key.path=[])->c=.ref p->F.set p .dead=some F1->c'=c0->F'=F1.kill p ->
   ∃ im' x,RelF { G with im:=im' } w F' ts/\Gain G w { G with im:=im' } w/\Shr G F { G with im:=im' } F'/\Qo { G with im:=im' } w F' x c' v/\∀ s,x=some s->Uses F s.toKey:=by
  rintro p c0 F1 hg hns hk rfl hset rfl rfl
  have st:=Fr.setTo hset;have r1:=h.empty st;have hsv:=(yD h hs hg hns).1;refine⟨G.im,some p,r1.mapC (qM p),Gain.refl G w,⟨rfl,rfl,fun _ h=>h,fun _ h=>.inl h,fun k hu=>?_⟩,⟨hk,hns,hsv,h.tree hg,fun π=>vH r1 st.new π⟩,fun s e=>?_⟩
  . exact st.uses rfl (fun _=>rfl) ((Weak.mapC (qM p) F1).uses hu)
  . cases e;exact .inr ⟨p,c',hg,qa2 hns⟩
 cases c with
 |ref p=>
  simp only[resC]at e;cases hg:F.get p with
  |none=>grind
  |some c0=>
   have fr:∀ zz rows,c0=.own zz rows->(F.set p (.imm (qG rows))).map (fun F'=>(Cell.imm (qG rows),F'))=some (c',F') ->
     ∃ im' x,RelF { G with im:=im' } w F' ts/\Gain G w { G with im:=im' } w/\Shr G F { G with im:=im' } F'/\Qo { G with im:=im' } w F' x c' v/\∀ s,x=some s->Uses F s.toKey:=by
    rintro zz rows rfl e
    cases hset:F.set p (.imm (qG rows))with
    |none=>grind
    |some F1=>simp only[hset,av,aa,ai]at e;obtain⟨rfl,rfl⟩:=e;obtain⟨a1,a2,a3,a4⟩:=h.freezeAt hg (Fr.setTo hset);have hsv:=(yD h hs hg (fun hn=>hn.1 _ rows rfl)).1;exact⟨_,none,a1,a2,a3,.inr ⟨⟨by grind,by grind⟩,by grind,by grind,by grind,fun p=>a4 v hsv⟩,by grind⟩
   have mv:((∀ i,p.key.root≠.par i)/\p.key.path=[])->¬ Seen c0->(F.set p .dead).map (fun F'=>(c0,F'.kill p))=some (c',F') ->
     ∃ im' x,RelF { G with im:=im' } w F' ts/\Gain G w { G with im:=im' } w/\Shr G F { G with im:=im' } F'/\Qo { G with im:=im' } w F' x c' v/\∀ s,x=some s->Uses F s.toKey:=by
    intro hk hns e;cases hset:F.set p .dead with
    |none=>grind
    |some F1=>grind
   have mvb:movable p=true->(∀ i,p.key.root≠.par i)/\p.key.path=[]:=by
    intro hm;unfold movable at hm
    grind
   cases c0 with
   |own zz rows=>
    rw[hg]at e;simp only at e;split at e
    . rename_i hm;exact mv (mvb hm) (fun hn=>hn.1 _ rows rfl) e
    grind
   |mp es=>
    rw[hg]at e;simp only at e;split at e
    . rename_i hm;exact mv (mvb hm) (fun hn=>hn.2 es rfl) e
    grind
   |_=>grind
 |ptr q=>
  simp only[resC]at e;cases hr:q.key.root with
  |par i=>rw[hr]at e;simp_all
  |_=>grind
 |clo f fs cs=>simp[resC]at e
 |_=>simp only[resC,aa,ai]at e;exact same e.1.symm e.2.symm (fun _ h=>by cases h) (fun _ h=>by cases h) (fun _ _ _ h=>by cases h)
def vV (G:Gh)(w:World)(F:Fr):List (Option Pl)->List Cell->List Value->Prop
 |[],[],[]=>True
 |x::xs,c::l,u::us=>Qo G w F x c u/\vV G w F xs l us
 |_,_,_=>False
theorem vV.shr {G G' F F' w}(hs:Shr G F G' F')(inv:GInv G w):∀ {xs:List (Option Pl)} {l:List Cell} {us:List Value},vV G w F xs l us->vV G' w F' xs l us
 |[],[],[],_=>trivial
 |_::_,_::_,_::_,⟨h1,h2⟩=>⟨h1.shr hs inv,h2.shr hs inv⟩
 |[],[],_::_,h=>h.elim
 |[],_::_,_,h=>h.elim
 |_::_,[],_,h=>h.elim
 |_::_,_::_,[],h=>h.elim
theorem vV.len {G w F}:∀ {xs:List (Option Pl)} {l:List Cell} {us:List Value},vV G w F xs l us->xs.length=l.length/\us.length=l.length
 |[],[],[],_=>⟨rfl,rfl⟩
 |_::_,_::_,_::_,⟨_,h2⟩=>by have:=h2.len;simp[this.1,this.2]
 |[],[],_::_,h=>h.elim
 |[],_::_,_,h=>h.elim
 |_::_,[],_,h=>h.elim
 |_::_,_::_,[],h=>h.elim
theorem vV.get {G w F}:∀ {xs:List (Option Pl)} {l:List Cell} {us:List Value},vV G w F xs l us->∀ {o:Nat} {c:Cell},l[o]? = some c ->
  ∃ x u,xs[o]? = some x/\us[o]? = some u/\Qo G w F x c u
 |x::xs,c::l,u::us,⟨h1,h2⟩,0,c',e=>by cases e;exact⟨x,u,rfl,rfl,h1⟩
 |x::xs,c::l,u::us,⟨h1,h2⟩,o+1,c',e=>by simpa using h2.get (by simpa using e)
 |[],[],[],_,o,c,e=>by simp at e
 |[],[],_::_,h,_,_,_=>h.elim
 |[],_::_,_,h,_,_,_=>h.elim
 |_::_,[],_,h,_,_,_=>h.elim
 |_::_,_::_,[],h,_,_,_=>h.elim
theorem vV.nouse {G w F}:∀ {xs:List (Option Pl)} {l:List Cell} {us:List Value},vV G w F xs l us->∀ {s:Pl},some s∈xs->((∀ i,s.key.root≠.par i)/\s.key.path=[])/\∀ π,¬ Uses F (s.under π)
 |x::xs,c::l,u::us,⟨h1,h2⟩,s,hm=>by
  rcases List.mem_cons.1 hm with rfl|hm
  . exact⟨h1.1,h1.2.2.2.2⟩
  . exact h2.nouse hm
 |[],[],[],_,s,hm=>by simp at hm
 |[],[],_::_,h,_,_=>h.elim
 |[],_::_,_,h,_,_=>h.elim
 |_::_,[],_,h,_,_=>h.elim
 |_::_,_::_,[],h,_,_=>h.elim
theorem qbS {w ts}:∀ (l l':List Cell) (us:List Value) (G:Gh) (F F':Fr),RelF G w F ts->vz G w l us->resL F l=some (l',F') ->
  ∃ im' xs,RelF { G with im:=im' } w F' ts/\Gain G w { G with im:=im' } w/\Shr G F { G with im:=im' } F'/\vV { G with im:=im' } w F' xs l' us/\Nod xs /\
   ∀ s,some s∈xs->Uses F s.toKey
 |[],l',[],G,F,F',h,_,e=>by simp only[resL,aa,ai]at e;obtain⟨rfl,rfl⟩:=e;exact⟨G.im,[],h,Gain.refl G w,Shr.refl G F,trivial,List.nodup_nil,by simp⟩
 |c::l,l',u::us,G,F,F',h,⟨h1,h2⟩,e=>by
  simp only[resL]at e;cases e1:resC F c with
  |none=>simp[e1]at e
  |some y=>
   obtain⟨c1,F1⟩:=y;simp only[e1]at e;cases e2:resL F1 l with
   |none=>simp[e2]at e
   |some z=>
    obtain⟨l1,F2⟩:=z;simp only[e2,aa,ai]at e;obtain⟨rfl,rfl⟩:=e;obtain⟨im1,x,a1,a2,a3,a4,a5⟩:=qgE h h1 e1;obtain⟨im2,xs,b1,b2,b3,b4,b5,b6⟩:=qbS l l1 us { G with im:=im1 } F1 F2 a1 (h2.shr a3) e2;refine⟨im2,x::xs,b1,a2.trans b2,a3.trans b3,⟨a4.shr b3 a1.inv,b4⟩,?_,fun s hs=>?_⟩
    . unfold Nod;cases x with
      |none=>exact b5
      |some s=>simp only[List.filterMap_cons,id];refine List.nodup_cons.2 ⟨fun hm=>?_,b5⟩;simp only[List.mem_filterMap,id,exists_eq_right]at hm;exact a4.2.2.2.2 [] (by rw[Pl.under_nil];exact b6 s hm)
    . rcases List.mem_cons.1 hs with rfl|hs
      . exact a5 s rfl
      . exact a3.uses _ (b6 s hs)
 |[],_,_::_,_,_,_,_,h,_=>h.elim
 |_::_,_,[],_,_,_,_,h,_=>h.elim
def ResV (g:Bool)(l:List Cell)(us:List Value)(U:Value):Prop:=us.length=l.length/\if g then U=.agg us.toArray else ∃ c u,l=[c]/\us=[u]/\U=u
theorem ResV.re {g l l1 us U}(h:ResV g l us U)(hl:us.length=l1.length):ResV g l1 us U:=by
 refine⟨hl,?_⟩;have hh:=h.2;cases g with
 |true=>exact hh
 |false=>
  simp only[aT,if_false]at *;obtain⟨c,u,h1,h2,h3⟩:=hh;have:l1.length=1:=by grind
  obtain⟨c1,hc1⟩:=List.length_eq_one_iff.1 this
  grind
def XH (G:Gh)(w:World)(F:Fr):List (List (Option Pl))->List (Bool×List Cell)->List Value->Prop
 |[],[],[]=>True
 |xs::xss,(g,l)::vs,U::Us=>(∃ us,vV G w F xs l us/\ResV g l us U)/\XH G w F xss vs Us
 |_,_,_=>False
theorem XH.get {G w F}:∀ {xss:List (List (Option Pl))} {vs:List (Bool×List Cell)} {Us:List Value},XH G w F xss vs Us->Us.length=vs.length /\
  ∀ (r:Nat) g l,vs[r]? = some (g,l)->∃ xs U us,xss[r]? = some xs/\Us[r]? = some U/\vV G w F xs l us/\ResV g l us U
 |[],[],[],_=>⟨rfl,by simp⟩
 |xs::xss,(g,l)::vs,U::Us,⟨⟨us,h1,h1'⟩,h2⟩=>by
  obtain⟨i1,i2⟩:=h2.get;refine⟨by simp[i1],fun r g' l' e=>?_⟩;cases r with
  |zero=>simp only[aI,aa,ai]at e;obtain⟨rfl,rfl⟩:=e;exact⟨xs,U,us,rfl,rfl,h1,h1'⟩
  |succ r=>simpa using i2 r g' l' (by simpa using e)
 |[],[],_::_,h=>h.elim
 |[],_::_,_,h=>h.elim
 |_::_,[],_,h=>h.elim
 |_::_,_::_,[],h=>h.elim
theorem qjF {P G w F}{a:Act}(h:RelF G w F a.tmps){x v}(e:resV P F x=some v):
  ∃ U,(match x with
   |.tmp t=>pure (a.tmps.getD t Go.undef)
   |.cell b t=>do loadVar t (<- asAddr (a.tmps.getD b Go.undef)):Sem Value).run P w=.ok U w/\RelV G w v U:=by
 cases x with
 |tmp t=>simp only[resV,aa]at e;subst e;exact⟨_,rfl,qx h (.tmp t)⟩
 |cell b t=>
  simp only[resV]at e;split at e
  .
   rename_i c n g hc hn hg;cases hl:F.loadL n c with
   |none=>grind
   |some l=>
    simp only[hl,ae]at e;have hd:c≠.dead:=by rintro rfl;simp[Fr.loadL]at hl
    obtain⟨_,hs⟩:=qp h hc hd;obtain⟨ad,us,hV,hlen,hll,hcell,hrel⟩:=qa6 h hs hl;obtain⟨U,hU,hr⟩:∃ U,(loadVar t ad).run P w=.ok U w/\RelV G w v U:=by
     have hagg:=vK hg;cases g with
     |true=>
      have hlc:=run_loadCells_list (P:=P) w ad us hcell;rw[hlen]at hlc;simp only[mkAV,if_true,aa]at e;subst e;refine⟨.agg us.toArray,?_,RelV.ag (by grind) fun o c ho=>?_⟩
      . simp only[loadVar,aK,hagg,ay,if_true,qK hn,hlc,aU]
      grind
     |false=>
      unfold mkAV at e;simp only[aT,if_false]at e;split at e
      . rename_i x;simp only[aa]at e;subst e;obtain⟨u,hu,hx⟩:=hrel 0 x rfl;have h0:=hcell 0 u hu;have:ad.add 0=ad:=rfl;rw[this]at h0;refine⟨u,?_,RelV.c hx⟩;simp only[loadVar,aK,hagg,ay,aT,if_false,run_load,h0]
      grind
    refine⟨U,?_,hr⟩;have hV':a.tmps.getD b Go.undef=.pointer (some ad):=hV;simp only[hV',asAddr,aK,aU,ay];exact hU
  grind
theorem XH.shr {G G' F F' w}(hs:Shr G F G' F')(inv:GInv G w):∀ {xss:List (List (Option Pl))} {vs:List (Bool×List Cell)} {Us:List Value},
  XH G w F xss vs Us->XH G' w F' xss vs Us
 |[],[],[],_=>trivial
 |_::_,(_,_)::_,_::_,⟨⟨us,h1,h1'⟩,h2⟩=>⟨⟨us,h1.shr hs inv,h1'⟩,h2.shr hs inv⟩
 |[],[],_::_,h=>h.elim
 |[],_::_,_,h=>h.elim
 |_::_,[],_,h=>h.elim
 |_::_,_::_,[],h=>h.elim
theorem QE {P w}{a:Act}:∀ (rs:List ResultVar) (vs:List (Bool×List Cell)) (G:Gh) (F F':Fr),RelF G w F a.tmps->QS P F rs=some (vs,F') ->
  ∃ im' xss Us,(rs.mapM (fun x=>(match x with
    |.tmp t=>pure (a.tmps.getD t Go.undef)
    |.cell b t=>do loadVar t (<- asAddr (a.tmps.getD b Go.undef)):Sem Value))).run P w=.ok Us w /\
   RelF { G with im:=im' } w F' a.tmps/\Gain G w { G with im:=im' } w/\Shr G F { G with im:=im' } F'/\XH { G with im:=im' } w F' xss vs Us/\Nod xss.flatten /\
   ∀ s,some s∈xss.flatten->Uses F s.toKey
 |[],vs,G,F,F',h,e=>by simp only[QS,aa,ai]at e;obtain⟨rfl,rfl⟩:=e;exact⟨G.im,[],[],rfl,h,Gain.refl G w,Shr.refl G F,trivial,List.nodup_nil,by simp⟩
 |x::rs,vs,G,F,F',h,e=>by
  simp only[QS]at e;cases e0:resV P F x with
  |none=>simp[e0]at e
  |some v=>
   simp only[e0]at e;obtain⟨U,hU,hr⟩:=qjF h e0;have key:∃ l,v.cells=some l/\(match resL F l with
     |some (l',F')=>(match QS P F' rs with
      |some (vs,F'')=>some (((match v.tag with|.agg=>true|_=>false),l')::vs,F'')
      |none=>none)
     |none=>none)=some (vs,F'):=by
    cases ht:v.cells with
    |none=>rw[ht]at e;cases hg:v.tag<;>simp[hg]at e
    |some l=>refine⟨l,rfl,?_⟩;rw[ht]at e;cases hg:v.tag<;>rw[hg]at e<;>first|exact e|cases e
   clear e;obtain⟨l,ht,e⟩:=key
   .
    skip
    cases e1:resL F l with
    |none=>simp[e1]at e
    |some y=>
     obtain⟨l1,F1⟩:=y;simp only[e1]at e;cases e2:QS P F1 rs with
     |none=>simp[e2]at e
     |some z=>
      obtain⟨vs1,F2⟩:=z;simp only[e2,aa,ai]at e;obtain⟨rfl,rfl⟩:=e
      -- the cells as values
      have cells:∃ us,vz G w l us/\ResV (match v.tag with|.agg=>true|_=>false) l us U:=by
       rcases Xf ht with⟨hag,hv⟩|⟨hag,c,hv,hl⟩
       . rw[hv]at hr;obtain⟨vs0,rfl,e3,e4⟩:=hr.agg_inv;refine⟨vs0.toList,vz.of_get (by simpa using e3) (fun o c ho=>by obtain⟨u,hu,hx⟩:=e4 o c ho;exact⟨u,by simpa using hu,hx⟩),by simpa using e3,?_⟩;rw[hag];simp
       . subst hl;rw[hv]at hr;obtain⟨u,hu,hx⟩:=hr.2 0 0 c rfl;simp only[AV.c,qX,aa]at hu;subst hu;refine⟨[U],⟨hx,trivial⟩,rfl,?_⟩;rw[hag];exact⟨c,U,rfl,rfl,rfl⟩
      obtain⟨us,hus,hres⟩:=cells;obtain⟨im1,xs,a1,a2,a3,a4,a5,a6⟩:=qbS l l1 us G F F1 h hus e1;obtain⟨im2,xss,Us,b0,b1,b2,b3,b4,b5,b6⟩:=QE rs vs1 { G with im:=im1 } F1 F2 a1 e2;refine⟨im2,xs::xss,U::Us,?_,b1,a2.trans b2,a3.trans b3,⟨⟨us,a4.shr b3 a1.inv,?_⟩,b4⟩,?_,fun s hs=>?_⟩
      . rw[List.mapM_cons,aK,hU,ay,aK,b0,ay];rfl
      . exact hres.re a4.len.2
      . unfold Nod;rw[List.flatten_cons,List.filterMap_append,List.nodup_append];refine⟨a5,b5,?_⟩;intro s hs s' hs' he;subst he;simp only[List.mem_filterMap,id,exists_eq_right]at hs hs';exact(a4.nouse hs).2 [] (by rw[Pl.under_nil];exact b6 s hs')
      . rw[List.flatten_cons,List.mem_append]at hs;rcases hs with hs|hs
        . exact a6 s hs
        . exact a3.uses _ (b6 s hs)
end
section
variable [Glob]
def Gh.leave (G:Gh)(xss:List (List (Option Pl))):Gh where
 γ k:=match k.root with
  |.par _=>G.γ k
  |.slot 0=>match k.path with
   |(r,o)::π=>match qo0 xss r o with
    |some s=>G.γ (s.under π)
    |none=>none
   |_=>none
  |_=>none
 im:=G.im
 lv _:=False
theorem ZX {G:Gh}{xss k x}(e:(G.leave xss).γ k=some x):
  (∃ i,k.root=.par i/\G.γ k=some x)\/(∃ r o π s,k=⟨.slot 0,(r,o)::π⟩/\qo0 xss r o=some s/\G.γ (s.under π)=some x):=by
 obtain⟨r,path⟩:=k;unfold Gh.leave at e
 grind
def parW:Root->Option Root
 |.par i=>some (.par i)
 |_=>none
theorem qhL (r r')(h:qcR r=some r'):parW r'=some r:=by
 cases r with
 |par i=>simp only[qcR,aa]at h;subst h;rfl
 |_=>simp[qcR]at h
def qbe (Us:Array Value):Value:=if h:Us.size=1 then Us[0]else .tuple Us
theorem qii {G w F xss vs Us}(hh:XH G w F xss vs Us){v}(e:qjr vs=some v):
  QO v.tag (v.rows.map List.length) (qbe Us.toArray)/\∀ r o c,cellAt v.rows r o=some c->∃ xs us u,xss[r]? = some xs/\qX v.tag (qbe Us.toArray) r o=some u/\xs[o]? = some us/\Qo G w F us c u:=by
 obtain⟨g1,g2⟩:=hh.get;unfold qjr at e;split at e
 .
  rename_i g l;obtain⟨xs,U,us,h1,h2,h3,h4⟩:=g2 0 g l rfl;have hU:qbe Us.toArray=U:=by
   have:Us=[U]:=by
    cases Us with
    |nil=>grind
    |cons a l=>grind
   subst this;rfl
  rw[hU];cases g with
  |true=>simp only[mkAV,if_true,aa]at e;subst e;have hU':U=.agg us.toArray:=h4.2;subst hU';refine⟨⟨_,rfl,by simp[h4.1]⟩,fun r o c hc=>?_⟩;obtain⟨rfl,ho⟩:=zI hc;obtain⟨x,u,i1,i2,i3⟩:=h3.get ho;exact⟨xs,x,u,h1,by simpa [qX,AV.ag]using i2,i1,i3⟩
  |false=>
   unfold mkAV at e;simp only[aT,if_false]at e;split at e
   . rename_i x;simp only[aa]at e;subst e;have hh:=h4.2;simp only[aT,if_false]at hh;obtain⟨c0,u0,q1,q2,rfl⟩:=hh;refine⟨trivial,fun r o c hc=>?_⟩;obtain⟨rfl,rfl,rfl⟩:=one_cell hc;obtain⟨x,u,i1,i2,i3⟩:=h3.get (o:=0) rfl;rw[q2]at i2;simp only[aI,aa]at i2;subst i2;exact⟨xs,x,U,h1,rfl,i1,i3⟩
   grind
 .
  rename_i hne;simp only[aa]at e;subst e;have hsz:Us.toArray.size≠1:=by
   intro hs;have:vs.length=1:=by grind
   obtain⟨y,hy⟩:=List.length_eq_one_iff.1 this
   grind
  have hV:qbe Us.toArray=.tuple Us.toArray:=by unfold qbe;grind
  rw[hV];refine⟨⟨_,rfl,by simp,by grind,fun i g n hg hn=>?_⟩,fun r o c hc=>?_⟩
  .
   rw[aH]at hg;rw[aH,aH]at hn;cases hv:vs[i]? with
   |none=>grind
   |some y=>
    obtain⟨g',l'⟩:=y;simp only[hv,av,aa]at hg hn;subst hg;subst hn;obtain⟨xs,U,us,h1,h2,h3,h4⟩:=g2 i g' l' hv;refine⟨U,by grind,?_⟩;have hh:=h4.2;split
    . rename_i hg;rw[aD hg]at hh;exact⟨_,hh,by simp[h4.1]⟩
    grind
  .
   obtain⟨row,q1,q2⟩:=qc.1 hc;rw[aH]at q1;cases hv:vs[r]? with
   |none=>grind
   |some y=>
    obtain⟨g',l'⟩:=y;simp only[hv,av,aa]at q1;subst q1;obtain⟨xs,U,us,h1,h2,h3,h4⟩:=g2 r g' l' hv;obtain⟨x,u,i1,i2,i3⟩:=h3.get q2;refine⟨xs,x,u,h1,?_,i1,i3⟩;have hu:Us.toArray[r]? = some U:=by grind
    simp only[qX,aH,hv,av,hu];have hh:=h4.2
    grind
theorem qdA {G w F ts}(h:RelF G w F ts){xss n bx'}(hn:Nod xss.flatten)(eb:zD F n=some bx'){sl ts1}(hsl:sl.length=ts1.size)(hs:∀ k v,sl[k]? = some v->k=0/\∃ V,ts1[k]? = some V/\QO v.tag (v.rows.map List.length) V/\∀ r o c,cellAt v.rows r o=some c->∃ xs us u,xss[r]? = some xs/\qX v.tag V r o=some u/\xs[o]? = some us/\Qo G w F us c u)(hsrc:∀ s,some s∈xss.flatten->((∀ i,s.key.root≠.par i)/\s.key.path=[])/\∀ π,¬ Uses F (s.under π)):
  RelF (G.leave xss) w ⟨sl,qd 0 bx'⟩ ts1/\zS G w (G.leave xss) w:=by
 obtain⟨n1,n2⟩:=zM eb;have src:∀ {r o s},qo0 xss r o=some s->some s∈xss.flatten:=fun e=>by obtain⟨xs,p1,p2⟩:=ZH e;exact List.mem_flatten.2 ⟨xs,aM p1,aM p2⟩
 have hγ:∀ r a π,parW r=some a->(G.leave xss).γ ⟨r,π⟩=G.γ ⟨a,π⟩:=by
  intro r a π e;cases r with
  |par i=>simp only[parW,aa]at e;subst e;rfl
  |_=>simp[parW]at e
 have hok:∀ r a,parW r=some a->G.ok a->(G.leave xss).ok r:=by
  intro r a e _;cases r with
  |par i=>trivial
  |_=>simp[parW]at e
 have cell:∀ {k:Key} {r o:Nat} {c:Cell} {us:Option Pl} {u:Value},k=⟨.slot 0,[]⟩->∀ xs,xss[r]? = some xs->xs[o]? = some us->Qo G w F us c u->c=.dead\/Sh (G.leave xss) w ⟨k,r,o⟩ c u:=by
  intro k r o c us u hk xs q1 q2 hh;subst hk;cases us with
  |none=>
   rcases hh with rfl|⟨h1,h2,h3,h4,h5⟩
   . grind
   .
    by_cases hcd:c=.dead
    . grind
    right;refine Sh.ren2 (W:=parW) hok hγ rfl (c1:=c) ?_ (fun hn=>absurd h1 hn) (h5 ⟨⟨.res,[]⟩,0,0⟩);cases c with
    |ptr q=>obtain⟨i,hi⟩:=h3 q rfl;exact⟨by rw[hi];rfl,rfl,rfl,rfl⟩
    |ref q=>grind
    |clo f fs cs=>grind
    |dead=>grind
    |own zz rows=>exact⟨rfl,rfl⟩
    |cptr a b=>exact⟨rfl,rfl⟩
    |nil=>trivial
    |_=>exact rfl
  |some s=>
   right;obtain⟨h1,h2,h3,h4,h5⟩:=hh;have hs':qo0 xss r o=some s:=by simp[qo0,q1,q2]
   have key:(G.leave xss).γ (⟨⟨.slot 0,[]⟩,r,o⟩:Pl).toKey=G.γ s.toKey:=by simp only[Gh.leave,Pl.toKey,List.nil_append,hs'];rfl
   cases c with
   |own zz rows=>unfold Sh;rw[key];exact h3
   |mp es=>obtain⟨x,ents,clock,e1,e2⟩:=h3;exact⟨x,ents,clock,by grind,e2⟩
   |_=>exact absurd (by constructor<;>intros<;>simp) h2
 refine⟨⟨⟨fun k k' x x' e e' hb=>?_,fun k x e=>?_,h.inv.imlt,h.inv.glob⟩,hsl,fun k v e=>?_,fun r l e=>?_,fun d hd=>hd.elim,fun k rows e hi=>?_⟩,
  ⟨Nat.le_refl _,fun _ h=>h,fun _ _=>rfl,fun _ _ _=>⟨rfl,fun h=>h⟩,fun k x e=>?_,fun _=>rfl,.refl w⟩⟩
 .
  rcases ZX e with⟨i,f1,f2⟩|⟨r,o,π,s,rfl,f2,f3⟩
  . rcases ZX e' with⟨i',f1',f2'⟩|⟨r',o',π',s',rfl,f2',f3'⟩
    . exact h.inv.inj _ _ _ _ f2 f2' hb
    . have:=h.inv.inj _ _ _ _ f2 f3' hb;have hr:=((hsrc s' (src f2')).1).1 i;rw[this]at f1;exact absurd f1 hr
  . rcases ZX e' with⟨i',f1',f2'⟩|⟨r',o',π',s',rfl,f2',f3'⟩
    . have:=h.inv.inj _ _ _ _ f3 f2' hb;have hr:=((hsrc s (src f2)).1).1 i';rw[<- this]at f1';exact absurd f1' hr
    . have:=h.inv.inj _ _ _ _ f3 f3' hb;have p1:=((hsrc s (src f2)).1).2;have p2:=((hsrc s' (src f2')).1).2;obtain⟨⟨k1,π1⟩,a,b⟩:=s;obtain⟨⟨k2,π2⟩,a',b'⟩:=s';simp only at p1 p2;subst p1;subst p2;simp only[Pl.under,List.nil_append,Key.mk.injEq,List.cons.injEq,ai]at this;obtain⟨rfl,⟨rfl,rfl⟩,rfl⟩:=this;obtain⟨rfl,rfl⟩:=qaP hn f2 f2';rfl
 .
  rcases ZX e with⟨i,f1,f2⟩|⟨r,o,π,s,rfl,f2,f3⟩
  . exact h.inv.lt _ _ f2
  . exact h.inv.lt _ _ f3
 . obtain⟨rfl,V,g1,g2,g3⟩:=hs k v e;refine⟨V,g1,g2,fun r o c hc=>?_⟩
   grind
 . obtain⟨i,h1,h2⟩:=za _ _ _ _ e;rw[h1];exact⟨rfl,trivial⟩
 .
  obtain⟨root,path⟩:=k;cases root with
  |slot j=>
   have hπ:path≠[]:=by
    rcases hi with hi|hi
    . exact hi
    . simp[Root.boxed]at hi
   cases path with
   |nil=>grind
   |cons y π=>
    obtain⟨r,o⟩:=y;simp only[Fr.rowsAt,Fr.rows]at e;cases hj:sl[j]? with
    |none=>grind
    |some v=>
     simp only[hj,av,ae,getR]at e;obtain⟨rfl,V,g1,g2,g3⟩:=hs j v hj;cases hc:cellAt v.rows r o with
     |none=>grind
     |some c=>
      obtain⟨xs,us,u,q1,q2,q3,q4⟩:=g3 r o c hc;rw[hc]at e;cases us with
      |none=>
       exfalso;rcases q4 with rfl|⟨h1,_⟩
       . grind
       . cases c with
         |own zz rs=>exact h1.1 zz rs rfl
         |_=>grind
      |some s=>
       have hs':qo0 xss r o=some s:=by simp[qo0,q1,q3]
       have hc':subR c π=some rows:=by cases c<;>first|exact e|simp at e
       have tr:=q4.2.2.2.1 π rows hc';have hp:=fun r o c (e:cellAt _ r o=some c)=>tr.pure (by simp[Pl.under]) e;refine qU.ren2 (W:=parW) hok hγ rfl (.pure hp) (by simp[Pl.under]) ?_ (fun r' o'=>?_) tr
       . simp only[Gh.leave,hs']
       . simp only[Gh.leave,Pl.toKey,List.cons_append,hs',Pl.under,List.append_assoc]
  |par i=>
   unfold Fr.rowsAt at e;have hns:∀ k,Root.par i≠.slot k:=by simp
   simp only at e;rw[Fr.rows_ns _ hns]at e;cases hb:(qd 0 bx').lookup (.par i)with
   |none=>grind
   |some l'=>
    simp only[hb,av,ae]at e;obtain⟨i',h1,h2⟩:=za _ _ _ _ hb;have:i'=i:=by grind
    subst this;obtain⟨j,h3,h4⟩:=n2 i' l' h2;have hj:j=i':=by grind
    subst hj;simp only[Option.bind_eq_some_iff]at h4;obtain⟨l,h5,h6⟩:=h4;have rr:=qbh qhL h6;cases path with
    |nil=>simp only[getR,aa]at e;subst e;refine qU.ren2 (W:=parW) (k1:=⟨.par j,[]⟩) hok hγ rfl rr (by simp) rfl (fun r' o'=>rfl) (h.cont _ _ ?_ (.inr rfl));simp only[Fr.rowsAt,F.rows_ns hns,h5,av,ae,getR]
    |cons y π=>
     have hF:F.rowsAt ⟨.par j,y::π⟩=some rows:=by simp only[Fr.rowsAt,F.rows_ns hns,h5,av,ae];exact rr.getR e
     have tr:=h.cont _ _ hF (.inl (by simp));exact qU.ren2 (W:=parW) hok hγ rfl (.pure fun r o c e=>tr.pure (by simp) e) (by simp) rfl (fun r' o'=>rfl) tr
  |loc d=>
   exfalso;unfold Fr.rowsAt at e;have hns:∀ k,Root.loc d≠.slot k:=by simp
   simp only at e;rw[Fr.rows_ns _ hns]at e;cases hb:(qd 0 bx').lookup (.loc d)with
   |none=>grind
   |some l'=>obtain⟨i',h1,h2⟩:=za _ _ _ _ hb;cases h1
  |res=>
   exfalso;unfold Fr.rowsAt at e;have hns:∀ k,Root.res≠.slot k:=by simp
   simp only at e;rw[Fr.rows_ns _ hns]at e;cases hb:(qd 0 bx').lookup .res with
   |none=>grind
   |some l'=>obtain⟨i',h1,h2⟩:=za _ _ _ _ hb;cases h1
 .
  rcases ZX e with⟨i,f1,f2⟩|⟨r,o,π,s,rfl,f2,f3⟩
  . grind
  grind
theorem qei {P fn tmps w Us}(h:(fn.results.toList.mapM (fun x=>(match x with
    |.tmp t=>pure (tmps.getD t Go.undef)
    |.cell b t=>do loadVar t (<- asAddr (tmps.getD b Go.undef)):Sem Value))).run P w=.ok Us w):(results fn tmps).run P w=.ok (qbe Us.toArray) w:=by
 unfold results;rw[Array.mapM_eq_mapM_toList];simp only[aK,Sem.run_map];exact congrArg (fun r:Result (List Value)=>(r.andThen fun a w'=>Result.ok a.toArray w').andThen fun a w'=>Sem.run P (pure (if h:a.size=1 then a[0]else Value.tuple a)) w') h
theorem qbc (ks ls):∀ (l:List AV) (i k:Nat),(YS ks ls i l)[k]? = (l[k]?).map fun v=>if ks.contains (i+k)then .deadv else v.mapC (yV ks ls)
 |[],i,k=>by simp[YS]
 |v::l,i,0=>by simp[YS]
 |v::l,i,k+1=>by simp only[YS,List.getElem?_cons_succ];rw[qbc ks ls l (i+1) k,show i+1+k=i+(k+1)by omega]
theorem yO (ks ls):∀ (bs:List (Root×List Cell)) (r:Root),(qcZ ks ls bs).lookup r=if gone ks ls r then none else(bs.lookup r).map (·.map (yV ks ls))
 |[],r=>by simp[qcZ]
 |(r0,l)::bs,r=>by
  simp only[qcZ];by_cases h0:gone ks ls r0=true
  .
   rw[aD h0,yO ks ls bs r];by_cases h:r=r0
   . subst h;rw[aD h0,aD h0]
   . have:(r==r0)=false:=by simpa using h
     simp[List.lookup_cons,this]
  .
   rw[aF h0,List.lookup_cons,List.lookup_cons];by_cases h:r=r0
   . subst h;simp[h0]
   . have:(r==r0)=false:=by simpa using h
     rw[this,yO ks ls bs r]
theorem qax {G w F ts}(h:RelF G w F ts)(ks ls):∃ G',RelF G' w (F.norm ks ls) ts/\zS G w G' w:=by
 have hw:Weak F (F.norm ks ls):=by
  refine⟨?_,fun k v' e=>?_,fun r l' e=>?_⟩
  .
   apply Nat.le_antisymm
   .
    have:∀ (l:List AV) i,(YS ks ls i l).length=l.length:=by
     intro l;induction l with
     |nil=>intro i;rfl
     |cons v l ih=>intro i;simp[YS,ih]
    exact Nat.le_of_eq (this _ _)
   .
    have:∀ (l:List AV) i,(YS ks ls i l).length=l.length:=by
     intro l;induction l with
     |nil=>intro i;rfl
     |cons v l ih=>intro i;simp[YS,ih]
    exact Nat.le_of_eq (this _ _).symm
  . have e':(YS ks ls 0 F.slots)[k]? = some v':=e;rw[qbc]at e';simp only[aG]at e';obtain⟨v,e1,e2⟩:=e';split at e2
    . grind
    . subst e2;exact .inr ⟨v,e1,rfl,zy.map (ZZ ks ls) _⟩
  . have e':(qcZ ks ls F.boxes).lookup r=some l':=e;rw[yO]at e';split at e'
    . cases e'
    . simp only[aG]at e';obtain⟨l,e1,rfl⟩:=e';exact⟨l,e1,by have:=zy.map (ZZ ks ls) [l];grind⟩
 have lk:∀ d,((F.norm ks ls).boxes.lookup (.loc d)).isSome=true↔gone ks ls (.loc d)=false/\(F.boxes.lookup (.loc d)).isSome=true:=by intro d;show((qcZ ks ls F.boxes).lookup (.loc d)).isSome=true↔_;rw[yO];split<;>simp_all
 have pg:∀ x c,(F.norm ks ls).get x=some c->c=.dead\/(F.get x=some c/\(x.key.path=[]->yV ks ls c=c)):=by
  intro x c e;rcases hw.get e with h'|h'
  . grind
  .
   by_cases hp:x.key.path=[]
   .
    by_cases hc:yV ks ls c=c
    . grind
    .
     left;obtain⟨⟨r,π⟩,a,b⟩:=x;simp only at hp;subst hp;have hd:yV ks ls c=.dead:=(ZZ ks ls c).resolve_left hc;by_cases hs:∃ k,r=.slot k
     .
      obtain⟨k,rfl⟩:=hs;simp only[Fr.get,Fr.rowsAt,Fr.rows,Fr.norm,qbc,Nat.zero_add,Option.map_map,Option.bind_eq_bind]at e h';cases hk:F.slots[k]? with
      |none=>grind
      |some v=>
       simp only[hk,av,ae,getR,Function.comp_def]at e h';split at e
       . obtain⟨_,_,rfl⟩:=one_cell e;rfl
       . obtain⟨c0,e1,e2⟩:=zH (f:=yV ks ls) e
         grind
     .
      have hns:∀ k,r≠.slot k:=fun k e=>hs ⟨k,e⟩;simp only[Fr.get,Fr.rowsAt,Fr.rows_ns _ hns,Fr.norm,yO]at e h';cases hk:F.boxes.lookup r with
      |none=>grind
      |some l=>
       simp only[hk,av,ae,getR]at e h';split at e
       . grind
       . simp only[av,ae,getR]at e;obtain⟨c0,e1,e2⟩:=zH (f:=yV ks ls) (rows:=[l]) e
         grind
   grind
 refine⟨_,h.weak hw (fun d=>((F.norm ks ls).boxes.lookup (.loc d)).isSome=true) (fun d hd=>⟨?_,hd⟩) (fun d hd=>hd) (fun x c e=>?_),Gain.lv _⟩
 . obtain⟨l,hl⟩:=Option.isSome_iff_exists.1 ((lk d).1 hd).2;exact(h.boxes (.loc d) l hl).2
 .
  rcases pg x c e with rfl|⟨e',hp⟩
  . grind
  .
   have hok:=h.okPtr e';have fin:∀ r,G.ok r->gone ks ls r=false->Gh.ok { G with lv:=fun d=>((F.norm ks ls).boxes.lookup (.loc d)).isSome=true } r:=by
    intro r h1 h2;cases r with
    |loc d=>exact(lk d).2 ⟨h2,h.live d h1⟩
    |_=>trivial
   by_cases hx:x.key.path=[]
   .
    have hpc:=hp hx;refine⟨fun q hq=>?_,fun f fs cs q hq hm=>?_⟩
    .
     refine fin _ (hok.1 q hq) ?_;rcases hq with rfl|rfl
     . simp only[yV]at hpc
       grind
     . simp only[yV]at hpc
       grind
    . subst hq;refine fin _ (hok.2 f fs cs q rfl hm) ?_;simp only[yV]at hpc
      grind
   . have:=h.pure e' hx;refine⟨fun q hq=>?_,fun f fs cs q hq hm=>?_⟩
     . rcases hq with rfl|rfl<;>simp[qw]at this
     . subst hq;simp[qw]at this
end
section
variable [Glob]
def ZA (P:Program)(rec:Oracle):Prop:=∀ f args bx r,rec f args bx=some r->∃ fn,P.funcs[f]? = some fn/\fn.body.isSome=true/\(fn.name == "runtime.NumGoroutine")=false
theorem qft {cx rec F dst f vs r}(e:vZ cx rec F dst f vs=some r):∃ args bx q,rec f args bx=some q:=by
 unfold vZ at e
 grind
theorem Yh {P}{f:Nat}{fn}(h:P.funcs[f]? = some fn)(hb:fn.body.isSome=true)(hn:(fn.name == "runtime.NumGoroutine")=false)(args)(w):
  (callFunc f args).run P w=.ok (.enter f args) w:=by
 have hb':fn.body.isNone=false:=by cases hx:fn.body<;>simp_all
 simp only[callFunc,program,bind,Sem.bind,Sem.run,h,hn,hb',aT,if_false];rfl
theorem xM {G}:∀ {l:List Cell} {vs:List Value},qY G l vs->l.length=vs.length
 |[],[],_=>rfl
 |_::_,_::_,⟨_,h⟩=>by simp[xM h]
 |[],_::_,h=>h.elim
 |_::_,[],h=>h.elim
theorem Yd {G w}:∀ {l:List Cell} {vs:List Value},qY G l vs->∀ (j:Nat) c V,l[j]? = some c->vs[j]? = some V->RelV G w (.c c) V
 |[],[],_,j,c,V,h,_=>by simp at h
 |a::l,b::vs,⟨h1,h2⟩,j,c,V,h,h'=>by
  cases j with
  |zero=>
   simp only[aI,aa]at h h';subst h;subst h';refine RelV.c (.inr ?_);cases a with
   |val u=>exact⟨⟨by intros;simp,by intros;simp⟩,fun p=>h1⟩
   |ptr q=>obtain⟨e0,e1,x,e2,e3,e4⟩:=h1;exact⟨⟨by intros;simp,by intros;simp⟩,fun p=>⟨e0,x,e2,e3,e4⟩⟩
   |_=>exact h1.elim
  |succ j=>exact Yd h2 j c V (by simpa using h) (by simpa using h')
 |[],_::_,h,_,_,_,_,_=>h.elim
 |_::_,[],h,_,_,_,_,_=>h.elim
theorem XI {cx rec}(hrec:qN cx.P rec)(hfn:ZA cx.P rec){G w F F' a o}(h:RelF G w F a.tmps){r}(e:aop cx rec F o=some (F',r)){next Q}(hnext:r=none->∀ V G' w',RelF G' w' F' (a.put o.dst V).tmps->Gain G w G' w'->next (a.put o.dst V) w')(hpanic:∀ v,r=some v->∀ G' w',RelF G' w' F' a.tmps->Gain G w G' w'->Q (.panic [{ v,recovered:=false }]) a w'):o.wp cx.P a w next Q:=by
 unfold aop at e;unfold Oper.wp;cases hm:mvop cx F o with
 |some F1=>cases hm
 |none=>
 simp only[hm]at e;unfold aop0 at e;cases hq:quiet cx F o with
 |some v=>simp only[hq,aa,ai]at e;obtain⟨rfl,rfl⟩:=e;obtain⟨V,hV,hr⟩:=qaS h hq;rw[hV];exact hnext rfl V G w (putO h hr) (Gain.refl G w)
 |none=>
  simp only[hq]at e;cases hl:loud cx F o with
  |some F1=>
   simp only[hl,aa,ai]at e;obtain⟨rfl,rfl⟩:=e;obtain⟨n,V,G',w',hV,hn,hr,hg⟩:=qgi h hl;rw[hV];rcases hn with rfl|⟨rfl,rfl⟩
   . exact hnext rfl V G' w' hr hg
   . exact hnext rfl Go.undef G' w' hr hg
  |none=>
   simp only[hl]at e;obtain⟨dst,op,ty,pos,after,guard⟩:=o;simp only at *;split at e
   .
    rename_i x;split at e
    . rename_i t v hc;simp only[aa,ai]at e;obtain⟨rfl,rfl⟩:=e;have hx:a.eval x=.iface t v:=yc (qx h x) hc;have:(execOp a.eval ⟨dst,.panic x,ty,pos,after,guard⟩).run cx.P w=.halt (.panic (.iface t v)) w:=by simp only[execOp,Instr.panic,hx];rfl
      rw[this];exact hpanic _ rfl G w h (Gain.refl G w)
    . cases e
   .
    rename_i g args argTypes;split at e
    .
     rename_i f first caps hc
     obtain⟨args0,bx0,q0,hq0⟩:=qft e;obtain⟨fn,h1,h2,h3⟩:=hfn _ _ _ _ hq0;have hd:(Cell.clo f first caps)≠.dead:=by simp
     obtain⟨_,hs⟩:=qp h hc hd;obtain⟨vs,us,e1,e2,e3⟩:=hs ⟨⟨.res,[]⟩,0,0⟩;have run:(execOp a.eval ⟨dst,.call { callee:=.value g,args,argTypes },ty,pos,after,guard⟩).run cx.P w=.ok (.enter f (vs++args.map a.eval++us)) w:=by have:=Yh (P:=cx.P) h1 h2 h3 (vs++args.map a.eval++us) w;simp only[execOp,resolve,e1,Deferred.ofValue,invoke,pure_bind];exact this
     rw[run];have hcall:=qeP (Vs:=(vs++args.map a.eval++us).toList) hrec h (by simp[xM e2,xM e3]) (fun j v V hv hV=>by
      have l1:=xM e2;simp only[Array.toList_append,Array.toList_map]at hV;rw[List.append_assoc]at hv hV;by_cases hj:j<first.length
      . rw[aY (by simpa using hj),aH]at hv;rw[aY (by rw[<- l1];exact hj)]at hV;simp only[aG]at hv;obtain⟨c,hc,rfl⟩:=hv;exact Yd e2 j c V hc hV
      . rw[aZ (by simpa using hj)]at hv;rw[aZ (by rw[<- l1];omega)]at hV;rw[<- l1]at hV;simp only[List.length_map]at hv;by_cases hj2:j-first.length<args.toList.length
        . rw[aY (by simpa using hj2),aH]at hv hV;simp only[aG]at hv hV;obtain⟨x,hx,rfl⟩:=hv;obtain⟨x',hx',rfl⟩:=hV;rw[hx]at hx';cases hx';exact qx h x
        . rw[aZ (by simpa using hj2)]at hv hV;simp only[List.length_map]at hv hV;rw[aH]at hv;simp only[aG]at hv;obtain⟨c,hc,rfl⟩:=hv;exact Yd e3 _ c V hc hV) e
     rw[Oper.upon_enter];rw[Array.toArray_toList]at hcall;refine Calls.mono hcall fun en w' hb=>?_;obtain⟨G',hg,hb⟩:=hb;cases r with
     |none=>obtain⟨V,rfl,hr⟩:=hb;exact hnext rfl V G' w' hr hg
     |some v=>obtain⟨rfl,hr⟩:=hb;exact hpanic v rfl G' w' hr hg
    . cases e
   . cases e
theorem xh {ops G w F}{a:Act}(h:RelF G w F a.tmps){o b}(e:zi ops.toList F o=some b):
  Region.wanted o (yielded ops a.tmps)=b:=by
 unfold zi at e;unfold Region.wanted;split at e
 . grind
 .
  rename_i j want hg;simp only[hg];split at e
  .
   rename_i oj hj;split at e
   .
    rename_i d hd;have hj':ops[j]? = some oj:=by grind
    have hy:∀ V,a.tmps[d]? = some V->yielded ops a.tmps j=(match V with|.bool b=>some b|_=>none):=by intro V hV;simp only[yielded,hj',ae,hd,hV];cases V<;>rfl
    split at e
    . rename_i b' hs;obtain⟨V,hV,hsh,hr⟩:=h.slots d _ hs;obtain⟨u,hu,hx⟩:=hr 0 0 (.val (.bool b')) rfl;simp only[qX,aa]at hu;subst hu;rcases hx with hx|hx
      . cases hx
      . have:V=.bool b':=hx.1;simp_all
    . rename_i hs;obtain⟨V,hV,hsh,hr⟩:=h.slots d _ hs;simp only[aa]at e;subst e;obtain⟨Vs,rfl,_⟩:=hsh
      grind
    grind
   grind
  grind
def Stands (D:Act->Prop)(G:Gh)(w:World)(F':Fr)(a':Act)(w':World):Prop:=D a'/\∃ G',zS G w G' w'/\RelF G' w' F' a'.tmps
def D0 (a:Act):Prop:=a.defers=[]
theorem put_defers (a:Act)(d:Option Nat)(V):(a.put d V).defers=a.defers:=by cases d<;>rfl
theorem QH (a)(d:Option Nat)(V)(h:D0 a):D0 (a.put d V):=(put_defers a d V).trans h
theorem Xt (G)(w):RelV G w .undef Go.undef:=⟨⟨#[],rfl,rfl,rfl,by intro i g n h;simp at h⟩,by intro r o c h;simp[AV.undef,cellAt]at h⟩
theorem vN {cx rec}(hrec:∀ d,qN cx.P (rec d))(hfn:∀ d,ZA cx.P (rec d)){ops G0 w0 Q D more}:
  ∀ (rest:List Oper) (i:Nat) (G:Gh) (w:World) (F:Fr) (a:Act) (F':Fr) (r:Option Value),(∀ k,k<rest.length->rest[k]? = ops[i+k]?)->(∀ o∈rest,∀ a V,D a->D (a.put o.dst V))->RelF G w F a.tmps->zS G0 w0 G w->D a ->
   aops cx rec ops.toList rest F=some (F',r) ->
   (r=none->∀ a' w',Stands D G0 w0 F' a' w'->wpOps cx.P ops Q more a' w')->(∀ v,r=some v->∀ a' w',Stands D G0 w0 F' a' w'->Q (.panic [{ v,recovered:=false }]) a' w') ->
   wpOps cx.P ops Q (List.range' i rest.length++more) a w
 |[],i,G,w,F,a,F',r,_,_,h,hg,hd,e,hn,_=>by simp only[aops,aa,ai]at e;obtain⟨rfl,rfl⟩:=e;exact hn rfl a w ⟨hd,G,hg,h⟩
 |o::rest,i,G,w,F,a,F',r,hi,hD,h,hg,hd,e,hn,hp=>by
  have hD1:=hD o au;have hD2:∀ o∈rest,∀ a V,D a->D (a.put o.dst V):=fun o' hm=>hD o' (aB _ hm);have ho:ops[i]? = some o:=by have:=hi 0 (by simp);grind
  have hi':∀ k,k<rest.length->rest[k]? = ops[i+1+k]?:=fun k hk=>by have:=hi (k+1) (by grind);grind
  simp only[aops]at e;show wpOps cx.P ops Q (i::(List.range' (i+1) rest.length++more)) a w;simp only[wpOps,ho];cases hw:zi ops.toList F o with
  |none=>grind
  |some b=>
   have hb:=xh h hw;cases b with
   |true=>
    rw[aD hb];left;simp only[hw]at e;cases h1:aop cx (rec o.dst) F o with
    |none=>grind
    |some y=>
     obtain⟨F1,r1⟩:=y;simp only[h1]at e;refine XI (hrec _) (hfn _) h h1 (fun hr V G' w' hr' hg'=>?_) (fun v hr G' w' hr' hg'=>?_)
     . subst hr;exact vN hrec hfn rest (i+1) G' w' F1 _ F' r hi' hD2 hr' (hg.trans hg'.w) (hD1 _ _ hd) e hn hp
     . subst hr;simp only[aa,ai]at e;obtain⟨rfl,rfl⟩:=e;exact hp v rfl a w' ⟨hd,G',hg.trans hg'.w,hr'⟩
   |false=>rw[aF (by grind)];simp only[hw]at e;exact vN hrec hfn rest (i+1) G w _ _ F' r hi' hD2 (putO h (Xt G w)) hg (hD1 _ _ hd) e hn hp
theorem qbV {cx rec}(hrec:∀ d,qN cx.P (rec d))(hfn:∀ d,ZA cx.P (rec d)){ops G0 w0 Q D}(rest i G w F a F' r)(hi:∀ k,rest[k]? = ops[i+k]?)(hD:∀ o∈rest,∀ a V,D a->D (a.put o.dst V))(h:RelF G w F a.tmps)(hg:zS G0 w0 G w)(hd:D a)(e:aops cx rec ops.toList rest F=some (F',r))(hn:r=none->∀ a' w',Stands D G0 w0 F' a' w'->Q .normal a' w')(hp:∀ v,r=some v->∀ a' w',Stands D G0 w0 F' a' w'->Q (.panic [{ v,recovered:=false }]) a' w'):
  wpOps cx.P ops Q (List.range' i rest.length) a w:=by
 have:=vN hrec hfn (more:=[]) rest i G w F a F' r (fun k _=>hi k) hD h hg hd e hn hp
 grind
end
section
variable [Glob]
theorem qgR (F:Fr)(r):F.rows r=(F.at r).map (·.rows):=by cases r<;>simp[Fr.rows,Fr.at,AV.ag,Function.comp_def]
theorem QN {F G:Fr}{k}(h:G.at k.root=F.at k.root):G.rowsAt k=F.rowsAt k:=by unfold Fr.rowsAt;rw[qgR,qgR,h]
theorem XC {F G:Fr}{p}(h:G.at p.key.root=F.at p.key.root):G.get p=F.get p:=by unfold Fr.get;rw[QN h]
theorem qaZ {o t}(h:.tmp t∈o.op.operands):t∈readsOf o:=by unfold readsOf;simp only[List.mem_filterMap];exact⟨.tmp t,by grind,rfl⟩
theorem qcX {F G:Fr}{x}(h:∀ t,x=.tmp t->G.slots[t]? = F.slots[t]?):G.ev x=F.ev x:=by
 cases x with
 |tmp t=>simp only[Fr.ev,h t rfl]
 |_=>rfl
theorem qhJ {v:AV}{c}(h:v.cell=some c):v.rows=[[c]]:=by
 unfold AV.cell at h
 grind
theorem qim {F o x}(hx:x∈o.op.operands){c}(h:(F.ev x).cell=some c){r}(hr:r∈qJ c)(hf:∀ f,x≠.func f):r∈qR F o:=by
 cases x with
 |tmp t=>
  unfold qR;simp only[List.mem_flatMap];refine⟨t,qaZ hx,?_⟩;unfold AV.rootsBy;rw[qhJ h]
  grind
 |const v=>
  exfalso;have h':(yR v).cell=some c:=h;have:c=qm v:=by cases v<;>simp only[yR,AV.cell,AV.c,AV.ag,AV.deadv,aa]at h'<;>first|exact h'.symm|grind|cases h'
  subst this;unfold qm at hr;split at hr
  . simp[qJ]at hr
  . split at hr<;>simp[qJ]at hr
 |global g=>exfalso;simp only[Fr.ev,AV.cell,AV.c,aa]at h;subst h;simp[qJ]at hr
 |func f=>grind
theorem yC {cx F G o}(ho:Hangs o)(h:∀ x∈o.op.operands,G.ev x=F.ev x):yg cx G o=yg cx F o:=by
 unfold yg;have e1:(o.op.operands.toList.all fun x=>(G.ev x).con.isSome)=(o.op.operands.toList.all fun x=>(F.ev x).con.isSome):=by grind
 rw[e1,ho (fun x=>((G.ev x).con).getD Go.undef) (fun x=>((F.ev x).con).getD Go.undef) (fun x hx=>by grind)]
theorem qeA {F G:Fr}{n c}(h:∀ r∈qJ c,G.at r=F.at r):G.loadL n c=F.loadL n c:=by
 cases c with
 |ptr p=>simp only[Fr.loadL];rw[QN (h _ (by simp[qJ]))]
 |_=>rfl
theorem qbX {F G:Fr}{c}(h:∀ r∈qJ c,G.at r=F.at r):G.look c=F.look c:=by
 cases c with
 |ref p=>simp only[Fr.look];rw[XC (h _ (by simp[qJ]))]
 |_=>rfl
theorem qbw {cx F G o}(hs:∀ t∈readsOf o,G.slots[t]? = F.slots[t]?)(hv:Xl o.op=true->∀ r∈qR F o,G.at r=F.at r):quiet cx G o=quiet cx F o:=by
 have ev:∀ x∈o.op.operands,G.ev x=F.ev x:=fun x hx=>qcX fun t ht=>hs t (qaZ (ht▸hx));have rt:Xl o.op=true->∀ x∈o.op.operands,∀ c,(F.ev x).cell=some c->∀ r∈qJ c,G.at r=F.at r:=by
  intro hl x hx c hc r hr;by_cases hf:∃ f,x=.func f
  . obtain⟨f,rfl⟩:=hf;exfalso;simp only[Fr.ev,AV.cell,AV.c,aa]at hc;subst hc;simp[qJ]at hr
  . exact hv hl r (qim hx hc hr fun f e=>hf ⟨f,e⟩)
 obtain⟨dst,op,ty,pos,after,guard⟩:=o;simp only at *;unfold quiet;cases op with
 |move x=>simp only;rw[ev x (by simp[Op.operands])]
 |pick c a b=>simp only;rw[ev c (by simp[Op.operands]),ev a (by simp[Op.operands]),ev b (by simp[Op.operands])]
 |binOp op t x y u=>have hc:=yC (cx:=cx) (o:=⟨dst,.binOp op t x y u,ty,pos,after,guard⟩) (F:=F) (G:=G) qbq ev;simp only;rw[ev x (by simp[Op.operands]),ev y (by simp[Op.operands]),hc]
 |unOp op t x=>exact yC qb8 ev
 |convert s t x=>
  have hc:=yC (cx:=cx) (o:=⟨dst,.convert s t x,ty,pos,after,guard⟩) (F:=F) (G:=G) XO ev;simp only;unfold XU;rw[ev x (by simp[Op.operands]),hc];have:=rt rfl x (by simp[Op.operands]);cases hcl:(F.ev x).cell with
  |none=>
   generalize cx.P.underlying s=U;generalize cx.P.underlying t=U';cases U with
   |none=>rfl
   |some d=>cases d<;>first|rfl|(cases U' with
    |none=>rfl
    |some d'=>cases d'<;>rfl)
  |some c=>
   have hk:=qbX (this c hcl);generalize cx.P.underlying s=U;generalize cx.P.underlying t=U';cases U with
   |none=>rfl
   |some d=>cases d<;>first|rfl|(cases U' with
    |none=>rfl
    |some d'=>cases d'<;>first|rfl|simp only[hk])
 |makeInterface t x=>exact yC xH ev
 |typeAssert x xt t ok=>simp only[qbz];rw[ev x (by simp[Op.operands])]
 |load t a=>
  simp only;have hx:=ev a (by simp[Op.operands]);rw[hx];have:=rt rfl a (by simp[Op.operands]);cases hc:(F.ev a).cell with
  |none=>rfl
  |some c=>
   cases qQ cx.P t with
   |none=>rfl
   |some n=>
    cases zW cx.P t with
    |none=>rfl
    |some g=>simp only[qeA (this c hc)]
 |nilCheck x=>simp only;rw[ev x (by simp[Op.operands])]
 |fieldAddr s x f=>simp only;rw[ev x (by simp[Op.operands])]
 |indexAddr t x i=>
  simp only;rw[ev x (by simp[Op.operands]),ev i (by simp[Op.operands])];have:=rt rfl x (by simp[Op.operands]);generalize asInt (F.ev i)=N;generalize cx.P.underlying t=U;cases hc:(F.ev x).cell with
  |none=>cases U with
   |none=>rfl
   |some d=>cases d<;>cases N<;>rfl
  |some c=>
   cases c with
   |ref p=>
    have hg:=XC (this _ hc p.key.root (by simp[qJ]));cases U with
    |none=>rfl
    |some d=>cases d<;>cases N<;>first|rfl|simp only[hg]
   |_=>cases U with
    |none=>rfl
    |some d=>cases d<;>cases N<;>rfl
 |index t x i=>exact yC qaW ev
 |field s x f=>simp only;rw[ev x (by simp[Op.operands])]
 |extract x i=>simp only;rw[ev x (by simp[Op.operands])]
 |makeFunc f first caps=>
  cases f with
  |func f=>
   simp only;have e1:(first.toList.map fun x=>(G.ev x).cell)=first.toList.map fun x=>(F.ev x).cell:=by apply List.map_congr_left;intro x hx;rw[ev x (by simp[Op.operands];left;simpa using hx)]
   have e2:(caps.toList.map fun x=>(G.ev x).cell)=caps.toList.map fun x=>(F.ev x).cell:=by apply List.map_congr_left;intro x hx;rw[ev x (by simp[Op.operands];right;simpa using hx)]
   rw[e1,e2]
  |_=>rfl
 |call c=>
  obtain⟨callee,args,argTypes⟩:=c;cases callee with
  |builtin b=>
   have hc:=yC (cx:=cx) (o:=⟨dst,.call { callee:=.builtin b,args,argTypes },ty,pos,after,guard⟩) (F:=F) (G:=G) qoY ev;cases b with
   |len=>
    simp only;rw[hc];cases h0:args[0]? with
    |none=>rfl
    |some x=>
     cases h1:argTypes[0]? with
     |none=>rfl
     |some t=>
      simp only;have hm:x∈(Op.call { callee:=.builtin .len,args,argTypes }).operands:=by simp[Op.operands,Call.operands];exact Array.mem_of_getElem? h0
      rw[ev x hm];have:=rt rfl x hm;generalize cx.P.underlying t=U;cases hc:(F.ev x).cell with
      |none=>cases U with
       |none=>rfl
       |some d=>cases d<;>rfl
      |some c=>
       have hk:=qbX (this c hc);cases c with
       |ref p=>
        have hg:=XC (this _ hc p.key.root (by simp[qJ]));cases U with
        |none=>rfl
        |some d=>cases d<;>first|rfl|simp only[hg,hk]
       |_=>cases U with
        |none=>rfl
        |some d=>cases d<;>first|rfl|simp only[hk]
   |max=>exact hc
   |min=>exact hc
   |_=>rfl
  |_=>rfl
 |_=>rfl
theorem qjJ {F G:Fr}(hl:G.slots.length=F.slots.length)(h:∀ k,G.at (.slot k)=F.at (.slot k)):G.slots=F.slots:=by apply List.ext_getElem?;exact h
theorem qmG {F:Fr}{d v r}(h:r≠.slot d):(F.put (some d) v).at r=F.at r:=by
 cases r with
 |slot k=>have:d≠k:=fun e=>h (by rw[e]);simp only[Fr.at,Fr.put,List.getElem?_set,aF this]
 |_=>rfl
theorem qeG {F G:Fr}{d v}(hl:G.slots.length=F.slots.length):(G.put (some d) v).at (.slot d)=(F.put (some d) v).at (.slot d):=by simp only[Fr.at,Fr.put,List.getElem?_set,if_true,hl]
theorem qbN (W)(l1):∀ (l:List AV) (k j:Nat),(mslots W l1 k l)[j]? = (l[j]?).map fun v=>if W.contains (.slot (k+j))then((l1[k+j]?).getD .deadv).mapC (cutC W)else v
 |[],k,j=>by simp[mslots]
 |v::l,k,0=>by simp[mslots]
 |v::l,k,j+1=>by simp only[mslots,List.getElem?_cons_succ];rw[qbN W l1 l (k+1) j,show k+1+j=k+(j+1)by omega]
theorem vO (W)(ts):∀ (l:List AV) (k j:Nat),(lslots W ts k l)[j]? = (l[j]?).map fun v=>
  if W.contains (.slot (k+j))then v.mapC (cutC W)else if ts.contains (k+j)then v.mapC (fun c=>if qy c then .dead else cutC W c)else .deadv
 |[],k,j=>by simp[lslots]
 |v::l,k,0=>by simp[lslots]
 |v::l,k,j+1=>by simp only[lslots,List.getElem?_cons_succ];rw[vO W ts l (k+1) j,show k+1+j=k+(j+1)by omega]
theorem zT (F)(W):∀ (l:List Root) (r:Root),(lboxes F W l).lookup r=if r∈l/\r.boxed=true then(F.boxes.lookup r).map (·.map (cutC W))else none
 |[],r=>by simp[lboxes]
 |x::l,r=>by
  simp only[lboxes];have ih:=zT F W l r;by_cases hx:x.boxed=true
  .
   rw[aD hx];cases hb:F.boxes.lookup x with
   |none=>
    simp only;rw[ih];by_cases h:r=x
    . subst h;simp[hb]
    . simp[h]
   |some b=>
    simp only[List.lookup_cons];by_cases h:r=x
    . subst h;simp[hx,hb]
    . have:(r==x)=false:=by simpa using h
      rw[this,ih];simp[h]
  . rw[aF hx];simp only;rw[ih];by_cases h:r=x
    . subst h;simp[hx]
    . simp[h]
theorem qc7 {α β:Type}[BEq α](l m:List (α×β))(r):(l++m).lookup r=(l.lookup r).or (m.lookup r):=by grind
theorem YK (M:List (Root×List Cell)):∀ (l:List (Root×List Cell)) (r:Root),(l.filter (fun x=>(M.lookup x.1).isNone)).lookup r=if (M.lookup r).isNone=true then l.lookup r else none
 |[],r=>by simp
 |(a,b)::l,r=>by
  have ih:=YK M l r;by_cases ha:(M.lookup a).isNone=true
  .
   rw[List.filter_cons_of_pos (by simpa using ha),List.lookup_cons,List.lookup_cons,ih];by_cases h:r=a
   . subst h;simp[ha]
   . have:(r==a)=false:=by simpa using h
     simp only[this]
  .
   rw[List.filter_cons_of_neg (by simpa using ha),ih];by_cases h:r=a
   . subst h;rw[aF ha,aF ha]
   . have:(r==a)=false:=by simpa using h
     simp only[List.lookup_cons,this]
theorem XX (F1)(W):∀ (l:List (Root×List Cell)) (r:Root),(mboxes F1 W l).lookup r =
  if W.contains r=true then(if (l.lookup r).isSome=true then(if r.boxed then(F1.boxes.lookup r).map (·.map (cutC W))else none)else none)else l.lookup r
 |[],r=>by simp[mboxes]
 |(a,b)::l,r=>by
  have ih:=XX F1 W l r;simp only[mboxes];by_cases ha:W.contains a=true
  .
   rw[aD ha];by_cases h:r=a
   .
    subst h;rw[aD ha]at ih |-;have hs:(List.lookup r ((r,b)::l)).isSome=true:=by simp
    rw[aD hs];by_cases hb:r.boxed=true
    . rw[aD hb]at ih |-;rw[aD hb];cases hl:F1.boxes.lookup r with
      |none=>simp only[hl,Option.map_none,ite_self]at ih |-;exact ih
      |some b'=>simp
    . rw[aF hb]at ih |-;rw[aF hb];simp only[ite_self]at ih;exact ih
   .
    have hne:(r==a)=false:=by simpa using h
    have hk:List.lookup r ((a,b)::l)=List.lookup r l:=by simp only[List.lookup_cons,hne]
    rw[hk];split
    . rw[List.lookup_cons,hne];exact ih
    . exact ih
  .
   rw[aF ha];by_cases h:r=a
   . subst h;rw[aF ha];simp
   . have hne:(r==a)=false:=by simpa using h
     rw[List.lookup_cons,List.lookup_cons,hne];exact ih
theorem Xd (F F1:Fr)(W)(r):(F.merge F1 W).boxes.lookup r=if r∈W then(if r.boxed then(F1.boxes.lookup r).map (·.map (cutC W))else none)else F.boxes.lookup r:=by
 simp only[Fr.merge];rw[qc7,YK,XX,zT];by_cases h:r∈W
 .
  have hc:W.contains r=true:=by grind
  cases hF:F.boxes.lookup r with
  |none=>grind
  |some l=>simp[h]
 grind
def qiy (n:Nat)(F1:Fr)(W:List Root):Root->Option AV
 |.slot k=>if k<n then some (((F1.slots[k]?).getD .deadv).mapC (cutC W))else none
 |r=>if r.boxed then(F1.boxes.lookup r).map (fun b=>AV.ag (b.map (cutC W)))else none
theorem qaz (F F1:Fr)(W)(r):(F.merge F1 W).at r=if r∈W then qiy F.slots.length F1 W r else F.at r:=by
 have bx:∀ r:Root,(∀ k,r≠.slot k)->((F.merge F1 W).boxes.lookup r).map AV.ag=if r∈W then(if r.boxed then(F1.boxes.lookup r).map (fun b=>AV.ag (b.map (cutC W)))else none)else(F.boxes.lookup r).map AV.ag:=by
  intro r _;rw[Xd];by_cases h:r∈W
  . rw[aD h,aD h];by_cases hb:r.boxed=true
    . rw[aD hb,aD hb];cases F1.boxes.lookup r<;>rfl
    grind
  grind
 cases r with
 |slot k=>
  simp only[Fr.at,Fr.merge];rw[qbN];simp only[Nat.zero_add];by_cases h:Root.slot k∈W
  . have hc:W.contains (.slot k)=true:=by grind
    rw[aD h];simp only[hc,if_true,qiy]
    grind
  grind
 |par i=>exact bx (.par i) (by simp)
 |loc i=>exact bx (.loc i) (by simp)
 |res=>exact bx .res (by simp)
theorem qd2 (F F1:Fr)(W):(F.merge F1 W).slots.length=F.slots.length:=by
 have:∀ (l:List AV) k,(mslots W F1.slots k l).length=l.length:=by
  intro l
  induction l with
  |nil=>intro k;rfl
  |cons v l ih=>intro k;simp[mslots,ih]
 exact this _ _
theorem qgL (F:Fr)(d)(v):(F.put d v).slots.length=F.slots.length:=by cases d<;>simp[Fr.put]
theorem yh (l m):∀ r,r∈l\/r∈m->r∈zm l m:=by
 induction m generalizing l with
 |nil=>intro r h;simpa [zm]using h
 |cons x m ih=>
  intro r h;show r∈zm (if l.contains x then l else l++[x]) m
  grind
theorem Yx (F):∀ (n:Nat) (l:List Root) r,r∈l->r∈YL F n l
 |0,l,r,h=>h
 |n+1,l,r,h=>Yx F n _ r (yh _ _ r (.inl h))
theorem qbB {F G r}(h:G.at r=F.at r):xX G r=xX F r:=by
 unfold xX;cases r with
 |par i=>simp only[Fr.at]at h;cases hx:F.boxes.lookup (.par i)<;>cases hy:G.boxes.lookup (.par i)<;>simp_all[AV.ag]
 |loc i=>simp only[Fr.at]at h;cases hx:F.boxes.lookup (.loc i)<;>cases hy:G.boxes.lookup (.loc i)<;>simp_all[AV.ag]
 |_=>rfl
theorem qar {F G}:∀ (n:Nat) (l:List Root),(∀ r∈YL F n l,G.at r=F.at r)->YL G n l=YL F n l
 |0,_,_=>rfl
 |n+1,l,h=>by
  have e:l.flatMap (xX G)=l.flatMap (xX F):=by
   have:∀ m:List Root,(∀ r∈m,r∈l)->m.flatMap (xX G)=m.flatMap (xX F):=by
    intro m
    induction m with
    |nil=>grind
    |cons x m ih=>intro hm;simp only[List.flatMap_cons];rw[ih (fun r hr=>hm r (aB _ hr)),qbB (h x (Yx F (n+1) l x (hm x au)))]
   grind
  simp only[YL,e];exact qar n _ (by simpa [YL]using h)
theorem zU {F G W r}(h:G.at r=F.at r):qI G W r=qI F W r:=by unfold qI;rw[h]
theorem qia {l m}:inter l m=true↔∃ r,r∈l/\r∈m:=by simp[inter]
theorem Xj {l m}:inter l m=false↔∀ r,r∈l->r∉m:=by
 rw[<- Bool.not_eq_true,qia]
 grind
theorem qak {F W W'}(hw:∀ r∈W,r∈W'){r}(h:qI F W' r=false):qI F W r=false:=by
 unfold qI at *;split
 . rename_i v hv;rw[hv]at h;simp only[Xj]at *
   grind
 . rfl
theorem qa8 {F W}:xG F W=true↔∀ r,r∉W->(∀ k,r=.slot k->True)->qI F W r=false\/(∃ k,r=.slot k/\F.at r=none)\/F.at r=none:=by
 unfold xG;simp only[List.all_eq_true,Bool.or_eq_true,List.contains_eq_mem,aX,Bool.not_eq_true'];constructor
 .
  intro h r hr _;by_cases hm:r∈qcg F
  . grind
  .
   right;right;unfold qcg at hm;simp only[List.mem_append,List.mem_map,List.mem_range,not_or,not_exists,not_and]at hm;cases r with
   |slot k=>
    simp only[Fr.at];rw[List.getElem?_eq_none]
    grind
   |_=>
    simp only[Fr.at,Option.map_eq_none_iff]
    grind
 .
  intro h r hm;by_cases hr:r∈W
  . grind
  .
   right;rcases h r hr (fun _ _=>trivial)with h|⟨k,rfl,h⟩|h
   . exact h
   . unfold qI;rw[h]
   . unfold qI;rw[h]
theorem yB {F W}(h:xG F W=true){r}(hr:r∉W):qI F W r=false:=by
 rcases qa8.1 h r hr (fun _ _=>trivial)with h|⟨k,rfl,h⟩|h
 . exact h
 . unfold qI;rw[h]
 . unfold qI;rw[h]
theorem XT {F G f l}(h:∀ r∈l,G.at r=F.at r):yt G f l=yt F f l:=by
 unfold yt
 induction l with
 |nil=>rfl
 |cons x l ih=>grind
theorem Yc {F F' G G' W Rd cl}(h:∀ r∈W++Rd,G.at r=F.at r)(h':∀ r∈W,G'.at r=F'.at r):zJ G G' W Rd cl=zJ F F' W Rd cl:=by unfold zJ;rw[XT h,XT h']
theorem vW {ops F G o}(h:∀ r∈xW ops o,G.at r=F.at r):zi ops G o=zi ops F o:=by
 unfold zi;unfold xW at h;cases hg:o.guard with
 |none=>rfl
 |some y=>
  obtain⟨j,want⟩:=y;simp only[hg]at h |-;cases hj:ops[j]? with
  |none=>rfl
  |some oj=>
   simp only[hj,ae]at h |-;cases hd:oj.dst with
   |none=>rfl
   |some d=>
    simp only[hd]at h |-;have:G.slots[d]? = F.slots[d]?:=h (.slot d) (by simp)
    grind
theorem qf0 {F G:Fr}{W ts}(hl:G.slots.length=F.slots.length)(hW:∀ r∈W,G.at r=F.at r)(hts:∀ t∈ts,G.slots[t]? = F.slots[t]?):G.part W ts=F.part W ts:=by
 unfold Fr.part;congr 1
 .
  apply List.ext_getElem?;intro j;rw[vO,vO];simp only[Nat.zero_add];by_cases h1:W.contains (.slot j)=true
  . have:G.slots[j]? = F.slots[j]?:=hW (.slot j) (by grind)
    grind
  grind
 .
  have:∀ l:List Root,(∀ r∈l,r∈W)->lboxes G W l=lboxes F W l:=by
   intro l
   induction l with
   |nil=>intro _;rfl
   |cons x l ih=>
    intro hm;simp only[lboxes];rw[ih (fun r hr=>hm r (aB _ hr))];by_cases hx:x.boxed=true
    .
     have hat:=hW x (hm x au);have:G.boxes.lookup x=F.boxes.lookup x:=by
      cases x with
      |par i=>
       simp only[Fr.at]at hat
       cases hx:F.boxes.lookup (.par i)<;>cases hy:G.boxes.lookup (.par i)<;>simp_all[AV.ag]
      |loc i=>
       simp only[Fr.at]at hat
       cases hx:F.boxes.lookup (.loc i)<;>cases hy:G.boxes.lookup (.loc i)<;>simp_all[AV.ag]
      |_=>simp[Root.boxed]at hx
     grind
    grind
  grind
theorem qed {F G o}(hl:G.slots.length=F.slots.length)(hs:∀ t∈readsOf o,G.slots[t]? = F.slots[t]?)(hW:∀ r∈qC F o,G.at r=F.at r)(hc:∀ r,r∉qC F o->qI G (qC F o) r=qI F (qC F o) r)(hcl:xG F (qC F o)=true):qC G o=qC F o:=by
 have hv:qR G o=qR F o:=by
  unfold qR;have:∀ l:List Nat,(∀ t∈l,t∈readsOf o)->(l.flatMap fun t=>(G.ev (.tmp t)).rootsBy qJ)=l.flatMap fun t=>(F.ev (.tmp t)).rootsBy qJ:=by
   intro l
   induction l with
   |nil=>grind
   |cons t l ih=>intro hm;simp only[List.flatMap_cons];rw[ih (fun r hr=>hm r (aB _ hr)),qcX (F:=F) (G:=G) (x:=.tmp t) (fun t' ht=>by grind)]
  grind
 let W0:=YL F 3 (zm (locR o) (qR F o))
 have sub:∀ r∈W0,r∈qC F o:=fun r hr=>yh _ _ r (.inl hr);have e0:YL G 3 (zm (locR o) (qR G o))=W0:=by rw[hv];exact qar 3 _ (fun r hr=>hW r (sub r hr))
 unfold qC;simp only;rw[e0];congr 1;unfold holders;rw[hl];apply List.filter_congr;intro r _;show qI G W0 r=qI F W0 r;by_cases hr:r∈qC F o
 . exact zU (hW r hr)
 . have h1:=yB hcl hr;have h2:qI G (qC F o) r=false:=by grind
   rw[qak sub h1,qak sub h2]
theorem Qi:∀ {l:List Root} {r:Root},r∈l->(Ym l).testBit (qld r)=true
 |[],r,h=>by simp at h
 |x::l,r,h=>by
  simp only[Ym,Nat.testBit_or,Bool.or_eq_true];rcases List.mem_cons.1 h with rfl|h
  . left;exact Nat.testBit_two_pow_self
  . exact .inr (Qi h)
theorem qa3 {l m}(h:(Ym l &&& Ym m==0)=true):∀ r,r∈l->r∉m:=by
 intro r h1 h2;have:(Ym l &&& Ym m).testBit (qld r)=true:=by rw[Nat.testBit_and,Qi h1,Qi h2];rfl
 grind
theorem qaw {cx rec ops F F' o I}(e:dop cx rec ops F o=some (F',I)):I.mW=Ym I.W/\I.mS=Ym I.S:=by
 unfold dop at e;split at e
 . cases e
 . simp only[aa,ai]at e;obtain⟨_,rfl⟩:=e;exact⟨rfl,rfl⟩
 .
  split at e
  . simp only[aa,ai]at e;obtain⟨_,rfl⟩:=e;exact⟨rfl,rfl⟩
  .
   split at e
   . split at e
     . simp only[aa,ai]at e;obtain⟨_,rfl⟩:=e;exact⟨rfl,rfl⟩
     grind
   grind
theorem yL {cx rec ops F F' o I}(e:dop cx rec ops F o=some (F',I)):
  F'.slots.length=F.slots.length/\(∀ r,r∉I.W->F'.at r=F.at r)/\I.S=I.W++I.Rd++yt F qvF (I.W++I.Rd)++yt F' qvF I.W /\
   (I.cl=true->∀ r,r∉I.W->qI F I.W r=false)/\((∀ r l,F.boxes.lookup r=some l->r.boxed=true)->∀ r l,F'.boxes.lookup r=some l->r.boxed=true) /\
   ∀ G:Fr,G.slots.length=F.slots.length->(∀ r∈I.W++I.Rd,G.at r=F.at r)->(I.cl=true->∀ r,r∉I.W++I.Rd->qI G I.W r=false) ->
    ∃ G',dop cx rec ops G o=some (G',I)/\∀ r∈I.W,G'.at r=F'.at r:=by
 unfold dop at e;cases hw:zi ops F o with
 |none=>grind
 |some b=>
  have putat:∀ v r,r∉dstR o->(F.put o.dst v).at r=F.at r:=by
   intro v r hr;cases hd:o.dst with
   |none=>rfl
   |some d=>exact qmG (fun e=>hr (by simp[dstR,hd,e]))
  have putat':∀ v (G:Fr),G.slots.length=F.slots.length->∀ r∈dstR o,(G.put o.dst v).at r=(F.put o.dst v).at r:=by
   intro v G hl r hr;cases hd:o.dst with
   |none=>simp[dstR,hd]at hr
   |some d=>simp only[dstR,hd,aV]at hr;subst hr;exact qeG hl
  cases b with
  |false=>
   simp only[hw,aa,ai]at e;obtain⟨rfl,rfl⟩:=e;refine⟨qgL _ _ _,fun r hr=>putat _ r hr,rfl,by simp[zJ],fun h r l hl=>h r l (by cases hd:o.dst<;>simpa [Fr.put,hd]using hl),fun G hl h _=>?_⟩;have hw':zi ops G o=some false:=by rw[vW (fun r hr=>h r (by simp[zJ,hr]))];exact hw
   refine⟨G.put o.dst .undef,?_,putat' _ G hl⟩;simp only[dop,hw',aa,ai,true_and];exact Yc h (putat' _ G hl)
  |true=>
   simp only[hw]at e;cases hq:quiet cx F o with
   |some v=>
    simp only[hq,aa,ai]at e;obtain⟨rfl,rfl⟩:=e;refine⟨qgL _ _ _,fun r hr=>putat _ r hr,rfl,by simp[zJ],fun h r l hl=>h r l (by cases hd:o.dst<;>simpa [Fr.put,hd]using hl),fun G hl h _=>?_⟩;have hw':zi ops G o=some true:=by rw[vW (fun r hr=>h r (by simp[zJ,hr]))];exact hw
    have hs:∀ t∈readsOf o,G.slots[t]? = F.slots[t]?:=fun t ht=>h (.slot t) (by simp[zJ,slotsOf,ht]);have hq':quiet cx G o=some v:=by rw[qbw hs (fun hl r hr=>h r (by simp[zJ,hl,hr]))];exact hq
    have hv:(if Xl o.op then qR G o else [])=if Xl o.op then qR F o else []:=by
     split
     . unfold qR;have:∀ l:List Nat,(∀ t∈l,t∈readsOf o)->(l.flatMap fun t=>(G.ev (.tmp t)).rootsBy qJ)=l.flatMap fun t=>(F.ev (.tmp t)).rootsBy qJ:=by
        intro l
        induction l with
        |nil=>grind
        |cons t l ih=>intro hm;simp only[List.flatMap_cons];rw[ih (fun r hr=>hm r (aB _ hr)),qcX (F:=F) (G:=G) (x:=.tmp t) (fun t' ht=>by grind)]
       grind
     . rfl
    refine⟨G.put o.dst v,?_,putat' _ G hl⟩;simp only[dop,hw',hq',hv,aa,ai,true_and];exact Yc h (putat' _ G hl)
   |none=>
    simp only[hq]at e;split at e
    .
     rename_i hcl;split at e
     .
      rename_i F1 ha;simp only[aa,ai]at e;obtain⟨rfl,rfl⟩:=e;refine⟨qd2 _ _ _,fun r hr=>by rw[qaz];exact aF hr,rfl,fun _ r hr=>yB hcl hr,fun h r l hl=>?_,fun G hl h hc=>?_⟩
      . rw[Xd]at hl
        grind
      .
       have hw':zi ops G o=some true:=by rw[vW (fun r hr=>h r (by simp[zJ,hr]))];exact hw
       have hs:∀ t∈readsOf o,G.slots[t]? = F.slots[t]?:=fun t ht=>h (.slot t) (by simp[zJ,slotsOf,ht]);have hW:∀ r∈qC F o,G.at r=F.at r:=fun r hr=>h r (by simp[zJ,hr]);have hh:∀ r,r∉qC F o->qI G (qC F o) r=false:=by
        intro r hr;by_cases hm:r∈(zJ F (F.merge F1 (qC F o)) (qC F o) (xW ops o++slotsOf o) true).W++(zJ F (F.merge F1 (qC F o)) (qC F o) (xW ops o++slotsOf o) true).Rd
        . rw[zU (h r hm)];exact yB hcl hr
        . exact hc rfl r hm
       have hp:qC G o=qC F o:=qed hl hs hW (fun r hr=>by rw[hh r hr,yB hcl hr]) hcl;have hcl':xG G (qC F o)=true:=qa8.2 fun r hr _=>.inl (hh r hr);have hpart:G.part (qC F o) (readsOf o)=F.part (qC F o) (readsOf o):=qf0 hl hW hs;have hat:∀ r∈qC F o,(G.merge F1 (qC F o)).at r=(F.merge F1 (qC F o)).at r:=fun r hr=>by rw[qaz,qaz,aD hr,aD hr,hl]
       have hq':quiet cx G o=none:=by
        rw[qbw hs (fun hl r hr=>?_)]
        . exact hq
        . exact hW r (yh _ _ r (.inl (Yx F 3 _ r (yh _ _ r (.inr hr)))))
       refine⟨G.merge F1 (qC F o),?_,hat⟩;simp only[dop,hw',hq',hp,hcl',if_true,hpart,ha,aa,ai,true_and];exact Yc h hat
     grind
    grind
end
section
variable [Glob]
def AtEq (F G:Fr):Prop:=G.slots.length=F.slots.length/\∀ r,G.at r=F.at r
theorem AtEq.refl (F):AtEq F F:=⟨rfl,fun _=>rfl⟩
theorem AtEq.trans {F G H}(h1:AtEq F G)(h2:AtEq G H):AtEq F H:=⟨h2.1.trans h1.1,fun r=>(h2.2 r).trans (h1.2 r)⟩
theorem AtEq.symm {F G}(h:AtEq F G):AtEq G F:=⟨h.1.symm,fun r=>(h.2 r).symm⟩
def RunL (cx:Cx)(rec:Orac)(ops:List Oper)(info:Nat->Info):List Nat->Fr->Fr->Prop
 |[],F,F'=>AtEq F F'
 |i::l,F,F'=>∃ o F1,ops[i]? = some o/\dop cx rec ops F o=some (F1,info i)/\RunL cx rec ops info l F1 F'
section
variable {cx:Cx} {rec:Orac} {ops:List Oper} {info:Nat->Info}
theorem qiV {F F' G o I}(e:dop cx rec ops F o=some (F',I))(h:AtEq F G):∃ G',dop cx rec ops G o=some (G',I)/\AtEq F' G':=by
 obtain⟨h1,h2,_,h4,_,h6⟩:=yL e;obtain⟨G',g1,g2⟩:=h6 G h.1 (fun r _=>h.2 r) (fun hc r hr=>by rw[zU (h.2 r)];grind);obtain⟨k1,k2,_⟩:=yL g1;refine⟨G',g1,by rw[k1,h.1,h1],fun r=>?_⟩;by_cases hr:r∈I.W
 . grind
 . rw[k2 r hr,h.2 r,h2 r hr]
theorem RunL.ateq:∀ {l:List Nat} {F F' G:Fr},RunL cx rec ops info l F F'->AtEq F G->RunL cx rec ops info l G F'
 |[],F,F',G,h,e=>e.symm.trans h
 |i::l,F,F',G,⟨o,F1,h1,h2,h3⟩,e=>by obtain⟨G1,g1,g2⟩:=qiV h2 e;exact⟨o,G1,h1,g1,h3.ateq g2⟩
theorem qex {F f l r x}(hr:r∈l){v}(hv:F.at r=some v)(hx:x∈v.rootsBy f):x∈yt F f l:=by
 unfold yt
 grind
theorem YI {F}{W l S:List Root}{r}(hr:r∈l)(hS:∀ x∈yt F qvF l,x∈S)(hd:∀ x∈S,x∉W):qI F W r=false:=by
 unfold qI;split
 . rename_i v hv;exact Xj.2 fun x hx hw=>hd x (hS x (qex hr hv hx)) hw
 . rfl
theorem qny {F F1 F2 oi oj Ii Ij}(ei:dop cx rec ops F oi=some (F1,Ii))(ej:dop cx rec ops F1 oj=some (F2,Ij))(hd:vY Ii Ij=true):
  ∃ G1 G2,dop cx rec ops F oj=some (G1,Ij)/\dop cx rec ops G1 oi=some (G2,Ii)/\AtEq G2 F2:=by
 obtain⟨i1,i2,i3,i4,_,i6⟩:=yL ei;obtain⟨j1,j2,j3,j4,_,j6⟩:=yL ej;unfold vY at hd;rw[(qaw ei).1,(qaw ei).2,(qaw ej).1,(qaw ej).2]at hd;simp only[aC]at hd;have d1:∀ x∈Ii.W,x∉Ij.S:=qa3 hd.1;have d2:∀ x∈Ij.W,x∉Ii.S:=qa3 hd.2;have si:∀ r∈Ii.W++Ii.Rd,r∈Ii.S:=fun r hr=>by grind
 have sj:∀ r∈Ij.W++Ij.Rd,r∈Ij.S:=fun r hr=>by grind
 have siF:∀ x∈yt F qvF (Ii.W++Ii.Rd),x∈Ii.S:=fun x hx=>by grind
 have sjF:∀ x∈yt F2 qvF Ij.W,x∈Ij.S:=fun x hx=>by grind
 obtain⟨G1,g1,g2⟩:=j6 F i1.symm (fun r hr=>(i2 r (fun hw=>d1 r hw (sj r hr))).symm) (fun hc r hr=>by
  by_cases hw:r∈Ii.W
  . exact YI (l:=Ii.W++Ii.Rd) (by grind) siF (fun x hx hw'=>d2 x hw' hx)
  . rw[<- zU (i2 r hw)]
    grind)
 obtain⟨k1,k2,_⟩:=yL g1;obtain⟨G2,l1,l2⟩:=i6 G1 k1 (fun r hr=>k2 r (fun hw=>d2 r hw (si r hr))) (fun hc r hr=>by
  by_cases hw:r∈Ij.W
  . rw[zU (g2 r hw)];exact YI (l:=Ij.W) hw sjF (fun x hx hw'=>d1 x hw' hx)
  . rw[zU (k2 r hw)]
    grind)
 obtain⟨m1,m2,_⟩:=yL l1;refine⟨G1,G2,g1,l1,by omega,fun r=>?_⟩
 grind
theorem RunL.front:∀ {pre:List Nat} {x:Nat} {post:List Nat} {F F':Fr},RunL cx rec ops info (pre++x::post) F F'->(∀ y∈pre,vY (info y) (info x)=true) ->
  RunL cx rec ops info (x::(pre++post)) F F'
 |[],_,_,_,_,h,_=>h
 |y::pre,x,post,F,F',⟨o,F1,h1,h2,h3⟩,hd=>by obtain⟨ox,F2,k1,k2,k3⟩:=RunL.front h3 (fun z hz=>hd z (aB _ hz));obtain⟨G1,G2,g1,g2,g3⟩:=qny h2 k2 (hd y au);exact⟨ox,G1,k1,g1,o,G2,h1,g2,k3.ateq g3.symm⟩
theorem qfV:∀ {rest:List Oper} {i:Nat} {F F':Fr} {is all:List Info},(∀ k,rest[k]? = ops[i+k]?)->drun cx rec ops rest F=some (F',is)->(∀ (k:Nat) x,is[k]? = some x->info (i+k)=x) ->
  RunL cx rec ops info (List.range' i rest.length) F F'/\is.length=rest.length
 |[],i,F,F',is,all,_,e,_=>by simp only[drun,aa,ai]at e;obtain⟨rfl,rfl⟩:=e;exact⟨AtEq.refl _,rfl⟩
 |o::rest,i,F,F',is,all,hi,e,hinfo=>by
  simp only[drun]at e;cases h1:dop cx rec ops F o with
  |none=>simp[h1]at e
  |some y=>
   obtain⟨F1,I⟩:=y;simp only[h1]at e;cases h2:drun cx rec ops rest F1 with
   |none=>simp[h2]at e
   |some z=>
    obtain⟨F2,is2⟩:=z;simp only[h2,aa,ai]at e;obtain⟨rfl,rfl⟩:=e;have hi':∀ k,rest[k]? = ops[i+1+k]?:=fun k=>by have:=hi (k+1);rw[show i+(k+1)=i+1+k by omega]at this;simpa using this
    obtain⟨r1,r2⟩:=qfV (all:=all) hi' h2 (fun k x hx=>by rw[show i+1+k=i+(k+1)by omega];exact hinfo (k+1) x (by simpa using hx));refine⟨⟨o,F1,by have:=hi 0;simpa using this.symm,?_,r1⟩,by simp[r2]⟩;have:info i=I:=by have:=hinfo 0 I rfl;simpa using this
    rw[this];exact h1
end
def Down (ops:List Oper)(S:Nat->Prop):Prop:=∀ (j:Nat) o,ops[j]? = some o->S j->∀ e∈o.after,Region.binds .any e=true->S e.on
theorem Qh {acc i}:∀ {l:List Edge},(befE acc l).testBit i=true->∃ e∈l,Region.binds .any e=true/\(e.on=i\/((acc[e.on]?).getD 0).testBit i=true)
 |[],h=>by simp[befE]at h
 |e::l,h=>by
  simp only[befE]at h;split at h
  .
   rename_i hb;simp only[Nat.testBit_or,Bool.or_eq_true]at h;rcases h with h|h|h
   . refine⟨e,au,hb,.inl ?_⟩;rw[Nat.testBit_two_pow]at h;simpa using h
   . exact⟨e,au,hb,.inr h⟩
   . obtain⟨e',h1,h2⟩:=Qh h;exact⟨e',aB _ h1,h2⟩
  . obtain⟨e',h1,h2⟩:=Qh h;exact⟨e',aB _ h1,h2⟩
theorem YD {all}:∀ (rest:List Oper) (acc:List Nat),(∀ k,rest[k]? = all[acc.length+k]?)->(∀ (j:Nat) m,acc[j]? = some m->∀ i,m.testBit i=true->∀ S,Down all S->S j->S i) ->
  ∀ (j:Nat) m,(befL rest acc)[j]? = some m->∀ i,m.testBit i=true->∀ S,Down all S->S j->S i
 |[],acc,_,h,j,l,e=>h j l e
 |o::rest,acc,hr,h,j,m,e=>by
  refine YD rest _ (fun k=>?_) (fun j m e i hi S hS hj=>?_) j m e
  . have:=hr (k+1);simp only[List.length_append,List.length_singleton];rw[show acc.length+1+k=acc.length+(k+1)by omega];simpa using this
  .
   by_cases hlt:j<acc.length
   . rw[aY hlt]at e;exact h j m e i hi S hS hj
   .
    rw[aZ (by omega)]at e;have hj0:j=acc.length:=by have:=(az.1 e).1;simp at this;omega
    subst hj0;simp only[Nat.sub_self,aI,aa]at e;subst e;obtain⟨ed,hm,hb,hi⟩:=Qh hi;have ho:all[acc.length]? = some o:=by have:=hr 0;simpa using this.symm
    have h1:=hS _ o ho hj ed (by simpa using hm) hb;rcases hi with rfl|hi
    . exact h1
    . cases ha:acc[ed.on]? with
      |none=>simp[ha]at hi
      |some m'=>simp only[ha,Option.getD_some]at hi;exact h ed.on m' ha i hi S hS h1
theorem YP {bj ij}:∀ {l:List Info} {i:Nat},qaB bj ij i l=true->∀ (k:Nat) x,l[k]? = some x->bj.testBit (i+k)=true\/vY x ij=true
 |[],i,_,k,x,e=>by simp at e
 |y::l,i,h,k,x,e=>by
  simp only[qaB,aC,Bool.or_eq_true]at h;cases k with
  |zero=>simp only[aI,aa]at e;subst e;exact h.1
  |succ k=>rw[show i+(k+1)=i+1+k by omega];exact YP h.2 k x (by simpa using e)
theorem Yg {befs all}:∀ {l:List Info} {j:Nat},(∀ k,l[k]? = all[j+k]?)->vS befs all j l=true ->
  ∀ (a b:Nat) x y,a<b->j<=b->all[a]? = some x->all[b]? = some y->((befs[b]?).getD 0).testBit a=true\/vY x y=true
 |[],j,hl,_,a,b,x,y,hab,hjb,ha,hb=>by have:=hl (b-j);rw[show j+(b-j)=b by omega,hb]at this;simp at this
 |z::l,j,hl,h,a,b,x,y,hab,hjb,ha,hb=>by
  simp only[vS,aC]at h;by_cases hj:j=b
  . subst hj;have hz:z=y:=by have:=hl 0;rw[Nat.add_zero,hb]at this;simpa using this
    subst hz;have:=YP h.1 a x (by rw[List.getElem?_take];rw[aD hab];exact ha);simpa using this
  . exact Yg (fun k=>by have:=hl (k+1);rw[show j+(k+1)=j+1+k by omega]at this;simpa using this) h.2 a b x y hab (by omega) ha hb
theorem xn:∀ {l:List Oper} {j:Nat},vw j l=true->∀ (k:Nat) o,l[k]? = some o->∀ e∈o.after,Region.binds .any e=true->e.on<j+k
 |[],j,_,k,o,h=>by simp at h
 |x::l,j,h,k,o,ho=>by
  simp only[vw,aC,List.all_eq_true,Bool.or_eq_true,Bool.not_eq_true',aX]at h;intro e he hb;cases k with
  |zero=>
   simp only[aI,aa]at ho;subst ho;rcases h.1 e (by simpa using he)with h'|h'
   . rw[h']at hb;cases hb
   . exact h'
  |succ k=>have:=xn h.2 k o (by simpa using ho) e he hb;omega
theorem Yy (W)(c):cutC W c=c\/cutC W c=.dead:=by unfold cutC;split<;>simp
theorem qha (F W)(ts):Weak F (F.part W ts):=by
 have len:∀ (l:List AV) k,(lslots W ts k l).length=l.length:=by
  intro l
  induction l with
  |nil=>intro k;rfl
  |cons v l ih=>intro k;simp[lslots,ih]
 refine⟨len _ _,fun k v' e=>?_,fun r l' e=>?_⟩
 .
  have e':(lslots W ts 0 F.slots)[k]? = some v':=e;rw[vO]at e';simp only[aG,Nat.zero_add]at e';obtain⟨v,e1,e2⟩:=e';split at e2
  . subst e2;exact .inr ⟨v,e1,rfl,zy.map (Yy W) _⟩
  .
   split at e2
   . subst e2;exact .inr ⟨v,e1,rfl,zy.map (fun c=>by
      by_cases h:qy c=true
      . grind
      . rw[aF h];exact Yy W c) _⟩
   grind
 .
  have e':(lboxes F W W).lookup r=some l':=e;rw[zT]at e';split at e'
  . simp only[aG]at e';obtain⟨l,e1,rfl⟩:=e';exact⟨l,e1,by have:=zy.map (Yy W) [l];grind⟩
  grind
theorem qaI {F:Fr}{W ts x c}(hx:x.key.path=[])(e:(F.part W ts).get x=some c):(∀ r∈qJ c,r∈W)/\(qy c=true->x.key.root∈W):=by
 have cut:∀ c0,cutC W c0=c->∀ r∈qJ c,r∈W:=by
  intro c0 h r hr;subst h;unfold cutC at hr;split at hr
  . grind
  . simp[qJ]at hr
 obtain⟨⟨r,π⟩,a,b⟩:=x;simp only at hx;subst hx;by_cases hs:∃ k,r=.slot k
 .
  obtain⟨k,rfl⟩:=hs;simp only[Fr.get,Fr.rowsAt,Fr.rows,Fr.part,vO,Nat.zero_add,Option.map_map]at e;cases hk:F.slots[k]? with
  |none=>grind
  |some v=>
   simp only[hk,av,ae,getR,Function.comp_def]at e;split at e
   . rename_i hW;obtain⟨c0,_,e2⟩:=zH (f:=cutC W) e
     grind
   .
    split at e
    .
     obtain⟨c0,_,e2⟩:=zH (f:=fun c=>if qy c then .dead else cutC W c) e;by_cases h:qy c0=true
     . rw[aD h]at e2;subst e2;exact⟨by simp[qJ],by simp[qy]⟩
     . rw[aF h]at e2;refine⟨cut c0 e2.symm,fun ho=>?_⟩;exfalso;rcases Yy W c0 with h'|h'
       . grind
       . rw[h']at e2;subst e2;simp[qy]at ho
    . obtain⟨_,_,rfl⟩:=one_cell e;exact⟨by simp[qJ],by simp[qy]⟩
 .
  have hns:∀ k,r≠.slot k:=fun k e=>hs ⟨k,e⟩;simp only[Fr.get,Fr.rowsAt,Fr.rows_ns _ hns,Fr.part,zT]at e;split at e
  .
   rename_i hW;cases hk:F.boxes.lookup r with
   |none=>grind
   |some l=>
    simp only[hk,av,ae,getR]at e;obtain⟨c0,_,e2⟩:=zH (f:=cutC W) (rows:=[l]) e
    grind
  grind
theorem Zg {F:Fr}{k rows}(e:F.rowsAt k=some rows)(hk:k.path≠[]):∃ r o zz rs,F.get ⟨⟨k.root,[]⟩,r,o⟩=some (.own zz rs):=by
 obtain⟨root,path⟩:=k;cases path with
 |nil=>grind
 |cons y π=>
  obtain⟨r,o⟩:=y;unfold Fr.rowsAt at e;simp only at e;cases hr:F.rows root with
  |none=>grind
  |some rows0=>
   simp only[hr,ae,getR]at e;cases hc:cellAt rows0 r o with
   |none=>grind
   |some c=>
    rw[hc]at e;cases c with
    |own zz rs=>exact⟨r,o,zz,rs,by simp[Fr.get,Fr.rowsAt,hr,getR,hc]⟩
    |_=>grind
theorem qfo {G w F ts0}(h:RelF G w F ts0)(W)(ts):
  RelF { γ:=fun k=>if k.root∈W then G.γ k else none,im:=G.im,lv:=fun d=>((F.part W ts).boxes.lookup (.loc d)).isSome=true } w (F.part W ts) ts0:=by
 have lk:∀ r,((F.part W ts).boxes.lookup r).isSome=true↔(r∈W/\r.boxed=true)/\(F.boxes.lookup r).isSome=true:=by intro r;show((lboxes F W W).lookup r).isSome=true↔_;rw[zT];split<;>simp_all
 have hw:=qha F W ts;have get0:∀ x c,(F.part W ts).get x=some c->c=.dead\/(F.get x=some c/\∀ r∈qJ c,r∈W):=by
  intro x c e;rcases hw.get e with h'|h'
  . grind
  . by_cases hp:x.key.path=[]
    . exact .inr ⟨h',(qaI hp e).1⟩
    . have:=h.pure h' hp;right;refine⟨h',fun r hr=>?_⟩;cases c<;>simp[qw,qJ]at *
 have r1:=h.weak hw (fun d=>((F.part W ts).boxes.lookup (.loc d)).isSome=true) (fun d hd=>⟨?_,hd⟩) (fun d hd=>hd) (fun x c e=>?_)
 .
  refine r1.ghost ⟨fun k k' x x' e e' hb=>?_,fun k x e=>?_,h.inv.imlt,h.inv.glob⟩ rfl rfl (fun k hu=>?_)
  .
   simp only at e e';split at e
   . split at e'
     . exact h.inv.inj _ _ _ _ e e' hb
     grind
   grind
  . simp only at e;split at e
    . exact h.inv.lt _ _ e
    grind
  .
   show(if k.root∈W then G.γ k else none)=G.γ k;rw[aD];rcases hu with⟨hr,hi⟩|⟨x,c,hg,hk⟩
   .
    obtain⟨rows,hrows⟩:=Option.isSome_iff_exists.1 hr;by_cases hp:k.path=[]
    .
     rcases hi with hi|hi
     . grind
     . obtain⟨root,path⟩:=k;simp only at hp hi;subst hp;have hns:∀ k,root≠.slot k:=fun k e=>by rw[e]at hi;simp[Root.boxed]at hi
       simp only[Fr.rowsAt,Fr.rows_ns _ hns]at hrows;have:((F.part W ts).boxes.lookup root).isSome=true:=by
        cases hx:(F.part W ts).boxes.lookup root with
        |none=>grind
        |some l=>rfl
       grind
    . obtain⟨r,o,zz,rs,hg⟩:=Zg hrows hp;exact(qaI (x:=⟨⟨k.root,[]⟩,r,o⟩) rfl hg).2 rfl
   .
    by_cases hp:x.key.path=[]
    .
     obtain⟨g1,g2⟩:=qaI hp hg;cases c with
     |own zz rows=>simp only[deps,aV]at hk;subst hk;exact g2 rfl
     |mp es=>simp only[deps,aV]at hk;subst hk;exact g2 rfl
     |ref q=>simp only[deps,aV]at hk;subst hk;exact g1 _ (by simp[qJ,Pl.toKey])
     |ptr q=>simp only[deps,aV]at hk;subst hk;exact g1 _ (by simp[qJ])
     |clo f fs cs=>
      simp only[deps,List.mem_filterMap]at hk;obtain⟨y,hy,hk⟩:=hk;cases y with
      |ptr q=>
       simp only[aa]at hk;subst hk;refine g1 _ ?_;simp only[qJ,List.mem_filterMap]
       grind
      |_=>grind
     |_=>simp[deps]at hk
    .
     have hpure:=r1.pure hg hp;cases c with
     |own zz rows=>
      simp only[deps,aV]at hk;subst hk;have:∃ rows,(F.part W ts).rowsAt x.key=some rows:=by
       unfold Fr.get at hg;cases hx:(F.part W ts).rowsAt x.key with
       |none=>grind
       |some rows=>grind
      obtain⟨rows',hrows⟩:=this;obtain⟨r,o,zz',rs,hg'⟩:=Zg hrows hp;exact(qaI (x:=⟨⟨x.key.root,[]⟩,r,o⟩) rfl hg').2 rfl
     |_=>simp[qw,deps]at hpure hk
 . obtain⟨l,hl⟩:=Option.isSome_iff_exists.1 ((lk (.loc d)).1 hd).2;exact(h.boxes (.loc d) l hl).2
 .
  rcases get0 x c e with rfl|⟨e',hr⟩
  . grind
  .
   have hok:=h.okPtr e';have fin:∀ r,G.ok r->r∈W->Gh.ok { G with lv:=fun d=>((F.part W ts).boxes.lookup (.loc d)).isSome=true } r:=by
    intro r h1 h2;cases r with
    |loc d=>exact(lk (.loc d)).2 ⟨⟨h2,rfl⟩,h.live d h1⟩
    |_=>trivial
   refine⟨fun q hq=>fin _ (hok.1 q hq) (hr _ ?_),fun f fs cs q hq hm=>fin _ (hok.2 f fs cs q hq hm) (hr _ ?_)⟩
   . rcases hq with rfl|rfl<;>simp[qJ]
   . subst hq;simp only[qJ,List.mem_filterMap]
     grind
def inW (W:List Root)(r:Root):Option Root:=if r∈W then some r else none
theorem qkT (W)(c0):cutC W c0=.dead\/RenC (inW W) c0 (cutC W c0):=by
 by_cases hc:(qJ c0).all W.contains=true
 .
  have e:cutC W c0=c0:=by unfold cutC;grind
  rw[e];simp only[List.all_eq_true,List.contains_eq_mem,aX]at hc;cases c0 with
  |ptr q=>exact .inr ⟨by unfold inW;rw[aD (hc _ (by simp[qJ]))],rfl,rfl,rfl⟩
  |ref q=>exact .inr ⟨by unfold inW;rw[aD (hc _ (by simp[qJ]))],rfl,rfl,rfl⟩
  |clo f fs cs=>
   right;have go:∀ l:List Cell,(∀ c∈l,c∈fs++cs)->qev (inW W) l l:=by
    intro l
    induction l with
    |nil=>intro _;trivial
    |cons x l ih=>
     intro hm;refine⟨?_,ih fun c hc=>hm c (aB _ hc)⟩;have hx:=hm x au;cases x with
     |ptr q=>
      refine⟨?_,rfl,rfl,rfl⟩;unfold inW;rw[aD (hc _ _)];simp only[qJ,List.mem_filterMap]
      grind
     |_=>exact rfl
   exact⟨rfl,go fs (fun c hc=>aL _ hc),go cs (fun c hc=>aS _ hc)⟩
  |dead=>grind
  |own z rows=>exact .inr ⟨rfl,rfl⟩
  |cptr z rows=>exact .inr ⟨rfl,rfl⟩
  |nil=>exact .inr trivial
  |val u=>exact .inr rfl
  |imm u=>exact .inr rfl
  |mp u=>exact .inr rfl
 . left;unfold cutC;grind
end
section
variable [Glob]
theorem qco {W c}(h:∀ x∈qvF c,x∉W):qdX (inW W) c:=by
 have one:∀ q:Pl,(qie q=true->q.key.root∉W)->qeH (inW W) q:=by
  intro q hq;by_cases hd:qie q=true
  . left;unfold inW;grind
  . right;unfold qie at hd
    grind
 cases c with
 |ptr q=>refine one q fun hd=>h _ ?_;simp[qvF,hd]
 |ref q=>show inW W q.key.root=none;unfold inW;rw[aF (h _ (by simp[qvF]))]
 |clo f fs cs=>
  intro q hq;refine one q fun hd=>h _ ?_;simp only[qvF,List.mem_filterMap]
  grind
 |_=>trivial
theorem XD {F W r v}(hv:F.at r=some v)(h:qI F W r=false):yJ (inW W) v.rows v.rows:=by refine⟨rfl,fun a b c hc=>⟨c,hc,.inr ⟨rfl,qco fun x hx hw=>?_⟩⟩⟩;unfold qI at h;rw[hv]at h;refine(Xj.1 h) x ?_ hw;obtain⟨row,h1,h2⟩:=qc.1 hc;unfold AV.rootsBy;simp only[List.mem_flatMap];exact⟨row,aM h1,c,aM h2,hx⟩
theorem qeY (W)(rows):yS (inW W) rows (rows.map (·.map (cutC W))):=by refine⟨by simp_all,fun r o c' hc=>?_⟩;obtain⟨c,h1,rfl⟩:=zH hc;exact⟨c,h1,qkT W c⟩
theorem yK (F F1:Fr)(W)(r):(F.merge F1 W).boxes.lookup r=if r∈W then(if r.boxed then(F1.boxes.lookup r).map (·.map (cutC W))else none)else F.boxes.lookup r:=Xd F F1 W r
theorem qdb {F:Fr}{d v}(h:(v.rows.any (·.any qy))=false):F.putS d v=F.put d v:=by
 cases d with
 |none=>rfl
 |some d=>simp only[Fr.putS,h];rfl
theorem qdS {cx:Cx}{G G1 w w1 F F1}{a:Act}{o V ts}(h:RelF G w F a.tmps)(hcl:xG F (qC F o)=true)(r1:RelF G1 w1 F1 (a.put o.dst V).tmps)(g1:Gain { γ:=fun k=>if k.root∈qC F o then G.γ k else none,im:=G.im,lv:=fun d=>((F.part (qC F o) ts).boxes.lookup (.loc d)).isSome=true } w G1 w1):
  ∃ G',RelF G' w1 (F.merge F1 (qC F o)) (a.put o.dst V).tmps/\Gain G w G' w1:=by
 generalize hW:qC F o=W at *;have hdst:∀ d,o.dst=some d->Root.slot d∈W:=by intro d hd;rw[<- hW];exact yh _ _ _ (.inl (Yx F 3 _ _ (yh _ _ _ (.inl (by simp[locR,hd])))))
 have hsz:(a.put o.dst V).tmps.size=a.tmps.size:=by cases o.dst<;>simp[Act.put]
 have tsk:∀ k,Root.slot k∉W->(a.put o.dst V).tmps[k]? = a.tmps[k]?:=by
  intro k hk;cases hd:o.dst with
  |none=>rfl
  |some d=>
   have:d≠k:=fun e=>hk (e▸hdst d hd);simp only[Act.put]
   grind
 have pl:∀ r,((F.part W ts).boxes.lookup r).isSome=true↔(r∈W/\r.boxed=true)/\(F.boxes.lookup r).isSome=true:=by intro r;show((lboxes F W W).lookup r).isSome=true↔_;rw[zT];split<;>simp_all
 have inWs:∀ {r a},inW W r=some a->r∈W/\a=r:=by
  intro r a e;unfold inW at e
  grind
 have inWn:∀ {r},r∉W->inW W r=none:=fun hr=>by unfold inW;grind
 have inWp:∀ {r},r∈W->inW W r=some r:=fun hr=>by unfold inW;grind
 have inWno:∀ {r},inW W r=none->r∉W:=fun e hr=>by grind
 have sp:Spliced (inW W) F1 F (F.merge F1 W) (a.put o.dst V).tmps a.tmps (a.put o.dst V).tmps:=by
  refine⟨by rw[qd2,hsz];exact h.size,fun k v e=>?_,fun r l e=>?_⟩
  .
   have e':(F.merge F1 W).at (.slot k)=some v:=e;rw[qaz]at e';by_cases hk:Root.slot k∈W
   .
    rw[aD hk]at e';simp only[qiy]at e';split at e'
    . rename_i hlt;simp only[aa]at e';have hlt1:k<F1.slots.length:=by rw[r1.size,hsz,<- h.size];omega
      rw[ax hlt1]at e';obtain⟨V',hV,_⟩:=r1.slots k _ (ax hlt1);subst e';exact⟨V',hV,.inl ⟨k,_,inWp hk,ax hlt1,hV,rfl,qeY W _⟩⟩
    grind
   . rw[aF hk]at e';obtain⟨V',hV,_⟩:=h.slots k v e';exact⟨V',by grind,.inr (.inl ⟨inWn hk,v,e',hV,rfl,XD e' (yB hcl hk)⟩)⟩
  .
   rw[yK]at e;by_cases hr:r∈W
   . rw[aD hr]at e;split at e
     . simp only[aG]at e;obtain⟨l1,e1,rfl⟩:=e;exact .inl ⟨r,l1,inWp hr,e1,by have:=qeY W [l1];grind⟩
     grind
   . rw[aF hr]at e;refine .inr ⟨inWn hr,l,e,?_⟩;have hat:F.at r=some (AV.ag l):=by have hb:=(h.boxes r l e).1;cases r<;>first|(simp only[Fr.at,e];rfl)|simp[Root.boxed]at hb
     exact XD hat (yB hcl hr)
 have part:Part (inW W) G { γ:=fun k=>if k.root∈W then G.γ k else none,im:=G.im,lv:=fun d=>((F.part W ts).boxes.lookup (.loc d)).isSome=true } G1 w w1 F (F.merge F1 W):=by
  refine⟨g1,fun r r' x e e'=>?_,fun r x e=>?_,rfl,fun k1 x e=>?_,fun i x e=>?_,fun d x e hd=>?_,fun d x e ho=>?_,fun d e hd=>?_⟩
  . grind
  . grind
  . grind
  . obtain⟨hi,rfl⟩:=inWs e;rw[g1.par i]
    grind
  . obtain⟨hi,rfl⟩:=inWs e;obtain⟨k1,k2⟩:=g1.loc d ((pl _).2 ⟨⟨hi,rfl⟩,h.live d hd⟩);refine⟨?_,k1⟩
    grind
  . obtain⟨hi,rfl⟩:=inWs e;have:=r1.live d ho;rw[yK,aD hi];obtain⟨l,hl⟩:=Option.isSome_iff_exists.1 this;simp[Root.boxed,hl]
  . rw[yK,aF (inWno e)];exact h.live d hd
 exact⟨_,qap h r1 sp part⟩
theorem vF {cx rec}(hrec:∀ d,qN cx.P (rec d))(hfn:∀ d,ZA cx.P (rec d)){ops G w F F' a o I}(h:RelF G w F a.tmps)(e:dop cx rec ops.toList F o=some (F',I)){K Q}(hK:∀ V G' w',RelF G' w' F' (a.put o.dst V).tmps->Gain G w G' w'->K (a.put o.dst V) w'):
  if Region.wanted o (yielded ops a.tmps)then o.wp cx.P a w K Q else K (a.put o.dst Go.undef) w:=by
 unfold dop at e;cases hw:zi ops.toList F o with
 |none=>grind
 |some b=>
  have hb:=xh h hw;cases b with
  |false=>rw[aF (by grind)];simp only[hw,aa,ai]at e;obtain⟨rfl,_⟩:=e;have:=putO (d:=o.dst) h (Xt G w);rw[qdb (Xt G w).noOwn]at this;exact hK _ G w this (Gain.refl G w)
  |true=>
   rw[aD hb];simp only[hw]at e;cases hq:quiet cx F o with
   |some v=>simp only[hq,aa,ai]at e;obtain⟨rfl,_⟩:=e;obtain⟨V,hV,hr⟩:=qaS h hq;unfold Oper.wp;rw[hV];have:=putO (d:=o.dst) h hr;rw[qdb hr.noOwn]at this;exact hK V G w this (Gain.refl G w)
   |none=>
    simp only[hq]at e;split at e
    . rename_i hcl;split at e
      . rename_i F1 ha;simp only[aa,ai]at e;obtain⟨rfl,_⟩:=e;refine XI (hrec _) (hfn _) (qfo h (qC F o) (readsOf o)) ha (fun _ V G1 w1 r1 g1=>?_) (fun v hv=>by cases hv);obtain⟨G',k1,k2⟩:=qdS (cx:=cx) h hcl r1 g1
        grind
      grind
    grind
def NoSl (F:Fr):Prop:=∀ r l,F.boxes.lookup r=some l->r.boxed=true
theorem qaQ {cx rec ops}:∀ {rest:List Oper} {F F':Fr} {is:List Info},NoSl F->drun cx rec ops rest F=some (F',is)->NoSl F'
 |[],F,F',is,h,e=>by simp only[drun,aa,ai]at e;obtain⟨rfl,_⟩:=e;exact h
 |o::rest,F,F',is,h,e=>by
  simp only[drun]at e;cases h1:dop cx rec ops F o with
  |none=>simp[h1]at e
  |some y=>
   obtain⟨F1,I⟩:=y;simp only[h1]at e;cases h2:drun cx rec ops rest F1 with
   |none=>simp[h2]at e
   |some z=>obtain⟨F2,is2⟩:=z;simp only[h2,aa,ai]at e;obtain⟨rfl,_⟩:=e;exact qaQ ((yL h1).2.2.2.2.1 h) h2
theorem qcz {G w F F' ts}(h:RelF G w F ts)(e:AtEq F' F)(hn:NoSl F'):RelF G w F' ts:=by
 have lk:∀ r,F'.boxes.lookup r=F.boxes.lookup r:=by
  intro r;have hr:=e.2 r;cases r with
  |slot k=>
   cases h1:F'.boxes.lookup (.slot k)with
   |some l=>have:=hn _ _ h1;simp[Root.boxed]at this
   |none=>
    cases h2:F.boxes.lookup (.slot k)with
    |some l=>have:=(h.boxes _ _ h2).1;simp[Root.boxed]at this
    |none=>rfl
  |par i=>simp only[Fr.at]at hr;cases hx:F.boxes.lookup (.par i)<;>cases hy:F'.boxes.lookup (.par i)<;>simp_all[AV.ag]
  |loc i=>simp only[Fr.at]at hr;cases hx:F.boxes.lookup (.loc i)<;>cases hy:F'.boxes.lookup (.loc i)<;>simp_all[AV.ag]
  |res=>simp only[Fr.at]at hr;cases hx:F.boxes.lookup .res<;>cases hy:F'.boxes.lookup .res<;>simp_all[AV.ag]
 have sl:F'.slots=F.slots:=(qjJ e.1 (fun k=>e.2 (.slot k))).symm;refine h.weak0 ⟨by rw[sl],fun k v hv=>.inr ⟨v,by grind,rfl,rfl,fun r o c hc=>⟨c,hc,.inl rfl⟩⟩,fun r l hl=>⟨l,by grind,rfl,fun r o c hc=>⟨c,hc,.inl rfl⟩⟩⟩ (fun r=>by rw[lk])
theorem qd4 {D cx rec}(hrec:∀ d,qN cx.P (rec d))(hfn:∀ d,ZA cx.P (rec d)){ops info F' G0 w0 Q}(hn:NoSl F')(hed:∀ (k:Nat) o,ops[k]? = some o->∀ e∈o.after,Region.binds .any e=true->e.on<k)(hchk:∀ a b:Nat,a<b->b<ops.size->(∀ S,Down ops.toList S->S b->S a)\/vY (info a) (info b)=true)(hD:∀ o∈ops,∀ a V,D a->D (a.put o.dst V))(hq:∀ a' w',Stands D G0 w0 F' a' w'->Q .normal a' w'):
  ∀ (fuel:Nat) (listed:Array Bool) (c:List Nat) (F:Fr) (a:Act) (w:World) (G:Gh),c.length=fuel->(∀ i,i∈c↔i<ops.size/\listed.getD i true=false)->listed.size=ops.size ->
   c.Pairwise (· < ·)->Down ops.toList (fun i=>i<ops.size/\listed.getD i true=true)->RunL cx rec ops.toList info c F F'->RelF G w F a.tmps->zS G0 w0 G w->D a ->
   wpAny cx.P .any ops Q fuel listed a w
 |0,listed,c,F,a,w,G,hl,hm,hs,_,_,hr,h,hg,hd=>by have hc:c=[]:=List.length_eq_zero_iff.1 hl;subst hc;refine⟨?_,hq a w ⟨hd,G,hg,qcz h (AtEq.symm hr) hn⟩⟩;unfold Region.ready;rw[List.filter_eq_nil_iff];intro i hi;have:=hm i;simp only[List.not_mem_nil,false_iff,not_and,Bool.not_eq_false]at this;rw[this (by simpa using hi)];simp
 |fuel+1,listed,c,F,a,w,G,hl,hm,hs,hp,hdn,hr,h,hg,hd=>by
  have rdy:∀ i,i∈Region.ready .any ops listed↔i<ops.size/\listed.getD i true=false/\∃ o,ops[i]? = some o/\∀ e∈o.after,Region.binds .any e=true->listed.getD e.on false=true:=by
   intro i;unfold Region.ready;simp only[List.mem_filter,List.mem_range,aC,Bool.not_eq_true'];constructor
   . rintro ⟨h1,h2,h3⟩
     cases ho:ops[i]? with
     |none=>simp[ho]at h3
     |some o=>simp only[ho,av,Option.getD_some,Array.all_eq_true_iff_forall_mem,Bool.or_eq_true,Bool.not_eq_true']at h3;exact⟨h1,h2,o,rfl,fun e he hb=>(h3 e he).resolve_left (by rw[hb];simp)⟩
   . rintro ⟨h1,h2,o,ho,h3⟩
     refine⟨h1,h2,?_⟩;simp only[ho,av,Option.getD_some,Array.all_eq_true_iff_forall_mem,Bool.or_eq_true,Bool.not_eq_true'];intro e he;cases hb:Region.binds .any e with
     |false=>exact .inl rfl
     |true=>exact .inr (h3 e he hb)
  refine⟨fun hnil=>?_,fun i hi=>?_⟩
  .
   exfalso;cases c with
   |nil=>simp at hl
   |cons m c=>
    have hmm:=(hm m).1 au;have ho:ops[m]? = some (ops[m]'hmm.1):=Array.getElem?_eq_getElem hmm.1;have:m∈Region.ready .any ops listed:=(rdy m).2 ⟨hmm.1,hmm.2,_,ho,fun e he hb=>by
     have hlt:=hed m _ ho e he hb;have hnot:e.on∉m::c:=by
      intro hmem;rcases List.mem_cons.1 hmem with h'|h'
      . omega
      . have:=(List.pairwise_cons.1 hp).1 _ h';omega
     have hx:=mt (hm e.on).2 hnot;simp only[not_and,Bool.not_eq_false]at hx;have hlt':e.on<ops.size:=by omega
     have:=hx hlt';rw[aJ]at this |-;rw[Array.getElem?_eq_getElem (by omega)]at this |-;simpa using this⟩
    rw[hnil]at this;simp at this
  .
   obtain⟨h1,h2,o,ho,h3⟩:=(rdy i).1 hi;have hic:i∈c:=(hm i).2 ⟨h1,h2⟩;obtain⟨pre,post,rfl⟩:=List.append_of_mem hic;have hlt:∀ y∈pre,y<i:=fun y hy=>(List.pairwise_append.1 hp).2.2 y hy i au;have gl:∀ {x:Nat},x<ops.size->listed.getD x false=listed.getD x true:=fun hx=>by rw[aJ,aJ,Array.getElem?_eq_getElem (by omega)];rfl
   have dis:∀ y∈pre,vY (info y) (info i)=true:=by
    intro y hy;rcases hchk y i (hlt y hy) h1 with hS|hS
    .
     exfalso;have hym:=(hm y).1 (aL _ hy);have:=hS (fun k=>k=i\/(k<ops.size/\listed.getD k true=true)) (fun j oj hj hS e he hb=>by
      rcases hS with rfl|hS
      . have hoj:oj=o:=by
         have:ops.toList[j]? = some o:=by rw[aQ];exact ho
         rw[this]at hj;exact(aR hj).symm
        subst hoj;have hx:=h3 e he hb;have hxl:e.on<ops.size:=by have:=hed j oj ho e he hb;omega
        exact .inr ⟨hxl,by rw[<- gl hxl];exact hx⟩
      . exact .inr (hdn j oj hj hS e he hb)) (.inl rfl)
     rcases this with h'|h'
     . have:=hlt y hy;omega
     . rw[h'.2]at hym;simp at hym
    . exact hS
   obtain⟨o',F1,k1,k2,k3⟩:=RunL.front hr dis;have ho':o'=o:=by rw[aQ,ho]at k1;exact(aR k1).symm
   subst ho';unfold wpOp;simp only[ho];have key:=vF (Q:=Q) hrec hfn h k2 (K:=wpAny cx.P .any ops Q fuel (listed.setIfInBounds i true)) (fun V G' w' r' g'=>by
    refine qd4 hrec hfn hn hed hchk hD hq fuel _ (pre++post) F1 _ w' G' ?_ (fun x=>?_) (by simp[hs]) ?_ ?_ k3 r' (hg.trans g'.w) (hD _ (Array.mem_of_getElem? ho) _ _ hd)
    . simp at hl |-;omega
    .
     have hx:=hm x;simp only[List.mem_append,List.mem_cons]at hx |-;rw[aJ,aW];by_cases hxi:i=x
     . subst hxi;rw[aD rfl,aD (by omega)];simp only[Option.getD_some,Bool.true_eq_false,and_false,iff_false,not_or];refine⟨fun hy=>?_,fun hy=>?_⟩
       . have:=hlt i hy;omega
       . have:=(List.pairwise_cons.1 (List.pairwise_append.1 hp).2.1).1 i hy;omega
     .
      rw[aF hxi,<- aJ,<- hx];constructor
      . rintro (h'|h')
        . exact .inl h'
        . exact .inr (.inr h')
      . rintro (h'|h'|h')
        . exact .inl h'
        . exact absurd h'.symm hxi
        . exact .inr h'
    . rw[List.pairwise_append]at hp |-;refine⟨hp.1,(List.pairwise_cons.1 hp.2.1).2,fun x hx y hy=>hp.2.2 x hx y (aB _ hy)⟩
    .
     have up:∀ x,x<ops.size->listed.getD x true=true->(listed.setIfInBounds i true).getD x true=true:=by
      intro x hx hlx;rw[aJ,aW];by_cases hxi:i=x
      . subst hxi;rw[aD rfl,aD (by omega)];rfl
      . rw[aF hxi,<- aJ];exact hlx
     intro j oj hj hS e he hb;have hj':ops[j]? = some oj:=by rw[<- aQ];exact hj
     have hlt':=hed j oj hj' e he hb;refine⟨by omega,?_⟩;by_cases hji:j=i
     . subst hji;rw[ho]at hj';cases hj';have hxl:e.on<ops.size:=by omega
       exact up _ hxl (by rw[<- gl hxl];exact h3 e he hb)
     . have hjl:listed.getD j true=true:=by have:=hS.2;rw[aJ,aW,aF (fun e=>hji e.symm),<- aJ]at this;exact this
       obtain⟨h5,h6⟩:=hdn j oj hj ⟨hS.1,hjl⟩ e he hb;exact up _ h5 h6)
   split
   . rename_i hw;rw[aD hw]at key;exact .inl key
   . rename_i hw;rw[aF hw]at key;exact key
theorem qek {D cx rec}(hrec:∀ d,qN cx.P (rec d))(hfn:∀ d,ZA cx.P (rec d))(hmix:cx.P.follows .mixedOrders=true){ops F F' G0 w0 G w a Q id}(h:RelF G w F a.tmps)(hg:zS G0 w0 G w)(hd:D a)(e:adraw cx rec ops.toList F=some F')(hD:∀ o∈ops,∀ a V,D a->D (a.put o.dst V))(hq:∀ a' w',Stands D G0 w0 F' a' w'->Q .normal a' w'):(Code.region id ops true).wp cx.P Q a w:=by
 unfold adraw at e;cases h1:drun cx rec ops.toList ops.toList F with
 |none=>grind
 |some y=>
  obtain⟨F1,is⟩:=y;simp only[h1]at e;split at e
  .
   rename_i hc;simp only[aa]at e;subst e;simp only[aC]at hc;have hinfo:∀ (k:Nat) x,is[k]? = some x->(fun i=>(is[i]?).getD ⟨[],[],[],false,0,0⟩) (0+k)=x:=fun k x hx=>by grind
   obtain⟨r1,r2⟩:=qfV (info:=fun i=>(is[i]?).getD ⟨[],[],[],false,0,0⟩) (all:=is) (fun k=>by grind) h1 hinfo;have hw':RelF G { w with drawn:=w.drawn+1 } F a.tmps:=h.same ⟨Nat.le_refl _,fun _ _=>rfl,fun _ _ _=>rfl⟩;have hg':zS G0 w0 G { w with drawn:=w.drawn+1 }:=hg.trans (Gain.same (G:=G) (w:=w) (w':={ w with drawn:=w.drawn+1 }) (Nat.le_refl w.heap.size) (fun _ _=>rfl) h.inv (Out.drew w _)).w;refine wp_region_any hmix (qd4 hrec hfn (info:=fun i=>(is[i]?).getD ⟨[],[],[],false,0,0⟩) (qaQ (fun r l hl=>(h.boxes r l hl).1) h1) (fun k o ho e he hb=>?_) (fun x y hxy hy=>?_) hD hq ops.size _ (List.range' 0 ops.toList.length) F a _ G
    (by simp) (fun i=>?_) (by simp) ?_ (fun j oj hj hS=>?_) r1 hw' hg' hd)
   . have:=xn hc.1 k o (by grind) e he hb;omega
   .
    have hlx:x<is.length:=by grind
    have hly:y<is.length:=by grind
    rcases Yg (fun k=>by grind) hc.2 x y is[x] is[y] hxy (Nat.zero_le _) (ax hlx) (ax hly)with hb|hb
    . left;cases hl:(befL ops.toList [])[y]? with
      |none=>grind
      |some l=>simp only[hl,Option.getD_some]at hb;exact fun S hS hSy=>YD ops.toList [] (fun k=>by simp) (fun j l e=>by grind) y l hl x hb S hS hSy
    grind
   . simp_all
   . exact List.pairwise_lt_range'
   . obtain⟨hj1,hj2⟩:=hS;simp_all
  grind
end
section
variable [Glob]
def Rel2 (ops:List Oper)(info:Nat->Info)(x y:Nat):Prop:=(∀ S,Down ops S->S y->S x)\/vY (info x) (info y)=true
def qa4 (o:Oper):Bool:=match o.op with
 |.call { callee:=.value _,.. }=>false
 |_=>true
theorem qgq {cx r1 r2 ops F o}(h:qa4 o=true):dop cx r1 ops F o=dop cx r2 ops F o:=by
 have ha:∀ (F:Fr) (ra rb:Oracle),aop cx ra F o=aop cx rb F o:=by
  intro F ra rb;unfold aop;split
  . rfl
  unfold aop0;split
  . rfl
  .
   split
   . rfl
   . split
     . rfl
     . rename_i hh;rw[qa4,hh]at h;cases h
     . rfl
 unfold dop;simp only[ha _ (r1 o.dst) (r2 o.dst)]
section
variable {D:Act->Prop} {cx:Cx} {rec:Orac} {ops:Array Oper} {F':Fr} {G0:Gh} {w0:World} {Q:Exit->Act->World->Prop}
theorem XY (listed)(i):i∈Region.ready .any ops listed↔i<ops.size/\listed.getD i true=false/\∃ o,ops[i]? = some o/\∀ e∈o.after,Region.binds .any e=true->listed.getD e.on false=true:=by
 unfold Region.ready;simp only[List.mem_filter,List.mem_range,aC,Bool.not_eq_true'];constructor
 .
  rintro ⟨h1,h2,h3⟩
  cases ho:ops[i]? with
  |none=>simp[ho]at h3
  |some o=>simp only[ho,av,Option.getD_some,Array.all_eq_true_iff_forall_mem,Bool.or_eq_true,Bool.not_eq_true']at h3;exact⟨h1,h2,o,rfl,fun e he hb=>(h3 e he).resolve_left (by rw[hb];simp)⟩
 .
  rintro ⟨h1,h2,o,ho,h3⟩
  refine⟨h1,h2,?_⟩;simp only[ho,av,Option.getD_some,Array.all_eq_true_iff_forall_mem,Bool.or_eq_true,Bool.not_eq_true'];intro e he;cases hb:Region.binds .any e with
  |false=>exact .inl rfl
  |true=>exact .inr (h3 e he hb)
theorem XR {listed:Array Bool}(hs:listed.size=ops.size){x}(hx:x<ops.size):listed.getD x false=listed.getD x true:=by rw[aJ,aJ,Array.getElem?_eq_getElem (by omega)];rfl
theorem qb0:∀ {l:List Nat},l≠[]->∃ m∈l,∀ x∈l,m<=x
 |[],h=>absurd rfl h
 |[a],_=>⟨a,by simp,by simp⟩
 |a::b::l,_=>by
  obtain⟨m,h1,h2⟩:=qb0 (l:=b::l) (by simp);by_cases hm:a<=m
  .
   exact⟨a,au,fun x hx=>by
    rcases List.mem_cons.1 hx with rfl|hx
    . exact Nat.le_refl _
    . exact Nat.le_trans hm (h2 x hx)⟩
  .
   exact⟨m,aB _ h1,fun x hx=>by
    rcases List.mem_cons.1 hx with rfl|hx
    . omega
    . exact h2 x hx⟩
theorem Ql {listed c}(hed:∀ (k:Nat) o,ops[k]? = some o->∀ e∈o.after,Region.binds .any e=true->e.on<k)(hm:∀ i,i∈c↔i<ops.size/\listed.getD i true=false)(hs:listed.size=ops.size)(hc:c≠[]):Region.ready .any ops listed≠[]:=by
 obtain⟨m,h1,h2⟩:=qb0 hc;have hmm:=(hm m).1 h1;have ho:ops[m]? = some (ops[m]'hmm.1):=Array.getElem?_eq_getElem hmm.1;have:m∈Region.ready .any ops listed:=(XY listed m).2 ⟨hmm.1,hmm.2,_,ho,fun e he hb=>by
  have hlt:=hed m _ ho e he hb;have hnot:e.on∉c:=fun hmem=>by have:=h2 _ hmem;omega
  have hx:=mt (hm e.on).2 hnot;simp only[not_and,Bool.not_eq_false]at hx;have hlt':e.on<ops.size:=by omega
  rw[XR hs hlt'];exact hx hlt'⟩
 intro hnil;rw[hnil]at this;simp at this
theorem XQ {listed:Array Bool}(hed:∀ (k:Nat) o,ops[k]? = some o->∀ e∈o.after,Region.binds .any e=true->e.on<k)(hs:listed.size=ops.size)(hdn:Down ops.toList (fun i=>i<ops.size/\listed.getD i true=true)){i o}(ho:ops[i]? = some o)(h3:∀ e∈o.after,Region.binds .any e=true->listed.getD e.on false=true):
  Down ops.toList (fun k=>k<ops.size/\(listed.setIfInBounds i true).getD k true=true):=by
 have h1:i<ops.size:=(Array.getElem?_eq_some_iff.1 ho).1;have up:∀ x,x<ops.size->listed.getD x true=true->(listed.setIfInBounds i true).getD x true=true:=by
  intro x hx hlx;rw[aJ,aW];by_cases hxi:i=x
  . subst hxi;rw[aD rfl,aD (by omega)];rfl
  . rw[aF hxi,<- aJ];exact hlx
 intro j oj hj hS e he hb;have hj':ops[j]? = some oj:=by rw[<- aQ];exact hj
 have hlt':=hed j oj hj' e he hb;refine⟨by omega,?_⟩;by_cases hji:j=i
 . subst hji;rw[ho]at hj';cases hj';have hxl:e.on<ops.size:=by omega
   exact up _ hxl (by rw[<- XR hs hxl];exact h3 e he hb)
 . have hjl:listed.getD j true=true:=by have:=hS.2;rw[aJ,aW,aF (fun e=>hji e.symm),<- aJ]at this;exact this
   obtain⟨h5,h6⟩:=hdn j oj hj ⟨hS.1,hjl⟩ e he hb;exact up _ h5 h6
theorem qfE {listed:Array Bool}{info}(hed:∀ (k:Nat) o,ops[k]? = some o->∀ e∈o.after,Region.binds .any e=true->e.on<k)(hs:listed.size=ops.size)(hdn:Down ops.toList (fun i=>i<ops.size/\listed.getD i true=true)){i y o}(ho:ops[i]? = some o)(h3:∀ e∈o.after,Region.binds .any e=true->listed.getD e.on false=true)(hy:y<ops.size/\listed.getD y true=false)(hyi:y≠i)(hR:Rel2 ops.toList info y i):vY (info y) (info i)=true:=by
 have h1:i<ops.size:=(Array.getElem?_eq_some_iff.1 ho).1;rcases hR with hS|hS
 .
  exfalso;have:=hS (fun k=>k=i\/(k<ops.size/\listed.getD k true=true)) (fun j oj hj hS e he hb=>by
   rcases hS with rfl|hS
   .
    have hoj:oj=o:=by
     have:ops.toList[j]? = some o:=by rw[aQ];exact ho
     rw[this]at hj;exact(aR hj).symm
    subst hoj;have hx:=h3 e he hb;have hxl:e.on<ops.size:=by have:=hed j oj ho e he hb;omega
    exact .inr ⟨hxl,by rw[<- XR hs hxl];exact hx⟩
   . exact .inr (hdn j oj hj hS e he hb)) (.inl rfl)
  rcases this with h'|h'
  . exact hyi h'
  . rw[h'.2]at hy;simp at hy
 . exact hS
theorem qa7 {listed:Array Bool}{pre post i}(hm:∀ x,x∈pre++i::post↔x<ops.size/\listed.getD x true=false)(hnd:(pre++i::post).Nodup)(hs:listed.size=ops.size)(hi:i<ops.size)(x):
  x∈pre++post↔x<ops.size/\(listed.setIfInBounds i true).getD x true=false:=by
 have hx:=hm x;simp only[List.mem_append,List.mem_cons]at hx |-;rw[aJ,aW];by_cases hxi:i=x
 . subst hxi;rw[aD rfl,aD (by omega)];simp only[Option.getD_some,Bool.true_eq_false,and_false,iff_false,not_or];rw[List.nodup_append]at hnd;exact⟨fun hy=>hnd.2.2 i hy i au rfl,fun hy=>(List.nodup_cons.1 hnd.2.1).1 hy⟩
 .
  rw[aF hxi,<- aJ,<- hx];constructor
  . rintro (h'|h')
    . exact .inl h'
    . exact .inr (.inr h')
  .
   rintro (h'|h'|h')
   . exact .inl h'
   . exact absurd h'.symm hxi
   . exact .inr h'
theorem Qd (hrec:∀ d,qN cx.P (rec d))(hfn:∀ d,ZA cx.P (rec d)){info}(hn:NoSl F')(hed:∀ (k:Nat) o,ops[k]? = some o->∀ e∈o.after,Region.binds .any e=true->e.on<k)(hD:∀ o∈ops,∀ a V,D a->D (a.put o.dst V))(hq:∀ a' w',Stands D G0 w0 F' a' w'->Q .normal a' w'):
  ∀ (fuel:Nat) (listed:Array Bool) (c:List Nat) (F:Fr) (a:Act) (w:World) (G:Gh),c.length=fuel->(∀ i,i∈c↔i<ops.size/\listed.getD i true=false)->listed.size=ops.size ->
   c.Nodup->c.Pairwise (Rel2 ops.toList info)->Down ops.toList (fun i=>i<ops.size/\listed.getD i true=true)->RunL cx rec ops.toList info c F F'->RelF G w F a.tmps->zS G0 w0 G w->D a ->
   wpAny cx.P .any ops Q fuel listed a w
 |0,listed,c,F,a,w,G,hl,hm,hs,_,_,_,hr,h,hg,hd=>by have hc:c=[]:=List.length_eq_zero_iff.1 hl;subst hc;refine⟨?_,hq a w ⟨hd,G,hg,qcz h (AtEq.symm hr) hn⟩⟩;unfold Region.ready;rw[List.filter_eq_nil_iff];intro i hi;have:=hm i;simp only[List.not_mem_nil,false_iff,not_and,Bool.not_eq_false]at this;rw[this (by simpa using hi)];simp
 |fuel+1,listed,c,F,a,w,G,hl,hm,hs,hnd,hp,hdn,hr,h,hg,hd=>by
  refine⟨fun hnil=>absurd hnil (Ql hed hm hs (by intro hc;subst hc;simp at hl)),fun i hi=>?_⟩;obtain⟨h1,h2,o,ho,h3⟩:=(XY listed i).1 hi;have hic:i∈c:=(hm i).2 ⟨h1,h2⟩;obtain⟨pre,post,rfl⟩:=List.append_of_mem hic;have hpi:∀ y∈pre,y≠i:=fun y hy e=>(List.nodup_append.1 hnd).2.2 y hy i au e;have dis:∀ y∈pre,vY (info y) (info i)=true:=fun y hy=>qfE hed hs hdn ho h3 ((hm y).1 (aL _ hy)) (hpi y hy) ((List.pairwise_append.1 hp).2.2 y hy i au);obtain⟨o',F1,k1,k2,k3⟩:=RunL.front hr dis;have ho':o'=o:=by rw[aQ,ho]at k1;exact(aR k1).symm
  subst ho';unfold wpOp;simp only[ho];have key:=vF (Q:=Q) hrec hfn h k2 (K:=wpAny cx.P .any ops Q fuel (listed.setIfInBounds i true)) (fun V G' w' r' g'=>by
   refine Qd hrec hfn hn hed hD hq fuel _ (pre++post) F1 _ w' G' ?_ (qa7 hm hnd hs h1) (by simp[hs]) ?_ ?_ (XQ hed hs hdn ho h3) k3 r' (hg.trans g'.w) (hD _ (Array.mem_of_getElem? ho) _ _ hd)
   . simp at hl |-;omega
   . exact hnd.sublist (List.Sublist.append (List.Sublist.refl _) (List.sublist_cons_self _ _))
   . exact hp.sublist (List.Sublist.append (List.Sublist.refl _) (List.sublist_cons_self _ _)))
  split
  . rename_i hw;rw[aD hw]at key;exact .inl key
  . rename_i hw;rw[aF hw]at key;exact key
theorem qbY (hrec:∀ d,qN cx.P (rec d))(hfn:∀ d,ZA cx.P (rec d)){rec2}(hrec2:∀ d,qN cx.P (rec2 d))(hfn2:∀ d,ZA cx.P (rec2 d)){info1 info2 p q}(hpq:p≠q)(hno:∀ i o,ops[i]? = some o->i≠p->i≠q->qa4 o=true)(hn:NoSl F')(hed:∀ (k:Nat) o,ops[k]? = some o->∀ e∈o.after,Region.binds .any e=true->e.on<k)(hD:∀ o∈ops,∀ a V,D a->D (a.put o.dst V))(hq:∀ a' w',Stands D G0 w0 F' a' w'->Q .normal a' w'):
  ∀ (fuel:Nat) (listed:Array Bool) (c1 c2:List Nat) (F:Fr) (a:Act) (w:World) (G:Gh),c1.length=fuel->(∀ i,i∈c1↔i<ops.size/\listed.getD i true=false)->(∀ i,i∈c2↔i∈c1)->listed.size=ops.size ->
   c1.Nodup->c2.Nodup->c1.Pairwise (fun x y=>Rel2 ops.toList info1 x y\/(x=p/\y=q))->c2.Pairwise (fun x y=>Rel2 ops.toList info2 x y\/(x=q/\y=p)) ->
   Down ops.toList (fun i=>i<ops.size/\listed.getD i true=true)->RunL cx rec ops.toList info1 c1 F F'->RunL cx rec2 ops.toList info2 c2 F F'->RelF G w F a.tmps->zS G0 w0 G w->D a ->
   wpAny cx.P .any ops Q fuel listed a w
 |0,listed,c,c2,F,a,w,G,hl,hm,_,hs,_,_,_,_,_,hr,_,h,hg,hd=>by have hc:c=[]:=List.length_eq_zero_iff.1 hl;subst hc;refine⟨?_,hq a w ⟨hd,G,hg,qcz h (AtEq.symm hr) hn⟩⟩;unfold Region.ready;rw[List.filter_eq_nil_iff];intro i hi;have:=hm i;simp only[List.not_mem_nil,false_iff,not_and,Bool.not_eq_false]at this;rw[this (by simpa using hi)];simp
 |fuel+1,listed,c1,c2,F,a,w,G,hl,hm,hm2,hs,hnd1,hnd2,hp1,hp2,hdn,hr1,hr2,h,hg,hd=>by
  refine⟨fun hnil=>absurd hnil (Ql hed hm hs (by intro hc;subst hc;simp at hl)),fun i hi=>?_⟩;obtain⟨h1,h2,o,ho,h3⟩:=(XY listed i).1 hi;have hi1:i∈c1:=(hm i).2 ⟨h1,h2⟩;have hi2:i∈c2:=(hm2 i).2 hi1;have hl2:c2.length=fuel+1:=by rw[<- hl];exact((List.perm_ext_iff_of_nodup hnd2 hnd1).2 hm2).length_eq
  obtain⟨pre1,post1,rfl⟩:=List.append_of_mem hi1;obtain⟨pre2,post2,rfl⟩:=List.append_of_mem hi2;have hm2':∀ x,x∈pre2++i::post2↔x<ops.size/\listed.getD x true=false:=fun x=>(hm2 x).trans (hm x);have hpi1:∀ y∈pre1,y≠i:=fun y hy e=>(List.nodup_append.1 hnd1).2.2 y hy i au e;have hpi2:∀ y∈pre2,y≠i:=fun y hy e=>(List.nodup_append.1 hnd2).2.2 y hy i au e;have sub1:(pre1++post1).Sublist (pre1++i::post1):=List.Sublist.append (List.Sublist.refl _) (List.sublist_cons_self _ _);have sub2:(pre2++post2).Sublist (pre2++i::post2):=List.Sublist.append (List.Sublist.refl _) (List.sublist_cons_self _ _);have out1:i∉pre1++post1:=fun hx=>by
   rw[List.nodup_append]at hnd1;rcases List.mem_append.1 hx with hx|hx
   . exact hnd1.2.2 i hx i au rfl
   . exact(List.nodup_cons.1 hnd1.2.1).1 hx
  have out2:i∉pre2++post2:=fun hx=>by
   rw[List.nodup_append]at hnd2;rcases List.mem_append.1 hx with hx|hx
   . exact hnd2.2.2 i hx i au rfl
   . exact(List.nodup_cons.1 hnd2.2.1).1 hx
  -- one run alone goes on
  have go1:i≠q->∀ y∈pre1,vY (info1 y) (info1 i)=true:=fun hne y hy=>qfE hed hs hdn ho h3 ((hm y).1 (aL _ hy)) (hpi1 y hy) (((List.pairwise_append.1 hp1).2.2 y hy i au).resolve_right fun e=>hne e.2);have go2:i≠p->∀ y∈pre2,vY (info2 y) (info2 i)=true:=fun hne y hy=>qfE hed hs hdn ho h3 ((hm2' y).1 (aL _ hy)) (hpi2 y hy) (((List.pairwise_append.1 hp2).2.2 y hy i au).resolve_right fun e=>hne e.2);unfold wpOp;simp only[ho];by_cases hip:i=p
  .
   subst hip;obtain⟨o',F1,k1,k2,k3⟩:=RunL.front hr1 (go1 hpq);have ho':o'=o:=by rw[aQ,ho]at k1;exact(aR k1).symm
   subst ho';have key:=vF (Q:=Q) hrec hfn h k2 (K:=wpAny cx.P .any ops Q fuel (listed.setIfInBounds i true)) (fun V G' w' r' g'=>by
    refine Qd hrec hfn hn hed hD hq fuel _ (pre1++post1) F1 _ w' G' ?_ (qa7 hm hnd1 hs h1) (by simp[hs]) (hnd1.sublist sub1) ?_ (XQ hed hs hdn ho h3) k3 r' (hg.trans g'.w) (hD _ (Array.mem_of_getElem? ho) _ _ hd)
    . simp at hl |-;omega
    . refine List.Pairwise.imp_of_mem (fun {x y} hx hy hxy=>hxy.resolve_right fun e=>out1 (e.1▸hx)) (hp1.sublist sub1))
   split
   . rename_i hw;rw[aD hw]at key;exact .inl key
   . rename_i hw;rw[aF hw]at key;exact key
  .
   by_cases hiq:i=q
   .
    subst hiq;obtain⟨o',F1,k1,k2,k3⟩:=RunL.front hr2 (go2 hip);have ho':o'=o:=by rw[aQ,ho]at k1;exact(aR k1).symm
    subst ho';have key:=vF (Q:=Q) hrec2 hfn2 h k2 (K:=wpAny cx.P .any ops Q fuel (listed.setIfInBounds i true)) (fun V G' w' r' g'=>by
     refine Qd hrec2 hfn2 hn hed hD hq fuel _ (pre2++post2) F1 _ w' G' ?_ (qa7 hm2' hnd2 hs h1) (by simp[hs]) (hnd2.sublist sub2) ?_ (XQ hed hs hdn ho h3) k3 r' (hg.trans g'.w) (hD _ (Array.mem_of_getElem? ho) _ _ hd)
     . simp at hl2 |-;omega
     . refine List.Pairwise.imp_of_mem (fun {x y} hx hy hxy=>hxy.resolve_right fun e=>out2 (e.1▸hx)) (hp2.sublist sub2))
    split
    . rename_i hw;rw[aD hw]at key;exact .inl key
    . rename_i hw;rw[aF hw]at key;exact key
   .
    obtain⟨o',F1,k1,k2,k3⟩:=RunL.front hr1 (go1 hiq);obtain⟨o2,F2,l1,l2,l3⟩:=RunL.front hr2 (go2 hip);have ho':o'=o:=by rw[aQ,ho]at k1;exact(aR k1).symm
    have ho2:o2=o:=by rw[aQ,ho]at l1;exact(aR l1).symm
    subst ho';subst ho2;have hF:F1=F2:=by rw[<- qgq (r1:=rec) (r2:=rec2) (hno i o2 ho hip hiq),k2]at l2;exact(Prod.mk.inj (aR l2)).1
    subst hF;have key:=vF (Q:=Q) hrec hfn h k2 (K:=wpAny cx.P .any ops Q fuel (listed.setIfInBounds i true)) (fun V G' w' r' g'=>by
     have m1:=qa7 hm hnd1 hs h1;have m2:=qa7 hm2' hnd2 hs h1;refine qbY hrec hfn hrec2 hfn2 hpq hno hn hed hD hq fuel _ (pre1++post1) (pre2++post2) F1 _ w' G' ?_ m1 (fun x=>(m2 x).trans (m1 x).symm) (by simp[hs]) (hnd1.sublist sub1) (hnd2.sublist sub2)
      (hp1.sublist sub1) (hp2.sublist sub2) (XQ hed hs hdn ho h3) k3 l3 r' (hg.trans g'.w) (hD _ (Array.mem_of_getElem? ho) _ _ hd)
     . simp at hl |-;omega)
    split
    . rename_i hw;rw[aD hw]at key;exact .inl key
    . rename_i hw;rw[aF hw]at key;exact key
end
def xy (ops:List Oper):List Nat->List Oper
 |[]=>[]
 |i::l=>match ops[i]? with
  |some o=>o::xy ops l
  |none=>xy ops l
def Ye (p q n:Nat):List Nat:=List.range p++((List.range (q-p)).map (p+1 + ·)++p::(List.range (n-q-1)).map (q+1 + ·))
def qjd (bj:Nat)(ij:Info)(p:Nat)(x:Bool):List (Nat×Info)->Bool
 |[]=>true
 |(i,y)::l=>(bj.testBit i||(x&&i==p)||vY y ij)&&qjd bj ij p x l
def qcl (befs:List Nat)(p q:Nat):List (Nat×Info)->List (Nat×Info)->Bool
 |_,[]=>true
 |acc,(j,ij)::l=>qjd ((befs[j]?).getD 0) ij p (j==q) acc&&qcl befs p q (acc++[(j,ij)]) l
def vP (p q:Nat):Nat->List Oper->Bool
 |_,[]=>true
 |i,o::l=>((i==p||i==q)||qa4 o)&&vP p q (i+1) l
theorem qam {p q}:∀ (l:List Oper) (n:Nat),vP p q n l=true->∀ i o,l[i]? = some o->n+i≠p->n+i≠q->qa4 o=true
 |[],_,_,i,o,e,_,_=>by simp at e
 |o'::l,n,h,i,o,e,h1,h2=>by
  simp only[vP,aC,Bool.or_eq_true,beq_iff_eq]at h;cases i with
  |zero=>
   simp only[aI,aa]at e;subst e;rcases h.1 with(h'|h')|h'
   . exact absurd h' (by simpa using h1)
   . exact absurd h' (by simpa using h2)
   . exact h'
  |succ i=>simp only[List.getElem?_cons_succ]at e;exact qam l (n+1) h.2 i o e (by omega) (by omega)
def qjY (cx:Cx)(rec rec2:Orac)(ops:List Oper)(F:Fr)(p q:Nat)(is is2:List Info)(F1 F2:Fr):Prop:=
 drun cx rec ops ops F=some (F1,is)/\drun cx rec2 ops (xy ops (Ye p q ops.length)) F=some (F2,is2)/\F2=F1 /\
  (vw 0 ops&&decide (p<q)&&decide (q<ops.length)&&qcl (befL ops []) p q [] ((List.range ops.length).zip is)&&qcl (befL ops []) q p [] ((Ye p q ops.length).zip is2))=true
theorem qaT {bj ij p x}:∀ {l:List (Nat×Info)},qjd bj ij p x l=true->∀ i y,(i,y)∈l->bj.testBit i=true\/(x=true/\i=p)\/vY y ij=true
 |[],_,i,y,h=>by simp at h
 |(i',y')::l,h,i,y,hm=>by
  simp only[qjd,aC,Bool.or_eq_true,beq_iff_eq]at h;rcases List.mem_cons.1 hm with e|hm
  .
   cases e;rcases h.1 with(h'|h')|h'
   . exact .inl h'
   . exact .inr (.inl h')
   . exact .inr (.inr h')
  . exact qaT h.2 i y hm
theorem Zj {befs p q}:∀ {l acc:List (Nat×Info)},qcl befs p q acc l=true ->
  (∀ x∈acc,∀ y∈l,((befs[y.1]?).getD 0).testBit x.1=true\/(y.1=q/\x.1=p)\/vY x.2 y.2=true) /\
  l.Pairwise (fun x y=>((befs[y.1]?).getD 0).testBit x.1=true\/(y.1=q/\x.1=p)\/vY x.2 y.2=true)
 |[],acc,_=>⟨fun _ _ _ h=>by simp at h,.nil⟩
 |(j,ij)::l,acc,h=>by
  simp only[qcl,aC]at h;obtain⟨i1,i2⟩:=Zj h.2;have hone:∀ x∈acc,((befs[j]?).getD 0).testBit x.1=true\/(j=q/\x.1=p)\/vY x.2 ij=true:=fun x hx=>by
   rcases qaT h.1 x.1 x.2 hx with h'|h'|h'
   . exact .inl h'
   . exact .inr (.inl ⟨by simpa using h'.1,h'.2⟩)
   . exact .inr (.inr h')
  refine⟨fun x hx y hy=>?_,.cons (fun y hy=>i1 (j,ij) (by simp) y hy) i2⟩;rcases List.mem_cons.1 hy with rfl|hy
  . exact hone x hx
  . exact i1 x (aL _ hx) y hy
theorem XM {cx rec ops info}:∀ {c:List Nat} {F F':Fr} {is:List Info},(∀ i∈c,i<ops.length)->drun cx rec ops (xy ops c) F=some (F',is) ->
  (∀ x∈c.zip is,info x.1=x.2)->RunL cx rec ops info c F F'/\is.length=c.length
 |[],F,F',is,_,e,_=>by simp only[xy,drun,aa,ai]at e;obtain⟨rfl,rfl⟩:=e;exact⟨AtEq.refl _,rfl⟩
 |i::c,F,F',is,hlt,e,hinfo=>by
  have hi:=hlt i au;simp only[xy,ax hi,drun]at e;cases h1:dop cx rec ops F ops[i]with
  |none=>simp[h1]at e
  |some y=>
   obtain⟨F1,I⟩:=y;simp only[h1]at e;cases h2:drun cx rec ops (xy ops c) F1 with
   |none=>simp[h2]at e
   |some z=>obtain⟨F2,is2⟩:=z;simp only[h2,aa,ai]at e;obtain⟨rfl,rfl⟩:=e;obtain⟨r1,r2⟩:=XM (fun k hk=>hlt k (aB _ hk)) h2 (fun x hx=>hinfo x (by simp[List.zip_cons_cons,hx]));have hI:info i=I:=hinfo (i,I) (by simp[List.zip_cons_cons]);refine⟨⟨ops[i],F1,ax hi,by rw[hI];exact h1,r1⟩,by simp[r2]⟩
theorem qeO (ops):xy ops (List.range ops.length)=ops:=by
 have key:∀ (n:Nat),n<=ops.length->xy ops (List.range' n (ops.length-n))=ops.drop n:=by
  intro n hn
  induction hk:ops.length-n generalizing n with
  |zero=>rw[List.drop_eq_nil_of_le (by omega)];rfl
  |succ k ih=>
   have hlt:n<ops.length:=by omega
   rw[List.range'_succ,List.drop_eq_getElem_cons hlt];simp only[xy,ax hlt];rw[ih (n+1) (by omega) (by omega)]
 have:=key 0 (Nat.zero_le _);rw[List.range_eq_range'];simpa using this
theorem qbM {p q n}(hpq:p<q)(hq:q<n)(i):i∈Ye p q n↔i<n:=by
 simp only[Ye,List.mem_append,List.mem_cons,List.mem_range,List.mem_map];constructor
 . rintro (h|⟨a,h1,h2⟩|h|⟨a,h1,h2⟩)<;>omega
 .
  intro h;by_cases h1:i<p
  . exact .inl h1
  .
   by_cases h3:i=p
   . exact .inr (.inr (.inl h3))
   . by_cases h2:i<=q
     . exact .inr (.inl ⟨i-p-1,by omega,by omega⟩)
     . exact .inr (.inr (.inr ⟨i-q-1,by omega,by omega⟩))
theorem qdr {p q n}(hpq:p<q):(Ye p q n).Nodup:=by
 unfold Ye;have inj:∀ (a k:Nat),((List.range k).map (a + ·)).Nodup:=fun a k=>by unfold List.Nodup;rw[List.pairwise_map];exact List.Pairwise.imp (fun {x y} h=>by intro e;exact h (by omega)) (List.nodup_range (n:=k))
 rw[List.nodup_append];refine⟨List.nodup_range,?_,?_⟩
 .
  rw[List.nodup_append];refine⟨inj _ _,?_,?_⟩
  . rw[List.nodup_cons];refine⟨?_,inj _ _⟩;simp only[List.mem_map,List.mem_range]
    rintro ⟨a,h1,h2⟩
    omega
  . intro x hx y hy e;simp only[List.mem_cons,List.mem_map,List.mem_range]at hx hy;obtain⟨a,h1,h2⟩:=hx;rcases hy with h|⟨b,h3,h4⟩<;>omega
 . intro x hx y hy e;simp only[List.mem_cons,List.mem_append,List.mem_map,List.mem_range]at hx hy;rcases hy with⟨a,h1,h2⟩|h|⟨a,h1,h2⟩<;>omega
def QT (l:List (Nat×Info))(i:Nat):Info:=((l.find? fun x=>x.1==i).map (·.2)).getD ⟨[],[],[],false,0,0⟩
theorem qZ:∀ {c:List Nat} {is:List Info},c.Nodup->∀ x∈c.zip is,QT (c.zip is) x.1=x.2
 |[],_,_,x,h=>by simp at h
 |i::c,[],_,x,h=>by simp at h
 |i::c,I::is,hnd,x,hm=>by
  rw[List.zip_cons_cons]at hm |-;rw[List.nodup_cons]at hnd;rcases List.mem_cons.1 hm with rfl|hm
  . simp[QT]
  . have hne:(i==x.1)=false:=by rw[beq_eq_false_iff_ne];intro e;exact hnd.1 (by rw[e];exact(List.of_mem_zip hm).1)
    have:=qZ hnd.2 x hm;unfold QT at this |-;rw[List.find?_cons];simp only[hne];exact this
theorem qaA {α:Type}{R}:∀ {c:List Nat} {is:List α} {T:Nat×α->Nat×α->Prop},is.length=c.length->(c.zip is).Pairwise T->(∀ x∈c.zip is,∀ y∈c.zip is,T x y->R x.1 y.1)->c.Pairwise R
 |[],_,_,_,_,_=>.nil
 |i::c,[],_,h,_,_=>by simp at h
 |i::c,I::is,T,h,hp,hT=>by
  rw[List.zip_cons_cons]at hp hT;cases hp with
  |cons h1 h2=>
   refine .cons (fun y hy=>?_) (qaA (by simpa using h) h2 fun x hx y hy=>hT x (aB _ hx) y (aB _ hy));have hl:is.length=c.length:=by simpa using h
   obtain⟨k,hk,rfl⟩:=List.mem_iff_getElem.1 hy;have hz:(c[k],is[k]'(by omega))∈c.zip is:=by rw[List.mem_iff_getElem];exact⟨k,by simp;omega,by simp⟩
   exact hT (i,I) au _ (aB _ hz) (h1 _ hz)
theorem qdL {D cx rec rec2}(hrec:∀ d,qN cx.P (rec d))(hfn:∀ d,ZA cx.P (rec d))(hrec2:∀ d,qN cx.P (rec2 d))(hfn2:∀ d,ZA cx.P (rec2 d))(hmix:cx.P.follows .mixedOrders=true){ops F F1 F2 G0 w0 G w a Q id p q is is2}(h:RelF G w F a.tmps)(hg:zS G0 w0 G w)(hd:D a)(e:qjY cx rec rec2 ops.toList F p q is is2 F1 F2)(hno:vP p q 0 ops.toList=true)(hD:∀ o∈ops,∀ a V,D a->D (a.put o.dst V))(hq:∀ a' w',Stands D G0 w0 F1 a' w'->Q .normal a' w'):(Code.region id ops true).wp cx.P Q a w:=by
 obtain⟨e1,e2,rfl,hc⟩:=e;simp only[aC,aX]at hc;obtain⟨⟨⟨⟨c1,c2⟩,c3⟩,c4⟩,c5⟩:=hc;have c3':q<ops.size:=by simpa using c3
 have nd2:=qdr (n:=ops.toList.length) c2;have e1':drun cx rec ops.toList (xy ops.toList (List.range ops.toList.length)) F=some (F2,is):=by rw[qeO];exact e1
 obtain⟨r1,l1⟩:=XM (info:=QT ((List.range ops.toList.length).zip is)) (fun i hi=>by simpa using hi) e1' (qZ List.nodup_range);obtain⟨r2,l2⟩:=XM (info:=QT ((Ye p q ops.toList.length).zip is2)) (fun i hi=>(qbM c2 c3 i).1 hi) e2 (qZ nd2);have bef:∀ {x y:Nat},(((befL ops.toList [])[y]?).getD 0).testBit x=true->∀ S,Down ops.toList S->S y->S x:=by
  intro x y hb;cases hl:(befL ops.toList [])[y]? with
  |none=>simp[hl]at hb
  |some l=>simp only[hl,Option.getD_some]at hb;exact fun S hS hSy=>YD ops.toList [] (fun k=>by simp) (fun j l e=>by simp at e) y l hl x hb S hS hSy
 have hw':RelF G { w with drawn:=w.drawn+1 } F a.tmps:=h.same ⟨Nat.le_refl _,fun _ _=>rfl,fun _ _ _=>rfl⟩;have hg':zS G0 w0 G { w with drawn:=w.drawn+1 }:=hg.trans (Gain.same (G:=G) (w:=w) (w':={ w with drawn:=w.drawn+1 }) (Nat.le_refl w.heap.size) (fun _ _=>rfl) h.inv (Out.drew w _)).w;refine wp_region_any hmix (qbY hrec hfn hrec2 hfn2 (Nat.ne_of_lt c2) (fun i o ho h1 h2=>qam ops.toList 0 hno i o (by rw[aQ];exact ho) (by omega) (by omega)) (qaQ (fun r l hl=>(h.boxes r l hl).1) e1) (fun k o ho e he hb=>?_) hD hq ops.size _ (List.range ops.toList.length) (Ye p q ops.toList.length) F a _ G
  (by simp) (fun i=>?_) (fun i=>?_) (by simp) List.nodup_range nd2 ?_ ?_ (fun j oj hj hS=>?_) r1 r2 hw' hg' hd)
 . have:=xn c1 k o (by rw[aQ];exact ho) e he hb;omega
 .
  simp only[List.mem_range,Array.length_toList];constructor
  . intro hi;refine⟨hi,?_⟩;rw[aJ,Array.getElem?_eq_getElem (by simpa using hi)];simp
  . exact fun h=>h.1
 . rw[qbM c2 c3];simp
 .
  refine qaA l1 (Zj c4).2 fun x hx y hy hT=>?_;rcases hT with hT|hT|hT
  . exact .inl (.inl (bef hT))
  . exact .inr ⟨hT.2,hT.1⟩
  . exact .inl (.inr (by rw[qZ List.nodup_range x hx,qZ List.nodup_range y hy];exact hT))
 .
  refine qaA l2 (Zj c5).2 fun x hx y hy hT=>?_;rcases hT with hT|hT|hT
  . exact .inl (.inl (bef hT))
  . exact .inr ⟨hT.2,hT.1⟩
  . exact .inl (.inr (by rw[qZ nd2 x hx,qZ nd2 y hy];exact hT))
 . obtain⟨hj1,hj2⟩:=hS;rw[aJ,Array.getElem?_eq_getElem (by simpa using hj1)]at hj2;simp at hj2
end
section
variable [Glob]
def dumO (rec:Oracle):Oracle:=fun f a b=>match rec f a b with
 |some (.panic _,bx)=>some (.ret (.c (.imm [])),bx)
 |_=>none
theorem qgM {cx rec F F' dst f vs v}(e:vZ cx rec F dst f vs=some (F',some v)):
  vZ cx (dumO rec) F dst f vs=some (F'.putK dst (.c (.imm [])),none):=by
 unfold vZ at e |-;split at e
 .
  rename_i vs1 F1 h1;split at e
  .
   rename_i args lent h2;simp only at e;split at e
   .
    rename_i args' bx h3 h4;split at e
    .
     rename_i res bx' h5;split at e
     .
      rename_i bx'' h6;split at e
      .
       rename_i hc;split at e
       . rename_i Ff h7;split at e
         . rename_i v';simp only[aa,ai]at e;obtain⟨rfl,rfl⟩:=e;have h5':dumO rec f args' bx=some (.ret (.c (.imm [])),bx'):=by unfold dumO;rw[h5]
           simp only[h1,h2,h3,h4,h5',h6,hc,h7,if_true];simp[renV,renC,mapO,AV.c,Xg]
         . split at e
           . simp at e
           . cases e
       . cases e
      . cases e
     . cases e
    . cases e
   . cases e
  . cases e
 . cases e
theorem qhp {cx rec v0}(hv:∀ f a b r bx,rec f a b=some (r,bx)->r=.panic v0){F F' dst f vs r}(e:vZ cx (dumO rec) F dst f vs=some (F',r)):
  ∃ Fp,vZ cx rec F dst f vs=some (Fp,some v0)/\F'=Fp.putK dst (.c (.imm [])):=by
 unfold vZ at e |-;split at e
 .
  rename_i vs1 F1 h1;split at e
  .
   rename_i args lent h2;simp only at e;split at e
   .
    rename_i args' bx h3 h4;split at e
    .
     rename_i res bx' h5;have h5':rec f args' bx=some (.panic v0,bx')/\res=.ret (.c (.imm [])):=by
      unfold dumO at h5;split at h5
      . rename_i v bx2 h8;simp only[aa,ai]at h5;obtain⟨rfl,rfl⟩:=h5;rw[h8,hv _ _ _ _ _ h8];exact⟨rfl,rfl⟩
      . cases h5
     obtain⟨h5',rfl⟩:=h5';split at e
     . rename_i bx'' h6;split at e
       . rename_i hc;split at e
         . rename_i Ff h7;simp only[h1,h2,h3,h4,h5',h6,hc,h7,if_true];simp[renV,renC,mapO,AV.c,Xg]at e;exact⟨_,rfl,e.1.symm⟩
         . cases e
       . cases e
     . cases e
    . cases e
   . cases e
  . cases e
 . cases e
theorem qgc {F:Fr}{d v r g}(hg:g .dead=.dead)(h:∀ l,(F.putK d v).boxes.lookup r=some l->Cell.dead∉l.map g):
  ((F.putK d v).boxes.lookup r).map (·.map g)=(F.boxes.lookup r).map (·.map g):=by
 unfold Fr.putK at h |-;cases d with
 |none=>rfl
 |some d=>
  simp only[Fr.put,Fr.mapC,qH]at h |-;cases hl:F.boxes.lookup r with
  |none=>rfl
  |some l=>
   rw[hl]at h;have:=h _ rfl;simp only[av,List.map_map]at this |-;congr 1;refine List.map_congr_left fun c hc=>?_;rcases yN (.slot d) c with h'|h'
   . simp[h']
   . exact absurd (List.mem_map.2 ⟨c,hc,by simp[h',hg]⟩) this
theorem qhE (W):cutC W .dead=.dead:=by unfold cutC;split<;>rfl
def Qa (o:Oper):Bool:=match o.op with
 |.call { callee:=.value _,.. }=>true
 |_=>false
theorem qkY {cx rec v0}(hv:∀ f a b r bx,rec f a b=some (r,bx)->r=.panic v0){recD ops F F' o I}(hr:recD o.dst=dumO rec)(hcall:Qa o=true)(hcl:I.cl=true)(e:dop cx recD ops F o=some (F',I)):zi ops F o=some true/\xG F (qC F o)=true/\∃ Fp,aop cx rec (F.part (qC F o) (readsOf o)) o=some (Fp,some v0)/\F'=F.merge (Fp.putK o.dst (.c (.imm []))) (qC F o):=by
 unfold dop at e;cases hw:zi ops F o with
 |none=>simp[hw]at e
 |some b=>
  cases b with
  |false=>simp only[hw,aa,ai]at e;rw[<- e.2]at hcl;cases hcl
  |true=>
   simp only[hw]at e;cases hq:quiet cx F o with
   |some v=>simp only[hq,aa,ai]at e;rw[<- e.2]at hcl;cases hcl
   |none=>
    simp only[hq]at e;split at e
    .
     rename_i hc;split at e
     .
      rename_i F1 h1;simp only[aa,ai]at e;refine⟨rfl,hc,?_⟩;rw[hr]at h1;obtain⟨dst,op,ty,pos,after,guard⟩:=o;unfold Qa at hcall;split at hcall
      . rename_i g args at' hop;simp only at hop;subst hop;have hm:∀ F,mvop cx F ⟨dst,.call { callee:=.value g,args:=args,argTypes:=at' },ty,pos,after,guard⟩=none:=fun F=>rfl;have hq2:∀ F,quiet cx F ⟨dst,.call { callee:=.value g,args:=args,argTypes:=at' },ty,pos,after,guard⟩=none:=by intro F;rfl
        have hl:∀ F,loud cx F ⟨dst,.call { callee:=.value g,args:=args,argTypes:=at' },ty,pos,after,guard⟩=none:=by intro F;rfl
        unfold aop at h1 |-;simp only[hm]at h1 |-;unfold aop0 at h1 |-;simp only[hq2,hl]at h1 |-;split at h1
        . obtain⟨Fp,k1,k2⟩:=qhp hv h1;exact⟨Fp,k1,by rw[<- e.1,k2]⟩
        . cases h1
      . cases hcall
     . cases e
    . cases e
theorem qdF {cx rec ops info r}:∀ {l:List Nat} {F F':Fr},RunL cx rec ops info l F F'->(∀ x∈l,r∉(info x).W)->F'.at r=F.at r
 |[],F,F',h,_=>h.2 r
 |i::l,F,F',⟨o,F1,h1,h2,h3⟩,hd=>by rw[qdF h3 fun x hx=>hd x (aB _ hx)];exact(yL h2).2.1 r (hd i au)
theorem qky {F F':Fr}{i}(h:F'.at (.par i)=F.at (.par i)):F'.boxes.lookup (.par i)=F.boxes.lookup (.par i):=by
 simp only[Fr.at]at h;cases hx:F.boxes.lookup (.par i)with
 |none=>
  cases hy:F'.boxes.lookup (.par i)with
  |none=>rfl
  |some l=>rw[hx,hy]at h;cases h
 |some l=>
  cases hy:F'.boxes.lookup (.par i)with
  |none=>rw[hx,hy]at h;cases h
  |some l'=>rw[hx,hy]at h;simp only[av,AV.ag,aa,AV.mk.injEq,List.cons.injEq,and_true,true_and]at h;rw[h]
theorem qeq {F F' n}(h:∀ i,F'.at (.par i)=F.at (.par i)):zD F' n=zD F n:=by have lk:∀ i,F'.boxes.lookup (.par i)=F.boxes.lookup (.par i):=fun i=>qky (h i);unfold zD;simp only[lk]
theorem qje (a:Act)(d:Option Nat):∃ V,(a.put d V).tmps=a.tmps:=by
 cases d with
 |none=>exact⟨Go.undef,rfl⟩
 |some d=>
  refine⟨(a.tmps[d]?).getD Go.undef,?_⟩;simp only[Act.put];apply Array.ext_getElem?;intro i;rw[aW];split
  . rename_i h;subst h;split
    . rename_i h;rw[Array.getElem?_eq_getElem h];rfl
    . rename_i h;rw[Array.getElem?_eq_none (by omega)]
  . rfl
section
variable {D:Act->Prop} {cx:Cx} {recs:Orac} {rec2:Oracle} {ops:Array Oper} {F':Fr} {G0:Gh} {w0:World} {Q:Exit->Act->World->Prop}
theorem qiI (hrecs:∀ d,qN cx.P (recs d))(hfn:∀ d,ZA cx.P (recs d))(h2:qN cx.P rec2)(h2f:ZA cx.P rec2){v0}(hv:∀ f a b r bx,rec2 f a b=some (r,bx)->r=.panic v0){info q oq}(hoq:ops[q]? = some oq)(hcall:Qa oq=true)(hcl:(info q).cl=true)(hdq:∀ i o,ops[i]? = some o->i≠q->o.dst≠oq.dst)(hed:∀ (k:Nat) o,ops[k]? = some o->∀ e∈o.after,Region.binds .any e=true->e.on<k)(hD:∀ o∈ops,∀ a V,D a->D (a.put o.dst V)){nb bx}(hbx:zD F' nb=some bx)(hndd:∀ i l,F'.boxes.lookup (.par i)=some l->Cell.dead∉l)(hq:∀ a' w' Fp,Stands D G0 w0 Fp a' w'->zD Fp nb=some bx->Q (.panic [{ v:=v0,recovered:=false }]) a' w'):
  ∀ (fuel:Nat) (listed:Array Bool) (c:List Nat) (F:Fr) (a:Act) (w:World) (G:Gh),c.length<=fuel->q∈c->(∀ i∈c,i<ops.size/\listed.getD i true=false) ->
   (∀ i,i<ops.size->listed.getD i true=false->i∈c\/∀ S,Down ops.toList S->S i->S q)->listed.size=ops.size ->
   c.Nodup->c.Pairwise (Rel2 ops.toList info)->(∀ x∈c,x≠q->(∀ S,Down ops.toList S->S q->S x)\/∀ i,Root.par i∉(info x).W)->Down ops.toList (fun i=>i<ops.size/\listed.getD i true=true) ->
   RunL cx (fun d=>if d=oq.dst then dumO rec2 else recs d) ops.toList info c F F'->RelF G w F a.tmps->zS G0 w0 G w->D a->wpAny cx.P .any ops Q fuel listed a w
 |0,listed,c,F,a,w,G,hl,hqc,_,_,_,_,_,_,_,_,_,_,_=>by exfalso;have:=List.length_pos_of_mem hqc;omega
 |fuel+1,listed,c,F,a,w,G,hl,hqc,hm,hm2,hs,hnd,hp,hpar,hdn,hr,h,hg,hd=>by
  have hun:∀ i,i∈(List.range ops.size).filter (fun i=>listed.getD i true==false)↔i<ops.size/\listed.getD i true=false:=by intro i;simp
  refine⟨fun hnil=>absurd hnil (Ql hed hun hs (List.ne_nil_of_mem ((hun q).2 (hm q hqc)))),fun i hi=>?_⟩;obtain⟨h1,h2',o,ho,h3⟩:=(XY listed i).1 hi
  -- what stands ahead of one that is ready is listed
  have ahead:∀ x,x≠i->(∀ S,Down ops.toList S->S i->S x)->listed.getD x true=true:=by
   intro x hxi hS;have:=hS (fun k=>k=i\/(k<ops.size/\listed.getD k true=true)) (fun j oj hj hS e he hb=>by
    rcases hS with rfl|hS
    . have hoj:oj=o:=by
       have:ops.toList[j]? = some o:=by rw[aQ];exact ho
       rw[this]at hj;exact(aR hj).symm
      subst hoj;have hx:=h3 e he hb;have hxl:e.on<ops.size:=by have:=hed j oj ho e he hb;omega
      exact .inr ⟨hxl,by rw[<- XR hs hxl];exact hx⟩
    . exact .inr (hdn j oj hj hS e he hb)) (.inl rfl)
   rcases this with h'|h'
   . exact absurd h' hxi
   . exact h'.2
  have hic:i∈c:=by
   rcases hm2 i h1 h2' with h'|h'
   . exact h'
   . by_cases hiq:i=q
     . exact hiq▸hqc
     . have:=ahead q (fun e=>hiq e.symm) h';rw[(hm q hqc).2]at this;cases this
  obtain⟨pre,post,rfl⟩:=List.append_of_mem hic;have hpi:∀ y∈pre,y≠i:=fun y hy e=>(List.nodup_append.1 hnd).2.2 y hy i au e;have dis:∀ y∈pre,vY (info y) (info i)=true:=fun y hy=>qfE hed hs hdn ho h3 (hm y (aL _ hy)) (hpi y hy) ((List.pairwise_append.1 hp).2.2 y hy i au);obtain⟨o',F1,k1,k2,k3⟩:=RunL.front hr dis;have ho':o'=o:=by rw[aQ,ho]at k1;exact(aR k1).symm
  subst ho';have sub:(pre++post).Sublist (pre++i::post):=List.Sublist.append (List.Sublist.refl _) (List.sublist_cons_self _ _);have out:i∉pre++post:=fun hx=>by
   rw[List.nodup_append]at hnd;rcases List.mem_append.1 hx with hx|hx
   . exact hnd.2.2 i hx i au rfl
   . exact(List.nodup_cons.1 hnd.2.1).1 hx
  unfold wpOp;simp only[ho];by_cases hiq:i=q
  .
   subst hiq;have hoo:o'=oq:=by rw[ho]at hoq;exact aR hoq
   subst hoo;obtain⟨hw,hcls,Fp,p1,p2⟩:=qkY hv (by simp) hcall hcl k2;have hwt:=xh h hw;rw[aD hwt];refine .inl (XI h2 h2f (qfo h (qC F o') (readsOf o')) p1 (fun hn=>by cases hn) (fun v hv' G1 w1 r1 g1=>?_));cases hv';obtain⟨V,hV⟩:=qje a o'.dst;obtain⟨G',m1,m2⟩:=qdS (cx:=cx) (V:=V) h hcls (by rw[hV];exact r1) g1;rw[hV]at m1;refine hq a w1 _ ⟨hd,G',hg.trans m2.w,m1⟩ ?_;rw[<- hbx];refine(qeq fun k=>?_).symm;have hk:F'.at (.par k)=F1.at (.par k):=qdF k3 fun x hx=>by
    have hxi:x≠i:=fun e=>out (e▸hx);rcases hpar x (sub.subset hx) hxi with h'|h'
    . have:=ahead x hxi h';rw[(hm x (sub.subset hx)).2]at this;cases this
    . exact h' k
   rw[hk,p2];have hk2:=(qky hk).symm;rw[p2]at hk2;simp only[Fr.at,yK];rw[yK]at hk2;split
   . rename_i hin;rw[aD hin]at hk2;simp only[Root.boxed,if_true]at hk2 |-;rw[qgc (qhE _) (fun l hl=>?_)];rw[hl]at hk2;exact hndd k _ hk2.symm
   . rfl
  .
   have hne:o'.dst≠oq.dst:=hdq i o' ho hiq;have k2':dop cx recs ops.toList F o'=some (F1,info i):=by rw[<- k2];simp only[dop,hne,if_false]
   have key:=vF (Q:=Q) hrecs hfn h k2' (K:=wpAny cx.P .any ops Q fuel (listed.setIfInBounds i true)) (fun V G' w' r' g'=>by
    have hset:∀ x,x≠i->(listed.setIfInBounds i true).getD x true=listed.getD x true:=by intro x hx;rw[aJ,aW,aF (fun e=>hx e.symm),<- aJ]
    refine qiI hrecs hfn h2 h2f hv hoq hcall hcl hdq hed hD hbx hndd hq fuel _ (pre++post) F1 _ w' G' ?_ ?_ (fun x hx=>?_) (fun x hx hlx=>?_) (by simp[hs]) (hnd.sublist sub) (hp.sublist sub) (fun x hx=>hpar x (sub.subset hx)) (XQ hed hs hdn ho h3) k3 r' (hg.trans g'.w) (hD _ (Array.mem_of_getElem? ho) _ _ hd)
    . simp at hl |-;omega
    .
     rcases List.mem_append.1 hqc with h'|h'
     . exact aL _ h'
     . rcases List.mem_cons.1 h' with h'|h'
       . exact absurd h'.symm hiq
       . exact aS _ h'
    . have hxi:x≠i:=fun e=>out (e▸hx);rw[hset x hxi];exact hm x (sub.subset hx)
    .
     by_cases hxi:x=i
     . subst hxi;rw[aJ,aW,aD rfl,aD (by omega)]at hlx;cases hlx
     .
      rw[hset x hxi]at hlx;rcases hm2 x hx hlx with h'|h'
      . left;rcases List.mem_append.1 h' with h'|h'
        . exact aL _ h'
        . rcases List.mem_cons.1 h' with h'|h'
          . exact absurd h' hxi
          . exact aS _ h'
      . exact .inr h')
   split
   . rename_i hw;rw[aD hw]at key;exact .inl key
   . rename_i hw;rw[aF hw]at key;exact key
end
def XB (befs:List Nat)(q n:Nat):List Nat:=(List.range n).filter fun i=>!(i==q||((befs[i]?).getD 0).testBit q)
def ql6 (W:List Root):Bool:=W.all fun r=>match r with
 |.par _=>false
 |_=>true
def qis (befs:List Nat)(q:Nat):List (Nat×Info)->Bool
 |[]=>true
 |(i,I)::l=>(((befs[q]?).getD 0).testBit i||ql6 I.W)&&qis befs q l
def qdJ (oq:Oper)(q:Nat):Nat->List Oper->Bool
 |_,[]=>true
 |i,o::l=>(i==q||o.dst != oq.dst)&&qdJ oq q (i+1) l
theorem qdK {oq q}:∀ (l:List Oper) (n:Nat),qdJ oq q n l=true->∀ i o,l[i]? = some o->n+i≠q->o.dst≠oq.dst
 |[],_,_,i,o,e,_=>by simp at e
 |o'::l,n,h,i,o,e,h1=>by
  simp only[qdJ,aC,Bool.or_eq_true,beq_iff_eq,bne_iff_ne]at h;cases i with
  |zero=>
   simp only[aI,aa]at e;subst e;rcases h.1 with h'|h'
   . exact absurd h' (by simpa using h1)
   . exact h'
  |succ i=>simp only[List.getElem?_cons_succ]at e;exact qdK l (n+1) h.2 i o e (by omega)
def qcw (b:List (Root×List Cell)):Bool:=b.all fun x=>x.2.all fun c=>match c with
 |.dead=>false
 |_=>true
theorem Xy:∀ {b:List (Root×List Cell)},qcw b=true->∀ r l,b.lookup r=some l->Cell.dead∉l
 |[],_,r,l,h=>by simp at h
 |(r',l')::b,h,r,l,hl=>by
  simp only[qcw,List.all_cons,aC]at h;rw[List.lookup_cons]at hl;split at hl
  . simp only[aa]at hl;subst hl;intro hm;have:=List.all_eq_true.1 h.1 _ hm;cases this
  . exact Xy (b:=b) h.2 r l hl
theorem qeD {W}(h:ql6 W=true)(i):Root.par i∉W:=fun hm=>by have:=(List.all_eq_true.1 h) _ hm;cases this
theorem qbv {befs q}:∀ {l:List (Nat×Info)},qis befs q l=true->∀ x∈l,((befs[q]?).getD 0).testBit x.1=true\/∀ i,Root.par i∉x.2.W
 |[],_,x,h=>by simp at h
 |(i,I)::l,h,x,hm=>by
  simp only[qis,aC,Bool.or_eq_true]at h;rcases List.mem_cons.1 hm with rfl|hm
  . rcases h.1 with h'|h'
    . exact .inl h'
    . exact .inr (qeD h')
  . exact qbv h.2 x hm
theorem qfX {cx rec ops o}:∀ {l:List Oper} {F F1 F2:Fr} {is:List Info} {I:Info},drun cx rec ops l F=some (F1,is)->dop cx rec ops F1 o=some (F2,I)->drun cx rec ops (l++[o]) F=some (F2,is++[I])
 |[],F,F1,F2,is,I,e,h=>by simp only[drun,aa,ai]at e;obtain⟨rfl,rfl⟩:=e;simp only[List.nil_append,drun,h]
 |o'::l,F,F1,F2,is,I,e,h=>by
  simp only[drun]at e;cases h1:dop cx rec ops F o' with
  |none=>simp[h1]at e
  |some y=>
   obtain⟨F3,J⟩:=y;simp only[h1]at e;cases h2:drun cx rec ops l F3 with
   |none=>simp[h2]at e
   |some z=>obtain⟨F4,js⟩:=z;simp only[h2,aa,ai]at e;obtain⟨rfl,rfl⟩:=e;simp only[List.cons_append,drun,h1,qfX h2 h]
theorem qdE {ops o q}(ho:ops[q]? = some o):∀ (c:List Nat),xy ops (c++[q])=xy ops c++[o]
 |[]=>by simp[xy,ho]
 |i::c=>by simp only[List.cons_append,xy,qdE ho c];split<;>rfl
theorem qf8 {D cx recs rec2}(hrecs:∀ d,qN cx.P (recs d))(hfn:∀ d,ZA cx.P (recs d))(h2:qN cx.P rec2)(h2f:ZA cx.P rec2){v0}(hv:∀ f a b r bx,rec2 f a b=some (r,bx)->r=.panic v0)(hmix:cx.P.follows .mixedOrders=true){ops F F1 F2 G0 w0 G w a Q id q oq is I nb bx}(h:RelF G w F a.tmps)(hg:zS G0 w0 G w)(hd:D a)(hoq:ops.toList[q]? = some oq)(hcall:Qa oq=true)(hcl:I.cl=true)(hdq:qdJ oq q 0 ops.toList=true)(e1:drun cx recs ops.toList (xy ops.toList (XB (befL ops.toList []) q ops.toList.length)) F=some (F1,is))(e2:dop cx (fun _=>dumO rec2) ops.toList F1 oq=some (F2,I))(hc:(vw 0 ops.toList&&qcl (befL ops.toList []) 0 ops.toList.length [] ((XB (befL ops.toList []) q ops.toList.length++[q]).zip (is++[I]))&&qis (befL ops.toList []) q ((XB (befL ops.toList []) q ops.toList.length).zip is))=true)(hbx:zD F2 nb=some bx)(hnb:qcw F2.boxes=true)(hD:∀ o∈ops,∀ a V,D a->D (a.put o.dst V))(hq:∀ a' w' Fp,Stands D G0 w0 Fp a' w'->zD Fp nb=some bx->Q (.panic [{ v:=v0,recovered:=false }]) a' w'):(Code.region id ops true).wp cx.P Q a w:=by
 simp only[aC]at hc;obtain⟨⟨c1,c2⟩,c3⟩:=hc;have hq0:ops[q]? = some oq:=by rw[<- aQ];exact hoq
 have hql:q<ops.toList.length:=(az.1 hoq).1;have hat:=qdK ops.toList 0 hdq;have hdq':∀ i o,ops[i]? = some o->i≠q->o.dst≠oq.dst:=fun i o ho hi=>hat i o (by rw[aQ];exact ho) (by omega);generalize hcc:XB (befL ops.toList []) q ops.toList.length=c at e1 c2 c3;have hmem:∀ i,i∈c↔i<ops.toList.length/\i≠q/\(((befL ops.toList [])[i]?).getD 0).testBit q=false:=by intro i;rw[<- hcc];unfold XB;rw[List.mem_filter];simp
 have hnq:q∉c:=fun hx=>((hmem q).1 hx).2.1 rfl;have nd:(c++[q]).Nodup:=by rw[List.nodup_append];refine⟨by rw[<- hcc];exact List.Nodup.sublist List.filter_sublist List.nodup_range,by simp,fun x hx y hy e=>?_⟩;simp at hy;subst hy;exact hnq (e▸hx)
 have hlt:∀ i∈c++[q],i<ops.toList.length:=by
  intro i hi;rcases List.mem_append.1 hi with h'|h'
  . exact((hmem i).1 h').1
  . simp at h';omega
 have e1':drun cx (fun d=>if d=oq.dst then dumO rec2 else recs d) ops.toList (xy ops.toList c) F=some (F1,is):=by
  rw[<- e1];have gen:∀ (l:List Nat) (F:Fr),(∀ i∈l,i∈c)->drun cx (fun d=>if d=oq.dst then dumO rec2 else recs d) ops.toList (xy ops.toList l) F=drun cx recs ops.toList (xy ops.toList l) F:=by
   intro l
   induction l with
   |nil=>intro F _;rfl
   |cons i l ih=>
    intro F hl;simp only[xy];split
    . rename_i o ho;have hi:=(hmem i).1 (hl i au);have hne:=hdq' i o (by rw[<- aQ];exact ho) hi.2.1;have hd2:∀ F,dop cx (fun d=>if d=oq.dst then dumO rec2 else recs d) ops.toList F o=dop cx recs ops.toList F o:=fun F=>by simp only[dop,hne,if_false]
      simp only[drun,hd2,ih _ fun j hj=>hl j (aB _ hj)]
    . exact ih _ fun j hj=>hl j (aB _ hj)
  exact gen c F fun i hi=>hi
 have e2':dop cx (fun d=>if d=oq.dst then dumO rec2 else recs d) ops.toList F1 oq=some (F2,I):=by rw[<- e2];simp only[dop,if_true]
 have e3:=qfX e1' e2';rw[<- qdE hoq]at e3;obtain⟨r1,l1⟩:=XM (info:=QT ((c++[q]).zip (is++[I]))) hlt e3 (qZ nd);have bef:∀ {x y:Nat},(((befL ops.toList [])[y]?).getD 0).testBit x=true->∀ S,Down ops.toList S->S y->S x:=by
  intro x y hb;cases hl:(befL ops.toList [])[y]? with
  |none=>simp[hl]at hb
  |some l=>simp only[hl,Option.getD_some]at hb;exact fun S hS hSy=>YD ops.toList [] (fun k=>by simp) (fun j l e=>by simp at e) y l hl x hb S hS hSy
 have hlen:is.length=c.length:=by have:=l1;simp at this;exact this
 have hz:(c++[q]).zip (is++[I])=c.zip is++[(q,I)]:=by rw[List.zip_append hlen.symm];rfl
 have hiq:QT ((c++[q]).zip (is++[I])) q=I:=qZ nd (q,I) (by rw[hz];simp);have hun:∀ i,i<ops.size->(Array.replicate ops.size false).getD i true=false:=fun i hi=>by rw[aJ,Array.getElem?_eq_getElem (by simpa using hi)];simp
 have hw':RelF G { w with drawn:=w.drawn+1 } F a.tmps:=h.same ⟨Nat.le_refl _,fun _ _=>rfl,fun _ _ _=>rfl⟩;have hg':zS G0 w0 G { w with drawn:=w.drawn+1 }:=hg.trans (Gain.same (G:=G) (w:=w) (w':={ w with drawn:=w.drawn+1 }) (Nat.le_refl w.heap.size) (fun _ _=>rfl) h.inv (Out.drew w _)).w;refine wp_region_any hmix (qiI hrecs hfn h2 h2f hv hq0 hcall (by rw[hiq];exact hcl) hdq' (fun k o ho e he hb=>?_) hD hbx (fun i l hl=>Xy hnb _ _ hl) hq ops.size _ (c++[q]) F a _ G ?_ (by simp) (fun i hi=>⟨by simpa using hlt i hi,hun i (by simpa using hlt i hi)⟩) (fun i hi _=>?_) (by simp) nd ?_ (fun x hx hxq=>?_) (fun j oj hj hS=>?_) r1 hw' hg' hd)
 . have:=xn c1 k o (by rw[aQ];exact ho) e he hb;omega
 . have hf:c.length<(List.range ops.toList.length).length:=by rw[<- hcc];unfold XB;rw[List.length_filter_lt_length_iff_exists];exact⟨q,List.mem_range.2 hql,by simp⟩
   simp at hf |-;omega
 .
  by_cases hi2:i=q
  . exact .inl (by simp[hi2])
  . cases hb:(((befL ops.toList [])[i]?).getD 0).testBit q with
    |false=>exact .inl (aL _ ((hmem i).2 ⟨by simpa using hi,hi2,hb⟩))
    |true=>exact .inr (bef hb)
 .
  refine qaA l1 (Zj c2).2 fun x hx y hy hT=>?_;rcases hT with hT|hT|hT
  . exact .inl (bef hT)
  . have:=hlt y.1 (List.of_mem_zip hy).1;omega
  . exact .inr (by rw[qZ nd x hx,qZ nd y hy];exact hT)
 .
  have hxc:x∈c:=by
   rcases List.mem_append.1 hx with h'|h'
   . exact h'
   . simp at h';exact absurd h' hxq
  obtain⟨k,hk,rfl⟩:=List.mem_iff_getElem.1 hxc;have hzz:(c[k],is[k]'(by omega))∈c.zip is:=by rw[List.mem_iff_getElem];exact⟨k,by simp;omega,by simp⟩
  rcases qbv c3 _ hzz with h'|h'
  . exact .inl (bef h')
  . right;have:QT ((c++[q]).zip (is++[I])) c[k]=is[k]'(by omega):=qZ nd (c[k],is[k]'(by omega)) (by rw[hz];exact aL _ hzz);rw[this];exact h'
 . obtain⟨hj1,hj2⟩:=hS;rw[hun j hj1]at hj2;cases hj2
end
section
variable [Glob]
section
variable {cx:Cx} {rec:Oracle}
end
theorem qbu {G w args bx Vs}(h:RelF G w ⟨args,bx⟩ Vs)(n):
  RelF G w ⟨args++List.replicate (n-args.length) .undef,bx⟩ (Vs++Array.replicate (n-Vs.size) Go.undef):=by
 have hsz:args.length=Vs.size:=h.size;have slot:∀ k v,(args++List.replicate (n-args.length) AV.undef)[k]? = some v->args[k]? = some v\/(args.length<=k/\v=.undef/\(Vs++Array.replicate (n-Vs.size) Go.undef)[k]? = some Go.undef):=by
  intro k v e;by_cases hk:k<args.length
  . rw[aY hk]at e;exact .inl e
  . rw[aZ (by omega)]at e;rw[List.getElem?_replicate]at e;split at e
    . rename_i hlt;refine .inr ⟨by omega,(aR e).symm,?_⟩;rw[Array.getElem?_append_right (by omega),Array.getElem?_replicate,aD (by omega)]
    . cases e
 refine⟨h.inv,by simp[hsz],fun k v e=>?_,h.boxes,h.live,fun k rows e hi=>?_⟩
 .
  rcases slot k v e with e'|⟨hk,rfl,hV⟩
  . obtain⟨V,hV,hr⟩:=h.slots k v e';refine⟨V,?_,hr⟩;have:k<Vs.size:=by rw[<- hsz];exact(az.1 e').1
    rw[Array.getElem?_append_left this];exact hV
  . exact⟨_,hV,⟨#[],rfl,rfl,rfl,by intro i g n h;simp at h⟩,by intro r o c h;simp[AV.undef,cellAt]at h⟩
 .
  refine h.cont k rows ?_ hi;obtain⟨r,π⟩:=k;cases r with
  |slot j=>
   have hπ:π≠[]:=by
    rcases hi with hi|hi
    . exact hi
    . simp[Root.boxed]at hi
   simp only[Fr.rowsAt,Fr.rows]at e |-;cases hj:(args++List.replicate (n-args.length) AV.undef)[j]? with
   |none=>simp[hj]at e
   |some v=>
    rcases slot j v hj with e'|⟨_,rfl,_⟩
    . rw[hj]at e;rw[e'];exact e
    . rw[hj]at e;simp only[av,ae,AV.undef]at e;cases π with
      |nil=>exact absurd rfl hπ
      |cons y π=>obtain⟨a,b⟩:=y;simp[getR,cellAt]at e
  |_=>exact e
end
end Ab
end Go.Proofs.YtgfbbmjoflehlaaGreatDoor

/-
  The interpreter of the model's code over values, and its soundness: part 4 of 5. No claim stands here.
-/
import Derived.Test.YtjnefcbeemkkeaaGreatLibCq
set_option linter.all false
namespace Go.Proofs.YtjnefcbeemkkeaaGreat
namespace Ab
noncomputable section
section
variable [Glob]
theorem qco {W c}(h:∀ x∈qvC c,x∉W):qdX (inW W) c:=by
 have one:∀ q:Pl,(qie q=true->q.key.root∉W)->qeH (inW W) q:=by
  intro q hq;by_cases hd:qie q=true
  . left;unfold inW;rw[aG (hq hd)]
  . right;unfold qie at hd;simpa using hd
 cases c with
 |ptr q=>refine one q fun hd=>h _ ?_;simp[qvC,hd]
 |ref q=>show inW W q.key.root=none;unfold inW;rw[aG (h _ (by simp[qvC]))]
 |clo f fs cs=>intro q hq;refine one q fun hd=>h _ ?_;simp only[qvC,List.mem_filterMap];exact⟨.ptr q,hq,by simp[hd]⟩
 |_=>trivial
theorem XD {F W r v}(hv:F.at r=some v)(h:qu2 F W r=false):yJ (inW W) v.rows v.rows:=by refine⟨rfl,fun a b c hc=>⟨c,hc,.inr ⟨rfl,qco fun x hx hw=>?_⟩⟩,fun _ _ _ e=>e⟩;unfold qu2 at h;rw[hv]at h;refine(Xj.1 h) x ?_ hw;obtain⟨row,h1,h2⟩:=qc.1 hc;unfold AV.rootsBy;simp only[List.mem_flatMap];exact⟨row,aN h1,c,aN h2,hx⟩
theorem qeY (W)(rows):yS (inW W) rows (rows.map (·.map (cutC W))):=by
 refine⟨by rw[Zn],fun r o c' hc=>?_,fun r o es h=>?_⟩
 . obtain⟨c,h1,rfl⟩:=zH hc;exact⟨c,h1,qkT W c⟩
 . rw[qvL,h];rfl
theorem yK (F F1:Fr)(W)(r):(F.merge F1 W).boxes.lookup r=if r∈W then(if r.boxed then(F1.boxes.lookup r).map (·.map (cutC W))else none)else F.boxes.lookup r:=Xd F F1 W r
theorem qdb {F:Fr}{d v}(h:(v.rows.any (·.any qy))=false):F.putS d v=F.put d v:=by
 cases d with
 |none=>rfl
 |some d=>simp only[Fr.putS,h];rfl
theorem qdS {cx:Cx}{G G1 w w1 F F1}{a:Act}{o V ts}(h:RelF G w F a.tmps)(hcl:xG F (qC F o)=true)(r1:RelF G1 w1 F1 (a.put o.dst V).tmps)(g1:Gain { γ:=fun k=>if k.root∈qC F o then G.γ k else none,im:=G.im,lv:=fun d=>((F.part (qC F o) ts).boxes.lookup (.loc d)).isSome=true } w G1 w1):
  ∃ G',RelF G' w1 (F.merge F1 (qC F o)) (a.put o.dst V).tmps/\Gain G w G' w1:=by
 generalize hW:qC F o=W at *;have hdst:∀ d,o.dst=some d->Root.slot d∈W:=by intro d hd;rw[<- hW];exact yh _ _ _ (.inl (Yx F 3 _ _ (yh _ _ _ (.inl (by simp[locR,hd])))))
 have hsz:(a.put o.dst V).tmps.size=a.tmps.size:=by cases o.dst<;>simp[Act.put]
 have tsk:∀ k,Root.slot k∉W->(a.put o.dst V).tmps[k]? = a.tmps[k]?:=by
  intro k hk;cases hd:o.dst with
  |none=>rfl
  |some d=>have:d≠k:=fun e=>hk (e▸hdst d hd);simp only[Act.put];rw[aX,aG this]
 have pl:∀ r,((F.part W ts).boxes.lookup r).isSome=true↔(r∈W/\r.boxed=true)/\(F.boxes.lookup r).isSome=true:=by intro r;show((lboxes F W W).lookup r).isSome=true↔_;rw[zT];split<;>simp_all
 have inWs:∀ {r a},inW W r=some a->r∈W/\a=r:=by
  intro r a e;unfold inW at e;split at e
  . rename_i hr;exact⟨hr,(aS e).symm⟩
  . cases e
 have inWn:∀ {r},r∉W->inW W r=none:=fun hr=>by unfold inW;rw[aG hr]
 have inWp:∀ {r},r∈W->inW W r=some r:=fun hr=>by unfold inW;rw[aF hr]
 have inWno:∀ {r},inW W r=none->r∉W:=fun e hr=>by rw[inWp hr]at e;cases e
 have sp:Spliced (inW W) F1 F (F.merge F1 W) (a.put o.dst V).tmps a.tmps (a.put o.dst V).tmps:=by
  refine⟨by rw[qd2,hsz];exact h.size,fun k v e=>?_,fun r l e=>?_⟩
  .
   have e':(F.merge F1 W).at (.slot k)=some v:=e;rw[qaz]at e';by_cases hk:Root.slot k∈W
   .
    rw[aF hk]at e';simp only[qiy]at e';split at e'
    . rename_i hlt;simp only[aa]at e';have hlt1:k<F1.slots.length:=by rw[r1.size,hsz,<- h.size];exact hlt
      rw[ax hlt1]at e';obtain⟨V',hV,_⟩:=r1.slots k _ (ax hlt1);subst e';exact⟨V',hV,.inl ⟨k,_,inWp hk,ax hlt1,hV,rfl,qeY W _⟩⟩
    . cases e'
   . rw[aG hk]at e';obtain⟨V',hV,_⟩:=h.slots k v e';exact⟨V',by rw[tsk k hk];exact hV,.inr (.inl ⟨inWn hk,v,e',hV,rfl,XD e' (yB hcl hk)⟩)⟩
  .
   rw[yK]at e;by_cases hr:r∈W
   . rw[aF hr]at e;split at e
     . simp only[aH]at e;obtain⟨l1,e1,rfl⟩:=e;exact .inl ⟨r,l1,inWp hr,e1,by have:=qeY W [l1];exact this⟩
     . cases e
   . rw[aG hr]at e;refine .inr ⟨inWn hr,l,e,?_⟩;have hat:F.at r=some (AV.ag l):=by have hb:=(h.boxes r l e).1;cases r<;>first|(simp only[Fr.at,e];rfl)|simp[Root.boxed]at hb
     exact XD hat (yB hcl hr)
 have part:Part (inW W) G { γ:=fun k=>if k.root∈W then G.γ k else none,im:=G.im,lv:=fun d=>((F.part W ts).boxes.lookup (.loc d)).isSome=true } G1 w w1 F (F.merge F1 W):=by
  refine⟨g1,fun r r' x e e'=>?_,fun r x e=>?_,rfl,fun k1 x e=>?_,fun i x e=>?_,fun d x e hd=>?_,fun d x e ho=>?_,fun d e hd=>?_⟩
  . obtain⟨_,rfl⟩:=inWs e;obtain⟨_,rfl⟩:=inWs e';rfl
  . obtain⟨_,rfl⟩:=inWs e;rfl
  . simp only at e;split at e
    . rename_i hk;exact⟨k1,e,.inl (by rw[inWp hk];rfl)⟩
    . cases e
  . obtain⟨hi,rfl⟩:=inWs e;rw[g1.par i];simp only[aF hi]
  . obtain⟨hi,rfl⟩:=inWs e;obtain⟨k1,k2⟩:=g1.loc d ((pl _).2 ⟨⟨hi,rfl⟩,h.live d hd⟩);refine⟨?_,k1⟩;rw[k2];simp only[aF hi]
  . obtain⟨hi,rfl⟩:=inWs e;have:=r1.live d ho;rw[yK,aF hi];obtain⟨l,hl⟩:=Option.isSome_iff_exists.1 this;simp[Root.boxed,hl]
  . rw[yK,aG (inWno e)];exact h.live d hd
 exact⟨_,qap h r1 sp part⟩
theorem vF {cx rec}(hrec:∀ d,RecSound cx.P (rec d))(hfn:∀ d,ZA cx.P (rec d)){ops G w F F' a o I}(h:RelF G w F a.tmps)(e:dop cx rec ops.toList F o=some (F',I)){K Q}(hK:∀ V G' w',RelF G' w' F' (a.put o.dst V).tmps->Gain G w G' w'->K (a.put o.dst V) w'):
  if Region.wanted o (yielded ops a.tmps)then o.wp cx.P a w K Q else K (a.put o.dst Go.undef) w:=by
 unfold dop at e;cases hw:zi ops.toList F o with
 |none=>simp[hw]at e
 |some b=>
  have hb:=xh h hw;cases b with
  |false=>rw[aG (by rw[hb];simp)];simp only[hw,aa,ai]at e;obtain⟨rfl,_⟩:=e;have:=putO (d:=o.dst) h (Xt G w);rw[qdb (Xt G w).noOwn]at this;exact hK _ G w this (Gain.refl G w)
  |true=>
   rw[aF hb];simp only[hw]at e;cases hq:quiet cx F o with
   |some v=>simp only[hq,aa,ai]at e;obtain⟨rfl,_⟩:=e;obtain⟨V,hV,hr⟩:=qaS h hq;unfold Oper.wp;rw[hV];have:=putO (d:=o.dst) h hr;rw[qdb hr.noOwn]at this;exact hK V G w this (Gain.refl G w)
   |none=>
    simp only[hq]at e;split at e
    . rename_i hcl;split at e
      . rename_i F1 ha;simp only[aa,ai]at e;obtain⟨rfl,_⟩:=e;refine XI (hrec _) (hfn _) (qfo h (qC F o) (readsOf o)) ha (fun _ V G1 w1 r1 g1=>?_) (fun v hv=>by cases hv);obtain⟨G',k1,k2⟩:=qdS (cx:=cx) h hcl r1 g1;exact hK V G' w1 k1 k2
      . cases e
    . cases e
def NoSl (F:Fr):Prop:=∀ r l,F.boxes.lookup r=some l->r.boxed=true
theorem qaQ {cx rec ops}:∀ {rest:List Oper} {F F':Fr} {is:List Info},NoSl F->drun cx rec ops rest F=some (F',is)->NoSl F'
 |[],F,F',is,h,e=>by simp only[drun,aa,ai]at e;obtain⟨rfl,_⟩:=e;exact h
 |o::rest,F,F',is,h,e=>by
  simp only[drun]at e;cases h1:dop cx rec ops F o with
  |none=>simp[h1]at e
  |some y=>
   obtain⟨F1,I⟩:=y;simp only[h1]at e;cases h2:drun cx rec ops rest F1 with
   |none=>simp[h2]at e
   |some z=>obtain⟨F2,is2⟩:=z;simp only[h2,aa,ai]at e;obtain⟨rfl,_⟩:=e;exact qaQ ((yL h1).2.2.2.2.1 h) h2
theorem qcz {G w F F' ts}(h:RelF G w F ts)(e:AtEq F' F)(hn:NoSl F'):RelF G w F' ts:=by
 have lk:∀ r,F'.boxes.lookup r=F.boxes.lookup r:=by
  intro r;have hr:=e.2 r;cases r with
  |slot k=>
   cases h1:F'.boxes.lookup (.slot k)with
   |some l=>have:=hn _ _ h1;simp[Root.boxed]at this
   |none=>
    cases h2:F.boxes.lookup (.slot k)with
    |some l=>have:=(h.boxes _ _ h2).1;simp[Root.boxed]at this
    |none=>rfl
  |par i=>simp only[Fr.at]at hr;cases hx:F.boxes.lookup (.par i)<;>cases hy:F'.boxes.lookup (.par i)<;>simp_all[AV.ag]
  |loc i=>simp only[Fr.at]at hr;cases hx:F.boxes.lookup (.loc i)<;>cases hy:F'.boxes.lookup (.loc i)<;>simp_all[AV.ag]
  |res=>simp only[Fr.at]at hr;cases hx:F.boxes.lookup .res<;>cases hy:F'.boxes.lookup .res<;>simp_all[AV.ag]
 have sl:F'.slots=F.slots:=(qjJ e.1 (fun k=>e.2 (.slot k))).symm;refine h.weak0 ⟨by rw[sl],fun k v hv=>.inr ⟨v,by rw[<- sl];exact hv,rfl,rfl,fun r o c hc=>⟨c,hc,.inl rfl⟩,fun _ _ _ e=>e⟩,fun r l hl=>⟨l,by rw[<- lk];exact hl,rfl,fun r o c hc=>⟨c,hc,.inl rfl⟩,fun _ _ _ e=>e⟩⟩ (fun r=>by rw[lk])
theorem qd4 {D cx rec}(hrec:∀ d,RecSound cx.P (rec d))(hfn:∀ d,ZA cx.P (rec d)){ops info F' G0 w0 Q}(hn:NoSl F')(hed:∀ (k:Nat) o,ops[k]? = some o->∀ e∈o.after,Region.binds .any e=true->e.on<k)(hchk:∀ a b:Nat,a<b->b<ops.size->(∀ S,Down ops.toList S->S b->S a)\/vY (info a) (info b)=true)(hD:∀ o∈ops,∀ a V,D a->D (a.put o.dst V))(hq:∀ a' w',Stands D G0 w0 F' a' w'->Q .normal a' w'):
  ∀ (fuel:Nat) (listed:Array Bool) (c:List Nat) (F:Fr) (a:Act) (w:World) (G:Gh),c.length=fuel->(∀ i,i∈c↔i<ops.size/\listed.getD i true=false)->listed.size=ops.size ->
   c.Pairwise (· < ·)->Down ops.toList (fun i=>i<ops.size/\listed.getD i true=true)->RunL cx rec ops.toList info c F F'->RelF G w F a.tmps->zS G0 w0 G w->D a ->
   wpAny cx.P .any ops Q fuel listed a w
 |0,listed,c,F,a,w,G,hl,hm,hs,_,_,hr,h,hg,hd=>by have hc:c=[]:=List.length_eq_zero_iff.1 hl;subst hc;refine⟨?_,hq a w ⟨hd,G,hg,qcz h (AtEq.symm hr) hn⟩⟩;unfold Region.ready;rw[List.filter_eq_nil_iff];intro i hi;have:=hm i;simp only[List.not_mem_nil,false_iff,not_and,Bool.not_eq_false]at this;rw[this (by simpa using hi)];simp
 |fuel+1,listed,c,F,a,w,G,hl,hm,hs,hp,hdn,hr,h,hg,hd=>by
  have rdy:∀ i,i∈Region.ready .any ops listed↔i<ops.size/\listed.getD i true=false/\∃ o,ops[i]? = some o/\∀ e∈o.after,Region.binds .any e=true->listed.getD e.on false=true:=by
   intro i;unfold Region.ready;simp only[List.mem_filter,List.mem_range,aD,Bool.not_eq_true'];constructor
   . rintro ⟨h1,h2,h3⟩
     cases ho:ops[i]? with
     |none=>simp[ho]at h3
     |some o=>simp only[ho,av,Option.getD_some,Array.all_eq_true_iff_forall_mem,Bool.or_eq_true,Bool.not_eq_true']at h3;exact⟨h1,h2,o,rfl,fun e he hb=>(h3 e he).resolve_left (by rw[hb];simp)⟩
   . rintro ⟨h1,h2,o,ho,h3⟩
     refine⟨h1,h2,?_⟩;simp only[ho,av,Option.getD_some,Array.all_eq_true_iff_forall_mem,Bool.or_eq_true,Bool.not_eq_true'];intro e he;cases hb:Region.binds .any e with
     |false=>exact .inl rfl
     |true=>exact .inr (h3 e he hb)
  refine⟨fun hnil=>?_,fun i hi=>?_⟩
  .
   exfalso;cases c with
   |nil=>simp at hl
   |cons m c=>
    have hmm:=(hm m).1 au;have ho:ops[m]? = some (ops[m]'hmm.1):=Array.getElem?_eq_getElem hmm.1;have:m∈Region.ready .any ops listed:=(rdy m).2 ⟨hmm.1,hmm.2,_,ho,fun e he hb=>by
     have hlt:=hed m _ ho e he hb;have hnot:e.on∉m::c:=by
      intro hmem;rcases List.mem_cons.1 hmem with h'|h'
      . omega
      . have:=(List.pairwise_cons.1 hp).1 _ h';omega
     have hx:=mt (hm e.on).2 hnot;simp only[not_and,Bool.not_eq_false]at hx;have hlt':e.on<ops.size:=by omega
     have:=hx hlt';rw[aK]at this |-;rw[Array.getElem?_eq_getElem (by omega)]at this |-;simpa using this⟩
    rw[hnil]at this;simp at this
  .
   obtain⟨h1,h2,o,ho,h3⟩:=(rdy i).1 hi;have hic:i∈c:=(hm i).2 ⟨h1,h2⟩;obtain⟨pre,post,rfl⟩:=List.append_of_mem hic;have hlt:∀ y∈pre,y<i:=fun y hy=>(List.pairwise_append.1 hp).2.2 y hy i au;have gl:∀ {x:Nat},x<ops.size->listed.getD x false=listed.getD x true:=fun hx=>by rw[aK,aK,Array.getElem?_eq_getElem (by omega)];rfl
   have dis:∀ y∈pre,vY (info y) (info i)=true:=by
    intro y hy;rcases hchk y i (hlt y hy) h1 with hS|hS
    .
     exfalso;have hym:=(hm y).1 (aM _ hy);have:=hS (fun k=>k=i\/(k<ops.size/\listed.getD k true=true)) (fun j oj hj hS e he hb=>by
      rcases hS with rfl|hS
      . have hoj:oj=o:=by
         have:ops.toList[j]? = some o:=by rw[aR];exact ho
         rw[this]at hj;exact(aS hj).symm
        subst hoj;have hx:=h3 e he hb;have hxl:e.on<ops.size:=by have:=hed j oj ho e he hb;omega
        exact .inr ⟨hxl,by rw[<- gl hxl];exact hx⟩
      . exact .inr (hdn j oj hj hS e he hb)) (.inl rfl)
     rcases this with h'|h'
     . have:=hlt y hy;omega
     . rw[h'.2]at hym;simp at hym
    . exact hS
   obtain⟨o',F1,k1,k2,k3⟩:=RunL.front hr dis;have ho':o'=o:=by rw[aR,ho]at k1;exact(aS k1).symm
   subst ho';unfold wpOp;simp only[ho];have key:=vF (Q:=Q) hrec hfn h k2 (K:=wpAny cx.P .any ops Q fuel (listed.setIfInBounds i true)) (fun V G' w' r' g'=>by
    refine qd4 hrec hfn hn hed hchk hD hq fuel _ (pre++post) F1 _ w' G' ?_ (fun x=>?_) (by simp[hs]) ?_ ?_ k3 r' (hg.trans g'.w) (hD _ (Array.mem_of_getElem? ho) _ _ hd)
    . simp at hl |-;omega
    .
     have hx:=hm x;simp only[List.mem_append,List.mem_cons]at hx |-;rw[aK,aX];by_cases hxi:i=x
     . subst hxi;rw[aF rfl,aF (by omega)];simp only[Option.getD_some,Bool.true_eq_false,and_false,iff_false,not_or];refine⟨fun hy=>?_,fun hy=>?_⟩
       . have:=hlt i hy;omega
       . have:=(List.pairwise_cons.1 (List.pairwise_append.1 hp).2.1).1 i hy;omega
     .
      rw[aG hxi,<- aK,<- hx];constructor
      . rintro (h'|h')
        . exact .inl h'
        . exact .inr (.inr h')
      . rintro (h'|h'|h')
        . exact .inl h'
        . exact absurd h'.symm hxi
        . exact .inr h'
    . rw[List.pairwise_append]at hp |-;refine⟨hp.1,(List.pairwise_cons.1 hp.2.1).2,fun x hx y hy=>hp.2.2 x hx y (aB _ hy)⟩
    .
     have up:∀ x,x<ops.size->listed.getD x true=true->(listed.setIfInBounds i true).getD x true=true:=by
      intro x hx hlx;rw[aK,aX];by_cases hxi:i=x
      . subst hxi;rw[aF rfl,aF (by omega)];rfl
      . rw[aG hxi,<- aK];exact hlx
     intro j oj hj hS e he hb;have hj':ops[j]? = some oj:=by rw[<- aR];exact hj
     have hlt':=hed j oj hj' e he hb;refine⟨by omega,?_⟩;by_cases hji:j=i
     . subst hji;rw[ho]at hj';cases hj';have hxl:e.on<ops.size:=by omega
       exact up _ hxl (by rw[<- gl hxl];exact h3 e he hb)
     . have hjl:listed.getD j true=true:=by have:=hS.2;rw[aK,aX,aG (fun e=>hji e.symm),<- aK]at this;exact this
       obtain⟨h5,h6⟩:=hdn j oj hj ⟨hS.1,hjl⟩ e he hb;exact up _ h5 h6)
   split
   . rename_i hw;rw[aF hw]at key;exact .inl key
   . rename_i hw;rw[aG hw]at key;exact key
theorem qek {D cx rec}(hrec:∀ d,RecSound cx.P (rec d))(hfn:∀ d,ZA cx.P (rec d))(hmix:cx.P.follows .mixedOrders=true){ops F F' G0 w0 G w a Q id}(h:RelF G w F a.tmps)(hg:zS G0 w0 G w)(hd:D a)(e:adraw cx rec ops.toList F=some F')(hD:∀ o∈ops,∀ a V,D a->D (a.put o.dst V))(hq:∀ a' w',Stands D G0 w0 F' a' w'->Q .normal a' w'):(Code.region id ops true).wp cx.P Q a w:=by
 unfold adraw at e;cases h1:drun cx rec ops.toList ops.toList F with
 |none=>simp[h1]at e
 |some y=>
  obtain⟨F1,is⟩:=y;simp only[h1]at e;split at e
  .
   rename_i hc;simp only[aa]at e;subst e;simp only[aD]at hc;have hinfo:∀ (k:Nat) x,is[k]? = some x->(fun i=>(is[i]?).getD ⟨[],[],[],false,0,0⟩) (0+k)=x:=fun k x hx=>by simp[hx]
   obtain⟨r1,r2⟩:=qfV (info:=fun i=>(is[i]?).getD ⟨[],[],[],false,0,0⟩) (all:=is) (fun k=>by rw[Nat.zero_add]) h1 hinfo;have hw':RelF G { w with drawn:=w.drawn+1 } F a.tmps:=h.same ⟨Nat.le_refl _,fun _ _=>rfl,fun _ _ _=>rfl⟩;have hg':zS G0 w0 G { w with drawn:=w.drawn+1 }:=hg.trans (Gain.same (G:=G) (w:=w) (w':={ w with drawn:=w.drawn+1 }) (Nat.le_refl w.heap.size) (fun _ _=>rfl) h.inv (Out.drew w _)).w;refine wp_region_any hmix (qd4 hrec hfn (info:=fun i=>(is[i]?).getD ⟨[],[],[],false,0,0⟩) (qaQ (fun r l hl=>(h.boxes r l hl).1) h1) (fun k o ho e he hb=>?_) (fun x y hxy hy=>?_) hD hq ops.size _ (List.range' 0 ops.toList.length) F a _ G
    (by simp) (fun i=>?_) (by simp) ?_ (fun j oj hj hS=>?_) r1 hw' hg' hd)
   . have:=xn hc.1 k o (by rw[aR];exact ho) e he hb;omega
   .
    have hlx:x<is.length:=by rw[r2];simp;omega
    have hly:y<is.length:=by rw[r2];simpa using hy
    rcases Yg (fun k=>by rw[Nat.zero_add]) hc.2 x y is[x] is[y] hxy (Nat.zero_le _) (ax hlx) (ax hly)with hb|hb
    . left;cases hl:(befL ops.toList [])[y]? with
      |none=>simp[hl]at hb
      |some l=>simp only[hl,Option.getD_some]at hb;exact fun S hS hSy=>YD ops.toList [] (fun k=>by simp) (fun j l e=>by simp at e) y l hl x hb S hS hSy
    . right;simp only[ax hlx,ax hly,Option.getD_some];exact hb
   . simp only[List.mem_range'_1,Array.length_toList,Nat.zero_le,true_and,Nat.zero_add];constructor
     . intro hi;refine⟨hi,?_⟩;rw[aK,Array.getElem?_eq_getElem (by simpa using hi)];simp
     . exact fun h=>h.1
   . exact List.pairwise_lt_range'
   . obtain⟨hj1,hj2⟩:=hS;rw[aK,Array.getElem?_eq_getElem (by simpa using hj1)]at hj2;simp at hj2
  . cases e
end
section
variable [Glob]
def Rel2 (ops:List Oper)(info:Nat->Info)(x y:Nat):Prop:=(∀ S,Down ops S->S y->S x)\/vY (info x) (info y)=true
def qa4 (o:Oper):Bool:=match o.op with
 |.call { callee:=.value _,.. }=>false
 |_=>true
theorem qgq {cx r1 r2 ops F o}(h:qa4 o=true):dop cx r1 ops F o=dop cx r2 ops F o:=by
 have ha:∀ (F:Fr) (ra rb:Oracle),aop cx ra F o=aop cx rb F o:=by
  intro F ra rb;unfold aop;split
  . rfl
  unfold aop0;split
  . rfl
  .
   split
   . rfl
   . split
     . rfl
     . rename_i hh;rw[qa4,hh]at h;cases h
     . rfl
 unfold dop;simp only[ha _ (r1 o.dst) (r2 o.dst)]
section
variable {D:Act->Prop} {cx:Cx} {rec:Orac} {ops:Array Oper} {F':Fr} {G0:Gh} {w0:World} {Q:Exit->Act->World->Prop}
theorem XY (listed)(i):i∈Region.ready .any ops listed↔i<ops.size/\listed.getD i true=false/\∃ o,ops[i]? = some o/\∀ e∈o.after,Region.binds .any e=true->listed.getD e.on false=true:=by
 unfold Region.ready;simp only[List.mem_filter,List.mem_range,aD,Bool.not_eq_true'];constructor
 .
  rintro ⟨h1,h2,h3⟩
  cases ho:ops[i]? with
  |none=>simp[ho]at h3
  |some o=>simp only[ho,av,Option.getD_some,Array.all_eq_true_iff_forall_mem,Bool.or_eq_true,Bool.not_eq_true']at h3;exact⟨h1,h2,o,rfl,fun e he hb=>(h3 e he).resolve_left (by rw[hb];simp)⟩
 .
  rintro ⟨h1,h2,o,ho,h3⟩
  refine⟨h1,h2,?_⟩;simp only[ho,av,Option.getD_some,Array.all_eq_true_iff_forall_mem,Bool.or_eq_true,Bool.not_eq_true'];intro e he;cases hb:Region.binds .any e with
  |false=>exact .inl rfl
  |true=>exact .inr (h3 e he hb)
theorem XR {listed:Array Bool}(hs:listed.size=ops.size){x}(hx:x<ops.size):listed.getD x false=listed.getD x true:=by rw[aK,aK,Array.getElem?_eq_getElem (by omega)];rfl
theorem qb0:∀ {l:List Nat},l≠[]->∃ m∈l,∀ x∈l,m<=x
 |[],h=>absurd rfl h
 |[a],_=>⟨a,by simp,by simp⟩
 |a::b::l,_=>by
  obtain⟨m,h1,h2⟩:=qb0 (l:=b::l) (by simp);by_cases hm:a<=m
  .
   exact⟨a,au,fun x hx=>by
    rcases List.mem_cons.1 hx with rfl|hx
    . exact Nat.le_refl _
    . exact Nat.le_trans hm (h2 x hx)⟩
  .
   exact⟨m,aB _ h1,fun x hx=>by
    rcases List.mem_cons.1 hx with rfl|hx
    . omega
    . exact h2 x hx⟩
theorem Ql {listed c}(hed:∀ (k:Nat) o,ops[k]? = some o->∀ e∈o.after,Region.binds .any e=true->e.on<k)(hm:∀ i,i∈c↔i<ops.size/\listed.getD i true=false)(hs:listed.size=ops.size)(hc:c≠[]):Region.ready .any ops listed≠[]:=by
 obtain⟨m,h1,h2⟩:=qb0 hc;have hmm:=(hm m).1 h1;have ho:ops[m]? = some (ops[m]'hmm.1):=Array.getElem?_eq_getElem hmm.1;have:m∈Region.ready .any ops listed:=(XY listed m).2 ⟨hmm.1,hmm.2,_,ho,fun e he hb=>by
  have hlt:=hed m _ ho e he hb;have hnot:e.on∉c:=fun hmem=>by have:=h2 _ hmem;omega
  have hx:=mt (hm e.on).2 hnot;simp only[not_and,Bool.not_eq_false]at hx;have hlt':e.on<ops.size:=by omega
  rw[XR hs hlt'];exact hx hlt'⟩
 intro hnil;rw[hnil]at this;simp at this
theorem XQ {listed:Array Bool}(hed:∀ (k:Nat) o,ops[k]? = some o->∀ e∈o.after,Region.binds .any e=true->e.on<k)(hs:listed.size=ops.size)(hdn:Down ops.toList (fun i=>i<ops.size/\listed.getD i true=true)){i o}(ho:ops[i]? = some o)(h3:∀ e∈o.after,Region.binds .any e=true->listed.getD e.on false=true):
  Down ops.toList (fun k=>k<ops.size/\(listed.setIfInBounds i true).getD k true=true):=by
 have h1:i<ops.size:=(Array.getElem?_eq_some_iff.1 ho).1;have up:∀ x,x<ops.size->listed.getD x true=true->(listed.setIfInBounds i true).getD x true=true:=by
  intro x hx hlx;rw[aK,aX];by_cases hxi:i=x
  . subst hxi;rw[aF rfl,aF (by omega)];rfl
  . rw[aG hxi,<- aK];exact hlx
 intro j oj hj hS e he hb;have hj':ops[j]? = some oj:=by rw[<- aR];exact hj
 have hlt':=hed j oj hj' e he hb;refine⟨by omega,?_⟩;by_cases hji:j=i
 . subst hji;rw[ho]at hj';cases hj';have hxl:e.on<ops.size:=by omega
   exact up _ hxl (by rw[<- XR hs hxl];exact h3 e he hb)
 . have hjl:listed.getD j true=true:=by have:=hS.2;rw[aK,aX,aG (fun e=>hji e.symm),<- aK]at this;exact this
   obtain⟨h5,h6⟩:=hdn j oj hj ⟨hS.1,hjl⟩ e he hb;exact up _ h5 h6
theorem qfE {listed:Array Bool}{info}(hed:∀ (k:Nat) o,ops[k]? = some o->∀ e∈o.after,Region.binds .any e=true->e.on<k)(hs:listed.size=ops.size)(hdn:Down ops.toList (fun i=>i<ops.size/\listed.getD i true=true)){i y o}(ho:ops[i]? = some o)(h3:∀ e∈o.after,Region.binds .any e=true->listed.getD e.on false=true)(hy:y<ops.size/\listed.getD y true=false)(hyi:y≠i)(hR:Rel2 ops.toList info y i):vY (info y) (info i)=true:=by
 have h1:i<ops.size:=(Array.getElem?_eq_some_iff.1 ho).1;rcases hR with hS|hS
 .
  exfalso;have:=hS (fun k=>k=i\/(k<ops.size/\listed.getD k true=true)) (fun j oj hj hS e he hb=>by
   rcases hS with rfl|hS
   .
    have hoj:oj=o:=by
     have:ops.toList[j]? = some o:=by rw[aR];exact ho
     rw[this]at hj;exact(aS hj).symm
    subst hoj;have hx:=h3 e he hb;have hxl:e.on<ops.size:=by have:=hed j oj ho e he hb;omega
    exact .inr ⟨hxl,by rw[<- XR hs hxl];exact hx⟩
   . exact .inr (hdn j oj hj hS e he hb)) (.inl rfl)
  rcases this with h'|h'
  . exact hyi h'
  . rw[h'.2]at hy;simp at hy
 . exact hS
theorem qa7 {listed:Array Bool}{pre post i}(hm:∀ x,x∈pre++i::post↔x<ops.size/\listed.getD x true=false)(hnd:(pre++i::post).Nodup)(hs:listed.size=ops.size)(hi:i<ops.size)(x):
  x∈pre++post↔x<ops.size/\(listed.setIfInBounds i true).getD x true=false:=by
 have hx:=hm x;simp only[List.mem_append,List.mem_cons]at hx |-;rw[aK,aX];by_cases hxi:i=x
 . subst hxi;rw[aF rfl,aF (by omega)];simp only[Option.getD_some,Bool.true_eq_false,and_false,iff_false,not_or];rw[List.nodup_append]at hnd;exact⟨fun hy=>hnd.2.2 i hy i au rfl,fun hy=>(List.nodup_cons.1 hnd.2.1).1 hy⟩
 .
  rw[aG hxi,<- aK,<- hx];constructor
  . rintro (h'|h')
    . exact .inl h'
    . exact .inr (.inr h')
  .
   rintro (h'|h'|h')
   . exact .inl h'
   . exact absurd h'.symm hxi
   . exact .inr h'
theorem Qd (hrec:∀ d,RecSound cx.P (rec d))(hfn:∀ d,ZA cx.P (rec d)){info}(hn:NoSl F')(hed:∀ (k:Nat) o,ops[k]? = some o->∀ e∈o.after,Region.binds .any e=true->e.on<k)(hD:∀ o∈ops,∀ a V,D a->D (a.put o.dst V))(hq:∀ a' w',Stands D G0 w0 F' a' w'->Q .normal a' w'):
  ∀ (fuel:Nat) (listed:Array Bool) (c:List Nat) (F:Fr) (a:Act) (w:World) (G:Gh),c.length=fuel->(∀ i,i∈c↔i<ops.size/\listed.getD i true=false)->listed.size=ops.size ->
   c.Nodup->c.Pairwise (Rel2 ops.toList info)->Down ops.toList (fun i=>i<ops.size/\listed.getD i true=true)->RunL cx rec ops.toList info c F F'->RelF G w F a.tmps->zS G0 w0 G w->D a ->
   wpAny cx.P .any ops Q fuel listed a w
 |0,listed,c,F,a,w,G,hl,hm,hs,_,_,_,hr,h,hg,hd=>by have hc:c=[]:=List.length_eq_zero_iff.1 hl;subst hc;refine⟨?_,hq a w ⟨hd,G,hg,qcz h (AtEq.symm hr) hn⟩⟩;unfold Region.ready;rw[List.filter_eq_nil_iff];intro i hi;have:=hm i;simp only[List.not_mem_nil,false_iff,not_and,Bool.not_eq_false]at this;rw[this (by simpa using hi)];simp
 |fuel+1,listed,c,F,a,w,G,hl,hm,hs,hnd,hp,hdn,hr,h,hg,hd=>by
  refine⟨fun hnil=>absurd hnil (Ql hed hm hs (by intro hc;subst hc;simp at hl)),fun i hi=>?_⟩;obtain⟨h1,h2,o,ho,h3⟩:=(XY listed i).1 hi;have hic:i∈c:=(hm i).2 ⟨h1,h2⟩;obtain⟨pre,post,rfl⟩:=List.append_of_mem hic;have hpi:∀ y∈pre,y≠i:=fun y hy e=>(List.nodup_append.1 hnd).2.2 y hy i au e;have dis:∀ y∈pre,vY (info y) (info i)=true:=fun y hy=>qfE hed hs hdn ho h3 ((hm y).1 (aM _ hy)) (hpi y hy) ((List.pairwise_append.1 hp).2.2 y hy i au);obtain⟨o',F1,k1,k2,k3⟩:=RunL.front hr dis;have ho':o'=o:=by rw[aR,ho]at k1;exact(aS k1).symm
  subst ho';unfold wpOp;simp only[ho];have key:=vF (Q:=Q) hrec hfn h k2 (K:=wpAny cx.P .any ops Q fuel (listed.setIfInBounds i true)) (fun V G' w' r' g'=>by
   refine Qd hrec hfn hn hed hD hq fuel _ (pre++post) F1 _ w' G' ?_ (qa7 hm hnd hs h1) (by simp[hs]) ?_ ?_ (XQ hed hs hdn ho h3) k3 r' (hg.trans g'.w) (hD _ (Array.mem_of_getElem? ho) _ _ hd)
   . simp at hl |-;omega
   . exact hnd.sublist (List.Sublist.append (List.Sublist.refl _) (List.sublist_cons_self _ _))
   . exact hp.sublist (List.Sublist.append (List.Sublist.refl _) (List.sublist_cons_self _ _)))
  split
  . rename_i hw;rw[aF hw]at key;exact .inl key
  . rename_i hw;rw[aG hw]at key;exact key
theorem qbY (hrec:∀ d,RecSound cx.P (rec d))(hfn:∀ d,ZA cx.P (rec d)){rec2}(hrec2:∀ d,RecSound cx.P (rec2 d))(hfn2:∀ d,ZA cx.P (rec2 d)){info1 info2 p q}(hpq:p≠q)(hno:∀ i o,ops[i]? = some o->i≠p->i≠q->qa4 o=true)(hn:NoSl F')(hed:∀ (k:Nat) o,ops[k]? = some o->∀ e∈o.after,Region.binds .any e=true->e.on<k)(hD:∀ o∈ops,∀ a V,D a->D (a.put o.dst V))(hq:∀ a' w',Stands D G0 w0 F' a' w'->Q .normal a' w'):
  ∀ (fuel:Nat) (listed:Array Bool) (c1 c2:List Nat) (F:Fr) (a:Act) (w:World) (G:Gh),c1.length=fuel->(∀ i,i∈c1↔i<ops.size/\listed.getD i true=false)->(∀ i,i∈c2↔i∈c1)->listed.size=ops.size ->
   c1.Nodup->c2.Nodup->c1.Pairwise (fun x y=>Rel2 ops.toList info1 x y\/(x=p/\y=q))->c2.Pairwise (fun x y=>Rel2 ops.toList info2 x y\/(x=q/\y=p)) ->
   Down ops.toList (fun i=>i<ops.size/\listed.getD i true=true)->RunL cx rec ops.toList info1 c1 F F'->RunL cx rec2 ops.toList info2 c2 F F'->RelF G w F a.tmps->zS G0 w0 G w->D a ->
   wpAny cx.P .any ops Q fuel listed a w
 |0,listed,c,c2,F,a,w,G,hl,hm,_,hs,_,_,_,_,_,hr,_,h,hg,hd=>by have hc:c=[]:=List.length_eq_zero_iff.1 hl;subst hc;refine⟨?_,hq a w ⟨hd,G,hg,qcz h (AtEq.symm hr) hn⟩⟩;unfold Region.ready;rw[List.filter_eq_nil_iff];intro i hi;have:=hm i;simp only[List.not_mem_nil,false_iff,not_and,Bool.not_eq_false]at this;rw[this (by simpa using hi)];simp
 |fuel+1,listed,c1,c2,F,a,w,G,hl,hm,hm2,hs,hnd1,hnd2,hp1,hp2,hdn,hr1,hr2,h,hg,hd=>by
  refine⟨fun hnil=>absurd hnil (Ql hed hm hs (by intro hc;subst hc;simp at hl)),fun i hi=>?_⟩;obtain⟨h1,h2,o,ho,h3⟩:=(XY listed i).1 hi;have hi1:i∈c1:=(hm i).2 ⟨h1,h2⟩;have hi2:i∈c2:=(hm2 i).2 hi1;have hl2:c2.length=fuel+1:=by rw[<- hl];exact((List.perm_ext_iff_of_nodup hnd2 hnd1).2 hm2).length_eq
  obtain⟨pre1,post1,rfl⟩:=List.append_of_mem hi1;obtain⟨pre2,post2,rfl⟩:=List.append_of_mem hi2;have hm2':∀ x,x∈pre2++i::post2↔x<ops.size/\listed.getD x true=false:=fun x=>(hm2 x).trans (hm x);have hpi1:∀ y∈pre1,y≠i:=fun y hy e=>(List.nodup_append.1 hnd1).2.2 y hy i au e;have hpi2:∀ y∈pre2,y≠i:=fun y hy e=>(List.nodup_append.1 hnd2).2.2 y hy i au e;have sub1:(pre1++post1).Sublist (pre1++i::post1):=List.Sublist.append (List.Sublist.refl _) (List.sublist_cons_self _ _);have sub2:(pre2++post2).Sublist (pre2++i::post2):=List.Sublist.append (List.Sublist.refl _) (List.sublist_cons_self _ _);have out1:i∉pre1++post1:=fun hx=>by
   rw[List.nodup_append]at hnd1;rcases List.mem_append.1 hx with hx|hx
   . exact hnd1.2.2 i hx i au rfl
   . exact(List.nodup_cons.1 hnd1.2.1).1 hx
  have out2:i∉pre2++post2:=fun hx=>by
   rw[List.nodup_append]at hnd2;rcases List.mem_append.1 hx with hx|hx
   . exact hnd2.2.2 i hx i au rfl
   . exact(List.nodup_cons.1 hnd2.2.1).1 hx
  -- one run alone goes on
  have go1:i≠q->∀ y∈pre1,vY (info1 y) (info1 i)=true:=fun hne y hy=>qfE hed hs hdn ho h3 ((hm y).1 (aM _ hy)) (hpi1 y hy) (((List.pairwise_append.1 hp1).2.2 y hy i au).resolve_right fun e=>hne e.2);have go2:i≠p->∀ y∈pre2,vY (info2 y) (info2 i)=true:=fun hne y hy=>qfE hed hs hdn ho h3 ((hm2' y).1 (aM _ hy)) (hpi2 y hy) (((List.pairwise_append.1 hp2).2.2 y hy i au).resolve_right fun e=>hne e.2);unfold wpOp;simp only[ho];by_cases hip:i=p
  .
   subst hip;obtain⟨o',F1,k1,k2,k3⟩:=RunL.front hr1 (go1 hpq);have ho':o'=o:=by rw[aR,ho]at k1;exact(aS k1).symm
   subst ho';have key:=vF (Q:=Q) hrec hfn h k2 (K:=wpAny cx.P .any ops Q fuel (listed.setIfInBounds i true)) (fun V G' w' r' g'=>by
    refine Qd hrec hfn hn hed hD hq fuel _ (pre1++post1) F1 _ w' G' ?_ (qa7 hm hnd1 hs h1) (by simp[hs]) (hnd1.sublist sub1) ?_ (XQ hed hs hdn ho h3) k3 r' (hg.trans g'.w) (hD _ (Array.mem_of_getElem? ho) _ _ hd)
    . simp at hl |-;omega
    . refine List.Pairwise.imp_of_mem (fun {x y} hx hy hxy=>hxy.resolve_right fun e=>out1 (e.1▸hx)) (hp1.sublist sub1))
   split
   . rename_i hw;rw[aF hw]at key;exact .inl key
   . rename_i hw;rw[aG hw]at key;exact key
  .
   by_cases hiq:i=q
   .
    subst hiq;obtain⟨o',F1,k1,k2,k3⟩:=RunL.front hr2 (go2 hip);have ho':o'=o:=by rw[aR,ho]at k1;exact(aS k1).symm
    subst ho';have key:=vF (Q:=Q) hrec2 hfn2 h k2 (K:=wpAny cx.P .any ops Q fuel (listed.setIfInBounds i true)) (fun V G' w' r' g'=>by
     refine Qd hrec2 hfn2 hn hed hD hq fuel _ (pre2++post2) F1 _ w' G' ?_ (qa7 hm2' hnd2 hs h1) (by simp[hs]) (hnd2.sublist sub2) ?_ (XQ hed hs hdn ho h3) k3 r' (hg.trans g'.w) (hD _ (Array.mem_of_getElem? ho) _ _ hd)
     . simp at hl2 |-;omega
     . refine List.Pairwise.imp_of_mem (fun {x y} hx hy hxy=>hxy.resolve_right fun e=>out2 (e.1▸hx)) (hp2.sublist sub2))
    split
    . rename_i hw;rw[aF hw]at key;exact .inl key
    . rename_i hw;rw[aG hw]at key;exact key
   .
    obtain⟨o',F1,k1,k2,k3⟩:=RunL.front hr1 (go1 hiq);obtain⟨o2,F2,l1,l2,l3⟩:=RunL.front hr2 (go2 hip);have ho':o'=o:=by rw[aR,ho]at k1;exact(aS k1).symm
    have ho2:o2=o:=by rw[aR,ho]at l1;exact(aS l1).symm
    subst ho';subst ho2;have hF:F1=F2:=by rw[<- qgq (r1:=rec) (r2:=rec2) (hno i o2 ho hip hiq),k2]at l2;exact(Prod.mk.inj (aS l2)).1
    subst hF;have key:=vF (Q:=Q) hrec hfn h k2 (K:=wpAny cx.P .any ops Q fuel (listed.setIfInBounds i true)) (fun V G' w' r' g'=>by
     have m1:=qa7 hm hnd1 hs h1;have m2:=qa7 hm2' hnd2 hs h1;refine qbY hrec hfn hrec2 hfn2 hpq hno hn hed hD hq fuel _ (pre1++post1) (pre2++post2) F1 _ w' G' ?_ m1 (fun x=>(m2 x).trans (m1 x).symm) (by simp[hs]) (hnd1.sublist sub1) (hnd2.sublist sub2)
      (hp1.sublist sub1) (hp2.sublist sub2) (XQ hed hs hdn ho h3) k3 l3 r' (hg.trans g'.w) (hD _ (Array.mem_of_getElem? ho) _ _ hd)
     . simp at hl |-;omega)
    split
    . rename_i hw;rw[aF hw]at key;exact .inl key
    . rename_i hw;rw[aG hw]at key;exact key
end
def xy (ops:List Oper):List Nat->List Oper
 |[]=>[]
 |i::l=>match ops[i]? with
  |some o=>o::xy ops l
  |none=>xy ops l
def Ye (p q n:Nat):List Nat:=List.range p++((List.range (q-p)).map (p+1 + ·)++p::(List.range (n-q-1)).map (q+1 + ·))
def qjd (bj:Nat)(ij:Info)(p:Nat)(x:Bool):List (Nat×Info)->Bool
 |[]=>true
 |(i,y)::l=>(bj.testBit i||(x&&i==p)||vY y ij)&&qjd bj ij p x l
def qcl (befs:List Nat)(p q:Nat):List (Nat×Info)->List (Nat×Info)->Bool
 |_,[]=>true
 |acc,(j,ij)::l=>qjd ((befs[j]?).getD 0) ij p (j==q) acc&&qcl befs p q (acc++[(j,ij)]) l
def vP (p q:Nat):Nat->List Oper->Bool
 |_,[]=>true
 |i,o::l=>((i==p||i==q)||qa4 o)&&vP p q (i+1) l
theorem qam {p q}:∀ (l:List Oper) (n:Nat),vP p q n l=true->∀ i o,l[i]? = some o->n+i≠p->n+i≠q->qa4 o=true
 |[],_,_,i,o,e,_,_=>by simp at e
 |o'::l,n,h,i,o,e,h1,h2=>by
  simp only[vP,aD,Bool.or_eq_true,beq_iff_eq]at h;cases i with
  |zero=>
   simp only[aJ,aa]at e;subst e;rcases h.1 with(h'|h')|h'
   . exact absurd h' (by simpa using h1)
   . exact absurd h' (by simpa using h2)
   . exact h'
  |succ i=>simp only[List.getElem?_cons_succ]at e;exact qam l (n+1) h.2 i o e (by omega) (by omega)
def qjY (cx:Cx)(rec rec2:Orac)(ops:List Oper)(F:Fr)(p q:Nat)(is is2:List Info)(F1 F2:Fr):Prop:=
 drun cx rec ops ops F=some (F1,is)/\drun cx rec2 ops (xy ops (Ye p q ops.length)) F=some (F2,is2)/\F2=F1 /\
  (vw 0 ops&&decide (p<q)&&decide (q<ops.length)&&qcl (befL ops []) p q [] ((List.range ops.length).zip is)&&qcl (befL ops []) q p [] ((Ye p q ops.length).zip is2))=true
theorem qaT {bj ij p x}:∀ {l:List (Nat×Info)},qjd bj ij p x l=true->∀ i y,(i,y)∈l->bj.testBit i=true\/(x=true/\i=p)\/vY y ij=true
 |[],_,i,y,h=>by simp at h
 |(i',y')::l,h,i,y,hm=>by
  simp only[qjd,aD,Bool.or_eq_true,beq_iff_eq]at h;rcases List.mem_cons.1 hm with e|hm
  .
   cases e;rcases h.1 with(h'|h')|h'
   . exact .inl h'
   . exact .inr (.inl h')
   . exact .inr (.inr h')
  . exact qaT h.2 i y hm
theorem Zj {befs p q}:∀ {l acc:List (Nat×Info)},qcl befs p q acc l=true ->
  (∀ x∈acc,∀ y∈l,((befs[y.1]?).getD 0).testBit x.1=true\/(y.1=q/\x.1=p)\/vY x.2 y.2=true) /\
  l.Pairwise (fun x y=>((befs[y.1]?).getD 0).testBit x.1=true\/(y.1=q/\x.1=p)\/vY x.2 y.2=true)
 |[],acc,_=>⟨fun _ _ _ h=>by simp at h,.nil⟩
 |(j,ij)::l,acc,h=>by
  simp only[qcl,aD]at h;obtain⟨i1,i2⟩:=Zj h.2;have hone:∀ x∈acc,((befs[j]?).getD 0).testBit x.1=true\/(j=q/\x.1=p)\/vY x.2 ij=true:=fun x hx=>by
   rcases qaT h.1 x.1 x.2 hx with h'|h'|h'
   . exact .inl h'
   . exact .inr (.inl ⟨by simpa using h'.1,h'.2⟩)
   . exact .inr (.inr h')
  refine⟨fun x hx y hy=>?_,.cons (fun y hy=>i1 (j,ij) (by simp) y hy) i2⟩;rcases List.mem_cons.1 hy with rfl|hy
  . exact hone x hx
  . exact i1 x (aM _ hx) y hy
theorem XM {cx rec ops info}:∀ {c:List Nat} {F F':Fr} {is:List Info},(∀ i∈c,i<ops.length)->drun cx rec ops (xy ops c) F=some (F',is) ->
  (∀ x∈c.zip is,info x.1=x.2)->RunL cx rec ops info c F F'/\is.length=c.length
 |[],F,F',is,_,e,_=>by simp only[xy,drun,aa,ai]at e;obtain⟨rfl,rfl⟩:=e;exact⟨AtEq.refl _,rfl⟩
 |i::c,F,F',is,hlt,e,hinfo=>by
  have hi:=hlt i au;simp only[xy,ax hi,drun]at e;cases h1:dop cx rec ops F ops[i]with
  |none=>simp[h1]at e
  |some y=>
   obtain⟨F1,I⟩:=y;simp only[h1]at e;cases h2:drun cx rec ops (xy ops c) F1 with
   |none=>simp[h2]at e
   |some z=>obtain⟨F2,is2⟩:=z;simp only[h2,aa,ai]at e;obtain⟨rfl,rfl⟩:=e;obtain⟨r1,r2⟩:=XM (fun k hk=>hlt k (aB _ hk)) h2 (fun x hx=>hinfo x (by simp[List.zip_cons_cons,hx]));have hI:info i=I:=hinfo (i,I) (by simp[List.zip_cons_cons]);refine⟨⟨ops[i],F1,ax hi,by rw[hI];exact h1,r1⟩,by simp[r2]⟩
theorem qeO (ops):xy ops (List.range ops.length)=ops:=by
 have key:∀ (n:Nat),n<=ops.length->xy ops (List.range' n (ops.length-n))=ops.drop n:=by
  intro n hn
  induction hk:ops.length-n generalizing n with
  |zero=>rw[List.drop_eq_nil_of_le (by omega)];rfl
  |succ k ih=>
   have hlt:n<ops.length:=by omega
   rw[List.range'_succ,List.drop_eq_getElem_cons hlt];simp only[xy,ax hlt];rw[ih (n+1) (by omega) (by omega)]
 have:=key 0 (Nat.zero_le _);rw[List.range_eq_range'];simpa using this
theorem qbM {p q n}(hpq:p<q)(hq:q<n)(i):i∈Ye p q n↔i<n:=by
 simp only[Ye,List.mem_append,List.mem_cons,List.mem_range,List.mem_map];constructor
 . rintro (h|⟨a,h1,h2⟩|h|⟨a,h1,h2⟩)<;>omega
 .
  intro h;by_cases h1:i<p
  . exact .inl h1
  .
   by_cases h3:i=p
   . exact .inr (.inr (.inl h3))
   . by_cases h2:i<=q
     . exact .inr (.inl ⟨i-p-1,by omega,by omega⟩)
     . exact .inr (.inr (.inr ⟨i-q-1,by omega,by omega⟩))
theorem qdr {p q n}(hpq:p<q):(Ye p q n).Nodup:=by
 unfold Ye;have inj:∀ (a k:Nat),((List.range k).map (a + ·)).Nodup:=fun a k=>by unfold List.Nodup;rw[List.pairwise_map];exact List.Pairwise.imp (fun {x y} h=>by intro e;exact h (by omega)) (List.nodup_range (n:=k))
 rw[List.nodup_append];refine⟨List.nodup_range,?_,?_⟩
 .
  rw[List.nodup_append];refine⟨inj _ _,?_,?_⟩
  . rw[List.nodup_cons];refine⟨?_,inj _ _⟩;simp only[List.mem_map,List.mem_range]
    rintro ⟨a,h1,h2⟩
    omega
  . intro x hx y hy e;simp only[List.mem_cons,List.mem_map,List.mem_range]at hx hy;obtain⟨a,h1,h2⟩:=hx;rcases hy with h|⟨b,h3,h4⟩<;>omega
 . intro x hx y hy e;simp only[List.mem_cons,List.mem_append,List.mem_map,List.mem_range]at hx hy;rcases hy with⟨a,h1,h2⟩|h|⟨a,h1,h2⟩<;>omega
def QT (l:List (Nat×Info))(i:Nat):Info:=((l.find? fun x=>x.1==i).map (·.2)).getD ⟨[],[],[],false,0,0⟩
theorem qZ:∀ {c:List Nat} {is:List Info},c.Nodup->∀ x∈c.zip is,QT (c.zip is) x.1=x.2
 |[],_,_,x,h=>by simp at h
 |i::c,[],_,x,h=>by simp at h
 |i::c,I::is,hnd,x,hm=>by
  rw[List.zip_cons_cons]at hm |-;rw[List.nodup_cons]at hnd;rcases List.mem_cons.1 hm with rfl|hm
  . simp[QT]
  . have hne:(i==x.1)=false:=by rw[beq_eq_false_iff_ne];intro e;exact hnd.1 (by rw[e];exact(List.of_mem_zip hm).1)
    have:=qZ hnd.2 x hm;unfold QT at this |-;rw[List.find?_cons];simp only[hne];exact this
theorem qaA {α:Type}{R}:∀ {c:List Nat} {is:List α} {T:Nat×α->Nat×α->Prop},is.length=c.length->(c.zip is).Pairwise T->(∀ x∈c.zip is,∀ y∈c.zip is,T x y->R x.1 y.1)->c.Pairwise R
 |[],_,_,_,_,_=>.nil
 |i::c,[],_,h,_,_=>by simp at h
 |i::c,I::is,T,h,hp,hT=>by
  rw[List.zip_cons_cons]at hp hT;cases hp with
  |cons h1 h2=>
   refine .cons (fun y hy=>?_) (qaA (by simpa using h) h2 fun x hx y hy=>hT x (aB _ hx) y (aB _ hy));have hl:is.length=c.length:=by simpa using h
   obtain⟨k,hk,rfl⟩:=List.mem_iff_getElem.1 hy;have hz:(c[k],is[k]'(by omega))∈c.zip is:=by rw[List.mem_iff_getElem];exact⟨k,by simp;omega,by simp⟩
   exact hT (i,I) au _ (aB _ hz) (h1 _ hz)
theorem qdL {D cx rec rec2}(hrec:∀ d,RecSound cx.P (rec d))(hfn:∀ d,ZA cx.P (rec d))(hrec2:∀ d,RecSound cx.P (rec2 d))(hfn2:∀ d,ZA cx.P (rec2 d))(hmix:cx.P.follows .mixedOrders=true){ops F F1 F2 G0 w0 G w a Q id p q is is2}(h:RelF G w F a.tmps)(hg:zS G0 w0 G w)(hd:D a)(e:qjY cx rec rec2 ops.toList F p q is is2 F1 F2)(hno:vP p q 0 ops.toList=true)(hD:∀ o∈ops,∀ a V,D a->D (a.put o.dst V))(hq:∀ a' w',Stands D G0 w0 F1 a' w'->Q .normal a' w'):(Code.region id ops true).wp cx.P Q a w:=by
 obtain⟨e1,e2,rfl,hc⟩:=e;simp only[aD,aY]at hc;obtain⟨⟨⟨⟨c1,c2⟩,c3⟩,c4⟩,c5⟩:=hc;have c3':q<ops.size:=by simpa using c3
 have nd2:=qdr (n:=ops.toList.length) c2;have e1':drun cx rec ops.toList (xy ops.toList (List.range ops.toList.length)) F=some (F2,is):=by rw[qeO];exact e1
 obtain⟨r1,l1⟩:=XM (info:=QT ((List.range ops.toList.length).zip is)) (fun i hi=>by simpa using hi) e1' (qZ List.nodup_range);obtain⟨r2,l2⟩:=XM (info:=QT ((Ye p q ops.toList.length).zip is2)) (fun i hi=>(qbM c2 c3 i).1 hi) e2 (qZ nd2);have bef:∀ {x y:Nat},(((befL ops.toList [])[y]?).getD 0).testBit x=true->∀ S,Down ops.toList S->S y->S x:=by
  intro x y hb;cases hl:(befL ops.toList [])[y]? with
  |none=>simp[hl]at hb
  |some l=>simp only[hl,Option.getD_some]at hb;exact fun S hS hSy=>YD ops.toList [] (fun k=>by simp) (fun j l e=>by simp at e) y l hl x hb S hS hSy
 have hw':RelF G { w with drawn:=w.drawn+1 } F a.tmps:=h.same ⟨Nat.le_refl _,fun _ _=>rfl,fun _ _ _=>rfl⟩;have hg':zS G0 w0 G { w with drawn:=w.drawn+1 }:=hg.trans (Gain.same (G:=G) (w:=w) (w':={ w with drawn:=w.drawn+1 }) (Nat.le_refl w.heap.size) (fun _ _=>rfl) h.inv (Out.drew w _)).w;refine wp_region_any hmix (qbY hrec hfn hrec2 hfn2 (Nat.ne_of_lt c2) (fun i o ho h1 h2=>qam ops.toList 0 hno i o (by rw[aR];exact ho) (by omega) (by omega)) (qaQ (fun r l hl=>(h.boxes r l hl).1) e1) (fun k o ho e he hb=>?_) hD hq ops.size _ (List.range ops.toList.length) (Ye p q ops.toList.length) F a _ G
  (by simp) (fun i=>?_) (fun i=>?_) (by simp) List.nodup_range nd2 ?_ ?_ (fun j oj hj hS=>?_) r1 r2 hw' hg' hd)
 . have:=xn c1 k o (by rw[aR];exact ho) e he hb;omega
 .
  simp only[List.mem_range,Array.length_toList];constructor
  . intro hi;refine⟨hi,?_⟩;rw[aK,Array.getElem?_eq_getElem (by simpa using hi)];simp
  . exact fun h=>h.1
 . rw[qbM c2 c3];simp
 .
  refine qaA l1 (Zj c4).2 fun x hx y hy hT=>?_;rcases hT with hT|hT|hT
  . exact .inl (.inl (bef hT))
  . exact .inr ⟨hT.2,hT.1⟩
  . exact .inl (.inr (by rw[qZ List.nodup_range x hx,qZ List.nodup_range y hy];exact hT))
 .
  refine qaA l2 (Zj c5).2 fun x hx y hy hT=>?_;rcases hT with hT|hT|hT
  . exact .inl (.inl (bef hT))
  . exact .inr ⟨hT.2,hT.1⟩
  . exact .inl (.inr (by rw[qZ nd2 x hx,qZ nd2 y hy];exact hT))
 . obtain⟨hj1,hj2⟩:=hS;rw[aK,Array.getElem?_eq_getElem (by simpa using hj1)]at hj2;simp at hj2
end
section
variable [Glob]
def dumO (rec:Oracle):Oracle:=fun f a b=>match rec f a b with
 |some (.panic _,bx)=>some (.ret (.c (.imm [])),bx)
 |_=>none
theorem qgM {cx rec F F' dst f vs v}(e:vZ cx rec F dst f vs=some (F',some v)):
  vZ cx (dumO rec) F dst f vs=some (F'.putK dst (.c (.imm [])),none):=by
 unfold vZ at e |-;split at e
 .
  rename_i vs1 F1 h1;split at e
  .
   rename_i args lent h2;simp only at e;split at e
   .
    rename_i args' bx h3 h4;split at e
    .
     rename_i res bx' h5;split at e
     .
      rename_i bx'' h6;split at e
      .
       rename_i hc;split at e
       . rename_i Ff h7;split at e
         . rename_i v';simp only[aa,ai]at e;obtain⟨rfl,rfl⟩:=e;have h5':dumO rec f args' bx=some (.ret (.c (.imm [])),bx'):=by unfold dumO;rw[h5]
           simp only[h1,h2,h3,h4,h5',h6,hc,h7,if_true];simp[renV,renC,mapO,AV.c,Xg]
         . split at e
           . simp at e
           . cases e
       . cases e
      . cases e
     . cases e
    . cases e
   . cases e
  . cases e
 . cases e
theorem qhp {cx rec v0}(hv:∀ f a b r bx,rec f a b=some (r,bx)->r=.panic v0){F F' dst f vs r}(e:vZ cx (dumO rec) F dst f vs=some (F',r)):
  ∃ Fp,vZ cx rec F dst f vs=some (Fp,some v0)/\F'=Fp.putK dst (.c (.imm [])):=by
 unfold vZ at e |-;split at e
 .
  rename_i vs1 F1 h1;split at e
  .
   rename_i args lent h2;simp only at e;split at e
   .
    rename_i args' bx h3 h4;split at e
    .
     rename_i res bx' h5;have h5':rec f args' bx=some (.panic v0,bx')/\res=.ret (.c (.imm [])):=by
      unfold dumO at h5;split at h5
      . rename_i v bx2 h8;simp only[aa,ai]at h5;obtain⟨rfl,rfl⟩:=h5;rw[h8,hv _ _ _ _ _ h8];exact⟨rfl,rfl⟩
      . cases h5
     obtain⟨h5',rfl⟩:=h5';split at e
     . rename_i bx'' h6;split at e
       . rename_i hc;split at e
         . rename_i Ff h7;simp only[h1,h2,h3,h4,h5',h6,hc,h7,if_true];simp[renV,renC,mapO,AV.c,Xg]at e;exact⟨_,rfl,e.1.symm⟩
         . cases e
       . cases e
     . cases e
    . cases e
   . cases e
  . cases e
 . cases e
theorem qgc {F:Fr}{d v r g}(hg:g .dead=.dead)(h:∀ l,(F.putK d v).boxes.lookup r=some l->Cell.dead∉l.map g):
  ((F.putK d v).boxes.lookup r).map (·.map g)=(F.boxes.lookup r).map (·.map g):=by
 unfold Fr.putK at h |-;cases d with
 |none=>rfl
 |some d=>
  simp only[Fr.put,Fr.mapC,qH]at h |-;cases hl:F.boxes.lookup r with
  |none=>rfl
  |some l=>
   rw[hl]at h;have:=h _ rfl;simp only[av,List.map_map]at this |-;congr 1;refine List.map_congr_left fun c hc=>?_;rcases yN (.slot d) c with h'|h'
   . simp[h']
   . exact absurd (List.mem_map.2 ⟨c,hc,by simp[h',hg]⟩) this
theorem qhE (W):cutC W .dead=.dead:=by unfold cutC;split<;>rfl
def Qa (o:Oper):Bool:=match o.op with
 |.call { callee:=.value _,.. }=>true
 |_=>false
theorem qkY {cx rec v0}(hv:∀ f a b r bx,rec f a b=some (r,bx)->r=.panic v0){recD ops F F' o I}(hr:recD o.dst=dumO rec)(hcall:Qa o=true)(hcl:I.cl=true)(e:dop cx recD ops F o=some (F',I)):zi ops F o=some true/\xG F (qC F o)=true/\∃ Fp,aop cx rec (F.part (qC F o) (readsOf o)) o=some (Fp,some v0)/\F'=F.merge (Fp.putK o.dst (.c (.imm []))) (qC F o):=by
 unfold dop at e;cases hw:zi ops F o with
 |none=>simp[hw]at e
 |some b=>
  cases b with
  |false=>simp only[hw,aa,ai]at e;rw[<- e.2]at hcl;cases hcl
  |true=>
   simp only[hw]at e;cases hq:quiet cx F o with
   |some v=>simp only[hq,aa,ai]at e;rw[<- e.2]at hcl;cases hcl
   |none=>
    simp only[hq]at e;split at e
    .
     rename_i hc;split at e
     .
      rename_i F1 h1;simp only[aa,ai]at e;refine⟨rfl,hc,?_⟩;rw[hr]at h1;obtain⟨dst,op,ty,pos,after,guard⟩:=o;unfold Qa at hcall;split at hcall
      .
       rename_i g args at' hop;simp only at hop;subst hop;have hm:∀ F,mvop cx F ⟨dst,.call { callee:=.value g,args:=args,argTypes:=at' },ty,pos,after,guard⟩=none:=by
        intro F;unfold mvop;split
        . rfl
        . split
          . rename_i h _;cases h
          . rfl
       have hq2:∀ F,quiet cx F ⟨dst,.call { callee:=.value g,args:=args,argTypes:=at' },ty,pos,after,guard⟩=none:=by intro F;rfl
       have hl:∀ F,loud cx F ⟨dst,.call { callee:=.value g,args:=args,argTypes:=at' },ty,pos,after,guard⟩=none:=by intro F;rfl
       unfold aop at h1 |-;simp only[hm]at h1 |-;unfold aop0 at h1 |-;simp only[hq2,hl]at h1 |-;split at h1
       . obtain⟨Fp,k1,k2⟩:=qhp hv h1;exact⟨Fp,k1,by rw[<- e.1,k2]⟩
       . cases h1
      . cases hcall
     . cases e
    . cases e
theorem qdF {cx rec ops info r}:∀ {l:List Nat} {F F':Fr},RunL cx rec ops info l F F'->(∀ x∈l,r∉(info x).W)->F'.at r=F.at r
 |[],F,F',h,_=>h.2 r
 |i::l,F,F',⟨o,F1,h1,h2,h3⟩,hd=>by rw[qdF h3 fun x hx=>hd x (aB _ hx)];exact(yL h2).2.1 r (hd i au)
theorem qky {F F':Fr}{i}(h:F'.at (.par i)=F.at (.par i)):F'.boxes.lookup (.par i)=F.boxes.lookup (.par i):=by
 simp only[Fr.at]at h;cases hx:F.boxes.lookup (.par i)with
 |none=>
  cases hy:F'.boxes.lookup (.par i)with
  |none=>rfl
  |some l=>rw[hx,hy]at h;cases h
 |some l=>
  cases hy:F'.boxes.lookup (.par i)with
  |none=>rw[hx,hy]at h;cases h
  |some l'=>rw[hx,hy]at h;simp only[av,AV.ag,aa,AV.mk.injEq,List.cons.injEq,and_true,true_and]at h;rw[h]
theorem qeq {F F' n}(h:∀ i,F'.at (.par i)=F.at (.par i)):zD F' n=zD F n:=by have lk:∀ i,F'.boxes.lookup (.par i)=F.boxes.lookup (.par i):=fun i=>qky (h i);unfold zD;simp only[lk]
theorem qje (a:Act)(d:Option Nat):∃ V,(a.put d V).tmps=a.tmps:=by
 cases d with
 |none=>exact⟨Go.undef,rfl⟩
 |some d=>
  refine⟨(a.tmps[d]?).getD Go.undef,?_⟩;simp only[Act.put];apply Array.ext_getElem?;intro i;rw[aX];split
  . rename_i h;subst h;split
    . rename_i h;rw[Array.getElem?_eq_getElem h];rfl
    . rename_i h;rw[Array.getElem?_eq_none (by omega)]
  . rfl
section
variable {D:Act->Prop} {cx:Cx} {recs:Orac} {rec2:Oracle} {ops:Array Oper} {F':Fr} {G0:Gh} {w0:World} {Q:Exit->Act->World->Prop}
theorem qiI (hrecs:∀ d,RecSound cx.P (recs d))(hfn:∀ d,ZA cx.P (recs d))(h2:RecSound cx.P rec2)(h2f:ZA cx.P rec2){v0}(hv:∀ f a b r bx,rec2 f a b=some (r,bx)->r=.panic v0){info q oq}(hoq:ops[q]? = some oq)(hcall:Qa oq=true)(hcl:(info q).cl=true)(hdq:∀ i o,ops[i]? = some o->i≠q->o.dst≠oq.dst)(hed:∀ (k:Nat) o,ops[k]? = some o->∀ e∈o.after,Region.binds .any e=true->e.on<k)(hD:∀ o∈ops,∀ a V,D a->D (a.put o.dst V)){nb bx}(hbx:zD F' nb=some bx)(hndd:∀ i l,F'.boxes.lookup (.par i)=some l->Cell.dead∉l)(hq:∀ a' w' Fp,Stands D G0 w0 Fp a' w'->zD Fp nb=some bx->Q (.panic [{ v:=v0,recovered:=false }]) a' w'):
  ∀ (fuel:Nat) (listed:Array Bool) (c:List Nat) (F:Fr) (a:Act) (w:World) (G:Gh),c.length<=fuel->q∈c->(∀ i∈c,i<ops.size/\listed.getD i true=false) ->
   (∀ i,i<ops.size->listed.getD i true=false->i∈c\/∀ S,Down ops.toList S->S i->S q)->listed.size=ops.size ->
   c.Nodup->c.Pairwise (Rel2 ops.toList info)->(∀ x∈c,x≠q->(∀ S,Down ops.toList S->S q->S x)\/∀ i,Root.par i∉(info x).W)->Down ops.toList (fun i=>i<ops.size/\listed.getD i true=true) ->
   RunL cx (fun d=>if d=oq.dst then dumO rec2 else recs d) ops.toList info c F F'->RelF G w F a.tmps->zS G0 w0 G w->D a->wpAny cx.P .any ops Q fuel listed a w
 |0,listed,c,F,a,w,G,hl,hqc,_,_,_,_,_,_,_,_,_,_,_=>by exfalso;have:=List.length_pos_of_mem hqc;omega
 |fuel+1,listed,c,F,a,w,G,hl,hqc,hm,hm2,hs,hnd,hp,hpar,hdn,hr,h,hg,hd=>by
  have hun:∀ i,i∈(List.range ops.size).filter (fun i=>listed.getD i true==false)↔i<ops.size/\listed.getD i true=false:=by intro i;simp
  refine⟨fun hnil=>absurd hnil (Ql hed hun hs (List.ne_nil_of_mem ((hun q).2 (hm q hqc)))),fun i hi=>?_⟩;obtain⟨h1,h2',o,ho,h3⟩:=(XY listed i).1 hi
  -- what stands ahead of one that is ready is listed
  have ahead:∀ x,x≠i->(∀ S,Down ops.toList S->S i->S x)->listed.getD x true=true:=by
   intro x hxi hS;have:=hS (fun k=>k=i\/(k<ops.size/\listed.getD k true=true)) (fun j oj hj hS e he hb=>by
    rcases hS with rfl|hS
    . have hoj:oj=o:=by
       have:ops.toList[j]? = some o:=by rw[aR];exact ho
       rw[this]at hj;exact(aS hj).symm
      subst hoj;have hx:=h3 e he hb;have hxl:e.on<ops.size:=by have:=hed j oj ho e he hb;omega
      exact .inr ⟨hxl,by rw[<- XR hs hxl];exact hx⟩
    . exact .inr (hdn j oj hj hS e he hb)) (.inl rfl)
   rcases this with h'|h'
   . exact absurd h' hxi
   . exact h'.2
  have hic:i∈c:=by
   rcases hm2 i h1 h2' with h'|h'
   . exact h'
   . by_cases hiq:i=q
     . exact hiq▸hqc
     . have:=ahead q (fun e=>hiq e.symm) h';rw[(hm q hqc).2]at this;cases this
  obtain⟨pre,post,rfl⟩:=List.append_of_mem hic;have hpi:∀ y∈pre,y≠i:=fun y hy e=>(List.nodup_append.1 hnd).2.2 y hy i au e;have dis:∀ y∈pre,vY (info y) (info i)=true:=fun y hy=>qfE hed hs hdn ho h3 (hm y (aM _ hy)) (hpi y hy) ((List.pairwise_append.1 hp).2.2 y hy i au);obtain⟨o',F1,k1,k2,k3⟩:=RunL.front hr dis;have ho':o'=o:=by rw[aR,ho]at k1;exact(aS k1).symm
  subst ho';have sub:(pre++post).Sublist (pre++i::post):=List.Sublist.append (List.Sublist.refl _) (List.sublist_cons_self _ _);have out:i∉pre++post:=fun hx=>by
   rw[List.nodup_append]at hnd;rcases List.mem_append.1 hx with hx|hx
   . exact hnd.2.2 i hx i au rfl
   . exact(List.nodup_cons.1 hnd.2.1).1 hx
  unfold wpOp;simp only[ho];by_cases hiq:i=q
  .
   subst hiq;have hoo:o'=oq:=by rw[ho]at hoq;exact aS hoq
   subst hoo;obtain⟨hw,hcls,Fp,p1,p2⟩:=qkY hv (by simp) hcall hcl k2;have hwt:=xh h hw;rw[aF hwt];refine .inl (XI h2 h2f (qfo h (qC F o') (readsOf o')) p1 (fun hn=>by cases hn) (fun v hv' G1 w1 r1 g1=>?_));cases hv';obtain⟨V,hV⟩:=qje a o'.dst;obtain⟨G',m1,m2⟩:=qdS (cx:=cx) (V:=V) h hcls (by rw[hV];exact r1) g1;rw[hV]at m1;refine hq a w1 _ ⟨hd,G',hg.trans m2.w,m1⟩ ?_;rw[<- hbx];refine(qeq fun k=>?_).symm;have hk:F'.at (.par k)=F1.at (.par k):=qdF k3 fun x hx=>by
    have hxi:x≠i:=fun e=>out (e▸hx);rcases hpar x (sub.subset hx) hxi with h'|h'
    . have:=ahead x hxi h';rw[(hm x (sub.subset hx)).2]at this;cases this
    . exact h' k
   rw[hk,p2];have hk2:=(qky hk).symm;rw[p2]at hk2;simp only[Fr.at,yK];rw[yK]at hk2;split
   . rename_i hin;rw[aF hin]at hk2;simp only[Root.boxed,if_true]at hk2 |-;rw[qgc (qhE _) (fun l hl=>?_)];rw[hl]at hk2;exact hndd k _ hk2.symm
   . rfl
  .
   have hne:o'.dst≠oq.dst:=hdq i o' ho hiq;have k2':dop cx recs ops.toList F o'=some (F1,info i):=by rw[<- k2];simp only[dop,hne,if_false]
   have key:=vF (Q:=Q) hrecs hfn h k2' (K:=wpAny cx.P .any ops Q fuel (listed.setIfInBounds i true)) (fun V G' w' r' g'=>by
    have hset:∀ x,x≠i->(listed.setIfInBounds i true).getD x true=listed.getD x true:=by intro x hx;rw[aK,aX,aG (fun e=>hx e.symm),<- aK]
    refine qiI hrecs hfn h2 h2f hv hoq hcall hcl hdq hed hD hbx hndd hq fuel _ (pre++post) F1 _ w' G' ?_ ?_ (fun x hx=>?_) (fun x hx hlx=>?_) (by simp[hs]) (hnd.sublist sub) (hp.sublist sub) (fun x hx=>hpar x (sub.subset hx)) (XQ hed hs hdn ho h3) k3 r' (hg.trans g'.w) (hD _ (Array.mem_of_getElem? ho) _ _ hd)
    . simp at hl |-;omega
    .
     rcases List.mem_append.1 hqc with h'|h'
     . exact aM _ h'
     . rcases List.mem_cons.1 h' with h'|h'
       . exact absurd h'.symm hiq
       . exact aT _ h'
    . have hxi:x≠i:=fun e=>out (e▸hx);rw[hset x hxi];exact hm x (sub.subset hx)
    .
     by_cases hxi:x=i
     . subst hxi;rw[aK,aX,aF rfl,aF (by omega)]at hlx;cases hlx
     .
      rw[hset x hxi]at hlx;rcases hm2 x hx hlx with h'|h'
      . left;rcases List.mem_append.1 h' with h'|h'
        . exact aM _ h'
        . rcases List.mem_cons.1 h' with h'|h'
          . exact absurd h' hxi
          . exact aT _ h'
      . exact .inr h')
   split
   . rename_i hw;rw[aF hw]at key;exact .inl key
   . rename_i hw;rw[aG hw]at key;exact key
end
def XB (befs:List Nat)(q n:Nat):List Nat:=(List.range n).filter fun i=>!(i==q||((befs[i]?).getD 0).testBit q)
def ql6 (W:List Root):Bool:=W.all fun r=>match r with
 |.par _=>false
 |_=>true
def qis (befs:List Nat)(q:Nat):List (Nat×Info)->Bool
 |[]=>true
 |(i,I)::l=>(((befs[q]?).getD 0).testBit i||ql6 I.W)&&qis befs q l
def qdJ (oq:Oper)(q:Nat):Nat->List Oper->Bool
 |_,[]=>true
 |i,o::l=>(i==q||o.dst != oq.dst)&&qdJ oq q (i+1) l
theorem qdK {oq q}:∀ (l:List Oper) (n:Nat),qdJ oq q n l=true->∀ i o,l[i]? = some o->n+i≠q->o.dst≠oq.dst
 |[],_,_,i,o,e,_=>by simp at e
 |o'::l,n,h,i,o,e,h1=>by
  simp only[qdJ,aD,Bool.or_eq_true,beq_iff_eq,bne_iff_ne]at h;cases i with
  |zero=>
   simp only[aJ,aa]at e;subst e;rcases h.1 with h'|h'
   . exact absurd h' (by simpa using h1)
   . exact h'
  |succ i=>simp only[List.getElem?_cons_succ]at e;exact qdK l (n+1) h.2 i o e (by omega)
def qcw (b:List (Root×List Cell)):Bool:=b.all fun x=>x.2.all fun c=>match c with
 |.dead=>false
 |_=>true
theorem Xy:∀ {b:List (Root×List Cell)},qcw b=true->∀ r l,b.lookup r=some l->Cell.dead∉l
 |[],_,r,l,h=>by simp at h
 |(r',l')::b,h,r,l,hl=>by
  simp only[qcw,List.all_cons,aD]at h;rw[List.lookup_cons]at hl;split at hl
  . simp only[aa]at hl;subst hl;intro hm;have:=List.all_eq_true.1 h.1 _ hm;cases this
  . exact Xy (b:=b) h.2 r l hl
theorem qeD {W}(h:ql6 W=true)(i):Root.par i∉W:=fun hm=>by have:=(List.all_eq_true.1 h) _ hm;cases this
theorem qbv {befs q}:∀ {l:List (Nat×Info)},qis befs q l=true->∀ x∈l,((befs[q]?).getD 0).testBit x.1=true\/∀ i,Root.par i∉x.2.W
 |[],_,x,h=>by simp at h
 |(i,I)::l,h,x,hm=>by
  simp only[qis,aD,Bool.or_eq_true]at h;rcases List.mem_cons.1 hm with rfl|hm
  . rcases h.1 with h'|h'
    . exact .inl h'
    . exact .inr (qeD h')
  . exact qbv h.2 x hm
theorem qfX {cx rec ops o}:∀ {l:List Oper} {F F1 F2:Fr} {is:List Info} {I:Info},drun cx rec ops l F=some (F1,is)->dop cx rec ops F1 o=some (F2,I)->drun cx rec ops (l++[o]) F=some (F2,is++[I])
 |[],F,F1,F2,is,I,e,h=>by simp only[drun,aa,ai]at e;obtain⟨rfl,rfl⟩:=e;simp only[List.nil_append,drun,h]
 |o'::l,F,F1,F2,is,I,e,h=>by
  simp only[drun]at e;cases h1:dop cx rec ops F o' with
  |none=>simp[h1]at e
  |some y=>
   obtain⟨F3,J⟩:=y;simp only[h1]at e;cases h2:drun cx rec ops l F3 with
   |none=>simp[h2]at e
   |some z=>obtain⟨F4,js⟩:=z;simp only[h2,aa,ai]at e;obtain⟨rfl,rfl⟩:=e;simp only[List.cons_append,drun,h1,qfX h2 h]
theorem qdE {ops o q}(ho:ops[q]? = some o):∀ (c:List Nat),xy ops (c++[q])=xy ops c++[o]
 |[]=>by simp[xy,ho]
 |i::c=>by simp only[List.cons_append,xy,qdE ho c];split<;>rfl
theorem qf8 {D cx recs rec2}(hrecs:∀ d,RecSound cx.P (recs d))(hfn:∀ d,ZA cx.P (recs d))(h2:RecSound cx.P rec2)(h2f:ZA cx.P rec2){v0}(hv:∀ f a b r bx,rec2 f a b=some (r,bx)->r=.panic v0)(hmix:cx.P.follows .mixedOrders=true){ops F F1 F2 G0 w0 G w a Q id q oq is I nb bx}(h:RelF G w F a.tmps)(hg:zS G0 w0 G w)(hd:D a)(hoq:ops.toList[q]? = some oq)(hcall:Qa oq=true)(hcl:I.cl=true)(hdq:qdJ oq q 0 ops.toList=true)(e1:drun cx recs ops.toList (xy ops.toList (XB (befL ops.toList []) q ops.toList.length)) F=some (F1,is))(e2:dop cx (fun _=>dumO rec2) ops.toList F1 oq=some (F2,I))(hc:(vw 0 ops.toList&&qcl (befL ops.toList []) 0 ops.toList.length [] ((XB (befL ops.toList []) q ops.toList.length++[q]).zip (is++[I]))&&qis (befL ops.toList []) q ((XB (befL ops.toList []) q ops.toList.length).zip is))=true)(hbx:zD F2 nb=some bx)(hnb:qcw F2.boxes=true)(hD:∀ o∈ops,∀ a V,D a->D (a.put o.dst V))(hq:∀ a' w' Fp,Stands D G0 w0 Fp a' w'->zD Fp nb=some bx->Q (.panic [{ v:=v0,recovered:=false }]) a' w'):(Code.region id ops true).wp cx.P Q a w:=by
 simp only[aD]at hc;obtain⟨⟨c1,c2⟩,c3⟩:=hc;have hq0:ops[q]? = some oq:=by rw[<- aR];exact hoq
 have hql:q<ops.toList.length:=(az.1 hoq).1;have hat:=qdK ops.toList 0 hdq;have hdq':∀ i o,ops[i]? = some o->i≠q->o.dst≠oq.dst:=fun i o ho hi=>hat i o (by rw[aR];exact ho) (by omega);generalize hcc:XB (befL ops.toList []) q ops.toList.length=c at e1 c2 c3;have hmem:∀ i,i∈c↔i<ops.toList.length/\i≠q/\(((befL ops.toList [])[i]?).getD 0).testBit q=false:=by intro i;rw[<- hcc];unfold XB;rw[List.mem_filter];simp
 have hnq:q∉c:=fun hx=>((hmem q).1 hx).2.1 rfl;have nd:(c++[q]).Nodup:=by rw[List.nodup_append];refine⟨by rw[<- hcc];exact List.Nodup.sublist List.filter_sublist List.nodup_range,by simp,fun x hx y hy e=>?_⟩;simp at hy;subst hy;exact hnq (e▸hx)
 have hlt:∀ i∈c++[q],i<ops.toList.length:=by
  intro i hi;rcases List.mem_append.1 hi with h'|h'
  . exact((hmem i).1 h').1
  . simp at h';omega
 have e1':drun cx (fun d=>if d=oq.dst then dumO rec2 else recs d) ops.toList (xy ops.toList c) F=some (F1,is):=by
  rw[<- e1];have gen:∀ (l:List Nat) (F:Fr),(∀ i∈l,i∈c)->drun cx (fun d=>if d=oq.dst then dumO rec2 else recs d) ops.toList (xy ops.toList l) F=drun cx recs ops.toList (xy ops.toList l) F:=by
   intro l
   induction l with
   |nil=>intro F _;rfl
   |cons i l ih=>
    intro F hl;simp only[xy];split
    . rename_i o ho;have hi:=(hmem i).1 (hl i au);have hne:=hdq' i o (by rw[<- aR];exact ho) hi.2.1;have hd2:∀ F,dop cx (fun d=>if d=oq.dst then dumO rec2 else recs d) ops.toList F o=dop cx recs ops.toList F o:=fun F=>by simp only[dop,hne,if_false]
      simp only[drun,hd2,ih _ fun j hj=>hl j (aB _ hj)]
    . exact ih _ fun j hj=>hl j (aB _ hj)
  exact gen c F fun i hi=>hi
 have e2':dop cx (fun d=>if d=oq.dst then dumO rec2 else recs d) ops.toList F1 oq=some (F2,I):=by rw[<- e2];simp only[dop,if_true]
 have e3:=qfX e1' e2';rw[<- qdE hoq]at e3;obtain⟨r1,l1⟩:=XM (info:=QT ((c++[q]).zip (is++[I]))) hlt e3 (qZ nd);have bef:∀ {x y:Nat},(((befL ops.toList [])[y]?).getD 0).testBit x=true->∀ S,Down ops.toList S->S y->S x:=by
  intro x y hb;cases hl:(befL ops.toList [])[y]? with
  |none=>simp[hl]at hb
  |some l=>simp only[hl,Option.getD_some]at hb;exact fun S hS hSy=>YD ops.toList [] (fun k=>by simp) (fun j l e=>by simp at e) y l hl x hb S hS hSy
 have hlen:is.length=c.length:=by have:=l1;simp at this;exact this
 have hz:(c++[q]).zip (is++[I])=c.zip is++[(q,I)]:=by rw[List.zip_append hlen.symm];rfl
 have hiq:QT ((c++[q]).zip (is++[I])) q=I:=qZ nd (q,I) (by rw[hz];simp);have hun:∀ i,i<ops.size->(Array.replicate ops.size false).getD i true=false:=fun i hi=>by rw[aK,Array.getElem?_eq_getElem (by simpa using hi)];simp
 have hw':RelF G { w with drawn:=w.drawn+1 } F a.tmps:=h.same ⟨Nat.le_refl _,fun _ _=>rfl,fun _ _ _=>rfl⟩;have hg':zS G0 w0 G { w with drawn:=w.drawn+1 }:=hg.trans (Gain.same (G:=G) (w:=w) (w':={ w with drawn:=w.drawn+1 }) (Nat.le_refl w.heap.size) (fun _ _=>rfl) h.inv (Out.drew w _)).w;refine wp_region_any hmix (qiI hrecs hfn h2 h2f hv hq0 hcall (by rw[hiq];exact hcl) hdq' (fun k o ho e he hb=>?_) hD hbx (fun i l hl=>Xy hnb _ _ hl) hq ops.size _ (c++[q]) F a _ G ?_ (by simp) (fun i hi=>⟨by simpa using hlt i hi,hun i (by simpa using hlt i hi)⟩) (fun i hi _=>?_) (by simp) nd ?_ (fun x hx hxq=>?_) (fun j oj hj hS=>?_) r1 hw' hg' hd)
 . have:=xn c1 k o (by rw[aR];exact ho) e he hb;omega
 . have hf:c.length<(List.range ops.toList.length).length:=by rw[<- hcc];unfold XB;rw[List.length_filter_lt_length_iff_exists];exact⟨q,List.mem_range.2 hql,by simp⟩
   simp at hf |-;omega
 .
  by_cases hi2:i=q
  . exact .inl (by simp[hi2])
  . cases hb:(((befL ops.toList [])[i]?).getD 0).testBit q with
    |false=>exact .inl (aM _ ((hmem i).2 ⟨by simpa using hi,hi2,hb⟩))
    |true=>exact .inr (bef hb)
 .
  refine qaA l1 (Zj c2).2 fun x hx y hy hT=>?_;rcases hT with hT|hT|hT
  . exact .inl (bef hT)
  . have:=hlt y.1 (List.of_mem_zip hy).1;omega
  . exact .inr (by rw[qZ nd x hx,qZ nd y hy];exact hT)
 .
  have hxc:x∈c:=by
   rcases List.mem_append.1 hx with h'|h'
   . exact h'
   . simp at h';exact absurd h' hxq
  obtain⟨k,hk,rfl⟩:=List.mem_iff_getElem.1 hxc;have hzz:(c[k],is[k]'(by omega))∈c.zip is:=by rw[List.mem_iff_getElem];exact⟨k,by simp;omega,by simp⟩
  rcases qbv c3 _ hzz with h'|h'
  . exact .inl (bef h')
  . right;have:QT ((c++[q]).zip (is++[I])) c[k]=is[k]'(by omega):=qZ nd (c[k],is[k]'(by omega)) (by rw[hz];exact aM _ hzz);rw[this];exact h'
 . obtain⟨hj1,hj2⟩:=hS;rw[hun j hj1]at hj2;cases hj2
end
section
variable [Glob]
section
variable {cx:Cx} {rec:Oracle}
end
theorem qbu {G w args bx Vs}(h:RelF G w ⟨args,bx⟩ Vs)(n):
  RelF G w ⟨args++List.replicate (n-args.length) .undef,bx⟩ (Vs++Array.replicate (n-Vs.size) Go.undef):=by
 have hsz:args.length=Vs.size:=h.size;have slot:∀ k v,(args++List.replicate (n-args.length) AV.undef)[k]? = some v->args[k]? = some v\/(args.length<=k/\v=.undef/\(Vs++Array.replicate (n-Vs.size) Go.undef)[k]? = some Go.undef):=by
  intro k v e;by_cases hk:k<args.length
  . rw[aZ hk]at e;exact .inl e
  . rw[bg (by omega)]at e;rw[List.getElem?_replicate]at e;split at e
    . rename_i hlt;refine .inr ⟨by omega,(aS e).symm,?_⟩;rw[Array.getElem?_append_right (by omega),Array.getElem?_replicate,aF (by omega)]
    . cases e
 refine⟨h.inv,by simp[hsz],fun k v e=>?_,h.boxes,h.live,fun k rows e hi=>?_⟩
 .
  rcases slot k v e with e'|⟨hk,rfl,hV⟩
  . obtain⟨V,hV,hr⟩:=h.slots k v e';refine⟨V,?_,hr⟩;have:k<Vs.size:=by rw[<- hsz];exact(az.1 e').1
    rw[Array.getElem?_append_left this];exact hV
  . exact⟨_,hV,⟨#[],rfl,rfl,rfl,by intro i g n h;simp at h⟩,by intro r o c h;simp[AV.undef,cellAt]at h⟩
 .
  refine h.cont k rows ?_ hi;obtain⟨r,π⟩:=k;cases r with
  |slot j=>
   have hπ:π≠[]:=by
    rcases hi with hi|hi
    . exact hi
    . simp[Root.boxed]at hi
   simp only[Fr.rowsAt,Fr.rows]at e |-;cases hj:(args++List.replicate (n-args.length) AV.undef)[j]? with
   |none=>simp[hj]at e
   |some v=>
    rcases slot j v hj with e'|⟨_,rfl,_⟩
    . rw[hj]at e;rw[e'];exact e
    . rw[hj]at e;simp only[av,ae,AV.undef]at e;cases π with
      |nil=>exact absurd rfl hπ
      |cons y π=>obtain⟨a,b⟩:=y;simp[getR,cellAt]at e
  |_=>exact e
end
section
variable [Glob]
def qnG (cx:Cx)(F:Fr)(o:Oper)(c a b:Operand):Option AV:=match (F.ev c).con with
 |some (.bool t)=>some (if t then F.ev a else F.ev b)
 |_=>none
def qm1 (cx:Cx)(F:Fr)(o:Oper)(op:BinOp)(t:TypeId)(x y:Operand):Option AV:=match op,(F.ev x).con,(F.ev y).con with
 |.eql,some (.agg xs),some (.agg ys)=>if qL cx.P t then(qaK cx.P xs ys (match cx.P.underlying t with|some (.struct fs)=>fs.toList|_=>[])).map .bool else none
 |.neq,some (.agg xs),some (.agg ys)=>if qL cx.P t then(qaK cx.P xs ys (match cx.P.underlying t with|some (.struct fs)=>fs.toList|_=>[])).map fun b=>.bool (!b)else none
 |_,_,_=>yg cx F o
def qnr (cx:Cx)(F:Fr)(o:Oper)(t:TypeId)(a:Operand):Option AV:=match (F.ev a).cell,qQ cx.P t,zW cx.P t with
 |some c,some n,some g=>(F.loadL n c).bind (mkAV g)
 |_,_,_=>none
def qh5 (cx:Cx)(F:Fr)(o:Oper)(x:Operand):Option AV:=match (F.ev x).cell with
 |some (.ptr p)=>if p.isM then none else some (.c (.ptr p))
 |some (.cptr row o)=>some (.c (.cptr row o))
 |_=>none
def qgI (cx:Cx)(F:Fr)(o:Oper)(s:TypeId)(x:Operand)(f:Nat):Option AV:=match cx.P.underlying s,(F.ev x).cell with
 |some (.struct fields),some c=>match fields[f]? with
  |some fd=>match qQ cx.P fd.type with
   |some (_+1)=>(ZE fd.offset c).map .c
   |_=>none
  |none=>none
 |_,_=>none
def qgB (cx:Cx)(F:Fr)(o:Oper)(t:TypeId)(x i:Operand):Option AV:=match cx.P.underlying t,(F.ev x).cell,asInt (F.ev i)with
 |some (.slice elem),some (.imm rows),some n=>match rows[n.toNat]?,qQ cx.P elem with
  |some row,some sz=>if 0<=n&&row.length==sz then some (.c (.cptr row 0))else none
  |_,_=>none
 |some (.slice elem),some (.ref p),some n=>match F.get p,qQ cx.P elem with
  |some (.own zz rows),some sz=>if 0<=n&&n<rows.length&&zz==sz then some (.c (.ptr ⟨p.toKey,n.toNat,0⟩))else none
  |_,_=>none
 |some (.array len elem),some c,some n=>match qQ cx.P elem with
  |some sz=>if 0<=n/\n<len then(ZE (n.toNat*sz) c).map .c else none
  |none=>none
 |_,_,_=>none
def qmw (cx:Cx)(F:Fr)(o:Oper)(s:TypeId)(x:Operand)(f:Nat):Option AV:=match cx.P.underlying s,F.ev x with
 |some (.struct fields),⟨.agg,[l]⟩=>match fields[f]? with
  |some fd=>match qQ cx.P fd.type,zW cx.P fd.type with
   |some n,some g=>if fd.offset+n<=l.length then mkAV g ((l.drop fd.offset).take n)else none
   |_,_=>none
  |none=>none
 |_,_=>none
def qiR (cx:Cx)(F:Fr)(o:Oper)(x:Operand)(i:Nat):Option AV:=match F.ev x with
 |⟨.tup fl,rows⟩=>match fl[i]?,rows[i]? with
  |some g,some l=>mkAV g l
  |_,_=>none
 |_=>none
def qk1 (cx:Cx)(F:Fr)(o:Oper)(t:TypeId)(x k:Operand)(ok:Bool):Option AV:=match cx.P.underlying t,(F.ev x).cell,(F.ev k).con with
 |some (.map kt elem),some c,some kv=>match qwv F c with
  |some (_,es)=>match yU cx.P kt kv es,zW cx.P elem,qg0 cx.P elem with
   |some r,some g,some z=>match (match r with|some l=>some l|none=>if Qs z.tag g then z.cells else none)with
    |some l=>if !ZK cx.P kt kv||g != (l.length != 1)then none
     else if ok then some ⟨.tup [g,false],[l,[.val (.bool r.isSome)]]⟩else mkAV g l
    |none=>none
   |_,_,_=>none
  |none=>none
 |_,_,_=>none
def qLen (cx:Cx)(F:Fr)(o:Oper)(args:Array Operand)(argTypes:Array TypeId):Option AV:=match args[0]?,argTypes[0]? with
 |some x,some t=>match cx.P.underlying t,(F.ev x).cell with
  |some (.slice _),some c=>(F.look c).map fun rows=>.int rows.length
  |some (.map _ _),some (.ref p)=>match F.get p with
   |some (.mp es)=>some (.int es.length)
   |_=>none
  |_,_=>yg cx F o
 |_,_=>none
def qhW (cx:Cx)(F:Fr)(o:Oper)(f:Nat)(first caps:Array Operand):Option AV:=
 let fs:=first.toList.map fun x=>(F.ev x).cell
 let cs:=caps.toList.map fun x=>(F.ev x).cell
 let good:Option Cell->Bool:=fun c=>match c with
  |some (.ptr p)=>p.key.path.isEmpty&&p.r==0
  |some (.val _)=>true
  |_=>false
 if fs.all good&&cs.all good then some (.c (.clo f (fs.map (·.getD .dead)) (cs.map (·.getD .dead))))else none
def xquiet (cx:Cx)(F:Fr)(o:Oper):Option AV:=match o.op with
 |.move x=>some (F.ev x)
 |.pick c a b=>qnG cx F o c a b
 |.binOp op t x y _=>qm1 cx F o op t x y
 |.unOp ..=>yg cx F o
 |.convert s t x=>XU cx F o s t x
 |.makeInterface ..=>yg cx F o
 |.typeAssert x _ t ok=>qbz cx F x t ok
 |.load t a=>qnr cx F o t a
 |.nilCheck x=>qh5 cx F o x
 |.fieldAddr s x f=>qgI cx F o s x f
 |.indexAddr t x i=>qgB cx F o t x i
 |.index ..=>yg cx F o
 |.field s x f=>qmw cx F o s x f
 |.extract x i=>qiR cx F o x i
 |.lookup t x k ok=>qk1 cx F o t x k ok
 |.call { callee:=.builtin .len,args,argTypes }=>qLen cx F o args argTypes
 |.call { callee:=.builtin .max,.. }|.call { callee:=.builtin .min,.. }=>yg cx F o
 |.makeFunc (.func f) first caps=>qhW cx F o f first caps
 |_=>none
def qlj (cx:Cx)(F:Fr)(o:Oper)(x:Operand):Option Fr:=match (F.ev x).cell,o.dst with
 |some (.ref p),some d=>
  if p.key.root=.slot d then(if p=⟨⟨.slot d,[]⟩,0,0⟩then match F.slots[d]? with
    |some ⟨.one,[[c]]⟩=>if qy c then some F else none
    |_=>none
   else none)
  else if cx.temp p.key.root then match takeC cx F (.ref p)with
   |some (c,F')=>some (F'.putS (some d) (.c c))
   |none=>none
  else some (F.putS (some d) (.c (.ref p)))
 |some c,some d=>some (F.putS (some d) (.c c))
 |none,some d=>(Qb cx F (F.ev x)).map fun (v,F')=>F'.putS (some d) v
 |_,none=>none
def qlG (cx:Cx)(F:Fr)(o:Oper)(t:TypeId)(a x:Operand):Option Fr:=match o.dst,(F.ev a).cell,qQ cx.P t,Qb cx F (F.ev x)with
 |none,some (.ptr p),some n,some (v,F')=>match v.cells with
  |some l=>if l.length=n&&(p.key.heap && !p.isM)&&(p.key.path.isEmpty||l.all qw)then F'.setL p 0 l else none
  |none=>none
 |_,_,_,_=>none
def qmS (cx:Cx)(F:Fr)(o:Oper)(t:TypeId)(parts:Array (Nat×Operand)):Option Fr:=match XP cx.P t,placeOf cx.P t,ym cx F (parts.toList.map fun (i,x)=>(i,F.ev x))with
 |some l,some place,some (ps,F')=>(qbn place l ps).map fun l'=>F'.putS o.dst (.ag l')
 |_,_,_=>none
def qew (cx:Cx)(F:Fr)(o:Oper)(t:TypeId)(len:Nat)(parts:Array (Nat×Operand)):Option Fr:=match cx.P.underlying t with
 |some (.slice elem)=>match qQ cx.P elem,XP cx.P elem,ym cx F (parts.toList.map fun (i,x)=>(i,F.ev x))with
  | some sz,some zl,some (ps,F')=>if len*sz<=16777216&&0<sz then
    match qbn (fun i=>some (i*sz,sz)) (List.replicate len zl).flatten ps with
    |some l=>if l.all qw then some (F'.putS o.dst (.c (.own sz (chunk sz len l))))else none
    |none=>none
   else none
  |_,_,_=>none
 |_=>none
def qgA (cx:Cx)(F:Fr)(o:Oper)(t:TypeId)(l c:Operand):Option Fr:=match cx.P.underlying t,asInt (F.ev l),asInt (F.ev c)with
 |some (.slice elem),some n,some m=>match qQ cx.P elem,cx.P.info? elem,XP cx.P elem with
  |some sz,some i,some zl=>if 0<=n&&n<=m&&m*i.bytes<=140737488355328&&m<=lim&&0<sz then
     some (F.putS o.dst (.c (.own sz (List.replicate n.toNat zl))))else none
  |_,_,_=>none
 |_,_,_=>none
def qgr (cx:Cx)(F:Fr)(o:Oper)(t:TypeId)(m k x:Operand):Option Fr:=match o.dst,cx.P.underlying t,(F.ev m).cell,(F.ev k).con,(F.ev x).cells with
 |none,some (.map kt _),some c,some kv,some l=>match qwv F c with
  | some (p,es)=>if ZK cx.P kt kv&&(match (F.ev x).tag with|.one=>l.length==1|_=>l.length != 1)&&l.all (fun c=>match c with|.val _|.nil|.imm _=>true|_=>false)then
    (xL cx.P kt kv (qfz l) es).bind fun es'=>F.set p (mapC c es')else none
  |none=>none
 |_,_,_,_,_=>none
def qmF (cx:Cx)(F:Fr)(o:Oper)(t:TypeId)(x:Operand)(lo hi:Option Operand):Option Fr:=match cx.P.underlying t with
 |some (.slice elem)=>match frzC F (((F.ev x).cell).getD .dead),qQ cx.P elem with
  |some (rows,F'),some sz=>
   let l:=match lo with|some y=>asInt (F.ev y)|none=>some 0
   let h:=match hi with|some y=>asInt (F.ev y)|none=>some (rows.length:Int)
   match l,h with
   |some l,some h=>if 0<=l/\l<=h/\h<=rows.length/\(rows.head?.all (·.length==sz))then some (F'.putS o.dst (.c (.imm ((rows.take h.toNat).drop l.toNat))))else none
   |_,_=>none
  |_,_=>none
 |_=>(yg cx F o).map (F.putS o.dst)
def qk2 (cx:Cx)(F:Fr)(o:Oper)(args:Array Operand)(argTypes:Array TypeId):Option Fr:=match args.toList,argTypes.toList,o.dst with
 |[s,x],[t,t1],some d=>match cx.P.underlying t,srcU (cx.P.underlying t1),(F.ev s).cell,(F.ev x).cell with
  |some (.slice elem),some (.slice _),some .nil,some xc=>match cx.P.info? elem with
   |some i=>Yo cx F d elem i [] none xc
   |none=>none
  |some (.slice elem),some (.slice _),some (.ref p),some xc=>match F.get p,cx.P.info? elem,F.set p .dead with
   |some (.own zz rows),some i,some F1=>if zz=i.size then Yo cx (F1.kill p) d elem i rows (some p) xc else none
   |_,_,_=>none
  |_,_,_,_=>none
 |_,_,_=>none
def qjs (cx:Cx)(F:Fr)(o:Oper)(s t:TypeId)(x:Operand):Option Fr:=match cx.P.underlying s,cx.P.underlying t,(F.ev x).con with
 |some .string,some (.slice e),some (.string b)=>match cx.P.underlying e with
  |some (.int .u8)=>some (F.putS o.dst (.c (.imm (yH b))))
  |_=>none
 |_,_,_=>none
def xloud (cx:Cx)(F:Fr)(o:Oper):Option Fr:=match o.op with
 |.assign x=>qlj cx F o x
 |.alloc t=>match XP cx.P t with
  |some l=>qaN F o.dst l
  |none=>none
 |.box _ x=>match Qb cx F (F.ev x)with
  |some (v,F')=>v.cells.bind (qaN F' o.dst)
  |none=>none
 |.store t a x=>qlG cx F o t a x
 |.build t parts=>qmS cx F o t parts
 |.buildSlice t len parts=>qew cx F o t len parts
 |.makeSlice t l c=>qgA cx F o t l c
 |.convert s t x=>qjs cx F o s t x
 |.makeMap _ none=>match o.dst with
  |some d=>if cx.mv.contains d then qyW F d else some (F.putS (some d) (.c (.mp [])))
  |none=>none
 |.mapUpdate t m k x|.insert t m k x=>qgr cx F o t m k x
 |.slice t x lo hi none=>qmF cx F o t x lo hi
 |.call { callee:=.builtin .append,args,argTypes }=>qk2 cx F o args argTypes
 |_=>none
theorem XZ (cx F)(o):xquiet cx F o=quiet cx F o:=by
 obtain⟨dst,op,ty,pos,after,guard⟩:=o;cases op with
 |call c=>
  obtain⟨callee,args,argTypes⟩:=c;cases callee with
  |builtin b=>cases b<;>rfl
  |_=>rfl
 |makeFunc f a b=>cases f<;>rfl
 |_=>rfl
theorem qjC (cx F)(o):xloud cx F o=loud cx F o:=by
 obtain⟨dst,op,ty,pos,after,guard⟩:=o;cases op with
 |call c=>
  obtain⟨callee,args,argTypes⟩:=c;cases callee with
  |builtin b=>cases b<;>rfl
  |_=>rfl
 |makeMap t r=>cases r<;>rfl
 |slice t x lo hi mx=>cases mx<;>rfl
 |_=>rfl
def qmR (F:Fr)(x:Operand):Option (Fr×Option Value):=match (F.ev x).con with
 |some (.iface t v)=>some (F,some (.iface t v))
 |_=>none
def qnq (cx:Cx)(rec:Oracle)(F:Fr)(o:Oper)(g:Operand)(args:Array Operand):Option (Fr×Option Value):=match (F.ev g).cell with
 |some (.clo f first caps)=>vZ cx rec F o.dst f (first.map .c++args.toList.map F.ev++caps.map .c)
 |_=>none
def qfW (cx:Cx)(rec:Oracle)(F:Fr)(o:Oper):Option (Fr×Option Value):=match o.op with
 |.panic x=>qmR F x
 |.call { callee:=.value g,args,.. }=>qnq cx rec F o g args
 |_=>match xloud cx F o with
  |some F'=>some (F',none)
  |none=>none
theorem qg2 (cx rec F o)(h:quiet cx F o=none):qfW cx rec F o=aop0 cx rec F o:=by
 obtain⟨dst,op,ty,pos,after,guard⟩:=o;unfold aop0;rw[h];simp only;rw[<- qjC];cases op with
 |call c=>
  obtain⟨callee,args,argTypes⟩:=c;cases callee with
  |value g=>rfl
  |builtin b=>simp only[qfW];split<;>simp_all
  |_=>rfl
 |panic x=>rfl
 |_=>simp only[qfW];split<;>simp_all
def qlq (cx:Cx)(rec:Oracle)(F:Fr)(o:Oper):Option (Fr×Option Value):=match xquiet cx F o with
 |some v=>some (F.putS o.dst v,none)
 |none=>qfW cx rec F o
theorem qiO (cx rec F)(o):qlq cx rec F o=aop0 cx rec F o:=by
 unfold qlq;rw[XZ];cases h:quiet cx F o with
 |none=>exact qg2 cx rec F o h
 |some v=>unfold aop0;rw[h]
def xaop (cx:Cx)(rec:Oracle)(F:Fr)(o:Oper):Option (Fr×Option Value):=match mvop cx F o with
 |some F'=>some (F',none)
 |none=>qlq cx rec F o
theorem qhC (cx rec F)(o):xaop cx rec F o=aop cx rec F o:=by unfold xaop aop;rw[qiO];rfl
end
section
variable [Glob]
def Xp (s:ByteArray)(n:Nat):Option Int:=(s[n]?).map fun b=>(b.toNat:Int)
theorem qj {α β P}(s)(f:α->Sem β):qo P (s >>= f)=(qo P s).bind fun a=>qo P (f a):=by
 show qo P (Sem.bind s f)=_
 induction s with
 |pure a=>rfl
 |program k ih=>exact ih P
 |mark m k ih=>exact ih
 |_=>rfl
theorem yo {P t u}(h:P.underlying t=some u):qo P (underlying t)=some u:=by unfold underlying;rw[qj];show(qo P (match P.underlying t with|some d=>pure d|none=>_))=_;rw[h];rfl
theorem xB {v n}(e:asInt v=some n):∃ k,v.con=some (.int k n):=by
 unfold asInt at e;split at e
 . rename_i k m h;simp only[aa]at e;subst e;exact⟨k,h⟩
 . cases e
theorem qhh {cx F dst t x i ty pos after g s n b}(hu:cx.P.underlying t=some .string)(hx:(F.ev x).con=some (.string s))(hi:asInt (F.ev i)=some n)(h0:0<=n)(hb:s[n.toNat]? = some b):
  yg cx F ⟨dst,.index t x i,ty,pos,after,g⟩=some (.c (.val (.int .u8 (b.toNat:Int)))):=by
 obtain⟨k,hk⟩:=xB hi;unfold yg;rw[aF (by simp[Op.operands,hx,hk])];have:qo cx.P (execOp (fun x=>((F.ev x).con).getD Go.undef) ⟨dst,.index t x i,ty,pos,after,g⟩)=some (.value (.int .u8 (b.toNat:Int))):=by simp only[execOp,hx,hk,Option.getD_some,Instr.index,qj,yo hu,ae,asIntOf];rw[show qo cx.P (pure (k,n):Sem (IntKind×Int))=some (k,n)from rfl,ae];simp only[aF h0,hb];rfl
 rw[this];rfl
theorem qcI {P t g}(h:zW P t=some g):qo P (isAgg t)=some g:=by
 unfold zW at h;cases hu:P.underlying t with
 |none=>simp[hu]at h
 |some u=>unfold isAgg;rw[qj,yo hu,ae];rw[hu]at h;cases u<;>simp only[aa]at h<;>subst h<;>rfl
theorem qbE {P t n}(h:qQ P t=some n):qo P (sizeOf t)=some n:=by unfold qQ at h;rw[aH]at h;obtain⟨i,hi,rfl⟩:=h;unfold sizeOf typeInfo;rw[qj,qj];show((qo P (match P.info? t with|some i=>pure i|none=>_)).bind _)=_;rw[hi];rfl
theorem qlm {cx F dst t el}{len:Nat}{x i ty pos after g cs n v}(hu:cx.P.underlying t=some (.array len el))(hz:qQ cx.P el=some 1)(hg:zW cx.P el=some false)(hx:(F.ev x).con=some (.agg cs))(hi:asInt (F.ev i)=some n)(h0:0<=n)(h1:n<len)(hb:cs.toList[n.toNat]? = some v):
  yg cx F ⟨dst,.index t x i,ty,pos,after,g⟩=some (yR v):=by
 obtain⟨k,hk⟩:=xB hi;unfold yg;rw[aF (by simp[Op.operands,hx,hk])];have hb':cs[n.toNat]? = some v:=by rw[<- hb,aR]
 have:qo cx.P (execOp (fun x=>((F.ev x).con).getD Go.undef) ⟨dst,.index t x i,ty,pos,after,g⟩)=some (.value v):=by simp only[execOp,hx,hk,Option.getD_some,Instr.index,qj,yo hu,ae,asIntOf];rw[show qo cx.P (pure (k,n):Sem (IntKind×Int))=some (k,n)from rfl,ae];simp only[aF (show 0<=n/\n<(len:Int)from⟨h0,h1⟩),qj,qbE hz,ae,part,qcI hg,Nat.mul_one];simp only[aU,if_false,hb'];rfl
 rw[this]
theorem qkS {cx F dst t x y u ty pos after g s r}(hx:(F.ev x).con=some (.string s))(hy:(F.ev y).con=some (.string r))(h:s.size+r.size<=1000000000):
  yg cx F ⟨dst,.binOp .add t x y u,ty,pos,after,g⟩=some (.c (.val (.string (s++r)))):=by
 unfold yg;rw[aF (by simp[Op.operands,hx,hy])];have hn:¬ ((s.size+r.size:Nat):Int)>IntKind.i64.max:=by
  have:IntKind.i64.max=9223372036854775807:=by decide
  rw[this];omega
 have:qo cx.P (execOp (fun x=>((F.ev x).con).getD Go.undef) ⟨dst,.binOp .add t x y u,ty,pos,after,g⟩)=some (.value (.string (s++r))):=by simp only[execOp,hx,hy,Option.getD_some,qj];rw[show qo cx.P (eqGuard .add t x y (.string s) (.string r))=some ()from rfl,ae];rw[show binOp .add t (.string s) (.string r)=Op.stringOp .add s r from rfl];unfold Op.stringOp;simp only[aG hn];rfl
 rw[this];rfl
theorem qgh {P t s lo hi}{l h:Int}(hu:P.underlying t=some .string)(hl:match lo with|some v=>∃ k,v=.int k l|none=>l=0)(hh:match hi with|some v=>∃ k,v=.int k h|none=>h=s.size)(h0:0<=l/\l<=h/\h<=s.size):qo P (Instr.sliceAt t (.string s) lo hi none)=some (.string (s.extract l.toNat h.toNat)):=by
 obtain⟨q1,q2,q3⟩:=h0;have bnd:∀ (k:IntKind) (n:Int) (y:Nat) (code:BoundsCode),0<=n->n<=y->qo P (Instr.sliceBound (.int k n) y code)=some n.toNat:=fun k n y code h1 h2=>by unfold Instr.sliceBound;rw[qj,show qo P (asIntOf (.int k n))=some (k,n)from rfl,ae];simp only[aF (show 0<=n/\n<=(y:Int)from⟨h1,h2⟩)];rfl
 have hb:qo P (Instr.sliceBounds false s.size s.size lo hi none)=some (l.toNat,h.toNat,s.size):=by
  unfold Instr.sliceBounds;cases hi with
  |none=>
   simp only at hh;subst hh;cases lo with
   |none=>simp only at hl;subst hl;rfl
   |some v=>obtain⟨k,rfl⟩:=hl;show qo P (Instr.sliceBound (.int k l) s.size _ >>= fun l=>pure (l,s.size,s.size))=_;rw[qj,bnd k l s.size _ q1 (by omega)];rfl
  |some v=>
   obtain⟨k,rfl⟩:=hh;cases lo with
   |none=>simp only at hl;subst hl;show qo P (Instr.sliceBound (.int k h) s.size _ >>= fun h=>pure (0,h,s.size))=_;rw[qj,bnd k h s.size _ (by omega) q3];rfl
   |some v2=>obtain⟨k2,rfl⟩:=hl;show qo P (Instr.sliceBound (.int k h) s.size _ >>= fun h=>Instr.sliceBound (.int k2 l) h _ >>= fun l=>pure (l,h,s.size))=_;rw[qj,bnd k h s.size _ (by omega) q3,ae,qj,bnd k2 l h.toNat _ q1 (by omega)];rfl
 unfold Instr.sliceAt;rw[qj,yo hu,ae];unfold Instr.slice;simp only;rw[qj,yo hu,ae];simp only[Option.isSome_none,aU,if_false];refine Eq.trans (qj _ _) ?_;rw[hb];rfl
theorem qhf {cx F dst t x lo hi ty pos after g s}{l h:Int}(hu:cx.P.underlying t=some .string)(hx:(F.ev x).con=some (.string s))(hl:(match lo with|some y=>asInt (F.ev y)|none=>some 0)=some l)(hh:(match hi with|some y=>asInt (F.ev y)|none=>some (s.size:Int))=some h)(h0:0<=l/\l<=h/\h<=s.size):
  yg cx F ⟨dst,.slice t x lo hi none,ty,pos,after,g⟩=some (.c (.val (.string (s.extract l.toNat h.toNat)))):=by
 unfold yg;have hl':match lo.map (fun y=>((F.ev y).con).getD Go.undef)with|some v=>∃ k,v=.int k l|none=>l=0:=by
  cases lo with
  |none=>simpa using hl.symm
  |some y=>obtain⟨k,hk⟩:=xB hl;exact⟨k,by show((F.ev y).con).getD Go.undef=_;rw[hk];rfl⟩
 have hh':match hi.map (fun y=>((F.ev y).con).getD Go.undef)with|some v=>∃ k,v=.int k h|none=>h=s.size:=by
  cases hi with
  |none=>simpa using hh.symm
  |some y=>obtain⟨k,hk⟩:=xB hh;exact⟨k,by show((F.ev y).con).getD Go.undef=_;rw[hk];rfl⟩
 have hall:((Op.slice t x lo hi none).operands.toList.all fun x=>(F.ev x).con.isSome)=true:=by
  cases lo with
  |none=>cases hi with
   |none=>simp[Op.operands,hx]
   |some y=>obtain⟨k,hk⟩:=xB hh;simp[Op.operands,hx,hk]
  |some z=>
   obtain⟨k1,hk1⟩:=xB hl;cases hi with
   |none=>simp[Op.operands,hx,hk1]
   |some y=>obtain⟨k,hk⟩:=xB hh;simp[Op.operands,hx,hk,hk1]
 rw[aF hall];have:qo cx.P (execOp (fun x=>((F.ev x).con).getD Go.undef) ⟨dst,.slice t x lo hi none,ty,pos,after,g⟩)=some (.value (.string (s.extract l.toNat h.toNat))):=by simp only[execOp,hx,Option.getD_some,qj,Option.map_none];rw[qgh hu hl' hh' h0];rfl
 rw[this];rfl
theorem qhd {cx F dst op t x y u ty pos after g k a b v}(hop:(op=.quo/\v=.int k (k.wrap (a.tdiv b)))\/(op=.rem/\v=.int k (a.tmod b)))(hx:(F.ev x).con=some (.int k a))(hy:(F.ev y).con=some (.int k b))(h:b≠0):
  yg cx F ⟨dst,.binOp op t x y u,ty,pos,after,g⟩=some (.c (.val v)):=by
 unfold yg;rw[aF (by simp[Op.operands,hx,hy])];have:qo cx.P (execOp (fun x=>((F.ev x).con).getD Go.undef) ⟨dst,.binOp op t x y u,ty,pos,after,g⟩)=some (.value v):=by
  rcases hop with⟨rfl,rfl⟩|⟨rfl,rfl⟩
  . simp only[execOp,hx,hy,Option.getD_some,qj];rw[show qo cx.P (eqGuard .quo t x y (Value.int k a) (Value.int k b))=some ()from rfl,ae];rw[show Go.binOp .quo t (Value.int k a) (Value.int k b)=(if k≠k then stuck "BinOp: operands of different kinds" else Op.intDiv .quo k a b)from rfl,aG (by simp)]
    unfold Op.intDiv;simp only[aG h];rfl
  . simp only[execOp,hx,hy,Option.getD_some,qj];rw[show qo cx.P (eqGuard .rem t x y (Value.int k a) (Value.int k b))=some ()from rfl,ae];rw[show Go.binOp .rem t (Value.int k a) (Value.int k b)=(if k≠k then stuck "BinOp: operands of different kinds" else Op.intDiv .rem k a b)from rfl,aG (by simp)]
    unfold Op.intDiv;simp only[aG h];rfl
 rw[this];cases hop<;>(rename_i h;obtain⟨_,rfl⟩:=h;rfl)
theorem qkx {cx F dst op t x y u ty pos after g k k' a b v}(hop:(op=.shl/\v=.int k (k.wrap (a*2 ^ (min b.toNat k.bits))))\/(op=.shr/\v=.int k (a.fdiv (2 ^ (min b.toNat k.bits)))))(hx:(F.ev x).con=some (.int k a))(hy:(F.ev y).con=some (.int k' b))(h:0<=b):
  yg cx F ⟨dst,.binOp op t x y u,ty,pos,after,g⟩=some (.c (.val v)):=by
 unfold yg;rw[aF (by simp[Op.operands,hx,hy])];have h':¬ b<0:=by omega
 have:qo cx.P (execOp (fun x=>((F.ev x).con).getD Go.undef) ⟨dst,.binOp op t x y u,ty,pos,after,g⟩)=some (.value v):=by
  rcases hop with⟨rfl,rfl⟩|⟨rfl,rfl⟩
  . simp only[execOp,hx,hy,Option.getD_some,qj];rw[show qo cx.P (eqGuard .shl t x y (Value.int k a) (Value.int k' b))=some ()from rfl,ae];rw[show Go.binOp .shl t (Value.int k a) (Value.int k' b)=Op.shift .shl k a k' b from rfl];unfold Op.shift;simp only[aG h'];rfl
  . simp only[execOp,hx,hy,Option.getD_some,qj];rw[show qo cx.P (eqGuard .shr t x y (Value.int k a) (Value.int k' b))=some ()from rfl,ae];rw[show Go.binOp .shr t (Value.int k a) (Value.int k' b)=Op.shift .shr k a k' b from rfl];unfold Op.shift;simp only[aG h'];rfl
 rw[this];cases hop<;>(rename_i h;obtain⟨_,rfl⟩:=h;rfl)
end
section
variable [Glob]
def qkk {α:Type}(p:Pl)(k:Pl->α):α:=match p with|⟨⟨r,π⟩,a,b⟩=>k ⟨⟨r,π⟩,a,b⟩
def qfw {α:Type}(c:Cell)(k:Cell->α):α:=match c with
 |.val v=>k (.val v)|.nil=>k .nil|.imm r=>k (.imm r)|.own z r=>k (.own z r)|.mp e=>k (.mp e)|.mpb e=>k (.mpb e)
 |.ptr p=>qkk p fun p=>k (.ptr p)|.cptr r o=>k (.cptr r o)|.ref p=>qkk p fun p=>k (.ref p)|.clo f a b=>k (.clo f a b)|.dead=>k .dead
def qdI {α:Type}:List Cell->(List Cell->α)->α
 |[],k=>k []
 |c::l,k=>qfw c fun c=>qdI l fun l=>k (c::l)
def qcM {α:Type}:List (List Cell)->(List (List Cell)->α)->α
 |[],k=>k []
 |r::l,k=>qdI r fun r=>qcM l fun l=>k (r::l)
def qjP {α:Type}(t:Tag)(k:Tag->α):α:=match t with|.one=>k .one|.agg=>k .agg|.tup l=>k (.tup l)
def qff {α:Type}(v:AV)(k:AV->α):α:=match v with|⟨t,rows⟩=>qjP t fun t=>qcM rows fun rows=>k ⟨t,rows⟩
def qcB {α:Type}:List AV->(List AV->α)->α
 |[],k=>k []
 |v::l,k=>qff v fun v=>qcB l fun l=>k (v::l)
def QA {α:Type}:List (Root×List Cell)->(List (Root×List Cell)->α)->α
 |[],k=>k []
 |(r,b)::l,k=>qdI b fun b=>QA l fun l=>k ((r,b)::l)
def qdU {α:Type}(F:Fr)(k:Fr->α):α:=match F with|⟨s,b⟩=>qcB s fun s=>QA b fun b=>k ⟨s,b⟩
theorem qdx {α}(c)(k:Cell->α):qfw c k=k c:=by cases c<;>rfl
theorem qbd {α}:∀ (l:List Cell) (k:List Cell->α),qdI l k=k l
 |[],_=>rfl
 |c::l,k=>by simp only[qdI,qdx,qbd l]
theorem qbP {α}:∀ (l:List (List Cell)) (k:List (List Cell)->α),qcM l k=k l
 |[],_=>rfl
 |c::l,k=>by simp only[qcM,qbd,qbP l]
theorem qd7 {α}(v)(k:AV->α):qff v k=k v:=by obtain⟨t,rows⟩:=v;simp only[qff,qbP];cases t<;>rfl
theorem qb6 {α}:∀ (l:List AV) (k:List AV->α),qcB l k=k l
 |[],_=>rfl
 |c::l,k=>by simp only[qcB,qd7,qb6 l]
theorem Yv {α}:∀ (l:List (Root×List Cell)) (k:List (Root×List Cell)->α),QA l k=k l
 |[],_=>rfl
 |(r,b)::l,k=>by simp only[QA,qbd,Yv l]
theorem qa1 {α}(F)(k:Fr->α):qdU F k=k F:=by obtain⟨s,b⟩:=F;simp only[qdU,qb6,Yv]
def XE {α β:Type}(f:α->(α->β)->β)(l:List α):(List α->β)->β:=List.rec (motive:=fun _=>(List α->β)->β) (fun k=>k []) (fun x _ ih k=>f x fun x=>ih fun l=>k (x::l)) l
theorem vU {α β f}(hf:∀ x k,f x k=k x):∀ (l:List α) (k:List α->β),XE f l k=k l
 |[],k=>rfl
 |x::l,k=>by show(f x fun x=>XE f l fun l=>k (x::l))=_;rw[hf,vU hf l]
theorem set_same {α:Type}:∀ {l:List α} {d:Nat} {v:α},l[d]? = some v->l.set d v=l
 |[],_,_,h=>by simp at h
 |x::l,0,v,h=>by simp at h;simp[h]
 |x::l,d+1,v,h=>by simp at h;simp[set_same h]
def natK {α:Type}(m:Nat)(k:Nat->α):α:=match m with|0=>k 0|m+1=>k (m+1)
theorem qlf {α}(m)(k:Nat->α):natK m k=k m:=by cases m<;>rfl
def qgQ {α:Type}(i:Info)(k:Info->α):α:=match i with|⟨w,r,s,c,a,b⟩=>natK a fun a=>natK b fun b=>k ⟨w,r,s,c,a,b⟩
theorem qhK {α}(i)(k:Info->α):qgQ i k=k i:=by simp only[qgQ,qlf]
def spF {α:Type}(d:Option Nat)(F:Fr)(k:Fr->α):α:=match F with
 |⟨s,b⟩=>QA b fun b=>match d with
  |none=>XE (fun x k=>k x) s fun s=>k ⟨s,b⟩
  |some d=>match s[d]? with
   |some v=>qff v fun v=>XE (fun x k=>k x) (s.set d v) fun s=>k ⟨s,b⟩
   |none=>XE (fun x k=>k x) s fun s=>k ⟨s,b⟩
theorem qiv {α}(d F)(k:Fr->α):spF d F k=k F:=by
 obtain⟨s,b⟩:=F;simp only[spF,Yv];cases d with
 |none=>exact vU (fun _ _=>rfl) s _
 |some d=>
  simp only;cases h:s[d]? with
  |none=>exact vU (fun _ _=>rfl) s _
  |some v=>simp only[qd7];rw[vU (fun _ _=>rfl),set_same h]
inductive Adv where
 |test (r:Bool)
 |row (row:List Cell)
 |bnd
 |ld (row:List Cell)
 |look (r:Option (List Cell))
 |st
 |ok
 |okE (e:Bool)
 |okO (rows:List (List Cell)) (e:Bool)
 |put (es:List (Value×List Cell))
 |call (res:ARes) (bx:List (List Cell)) (thaw:Bool)
 |alt (p q:Nat)
 |pan (q:Nat)
 |ldm (l:List Cell)
 |callO (v:AV) (os:List (Nat×List (List Cell)))
 |sidx (c:Int)
 |aix (v:Value)
 |scat
 |ssl
 |qr
 |thru (hs:List (Nat×List (List Cell))) (a:Adv)
abbrev Advs:=List (Option Nat×Adv)
def tquiet (cx:Cx)(F:Fr)(o:Oper):Adv->Option (AV×List Prop)
 |.test r=>match xquiet cx F o with
  |some ⟨.one,[[.val (.bool b)]]⟩=>some (.bool r,[b=r])
  |_=>none
 |.row row=>match o.op with
  |.indexAddr t x i=>match cx.P.underlying t,(F.ev x).cell,asInt (F.ev i)with
   |some (.slice elem),some (.imm rows),some n=>match qQ cx.P elem with
    |some sz=>some (.c (.cptr row 0),[0<=n/\rows[n.toNat]? = some row/\row.length=sz])
    |none=>none
   |_,_,_=>none
  |_=>none
 |.bnd=>match o.op with
  |.indexAddr t x i=>match cx.P.underlying t,(F.ev x).cell,asInt (F.ev i)with
   |some (.slice elem),some (.ref p),some n=>match F.get p,qQ cx.P elem with
    |some (.own zz rows),some sz=>if zz=sz then some (.c (.ptr ⟨p.toKey,n.toNat,0⟩),[0<=n/\n<rows.length])else none
    |_,_=>none
   |_,_,_=>none
  |_=>none
 |.ld row=>match o.op with
  |.load t a=>match (F.ev a).cell,qQ cx.P t,zW cx.P t with
   | some (.ptr p),some n,some g=>if p.key.heap&&decide (p.o+n<=row.length)then match F.rowsAt p.key,mkAV g (xA p.key p.r p.o ((row.drop p.o).take n))with
     |some rows,some v=>some (v,[rows[p.r]? = some row])
     |_,_=>none
    else none
   |_,_,_=>none
  |_=>none
 |.look r=>match o.op with
  |.lookup t x k ok=>match cx.P.underlying t,(F.ev x).cell,(F.ev k).con with
   |some (.map kt elem),some c,some kv=>match qwv F c with
    |some (_,es)=>match zW cx.P elem,qg0 cx.P elem with
     |some g,some z=>match (match r with|some l=>some l|none=>if Qs z.tag g then z.cells else none)with
      |some l=>if !ZK cx.P kt kv||g != (l.length != 1)then none
       else match (if ok then some ⟨.tup [g,false],[l,[.val (.bool r.isSome)]]⟩else mkAV g l)with
        |some v=>some (v,[yU cx.P kt kv es=some r])
        |none=>none
      |none=>none
     |_,_=>none
    |none=>none
   |_,_,_=>none
  |_=>none
 |.sidx c=>match o.op with
  |.index t x i=>match cx.P.underlying t,(F.ev x).con,asInt (F.ev i)with
   |some .string,some (.string s),some n=>some (.c (.val (.int .u8 c)),[0<=n/\Xp s n.toNat=some c])
   |_,_,_=>none
  |_=>none
 |.aix v=>match o.op with
  |.index t x i=>match cx.P.underlying t,(F.ev x).con,asInt (F.ev i)with
   |some (.array len el),some (.agg cs),some n=>if qQ cx.P el=some 1/\zW cx.P el=some false then some (yR v,[0<=n/\n<(len:Int)/\cs.toList[n.toNat]? = some v])else none
   |_,_,_=>none
  |_=>none
 |.qr=>match o.op with
  |.binOp .quo _ x y _=>match (F.ev x).con,(F.ev y).con with
   |some (.int k a),some (.int k' b)=>if k=k' then some (.c (.val (.int k (k.wrap (a.tdiv b)))),[b≠0])else none
   |_,_=>none
  |.binOp .rem _ x y _=>match (F.ev x).con,(F.ev y).con with
   |some (.int k a),some (.int k' b)=>if k=k' then some (.c (.val (.int k (a.tmod b))),[b≠0])else none
   |_,_=>none
  |.binOp .shl _ x y _=>match (F.ev x).con,(F.ev y).con with
   |some (.int k a),some (.int _ b)=>some (.c (.val (.int k (k.wrap (a*2 ^ (min b.toNat k.bits))))),[0<=b])
   |_,_=>none
  |.binOp .shr _ x y _=>match (F.ev x).con,(F.ev y).con with
   |some (.int k a),some (.int _ b)=>some (.c (.val (.int k (a.fdiv (2 ^ (min b.toNat k.bits))))),[0<=b])
   |_,_=>none
  |_=>none
 |.scat=>match o.op with
  |.binOp .add _ x y _=>match (F.ev x).con,(F.ev y).con with
   |some (.string s),some (.string r)=>some (.c (.val (.string (s++r))),[s.size+r.size<=1000000000])
   |_,_=>none
  |_=>none
 |_=>none
def tset (F:Fr)(p:Pl)(c:Cell):Option (Fr×Prop):=match F.rows p.key.root,F.rowsAt p.key with
 |some rows,some rs=>match updR (fun _=>some (setRow rs p.r p.o c)) rows p.key.path with
  |some rows'=>some (F.setRows p.key.root rows',∃ c0,cellAt rs p.r p.o=some c0)
  |none=>none
 |_,_=>none
def qf5 (F:Fr)(p:Pl):Nat->List Cell->Option (Fr×List Prop)
 |_,[]=>some (F,[])
 |j,c::l=>match tset (if qy c then F.kill { p with o:=p.o+j }else F) { p with o:=p.o+j } c with
  |some (F',q)=>match qf5 F' p (j+1) l with
   |some (F'',qs)=>some (F'',q::qs)
   |none=>none
  |none=>none
def qcb (i:TypeInfo)(zl:Bool)(rows more:List (List Cell))(p:Option Pl)(xc:Cell):Bool:=(rows.length+more.length)*i.bytes<=140737488355328&&rows.length+more.length<=lim&&0<i.size&&zl&&more.head?.all (·.length==i.size)&&qg3 p xc
def tappend (cx:Cx)(F:Fr)(d:Nat)(elem:TypeId)(i:TypeInfo)(rows:List (List Cell))(p:Option Pl)(xc:Cell)(e:Bool):Option (Fr×List Prop):=match takeC cx F xc with
 |some (c,F2)=>match QM c with
  |some more=>some (F2.putS (some d) (.c (if p.isNone&&e then .nil else .own i.size (rows++more))),[qcb i (XP cx.P elem).isSome rows more p xc=true/\(p.isNone=true->more.isEmpty=e)])
  |none=>none
 |none=>none
def Fr.dropS (F:Fr)(k:Nat):Fr:={ F with slots:=F.slots.set k .deadv }
def tloud (cx:Cx)(F:Fr)(o:Oper):Adv->Option (Fr×List Prop)
 |.st=>match o.op with
  |.store t a x=>match o.dst,(F.ev a).cell,qQ cx.P t,Qb cx F (F.ev x)with
   |none,some (.ptr p),some n,some (v,F')=>match v.cells with
    |some l=>if l.length=n&&(p.key.heap && !p.isM)&&(p.key.path.isEmpty||l.all qw)then qf5 F' p 0 l else none
    |none=>none
   |_,_,_,_=>none
  |_=>none
 |.okE e=>match o.op with
  |.call { callee:=.builtin .append,args,argTypes }=>match args.toList,argTypes.toList,o.dst with
   |[s,x],[t,t1],some d=>match cx.P.underlying t,srcU (cx.P.underlying t1),(F.ev s).cell,(F.ev x).cell with
    |some (.slice elem),some (.slice _),some .nil,some xc=>match cx.P.info? elem with
     |some i=>tappend cx F d elem i [] none xc e
     |none=>none
    |some (.slice elem),some (.slice _),some (.ref p),some xc=>match F.get p,cx.P.info? elem,F.set p .dead with
     |some (.own zz rows),some i,some F1=>if zz=i.size then tappend cx (F1.kill p) d elem i rows (some p) xc e else none
     |_,_,_=>none
    |_,_,_,_=>none
   |_,_,_=>none
  |_=>none
 |.okO rows0 e=>match o.op with
  |.call { callee:=.builtin .append,args,argTypes }=>match args.toList,argTypes.toList,o.dst with
   |[.tmp k,x],[t,t1],some d=>match cx.P.underlying t,srcU (cx.P.underlying t1),(F.ev (.tmp k)).cell,(F.ev x).cell with
    |some (.slice elem),some (.slice _),some (.ref p),some xc=>match F.rowsAt p.key,cx.P.info? elem,tset F p .dead with
     |some rs,some i,some (F1,_)=>match tappend cx ((F1.dropS k).kill p) d elem i rows0 (some p) xc e with
      |some (F2,ps)=>some (F2,(cellAt rs p.r p.o=some (.own i.size rows0))::(F1.slots[k]? = some (.c (.ref p)))::ps)
      |none=>none
     |_,_,_=>none
    |_,_,_,_=>none
   |_,_,_=>none
  |_=>none
 |.ok=>match o.op with
  |.makeSlice t l c=>match cx.P.underlying t,asInt (F.ev l),asInt (F.ev c)with
   |some (.slice elem),some n,some m=>match qQ cx.P elem,cx.P.info? elem,XP cx.P elem with
    |some sz,some i,some zl=>some (F.putS o.dst (.c (.own sz (List.replicate n.toNat zl))),[(0<=n&&n<=m&&m*i.bytes<=140737488355328&&m<=lim&&0<sz)=true])
    |_,_,_=>none
   |_,_,_=>none
  |.slice t x lo hi none=>match cx.P.underlying t with
   |some (.slice elem)=>match frzC F (((F.ev x).cell).getD .dead),qQ cx.P elem with
    |some (rows,F'),some sz=>
     match (match lo with|some y=>asInt (F.ev y)|none=>some 0),(match hi with|some y=>asInt (F.ev y)|none=>some (rows.length:Int))with
     |some l,some h=>some (F'.putS o.dst (.c (.imm ((rows.take h.toNat).drop l.toNat))),[0<=l/\l<=h/\h<=rows.length/\(rows.head?.all (·.length==sz))=true])
     |_,_=>none
    |_,_=>none
   |_=>none
  |_=>none
 |.ssl=>match o.op with
  |.slice t x lo hi none=>match cx.P.underlying t,(F.ev x).con,(match lo with|some y=>asInt (F.ev y)|none=>some 0)with
   |some .string,some (.string s),some l=>match (match hi with|some y=>asInt (F.ev y)|none=>some (s.size:Int))with
    |some h=>some (F.putS o.dst (.c (.val (.string (s.extract l.toNat h.toNat)))),[0<=l/\l<=h/\h<=(s.size:Int)])
    |none=>none
   |_,_,_=>none
  |_=>none
 |.put es'=>match o.op with
  |.mapUpdate t m k x=>match o.dst,cx.P.underlying t,(F.ev m).cell,(F.ev k).con,(F.ev x).cells with
   |none,some (.map kt _),some c,some kv,some l=>match qwv F c with
    | some (p,es)=>if ZK cx.P kt kv&&(match (F.ev x).tag with|.one=>l.length==1|_=>l.length != 1)&&l.all (fun c=>match c with|.val _|.nil|.imm _=>true|_=>false)then
      match F.set p (mapC c es')with
      |some F'=>some (F',[xL cx.P kt kv (qfz l) es=some es'])
      |none=>none
     else none
    |none=>none
   |_,_,_,_,_=>none
  |_=>none
 |_=>none
def Ev (P:Program)(hand:Nat->Nat->Bool)(f:Nat)(args:List AV)(bx:List (List Cell))(res:ARes)(bx':List (List Cell)):Prop:=
 (∃ fn,P.funcs[f]? = some fn/\fn.body.isSome=true/\(fn.name == "runtime.NumGoroutine")=false) /\
  ∀ G w (Vs:Array Value),RelF G w ⟨args,qd 0 bx⟩ Vs->Calls P f Vs w (Went G w res bx')
def qhn (v:AV):Bool:=v.rows.all fun (l:List Cell)=>l.all Xg
def Xw (E:Nat->List AV->List (List Cell)->ARes->List (List Cell)->Prop)(cx:Cx)(F:Fr)(dst:Option Nat)(f:Nat)(vs:List AV)(res:ARes)(bx':List (List Cell))(thaw:Bool):Option (Fr×List Prop×Option Value):=
 match yT cx f F 0 vs with
 |some (vs1,F1)=>match vg cx f F1 0 vs1 with
  |some (args,lent)=>
   let roots:=yl F1 3 (zm [] (args.flatMap fun v=>v.rows.flatMap fun l=>l.flatMap Xz))
   match mapO (renV (idxOf roots)) args,mapO (qbl F1 (idxOf roots)) roots with
   | some args',some bx=>match mapO (mapO (renC (yP roots))) bx' with
     |some bx''=>
      if lent.all (fun p=>!roots.contains p.key.root)&&bx'.length==roots.length&&bx''.map List.length==bx.map List.length&&nodupB roots then
       match zG F1 lent with
       |some Ff=>match res with
        |.panic v=>some (qu0 (yj Ff roots) roots bx'',[E f args' bx res bx'],some v)
        |.ret v=>match renV (yP roots) v with
         | some v'=>some ((qu0 (yj (if thaw then F1 else Ff) roots) roots bx'').putK dst v',
           E f args' bx res bx'::(if lent.isEmpty then []else if roots.isEmpty then [qhn v'=thaw]else [false=thaw]),none)
         |none=>none
       |none=>none
      else none
     |none=>none
   |_,_=>none
  |none=>none
 |none=>none
def qa9 (F:Fr)(c:Cell)(os:List (Nat×List (List Cell))):Option (Cell×List Pl×List (Nat×List (List Cell))×List Prop):=match c with
 |.ref p=>match os with
  |(zz,rows)::os=>match F.rowsAt p.key with
   |some rs=>some (.imm (qG rows),[p],os,[cellAt rs p.r p.o=some (.own zz rows)])
   |none=>none
  |[]=>none
 |.nil=>some (.imm [],[],os,[])
 |.dead=>none
 |.ptr q=>if q.key.path.isEmpty then some (.ptr q,[],os,[])else none
 |c=>some (c,[],os,[])
def qcd (F:Fr):List Cell->List (Nat×List (List Cell))->Option (List Cell×List Pl×List (Nat×List (List Cell))×List Prop)
 |[],os=>some ([],[],os,[])
 |c::l,os=>match qa9 F c os with
  |some (c',ps,os,qs)=>match qcd F l os with
   |some (l',ps',os,qs')=>some (c'::l',ps++ps',os,qs++qs')
   |none=>none
  |none=>none
def qe4 (F:Fr)(v:AV)(os:List (Nat×List (List Cell))):Option (AV×List Pl×List (Nat×List (List Cell))×List Prop):=
 match v.tag,v.rows with
 |.one,[[x]]=>match qa9 F x os with
  |some (c,ps,os,qs)=>some (.c c,ps,os,qs)
  |none=>none
 |.agg,[l]=>match qcd F l os with
  |some (l',ps,os,qs)=>some (.ag l',ps,os,qs)
  |none=>none
 |_,_=>none
def Zm (cx:Cx)(f:Nat)(F:Fr):Nat->List AV->List (Nat×List (List Cell))->Option (List AV×List Pl×List Prop)
 |_,[],_=>some ([],[],[])
 |j,v::rest,os=>if cx.hand f j then none else match qe4 F v os with
  |some (v',ps,os,qs)=>match Zm cx f F (j+1) rest os with
   |some (vs,ps',qs')=>some (v'::vs,ps++ps',qs++qs')
   |none=>none
  |none=>none
def qhN (cx:Cx)(F:Fr)(dst:Option Nat)(f:Nat)(vs:List AV)(v:AV)(os:List (Nat×List (List Cell))):Option (Fr×List Prop×Option Value):=
 match Zm cx f F 0 vs os with
 |some (args,lent,qs)=>
  match yl F 3 (zm [] (args.flatMap fun v=>v.rows.flatMap fun l=>l.flatMap Xz))with
  |[]=>match mapO (renV (idxOf [])) args,renV (yP []) v with
   |some args',some v'=>if v'.rows.all (fun (l:List Cell)=>l.all Xg)then some (F.putK dst v',Ev cx.P cx.hand f args' [] (.ret v) []::qs,none)else none
   |_,_=>none
  |_=>none
 |none=>none
def tmvL (F:Fr)(K:Key)(r:Nat):Nat->List Cell->Option (Fr×List Prop)
 |_,[]=>some (F,[])
 |o,c::l=>match F.rowsAt K with
  | some rs=>if qw c then
    (if qy c then(match tset F ⟨K,r,o⟩ .dead with
     |some (F1,_)=>match tmvL (F1.kill ⟨K,r,o⟩) K r (o+1) l with
      |some (F2,ps)=>some (F2,(cellAt rs r o=some c)::ps)
      |none=>none
     |none=>none)
    else match tmvL F K r (o+1) l with
     |some (F2,ps)=>some (F2,(cellAt rs r o=some c)::ps)
     |none=>none)
   else none
  |none=>none
def tmvop (cx:Cx)(F:Fr)(o:Oper)(l:List Cell):Option (Fr×List Prop):=match cx.mv with
 |[]=>none
 |ms=>match o.op,o.dst with
  |.load t a,some d=>if ms.contains d then(match (F.ev a).cell,qQ cx.P t,zW cx.P t with
   |some (.ptr p),some n,some g=>if (p.key.heap && !p.isM)&&decide (n=l.length)then(match tmvL F p.key p.r p.o l,mkAV g l with
    |some (F1,ps),some v=>some (F1.putS (some d) v,ps)
    |_,_=>none)else none
   |_,_,_=>none)else none
  |_,_=>none
def noMv (cx:Cx)(o:Oper):Bool:=match cx.mv with
 |[]=>true
 |ms=>match o.op,o.dst with
  |.load _ _,some d=>!ms.contains d
  |_,_=>true
def qhw (cx:Cx)(F:Fr)(dst:Option Nat)(f:Nat)(vs:List AV)(res:ARes)(bx':List (List Cell))(thaw:Bool):Option (Fr×List Prop×Option Value):=Xw (Ev cx.P cx.hand) cx F dst f vs res bx' thaw
def qey:Oracle:=fun _ _ _=>none
abbrev Hints:=List (Nat×List (List Cell))
def qxb:Hints->List (List Cell)->List (Nat×Nat)->Option (List (List Cell)×List Prop)
 |_,rows,[]=>some (rows,[])
 |(zz,rs)::hs,rows,(r,o)::π=>match qxb hs rs π with
  |some (x,ps)=>some (x,(cellAt rows r o=some (.own zz rs))::ps)
  |none=>none
 |[],_,_::_=>none
def qz6 (f:List (List Cell)->List (List Cell)):Hints->List (List Cell)->List (Nat×Nat)->Option (List (List Cell))
 |_,rows,[]=>some (f rows)
 |(zz,rs)::hs,rows,(r,o)::π=>match qz6 f hs rs π with
  |some rs'=>some (setRow rows r o (.own zz rs'))
  |none=>none
 |[],_,_::_=>none
def Fr.rowsT (F:Fr)(hs:Hints)(k:Key):Option (List (List Cell)×List Prop):=(F.rows k.root).bind (qxb hs · k.path)
def qA7 (F:Fr)(hs:Hints)(p:Pl)(c:Cell):Option (Fr×List Prop):=match F.rows p.key.root with
 |some rows=>match qxb hs rows p.key.path,qz6 (fun rs=>setRow rs p.r p.o c) hs rows p.key.path with
  |some (rs,ps),some rows'=>some (F.setRows p.key.root rows',(∃ c0,cellAt rs p.r p.o=some c0)::ps)
  |_,_=>none
 |none=>none
def qwN (cx:Cx)(F:Fr)(o:Oper)(hs:Hints):Adv->Option (AV×List Prop)
 |.row rows=>match o.op with
  |.indexAddr t x i=>match cx.P.underlying t,(F.ev x).cell,asInt (F.ev i)with
   |some (.slice elem),some (.ref p),some n=>match F.rowsT hs p.key,qQ cx.P elem with
    |some (rs,ps),some sz=>match rows with
     |[.own zz rows]=>if zz=sz then some (.c (.ptr ⟨p.toKey,n.toNat,0⟩),(0<=n/\n<rows.length)::(cellAt rs p.r p.o=some (.own zz rows))::ps)else none
     |_=>none
    |_,_=>none
   |_,_,_=>none
  |_=>none
 |.ld row=>match o.op with
  |.load t a=>match (F.ev a).cell,qQ cx.P t,zW cx.P t with
   | some (.ptr p),some n,some g=>if p.key.heap&&decide (p.o+n<=row.length)then match F.rowsT hs p.key,mkAV g (xA p.key p.r p.o ((row.drop p.o).take n))with
     |some (rows,ps),some v=>some (v,(rows[p.r]? = some row)::ps)
     |_,_=>none
    else none
   |_,_,_=>none
  |_=>none
 |_=>none
def qyA (cx:Cx)(F:Fr)(o:Oper)(hs:Hints):Adv->Option (Fr×List Prop)
 |.st=>match o.op with
  |.store t a x=>match o.dst,(F.ev a).cell,qQ cx.P t,Qb cx F (F.ev x)with
   |none,some (.ptr p),some n,some (v,F')=>match v.cells with
    |some [c]=>if [c].length=n&&(p.key.heap && !p.isM)&&(p.key.path.isEmpty||[c].all qw)then qA7 (if qy c then F'.kill { p with o:=p.o+0 }else F') hs { p with o:=p.o+0 } c else none
    |_=>none
   |_,_,_,_=>none
  |_=>none
 |.okO rows0 e=>match o.op with
  |.call { callee:=.builtin .append,args,argTypes }=>match args.toList,argTypes.toList,o.dst with
   |[.tmp k,x],[t,t1],some d=>match cx.P.underlying t,srcU (cx.P.underlying t1),(F.ev (.tmp k)).cell,(F.ev x).cell with
    |some (.slice elem),some (.slice _),some (.ref p),some xc=>match F.rowsT hs p.key,cx.P.info? elem,qA7 F hs p .dead with
     |some (rs,_),some i,some (F1,qs)=>match tappend cx ((F1.dropS k).kill p) d elem i rows0 (some p) xc e with
      |some (F2,ps)=>some (F2,(cellAt rs p.r p.o=some (.own i.size rows0))::(F1.slots[k]? = some (.c (.ref p)))::(qs++ps))
      |none=>none
     |_,_,_=>none
    |_,_,_,_=>none
   |_,_,_=>none
  |_=>none
 |_=>none
def taop (cx:Cx)(F:Fr)(o:Oper):Option Adv->Option (Fr×List Prop×Option Value)
 |none=>match xaop cx qey F o with
  |some (F',r)=>some (F',[],r)
  |none=>none
 |some (.call res bx thaw)=>match o.op with
  |.call { callee:=.value g,args,.. }=>match (F.ev g).cell with
   |some (.clo f first caps)=>qhw cx F o.dst f (first.map .c++args.toList.map F.ev++caps.map .c) res bx thaw
   |_=>none
  |_=>none
 |some (.callO v os)=>match o.op with
  |.call { callee:=.value g,args,.. }=>match (F.ev g).cell with
   |some (.clo f first caps)=>qhN cx F o.dst f (first.map .c++args.toList.map F.ev++caps.map .c) v os
   |_=>none
  |_=>none
 |some (.ldm l)=>match tmvop cx F o l with
  |some (F',ps)=>some (F',ps,none)
  |none=>none
 |some (.thru hs a)=>if !noMv cx o then none else match qwN cx F o hs a with
  |some (v,ps)=>some (F.putS o.dst v,ps,none)
  |none=>if (xquiet cx F o).isNone then(match qyA cx F o hs a with
   |some (F',ps)=>some (F',ps,none)
   |none=>none)else none
 |some a=>if !noMv cx o then none else match tquiet cx F o a with
  |some (v,ps)=>some (F.putS o.dst v,ps,none)
  |none=>if (xquiet cx F o).isNone then(match tloud cx F o a with
   |some (F',ps)=>some (F',ps,none)
   |none=>none)else none
def qh6 (o:Oper)(rest:List Oper):Option Adv->Bool
 |some (.call _ _ _)=>rest.all fun o'=>o'.dst != o.dst
 |some (.callO _ _)=>rest.all fun o'=>o'.dst != o.dst
 |_=>true
def Qe (d:Option Nat):Advs->Option Adv×Advs
 |(d',a)::l=>if d'=d then(some a,l)else(none,(d',a)::l)
 |[]=>(none,[])
def taops (cx:Cx)(ops:List Oper):List Oper->Fr->Advs->Option (Fr×Advs×List Prop×Option Value)
 |[],F,ad=>some (F,ad,[],none)
 |o::rest,F,ad=>match zi ops F o with
  |some true=>match Qe o.dst ad with
   |(a,ad')=>if qh6 o rest a then(match taop cx F o a with
    |some (F',ps,none)=>spF o.dst F' fun F'=>match taops cx ops rest F' ad' with
     |some (F'',ad'',qs,r)=>some (F'',ad'',ps++qs,r)
     |none=>none
    |some (F',ps,some v)=>some (F',ad',ps,some v)
    |none=>none)else none
  |some false=>spF o.dst (F.putS o.dst .undef) fun F'=>taops cx ops rest F' ad
  |none=>none
def tdop (cx:Cx)(ops:List Oper)(F:Fr)(o:Oper)(ad:Advs):Option (Fr×Info×Advs×List Prop):=match zi ops F o with
 |none=>none
 |some false=>some (F.put o.dst .undef,zJ F (F.put o.dst .undef) (dstR o) (xW ops o) false,ad,[])
 |some true=>match Qe o.dst ad with
  |(none,ad')=>match xquiet cx F o with
   |some v=>some (F.put o.dst v,zJ F (F.put o.dst v) (dstR o) (xW ops o++slotsOf o++(if Xl o.op then qR F o else [])) false,ad',[])
   | none=>if xG F (qC F o)then match xaop cx qey (F.part (qC F o) (readsOf o)) o with
     |some (F1,none)=>some (F.merge F1 (qC F o),zJ F (F.merge F1 (qC F o)) (qC F o) (xW ops o++slotsOf o) true,ad',[])
     |_=>none
    else none
  |(some a,ad')=>match tquiet cx F o a with
   |some (v,ps)=>some (F.put o.dst v,zJ F (F.put o.dst v) (dstR o) (xW ops o++slotsOf o++(if Xl o.op then qR F o else [])) false,ad',ps)
   | none=>if (xquiet cx F o).isNone&&xG F (qC F o)then match taop cx (F.part (qC F o) (readsOf o)) o (some a)with
     |some (F1,ps,none)=>some (F.merge F1 (qC F o),zJ F (F.merge F1 (qC F o)) (qC F o) (xW ops o++slotsOf o) true,ad',ps)
     |_=>none
    else none
def tdrun (cx:Cx)(ops:List Oper):List Oper->Fr->Advs->Option (Fr×List Info×Advs×List Prop)
 |[],F,ad=>some (F,[],ad,[])
 |o::rest,F,ad=>if !qh6 o rest (Qe o.dst ad).1 then none else match tdop cx ops F o ad with
  |some (F1,i,ad1,ps)=>spF o.dst F1 fun F1=>qgQ i fun i=>match tdrun cx ops rest F1 ad1 with
   |some (F2,is,ad2,qs)=>some (F2,i::is,ad2,ps++qs)
   |none=>none
  |none=>none
def qeJ (cx:Cx)(ops:List Oper)(F:Fr)(p q:Nat)(ad:Advs):Option (Fr×Advs×List Prop):=match tdrun cx ops (xy ops (Ye p q ops.length)) F ad with
 |some (F2,is2,ad',qs)=>match tdrun cx ops ops F ad' with
  |some (F1,is,ad'',ps)=>
   if vP p q 0 ops&&(vw 0 ops&&decide (p<q)&&decide (q<ops.length)&&qcl (befL ops []) p q [] ((List.range ops.length).zip is)&&qcl (befL ops []) q p [] ((Ye p q ops.length).zip is2))then
    some (F1,ad'',(F2=F1)::(qs++ps))else none
  |none=>none
 |none=>none
def tadraw (cx:Cx)(ops:List Oper)(F:Fr)(ad:Advs):Option (Fr×Advs×List Prop):=match ad with
 |(_,.alt p q)::ad=>qeJ cx ops F p q ad
 |ad=>match tdrun cx ops ops F ad with
  |some (F',is,ad',ps)=>if vw 0 ops&&vS (befL ops []) is 0 is then some (F',ad',ps)else none
  |none=>none
def qel (cx:Cx)(ops:List Oper)(F:Fr)(q nb:Nat)(ad:Advs):Option (Value×List (List Cell)×List Prop):=match tdrun cx ops (xy ops (XB (befL ops []) q ops.length)) F ad with
 |some (F1,is,[(_,.call (.panic v) bx _)],ps)=>match ops[q]? with
  |some o=>match o.op with
   |.call { callee:=.value g,args,.. }=>match zi ops F1 o,((F1.part (qC F1 o) (readsOf o)).ev g).cell with
    |some true,some (.clo f first caps)=>match qhw cx (F1.part (qC F1 o) (readsOf o)) o.dst f (first.map .c++args.toList.map (F1.part (qC F1 o) (readsOf o)).ev++caps.map .c) (.panic v) bx false with
     |some (F2,qs,some _)=>qdU (F1.merge (F2.putK o.dst (.c (.imm []))) (qC F1 o)) fun F3=>match zD F3 nb with
      | some b=>if (xG F1 (qC F1 o)&&qcw F3.boxes)&&qdJ o q 0 ops&&(vw 0 ops&&qcl (befL ops []) 0 ops.length [] ((XB (befL ops []) q ops.length++[q]).zip (is++[zJ F1 F3 (qC F1 o) (xW ops o++slotsOf o) true])) &&
        qis (befL ops []) q ((XB (befL ops []) q ops.length).zip is))then some (v,b,ps++qs)else none
      |none=>none
     |_=>none
    |_,_=>none
   |_=>none
  |none=>none
 |_=>none
inductive TItem where
 |code (c:Code)
 |inBlock (id:Nat)
 |inLoop (b:Code)
inductive TStop where
 |at (K:List TItem) (F:Fr)
 |fin (res:ARes) (bx:List (List Cell))
def YX (id:Nat):List TItem->Option (List TItem)
 |[]=>none
 |.inBlock id'::K=>if id'=id then some K else YX id K
 |_::K=>YX id K
def tfin (P:Program)(fn:Func)(nb:Nat)(F:Fr):Option TStop:=match QS P F fn.results.toList with
 |some (vs,F')=>match qjr vs,zD F' nb with
  |some v,some bx'=>some (.fin (.ret v) bx')
  |_,_=>none
 |none=>none
def qf3 (ps:List Prop):Option (TStop×List Prop)->Option (TStop×List Prop)
 |some (s,qs)=>some (s,ps++qs)
 |none=>none
def mgo (cx:Cx)(fn:Func)(nb:Nat):Nat->List TItem->Fr->Advs->Option (TStop×List Prop)
 |0,K,F,ad=>match ad with
  |[]=>some (.at K F,[])
  |_=>none
 |n+1,K,F,ad=>match K with
  |[]=>match ad with
   |[]=>match tfin cx.P fn nb F with
    |some s=>some (s,[])
    |none=>none
   |_=>none
  |.inLoop b::K=>match qfB b with
   |[]=>mgo cx fn nb n (.code b :: .inLoop b::K) F ad
   |ls=>qdU (F.norm [] ls) fun F=>mgo cx fn nb n (.code b :: .inLoop b::K) F ad
  |.inBlock _::K=>mgo cx fn nb n K F ad
  |.code c::K=>match c with
   |.skip=>mgo cx fn nb n K F ad
   | .region _ ops draw=>if draw then(match ad with
     |(_,.pan q)::ad=>(match qel cx ops.toList F q nb ad with
      |some (v,bx',ps)=>some (.fin (.panic v) bx',ps)
      |none=>none)
     |ad=>(match tadraw cx ops.toList F ad with
      |some (F',ad',ps)=>qf3 ps (mgo cx fn nb n K F' ad')
      |none=>none))
    else match taops cx ops.toList ops.toList F ad with
     |some (F',ad',ps,none)=>qf3 ps (mgo cx fn nb n K F' ad')
     |some (F',[],ps,some v)=>match zD F' nb with
      |some bx'=>some (.fin (.panic v) bx',ps)
      |none=>none
     |_=>none
   |.seq a b=>mgo cx fn nb n (.code a :: .code b::K) F ad
   |.cond c a b=>match (F.ev c).con with
    |some (.bool true)=>mgo cx fn nb n (.code a::K) F ad
    |some (.bool false)=>mgo cx fn nb n (.code b::K) F ad
    |_=>none
   |.block id b=>mgo cx fn nb n (.code b :: .inBlock id::K) F ad
   |.loop b=>mgo cx fn nb n (.inLoop b::K) F ad
   |.exit id=>match YX id K with
    |some K'=>mgo cx fn nb n K' F ad
    |none=>none
   |.ret=>match ad with
    |[]=>match tfin cx.P fn nb F with
     |some s=>some (s,[])
     |none=>none
    |_=>none
   |_=>none
end
section
variable [Glob]
theorem ze {α:Type}{C}[Decidable C]{X}{y:α}(h:(if C then X else none)=some y):C/\X=some y:=by
 by_cases hc:C
 . rw[aF hc]at h;exact⟨hc,h⟩
 . rw[aG hc]at h;cases h
theorem qdv {cx F o r}(rec)(e:aop cx qey F o=some r):aop cx rec F o=some r:=by
 unfold aop at *;cases hm:mvop cx F o with
 |some F1=>rw[hm]at e;exact e
 |none=>
 rw[hm]at e;simp only at *;unfold aop0 at *;cases hq:quiet cx F o with
 |some v=>rw[hq]at e;exact e
 |none=>
  rw[hq]at e;simp only at *;cases hl:loud cx F o with
  |some F1=>rw[hl]at e;exact e
  |none=>
   rw[hl]at e;simp only at *;split at e
   . exact e
   . split at e
     . obtain⟨_,_,_,h⟩:=qft e;cases h
     . cases e
   . cases e
theorem qkV {cx o}(h:noMv cx o=true)(F):mvop cx F o=none:=by
 unfold noMv at h;unfold mvop;split at h
 . rename_i hm;rw[hm]
 .
  split
  . rfl
  . split
    . rename_i t a d hop hd;rw[hop,hd]at h;simp only[Bool.not_eq_true']at h;rw[aG (by rw[h];simp)]
    . rfl
theorem QQ {cx F o a v ps}(e:tquiet cx F o a=some (v,ps))(hp:∀ p∈ps,p):quiet cx F o=some v:=by
 cases a with
 |test r=>
  simp only[tquiet,XZ]at e;split at e
  . rename_i b hq;simp only[aa,ai]at e;obtain⟨rfl,rfl⟩:=e;have:b=r:=hp _ (by simp);subst this;exact hq
  . cases e
 |row row=>
  obtain⟨dst,op,ty,pos,after,guard⟩:=o;simp only[tquiet]at e;split at e
  .
   rename_i t x i;split at e
   . rename_i elem rows n hu hc hn;split at e
     . rename_i sz hs;simp only[aa,ai]at e;obtain⟨rfl,rfl⟩:=e;obtain⟨h1,h2,h3⟩:=hp _ au;simp only[quiet,hu,hc,hn,hs,h2,h3,h1,decide_true,beq_self_eq_true,Bool.and_self,if_true]
     . cases e
   . cases e
  . cases e
 |bnd=>
  obtain⟨dst,op,ty,pos,after,guard⟩:=o;simp only[tquiet]at e;split at e
  .
   rename_i t x i;split at e
   .
    rename_i elem p n hu hc hn;split at e
    . rename_i zz rows sz hg hs;split at e
      . rename_i hz;simp only[aa,ai]at e;obtain⟨rfl,rfl⟩:=e;obtain⟨h1,h2⟩:=hp _ au;simp only[quiet,hu,hc,hn,hs,hg,h1,h2,hz,decide_true,beq_self_eq_true,Bool.and_self,if_true]
      . cases e
    . cases e
   . cases e
  . cases e
 |ld row=>
  obtain⟨dst,op,ty,pos,after,guard⟩:=o;simp only[tquiet]at e;split at e
  .
   rename_i t a;split at e
   .
    rename_i p n g hc hs hg;split at e
    . rename_i hcond;simp only[aD,aY]at hcond;split at e
      . rename_i rows v' hr hm;simp only[aa,ai]at e;obtain⟨rfl,rfl⟩:=e;have h1:=hp _ au;simp only[quiet,hc,hs,hg,Fr.loadL,hcond.1,aj,aU,if_false,hr,h1,hcond.2,if_true,ae];exact hm
      . cases e
    . cases e
   . cases e
  . cases e
 |look r=>
  obtain⟨dst,op,ty,pos,after,guard⟩:=o;simp only[tquiet]at e;split at e
  .
   rename_i t x k ok;split at e
   .
    rename_i kt elem p kv hu hc hk;split at e
    .
     rename_i es hg;split at e
     .
      rename_i g z hgg hz;split at e
      .
       rename_i l hl;split at e
       . cases e
       . rename_i hcond;split at e
         . rename_i v' hv;simp only[aa,ai]at e;obtain⟨rfl,rfl⟩:=e;have h1:=hp _ au;simp only[quiet,hu,hc,hk,hg,hgg,hz,h1];cases r with
           |none=>simp only at hl |-;rw[hl];simp only;rw[aG hcond];exact hv
           |some l0=>simp only[aa]at hl;subst hl;simp only;rw[aG hcond];exact hv
         . cases e
      . cases e
     . cases e
    . cases e
   . cases e
  . cases e
 |sidx b=>
  obtain⟨dst,op,ty,pos,after,guard⟩:=o;simp only[tquiet]at e;split at e
  . rename_i t x i;split at e
    . rename_i s n hu hx hi;simp only[aa,ai]at e;obtain⟨rfl,rfl⟩:=e;obtain⟨h1,h2⟩:=hp _ au;unfold Xp at h2;rw[aH]at h2;obtain⟨b',h3,rfl⟩:=h2;exact qhh hu hx hi h1 h3
    . cases e
  . cases e
 |aix b=>
  obtain⟨dst,op,ty,pos,after,guard⟩:=o;simp only[tquiet]at e;split at e
  .
   rename_i t x i;split at e
   . rename_i len el cs n hu hx hi;split at e
     . rename_i hz;simp only[aa,ai]at e;obtain⟨rfl,rfl⟩:=e;obtain⟨h1,h2,h3⟩:=hp _ au;exact qlm hu hz.1 hz.2 hx hi h1 h2 h3
     . cases e
   . cases e
  . cases e
 |qr=>
  obtain⟨dst,op,ty,pos,after,guard⟩:=o;simp only[tquiet]at e;split at e
  .
   rename_i t x y u;split at e
   . rename_i k a k' b hx hy;split at e
     . rename_i hk;subst hk;simp only[aa,ai]at e;obtain⟨rfl,rfl⟩:=e;have h1:=hp _ au;have:=qhd (cx:=cx) (dst:=dst) (t:=t) (u:=u) (ty:=ty) (pos:=pos) (after:=after) (g:=guard) (op:=.quo) (.inl ⟨rfl,rfl⟩) hx hy h1;simp only[quiet,hx,hy];exact this
     . cases e
   . cases e
  .
   rename_i t x y u;split at e
   . rename_i k a k' b hx hy;split at e
     . rename_i hk;subst hk;simp only[aa,ai]at e;obtain⟨rfl,rfl⟩:=e;have h1:=hp _ au;have:=qhd (cx:=cx) (dst:=dst) (t:=t) (u:=u) (ty:=ty) (pos:=pos) (after:=after) (g:=guard) (op:=.rem) (.inr ⟨rfl,rfl⟩) hx hy h1;simp only[quiet,hx,hy];exact this
     . cases e
   . cases e
  . rename_i t x y u;split at e
    . rename_i k a k' b hx hy;simp only[aa,ai]at e;obtain⟨rfl,rfl⟩:=e;have h1:=hp _ au;have:=qkx (cx:=cx) (dst:=dst) (t:=t) (u:=u) (ty:=ty) (pos:=pos) (after:=after) (g:=guard) (op:=.shl) (.inl ⟨rfl,rfl⟩) hx hy h1;simp only[quiet,hx,hy];exact this
    . cases e
  . rename_i t x y u;split at e
    . rename_i k a k' b hx hy;simp only[aa,ai]at e;obtain⟨rfl,rfl⟩:=e;have h1:=hp _ au;have:=qkx (cx:=cx) (dst:=dst) (t:=t) (u:=u) (ty:=ty) (pos:=pos) (after:=after) (g:=guard) (op:=.shr) (.inr ⟨rfl,rfl⟩) hx hy h1;simp only[quiet,hx,hy];exact this
    . cases e
  . cases e
 |scat=>
  obtain⟨dst,op,ty,pos,after,guard⟩:=o;simp only[tquiet]at e;split at e
  . rename_i t x y u;split at e
    . rename_i s r hx hy;simp only[aa,ai]at e;obtain⟨rfl,rfl⟩:=e;have h1:=hp _ au;have:=qkS (cx:=cx) (dst:=dst) (t:=t) (u:=u) (ty:=ty) (pos:=pos) (after:=after) (g:=guard) hx hy h1;simp only[quiet,hx,hy];exact this
    . cases e
  . cases e
 |_=>simp[tquiet]at e
theorem qb3 {f g}:∀ {π:List (Nat×Nat)} {rows rs:List (List Cell)},getR rows π=some rs->f rs=g rs->updR f rows π=updR g rows π
 |[],rows,rs,h,e=>by simp only[getR,aa]at h;subst h;exact e
 |(r,o)::π,rows,rs,h,e=>by
  simp only[getR]at h;simp only[updR];split at h
  . rename_i rows' hc;rw[qb3 h e]
  . cases h
theorem Qx {F F' p c q}(e:tset F p c=some (F',q))(hq:q):F.set p c=some F':=by
 unfold tset at e;split at e
 .
  rename_i rows rs hr hrs;split at e
  . rename_i rows' hu;simp only[aa,ai]at e;obtain⟨rfl,rfl⟩:=e;unfold Fr.set;rw[hr];simp only;have hg:getR rows p.key.path=some rs:=by unfold Fr.rowsAt at hrs;rw[hr]at hrs;exact hrs
    obtain⟨c0,hc0⟩:=hq;rw[qb3 (g:=fun _=>some (setRow rs p.r p.o c)) hg (by simp only[putAt,hc0]),hu]
  . cases e
 . cases e
theorem qbg {p}:∀ {l:List Cell} {j:Nat} {F F':Fr} {ps:List Prop},qf5 F p j l=some (F',ps)->(∀ q∈ps,q)->F.setL p j l=some F'
 |[],j,F,F',ps,e,_=>by simp only[qf5,aa,ai]at e;obtain⟨rfl,_⟩:=e;rfl
 |c::l,j,F,F',ps,e,hp=>by
  simp only[qf5]at e;cases h1:tset (if qy c then F.kill { p with o:=p.o+j }else F) { p with o:=p.o+j } c with
  |none=>simp[h1]at e
  |some y=>
   obtain⟨F1,q⟩:=y;simp only[h1]at e;cases h2:qf5 F1 p (j+1) l with
   |none=>simp[h2]at e
   |some z=>obtain⟨F2,qs⟩:=z;simp only[h2,aa,ai]at e;obtain⟨rfl,rfl⟩:=e;simp only[Fr.setL,Qx h1 (hp q au)];exact qbg h2 (fun x hx=>hp x (aB _ hx))
theorem Za {cx F F' d elem i rows p xc e0 ps}(e:tappend cx F d elem i rows p xc e0=some (F',ps))(hp:∀ q∈ps,q):Yo cx F d elem i rows p xc=some F':=by
 unfold tappend at e;unfold Yo;split at e
 .
  rename_i c F2 ht;rw[ht];simp only;split at e
  . rename_i more hm;simp only[aa,ai]at e;obtain⟨rfl,rfl⟩:=e;rw[hm];simp only;obtain⟨h1,h2⟩:=hp _ au;unfold qcb at h1;rw[aF h1];cases p with
    |none=>rw[h2 rfl]
    |some p=>rfl
  . cases e
 . cases e
theorem Qr {K r}:∀ {l:List Cell} {o:Nat} {F F':Fr} {ps:List Prop},tmvL F K r o l=some (F',ps)->(∀ q∈ps,q)->mvL F K r o l.length=some (l,F')
 |[],o,F,F',ps,e,_=>by simp only[tmvL,aa,ai]at e;obtain⟨rfl,_⟩:=e;rfl
 |c::l,o,F,F',ps,e,hp=>by
  simp only[tmvL]at e;cases hr:F.rowsAt K with
  |none=>simp[hr]at e
  |some rs=>
   simp only[hr]at e;obtain⟨hpu,e⟩:=ze e;by_cases ho:qy c=true
   .
    rw[aF ho]at e;cases h1:tset F ⟨K,r,o⟩ .dead with
    |none=>simp[h1]at e
    |some y=>
     obtain⟨F1,q⟩:=y;simp only[h1]at e;cases h2:tmvL (F1.kill ⟨K,r,o⟩) K r (o+1) l with
     |none=>simp[h2]at e
     |some z=>
      obtain⟨F2,qs⟩:=z;simp only[h2,aa,ai]at e;obtain⟨rfl,rfl⟩:=e;have hc:=hp _ au;have hg:F.get ⟨K,r,o⟩=some c:=by unfold Fr.get;simp only[hr,ae,hc]
      have hq:q:=by
       unfold tset at h1;split at h1
       . rename_i rr rs' hrr hrs;split at h1
         . simp only[aa,ai]at h1;obtain⟨_,rfl⟩:=h1;simp only at hrs;rw[hr]at hrs;cases hrs;exact⟨_,hc⟩
         . cases h1
       . cases h1
      have hs:=Qx h1 hq;simp only[List.length_cons,mvL,mvC,hg,hpu,ho,if_true,hs,av,Qr h2 (fun q hq=>hp q (aB _ hq))]
   .
    rw[aG ho]at e;cases h2:tmvL F K r (o+1) l with
    |none=>simp[h2]at e
    |some z=>
     obtain⟨F2,qs⟩:=z;simp only[h2,aa,ai]at e;obtain⟨rfl,rfl⟩:=e;have hc:=hp _ au;have hg:F.get ⟨K,r,o⟩=some c:=by unfold Fr.get;simp only[hr,ae,hc]
     simp only[List.length_cons,mvL,mvC,hg,hpu,if_true,aG ho,Qr h2 (fun q hq=>hp q (aB _ hq))]
theorem qeQ {cx F F' o l ps}(e:tmvop cx F o l=some (F',ps))(hp:∀ q∈ps,q):mvop cx F o=some F':=by
 unfold tmvop at e;unfold mvop;split at e
 . cases e
 .
  rename_i ms hms;split
  . rename_i h0;exact absurd h0 hms
  split at e
  .
   rename_i t x d hop hd;rw[hop,hd]
   try simp only
   obtain⟨hc,e⟩:=ze e;rw[aF hc];split at e
   .
    rename_i p n g h1 h2 h3;rw[h1,h2,h3]
    try simp only
    have hx:=ze e;clear e;obtain⟨hc2,e⟩:=hx;simp only[aD,aY]at hc2;obtain⟨hh,rfl⟩:=hc2;rw[aG (by simp[hh])];cases h4:tmvL F p.key p.r p.o l with
    |none=>simp[h4]at e
    |some y=>
     obtain⟨F1,qs⟩:=y;cases h5:mkAV g l with
     |none=>simp[h4,h5]at e
     |some v=>simp only[h4,h5,aa,ai]at e;obtain⟨rfl,rfl⟩:=e;rw[Qr h4 hp];show(mkAV g l).map _=_;rw[h5];rfl
   . cases e
  . cases e
theorem qfZ {F:Fr}{k p}(h:F.slots[k]? = some (.c (.ref p))):(F.dropS k).kill p=F.kill p:=by
 have hu:under p p.toKey=true:=by simp[under,Pl.toKey]
 have e1:(AV.c (.ref p)).mapC (vI p)=.deadv:=by simp[AV.mapC,AV.c,AV.deadv,vI,hu]
 have e2:AV.deadv.mapC (vI p)=.deadv:=by simp[AV.mapC,AV.c,AV.deadv,vI]
 have e3:(F.slots.set k .deadv).map (·.mapC (vI p))=F.slots.map (·.mapC (vI p)):=by
  apply List.ext_getElem?;intro j;rw[aI,aI,List.getElem?_set];by_cases hj:k=j
  . subst hj;have hlt:=(az.1 h).1;rw[aF rfl,aF hlt,h];simp only[av,e1,e2]
  . rw[aG hj]
 simp only[Fr.dropS,Fr.kill,Fr.mapC,e3]
theorem qer {cx F F' o a ps}(e:tloud cx F o a=some (F',ps))(hp:∀ p∈ps,p):loud cx F o=some F':=by
 obtain⟨dst,op,ty,pos,after,guard⟩:=o;cases a with
 |st=>
  simp only[tloud]at e;split at e
  .
   rename_i t x y;unfold loud;simp only at e |-;split at e
   .
    rename_i p n v F1 hd hs ht;rw[hd,hs,ht];simp only;split at e
    . rename_i l hl;rw[hl];simp only;split at e
      . rename_i hc;rw[aF hc];exact qbg e hp
      . cases e
    . cases e
   . cases e
  . cases e
 |okE e0=>
  simp only[tloud]at e;split at e
  .
   rename_i args argTypes;unfold loud;simp only at e |-;split at e
   .
    rename_i s x t t1 d h1 h2;rw[h1,h2];simp only;split at e
    . rename_i elem xc xt a1 a2 a3 a4;rw[a1,a2,a3,a4];simp only;split at e
      . rename_i i hi;rw[hi];exact Za e hp
      . cases e
    .
     rename_i elem p xc xt a1 a2 a3 a4;rw[a1,a2,a3,a4];simp only;split at e
     . rename_i zz rows i F1 b1 b2 b3;rw[b1,b2,b3];simp only;split at e
       . rename_i hz;rw[aF hz];exact Za e hp
       . cases e
     . cases e
    . cases e
   . cases e
  . cases e
 |okO rows0 e0=>
  simp only[tloud]at e;split at e
  .
   rename_i args argTypes;unfold loud;simp only at e |-;split at e
   .
    rename_i s x t t1 d h1 h2;rw[h1,h2];simp only;split at e
    .
     rename_i elem et p xc a1 a2 a3 a4;rw[a1,a2,a3,a4];simp only;split at e
     .
      rename_i rs i F1 q b1 b2 b3;split at e
      .
       rename_i F2 qs b4;simp only[aa,ai]at e;obtain⟨rfl,rfl⟩:=e;have hc:=hp _ au;have hk:=hp _ (aB _ au);rw[qfZ hk]at b4;have hg:F.get p=some (.own i.size rows0):=by unfold Fr.get;rw[b1];exact hc
       have hs:F.set p .dead=some F1:=by
        have hq:q:=by
         unfold tset at b3;split at b3
         . rename_i rr rs' hr hrs;split at b3
           . simp only[aa,ai]at b3;obtain⟨_,rfl⟩:=b3;rw[b1]at hrs;cases hrs;exact⟨_,hc⟩
           . cases b3
         . cases b3
        exact Qx b3 hq
       rw[hg,b2,hs];simp only[if_true];exact Za b4 (fun x hx=>hp x (aB _ (aB _ hx)))
      . cases e
     . cases e
    . cases e
   . cases e
  . cases e
 |ok=>
  simp only[tloud]at e;split at e
  .
   rename_i t l c;unfold loud;simp only at e |-;split at e
   . rename_i elem n m h1 h2 h3;rw[h1,h2,h3];simp only;split at e
     . rename_i sz i zl b1 b2 b3;rw[b1,b2,b3];simp only[aa,ai]at e |-;obtain⟨rfl,rfl⟩:=e;rw[aF (hp _ au)]
     . cases e
   . cases e
  .
   rename_i t x lo hi;unfold loud;simp only at e |-;split at e
   .
    rename_i elem hu;rw[hu];simp only;split at e
    .
     rename_i rows F1 sz h1 h2;rw[h1,h2];simp only;split at e
     .
      rename_i l h k1 k2;simp only[aa,ai]at e;obtain⟨rfl,rfl⟩:=e;have hc:=hp _ au;cases lo with
      |none=>
       simp only[aa]at k1;subst k1;cases hi with
       |none=>simp only[aa]at k2;subst k2;simp only;rw[aF hc]
       |some y=>simp only at k2;simp only[k2];rw[aF hc]
      |some x=>
       simp only at k1;cases hi with
       |none=>simp only[aa]at k2;subst k2;simp only[k1];rw[aF hc]
       |some y=>simp only at k2;simp only[k1,k2];rw[aF hc]
     . cases e
    . cases e
   . cases e
  . cases e
 |put es'=>
  simp only[tloud]at e;split at e
  .
   rename_i t m k x;unfold loud;simp only at e |-;split at e
   .
    rename_i kt elem p kv l h1 h2 h3 h4;rw[h1,h2,h3,h4];simp only;split at e
    . rename_i es hg;rw[hg];simp only;obtain⟨hc,e⟩:=ze e;refine(aF hc).trans ?_;split at e
      . rename_i F1 hs;simp only[aa,ai]at e;obtain⟨rfl,rfl⟩:=e;rw[hp _ au];exact hs
      . cases e
    . cases e
   . cases e
  . cases e
 |ssl=>
  simp only[tloud]at e;split at e
  .
   rename_i t x lo hi;split at e
   . rename_i s l hu hx hl;split at e
     . rename_i h hh;simp only[aa,ai]at e;obtain⟨rfl,rfl⟩:=e;have h1:=hp _ au;have:=qhf (cx:=cx) (dst:=dst) (ty:=ty) (pos:=pos) (after:=after) (g:=guard) hu hx hl hh h1;unfold loud;simp only[hu,this];rfl
     . cases e
   . cases e
  . cases e
 |_=>simp[tloud]at e
def vG (f:Nat)(args:List AV)(bx:List (List Cell))(res:ARes)(bx':List (List Cell)):Oracle:=fun f' args' bx1=>open Classical in if f'=f/\args'=args/\bx1=bx then some (res,bx')else none
theorem xP {P hand f args bx res bx'}(h:Ev P hand f args bx res bx'):
  RecSound P (vG f args bx res bx')/\ZA P (vG f args bx res bx'):=by
 constructor
 .
  intro f1 args1 bx1 res1 bx1' e;unfold vG at e;split at e
  . rename_i hc;obtain⟨rfl,rfl,rfl⟩:=hc;simp only[aa,ai]at e;obtain⟨rfl,rfl⟩:=e;exact h.2
  . cases e
 .
  intro f1 args1 bx1 r e;unfold vG at e;split at e
  . rename_i hc;obtain⟨rfl,rfl,rfl⟩:=hc;exact h.1
  . cases e
theorem Xk (f args bx res)(bx'):vG f args bx res bx' f args bx=some (res,bx'):=by unfold vG;rw[aF ⟨rfl,rfl,rfl⟩]
def qcG (P:Program)(rec:Oracle):Prop:=RecSound P rec/\ZA P rec
theorem qcT (P):qcG P qey:=⟨fun _ _ _ _ _ e=>(by cases e),fun _ _ _ _ e=>(by cases e)⟩
theorem xV {E cx F F' dst f vs res bx' thaw ps r}(e:Xw E cx F dst f vs res bx' thaw=some (F',ps,r))(hp:∀ p∈ps,p):∃ args' bx,E f args' bx res bx'/\vZ cx (vG f args' bx res bx') F dst f vs=some (F',r):=by
 unfold Xw at e;split at e
 .
  rename_i vs1 F1 h1;split at e
  .
   rename_i args lent h2;simp only at e;split at e
   .
    rename_i args' bx h3 h4;split at e
    .
     rename_i bx'' h5;split at e
     .
      rename_i hc;split at e
      .
       rename_i Ff h6;split at e
       . rename_i v;simp only[aa,ai]at e;obtain⟨rfl,rfl,rfl⟩:=e;have he:E f args' bx (.panic v) bx':=hp _ au;refine⟨_,_,he,?_⟩;unfold vZ;rw[h1];simp only;rw[h2];simp only;rw[h3,h4];simp only;rw[Xk];simp only;rw[h5];simp only;rw[aF hc,h6]
       .
        rename_i v;split at e
        .
         rename_i v' h7;simp only[aa,ai]at e;obtain⟨rfl,rfl,rfl⟩:=e;have he:E f args' bx (.ret v) bx':=hp _ au;have ht:(if ((yl F1 3 (zm [] (args.flatMap fun v=>v.rows.flatMap fun l=>l.flatMap Xz))).isEmpty&&v'.rows.all (fun (l:List Cell)=>l.all Xg))=true then F1 else Ff)=if thaw then F1 else Ff:=by
          by_cases hl:lent=[]
          . subst hl;simp only[zG,aa]at h6;subst h6;simp
          . have hl':lent.isEmpty=false:=by cases lent<;>simp_all
            rw[hl']at hp;by_cases hr:(yl F1 3 (zm [] (args.flatMap fun v=>v.rows.flatMap fun l=>l.flatMap Xz))).isEmpty=true
            . rw[hr]at hp |-;have:qhn v'=thaw:=hp _ (by simp);show(if (true&&qhn v')=true then F1 else Ff)=_;rw[Bool.true_and,this]
            . have hr':(yl F1 3 (zm [] (args.flatMap fun v=>v.rows.flatMap fun l=>l.flatMap Xz))).isEmpty=false:=by simpa using hr
              rw[hr']at hp |-;have:false=thaw:=hp _ (by simp);rw[<- this];simp
         refine⟨_,_,he,?_⟩;unfold vZ;rw[h1];simp only;rw[h2];simp only;rw[h3,h4];simp only;rw[Xk];simp only;rw[h5];simp only;rw[aF hc,h6];simp only;rw[h7];simp only;rw[ht]
        . cases e
      . cases e
     . cases e
    . cases e
   . cases e
  . cases e
 . cases e
theorem qdO {cx F F' dst f vs res bx' thaw ps r}(e:qhw cx F dst f vs res bx' thaw=some (F',ps,r))(hp:∀ p∈ps,p):∃ rec,qcG cx.P rec/\vZ cx rec F dst f vs=some (F',r):=by obtain⟨args',bx,he,hc⟩:=xV e hp;exact⟨_,xP he,hc⟩
theorem xZ:∀ (ps:List Pl) (F:Fr),∃ Ff,zG F ps=some Ff
 |[],F=>⟨F,rfl⟩
 |p::ps,F=>by
  simp only[zG];split
  . rename_i zz rows hg;obtain⟨F1,h1⟩:=Fr.set_of_get hg (.imm (qG rows));rw[h1];exact xZ ps F1
  . exact xZ ps F
theorem qae {F c c' os os' ps qs}(e:qa9 F c os=some (c',ps,os',qs))(hq:∀ q∈qs,q):Yb F c=some (c',ps):=by
 cases c with
 |ref p=>
  simp only[qa9]at e;split at e
  .
   split at e
   . rename_i zz rows os1 _ rs hrs;simp only[aa,ai]at e;obtain⟨rfl,rfl,rfl,rfl⟩:=e;have hc:=hq _ au;have hg:F.get p=some (.own zz rows):=by unfold Fr.get;simp only[hrs,ae,hc]
     simp only[Yb,hg]
   . cases e
  . cases e
 |ptr q=>simp only[qa9]at e;obtain⟨hc,e⟩:=ze e;simp only[aa,ai]at e;obtain⟨rfl,rfl,_⟩:=e;simp only[Yb,hc,if_true]
 |dead=>cases e
 |_=>simp only[qa9,aa,ai]at e;obtain⟨rfl,rfl,_⟩:=e;rfl
theorem qwS {F}:∀ {l l':List Cell} {os os':List (Nat×List (List Cell))} {ps:List Pl} {qs:List Prop},qcd F l os=some (l',ps,os',qs)->(∀ q∈qs,q)->qci F l=some (l',ps)
 |[],l',os,os',ps,qs,e,_=>by simp only[qcd,aa,ai]at e;obtain⟨rfl,rfl,_⟩:=e;rfl
 |c::l,l',os,os',ps,qs,e,hq=>by
  simp only[qcd]at e;cases h1:qa9 F c os with
  |none=>simp[h1]at e
  |some y=>
   obtain⟨c1,p1,o1,q1⟩:=y;simp only[h1]at e;cases h2:qcd F l o1 with
   |none=>simp[h2]at e
   |some z=>obtain⟨l2,p2,o2,q2⟩:=z;simp only[h2,aa,ai]at e;obtain⟨rfl,rfl,rfl,rfl⟩:=e;simp only[qci,qae h1 (fun q hm=>hq q (aM _ hm)),qwS h2 (fun q hm=>hq q (aT _ hm))]
theorem qdB {F v v' os os' ps qs}(e:qe4 F v os=some (v',ps,os',qs))(hq:∀ q∈qs,q):qgH F v=some (v',ps):=by
 obtain⟨t,rows⟩:=v;unfold qe4 at e;unfold qgH;split at e
 .
  rename_i x ht hr;simp only at ht hr;subst ht;subst hr;split at e
  . rename_i c p1 o1 q1 h1;simp only[aa,ai]at e;obtain⟨rfl,rfl,rfl,rfl⟩:=e;simp only[qae h1 hq]
  . cases e
 .
  rename_i l ht hr;simp only at ht hr;subst ht;subst hr;split at e
  . rename_i c p1 o1 q1 h1;simp only[aa,ai]at e;obtain⟨rfl,rfl,rfl,rfl⟩:=e;simp only[qwS h1 hq]
  . cases e
 . cases e
theorem YN {cx f F}:∀ {j:Nat} {vs vs':List AV} {os:List (Nat×List (List Cell))} {ps:List Pl} {qs:List Prop},Zm cx f F j vs os=some (vs',ps,qs)->(∀ q∈qs,q) ->
  yT cx f F j vs=some (vs,F)/\vg cx f F j vs=some (vs',ps)
 |j,[],vs',os,ps,qs,e,_=>by simp only[Zm,aa,ai]at e;obtain⟨rfl,rfl,_⟩:=e;exact⟨rfl,rfl⟩
 |j,v::vs,vs',os,ps,qs,e,hq=>by
  simp only[Zm]at e;by_cases hh:cx.hand f j=true
  . rw[aF hh]at e;cases e
  .
   rw[aG hh]at e;cases h1:qe4 F v os with
   |none=>simp[h1]at e
   |some y=>
    obtain⟨v1,p1,o1,q1⟩:=y;simp only[h1]at e;cases h2:Zm cx f F (j+1) vs o1 with
    |none=>simp[h2]at e
    |some z=>
     obtain⟨l2,p2,q2⟩:=z;simp only[h2,aa,ai]at e;obtain⟨rfl,rfl,rfl⟩:=e;obtain⟨a1,a2⟩:=YN h2 (fun q hm=>hq q (aT _ hm));have b1:=qdB h1 (fun q hm=>hq q (aM _ hm));constructor
     . simp only[yT,aG hh,a1]
     . simp only[vg,aG hh,b1,a2]
theorem qda {cx F F' dst f vs v os ps r}(e:qhN cx F dst f vs v os=some (F',ps,r))(hp:∀ p∈ps,p):∃ rec,qcG cx.P rec/\vZ cx rec F dst f vs=some (F',r):=by
 unfold qhN at e;cases h1:Zm cx f F 0 vs os with
 |none=>simp[h1]at e
 |some y=>
  obtain⟨args,lent,qs⟩:=y;simp only[h1]at e;split at e
  .
   rename_i hroots;split at e
   . rename_i args' v' h3 h7;split at e
     . rename_i hn;simp only[aa,ai]at e;obtain⟨rfl,rfl,rfl⟩:=e;obtain⟨a1,a2⟩:=YN h1 (fun q hm=>hp q (aB _ hm));have he:Ev cx.P cx.hand f args' [] (.ret v) []:=hp _ au;obtain⟨Ff,hf⟩:=xZ lent F;refine⟨_,xP he,?_⟩;unfold vZ;rw[a1];simp only;rw[a2];simp only;rw[hroots,h3];simp only[mapO];rw[Xk];simp only[mapO];rw[aF (by simp[nodupB]),hf];simp only;rw[h7];simp only[List.isEmpty_nil,Bool.true_and,hn,if_true];rfl
     . cases e
   . cases e
  . cases e
theorem qxc:∀ {π:List (Nat×Nat)} {hs:Hints} {rows x:List (List Cell)} {ps:List Prop},qxb hs rows π=some (x,ps)->(∀ q∈ps,q)->getR rows π=some x
 |[],hs,rows,x,ps,e,_=>by cases hs<;>(simp only[qxb,aa,ai]at e;rw[getR,e.1])
 |(r,o)::π,[],rows,x,ps,e,_=>by simp[qxb]at e
 |(r,o)::π,(zz,rs)::hs,rows,x,ps,e,hp=>by
  simp only[qxb]at e;split at e
  . rename_i y qs hy;simp only[aa,ai]at e;obtain⟨rfl,rfl⟩:=e;have h:=hp _ au;simp only[getR,h];exact qxc hy fun q hq=>hp q (aB _ hq)
  . cases e
theorem qxv {f g}:∀ {π:List (Nat×Nat)} {hs:Hints} {rows rows' x:List (List Cell)} {ps:List Prop},
  qxb hs rows π=some (x,ps)->(∀ q∈ps,q)->g x=some (f x)->qz6 f hs rows π=some rows'->updR g rows π=some rows'
 |[],hs,rows,rows',x,ps,e,_,hg,hu=>by cases hs<;>(simp only[qxb,aa,ai]at e;simp only[qz6,aa]at hu;rw[updR,e.1,hg,<- e.1,hu])
 |(r,o)::π,[],rows,rows',x,ps,e,_,_,_=>by simp[qxb]at e
 |(r,o)::π,(zz,rs)::hs,rows,rows',x,ps,e,hp,hg,hu=>by
  simp only[qxb]at e;split at e
  . rename_i y qs hy;simp only[aa,ai]at e;obtain⟨rfl,rfl⟩:=e;have h:=hp _ au;simp only[qz6]at hu;split at hu
    . rename_i rs' hr;simp only[aa]at hu;subst hu;have:=qxv hy (fun q hq=>hp q (aB _ hq)) hg hr;simp only[updR,h,this]
    . cases hu
  . cases e
theorem Fr.rowsT_sound {F:Fr}{hs k x ps}(e:F.rowsT hs k=some (x,ps))(hp:∀ q∈ps,q):F.rowsAt k=some x:=by
 unfold Fr.rowsT at e;cases h:F.rows k.root with
 |none=>rw[h]at e;cases e
 |some rows=>rw[h]at e;unfold Fr.rowsAt;rw[h];exact qxc e hp
theorem qxt {F F' hs p c ps}(e:qA7 F hs p c=some (F',ps))(hp:∀ q∈ps,q):F.set p c=some F':=by
 unfold qA7 at e;split at e
 .
  rename_i rows hr;split at e
  . rename_i rs qs rows' hg hu;simp only[aa,ai]at e;obtain⟨rfl,rfl⟩:=e;obtain⟨c0,hc0⟩:=hp _ au;unfold Fr.set;rw[hr];simp only;rw[qxv (g:=putAt p.r p.o c) hg (fun q hq=>hp q (aB _ hq)) (by simp only[putAt,hc0]) hu]
  . cases e
 . cases e
theorem qx2 {cx F o hs a v ps}(e:qwN cx F o hs a=some (v,ps))(hp:∀ p∈ps,p):quiet cx F o=some v:=by
 obtain⟨dst,op,ty,pos,after,guard⟩:=o;cases a with
 |row rows=>
  simp only[qwN]at e;split at e
  .
   rename_i t x i;split at e
   .
    rename_i elem p n hu hc hn;split at e
    .
     rename_i rs qs sz hr hz;split at e
     . rename_i zz rows;split at e
       . rename_i hzz;simp only[aa,ai]at e;obtain⟨rfl,rfl⟩:=e;obtain⟨h1,h2⟩:=hp _ au;have h3:=hp _ (aB _ au);have hR:=Fr.rowsT_sound hr fun q hq=>hp q (aB _ (aB _ hq));have hg:F.get p=some (.own zz rows):=by unfold Fr.get;rw[hR];exact h3
         simp only[quiet,hu,hc,hn,hz,hg,h1,h2,hzz,decide_true,beq_self_eq_true,Bool.and_self,if_true]
       . cases e
     . cases e
    . cases e
   . cases e
  . cases e
 |ld row=>
  simp only[qwN]at e;split at e
  .
   rename_i t a;split at e
   .
    rename_i p n g hc hs hg;split at e
    . rename_i hcond;simp only[aD,aY]at hcond;split at e
      . rename_i rows qs v' hr hm;simp only[aa,ai]at e;obtain⟨rfl,rfl⟩:=e;have h1:=hp _ au;have hR:=Fr.rowsT_sound hr fun q hq=>hp q (aB _ hq);simp only[quiet,hc,hs,hg,Fr.loadL,hcond.1,aj,aU,if_false,hR,h1,hcond.2,if_true,ae];exact hm
      . cases e
    . cases e
   . cases e
  . cases e
 |_=>simp[qwN]at e
theorem qyB {cx F F' o hs a ps}(e:qyA cx F o hs a=some (F',ps))(hp:∀ p∈ps,p):loud cx F o=some F':=by
 obtain⟨dst,op,ty,pos,after,guard⟩:=o;cases a with
 |st=>
  simp only[qyA]at e;split at e
  .
   rename_i t x y;unfold loud;simp only at e |-;split at e
   .
    rename_i p n v F1 hd hs' ht;rw[hd,hs',ht];simp only;split at e
    . rename_i c hl;rw[hl];simp only;split at e
      . rename_i hc;rw[aF hc];have:=qxt e hp;simp only[Fr.setL,Nat.add_zero]at this |-;rw[this]
      . cases e
    . cases e
   . cases e
  . cases e
 |okO rows0 e0=>
  simp only[qyA]at e;split at e
  .
   rename_i args argTypes;unfold loud;simp only at e |-;split at e
   .
    rename_i s x t t1 d h1 h2;rw[h1,h2];simp only;split at e
    .
     rename_i elem et p xc a1 a2 a3 a4;rw[a1,a2,a3,a4];simp only;split at e
     .
      rename_i rs q0 i F1 qs b1 b2 b3;split at e
      .
       rename_i F2 us b4;simp only[aa,ai]at e;obtain⟨rfl,rfl⟩:=e;have hc:=hp _ au;have hk:=hp _ (aB _ au);have hq:∀ q∈qs,q:=fun q h=>hp q (aB _ (aB _ (aM _ h)));rw[qfZ hk]at b4;have b1':=b1;unfold Fr.rowsT at b1';have hsT:=b3;unfold qA7 at hsT;cases hr:F.rows p.key.root with
       |none=>rw[hr]at b1';cases b1'
       |some rows=>
        rw[hr]at b1' hsT;simp only[ae]at b1';simp only[b1']at hsT;have hq0:∀ q∈q0,q:=by
         cases hu:qz6 (fun rs=>setRow rs p.r p.o .dead) hs rows p.key.path with
         |none=>simp only[hu]at hsT;cases hsT
         |some rows2=>simp only[hu,aa,ai]at hsT;obtain⟨_,rfl⟩:=hsT;exact fun q h=>hq q (aB _ h)
        have hg:F.get p=some (.own i.size rows0):=by unfold Fr.get;rw[Fr.rowsT_sound b1 hq0];exact hc
        rw[hg,b2,qxt b3 hq];simp only[if_true];exact Za b4 (fun x hx=>hp x (aB _ (aB _ (aT _ hx))))
      . cases e
     . cases e
    . cases e
   . cases e
  . cases e
 |_=>simp[qyA]at e
def qeL:Option Adv->Bool
 |some (.call _ _ _)=>true
 |some (.callO _ _)=>true
 |_=>false
theorem Qu {cx F F' o a ps r}(e:taop cx F o a=some (F',ps,r))(hp:∀ p∈ps,p):
  (qeL a=true/\∃ rec,qcG cx.P rec/\aop cx rec F o=some (F',r))\/∀ rec,aop cx rec F o=some (F',r):=by
 have plain:∀ {a:Adv},(if !noMv cx o then none else match tquiet cx F o a with
  |some (v,ps)=>some (F.putS o.dst v,ps,none)
  |none=>if (xquiet cx F o).isNone then(match tloud cx F o a with
   |some (F',ps)=>some (F',ps,none)
   |none=>none)else none)=some (F',ps,r)->∀ rec,aop cx rec F o=some (F',r):=by
  intro a e;by_cases hm:noMv cx o=true
  case neg=>rw[aF (by simpa using hm)]at e;cases e
  rw[aG (by simp[hm])]at e;have hm0:=qkV hm F;rw[XZ]at e;cases hq:tquiet cx F o a with
  |some y=>obtain⟨v,qs⟩:=y;simp only[hq,aa,ai]at e;obtain⟨rfl,rfl,rfl⟩:=e;exact fun rec=>by simp only[aop,hm0,aop0,QQ hq hp]
  |none=>
   simp only[hq]at e;split at e
   . rename_i hn;rw[Option.isNone_iff_eq_none]at hn;split at e
     . rename_i F1 qs hl;simp only[aa,ai]at e;obtain⟨rfl,rfl,rfl⟩:=e;exact fun rec=>by simp only[aop,hm0,aop0,hn,qer hl hp]
     . cases e
   . cases e
 cases a with
 |none=>
  right;simp only[taop,qhC]at e;split at e
  . rename_i F1 r1 h;simp only[aa,ai]at e;obtain⟨rfl,rfl,rfl⟩:=e;exact fun rec=>qdv _ h
  . cases e
 |some a=>
  cases a with
  |call res bx thaw=>
   left;refine⟨rfl,?_⟩;obtain⟨dst,op,ty,pos,after,guard⟩:=o;simp only[taop]at e;split at e
   .
    rename_i g args argTypes;split at e
    . rename_i f first caps hc
      obtain⟨rec,hr,hN⟩:=qdO e hp;refine⟨rec,hr,?_⟩;have h1:quiet cx F ⟨dst,.call { callee:=.value g,args,argTypes },ty,pos,after,guard⟩=none:=rfl;have h0:mvop cx F ⟨dst,.call { callee:=.value g,args,argTypes },ty,pos,after,guard⟩=none:=by unfold mvop;split<;>rfl
      have h2:loud cx F ⟨dst,.call { callee:=.value g,args,argTypes },ty,pos,after,guard⟩=none:=rfl;simp only[aop,h0,aop0,h1,h2,hc];exact hN
    . cases e
   . cases e
  |callO v os=>
   left;refine⟨rfl,?_⟩;obtain⟨dst,op,ty,pos,after,guard⟩:=o;simp only[taop]at e;split at e
   .
    rename_i g args argTypes;split at e
    . rename_i f first caps hc
      obtain⟨rec,hr,hN⟩:=qda e hp;refine⟨rec,hr,?_⟩;have h1:quiet cx F ⟨dst,.call { callee:=.value g,args,argTypes },ty,pos,after,guard⟩=none:=rfl;have h0:mvop cx F ⟨dst,.call { callee:=.value g,args,argTypes },ty,pos,after,guard⟩=none:=by unfold mvop;split<;>rfl
      have h2:loud cx F ⟨dst,.call { callee:=.value g,args,argTypes },ty,pos,after,guard⟩=none:=rfl;simp only[aop,h0,aop0,h1,h2,hc];exact hN
    . cases e
   . cases e
  |test r=>exact .inr (plain (a:=.test r) e)
  |row r=>exact .inr (plain (a:=.row r) e)
  |bnd=>exact .inr (plain (a:=.bnd) e)
  |ld r=>exact .inr (plain (a:=.ld r) e)
  |look r=>exact .inr (plain (a:=.look r) e)
  |st=>exact .inr (plain (a:=.st) e)
  |ok=>exact .inr (plain (a:=.ok) e)
  |okE b=>exact .inr (plain (a:=.okE b) e)
  |okO rs b=>exact .inr (plain (a:=.okO rs b) e)
  |put es=>exact .inr (plain (a:=.put es) e)
  |alt p q=>exact .inr (plain (a:=.alt p q) e)
  |pan q=>exact .inr (plain (a:=.pan q) e)
  |sidx b=>exact .inr (plain (a:=.sidx b) e)
  |aix b=>exact .inr (plain (a:=.aix b) e)
  |scat=>exact .inr (plain (a:=.scat) e)
  |ssl=>exact .inr (plain (a:=.ssl) e)
  |qr=>exact .inr (plain (a:=.qr) e)
  |thru hs a=>
   right;simp only[taop]at e;by_cases hm:noMv cx o=true
   case neg=>rw[aF (by simpa using hm)]at e;cases e
   rw[aG (by simp[hm])]at e;have hm0:=qkV hm F;rw[XZ]at e;cases hq:qwN cx F o hs a with
   |some y=>obtain⟨v,qs⟩:=y;simp only[hq,aa,ai]at e;obtain⟨rfl,rfl,rfl⟩:=e;exact fun rec=>by simp only[aop,hm0,aop0,qx2 hq hp]
   |none=>
    simp only[hq]at e;split at e
    . rename_i hn;rw[Option.isNone_iff_eq_none]at hn;split at e
      . rename_i F1 qs hl;simp only[aa,ai]at e;obtain⟨rfl,rfl,rfl⟩:=e;exact fun rec=>by simp only[aop,hm0,aop0,hn,qyB hl hp]
      . cases e
    . cases e
  |ldm l=>
   right;simp only[taop]at e;split at e
   . rename_i F1 qs hm;simp only[aa,ai]at e;obtain⟨rfl,rfl,rfl⟩:=e;exact fun rec=>by simp only[aop,qeQ hm hp]
   . cases e
theorem qb4 {cx r1 r2 ops}:∀ {rest:List Oper} {F:Fr},(∀ o∈rest,r1 o.dst=r2 o.dst)->aops cx r1 ops rest F=aops cx r2 ops rest F
 |[],_,_=>rfl
 |o::rest,F,h=>by
  have ho:=h o au;have hr:∀ F,aops cx r1 ops rest F=aops cx r2 ops rest F:=fun F=>qb4 fun o' hm=>h o' (aB _ hm);simp only[aops,ho];split
  . split
    . exact hr _
    . rfl
  . exact hr _
  . rfl
theorem qb2 {cx r1 r2 ops}:∀ {rest:List Oper} {F:Fr},(∀ o∈rest,r1 o.dst=r2 o.dst)->drun cx r1 ops rest F=drun cx r2 ops rest F
 |[],_,_=>rfl
 |o::rest,F,h=>by
  have ho:=h o au;have hr:∀ F,drun cx r1 ops rest F=drun cx r2 ops rest F:=fun F=>qb2 fun o' hm=>h o' (aB _ hm);have hd:dop cx r1 ops F o=dop cx r2 ops F o:=by simp only[dop,ho]
  simp only[drun,hd,hr]
theorem qaO {o rest a}(h:qh6 o rest a=true)(ha:qeL a=true):∀ o'∈rest,o'.dst≠o.dst:=by
 cases a with
 |none=>cases ha
 |some a=>
  cases a with
  |call r b t=>intro o' hm;have:=(List.all_eq_true.1 h) o' hm;simpa using this
  |callO v os=>intro o' hm;have:=(List.all_eq_true.1 h) o' hm;simpa using this
  |_=>cases ha
theorem zP {cx ops}:∀ {rest:List Oper} {F F':Fr} {ad ad':Advs} {ps:List Prop} {r:Option Value},taops cx ops rest F ad=some (F',ad',ps,r)->(∀ p∈ps,p) ->
  ∃ recs:Orac,(∀ d,qcG cx.P (recs d))/\aops cx recs ops rest F=some (F',r)
 |[],F,F',ad,ad',ps,r,e,_=>by simp only[taops,aa,ai]at e;obtain⟨rfl,_,_,rfl⟩:=e;exact⟨fun _=>qey,fun _=>qcT _,rfl⟩
 |o::rest,F,F',ad,ad',ps,r,e,hp=>by
  simp only[taops]at e;cases hw:zi ops F o with
  |none=>simp[hw]at e
  |some b=>
   cases b with
   |true=>
    simp only[hw]at e;split at e
    .
     rename_i hc;split at e
     .
      rename_i F1 qs h1;simp only[qiv]at e;cases h2:taops cx ops rest F1 (Qe o.dst ad).2 with
      |none=>simp[h2]at e
      |some z=>
       obtain⟨F2,ad2,qs2,r2⟩:=z;simp only[h2,aa,ai]at e;obtain⟨rfl,rfl,rfl,rfl⟩:=e;obtain⟨recs,k1,k2⟩:=zP h2 (fun p hm=>hp p (aT _ hm));rcases Qu h1 (fun p hm=>hp p (aM _ hm))with⟨ha,rec,r1,r2'⟩|hall
       . refine⟨fun d=>if d=o.dst then rec else recs d,fun d=>?_,?_⟩
         . dsimp only;split
           . exact r1
           . exact k1 d
         . simp only[aops,hw,if_true,r2'];rw[<- k2];exact qb4 fun o' hm=>aG (qaO hc ha o' hm)
       . exact⟨recs,k1,by simp only[aops,hw,hall];exact k2⟩
     . rename_i F1 qs v h1;simp only[aa,ai]at e;obtain⟨rfl,rfl,rfl,rfl⟩:=e;rcases Qu h1 hp with⟨ha,rec,r1,r2'⟩|hall
       . exact⟨fun _=>rec,fun _=>r1,by simp only[aops,hw,r2']⟩
       . exact⟨fun _=>qey,fun _=>qcT _,by simp only[aops,hw,hall]⟩
     . cases e
    . cases e
   |false=>simp only[hw,qiv]at e;obtain⟨recs,k1,k2⟩:=zP e hp;exact⟨recs,k1,by simp only[aops,hw];exact k2⟩
theorem qgC {cx ops F F' o ad ad' I ps}(e:tdop cx ops F o ad=some (F',I,ad',ps))(hp:∀ p∈ps,p):
  (qeL (Qe o.dst ad).1=true/\∃ rec,qcG cx.P rec/\dop cx (fun _=>rec) ops F o=some (F',I))\/∀ recs:Orac,dop cx recs ops F o=some (F',I):=by
 unfold tdop at e;simp only[XZ,qhC]at e;cases hw:zi ops F o with
 |none=>simp[hw]at e
 |some b=>
  cases b with
  |false=>simp only[hw,aa,ai]at e;obtain⟨rfl,rfl,_,_⟩:=e;exact .inr fun recs=>by simp only[dop,hw]
  |true=>
   simp only[hw]at e;obtain⟨a,ad1,ha⟩:∃ a ad1,Qe o.dst ad=(a,ad1):=⟨_,_,rfl⟩
   rw[ha]at e |-;cases a with
   |none=>
    right;simp only at e;cases hq:quiet cx F o with
    |some v=>simp only[hq,aa,ai]at e;obtain⟨rfl,rfl,_,_⟩:=e;exact fun recs=>by simp only[dop,hw,hq]
    |none=>
     simp only[hq]at e;split at e
     . rename_i hc;split at e
       . rename_i F1 h1;simp only[aa,ai]at e;obtain⟨rfl,rfl,_,_⟩:=e;exact fun recs=>by simp only[dop,hw,hq,hc,if_true,qdv _ h1]
       . cases e
     . cases e
   |some a=>
    simp only at e;cases hq:tquiet cx F o a with
    |some y=>obtain⟨v,qs⟩:=y;simp only[hq,aa,ai]at e;obtain⟨rfl,rfl,_,rfl⟩:=e;exact .inr fun recs=>by simp only[dop,hw,QQ hq hp]
    |none=>
     simp only[hq]at e;split at e
     . rename_i hc;simp only[aD,Option.isNone_iff_eq_none]at hc;split at e
       . rename_i F1 qs h1;simp only[aa,ai]at e;obtain⟨rfl,rfl,_,rfl⟩:=e;rcases Qu h1 hp with⟨hc2,rec,r1,r2⟩|hall
         . exact .inl ⟨hc2,rec,r1,by simp only[dop,hw,hc.1,hc.2,if_true,r2]⟩
         . exact .inr fun recs=>by simp only[dop,hw,hc.1,hc.2,if_true,hall]
       . cases e
     . cases e
theorem xK {cx ops}:∀ {rest:List Oper} {F F':Fr} {ad ad':Advs} {is:List Info} {ps:List Prop},tdrun cx ops rest F ad=some (F',is,ad',ps)->(∀ p∈ps,p) ->
  ∃ recs:Orac,(∀ d,qcG cx.P (recs d))/\drun cx recs ops rest F=some (F',is)
 |[],F,F',ad,ad',is,ps,e,_=>by simp only[tdrun,aa,ai]at e;obtain⟨rfl,rfl,_⟩:=e;exact⟨fun _=>qey,fun _=>qcT _,rfl⟩
 |o::rest,F,F',ad,ad',is,ps,e,hp=>by
  simp only[tdrun]at e;split at e
  . cases e
  .
   rename_i hc;simp only[Bool.not_eq_true',Bool.not_eq_false]at hc;cases h1:tdop cx ops F o ad with
   |none=>simp[h1]at e
   |some y=>
    obtain⟨F1,i,ad1,qs⟩:=y;simp only[h1,qiv,qhK]at e;cases h2:tdrun cx ops rest F1 ad1 with
    |none=>simp[h2]at e
    |some z=>
     obtain⟨F2,is2,ad2,qs2⟩:=z;simp only[h2,aa,ai]at e;obtain⟨rfl,rfl,rfl,rfl⟩:=e;obtain⟨recs,k1,k2⟩:=xK h2 (fun p hm=>hp p (aT _ hm));rcases qgC h1 (fun p hm=>hp p (aM _ hm))with⟨ha,rec,r1,r2⟩|hall
     .
      refine⟨fun d=>if d=o.dst then rec else recs d,fun d=>?_,?_⟩
      . dsimp only;split
        . exact r1
        . exact k1 d
      . have hd:dop cx (fun d=>if d=o.dst then rec else recs d) ops F o=some (F1,i):=by rw[<- r2];simp only[dop,if_true]
        have hr:drun cx (fun d=>if d=o.dst then rec else recs d) ops rest F1=some (F2,is2):=by rw[<- k2];exact qb2 fun o' hm=>aG (qaO hc ha o' hm)
        simp only[drun,hd,hr]
     . exact⟨recs,k1,by simp only[drun,hall,k2]⟩
theorem qcO {cx ops F F' p q ad ad' ps}(e:qeJ cx ops F p q ad=some (F',ad',ps))(hp:∀ p∈ps,p):
  ∃ recs recs2 is is2 F2,(∀ d,qcG cx.P (recs d))/\(∀ d,qcG cx.P (recs2 d))/\qjY cx recs recs2 ops F p q is is2 F' F2/\vP p q 0 ops=true:=by
 unfold qeJ at e;cases h2:tdrun cx ops (xy ops (Ye p q ops.length)) F ad with
 |none=>simp[h2]at e
 |some y=>
  obtain⟨F2,is2,ad1,qs⟩:=y;simp only[h2]at e;cases h1:tdrun cx ops ops F ad1 with
  |none=>simp[h1]at e
  |some z=>obtain⟨F1,is,ad2,ps1⟩:=z;simp only[h1]at e;obtain⟨hc,e⟩:=ze e;rw[aD]at hc;simp only[aa,ai]at e;obtain⟨rfl,rfl,rfl⟩:=e;obtain⟨recs1,o1,k1⟩:=xK h1 (fun p hm=>hp p (aB _ (aT _ hm)));obtain⟨recs2,o2,k2⟩:=xK h2 (fun p hm=>hp p (aB _ (aM _ hm)));exact⟨recs1,recs2,is,is2,F2,o1,o2,⟨k1,k2,hp _ au,hc.2⟩,hc.1⟩
theorem QR {D cx ops F F' ad ad' ps}(e:tadraw cx ops.toList F ad=some (F',ad',ps))(hp:∀ p∈ps,p)(hmix:cx.P.follows .mixedOrders=true){G0 w0 G w a Q id}(h:RelF G w F a.tmps)(hg:zS G0 w0 G w)(hd:D a)(hD:∀ o∈ops,∀ a V,D a->D (a.put o.dst V))(hq:∀ a' w',Stands D G0 w0 F' a' w'->Q .normal a' w'):(Code.region id ops true).wp cx.P Q a w:=by
 have one:∀ {ad:Advs},(match tdrun cx ops.toList ops.toList F ad with
   |some (F',is,ad',ps)=>if vw 0 ops.toList&&vS (befL ops.toList []) is 0 is then some (F',ad',ps)else none
   |none=>none)=some (F',ad',ps)->(Code.region id ops true).wp cx.P Q a w:=by
  intro ad e;cases h1:tdrun cx ops.toList ops.toList F ad with
  |none=>simp[h1]at e
  |some y=>obtain⟨F1,is,ad1,qs⟩:=y;simp only[h1]at e;obtain⟨hc,e⟩:=ze e;simp only[aa,ai]at e;obtain⟨rfl,rfl,rfl⟩:=e;obtain⟨recs,k1,k2⟩:=xK h1 hp;exact qek (fun d=>(k1 d).1) (fun d=>(k1 d).2) hmix h hg hd (by simp only[adraw,k2,hc,if_true]) hD hq
 unfold tadraw at e;split at e
 . obtain⟨recs,recs2,is,is2,F2,o1,o2,k,hno⟩:=qcO e hp;exact qdL (fun d=>(o1 d).1) (fun d=>(o1 d).2) (fun d=>(o2 d).1) (fun d=>(o2 d).2) hmix h hg hd k hno hD hq
 . exact one e
theorem qgz {f args bx res bx'}(f1 a b r b')(e:vG f args bx res bx' f1 a b=some (r,b')):r=res:=by
 unfold vG at e;split at e
 . simp only[aa,ai]at e;exact e.1.symm
 . cases e
theorem qct {D cx ops F q nb ad v bx ps}(e:qel cx ops.toList F q nb ad=some (v,bx,ps))(hp:∀ p∈ps,p)(hmix:cx.P.follows .mixedOrders=true){G0 w0 G w a Q id}(h:RelF G w F a.tmps)(hg:zS G0 w0 G w)(hd:D a)(hD:∀ o∈ops,∀ a V,D a->D (a.put o.dst V))(hq:∀ a' w' Fp,Stands D G0 w0 Fp a' w'->zD Fp nb=some bx->Q (.panic [{ v,recovered:=false }]) a' w'):(Code.region id ops true).wp cx.P Q a w:=by
 unfold qel at e;split at e
 .
  rename_i F1 is dd vv bx1 tt ps1 h1;split at e
  .
   rename_i o ho;split at e
   .
    rename_i g args at' hop;split at e
    .
     rename_i f first caps hw hg'
     split at e
     .
      rename_i F2 qs v2 h2;simp only[qa1]at e;split at e
      .
       rename_i b hb;obtain⟨hc,e⟩:=ze e;simp only[aa,ai]at e;obtain⟨rfl,rfl,rfl⟩:=e;obtain⟨recs,k1,k2⟩:=xK h1 (fun p hm=>hp p (aM _ hm));obtain⟨args',bx0,hE,hcf⟩:=xV h2 (fun p hm=>hp p (aT _ hm));rw[aD,aD]at hc;obtain⟨⟨hcl,hdq⟩,hc⟩:=hc;rw[aD]at hcl;have hcall:Qa o=true:=by unfold Qa;rw[hop]
       refine qf8 (fun d=>(k1 d).1) (fun d=>(k1 d).2) (xP hE).1 (xP hE).2 (fun f1 a b r b'=>qgz f1 a b r b') hmix (F2:=F1.merge (F2.putK o.dst (.c (.imm []))) (qC F1 o)) h hg hd ho hcall (I:=zJ F1 _ (qC F1 o) (xW ops.toList o++slotsOf o) true) rfl hdq k2 ?_ hc hb hcl.2 hD hq;have hcf':=qgM hcf;obtain⟨dst,op,ty,pos,after,guard⟩:=o;simp only at hop;subst hop;have hm:∀ F,mvop cx F ⟨dst,.call { callee:=.value g,args:=args,argTypes:=at' },ty,pos,after,guard⟩=none:=by
        intro F;unfold mvop;split
        . rfl
        . split
          . rename_i h _;cases h
          . rfl
       have hq2:∀ F,quiet cx F ⟨dst,.call { callee:=.value g,args:=args,argTypes:=at' },ty,pos,after,guard⟩=none:=by intro F;rfl
       have hl:∀ F,loud cx F ⟨dst,.call { callee:=.value g,args:=args,argTypes:=at' },ty,pos,after,guard⟩=none:=by intro F;rfl
       unfold dop;simp only[hw,hq2,hcl.1,if_true];unfold aop;simp only[hm];unfold aop0;simp only[hq2,hl,hg',hcf']
      . cases e
     . cases e
    . cases e
   . cases e
  . cases e
 . cases e
def YG (P:Program)(c:Code)(Q:Exit->Act->World->Prop)(a:Act)(w:World):Prop:=∀ (b:Frame) (k:List Item) (cs:List Frame),∃ e a' w',Q e a' w'/\Arrives P (lone (b.at a (.code c :: .inLoop c::k)) cs w) b k cs e a' w'
theorem YG.loop {P c Q a w}(h:YG P c Q a w):(Code.loop c).wp P Q a w:=by intro b k cs;obtain⟨e,a',w',hq,harr⟩:=h b k cs;exact⟨e,a',w',hq,.of_steps (.one step_loop) harr⟩
theorem YG.round {P c Q a w}(h:c.wp P (Exit.then (YG P c Q) Q) a w):YG P c Q a w:=by
 intro b k cs;obtain⟨e,a₁,w₁,hq,harr⟩:=h b (.inLoop c::k) cs;cases e with
 |normal=>obtain⟨e₂,a₂,w₂,hq₂,harr₂⟩:=hq b k cs;exact⟨e₂,a₂,w₂,hq₂,.of_steps (Steps.trans harr (.one step_inLoop)) harr₂⟩
 |exit id=>exact⟨_,a₁,w₁,hq,.pass (x:=.inLoop c) rfl (fun _ _=>.inl (by simp)) harr⟩
 |goto l=>exact⟨_,a₁,w₁,hq,.pass (x:=.inLoop c) rfl (fun _ _=>.inl (by simp)) harr⟩
 |ret=>exact⟨_,a₁,w₁,hq,.pass (x:=.inLoop c) rfl (fun _ _=>.inl (by simp)) harr⟩
 |panic ch=>exact⟨_,a₁,w₁,hq,.pass (x:=.inLoop c) rfl (fun _ _=>.inl (by simp)) harr⟩
 |outgrown=>exact⟨_,a₁,w₁,hq,.pass (x:=.inLoop c) rfl (fun _ _=>.inl (by simp)) harr⟩
def KQ (P:Program):List TItem->(Exit->Act->World->Prop)->Exit->Act->World->Prop
 |[],Q=>Q
 |.code c::K,Q=>Exit.then (c.wp P (KQ P K Q)) (KQ P K Q)
 |.inBlock id::K,Q=>Exit.inBlock id (KQ P K Q)
 |.inLoop b::K,Q=>Exit.then (YG P b (KQ P K Q)) (KQ P K Q)
def Fin (cx:Cx)(fn:Func)(K:List TItem)(F:Fr)(res:ARes)(bx:List (List Cell)):Prop:=∀ G0 w0 G w a,(∀ d,¬ G0.lv d)->RelF G w F a.tmps->zS G0 w0 G w->a.defers=[]->KQ cx.P K (bodyPost cx.P fn (Went G0 w0 res bx)) .normal a w
def TStop.ends (cx:Cx)(fn:Func)(s:TStop)(res:ARes)(bx:List (List Cell)):Prop:=match s with
 |.fin r b=>r=res/\b=bx
 |.at K F=>Fin cx fn K F res bx
theorem qd9 {P Q a w}(h:Q .ret a w):∀ K,KQ P K Q .ret a w
 |[]=>h
 |.code _::K=>qd9 h K
 |.inBlock _::K=>qd9 h K
 |.inLoop _::K=>qd9 h K
theorem Yu {P Q a w ch}(h:Q (.panic ch) a w):∀ K,KQ P K Q (.panic ch) a w
 |[]=>h
 |.code _::K=>Yu h K
 |.inBlock _::K=>Yu h K
 |.inLoop _::K=>Yu h K
theorem qbm {P Q a w id}:∀ {K K':List TItem},YX id K=some K'->KQ P K' Q .normal a w->KQ P K Q (.exit id) a w
 |[],K',e,_=>by simp[YX]at e
 |.code _::K,K',e,h=>qbm (K:=K) e h
 |.inLoop _::K,K',e,h=>qbm (K:=K) e h
 |.inBlock id'::K,K',e,h=>by
  simp only[YX]at e;show if id=id' then KQ P K Q .normal a w else KQ P K Q (.exit id) a w
  by_cases hid:id'=id
  . rw[aF hid]at e;rw[aF hid.symm];cases e;exact h
  . rw[aG hid]at e;rw[aG (fun e=>hid e.symm)];exact qbm e h
theorem XL {P fn nb F res bx}(e:tfin P fn nb F=some (.fin res bx)){G0 G w0 w}{a:Act}(hlv:∀ d,¬ G0.lv d)(h:RelF G w F a.tmps)(hg:zS G0 w0 G w)(hd:a.defers=[]):a.defers=[]/\∃ v,(results fn a.tmps).run P w=.ok v w/\Went G0 w0 res bx (.returned v) w:=by
 refine⟨hd,?_⟩;unfold tfin at e;cases h1:QS P F fn.results.toList with
 |none=>simp[h1]at e
 |some z=>
  obtain⟨vs,F2⟩:=z;simp only[h1]at e;cases h2:qjr vs with
  |none=>simp[h2]at e
  |some v=>
   cases h3:zD F2 nb with
   |none=>simp[h2,h3]at e
   |some bx2=>
    simp only[h2,h3,aa,TStop.fin.injEq]at e;obtain⟨rfl,rfl⟩:=e;obtain⟨im',xss,Us,b0,b1,b2,b3,b4,b5,b6⟩:=QE fn.results.toList vs G F F2 h h1;obtain⟨s1,s2⟩:=qii b4 h2;refine⟨_,qei b0,?_⟩;obtain⟨l1,l2⟩:=qdA (sl:=[v]) (ts1:=#[qbe Us.toArray]) b1 b5 h3 rfl (fun k v' hk=>by
     cases k with
     |zero=>simp only[aJ,aa]at hk;subst hk;refine⟨rfl,_,rfl,s1,fun r o c hc=>?_⟩;obtain⟨xs,us,u,q1,q2,q3,q4⟩:=s2 r o c hc;exact⟨xs,us,u,q1,q2,q3,q4⟩
     |succ k=>simp at hk) (fun s hs=>by
      have nouse:∀ {xss:List (List (Option Pl))} {vs:List (Bool×List Cell)} {Us:List Value},XH { G with im:=im' } w F2 xss vs Us->some s∈xss.flatten ->
        ((∀ i,s.key.root≠.par i)/\s.key.path=[])/\∀ π,¬ Uses F2 (s.under π):=by
       intro xss
       induction xss with
       |nil=>intro vs Us _ hm;simp at hm
       |cons xs xss ih=>
        intro vs Us hh hm;cases vs with
        |nil=>exact hh.elim
        |cons y vs=>
         obtain⟨g,l⟩:=y;cases Us with
         |nil=>exact hh.elim
         |cons U Us=>
          obtain⟨⟨us,h1,_⟩,h2⟩:=hh;rw[List.flatten_cons,List.mem_append]at hm;rcases hm with hm|hm
          . exact h1.nouse hm
          . exact ih h2 hm
      exact nouse b4 hs)
    exact⟨_,((hg.trans b2.w).trans l2).full hlv,_,rfl,l1⟩
theorem Xc {F nb v bx}(h3:zD F nb=some bx){G0 G w0 w}{a:Act}(hlv:∀ d,¬ G0.lv d)(h:RelF G w F a.tmps)(hg:zS G0 w0 G w)(hd:a.defers=[]):a.defers=[]/\Went G0 w0 (.panic v) bx (.panicked [{ v,recovered:=false }]) w:=by refine⟨hd,?_⟩;obtain⟨l1,l2⟩:=qdA (xss:=[]) (sl:=[]) (ts1:=#[]) h (by unfold Nod;simp) h3 rfl (by simp) (by simp);exact⟨_,(hg.trans l2).full hlv,rfl,l1⟩
theorem qfx {P fn nb F s}(e:tfin P fn nb F=some s):∃ r b,s=.fin r b:=by
 unfold tfin at e;split at e
 .
  split at e
  . simp only[aa]at e;exact⟨_,_,e.symm⟩
  . cases e
 . cases e
theorem qoM {cx fn nb}(hmix:cx.P.follows .mixedOrders=true){res bx}:∀ {n:Nat} {K:List TItem} {F:Fr} {ad:Advs} {s:TStop} {ps:List Prop},
  mgo cx fn nb n K F ad=some (s,ps)->(∀ p∈ps,p)->s.ends cx fn res bx->Fin cx fn K F res bx
 |0,K,F,ad,s,ps,e,_,hs=>by
  simp only[mgo]at e;split at e
  . simp only[aa,ai]at e;obtain⟨rfl,_⟩:=e;exact hs
  . cases e
 |n+1,[],F,ad,s,ps,e,hp,hs=>by
  simp only[mgo]at e;split at e
  . split at e
    . rename_i s' h;simp only[aa,ai]at e;obtain⟨rfl,_⟩:=e;obtain⟨r,b,rfl⟩:=qfx h;obtain⟨rfl,rfl⟩:=hs;exact fun G0 w0 G w a hlv hr hg hd=>XL h hlv hr hg hd
    . cases e
  . cases e
 |n+1,.inLoop b::K,F,ad,s,ps,e,hp,hs=>by
  simp only[mgo]at e;split at e
  . have:=qoM hmix e hp hs;exact fun G0 w0 G w a hlv hr hg hd=>YG.round (this G0 w0 G w a hlv hr hg hd)
  . rw[qa1]at e;have:=qoM hmix e hp hs;intro G0 w0 G w a hlv hr hg hd;obtain⟨G',r1,g1⟩:=qax hr [] _;exact YG.round (this G0 w0 G' w a hlv r1 (hg.trans g1) hd)
 |n+1,.inBlock id::K,F,ad,s,ps,e,hp,hs=>by simp only[mgo]at e;have:=qoM hmix e hp hs;exact fun G0 w0 G w a hlv hr hg hd=>this G0 w0 G w a hlv hr hg hd
 |n+1,.code c::K,F,ad,s,ps,e,hp,hs=>by
  cases c with
  |skip=>simp only[mgo]at e;have:=qoM hmix e hp hs;exact fun G0 w0 G w a hlv hr hg hd=>wp_skip (this G0 w0 G w a hlv hr hg hd)
  |region id ops draw=>
   simp only[mgo]at e;cases draw with
   |true=>
    rw[aF rfl]at e;split at e
    . split at e
      . rename_i v bx2 qs h1;simp only[aa,ai]at e;obtain⟨rfl,rfl⟩:=e;obtain⟨rfl,rfl⟩:=hs;intro G0 w0 G w a hlv hr hg hd;refine qct h1 hp hmix hr hg hd (fun o _ a V=>QH a o.dst V) fun a' w' Fp hst hb=>?_;obtain⟨hd',G',hg',hr'⟩:=hst;exact Yu (Xc hb hlv hr' hg' hd') K
      . cases e
    .
     split at e
     . rename_i F1 ad1 qs h1;cases h2:mgo cx fn nb n K F1 ad1 with
       |none=>simp[h2,qf3]at e
       |some y=>obtain⟨s',qs2⟩:=y;simp only[h2,qf3,aa,ai]at e;obtain⟨rfl,rfl⟩:=e;have ih:=qoM hmix h2 (fun p hm=>hp p (aT _ hm)) hs;intro G0 w0 G w a hlv hr hg hd;refine QR h1 (fun p hm=>hp p (aM _ hm)) hmix hr hg hd (fun o _ a V=>QH a o.dst V) fun a' w' hst=>?_;obtain⟨hd',G',hg',hr'⟩:=hst;exact ih G0 w0 G' w' a' hlv hr' hg' hd'
     . cases e
   |false=>
    rw[aG (by simp)]at e;have reg:∀ {F1:Fr} {r:Option Value} {ad1:Advs} {qs:List Prop},taops cx ops.toList ops.toList F ad=some (F1,ad1,qs,r)->(∀ p∈qs,p)->∀ {Q:Exit->Act->World->Prop} {G0 w0 G w a},
      RelF G w F a.tmps->zS G0 w0 G w->a.defers=[]->(r=none->∀ a' w',Stands D0 G0 w0 F1 a' w'->Q .normal a' w')->(∀ v,r=some v->∀ a' w',Stands D0 G0 w0 F1 a' w'->Q (.panic [{ v,recovered:=false }]) a' w') ->
      (Code.region id ops false).wp cx.P Q a w:=by
     intro F1 r ad1 qs h1 hq Q G0 w0 G w a hr hg hd hn hpn;obtain⟨recs,k1,k2⟩:=zP h1 hq;refine wp_region ?_;have hrg:List.range ops.size=List.range' 0 ops.toList.length:=by rw[List.range_eq_range'];simp
     rw[hrg];exact qbV (fun d=>(k1 d).1) (fun d=>(k1 d).2) ops.toList 0 G w F a F1 r (fun k=>by simp) (fun o _ a V=>QH a o.dst V) hr hg hd k2 hn hpn
    split at e
    . rename_i F1 ad1 qs h1;cases h2:mgo cx fn nb n K F1 ad1 with
      |none=>simp[h2,qf3]at e
      |some y=>obtain⟨s',qs2⟩:=y;simp only[h2,qf3,aa,ai]at e;obtain⟨rfl,rfl⟩:=e;have ih:=qoM hmix h2 (fun p hm=>hp p (aT _ hm)) hs;intro G0 w0 G w a hlv hr hg hd;refine reg h1 (fun p hm=>hp p (aM _ hm)) hr hg hd (fun _ a' w' hst=>?_) (fun v hv=>by cases hv);obtain⟨hd',G',hg',hr'⟩:=hst;exact ih G0 w0 G' w' a' hlv hr' hg' hd'
    . rename_i F1 qs v h1;split at e
      . rename_i bx2 h3;simp only[aa,ai]at e;obtain⟨rfl,rfl⟩:=e;obtain⟨rfl,rfl⟩:=hs;intro G0 w0 G w a hlv hr hg hd;refine reg h1 hp hr hg hd (fun hn=>by cases hn) (fun v' hv a' w' hst=>?_);cases hv;obtain⟨hd',G',hg',hr'⟩:=hst;exact Yu (Xc h3 hlv hr' hg' hd') K
      . cases e
    . cases e
  |seq a b=>simp only[mgo]at e;have:=qoM hmix e hp hs;exact fun G0 w0 G w a hlv hr hg hd=>wp_seq (this G0 w0 G w a hlv hr hg hd)
  |cond c a b=>
   simp only[mgo]at e;split at e
   . rename_i hc;have:=qoM hmix e hp hs;exact fun G0 w0 G w a hlv hr hg hd=>wp_cond_true (yc (qx hr c) hc) (this G0 w0 G w a hlv hr hg hd)
   . rename_i hc;have:=qoM hmix e hp hs;exact fun G0 w0 G w a hlv hr hg hd=>wp_cond_false (yc (qx hr c) hc) (this G0 w0 G w a hlv hr hg hd)
   . cases e
  |block id b=>simp only[mgo]at e;have:=qoM hmix e hp hs;exact fun G0 w0 G w a hlv hr hg hd=>wp_block (Code.wp_mono (fun e a w q=>by cases e<;>exact q) (this G0 w0 G w a hlv hr hg hd))
  |loop b=>simp only[mgo]at e;have:=qoM hmix e hp hs;exact fun G0 w0 G w a hlv hr hg hd=>(this G0 w0 G w a hlv hr hg hd:YG cx.P b _ a w).loop
  |exit id=>
   simp only[mgo]at e;split at e
   . rename_i K' hk;have:=qoM hmix e hp hs;exact fun G0 w0 G w a hlv hr hg hd=>wp_exit (qbm hk (this G0 w0 G w a hlv hr hg hd))
   . cases e
  |ret=>
   simp only[mgo]at e;split at e
   . split at e
     . rename_i s' h;simp only[aa,ai]at e;obtain⟨rfl,_⟩:=e;obtain⟨r,b,rfl⟩:=qfx h;obtain⟨rfl,rfl⟩:=hs;exact fun G0 w0 G w a hlv hr hg hd=>wp_ret (qd9 (XL h hlv hr hg hd) K)
     . cases e
   . cases e
  |_=>simp[mgo]at e
def fr0 (fn:Func)(args:List AV)(bx:List (List Cell)):Fr:=⟨args++List.replicate (fn.ntmps-args.length) .undef,qd 0 bx⟩
theorem qV {P hand f fn body cx args bx bx' res}(hf:P.funcs[f]? = some fn)(hb:fn.body=some body)(hn:(fn.name == "runtime.NumGoroutine")=false)(hP:cx.P=P)(h:Fin cx fn [.code body] (fr0 fn args bx) res bx'):Ev P hand f args bx res bx':=by
 subst hP;refine⟨⟨fn,hf,by rw[hb];rfl,hn⟩,fun G w Vs hr=>?_⟩;have hlv:∀ d,¬ G.lv d:=fun d hd=>by obtain⟨l,hl⟩:=Option.isSome_iff_exists.1 (hr.live d hd);obtain⟨i,h1,_⟩:=za _ _ _ _ hl;cases h1
 have h0:=qbu hr fn.ntmps;exact calls_of_wp hf hb (h G w G w _ hlv h0 (Gain.refl G w).w rfl)
end
end
end Ab
end Go.Proofs.YtjnefcbeemkkeaaGreat

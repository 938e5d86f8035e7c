/-
  The interpreter is sound: code, ranges over functions, deferred calls, calls; a law without arguments. No claim stands here.
-/
import Derived.Test.YtjnefcbeemkkeaaGreatEDq
import Derived.RecoverIn
import Derived.Lib.MakeNoZero
import Derived.RowKit
import Derived.OpenShut
import Derived.WideKeyArgs
import Derived.ProofKit
import Derived.JoinedCond
import Derived.ChangeSame
set_option linter.all false
namespace Go.Proofs.YtjnefcbeemkkeaaGreat
namespace E
def mkD (r:Nat):Deferred:={ target:=.collected r,args:=#[] }
def Mk (w0:World)(μ:Mu)(m:M)(w:World):List Deferred->Prop
 |[]=>True
 |d::ds=>(∃ r,d=mkD r/\w0.heap.size<=r/\r<w.heap.size/\w.heap[r]? = some (.deferred (some []))/\(∀ i x,wr (m.at i)=true->μ i=some x->x.b≠r)/\∀ d'∈ds,d'≠d)/\Mk w0 μ m w ds
theorem Mk.step {w0 μ μ' m m' w w'}(g:Gn μ m w μ' m' w'):∀ {D:List Deferred},Mk w0 μ m w D->Mk w0 μ' m' w' D
 |[],_=>trivial
 | d::ds,⟨⟨r,h1,h2,h3,h4,h5,h6⟩,h⟩=>⟨⟨r,h1,h2,Nat.lt_of_lt_of_le h3 g.size,by rw[g.rest r h3 h5];exact h4,fun i x hw e=>by
   rcases g.own i x hw e with⟨j,y,k1,k2,k3⟩|hge
   . have:=h5 j y k1 k2;omega
   . omega,h6⟩,Mk.step g h⟩
theorem Mk.lt {w0 μ m w}:∀ {D:List Deferred},Mk w0 μ m w D->∀ d∈D,∃ r,d=mkD r/\r<w.heap.size
 |[],_,d,hd=>by cases hd
 |d::ds,⟨⟨r,h1,h2,h3,h4,h5,h6⟩,h⟩,d',hd=>by
  rcases List.mem_cons.1 hd with rfl|hd
  . exact⟨r,h1,h3⟩
  . exact Mk.lt h d' hd
section
variable {P:Program} {μ:Mu} {w w':World} {m:M}
theorem Hp.extra (h:Hp P μ m w)(o):Hp P μ m (w.alloc o)/\Gn μ m w μ m (w.alloc o):=by
 have hb:∀ b,b<w.heap.size->(w.alloc o).heap[b]? = w.heap[b]?:=fun b hb=>by rw[heap_alloc,if_neg (by omega)]
 have hs:=size_alloc w o;refine⟨⟨fun i x e=>(h.obj i x e).mono (.refl μ) fun y ey=>?_,h.fresh,h.room,h.root,fun i x e=>?_,h.inj⟩,⟨.refl μ,Nat.le_refl _,by omega,fun b hlt _=>hb b hlt,fun i x hw e=>.inl ⟨i,x,hw,e,rfl⟩,⟨rfl,rfl⟩,fun _ _=>rfl⟩⟩
 . rw[e]at ey;cases ey;exact hb _ (h.lt i x e)
 . have:=h.lt i x e;omega
theorem Hp.aside (h:Hp P μ m w){r}(hr:∀ i x,wr (m.at i)=true->μ i=some x->x.b≠r)(hs:w'.heap.size=w.heap.size)(hb:∀ b,b≠r->w'.heap[b]? = w.heap[b]?):Hp P μ m w':=by
 refine⟨fun i x e=>?_,h.fresh,h.room,h.root,fun i x e=>by rw[hs];exact h.lt i x e,h.inj⟩;cases hw:wr (m.at i)with
 |true=>refine(h.obj i x e).mono (.refl μ) fun y ey=>?_;rw[e]at ey;cases ey;exact hb _ (hr i x hw e)
 |false=>
  have:m.at i=.dead:=by cases hm:m.at i<;>first|rfl|(rw[hm]at hw;cases hw)
  rw[this];trivial
theorem run_newObj (o)(w):(newObj o).run P w=.ok w.heap.size (w.alloc o):=rfl
theorem qy8 {i r w}(h:w.heap[i]? = some (.loop r))(o):(setObj i o).run P w=.ok () { w with heap:=w.heap.setIfInBounds i o }:=by simp[setObj,Sem.run,h]
theorem run_getLoop {l r}(h:w.heap[l]? = some (.loop r)):(Instr.getLoop l).run P w=.ok r w:=by simp[Instr.getLoop,getObj,Sem.run,h]
theorem qA0 {w:World}{i o'}(h:w.heap[i]? = some o')(o)(b):(w.heap.setIfInBounds i o)[b]? = if b=i then some o else w.heap[b]?:=by
 have hi:i<w.heap.size:=(Array.getElem?_eq_some_iff.1 h).1;rw[Array.getElem?_setIfInBounds];by_cases hb:i=b
 . subst hb;simp[hi]
 . rw[if_neg hb,if_neg (fun e=>hb e.symm)]
theorem Hp.loop (h:Hp P μ m w){j x}(hx:μ j=some x)(hw:wr (m.at j)=true){r r'}(hr:w.heap[x.b]? = some (.loop r)){o}(ho:∀ w':World,w'.heap[x.b]? = some (.loop r')->OR μ w' j o)(hro:qxx P o=false):
  (setObj x.b (.loop r')).run P w=.ok () { w with heap:=w.heap.setIfInBounds x.b (.loop r') }/\Hp P μ (m.setA j o) { w with heap:=w.heap.setIfInBounds x.b (.loop r') }/\Gn μ m w μ (m.setA j o) { w with heap:=w.heap.setIfInBounds x.b (.loop r') }:=by
 refine⟨qy8 hr _,h.put hx hw (by simp) (fun b hb=>?_) (ho _ ?_) ⟨rfl,rfl⟩ (fun h=>by rw[hro]at h;cases h)⟩
 . show(w.heap.setIfInBounds x.b (.loop r'))[b]? = _;rw[qA0 hr,if_neg hb]
 . show(w.heap.setIfInBounds x.b (.loop r'))[x.b]? = _;rw[qA0 hr,if_pos rfl]
end
section
variable {P:Program} {dp nt:Nat} {μ0:Mu} {m0:M} {w0:World} {rec:Rec}
def qvV (rg:Bool)(D0:List Deferred)(P:Program)(dp nt:Nat)(μ0:Mu)(m0:M)(w0:World)(x:X)(F:T Value)(m:M)(e:Exit)(a:Act)(w:World):Prop:=∃ D μ,Ex μ x e/\St D P dp nt μ0 m0 w0 F m a w μ/\(rg=true->Mk w0 μ m w D)/\(rg=false->D=D0)
theorem qCj {f}(h:hasB P f=true):∃ fn,P.funcs[f]? = some fn/\∃ c,fn.body=some c:=by
 unfold hasB at h;split at h
 .
  rename_i fn hf;split at h
  . rename_i c hc;exact⟨fn,hf,c,hc⟩
  . cases h
 . cases h
theorem qxn (hrec:RecSound P rec){n g ps as bo D F m a w μ x F' m' Q}(h:St D P dp nt μ0 m0 w0 F m a w μ)(hk:Mk w0 μ m w D)(e:qAS P dp nt g ps.toList as bo rec n F m=.go x F' m')(hq:∀ e a' w',qvV true D P dp nt μ0 m0 w0 x F' m' e a' w'->Q e a' w'):(Code.rangeFunc g ps as bo).wpIn (FW none) 0 P Q a w:=by
 unfold qAS at e;obtain⟨u,hu,hr⟩:=zf h.rf h.gl g;simp only[hu,qxW]at e;split at e
 case h_2=>cases e
 rename_i f l1 l2;obtain⟨b1,b2,hV,hr1,hr2⟩:=hr.fnI;rw[bi_eq]at e;split at e
 case isFalse=>cases e
 rename_i hb;obtain⟨fn0,hf0,c0,hc0⟩:=qCj hb;rw[M.new_eq]at e;split at e
 case isFalse=>cases e
 rename_i hnx;simp only[appF_eq]at e;refine wpIn_rangeFunc fun fid _=>?_;obtain⟨w1,hw1⟩:∃ w1,w1=w.alloc (.deferred (some [])):=⟨_,rfl⟩
 obtain⟨lr,hlr⟩:∃ lr:Loop,lr={ state:=.ready,pending:=none,fn:=fid,tmps:=a.tmps,params:=ps,assign:=as,body:=bo,defers:=w.heap.size }:=⟨_,rfl⟩
 obtain⟨w2,hw2⟩:∃ w2,w2=w1.alloc (.loop lr):=⟨_,rfl⟩
 have hs1:w1.heap.size=w.heap.size+1:=by rw[hw1];exact size_alloc _ _
 have hs2:w2.heap.size=w1.heap.size+1:=by rw[hw2];exact size_alloc _ _
 obtain⟨hpa,gna⟩:=h.hp.extra (.deferred (some []));rw[<- hw1]at hpa gna;have hset:=Mu.set_same μ m.next ⟨w1.heap.size,0,0⟩;have hext:=Mu.set_ext (μ:=μ) (j:=m.next) ⟨w1.heap.size,0,0⟩ (h.hp.fresh _ (Nat.le_refl _));obtain⟨hpb,gnb⟩:=Hp.new (w:=w1) (w':=w2) hpa hnx (o:=.loop F dp nt ps.toList as bo 0 .norm) (x:=⟨w1.heap.size,0,0⟩) rfl hs2 (fun b hb=>by rw[hw2,heap_alloc,if_neg (by omega)])
  ⟨_,lr,hset,by rw[hw2,heap_alloc,if_pos rfl],by rw[hlr],by rw[hlr],by rw[hlr],by rw[hlr];exact h.rf.mono hext,by rw[hlr];exact⟨rfl,rfl,rfl⟩⟩ ⟨by rw[hw2];rfl,by rw[hw2];rfl⟩ (fun hr=>by cases hr)
 have mk1:Mk w0 μ m w1 (mkD w.heap.size::D):=by
  refine⟨⟨w.heap.size,rfl,h.gn.size,by omega,by rw[hw1,heap_alloc,if_pos rfl],fun i y _ ey=>?_,fun d' hd he=>?_⟩,hk.step gna⟩
  . have:=h.hp.lt i y ey;omega
  . obtain⟨r',e1,e2⟩:=hk.lt d' hd;rw[e1]at he;unfold mkD at he;simp at he;omega
 have mk2:=mk1.step gnb;have hL:RL (μ.set m.next ⟨w1.heap.size,0,0⟩) (l1.toList++([ydV m.next]++l2.toList)) (b1++#[ydV w1.heap.size]++b2).toList:=by simp only[Array.toList_append,List.append_assoc];exact(hr1.mono hext).append ((RL.cons (.yd m.next _ hset) .nil).append (hr2.mono hext))
 generalize hcall:rec (.fn f) (l1.toList++([ydV m.next]++l2.toList)) (m.push (.loop F dp nt ps.toList as bo 0 .norm))=r at e;rw[qvw]at e;have hno:∀ k,r≠.no k:=by rintro k rfl;cases e
 have key:=hrec (.fn f) _ _ r hcall hno _ w2 _ hpb (h.gl.mono hext) hL;rcases key with⟨fn,f1,f2,f3,f4⟩|⟨_,_,_,_,_,_,_,_,_,_,f1⟩
 case inr=>rw[f1 fn0 hf0]at hc0;cases hc0
 have rfn:RF (μ.set m.next ⟨w1.heap.size,0,0⟩) dp nt F a.tmps:=h.rf.mono hext;refine⟨w1.heap.size,[mkD w.heap.size],w2,{ target:=.fn (.func f) b2,args:=b1++#[ydV w1.heap.size] },w2,f,b1++#[ydV w1.heap.size]++b2,w2,?_,?_,fun _ _=>trivial,?_,fun h=>FW.room h,qAh (f4.mono fun en w3 hfin=>?_)⟩
 . show(Instr.enterLoop fid a.tmps ps as bo none).run P w=_;simp only[Instr.enterLoop,Sem.run_bind,run_newObj,Result.andThen_ok,Sem.run_pure];rw[hw2,hlr,hw1];rfl
 . have hc:a.eval (.const (.func (.yield w1.heap.size) #[] #[]))=ydV w1.heap.size:=rfl;simp only[resolve,hV,Deferred.ofValue];simp[hc]
 . exact Yh f1 f2 f3 _ _
 .
  cases r with
  |no k=>exact absurd rfl (hno k)
  |ret v m2=>
   cases en with
   |returned V=>
    obtain⟨μ3,hv,hp3,gn3⟩:=hfin;simp only[M.get_eq,qwy]at e;split at e
    case h_2=>cases e
    rename_i F1 dp1 nt1 ps1 as1 bo1 st pend hat
    rw[bi_eq]at e;split at e
    case isFalse=>cases e
    rename_i hst;rw[M.put_eq]at e;cases e;have hx3:μ3 m.next=some ⟨w1.heap.size,0,0⟩:=gn3.ext _ _ hset;have ho:=hp3.obj m.next _ hx3;rw[hat]at ho;obtain⟨y,r,o1,o2,o3,o4,o5,o6,o7⟩:=ho;rw[hx3]at o1;cases o1;obtain⟨t1,t2,t3⟩:=hp3.loop hx3 (by rw[hat];rfl) (r':={ r with state:=.exhausted }) o2 (o:=.dead) (fun _ _=>trivial) rfl;have hnb:(r.state == .busy)=false:=by
     match st,o7 with
     |0,o7=>rw[o7.1];rfl
     |1,o7=>rw[o7.1];rfl
    have hend:(Instr.endLoop w1.heap.size).run P w3=.ok r.pending { w3 with heap:=w3.heap.setIfInBounds w1.heap.size (.loop { r with state:=.exhausted }) }:=by simp only[Instr.endLoop,Sem.run_bind,run_getLoop o2,Result.andThen_ok,hnb,Bool.false_eq_true,if_false,Sem.run_pure,t1]
    have stand:∀ e',Ex μ3 x e'->qvV true D P dp nt μ0 m0 w0 x F (m2.setA m.next .dead) e' { a with defers:=[mkD w.heap.size]++a.defers } { w3 with heap:=w3.heap.setIfInBounds w1.heap.size (.loop { r with state:=.exhausted }) }:=fun e' he=>⟨mkD w.heap.size::D,μ3,he,⟨t2,(((h.gn.trans gna).trans gnb).trans gn3).trans t3,(h.gl.mono hext).mono gn3.ext,(rfn.mono gn3.ext).mono t3.ext,by show [mkD w.heap.size]++a.defers=_;rw[h.df];rfl⟩,fun _=>(mk2.step gn3).step t3,fun h=>by cases h⟩
    generalize ({ w3 with heap:=w3.heap.setIfInBounds w1.heap.size (.loop { r with state:=.exhausted }) }:World)=w4 at hend stand;refine⟨r.pending,w4,hend,?_⟩
    match st,o7 with
    |0,o7=>obtain⟨_,hx,hp⟩:=o7;rw[hp];exact hq _ _ _ (stand _ (by rw[hx];exact .norm))
    |1,o7=>
     obtain⟨_,⟨hx,hp⟩|⟨id,hx,hp⟩⟩:=o7
     . rw[hp];exact wpIn_ret (hq _ _ _ (stand _ (by rw[hx];exact .ret)))
     . rw[hp];exact wpIn_exit (hq _ _ _ (stand _ (by rw[hx];exact .exit id)))
   |_=>exact hfin.elim
  |pan v m2=>
   cases en with
   |panicked chain=>obtain⟨V,μ3,rfl,hv,hp3,gn3⟩:=hfin;cases e;exact hq _ _ _ ⟨mkD w.heap.size::D,μ3,.pan _ _ hv,⟨hp3,((h.gn.trans gna).trans gnb).trans gn3,(h.gl.mono hext).mono gn3.ext,rfn.mono gn3.ext,by show [mkD w.heap.size]++a.defers=_;rw[h.df];rfl⟩,fun _=>mk2.step gn3,fun h=>by cases h⟩
   |_=>exact hfin.elim
end
end E
end Go.Proofs.YtjnefcbeemkkeaaGreat
namespace Go.Proofs.YtjnefcbeemkkeaaGreat
namespace E
section
variable {ro:Option Nat} {rg:Bool} {P:Program} {dp nt:Nat} {μ0:Mu} {m0:M} {w0:World} {rec:Rec}
theorem qvV.chain {D1 D}(hD:rg=false->D1=D){x F m e a w}(h:qvV rg D1 P dp nt μ0 m0 w0 x F m e a w):qvV rg D P dp nt μ0 m0 w0 x F m e a w:=by obtain⟨D2,μ,h1,h2,h3,h4⟩:=h;exact⟨D2,μ,h1,h2,h3,fun h=>(h4 h).trans (hD h)⟩
theorem qwR {body n0 Q x F' m' D0}(hq:∀ e a' w',qvV rg D0 P dp nt μ0 m0 w0 x F' m' e a' w'->Q e a' w')(hb:∀ D F m a w μ x F' m' Q,St D P dp nt μ0 m0 w0 F m a w μ->(rg=true->Mk w0 μ m w D)->(code P dp nt rg body).f rec n0 F m=.go x F' m'->(∀ e a' w',qvV rg D P dp nt μ0 m0 w0 x F' m' e a' w'->Q e a' w')->body.wpIn (FW ro) 0 P Q a w):
  ∀ (n:Nat) (D:List Deferred) (hD:rg=false->D=D0) (F:T Value) (m:M) (a:Act) (w:World) (μ:Mu),St D P dp nt μ0 m0 w0 F m a w μ->(rg=true->Mk w0 μ m w D) ->
   rN (A:=T Value) (B:=M->Out) (fun _ _=>.no 141) (fun _ ih F m=>qwo ((code P dp nt rg body).f rec n0 F m) (fun x F m=>onX x (ih F m) (.go x F m)) Out.no) n F m=.go x F' m'->Code.roundsIn (FW ro) 0 P body Q n a w
 |0,D,hD,F,m,a,w,μ,h,hk,e=>by cases e
 |n+1,D,hD,F,m,a,w,μ,h,hk,e=>by
  rw[rN_succ,qvd]at e;rw[roundsIn_succ];split at e
  .
   rename_i x1 F1 m1 h1;refine hb D F m a w μ x1 F1 m1 _ h hk h1 fun e1 a1 w1 hs=>?_;obtain⟨D1,μ1,hx,hst,hk1,hD1⟩:=hs;rw[qxE]at e;cases hx with
   |norm=>exact qwR hq hb n D1 (fun h=>(hD1 h).trans (hD h)) F1 m1 a1 w1 μ1 hst hk1 e
   |ret=>cases e;exact hq _ _ _ ⟨D1,μ1,.ret,hst,hk1,fun h=>(hD1 h).trans (hD h)⟩
   |exit id=>cases e;exact hq _ _ _ ⟨D1,μ1,.exit id,hst,hk1,fun h=>(hD1 h).trans (hD h)⟩
   |pan v V hv=>cases e;exact hq _ _ _ ⟨D1,μ1,.pan v V hv,hst,hk1,fun h=>(hD1 h).trans (hD h)⟩
  . cases e
theorem qu4 (hle:nt<=4 ^ dp)(hrec:RecSound P rec)(hmix:P.follows .mixedOrders=true)(hrg:rg=true->ro=none)(n):∀ (c:Code) (D:List Deferred) (F:T Value) (m:M) (a:Act) (w:World) (μ:Mu) (x:X) (F':T Value) (m':M) (Q:Exit->Act->World->Prop),St D P dp nt μ0 m0 w0 F m a w μ->(rg=true->Mk w0 μ m w D) ->
  (code P dp nt rg c).f rec n F m=.go x F' m'->(∀ e a' w',qvV rg D P dp nt μ0 m0 w0 x F' m' e a' w'->Q e a' w')->c.wpIn (FW ro) 0 P Q a w
 |.skip,D,F,m,a,w,μ,x,F',m',Q,h,hk,e,hq=>by cases e;exact wpIn_skip (hq _ _ _ ⟨D,μ,.norm,h,hk,fun _=>rfl⟩)
 |.region id ops draw,D,F,m,a,w,μ,x,F',m',Q,h,hk,e,hq=>by
  unfold code at e;cases draw with
  |true=>exact qzS (μ0:=μ) (m0:=m) (w0:=w) hle hrec hmix ⟨h.hp,.refl _ _ _,h.gl,h.rf,h.df⟩ e fun e a' w' ⟨μ',hx,hs⟩=>hq _ _ _ ⟨D,μ',hx,⟨hs.hp,h.gn.trans hs.gn,hs.gl,hs.rf,hs.df⟩,fun h=>(hk h).step hs.gn,fun _=>rfl⟩
  |false=>
   refine wpIn_region ?_;have hr:List.range ops.size=List.range' 0 ops.toList.length:=by rw[List.range_eq_range'];simp
   rw[hr];exact qvS (μ0:=μ) (m0:=m) (w0:=w) hrec ops.toList 0 F m a w μ x F' m' (fun k o h=>by simpa using h) ⟨h.hp,.refl _ _ _,h.gl,h.rf,h.df⟩ e fun e a' w' ⟨μ',hx,hs⟩=>hq _ _ _ ⟨D,μ',hx,⟨hs.hp,h.gn.trans hs.gn,hs.gl,hs.rf,hs.df⟩,fun h=>(hk h).step hs.gn,fun _=>rfl⟩
 |.seq c1 c2,D,F,m,a,w,μ,x,F',m',Q,h,hk,e,hq=>by
  unfold code seqC at e;simp only[qvd]at e;split at e
  .
   rename_i x1 F1 m1 h1;refine wpIn_seq (qu4 hle hrec hmix hrg n c1 D F m a w μ x1 F1 m1 _ h hk h1 fun e1 a1 w1 hs=>?_);obtain⟨D1,μ1,hx,hst,hk1,hD1⟩:=hs;rw[qxE]at e;cases hx with
   |norm=>exact qu4 hle hrec hmix hrg n c2 D1 F1 m1 a1 w1 μ1 x F' m' Q hst hk1 e fun _ _ _ h=>hq _ _ _ (h.chain hD1)
   |ret=>cases e;exact hq _ _ _ ⟨D1,μ1,.ret,hst,hk1,hD1⟩
   |exit id=>cases e;exact hq _ _ _ ⟨D1,μ1,.exit id,hst,hk1,hD1⟩
   |pan v V hv=>cases e;exact hq _ _ _ ⟨D1,μ1,.pan v V hv,hst,hk1,hD1⟩
  . cases e
 |.cond c c1 c2,D,F,m,a,w,μ,x,F',m',Q,h,hk,e,hq=>by
  unfold code condC at e;obtain⟨v,hv,hr⟩:=zf h.rf h.gl c;simp only[hv,qvH]at e;split at e
  . rename_i t;have hV:=hr.bool;rw[bi_eq]at e;cases t with
    |true=>exact wpIn_cond_true hV (qu4 hle hrec hmix hrg n c1 D F m a w μ x F' m' Q h hk e hq)
    |false=>exact wpIn_cond_false hV (qu4 hle hrec hmix hrg n c2 D F m a w μ x F' m' Q h hk e hq)
  . cases e
 |.block id b,D,F,m,a,w,μ,x,F',m',Q,h,hk,e,hq=>by
  unfold code qBI at e;simp only[qvd,qDo]at e;split at e
  .
   rename_i x1 F1 m1 h1;refine wpIn_block (qu4 hle hrec hmix hrg n b D F m a w μ x1 F1 m1 _ h hk h1 fun e1 a1 w1 hs=>?_);obtain⟨D1,μ1,hx,hst,hk1,hD1⟩:=hs;cases hx with
   |norm=>cases e;exact hq _ _ _ ⟨D1,μ1,.norm,hst,hk1,hD1⟩
   |ret=>cases e;exact hq _ _ _ ⟨D1,μ1,.ret,hst,hk1,hD1⟩
   |exit id'=>
    simp only[Exit.inBlock];simp only at e;split at e
    . rename_i hid;rw[if_pos hid];cases e;exact hq _ _ _ ⟨D1,μ1,.norm,hst,hk1,hD1⟩
    . rename_i hid;rw[if_neg hid];cases e;exact hq _ _ _ ⟨D1,μ1,.exit id',hst,hk1,hD1⟩
   |pan v V hv=>cases e;exact hq _ _ _ ⟨D1,μ1,.pan v V hv,hst,hk1,hD1⟩
  . cases e
 |.loop b,D,F,m,a,w,μ,x,F',m',Q,h,hk,e,hq=>by unfold code qDr at e;exact wpIn_loop_rounds n (qwR (rg:=rg) hq (fun D F m a w μ x F' m' Q h hk e hq=>qu4 hle hrec hmix hrg n b D F m a w μ x F' m' Q h hk e hq) n D (fun _=>rfl) F m a w μ h hk e)
 |.exit id,D,F,m,a,w,μ,x,F',m',Q,h,hk,e,hq=>by cases e;exact wpIn_exit (hq _ _ _ ⟨D,μ,.exit id,h,hk,fun _=>rfl⟩)
 |.ret,D,F,m,a,w,μ,x,F',m',Q,h,hk,e,hq=>by cases e;exact wpIn_ret (hq _ _ _ ⟨D,μ,.ret,h,hk,fun _=>rfl⟩)
 |.rangeFunc g ps as bo,D,F,m,a,w,μ,x,F',m',Q,h,hk,e,hq=>by
  unfold code at e;rw[bi_eq]at e;split at e
  . rename_i h1;have:=hrg h1;subst this;subst h1;exact qxn (n:=n) hrec h (hk rfl) e hq
  . cases e
 |.scope _,_,_,_,_,_,_,_,_,_,_,_,_,e,_=>by cases e
 |.label _,_,_,_,_,_,_,_,_,_,_,_,_,e,_=>by cases e
 |.goto _,_,_,_,_,_,_,_,_,_,_,_,_,e,_=>by cases e
 |.refuse _,_,_,_,_,_,_,_,_,_,_,_,_,e,_=>by cases e
end
end E
end Go.Proofs.YtjnefcbeemkkeaaGreat
namespace Go.Proofs.YtjnefcbeemkkeaaGreat
namespace E
section
variable {P:Program} {dp nt:Nat} {μ0:Mu} {m0:M} {w0:World} {rec:Rec}
theorem qCr {β}(q f)(z:Nat->β):onDO q f z=match q with|.go x F m d=>f x F m d|.no w=>z w:=by cases q<;>rfl
theorem qCt {β}(x f g)(z:β):onXP x f g z=match x with|.norm=>f|.ret=>f|.exit _=>z|.pan v=>g v:=by cases x<;>rfl
theorem qzi {F n}{o:Oper}{a K K' Q Q'}(h:∀ a w,K a w->K' a w)(hq:∀ c a w,Q (.panic c) a w->Q' (.panic c) a w)(ho:LetsOut Q->LetsOut Q'){r}(hh:o.uponIn F n P a K Q r):o.uponIn F n P a K' Q' r:=by
 cases r with
 |ok x w'=>
  cases x<;>simp only[Oper.uponIn]at hh |- <;>
   first
    |exact h _ _ hh
    |exact⟨hh.1,CallsIn.mono hh.2 (fun e w'' he=>by cases e<;>first|exact h _ _ he|exact hq _ _ _ he|exact ho he)⟩
    |exact⟨hh.1,RowsIn.mono hh.2 (fun _ _ he=>h _ _ he)⟩
    |exact⟨hh.1,RoundIn.mono hh.2 (fun e w'' he=>by cases e<;>first|exact h _ _ he|exact hq _ _ _ he|exact ho he)⟩
 |halt x w'=>cases x<;>simp only[Oper.uponIn]at hh |-<;>first|exact hh|exact hq _ _ _ hh
theorem qvn {F n ops Q}(l2):∀ (l1:List Nat) (a:Act) (w:World),wpOpsIn F n P ops (Exit.then (wpOpsIn F n P ops Q l2) Q) l1 a w->wpOpsIn F n P ops Q (l1++l2) a w
 |[],a,w,h=>h
 |i::l1,a,w,h=>by
  simp only[List.cons_append,wpOpsIn]at h |-;split
  . rename_i ho;simp only[ho]at h;exact qvn l2 l1 a w h
  . rename_i o ho;simp only[ho]at h;split
    . rename_i hw;rw[if_pos hw]at h;exact⟨h.1,qzi (fun a w h=>qvn l2 l1 a w h) (fun c a w h=>h) (fun h=>h) h.2⟩
    . rename_i hw;rw[if_neg hw]at h;exact⟨h.1,qvn l2 l1 _ w h.2⟩
theorem qBs {ops o c}(h:qBr ops=some (o,c)):ops.getLast? = some o/\o.op=.defer c/\o.guard=none:=by
 unfold qBr at h;split at h
 .
  rename_i o' ho;split at h
  . rename_i c' h1 h2;cases h;exact⟨ho,h1,h2⟩
  . cases h
 . cases h
def DfOk (μ:Mu):Option (Nat×List Value)->List Deferred->Prop
 |none,D=>D=[]
 |some (f,l),D=>∃ b1 b2:Array Value,D=[{ target:=.fn (.func f) b2,args:=b1 }]/\RL μ l (b1++b2).toList
theorem DfOk.mono {μ μ'}(he:Ext μ μ'){d D}(h:DfOk μ d D):DfOk μ' d D:=by
 cases d with
 |none=>exact h
 |some p=>obtain⟨b1,b2,h1,h2⟩:=h;exact⟨b1,b2,h1,h2.mono he⟩
def qB5 (P:Program)(dp nt:Nat)(μ0:Mu)(m0:M)(w0:World)(d:Option (Nat×List Value))(x:X)(F:T Value)(m:M)(e:Exit)(a:Act)(w:World):Prop:=∃ D μ,Ex μ x e/\St D P dp nt μ0 m0 w0 F m a w μ/\DfOk μ d D
theorem qyM {o c}(hop:o.op=.defer c){F m a w μ k x F' m' d}(h:St [] P dp nt μ0 m0 w0 F m a w μ)(e:qCw P dp nt o c k F m=.go x F' m' d){K Q}(hK:∀ F1 a1 D d1,k F1 m d1=.go x F' m' d->DfOk μ d1 D->St D P dp nt μ0 m0 w0 F1 m a1 w μ->K a1 w):o.wpIn (FW none) 0 P a w K Q:=by
 unfold qCw qwr at e;obtain⟨callee,cargs,ctys⟩:=c;cases callee with
 |value g=>
  obtain⟨u,hu,hr⟩:=zf h.rf h.gl g;obtain⟨as,has,hras⟩:=qvW (P:=P) h.rf h.gl cargs.toList;simp only[hu,qxW]at e;split at e
  case h_2=>
   simp only[qyZ]at e;split at e
   . simp only[has]at e;rw[qxX]at e;cases e
   . cases e
  rename_i f l1 l2;simp only[has,appF_eq]at e;rw[qxX]at e;simp only at e;obtain⟨b1,b2,hV,hr1,hr2⟩:=hr.fnI;have hL:RL μ (l1.toList++(as++l2.toList)) ((b1++cargs.map a.eval++b2).toList):=by simp only[Array.toList_append,Array.toList_map,List.append_assoc];exact hr1.append (hras.append hr2)
  obtain⟨F1,k1,k2⟩:=h.rf.put (a:={ a with defers:={ target:=.fn (.func f) b2,args:=b1++cargs.map a.eval }::a.defers }) (v:=undef) (V:=Go.undef) .undef o.dst (fun F=>k F m (some (f,l1.toList++(as++l2.toList))));rw[k1]at e;refine⟨fun _ _=>trivial,?_⟩;have hsem:(o.semAt (FW none).round a.eval).run P w=.ok (.defer { target:=.fn (.func f) b2,args:=b1++cargs.map a.eval }) w:=by show(execOp a.eval o).run P w=_;simp only[execOp,hop,resolve,hV,Deferred.ofValue];rfl
  rw[hsem,Oper.uponIn_defer];refine hK F1 _ [{ target:=.fn (.func f) b2,args:=b1++cargs.map a.eval }] _ e ⟨_,_,rfl,hL⟩ ⟨h.hp,h.gn,h.gl,k2,?_⟩;rw[put_defers,h.df]
 |_=>cases e
theorem qyL (hle:nt<=4 ^ dp)(hrec:RecSound P rec)(hmix:P.follows .mixedOrders=true)(n):∀ (c:Code) (k:Bx Dc),qBh P dp nt c=some k->∀ (F:T Value) (m:M) (a:Act) (w:World) (μ:Mu) (x:X) (F':T Value) (m':M) (d:Option (Nat×List Value)) (Q:Exit->Act->World->Prop),
  St [] P dp nt μ0 m0 w0 F m a w μ->k.f rec n F m=.go x F' m' d->(∀ e a' w',qB5 P dp nt μ0 m0 w0 d x F' m' e a' w'->Q e a' w')->c.wpIn (FW none) 0 P Q a w:=by
 intro c
 induction c with
 |seq c1 c2 _ ih=>
  intro k hk F m a w μ x F' m' d Q h e hq;unfold qBh at hk;split at hk
  .
   rename_i ops o c hm;cases hk;simp only[qzy,onXD,qvd,qxE]at e;split at hm
   case h_2=>cases hm
   rename_i id ops' _;cases hl:qBr ops'.toList with
   |none=>rw[hl]at hm;cases hm
   |some oc=>
    rw[hl]at hm;cases hm;obtain⟨l1,l2,l3⟩:=qBs hl;refine wpIn_seq (wpIn_region ?_);have hne:ops'.toList≠[]:=by intro h0;rw[h0]at l1;cases l1
    have hdl:ops'.toList=ops'.toList.dropLast++[o]:=by
     have h1:=List.dropLast_concat_getLast hne;have h2:ops'.toList.getLast hne=o:=by have:=List.getLast?_eq_some_getLast hne;rw[l1]at this;exact(Option.some.inj this).symm
     rw[h2]at h1;exact h1.symm
    have hlen:ops'.size=ops'.toList.dropLast.length+1:=by have:=congrArg List.length hdl;simpa using this
    have hr:List.range ops'.size=List.range' 0 ops'.toList.dropLast.length++[ops'.toList.dropLast.length]:=by rw[hlen,List.range_succ,List.range_eq_range']
    rw[hr];refine qvn _ _ _ _ ?_;split at e
    case h_2=>cases e
    rename_i x1 F1 m1 hx;have hat:ops'[ops'.toList.dropLast.length]? = some o:=by rw[<- Array.getElem?_toList];generalize ops'.toList.dropLast=l at hdl |-;rw[hdl];simp
    refine qvS (μ0:=μ0) (m0:=m0) (w0:=w0) hrec ops'.toList.dropLast 0 F m a w μ x1 F1 m1 (fun k o' hk=>by rw[Nat.zero_add,<- Array.getElem?_toList];generalize ops'.toList.dropLast=l at hdl hk;rw[hdl,List.getElem?_append_left (List.getElem?_eq_some_iff.1 hk).1];exact hk) h hx fun e1 a1 w1 hs=>?_;obtain⟨μ1,hx1,st1⟩:=hs;cases hx1 with
    |norm=>
     simp only at e;show wpOpsIn (FW none) 0 P ops' _ [ops'.toList.dropLast.length] a1 w1;have hwant:Region.wanted o (yielded ops' a1.tmps)=true:=by simp only[Region.wanted,l3]
     simp only[wpOpsIn,hat,hwant,if_true];refine qyM l2 st1 e fun F2 a2 D d1 e2 hd hst=>?_;show c2.wpIn (FW none) 0 P Q a2 w1;split at e2
     case h_2=>cases e2
     rename_i x3 F3 m3 h3;cases e2;refine qu4 (ro:=none) (rg:=false) (μ0:=μ1) (m0:=m1) (w0:=w1) hle hrec hmix (fun h=>by cases h) n c2 D F2 m1 a2 w1 μ1 x F' m' Q ⟨hst.hp,.refl _ _ _,hst.gl,hst.rf,hst.df⟩ (fun h=>by cases h) h3 fun e4 a4 w4 hs=>?_;obtain⟨D4,μ4,hx4,st4,_,hD4⟩:=hs;have:=hD4 rfl;subst this;exact hq _ _ _ ⟨D4,μ4,hx4,⟨st4.hp,st1.gn.trans st4.gn,st4.gl,st4.rf,st4.df⟩,hd.mono st4.gn.ext⟩
    |ret=>cases e
    |exit id=>cases e
    |pan v V hv=>cases e
  .
   split at hk
   .
    rename_i k2 hk2;cases hk;simp only[qzy,onXD,qvd,qxE]at e;split at e
    case h_2=>cases e
    rename_i x1 F1 m1 hx;refine wpIn_seq (qu4 (ro:=none) (rg:=false) hle hrec hmix (fun h=>by cases h) n c1 [] F m a w μ x1 F1 m1 _ h (fun h=>by cases h) hx fun e1 a1 w1 hs=>?_);obtain⟨D1,μ1,hx1,st1,_,hD1⟩:=hs;have:=hD1 rfl;subst this;cases hx1 with
    |norm=>exact ih k2 hk2 F1 m1 a1 w1 μ1 x F' m' d Q st1 e hq
    |ret=>cases e;exact hq _ _ _ ⟨[],μ1,.ret,st1,rfl⟩
    |exit id=>cases e;exact hq _ _ _ ⟨[],μ1,.exit id,st1,rfl⟩
    |pan v V hv=>cases e;exact hq _ _ _ ⟨[],μ1,.pan v V hv,st1,rfl⟩
   . cases hk
 |_=>intro k hk;cases hk
theorem qBx {c d o b}(h:qCy c=some (d,o,b)):∃ id ops r ca,c=.seq (.region id ops false) b/\ops = #[r,o]/\r.op=.call ca/\ca.callee=.builtin .recover/\r.guard=none/\o.guard=none/\r.dst=d:=by
 unfold qCy at h;split at h
 case h_2=>cases h
 rename_i id ops b';split at h
 case h_2=>cases h
 rename_i r o' hops;split at h
 . rename_i args tys h1 h2 h3;cases h;exact⟨id,ops,r,_,rfl,Array.toList_inj.1 hops,h1,rfl,h2,h3,rfl⟩
 . cases h
def Back (P:Program)(μ:Mu)(m:M)(w:World)(m2:M):Ending->FrameMode->World->Prop
 |.returned _,u',w'=>settle u'=.returning/\∃ μ',Hp P μ' m2 w'/\Gn μ m w μ' m2 w'
 |_,_,_=>False
theorem qCR {ops i rest r n a css cs' w V0 Q}(h0:ops[i]? = some r)(hw:Region.wanted r (yielded ops a.tmps)=true)(run0:(execOp a.eval r).run P w=.ok .recover w)(hr:recoverD css=some (V0,cs')\/(recoverD css=none/\V0=.nilIface/\cs'=css))(h:wpOpsSIn (FW none) n P ops Q rest (a.put r.dst V0) cs' w):wpOpsSIn (FW none) n P ops Q (i::rest) a css w:=by simp only[wpOpsSIn,h0,hw,run0,if_true];refine⟨fun _ _=>trivial,?_⟩;rcases hr with hr|⟨hr,rfl,rfl⟩<;>simp only[hr]<;>exact h
theorem qCS {ops i rest o n a css w V Q}(h0:ops[i]? = some o)(hw:Region.wanted o (yielded ops a.tmps)=true)(run0:(execOp a.eval o).run P w=.ok (.value V) w)(h:wpOpsSIn (FW none) n P ops Q rest (a.put o.dst V) css w):wpOpsSIn (FW none) n P ops Q (i::rest) a css w:=by simp only[wpOpsSIn,h0,hw,run0,if_true];exact⟨fun _ _=>trivial,h⟩
theorem qy6 (hrec:RecSound P rec)(hmix:P.follows .mixedOrders=true){f n l rv v m m2}(e:(qAW P f).f rec n l rv m=.ret v m2){μ w L u}(hp:Hp P μ m w)(hg:Gl P μ)(hL:RL μ l L.toList)(hu:(u=.returning/\rv=nilV)\/∃ V,u=.panicking [{ v:=V,recovered:=false }]/\R μ rv V)(hnum:∀ (f:Nat) (fn:Func),P.funcs[f]? = some fn->(fn.name == "runtime.NumGoroutine")=false)(hres:∀ {dp nt:Nat} {F:T Value} {m:M} {a:Act} {w:World} {μ:Mu} (hF:RF μ dp nt F a.tmps) (hG:Gl P μ) (hO:HO μ w m) {r:CO} (hno:∀ j,r≠.no j) (fn:Func) (c:List Value->CO),(resL P dp fn.results.toList).f F m c=r->∃ v,(results fn a.tmps).run P w=.ok v w/\∃ vs,c vs=r)(hbegin:∀ {dp nt:Nat} {c:T Value->CO} {r:CO},nt<=4 ^ dp->(∀ j,r≠.no j)->qyF dp nt l 0 .e c=r->∃ F1,c F1=r/\RF μ dp nt F1 (L++Array.replicate (nt-L.size) Go.undef))(hdp:∀ n,n<=1024->n<=4 ^ dpOf n):
  ∃ fn,P.funcs[f]? = some fn/\fn.body.isSome=true/\(fn.name == "runtime.NumGoroutine")=false/\CallsDIn (FW none) (0-1) P f L u w (Back P μ m w m2):=by
 unfold qAW at e;split at e
 . cases e
 rename_i fn hf;split at e
 . cases e
 rename_i c hb;split at e
 . cases e
 rename_i d o b hrc;obtain⟨id,ops,r,ca,rfl,rfl,hr1,hr2,hr3,ho3,hrd⟩:=qBx hrc;rw[bi_eq]at e;split at e
 . cases e
 rename_i hck;rw[ve,qu1]at hck;simp only[Bool.not_eq_true',Bool.not_eq_false,Bool.and_eq_true]at hck;obtain⟨hq,hnt⟩:=hck;subst hrd;have hnt:fn.ntmps<=1024:=Nat.le_of_ble_eq_true hnt;have hle:=hdp _ hnt;have hno:∀ j,CO.ret v m2≠.no j:=fun j h=>by cases h
 obtain⟨F1,e,hrf⟩:=hbegin hle hno e;refine⟨fn,hf,by rw[hb];rfl,hnum f fn hf,callsDIn_of_wpSIn hf hb trivial fun c0 cs hc0=>?_⟩
 -- what is recovered
 obtain⟨V0,cs',hrec0,hrv,hset⟩:∃ (V0:Value) (cs':List Frame),(recoverD (c0::cs)=some (V0,cs')\/(recoverD (c0::cs)=none/\V0=.nilIface/\cs'=c0::cs))/\R μ rv V0/\∃ u',settle u'=.returning/\cs'={ c0 with mode:=u' }::cs:=by
  rcases hu with⟨rfl,rfl⟩|⟨V,rfl,hV⟩
  . refine⟨.nilIface,c0::cs,.inr ⟨by simp only[recoverD,hc0],rfl,rfl⟩,.sc _ rfl,.returning,rfl,?_⟩;rw[<- hc0]
  . exact⟨V,{ c0 with mode:=.panicking [{ v:=V,recovered:=true }] }::cs,.inl (by simp only[recoverD,hc0]),hV,.panicking [{ v:=V,recovered:=true }],rfl,rfl⟩
 obtain⟨u',hsettle,rfl⟩:=hset;refine wpSIn_seq (wpSIn_region ?_);have h0:(#[r,o]:Array Oper)[0]? = some r:=rfl;have h1:(#[r,o]:Array Oper)[1]? = some o:=rfl;show wpOpsSIn (FW none) (0-1) P #[r,o] _ [0,1] _ _ w;have hw0:∀ ts:Array Value,Region.wanted r (yielded #[r,o] ts)=true:=fun ts=>by simp only[Region.wanted,hr3]
 have hw1:∀ ts:Array Value,Region.wanted o (yielded #[r,o] ts)=true:=fun ts=>by simp only[Region.wanted,ho3]
 have run0:∀ a:Act,(execOp a.eval r).run P w=.ok .recover w:=fun a=>by obtain⟨callee,cargs,ctys⟩:=ca;simp only at hr2;subst hr2;simp only[execOp,hr1,resolve,pure_bind,invoke,builtin];rfl
 refine qCR h0 (hw0 _) (run0 _) hrec0 ?_;obtain⟨F2,k1,k2⟩:=RF.put (a:={ tmps:=L++Array.replicate (fn.ntmps-L.size) Go.undef,defers:=[] }) hrf hrv r.dst (fun F=>onQV ((quiet P (dpOf fn.ntmps) o.op).f F m) (fun v=>(putD (dpOf fn.ntmps) fn.ntmps o.dst).f v F fun F=>qwo ((code P (dpOf fn.ntmps) fn.ntmps false b).f rec n F m) (fun x F m=>leave x m fun c=>(resL P (dpOf fn.ntmps) fn.results.toList).f F m c) CO.no) CO.no);rw[k1,qxj]at e;split at e
 case h_2=>cases e
 rename_i v1 hv1;obtain⟨V1,run1,hR1⟩:=qaS (w:=w) hp.root k2 hg hp.obj hv1 o.dst o.type o.pos o.after o.guard;have run1':(execOp ((({ tmps:=L++Array.replicate (fn.ntmps-L.size) Go.undef,defers:=[] }:Act).put r.dst V0).eval) o).run P w=.ok (.value V1) w:=run1;refine qCS h1 (hw1 _) run1' ?_;obtain⟨F3,k3,k4⟩:=RF.put k2 hR1 o.dst (fun F=>qwo ((code P (dpOf fn.ntmps) fn.ntmps false b).f rec n F m) (fun x F m=>leave x m fun c=>(resL P (dpOf fn.ntmps) fn.results.toList).f F m c) CO.no);rw[k3,qvd]at e;split at e
 case h_2=>cases e
 rename_i x F4 m4 h4;refine wpSIn_of_wpIn (F:=FW none) rfl (qu4 (ro:=none) (rg:=false) (μ0:=μ) (m0:=m) (w0:=w) hle hrec hmix (fun h=>by cases h) n b [] F3 m _ w μ x F4 m4 _ ⟨hp,.refl _ _ _,hg,k4,by rw[put_defers,put_defers]⟩ (fun h=>by cases h) h4 fun e5 a5 w5 hs=>?_);obtain⟨D5,μ5,hx5,st5,_,hD5⟩:=hs;have:=hD5 rfl;subst this;have fin:(resL P (dpOf fn.ntmps) fn.results.toList).f F4 m4 (fun vs=>CO.ret (E.one vs) m4)=.ret v m2->a5.defers=[]/\∃ u'',({ c0 with mode:=u' }::cs:List Frame)={ c0 with mode:=u'' }::cs/\∃ v,(results fn a5.tmps).run P w5=.ok v w5/\Back P μ m w m2 (.returned v) u'' w5:=by intro e;obtain⟨v5,q1,vs,q2⟩:=hres st5.rf st5.gl st5.hp.obj hno fn _ e;cases q2;exact⟨st5.df,u',rfl,v5,q1,hsettle,μ5,st5.hp,st5.gn⟩
 cases hx5 with
 |norm=>exact fin e
 |ret=>exact fin e
 |exit id=>cases e
 |pan v V hv=>cases e
end
end E
end Go.Proofs.YtjnefcbeemkkeaaGreat
namespace Go.Proofs.YtjnefcbeemkkeaaGreat
namespace E
section
variable {P:Program} {dp nt:Nat}
theorem look_e (z:Value):∀ (dp k:Nat),T.look z dp k .e=z
 |0,k=>rfl
 |dp+1,k=>by
  have:T.kid (k % 4) (.e:T Value)=.e:=by rcases k % 4 with _|_|_|_<;>rfl
  show T.look z dp (k / 4) (T.kid (k % 4) .e)=z;rw[this];exact look_e z dp (k / 4)
theorem qwW (hle:nt<=4 ^ dp){c r}(hno:∀ j,r≠.no j):∀ (l:List Value) (k:Nat) (F:T Value),k<=nt->qyF dp nt l k F c=r ->
  k+l.length<=nt/\∃ F1,c F1=r/\∀ t,t<4 ^ dp->T.look undef dp t F1=if k<=t then(l[t-k]?).getD (T.look undef dp t F)else T.look undef dp t F
 |[],k,F,hk,e=>⟨by simpa using hk,F,e,fun t _=>by simp⟩
 |v::l,k,F,hk,e=>by
  unfold qyF at e;rw[bi_eq]at e;split at e
  .
   rename_i hlt;have hlt:k<nt:=by simpa [Nat.blt_eq]using hlt
   rw[T.set_eq]at e;obtain⟨h1,F1,h2,h3⟩:=qwW hle hno l (k+1) _ hlt e;refine⟨by simp only[List.length_cons];omega,F1,h2,fun t ht=>?_⟩;rw[h3 t ht];have hk4:=Nat.lt_of_lt_of_le hlt hle;by_cases htk:t=k
   . subst htk;rw[if_neg (by omega),if_pos (Nat.le_refl _),T.look_put_same];simp
   . rw[T.look_put_other _ _ _ _ _ _ ht hk4 htk];by_cases h4:k+1<=t
     . rw[if_pos h4,if_pos (by omega),show t-k=t-(k+1)+1 by omega,List.getElem?_cons_succ]
     . rw[if_neg h4,if_neg (by omega)]
  . exact absurd e.symm (hno _)
theorem qxN {μ}(hle:nt<=4 ^ dp){l L}(h:RL μ l L)(hn:l.length<=nt){F1}(hl:∀ t,t<4 ^ dp->T.look undef dp t F1=if 0<=t then(l[t-0]?).getD (T.look undef dp t .e)else T.look undef dp t .e):
  RF μ dp nt F1 ((⟨L⟩:Array Value)++Array.replicate (nt-(⟨L⟩:Array Value).size) Go.undef):=by
 have hLl:=h.1;refine⟨by simp;omega,hle,fun t ht=>?_⟩;rw[hl t ht,if_pos (Nat.zero_le _),look_e,Nat.sub_zero];cases hv:l[t]? with
 |none=>
  have h1:l.length<=t:=List.getElem?_eq_none_iff.1 hv;have:((⟨L⟩:Array Value)++Array.replicate (nt-(⟨L⟩:Array Value).size) Go.undef).getD t Go.undef=Go.undef:=by rw[Array.getD_eq_getD_getElem?,Array.getElem?_append_right (by simp;omega),Array.getElem?_replicate];split<;>rfl
  rw[this];exact .undef
 |some v=>
  obtain⟨V,hV,hr⟩:=h.get hv;have h1:=(List.getElem?_eq_some_iff.1 hV).1;have:((⟨L⟩:Array Value)++Array.replicate (nt-(⟨L⟩:Array Value).size) Go.undef).getD t Go.undef=V:=by
   rw[Array.getD_eq_getD_getElem?,Array.getElem?_append_left (by simpa using h1)];have:(⟨L⟩:Array Value)[t]? = some V:=by simpa using hV
   rw[this];rfl
  rw[this];exact hr
def qbe (Us:Array Value):Value:=if h:Us.size=1 then Us[0]else .tuple Us
theorem qei {P fn tmps w Us}(h:(fn.results.toList.mapM (fun x=>(match x with
    |.tmp t=>pure (tmps.getD t Go.undef)
    |.cell b t=>do loadVar t (<- asAddr (tmps.getD b Go.undef)):Sem Value))).run P w=.ok Us w):(results fn tmps).run P w=.ok (qbe Us.toArray) w:=by
 unfold results;rw[Array.mapM_eq_mapM_toList];simp only[Sem.run_bind,Sem.run_map];exact congrArg (fun r:Result (List Value)=>(r.andThen fun a w'=>Result.ok a.toArray w').andThen fun a w'=>Sem.run P (pure (if h:a.size=1 then a[0]else Value.tuple a)) w') h
theorem qeM {μ vs Us}(h:RL μ vs Us):R μ (E.one vs) (qbe Us.toArray):=by
 match vs,Us,h with
 |[],Us,h=>have:=h.nil_inv;subst this;exact .mkTup .nil
 |[v],Us,h=>obtain⟨V,l',rfl,h1,h2⟩:=h.cons_inv;have:=h2.nil_inv;subst this;exact h1
 |v::v2::vs,Us,h=>
  obtain⟨V,l',rfl,h1,h2⟩:=h.cons_inv;obtain⟨V2,l'',rfl,h3,h4⟩:=h2.cons_inv;have:qbe (V::V2::l'').toArray=.tuple ⟨V::V2::l''⟩:=by unfold qbe;rw[dif_neg (by simp)]
  rw[this];exact .mkTup h
theorem qbS {μ F m}{a:Act}{w}(hF:RF μ dp nt F a.tmps)(hG:Gl P μ)(hO:HO μ w m){r}(hno:∀ j,r≠.no j):∀ (rs:List ResultVar) (c:List Value->CO),(resL P dp rs).f F m c=r ->
  ∃ vs Us,c vs=r/\RL μ vs Us/\(rs.mapM (fun x=>(match x with
    |.tmp t=>pure (a.tmps.getD t Go.undef)
    |.cell b t=>do loadVar t (<- asAddr (a.tmps.getD b Go.undef)):Sem Value))).run P w=.ok Us w
 |[],c,e=>⟨[],[],e,.nil,rfl⟩
 |x::rs,c,e=>by
  unfold resL at e;simp only[qxj]at e;split at e
  .
   rename_i v hv;obtain⟨vs,Us,e1,e2,e3⟩:=qbS hF hG hO hno rs _ e;have hx:∃ V,(match x with
     |.tmp t=>pure (a.tmps.getD t Go.undef)
     |.cell b t=>do loadVar t (<- asAddr (a.tmps.getD b Go.undef)):Sem Value).run P w=.ok V w/\R μ v V:=by
    unfold resV at hv;cases x with
    |tmp t=>obtain⟨u,hu,hr⟩:=zf hF hG (.tmp t);simp only[hu]at hv;cases hv;exact⟨_,rfl,hr⟩
    |cell b t=>
     obtain⟨u,hu,hr⟩:=zf hF hG (.tmp b);simp only[hu,qu5]at hv;split at hv
     . rename_i ad;obtain⟨_,y,hy,hV⟩:=hr.ptrI;obtain⟨V,h1,h2⟩:=qzs (P:=P) (w:=w) hv (hO _ _ hy) hy;refine⟨V,?_,h2⟩;have hV':a.tmps.getD b Go.undef=.pointer (some ⟨y.b,y.o+ad.off,none⟩):=hV;simp only[hV',asAddr,Sem.run_bind,Sem.run_pure,Result.andThen_ok];exact h1
     . cases hv
   obtain⟨V,hV,hr⟩:=hx;refine⟨v::vs,V::Us,e1,.cons hr e2,?_⟩;rw[List.mapM_cons,Sem.run_bind,hV,Result.andThen_ok,Sem.run_bind,e3,Result.andThen_ok];rfl
  . exact absurd e.symm (hno _)
def NE (P:Program)(ne:Nat):Prop:=∀ fn,P.funcs[ne]? = some fn->fn.body=none->(fn.name == "runtime.NumGoroutine")=false/\Extern.findNext fn=none/\Extern.find fn=some Extern.AbiNoEscape.same
def NZ (P:Program)(nz:Nat):Prop:=∀ fn,P.funcs[nz]? = some fn->fn.body=none->Extern.findNext fn=none/\∃ ps,∀ t,fn.resultTypes.toList=[t]->Extern.find fn=some (Extern.BytealgMakeNoZero.makeNoZero ps #[t])
theorem qzn {μ}:∀ {l L:List Value},l.all flat=true->RL μ l L->L=l
 |[],L,_,h=>h.nil_inv
 |v::l,L,hf,h=>by obtain⟨V,l',rfl,h1,h2⟩:=h.cons_inv;simp only[List.all_cons,Bool.and_eq_true]at hf;rw[h1.flatI hf.1,qzn hf.2 h2]
theorem qAq {P fn}{f:Nat}(hf:P.funcs[f]? = some fn)(hb:fn.body=none)(hn:(fn.name == "runtime.NumGoroutine")=false){l L m r}(e:(extF P fn).f l m=r)(hno:∀ j,r≠.no j){μ w}(hL:RL μ l L):
  ∃ v,r=.ret v m/\R μ v v/\(callFunc f ⟨L⟩).run P w=.ok (.value v) w:=by
 unfold extF at e;split at e
 . exact absurd e.symm (hno _)
 rename_i k2;split at e
 case h_2=>exact absurd e.symm (hno _)
 rename_i row k3;simp only at e;split at e
 case h_2=>exact absurd e.symm (hno _)
 rename_i hfl;split at e
 case h_2=>exact absurd e.symm (hno _)
 rename_i v hv;obtain⟨h1,h2⟩:=qw1 hv w;have hLl:=qzn hfl hL;subst hLl;refine⟨v,e.symm,.sc v h2,?_⟩;have hbn:fn.body.isNone=true:=by rw[hb];rfl
 simp only[callFunc,program,bind,Sem.bind,Sem.run,hf,hn,hbn,k2,k3,mark,Bool.false_eq_true,if_false,if_true];have:=Sem.run_bind (P:=P) (w:=w) (row ⟨L⟩) fun v=>(pure (.value v):Sem Next)
 rw[h1]at this;exact this
theorem qAO {P fn f}(hnz:NZ P f)(hf:P.funcs[f]? = some fn)(hb:fn.body=none)(hn:(fn.name == "runtime.NumGoroutine")=false){l L m r}(e:(noZ P fn.resultTypes.toList).f l m=r)(hno:∀ j,r≠.no j){μ w}(hp:Hp P μ m w)(hL:RL μ l L):
  ∃ v V w' μ' m',(callFunc f ⟨L⟩).run P w=.ok (.value V) w'/\R μ' v V/\r=.ret v m'/\Hp P μ' m' w'/\Gn μ m w μ' m' w':=by
 obtain⟨k2,ps,k3⟩:=hnz fn hf hb;unfold noZ at e;split at e
 case h_2=>exact absurd e.symm (hno _)
 rename_i t hts;have k3:=k3 t hts;split at e
 case h_2=>exact absurd e.symm (hno _)
 rename_i el ht;rw[bi_eq]at e;split at e
 case isFalse=>exact absurd e.symm (hno _)
 rename_i hsz;have hsz:szT P el=1:=Nat.eq_of_beq_eq_true hsz;simp only[qyI]at e;cases l with
 |nil=>exact absurd e.symm (hno _)
 |cons v l2=>
  cases l2 with
  |cons _ _=>exact absurd e.symm (hno _)
  |nil=>
   simp only[qvg]at e;split at e
   case h_2=>exact absurd e.symm (hno _)
   rename_i k n;rw[bi_eq]at e;split at e
   case isFalse=>exact absurd e.symm (hno _)
   rename_i hk;have hk:k=.i64:=qwP (Nat.eq_of_beq_eq_true hk);subst hk;cases n with
   |negSucc n=>exact absurd e.symm (hno _)
   |ofNat n=>
    simp only[cI_nat,bi_eq,natF_eq]at e;split at e
    case isFalse=>exact absurd e.symm (hno _)
    rename_i hroom;have hroom:n<=1048576:=Nat.le_of_ble_eq_true hroom;obtain⟨V,L',rfl,h1,h2⟩:=hL.cons_inv;have:=h2.nil_inv;subst this;have:=h1.int;subst this;subst e;cases hr:newC (.cells 0 el []) (slV n 1) m with
    |no j=>exact absurd hr (hno j)
    |pan v m1=>unfold newC at hr;rw[M.new_eq]at hr;split at hr<;>cases hr
    |ret v m1=>
     obtain⟨hn1,rfl,rfl⟩:=qvf hr;obtain⟨cs,run,hc1,hc2⟩:=Lib.run_makeNoZero (P:=P) w ps t el ht n (by omega);obtain⟨p1,p2⟩:=hp.newCells (ro:=0) (t:=el) (l:=[]) (vs:=cs) (fr:=(0,0)) (w0:=w.drew.drew) hn1 (Nat.zero_le _) .nil (fun j v e=>by simp at e) rfl ⟨rfl,rfl⟩ (.inl rfl);refine⟨_,.slice (some ⟨w.heap.size,0,none⟩) n cs.size,_,_,_,?_,?_,rfl,p1,p2⟩
     . have hbn:fn.body.isNone=true:=by rw[hb];rfl
       simp only[callFunc,program,bind,Sem.bind,Sem.run,hf,hn,hbn,k2,k3,mark,Bool.false_eq_true,if_false,if_true];have:=Sem.run_bind (P:=P) (w:=w) (Extern.BytealgMakeNoZero.makeNoZero ps #[t] #[.int .i64 n]) fun v=>(pure (.value v):Sem Next)
       rw[run]at this;exact this
     . refine .sl m.next 0 n 1 ⟨w.heap.size,0,cs.size⟩ cs.size (Mu.set_same μ _ _) hc1 ?_;simp
theorem qAl {n}(h:n<=1024):n<=4 ^ dpOf n:=by
 unfold dpOf;simp only[bi_eq];split
 . rename_i h1;exact Nat.le_of_ble_eq_true h1
 .
  split
  . rename_i h1;exact Nat.le_of_ble_eq_true h1
  . exact h
theorem qCL {P w r}(h:w.heap[r]? = some (.deferred (some []))):(Instr.takeDeferred r).run P w=.ok [] { w with heap:=w.heap.setIfInBounds r (.deferred none) }:=by simp[Instr.takeDeferred,getObj,setObj,Sem.run,h]
theorem qvY {P fn tmps R μ0 μ m0 m w0 u}(hu:u≠.run)(K:∀ w',Hp P μ m w'->Gn μ0 m0 w0 μ m w'->LeavesIn (FW none) 0 P fn tmps R [] u w'):
  ∀ (D:List Deferred) (w:World),Mk w0 μ m w D->Hp P μ m w->Gn μ0 m0 w0 μ m w->LeavesInM (FW none) 0 P fn tmps R D u w
 |[],w,_,hp,gn=>K w hp gn
 |d::ds,w,⟨⟨r,h1,h2,h3,h4,h5,h6⟩,hk⟩,hp,gn=>by
  have hb:∀ b,b≠r->(w.heap.setIfInBounds r (.deferred none))[b]? = w.heap[b]?:=fun b hb=>by rw[qA0 h4,if_neg hb]
  refine⟨hu,.inl ⟨r,_,by rw[h1];rfl,qCL h4,?_⟩⟩;refine qvY hu K ds _ ?_ (hp.aside h5 (by simp) hb) ⟨gn.ext,gn.next,by simpa using gn.size,fun b hlt hn=>?_,gn.own,gn.out,gn.old⟩
  .
   clear gn;have key:∀ l:List Deferred,Mk w0 μ m w l->(∀ d'∈l,d'≠d)->Mk w0 μ m { w with heap:=w.heap.setIfInBounds r (.deferred none) } l:=by
    intro l
    induction l with
    |nil=>intro _ _;trivial
    |cons e l ih=>
     rintro ⟨⟨r',k1,k2,k3,k4,k5,k6⟩,k⟩ hne
     refine⟨⟨r',k1,k2,by simpa using k3,?_,k5,k6⟩,ih k fun d' hd=>hne d' (List.mem_cons_of_mem _ hd)⟩;show(w.heap.setIfInBounds r (.deferred none))[r']? = _;rw[hb r' fun e'=>hne e List.mem_cons_self (by rw[k1,h1,e'])];exact k4
   exact key ds hk h6
  . show(w.heap.setIfInBounds r (.deferred none))[b]? = _;rw[hb b (by omega)];exact gn.rest b hlt hn
theorem qBZ {μ c r}(hno:∀ j,r≠.no j):∀ (ps:List Tmp) (l L:List Value) (F:T Value) (ts:Array Value),RL μ l L->RF μ dp nt F ts->prmF dp nt ps l F c=r ->
  ps.length=L.length/\∃ F1,c F1=r/\RF μ dp nt F1 ((ps.zip L).foldl (fun tmps x=>tmps.setIfInBounds x.1 x.2) ts)
 |[],l,L,F,ts,hl,hF,e=>by
  unfold prmF at e;rw[qyI]at e;cases l with
  |nil=>have:=hl.nil_inv;subst this;exact⟨rfl,F,e,hF⟩
  |cons v l=>exact absurd e.symm (hno _)
 |p::ps,l,L,F,ts,hl,hF,e=>by
  unfold prmF at e;rw[qyI]at e;cases l with
  |nil=>exact absurd e.symm (hno _)
  |cons v l=>obtain⟨V,L',rfl,h1,h2⟩:=hl.cons_inv;obtain⟨F1,k1,k2⟩:=RF.put (a:={ tmps:=ts,defers:=[] }) hF h1 (some p) (fun F=>prmF dp nt ps l F c);simp only at e;rw[k1]at e;obtain⟨q1,F2,q2,q3⟩:=qBZ hno ps l L' F1 _ h2 k2 e;exact⟨by simp[q1],F2,q2,q3⟩
theorem qBc {P w b r L}(h:w.heap[b]? = some (.loop r))(hs:r.params.toList.length=L.length):
  (Instr.yield b ⟨L⟩).run P w=.ok (.round b r.fn ((r.params.toList.zip L).foldl (fun tmps x=>tmps.setIfInBounds x.1 x.2) r.tmps) r.assign r.body) w:=by
 have hs':¬ ((⟨L⟩:Array Value).size≠r.params.size):=by
  have:r.params.size=L.length:=by rw[<- hs];simp
  simp[this]
 simp only[Instr.yield,Sem.run_bind,run_getLoop h,Result.andThen_ok,hs',if_false,Sem.run_pure];congr 2;rw[<- Array.foldl_toList,Array.toList_zip]
theorem qy5 {P rec}(hrec:RecSound P rec)(hmix:P.follows .mixedOrders=true){n j l L m r}(e:rnd P rec n j l m=r)(hno:∀ k,r≠.no k){μ w}(hp:Hp P μ m w)(hg:Gl P μ)(hL:RL μ l L):
  TgOk P (.yd j) m r μ w L:=by
 intro x hx;unfold rnd at e;rw[M.get_eq,qwy]at e;split at e
 case h_2=>exact absurd e.symm (hno _)
 rename_i F dp nt ps as bo st pend hat
 rw[bi_eq]at e;split at e
 case isFalse=>exact absurd e.symm (hno _)
 have ho:=hp.obj j x hx;rw[hat]at ho;obtain⟨y,rr,o1,o2,o3,o4,o5,o6,o7⟩:=ho;rw[hx]at o1;cases o1;obtain⟨q1,F1,q2,q3⟩:=qBZ hno ps l L F rr.tmps hL o6 e;subst o3;subst o4;subst o5;refine⟨rr.fn,_,rr.assign,rr.body,qBc o2 q1,?_⟩;refine roundIn_of_wpIn trivial ?_;rw[qvd]at q2;split at q2
 case h_2=>exact absurd q2.symm (hno _)
 rename_i x1 F2 m2 hc;refine qu4 (ro:=some x.b) (rg:=false) (μ0:=μ) (m0:=m) (w0:=w) q3.le hrec hmix (fun h=>by cases h) n rr.assign [] F1 m _ w μ x1 F2 m2 _ ⟨hp,.refl _ _ _,hg,q3,rfl⟩ (fun h=>by cases h) hc fun e1 a1 w1 hs=>?_;obtain⟨D1,μ1,hx1,st1,_,_⟩:=hs;rw[qxE]at q2;cases hx1 with
 |norm=>
  simp only at q2;rw[M.get_eq,qwy]at q2;split at q2
  case h_2=>exact absurd q2.symm (hno _)
  rename_i F3 dp3 nt3 ps3 as3 bo3 st3 pend3 hat3;rw[bi_eq]at q2;split at q2
  case isFalse=>exact absurd q2.symm (hno _)
  rename_i hst3;have hst3:st3=0:=Nat.eq_of_beq_eq_true hst3;subst hst3;rw[M.put_eq,qvd]at q2;have hx1:μ1 j=some x:=st1.gn.ext _ _ hx;have ho:=st1.hp.obj j x hx1;rw[hat3]at ho;obtain⟨y,r3,p1,p2,p3,p4,p5,p6,p7⟩:=ho;rw[hx1]at p1;cases p1;obtain⟨t1,t2,t3⟩:=st1.hp.loop hx1 (by rw[hat3];rfl) (r':={ r3 with state:=.busy }) p2 (o:=.loop F3 dp3 nt3 ps3 as3 bo3 2 .norm) (fun w' h=>⟨x,_,hx1,h,p3,p4,p5,p6,trivial⟩) rfl;have hbr:(Instr.beginRound x.b).run P w1=.ok () { w1 with heap:=w1.heap.setIfInBounds x.b (.loop { r3 with state:=.busy }) }:=by simp only[Instr.beginRound,Sem.run_bind,run_getLoop p2,Result.andThen_ok,t1,p7.1];rfl
  refine⟨_,hbr,?_⟩;generalize ({ w1 with heap:=w1.heap.setIfInBounds x.b (.loop { r3 with state:=.busy }) }:World)=w2 at t1 t2 t3 hbr;split at q2
  case h_2=>exact absurd q2.symm (hno _)
  rename_i x4 F4 m4 hc4;refine qu4 (ro:=some x.b) (rg:=false) (μ0:=μ) (m0:=m) (w0:=w) q3.le hrec hmix (fun h=>by cases h) n rr.body D1 F2 _ a1 w2 μ1 x4 F4 m4 _ ⟨t2,st1.gn.trans t3,st1.gl,st1.rf,st1.df⟩ (fun h=>by cases h) hc4 fun e4 a4 w4 hs=>?_;obtain⟨D4,μ4,hx4,st4,_,_⟩:=hs;rw[M.get_eq,qwy]at q2;split at q2
  case h_2=>exact absurd q2.symm (hno _)
  rename_i F5 dp5 nt5 ps5 as5 bo5 st5 pend5 hat5;have hx5:μ4 j=some x:=st4.gn.ext _ _ hx;have ho:=st4.hp.obj j x hx5;rw[hat5]at ho;obtain⟨y,r5,u1,u2,u3,u4,u5,u6,u7⟩:=ho;rw[hx5]at u1;cases u1;rw[qCa]at q2;have fin:∀ (jump:Option Code) (o:O),(∀ w':World,w'.heap[x.b]? = some (.loop { r5 with state:=if jump.isNone then .ready else .done,pending:=jump })->OR μ4 w' j o)->qxx P o=false->r=.ret (yes jump.isNone) (m4.setA j o) ->
    ∃ v w',(Instr.endRound x.b jump).run P w4=.ok v w'/\Fin P μ m w r (.returned v) w':=by
   intro jump o ho1 ho2 hr;obtain⟨z1,z2,z3⟩:=st4.hp.loop hx5 (by rw[hat5];rfl) (r':={ r5 with state:=if jump.isNone then .ready else .done,pending:=jump }) u2 (o:=o) ho1 ho2;refine⟨.bool jump.isNone,{ w4 with heap:=w4.heap.setIfInBounds x.b (.loop { r5 with state:=if jump.isNone then .ready else .done,pending:=jump }) },?_,?_⟩
   . simp only[Instr.endRound,Sem.run_bind,run_getLoop u2,Result.andThen_ok,z1,Sem.run_pure]
   . subst hr;exact⟨μ4,.sc _ rfl,z2,st4.gn.trans z3⟩
  cases hx4 with
  |norm=>simp only[M.put_eq]at q2;exact fin none (.loop F5 dp5 nt5 ps5 as5 bo5 0 .norm) (fun w' h=>⟨x,_,hx5,h,u3,u4,u5,u6,rfl,rfl,rfl⟩) rfl q2.symm
  |ret=>simp only[M.put_eq]at q2;exact fin (some .ret) (.loop F5 dp5 nt5 ps5 as5 bo5 1 .ret) (fun w' h=>⟨x,_,hx5,h,u3,u4,u5,u6,rfl,.inl ⟨rfl,rfl⟩⟩) rfl q2.symm
  |exit id=>simp only[M.put_eq]at q2;exact fin (some (.exit id)) (.loop F5 dp5 nt5 ps5 as5 bo5 1 (.exit id)) (fun w' h=>⟨x,_,hx5,h,u3,u4,u5,u6,rfl,.inr ⟨id,rfl,rfl⟩⟩) rfl q2.symm
  |pan v V hv=>exact absurd q2.symm (hno _)
 |ret=>exact absurd q2.symm (hno _)
 |exit id=>exact absurd q2.symm (hno _)
 |pan v V hv=>exact absurd q2.symm (hno _)
theorem qyJ {F n P f args u w R R'}(h:CallsDIn F n P f args u w R)(hr:∀ e u w,R e u w->R' e u w):CallsDIn F n P f args u w R':=⟨h.1,fun c cs hm hroom=>let ⟨e,u',w',fr,r,rest⟩:=h.2 c cs hm hroom;⟨e,u',w',fr,hr _ _ _ r,rest⟩⟩
theorem qCz {P dp nt F m}{a:Act}{w μ}(hF:RF μ dp nt F a.tmps)(hG:Gl P μ)(hO:HO μ w m){r}(hno:∀ j,r≠.no j)(fn c)(e:(resL P dp fn.results.toList).f F m c=r):∃ v,(results fn a.tmps).run P w=.ok v w/\∃ vs,c vs=r:=
 let ⟨vs,Us,e1,_,e3⟩:=qbS hF hG hO hno fn.results.toList c e
 ⟨_,qei e3,vs,e1⟩
theorem qzY {ne nz}(hne:NE P ne)(hnz:NZ P nz)(hmix:P.follows .mixedOrders=true)(hnum:∀ (f:Nat) (fn:Func),P.funcs[f]? = some fn->(fn.name == "runtime.NumGoroutine")=false){ih}(hrec:RecSound P ih)(n):
  RecSound P (fun t l m=>onTg t (fun f=>(func P ne nz f).f ih n l m) (fun j=>rnd P ih n j l m)):=by
  intro t l m r e hno μ w L hp hg hL;replace e:onTg t (fun f=>(func P ne nz f).f ih n l m) (fun j=>rnd P ih n j l m)=r:=e;rw[qxX]at e;cases t with
  |yd j=>exact qy5 hrec hmix e hno hp hg hL
  |fn f=>
  simp only at e;show(∃ fn,_)\/_;unfold func at e;split at e
  . exact absurd e.symm (hno _)
  .
   rename_i fn hf;split at e
   .
    rename_i hb;rw[bi_eq]at e;split at e
    .
     rename_i hfe;have hfe:f=ne:=Nat.eq_of_beq_eq_true hfe;subst hfe;cases l with
     |nil=>exact absurd e.symm (hno _)
     |cons v t=>
      cases t with
      |cons v2 t=>exact absurd e.symm (hno _)
      |nil=>
       obtain⟨V,L',rfl,h1,h2⟩:=hL.cons_inv;have:=h2.nil_inv;subst this;obtain⟨k1,k2,k3⟩:=hne fn hf hb;refine .inr ⟨v,V,w,μ,m,?_,h1,e.symm,hp,.refl _ _ _,fun fn' hf'=>by rw[hf]at hf';cases hf';exact hb⟩;have hbn:fn.body.isNone=true:=by rw[hb];rfl
       simp only[callFunc,program,bind,Sem.bind,Sem.run,hf,k1,hbn,k2,k3,mark,Bool.false_eq_true,if_false,if_true];rfl
    . rw[bi_eq]at e;split at e
      . rename_i hfz;have hfz:f=nz:=Nat.eq_of_beq_eq_true hfz;subst hfz;obtain⟨v,V,w',μ',m',g1,g2,g3,g4,g5⟩:=qAO hnz hf hb (hnum f fn hf) e hno hp hL;exact .inr ⟨v,V,w',μ',m',g1,g2,g3,g4,g5,fun fn' hf'=>by rw[hf]at hf';cases hf';exact hb⟩
      . obtain⟨v,g1,g2,g3⟩:=qAq hf hb (hnum f fn hf) e hno (w:=w) hL;exact .inr ⟨v,v,w,μ,m,g3,g2,g1,hp,.refl _ _ _,fun fn' hf'=>by rw[hf]at hf';cases hf';exact hb⟩
   .
    rename_i c hb;rw[bi_eq]at e;split at e
    . exact absurd e.symm (hno _)
    .
     rename_i hnt;have hnt:fn.ntmps<=1024:=by rw[ve]at hnt;exact Nat.le_of_ble_eq_true (by simpa using hnt)
     have hle:=qAl hnt;split at e
     .
      rename_i k hk;obtain⟨h1,F1,h2,h3⟩:=qwW hle hno l 0 .e (Nat.zero_le _) e;have hrf:=qxN hle hL (by omega) h3;refine .inl ⟨fn,hf,by rw[hb];rfl,hnum f fn hf,?_⟩;rw[qCr]at h2;split at h2
      case h_2=>exact absurd h2.symm (hno _)
      rename_i x F m1 d hc;refine callsIn_wide.1 (callsIn_of_wp_marks (F:=FW none) (n:=0) hf hb trivial (qyL (μ0:=μ) (m0:=m) (w0:=w) hle hrec hmix n c k hk F1 m _ w μ x F m1 d _ ⟨hp,.refl _ _ _,hg,hrf,rfl⟩ hc fun e1 a1 w1 hs=>?_));obtain⟨D1,μ1,hx,hst,hd⟩:=hs;unfold leaveD at h2;cases d with
      |none=>
       have hd:D1=[]:=hd;subst hd;have normal:(resL P (dpOf fn.ntmps) fn.results.toList).f F m1 (fun vs=>CO.ret (E.one vs) m1)=r->LeavesInM (FW none) 0 P fn a1.tmps (Fin P μ m w r) a1.defers .returning w1:=by intro e;rw[hst.df];obtain⟨vs,Us,e1,e2,e3⟩:=qbS hst.rf hst.gl hst.hp.obj hno fn.results.toList _ e;subst e1;exact⟨_,qei e3,μ1,qeM e2,hst.hp,hst.gn⟩
       cases hx with
       |norm=>exact normal h2
       |ret=>exact normal h2
       |exit id=>exact absurd h2.symm (hno _)
       |pan v V hv=>have h2:CO.pan v m1=r:=h2;subst h2;show LeavesInM (FW none) 0 P fn a1.tmps _ a1.defers (.panicking _) w1;rw[hst.df];exact⟨V,μ1,rfl,hv,hst.hp,hst.gn⟩
      |some fl=>
       obtain⟨f',l'⟩:=fl;obtain⟨b1,b2,rfl,hl'⟩:=hd;simp only[qCt]at h2;have key:∀ (u:FrameMode) (rv:Value),u≠.run->((u=.returning/\rv=nilV)\/∃ V,u=.panicking [{ v:=V,recovered:=false }]/\R μ1 rv V) ->
         ∀ z,(∀ v m,z v m=CO.no 207\/z v m=CO.no 208)->onCO ((qAW P f').f ih n l' rv m1) (fun _ m=>(resL P (dpOf fn.ntmps) fn.results.toList).f F m fun vs=>.ret (E.one vs) m) z CO.no=r ->
         LeavesInM (FW none) 0 P fn a1.tmps (Fin P μ m w r) a1.defers u w1:=by
        intro u rv hu0 hu z hz e;rw[qvw]at e;split at e
        . rename_i v2 m2 hr2;obtain⟨fn',f1,f2,f3,hcalls⟩:=qy6 hrec hmix hr2 hst.hp hst.gl hl' hu hnum (fun hF hG hO _ hno fn c e=>qCz hF hG hO hno fn c e)
           (fun {dp nt c r} hle hno e=>by obtain⟨h1,F1,h2,h3⟩:=qwW hle hno l' 0 .e (Nat.zero_le _) e;exact⟨F1,h2,qxN hle hl' (by omega) h3⟩) (fun n hn=>qAl hn)
          rw[hst.df];refine⟨hu0,.inr ⟨fun h=>FW.room h,.func f',b2,f',b1++b2,rfl,Yh f1 f2 f3 _ _,fun _ _=>trivial,qyJ hcalls fun en u' w' hb=>?_⟩⟩;cases en with
          |returned V2=>obtain⟨hset,μ2,hp2,gn2⟩:=hb;show LeavesIn (FW none) 0 P fn a1.tmps _ [] (settle u') w';rw[hset];obtain⟨vs,Us,e1,e2,e3⟩:=qbS (hst.rf.mono gn2.ext) (hst.gl.mono gn2.ext) hp2.obj hno fn.results.toList _ e;subst e1;exact⟨_,qei e3,μ2,qeM e2,hp2,hst.gn.trans gn2⟩
          |_=>exact hb.elim
        . rename_i v2 m2 hr2;rcases hz v2 m2 with h|h<;>rw[h]at e<;>exact absurd e.symm (hno _)
        . exact absurd e.symm (hno _)
       cases hx with
       |norm=>exact key .returning nilV (by simp) (.inl ⟨rfl,rfl⟩) _ (fun _ _=>.inl rfl) h2
       |ret=>exact key .returning nilV (by simp) (.inl ⟨rfl,rfl⟩) _ (fun _ _=>.inl rfl) h2
       |exit id=>exact absurd h2.symm (hno _)
       |pan v V hv=>exact key (.panicking [{ v:=V,recovered:=false }]) v (by simp) (.inr ⟨V,rfl,hv⟩) _ (fun _ _=>.inr rfl) h2
     rename_i hkn;obtain⟨h1,F1,h2,h3⟩:=qwW hle hno l 0 .e (Nat.zero_le _) e;have hrf:=qxN hle hL (by omega) h3;refine .inl ⟨fn,hf,by rw[hb];rfl,hnum f fn hf,?_⟩;rw[qvd]at h2;split at h2
     . rename_i x F m1 hc;refine callsIn_wide.1 (callsIn_of_wp_marks (F:=FW none) (n:=0) hf hb trivial (qu4 (ro:=none) (rg:=true) (μ0:=μ) (m0:=m) (w0:=w) hle hrec hmix (fun _=>rfl) n c [] F1 m _ w μ x F m1 _ ⟨hp,.refl _ _ _,hg,hrf,rfl⟩ (fun _=>trivial) hc fun e1 a1 w1 hs=>?_));obtain⟨D1,μ1,hx,hst,hk1,_⟩:=hs;replace hk1:=hk1 rfl;have normal:(resL P (dpOf fn.ntmps) fn.results.toList).f F m1 (fun vs=>CO.ret (E.one vs) m1)=r->LeavesInM (FW none) 0 P fn a1.tmps (Fin P μ m w r) a1.defers .returning w1:=by intro e;rw[hst.df];refine qvY (by simp) (fun w' hp' gn'=>?_) D1 w1 hk1 hst.hp hst.gn;obtain⟨vs,Us,e1,e2,e3⟩:=qbS hst.rf hst.gl hp'.obj hno fn.results.toList _ e;subst e1;exact⟨_,qei e3,μ1,qeM e2,hp',gn'⟩
       cases hx with
       |norm=>exact normal h2
       |ret=>exact normal h2
       |exit id=>exact absurd h2.symm (hno _)
       |pan v V hv=>have h2:CO.pan v m1=r:=h2;subst h2;show LeavesInM (FW none) 0 P fn a1.tmps _ a1.defers (.panicking _) w1;rw[hst.df];refine qvY (by simp) (fun w' hp' gn'=>?_) D1 w1 hk1 hst.hp hst.gn;exact⟨V,μ1,rfl,hv,hp',gn'⟩
     . exact absurd h2.symm (hno _)
theorem qwh {ne nz}(hne:NE P ne)(hnz:NZ P nz)(hmix:P.follows .mixedOrders=true)(hnum:∀ (f:Nat) (fn:Func),P.funcs[f]? = some fn->(fn.name == "runtime.NumGoroutine")=false){tb}(htb:∀ ih,RecSound P ih->RecSound P (tb ih)):∀ n,RecSound P (qBg P ne nz tb n)
 |0=>fun f l m r e hno=>absurd e.symm (hno _)
 |n+1=>qzY hne hnz hmix hnum (htb _ (qwh hne hnz hmix hnum htb n)) n
theorem qzP {ne nz}(hne:NE P ne)(hnz:NZ P nz)(hmix:P.follows .mixedOrders=true)(hnum:∀ (f:Nat) (fn:Func),P.funcs[f]? = some fn->(fn.name == "runtime.NumGoroutine")=false)(n):RecSound P (call P ne nz n):=qwh hne hnz hmix hnum (fun _ h=>h) n
end
end E
end Go.Proofs.YtjnefcbeemkkeaaGreat
namespace Go.Proofs.YtjnefcbeemkkeaaGreat
namespace E
open Go.ChangeShapes Go.WideShapes Go.ChangeAt Go.RowKit
noncomputable def isTrue (r:CO):Bool:=onCO r (fun v _=>qxi v (fun b=>b) false) (fun _ _=>false) (fun _=>false)
theorem qAC {r}(h:isTrue r=true):∃ m,r=.ret (.bool true) m:=by
 unfold isTrue at h;rw[qvw]at h;split at h
 .
  rename_i v m;rw[qvH]at h;split at h
  . subst h;exact⟨m,rfl⟩
  . cases h
 . cases h
 . cases h
theorem Hp.start (P)(w):Hp P (fun _=>none) (.mk 0 .e) w:=⟨fun i x e=>(by cases e),fun _ _=>rfl,Nat.zero_le _,fun i x e=>(by cases e),fun i x e=>(by cases e),fun i j x y _ _ _ e=>(by cases e)⟩
theorem qAP {P:Program}(hnum:(P.funcs.toList.all fun fn=>!(fn.name == "runtime.NumGoroutine"))=true)(f:Nat)(fn)(hf:P.funcs[f]? = some fn):(fn.name == "runtime.NumGoroutine")=false:=by have:=(List.all_eq_true.1 hnum) fn (List.mem_of_getElem? (by rw[Array.getElem?_toList];exact hf));simpa using this
theorem closed_callsR {P rec f}(hrec:RecSound P rec)(h:isTrue (rec (.fn f) [] (.mk 0 .e))=true)(hnum:(P.funcs.toList.all fun fn=>!(fn.name == "runtime.NumGoroutine"))=true){fn}(hf:P.funcs[f]? = some fn)(hb:fn.body.isSome=true)(w):Calls P f #[] w fun en w'=>en=.returned (.bool true)/\w.heap.size<=w'.heap.size/\(∀ b,b<w.heap.size->w'.heap[b]? = w.heap[b]?)/\w'.os=w.os/\w'.output=w.output:=by
 have hnum':=qAP hnum;obtain⟨m,hr⟩:=qAC h;rcases hrec (.fn f) [] (.mk 0 .e) _ hr (by intro k h;cases h) (fun _=>none) w [] (Hp.start P w) ⟨rfl,rfl⟩ .nil with⟨fn',h1,h2,h3,h4⟩|⟨v,V,_,_,_,h1,_⟩
 .
  refine Calls.mono h4 fun en w' hfin=>?_;cases en with
  |returned V=>obtain⟨μ',hv,hp,hg⟩:=hfin;rw[hv.bool];exact⟨rfl,hg.size,fun b hb=>hg.rest b hb fun i x _ e=>(by cases e),hg.out⟩
  |_=>exact hfin.elim
 . exfalso;rw[Yh hf hb (hnum' f fn hf)]at h1;cases h1
end E
end Go.Proofs.YtjnefcbeemkkeaaGreat
namespace Go.Proofs.YtjnefcbeemkkeaaGreat
namespace E
def all2 {α:Type}(f:α->α->Bool):List α->List α->Bool
 |[],[]=>true
 |x::l,y::m=>(f x y)&&(all2 f l m)
 |_,_=>false
theorem qwd {α f}(hf:∀ x y,f x y=true->x=y):∀ {l m:List α},all2 f l m=true->l=m
 |[],[],_=>rfl
 |x::l,y::m,h=>by simp only[all2,Bool.and_eq_true]at h;rw[hf x y h.1,qwd hf h.2]
 |[],_::_,h=>by cases h
 |_::_,[],h=>by cases h
def qzb:Value->Value->Bool
 |.bool a,.bool b=>decide (a=b)
 |.int k a,.int j b=>(decide (k=j))&&(decide (a=b))
 |.float k a,.float j b=>(decide (k=j))&&(Nat.beq a b)
 |.string ⟨⟨a⟩⟩,.string ⟨⟨b⟩⟩=>all2 (fun x y=>decide (x=y)) a b
 |.pointer a,.pointer b=>decide (a=b)
 |.slice a n c,.slice b m d=>(decide (a=b))&&((Nat.beq n m)&&(Nat.beq c d))
 |.map a,.map b=>decide (a=b)
 |.nilFunc,.nilFunc=>true
 |.nilIface,.nilIface=>true
 |.chan none,.chan none=>true
 |.func (.func f) ⟨[]⟩ ⟨[]⟩,.func (.func g) ⟨[]⟩ ⟨[]⟩=>Nat.beq f g
 |_,_=>false
theorem qx1 {v u}(h:qzb v u=true):v=u:=by
 unfold qzb at h;split at h
 case h_4=>rw[qwd (fun x y e=>by simpa using e) h]
 all_goals first|rfl|cases h;done|(simp only[Bool.and_eq_true,decide_eq_true_eq,Nat.beq_eq]at h;simp_all;done)
def qyw:Value->Value->Bool
 |.agg ⟨l⟩,.agg ⟨m⟩=>all2 qzb l m
 |.iface t v,.iface u w=>(Nat.beq t u)&&(qzb v w)
 |v,w=>qzb v w
theorem qv7 {v u}(h:qyw v u=true):v=u:=by
 unfold qyw at h;split at h
 . rw[qwd (fun _ _=>qx1) h]
 . simp only[Bool.and_eq_true,Nat.beq_eq]at h;rw[h.1,qx1 h.2]
 . exact qx1 h
def same:Value->Value->Bool
 |.tuple ⟨l⟩,.tuple ⟨m⟩=>all2 qyw l m
 |v,w=>qyw v w
theorem same_eq {v u}(h:same v u=true):v=u:=by
 unfold same at h;split at h
 . rw[qwd (fun _ _=>qv7) h]
 . exact qv7 h
def qCB (a b:MapEntry):Bool:=(qyw a.key b.key)&&((qyw a.val b.val)&&(Nat.beq a.born b.born))
theorem qBA (a b)(h:qCB a b=true):a=b:=by simp only[qCB,Bool.and_eq_true,Nat.beq_eq]at h;cases a;cases b;simp only[MapEntry.mk.injEq];exact⟨qv7 h.1,qv7 h.2.1,h.2.2⟩
def qz2:O->O->Bool
 |.cells r t c,.cells r' t' c'=>(Nat.beq r r')&&((Nat.beq t t')&&(all2 qyw c c'))
 |.map e k,.map e' k'=>(all2 qCB e e')&&(Nat.beq k k')
 |.dead,.dead=>true
 |_,_=>false
theorem qzF {a b}(h:qz2 a b=true):a=b:=by
 unfold qz2 at h;split at h
 . simp only[Bool.and_eq_true,Nat.beq_eq]at h;rw[h.1,h.2.1,qwd (fun _ _=>qv7) h.2.2]
 . simp only[Bool.and_eq_true,Nat.beq_eq]at h;rw[qwd qBA h.1,h.2]
 . rfl
 . cases h
def part:T O->T O->Bool
 |_,.e=>true
 |.l a,.l b=>qz2 a b
 |.n a b c d,.n a' b' c' d'=>(part a a')&&((part b b')&&((part c c')&&(part d d')))
 |_,_=>false
theorem qv1:∀ (dp k:Nat) (s t:T O),part s t=true->T.look .dead dp k t=T.look .dead dp k s\/T.look .dead dp k t=.dead
 |dp,k,s,.e,_=>.inr (T.look_e _ _ _)
 |dp,k,.l a,.l b,h=>by have h:qz2 a b=true:=h;rw[qzF h];exact .inl rfl
 |0,k,.n _ _ _ _,.n _ _ _ _,_=>.inl rfl
 |dp+1,k,.n a b c d,.n a' b' c' d',h=>by
  simp only[part,Bool.and_eq_true]at h;show T.look .dead dp (k / 4) (T.kid (k % 4) (.n a' b' c' d'))=T.look .dead dp (k / 4) (T.kid (k % 4) (.n a b c d))\/T.look .dead dp (k / 4) (T.kid (k % 4) (.n a' b' c' d'))=.dead;have h4:k % 4=0\/k % 4=1\/k % 4=2\/k % 4=3:=by omega
  rcases h4 with h4|h4|h4|h4<;>rw[h4]
  . exact qv1 dp (k / 4) a a' h.1
  . exact qv1 dp (k / 4) b b' h.2.1
  . exact qv1 dp (k / 4) c c' h.2.2.1
  . exact qv1 dp (k / 4) d d' h.2.2.2
def qzc:T O->T O->Bool
 |.e,.e=>true
 |.l a,.l b=>qz2 a b
 |.n a b c d,.n a' b' c' d'=>(qzc a a')&&((qzc b b')&&((qzc c c')&&(qzc d d')))
 |_,_=>false
theorem qwC:∀ {s t:T O},qzc s t=true->s=t
 |.e,.e,_=>rfl
 |.l a,.l b,h=>by have h:qz2 a b=true:=h;rw[qzF h]
 |.n a b c d,.n a' b' c' d',h=>by simp only[qzc,Bool.and_eq_true]at h;rw[qwC h.1,qwC h.2.1,qwC h.2.2.1,qwC h.2.2.2]
 |.e,.l _,h=>by cases h
 |.e,.n _ _ _ _,h=>by cases h
 |.l _,.e,h=>by cases h
 |.l _,.n _ _ _ _,h=>by cases h
 |.n _ _ _ _,.e,h=>by cases h
 |.n _ _ _ _,.l _,h=>by cases h
def qCC:M->M->Bool
 |.mk n t,.mk n' t'=>(Nat.beq n n')&&(qzc t t')
theorem qBB {m n}(h:qCC m n=true):m=n:=by cases m;cases n;simp only[qCC,Bool.and_eq_true,Nat.beq_eq]at h;rw[h.1,qwC h.2]
def qCu:M->M->Bool
 |.mk n t,.mk n' t'=>(Nat.beq n n')&&(part t t')
theorem qBw {m n}(h:qCu m n=true):n.next=m.next/\∀ i,n.at i=m.at i\/n.at i=.dead:=by cases m;cases n;simp only[qCu,Bool.and_eq_true,Nat.beq_eq]at h;exact⟨h.1.symm,fun i=>qv1 hd i _ _ h.2⟩
noncomputable def gives (r:CO)(v:Value)(m:M):Bool:=onCO r (fun v' m'=>(same v' v)&&(qCu m' m)) (fun _ _=>false) (fun _=>false)
structure Known where
 f:Nat
 l:List Value
 m:M
 v:Value
 m':M
noncomputable def tab1 (k:Known)(ih:Rec):Rec:=fun t l m=>onTg t (fun f=>bi (Nat.beq f k.f) (bi ((all2 qyw l k.l)&&(qCC m k.m)) (.ret k.v k.m') (ih t l m)) (ih t l m)) (fun _=>ih t l m)
noncomputable def tab:List Known->Rec->Rec
 |[],ih=>ih
 |k::ks,ih=>tab1 k (tab ks ih)
def Known.ok (P:Program)(k:Known):Prop:=∃ rec,RecSound P rec/\gives (rec (.fn k.f) k.l k.m) k.v k.m'=true
theorem Hp.part {P μ m n w}(h:Hp P μ m w)(hn:n.next=m.next)(hp:∀ i,n.at i=m.at i\/n.at i=.dead):Hp P μ n w where
 obj i x e:=by
  rcases hp i with h1|h1<;>rw[h1]
  . exact h.obj i x e
  . trivial
 fresh i hi:=h.fresh i (hn▸hi)
 room:=hn▸h.room
 root i x e hr:=by
  rcases hp i with h1|h1<;>rw[h1]at hr
  . exact h.root i x e hr
  . cases hr
 lt:=h.lt
 inj i j x y hij hi hj ei ej:=by
  rcases hp i with h1|h1<;>rw[h1]at hi
  . rcases hp j with h2|h2<;>rw[h2]at hj
    . exact h.inj i j x y hij hi hj ei ej
    . cases hj
  . cases hi
theorem Gn.part {μ μ' m m' n w w'}(h:Gn μ m w μ' m' w')(hn:n.next=m'.next)(hp:∀ i,n.at i=m'.at i\/n.at i=.dead):Gn μ m w μ' n w' where
 ext:=h.ext
 next:=hn▸h.next
 size:=h.size
 rest:=h.rest
 own i x hi e:=by
  rcases hp i with h1|h1<;>rw[h1]at hi
  . exact h.own i x hi e
  . cases hi
 out:=h.out
 old:=h.old
theorem qBl {r v n}(h:gives r v n=true):∃ m,r=.ret v m/\n.next=m.next/\∀ i,n.at i=m.at i\/n.at i=.dead:=by
 unfold gives at h;rw[qvw]at h;split at h
 . rename_i v' m;simp only[Bool.and_eq_true]at h;rw[same_eq h.1];exact⟨m,rfl,qBw h.2⟩
 . cases h
 . cases h
theorem qz4 {P k}(hk:k.ok P){ih}(hih:RecSound P ih):RecSound P (tab1 k ih):=by
 intro t l m r e hno μ w L hp hg hL;unfold tab1 at e;rw[qxX]at e;split at e
 .
  rename_i f;rw[bi_eq]at e;split at e
  .
   rename_i hf;have hf:f=k.f:=Nat.eq_of_beq_eq_true hf;rw[bi_eq]at e;split at e
   .
    rename_i hs;simp only[Bool.and_eq_true]at hs;have hl:=qwd (fun _ _=>qv7) hs.1;have hm:=qBB hs.2;subst hf hl hm e;obtain⟨rec,hrec,hg2⟩:=hk;obtain⟨m1,h1,h2,h3⟩:=qBl hg2;rcases hrec _ _ _ _ h1 (by intro j h;cases h) μ w L hp hg hL with⟨fn,k1,k2,k3,k4⟩|⟨v,V,w',μ',m',k1,k2,k3,k4,k5,k6⟩
    . refine .inl ⟨fn,k1,k2,k3,k4.mono fun en w' hfin=>?_⟩;cases en with
      |returned V=>obtain⟨μ',q1,q2,q3⟩:=hfin;exact⟨μ',q1,q2.part h2 h3,q3.part h2 h3⟩
      |_=>exact hfin.elim
    . cases k3;exact .inr ⟨_,V,w',μ',_,k1,k2,rfl,k4.part h2 h3,k5.part h2 h3,k6⟩
   . exact hih _ _ _ _ e hno μ w L hp hg hL
  . exact hih _ _ _ _ e hno μ w L hp hg hL
 . exact hih _ _ _ _ e hno μ w L hp hg hL
theorem qyy {P}:∀ {ks:List Known},(∀ k∈ks,k.ok P)->∀ ih,RecSound P ih->RecSound P (tab ks ih)
 |[],_,_,h=>h
 |k::ks,hks,ih,h=>qz4 (hks k List.mem_cons_self) (qyy (fun j hj=>hks j (List.mem_cons_of_mem _ hj)) ih h)
end E
end Go.Proofs.YtjnefcbeemkkeaaGreat

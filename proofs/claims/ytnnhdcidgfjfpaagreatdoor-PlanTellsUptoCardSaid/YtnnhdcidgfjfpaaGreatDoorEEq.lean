/-
  The interpreter is sound: code, ranges over functions, deferred calls, calls; a law without arguments. No claim stands here.
-/
import Derived.Test.YtnnhdcidgfjfpaaGreatDoorEDq
import Derived.RecoverIn
import Derived.Lib.MakeNoZero
import Derived.RowKit
import Derived.OpenShut
import Derived.WideKeyArgs
import Derived.ProofKit
import Derived.JoinedCond
import Derived.ChangeSame
set_option linter.all false
namespace Go.Proofs.YtnnhdcidgfjfpaaGreatDoor
namespace E
def mkD (r:Nat):Deferred:={ target:=.collected r,args:=#[] }
def Mk (w0:World)(μ:Mu)(m:M)(w:World):List Deferred->Prop
 |[]=>True
 |d::ds=>(∃ r,d=mkD r/\w0.heap.size<=r/\r<w.heap.size/\w.heap[r]? = some (.deferred (some []))/\(∀ i x,wr (m.at i)=true->μ i=some x->x.b≠r)/\∀ a∈ds,a≠d)/\Mk w0 μ m w ds
theorem Mk.step {w0 μ a m m' w w'}(g:Gn μ m w a m' w'):∀ {D:List Deferred},Mk w0 μ m w D->Mk w0 a m' w' D
 |[],_=>trivial
 | d::ds,⟨⟨r,c,f,b,k,l,n⟩,h⟩=>⟨⟨r,c,f,Nat.lt_of_lt_of_le b g.size,by rw[g.rest r b l];exact k,λi x o e=>by
   rcases g.own i x o e with⟨j,y,k1,q,s⟩|p
   . grind
   . omega,n⟩,Mk.step g h⟩
theorem Mk.lt {w0 μ m w}:∀ {D:List Deferred},Mk w0 μ m w D->∀ d∈D,∃ r,d=mkD r/\r<w.heap.size
 |[],_,d,hd=>by cases hd
 |d::ds,⟨⟨r,b,c,e,f,g,i⟩,h⟩,a,hd=>by
  rcases List.mem_cons.1 hd with rfl|hd
  . grind
  . exact Mk.lt h a hd
section
variable {P:Program} {μ:Mu} {w w':World} {m:M}
theorem Hp.aside (h:Hp P μ m w){r}(f:∀ i x,wr (m.at i)=true->μ i=some x->x.b≠r)(c:w'.heap.size=w.heap.size)(g:∀ b,b≠r->w'.heap[b]? = w.heap[b]?):Hp P μ m w':=by
 refine⟨λi x e=>?_,h.fresh,h.room,h.root,λi x e=>by rw[c];exact h.lt i x e,h.inj⟩;cases a:wr (m.at i)with
 |true=>
  refine(h.obj i x e).mono (.refl μ) λy j=>?_
  grind
 |false=>
  have:m.at i=.dead:=by cases d:m.at i<;>first|rfl|(rw[d]at a;cases a)
  rw[this];trivial
end
section
variable {P:Program} {dp nt:Nat} {μ0:Mu} {m0:M} {w0:World} {rec:Rec}
def qwe (rg:Bool)(D0:List Deferred)(P:Program)(dp nt:Nat)(μ0:Mu)(m0:M)(w0:World)(x:X)(F:T Value)(m:M)(e:Exit)(a:Act)(w:World):Prop:=∃ D μ,Ex μ x e/\St D P dp nt μ0 m0 w0 F m a w μ/\(rg=true->Mk w0 μ m w D)/\(rg=false->D=D0)
end
end E
end Go.Proofs.YtnnhdcidgfjfpaaGreatDoor
namespace Go.Proofs.YtnnhdcidgfjfpaaGreatDoor
namespace E
section
variable {ro:Option Nat} {rg:Bool} {P:Program} {dp nt:Nat} {μ0:Mu} {m0:M} {w0:World} {rec:Rec}
theorem qwe.chain {D1 D}(b:rg=false->D1=D){x F m e a w}(h:qwe rg D1 P dp nt μ0 m0 w0 x F m e a w):qwe rg D P dp nt μ0 m0 w0 x F m e a w:=by obtain⟨c,μ,d,f,g,i⟩:=h;exact⟨c,μ,d,f,g,λh=>(i h).trans (b h)⟩
theorem qxq {b l Q x F' m' D0}(k:∀ e j w',qwe rg D0 P dp nt μ0 m0 w0 x F' m' e j w'->Q e j w')(o:∀ D F m a w μ x F' m' Q,St D P dp nt μ0 m0 w0 F m a w μ->(rg=true->Mk w0 μ m w D)->(code P dp nt rg b).f rec l F m=.go x F' m'->(∀ e j w',qwe rg D P dp nt μ0 m0 w0 x F' m' e j w'->Q e j w')->b.wpIn (FW ro) 0 P Q a w):
  ∀ (n:Nat) (D:List Deferred) (i:rg=false->D=D0) (F:T Value) (m:M) (a:Act) (w:World) (μ:Mu),St D P dp nt μ0 m0 w0 F m a w μ->(rg=true->Mk w0 μ m w D) ->
   rN (A:=T Value) (B:=M->Out) (λ_ _=>.no 141) (λ_ s F m=>qwK ((code P dp nt rg b).f rec l F m) (λx F m=>onX x (s F m) (.go x F m)) Out.no) n F m=.go x F' m'->Code.roundsIn (FW ro) 0 P b Q n a w
 |0,D,i,F,m,a,w,μ,h,p,e=>by cases e
 |n+1,D,i,F,m,a,w,μ,h,p,e=>by
  rw[rN_succ,qvo]at e;rw[roundsIn_succ];split at e
  .
   rename_i t q r u;refine o D F m a w μ t q r _ h p u λG y w1 z=>?_;obtain⟨D1,c,C,d,f,g⟩:=z;rw[qyo]at e;cases C with
   |norm=>exact qxq k o n D1 (λh=>(g h).trans (i h)) q r y w1 c d f e
   |ret=>cases e;exact k _ _ _ ⟨D1,c,.ret,d,f,λh=>(g h).trans (i h)⟩
   |exit id=>cases e;exact k _ _ _ ⟨D1,c,.exit id,d,f,λh=>(g h).trans (i h)⟩
   |pan v V E=>cases e;exact k _ _ _ ⟨D1,c,.pan v V E,d,f,λh=>(g h).trans (i h)⟩
  grind
theorem qu8 (r:nt<=4 ^ dp)(d:qN P rec)(hmix:P.follows .mixedOrders=true)(s:rg=true->ro=none)(n):∀ (c:Code) (D:List Deferred) (F:T Value) (m:M) (a:Act) (w:World) (μ:Mu) (x:X) (F':T Value) (m':M) (Q:Exit->Act->World->Prop),St D P dp nt μ0 m0 w0 F m a w μ->(rg=true->Mk w0 μ m w D) ->
  (code P dp nt rg c).f rec n F m=.go x F' m'->(∀ e C w',qwe rg D P dp nt μ0 m0 w0 x F' m' e C w'->Q e C w')->c.wpIn (FW ro) 0 P Q a w
 |.skip,D,F,m,a,w,μ,x,F',m',Q,h,p,e,f=>by cases e;exact wpIn_skip (f _ _ _ ⟨D,μ,.norm,h,p,λ_=>rfl⟩)
 |.region id ops A,D,F,m,a,w,μ,x,F',m',Q,h,p,e,f=>by
  unfold code at e;cases A with
  |true=>exact qA5 (μ0:=μ) (m0:=m) (w0:=w) r d hmix ⟨h.hp,.refl _ _ _,h.gl,h.rf,h.df⟩ e λe C w' ⟨u,y,q⟩=>f _ _ _ ⟨D,u,y,⟨q.hp,h.gn.trans q.gn,q.gl,q.rf,q.df⟩,λh=>(p h).step q.gn,λ_=>rfl⟩
  |false=>
   refine wpIn_region ?_;have H:List.range ops.size=List.range' 0 ops.toList.length:=by rw[List.range_eq_range'];simp
   rw[H];exact qv3 (μ0:=μ) (m0:=m) (w0:=w) d ops.toList 0 F m a w μ x F' m' (λk o h=>by grind) ⟨h.hp,.refl _ _ _,h.gl,h.rf,h.df⟩ e λe C w' ⟨u,y,q⟩=>f _ _ _ ⟨D,u,y,⟨q.hp,h.gn.trans q.gn,q.gl,q.rf,q.df⟩,λh=>(p h).step q.gn,λ_=>rfl⟩
 |.seq c1 I,D,F,m,a,w,μ,x,F',m',Q,h,p,e,f=>by
  unfold code seqC at e;simp only[qvo]at e;split at e
  .
   rename_i J E G K;refine wpIn_seq (qu8 r d hmix s n c1 D F m a w μ J E G _ h p K λR N w1 q=>?_);obtain⟨D1,g,y,i,j,l⟩:=q;rw[qyo]at e;cases y with
   |norm=>exact qu8 r d hmix s n I D1 E G N w1 g x F' m' Q i j e λ_ _ _ h=>f _ _ _ (h.chain l)
   |ret=>cases e;exact f _ _ _ ⟨D1,g,.ret,i,j,l⟩
   |exit id=>cases e;exact f _ _ _ ⟨D1,g,.exit id,i,j,l⟩
   |pan v V B=>cases e;exact f _ _ _ ⟨D1,g,.pan v V B,i,j,l⟩
  grind
 |.cond c c1 I,D,F,m,a,w,μ,x,F',m',Q,h,p,e,f=>by
  unfold code condC at e;obtain⟨v,B,H⟩:=zt h.rf h.gl c;simp only[B,qvV]at e;split at e
  . rename_i t;have O:=H.bool;rw[bi_eq]at e;cases t with
    |true=>exact wpIn_cond_true O (qu8 r d hmix s n c1 D F m a w μ x F' m' Q h p e f)
    |false=>exact wpIn_cond_false O (qu8 r d hmix s n I D F m a w μ x F' m' Q h p e f)
  grind
 |.block id b,D,F,m,a,w,μ,x,F',m',Q,h,p,e,f=>by
  unfold code qDa at e;simp only[qvo,qEQ]at e;split at e
  .
   rename_i J E G K;refine wpIn_block (qu8 r d hmix s n b D F m a w μ J E G _ h p K λR N w1 q=>?_);obtain⟨D1,g,y,i,j,l⟩:=q;cases y with
   |norm=>cases e;exact f _ _ _ ⟨D1,g,.norm,i,j,l⟩
   |ret=>cases e;exact f _ _ _ ⟨D1,g,.ret,i,j,l⟩
   |exit L=>
    simp only[Exit.inBlock];simp only at e;split at e
    . rename_i z;rw[if_pos z];cases e;exact f _ _ _ ⟨D1,g,.norm,i,j,l⟩
    . rename_i z;rw[if_neg z];cases e;exact f _ _ _ ⟨D1,g,.exit L,i,j,l⟩
   |pan v V B=>cases e;exact f _ _ _ ⟨D1,g,.pan v V B,i,j,l⟩
  grind
 |.loop b,D,F,m,a,w,μ,x,F',m',Q,h,p,e,f=>by unfold code qET at e;exact wpIn_loop_rounds n (qxq (rg:=rg) f (λD F m a w μ x F' m' Q h p e f=>qu8 r d hmix s n b D F m a w μ x F' m' Q h p e f) n D (λ_=>rfl) F m a w μ h p e)
 |.exit id,D,F,m,a,w,μ,x,F',m',Q,h,p,e,f=>by cases e;exact wpIn_exit (f _ _ _ ⟨D,μ,.exit id,h,p,λ_=>rfl⟩)
 |.ret,D,F,m,a,w,μ,x,F',m',Q,h,p,e,f=>by cases e;exact wpIn_ret (f _ _ _ ⟨D,μ,.ret,h,p,λ_=>rfl⟩)
 |.rangeFunc _ _ _ _,_,_,_,_,_,_,_,_,_,_,_,_,e,_=>by cases e
 |.scope _,_,_,_,_,_,_,_,_,_,_,_,_,e,_=>by cases e
 |.label _,_,_,_,_,_,_,_,_,_,_,_,_,e,_=>by cases e
 |.goto _,_,_,_,_,_,_,_,_,_,_,_,_,e,_=>by cases e
 |.refuse _,_,_,_,_,_,_,_,_,_,_,_,_,e,_=>by cases e
end
end E
end Go.Proofs.YtnnhdcidgfjfpaaGreatDoor
namespace Go.Proofs.YtnnhdcidgfjfpaaGreatDoor
namespace E
section
variable {P:Program} {dp nt:Nat} {μ0:Mu} {m0:M} {w0:World} {rec:Rec}
theorem qD2 {β}(q f)(z:Nat->β):onDO q f z=match q with|.go x F m d=>f x F m d|.no w=>z w:=by cases q<;>rfl
theorem qD4 {β}(x f g)(z:β):onXP x f g z=match x with|.norm=>f|.ret=>f|.exit _=>z|.pan v=>g v:=by cases x<;>rfl
theorem qAr {F n}{o:Oper}{a K i Q d}(h:∀ a w,K a w->i a w)(j:∀ c a w,Q (.panic c) a w->d (.panic c) a w)(k:LetsOut Q->LetsOut d){r}(b:o.uponIn F n P a K Q r):o.uponIn F n P a i d r:=by
 cases r with
 |ok x w'=>
  cases x<;>simp only[Oper.uponIn]at b |- <;>
   first
    |exact h _ _ b
    |exact⟨b.1,CallsIn.mono b.2 (λe f g=>by cases e<;>first|grind|grind|grind)⟩
    |exact⟨b.1,RowsIn.mono b.2 (λ_ _ g=>h _ _ g)⟩
    |exact⟨b.1,RoundIn.mono b.2 (λe f g=>by cases e<;>first|grind|grind|grind)⟩
 |halt x w'=>cases x<;>simp only[Oper.uponIn]at b |-<;>first|exact b|grind
theorem qvy {F n ops Q}(d):∀ (b:List Nat) (a:Act) (w:World),wpOpsIn F n P ops (Exit.then (wpOpsIn F n P ops Q d) Q) b a w->wpOpsIn F n P ops Q (b++d) a w
 |[],a,w,h=>h
 |i::b,a,w,h=>by
  simp only[List.cons_append,wpOpsIn]at h |-;split
  . rename_i e;simp only[e]at h;exact qvy d b a w h
  . rename_i o e;simp only[e]at h;split
    . rename_i f;rw[if_pos f]at h;exact⟨h.1,qAr (λa w h=>qvy d b a w h) (λc a w h=>h) (λh=>h) h.2⟩
    . rename_i f;rw[if_neg f]at h;exact⟨h.1,qvy d b _ w h.2⟩
theorem qC2 {ops o c}(h:qC1 ops=some (o,c)):ops.getLast? = some o/\o.op=.defer c/\o.guard=none:=by
 unfold qC1 at h
 grind
def DfOk (μ:Mu):Option (Nat×List Value)->List Deferred->Prop
 |none,D=>D=[]
 |some (f,l),D=>∃ a b2:Array Value,D=[{ target:=.fn (.func f) b2,args:=a }]/\RL μ l (a++b2).toList
theorem DfOk.mono {μ a}(b:Ext μ a){d D}(h:DfOk μ d D):DfOk a d D:=by
 cases d with
 |none=>exact h
 |some p=>obtain⟨c,b2,e,f⟩:=h;exact⟨c,b2,e,f.mono b⟩
def qDz (P:Program)(dp nt:Nat)(μ0:Mu)(m0:M)(w0:World)(d:Option (Nat×List Value))(x:X)(F:T Value)(m:M)(e:Exit)(a:Act)(w:World):Prop:=∃ D μ,Ex μ x e/\St D P dp nt μ0 m0 w0 F m a w μ/\DfOk μ d D
theorem qzL {o c}(q:o.op=.defer c){F m a w μ k x F' m' d}(h:St [] P dp nt μ0 m0 w0 F m a w μ)(e:qD7 P dp nt o c k F m=.go x F' m' d){K Q}(C:∀ n t D y,k n m y=.go x F' m' d->DfOk μ y D->St D P dp nt μ0 m0 w0 n m t w μ->K t w):o.wpIn (FW none) 0 P a w K Q:=by
 unfold qD7 qwS at e;obtain⟨callee,b,z⟩:=c;cases callee with
 |value g=>
  obtain⟨u,E,G⟩:=zt h.rf h.gl g;obtain⟨as,i,j⟩:=qwf (P:=P) h.rf h.gl b.toList;simp only[E,qyM]at e;split at e
  case h_2=>
   simp only[qzY]at e;split at e
   . simp only[i]at e;rw[qzX]at e;cases e
   grind
  rename_i f A B;simp only[i,appF_eq]at e;rw[qzX]at e;simp only at e;obtain⟨p,b2,H,r,s⟩:=G.fnI;have I:RL μ (A.toList++(as++B.toList)) ((p++b.map a.eval++b2).toList):=by simp only[Array.toList_append,Array.toList_map,List.append_assoc];exact r.append (j.append s)
  obtain⟨n,k1,J⟩:=h.rf.put (a:={ a with defers:={ target:=.fn (.func f) b2,args:=p++b.map a.eval }::a.defers }) (v:=undef) (V:=Go.undef) .undef o.dst (λF=>k F m (some (f,A.toList++(as++B.toList))));rw[k1]at e;refine⟨λ_ _=>trivial,?_⟩;have l:(o.semAt (FW none).round a.eval).run P w=.ok (.defer { target:=.fn (.func f) b2,args:=p++b.map a.eval }) w:=by show(execOp a.eval o).run P w=_;simp only[execOp,q,resolve,H,Deferred.ofValue];rfl
  rw[l,Oper.uponIn_defer];refine C n _ [{ target:=.fn (.func f) b2,args:=p++b.map a.eval }] _ e ⟨_,_,rfl,I⟩ ⟨h.hp,h.gn,h.gl,J,?_⟩;rw[put_defers,h.df]
 |_=>cases e
theorem qzK (t:nt<=4 ^ dp)(j:qN P rec)(hmix:P.follows .mixedOrders=true)(n):∀ (c:Code) (k:Bx Dc),qCR P dp nt c=some k->∀ (F:T Value) (m:M) (a:Act) (w:World) (μ:Mu) (x:X) (F':T Value) (m':M) (d:Option (Nat×List Value)) (Q:Exit->Act->World->Prop),
  St [] P dp nt μ0 m0 w0 F m a w μ->k.f rec n F m=.go x F' m' d->(∀ e S w',qDz P dp nt μ0 m0 w0 d x F' m' e S w'->Q e S w')->c.wpIn (FW none) 0 P Q a w:=by
 intro c
 induction c with
 |seq c1 U _ ih=>
  intro k p F m a w μ x F' m' d Q h e u;unfold qCR at p;split at p
  .
   rename_i ops o c A;cases p;simp only[qAH,onXD,qvo,qyo]at e;split at A
   case h_2=>cases A
   rename_i id b _;cases W:qC1 b.toList with
   |none=>grind
   |some oc=>
    rw[W]at A;cases A;obtain⟨l1,l2,l3⟩:=qC2 W;refine wpIn_seq (wpIn_region ?_);have E:b.toList≠[]:=by grind
    have hdl:b.toList=b.toList.dropLast++[o]:=by
     have h1:=List.dropLast_concat_getLast E
     grind
    have y:b.size=b.toList.dropLast.length+1:=by grind
    have hr:List.range b.size=List.range' 0 b.toList.dropLast.length++[b.toList.dropLast.length]:=by rw[y,List.range_succ,List.range_eq_range']
    rw[hr];refine qvy _ _ _ _ ?_;split at e
    case h_2=>cases e
    rename_i G B s H;have I:b[b.toList.dropLast.length]? = some o:=by grind
    refine qv3 (μ0:=μ0) (m0:=m0) (w0:=w0) j b.toList.dropLast 0 F m a w μ G B s (λk o' p=>by grind) h H λe1 C w1 z=>?_;obtain⟨f,q,g⟩:=z;cases q with
    |norm=>
     simp only at e;show wpOpsIn (FW none) 0 P b _ [b.toList.dropLast.length] C w1;have r:Region.wanted o (yielded b C.tmps)=true:=by simp only[Region.wanted,l3]
     simp only[wpOpsIn,I,r,if_true];refine qzL l2 g e λF2 Y D d1 J hd l=>?_;show U.wpIn (FW none) 0 P Q Y w1;split at J
     case h_2=>cases J
     rename_i x3 F3 m3 h3;cases J;refine qu8 (ro:=none) (rg:=false) (μ0:=f) (m0:=s) (w0:=w1) t j hmix (λh=>by cases h) n U D F2 s Y w1 f x F' m' Q ⟨l.hp,.refl _ _ _,l.gl,l.rf,l.df⟩ (λh=>by cases h) h3 λe4 a4 w4 z=>?_;obtain⟨D4,K,L,i,_,N⟩:=z;have:=N rfl;subst this;exact u _ _ _ ⟨D4,K,L,⟨i.hp,g.gn.trans i.gn,i.gl,i.rf,i.df⟩,hd.mono i.gn.ext⟩
    |ret=>cases e
    |exit id=>cases e
    |pan v V Z=>cases e
  .
   split at p
   .
    rename_i k2 O;cases p;simp only[qAH,onXD,qvo,qyo]at e;split at e
    case h_2=>cases e
    rename_i G B s H;refine wpIn_seq (qu8 (ro:=none) (rg:=false) t j hmix (λh=>by cases h) n c1 [] F m a w μ G B s _ h (λh=>by cases h) H λe1 C w1 z=>?_);obtain⟨D1,f,q,g,_,R⟩:=z;have:=R rfl;subst this;cases q with
    |norm=>exact ih k2 O B s C w1 f x F' m' d Q g e u
    |ret=>cases e;exact u _ _ _ ⟨[],f,.ret,g,rfl⟩
    |exit id=>cases e;exact u _ _ _ ⟨[],f,.exit id,g,rfl⟩
    |pan v V Z=>cases e;exact u _ _ _ ⟨[],f,.pan v V Z,g,rfl⟩
   grind
 |_=>intro k p;cases p
theorem qC5 {c d o b}(h:qD9 c=some (d,o,b)):∃ id ops r e,c=.seq (.region id ops false) b/\ops = #[r,o]/\r.op=.call e/\e.callee=.builtin .recover/\r.guard=none/\o.guard=none/\r.dst=d:=by
 unfold qD9 at h;split at h
 case h_2=>cases h
 rename_i id ops k;split at h
 case h_2=>cases h
 rename_i r l a;split at h
 . rename_i args f g i j;cases h;exact⟨id,ops,r,_,rfl,Array.toList_inj.1 a,g,rfl,i,j,rfl⟩
 grind
def Back (P:Program)(μ:Mu)(m:M)(w:World)(b:M):Ending->FrameMode->World->Prop
 |.returned _,c,w'=>settle c=.returning/\∃ a,Hp P a b w'/\Gn μ m w a b w'
 |_,_,_=>False
theorem qEm {ops i rest r n a b c w f Q}(g:ops[i]? = some r)(j:Region.wanted r (yielded ops a.tmps)=true)(d:(execOp a.eval r).run P w=.ok .recover w)(e:recoverD b=some (f,c)\/(recoverD b=none/\f=.nilIface/\c=b))(h:wpOpsSIn (FW none) n P ops Q rest (a.put r.dst f) c w):wpOpsSIn (FW none) n P ops Q (i::rest) a b w:=by simp only[wpOpsSIn,g,j,d,if_true];refine⟨λ_ _=>trivial,?_⟩;rcases e with e|⟨e,rfl,rfl⟩<;>simp only[e]<;>exact h
theorem qEn {ops i rest o n a b w V Q}(d:ops[i]? = some o)(e:Region.wanted o (yielded ops a.tmps)=true)(c:(execOp a.eval o).run P w=.ok (.value V) w)(h:wpOpsSIn (FW none) n P ops Q rest (a.put o.dst V) b w):wpOpsSIn (FW none) n P ops Q (i::rest) a b w:=by simp only[wpOpsSIn,d,e,c,if_true];exact⟨λ_ _=>trivial,h⟩
theorem qz5 (D:qN P rec)(hmix:P.follows .mixedOrders=true){f n l Y v m G}(e:(qCi P f).f rec n l Y m=.ret v G){μ w L u}(Z:Hp P μ m w)(hg:Gl P μ)(hL:RL μ l L.toList)(hu:(u=.returning/\Y=nilV)\/∃ V,u=.panicking [{ v:=V,recovered:=false }]/\R μ Y V)(H:∀ (f:Nat) (g:Func),P.funcs[f]? = some g->(g.name == "runtime.NumGoroutine")=false)(I:∀ {dp nt:Nat} {F:T Value} {m:M} {a:Act} {w:World} {μ:Mu} (hF:RF μ dp nt F a.tmps) (hG:Gl P μ) (hO:HO μ w m) {r:CO} (t:∀ j,r≠.no j) (g:Func) (c:List Value->CO),(resL P dp g.results.toList).f F m c=r->∃ v,(results g a.tmps).run P w=.ok v w/\∃ vs,c vs=r)(p:∀ {dp nt:Nat} {c:T Value->CO} {r:CO},nt<=4 ^ dp->(∀ j,r≠.no j)->qzD dp nt l 0 .e c=r->∃ F1,c F1=r/\RF μ dp nt F1 (L++Array.replicate (nt-L.size) Go.undef))(hdp:∀ n,n<=1024->n<=4 ^ dpOf n):
  ∃ g,P.funcs[f]? = some g/\g.body.isSome=true/\(g.name == "runtime.NumGoroutine")=false/\CallsDIn (FW none) (0-1) P f L u w (Back P μ m w G):=by
 unfold qCi at e;split at e
 . cases e
 rename_i g hf;split at e
 . cases e
 rename_i c hb;split at e
 . cases e
 rename_i d o b hrc;obtain⟨id,ops,r,ca,rfl,rfl,hr1,J,hr3,ho3,hrd⟩:=qC5 hrc;rw[bi_eq]at e;split at e
 . cases e
 rename_i y;rw[quZ,qu6]at y;simp only[Bool.not_eq_true',Bool.not_eq_false,Bool.and_eq_true]at y;obtain⟨hq,z⟩:=y;subst hrd;have z:g.ntmps<=1024:=Nat.le_of_ble_eq_true z;have K:=hdp _ z;have t:∀ j,CO.ret v G≠.no j:=λj h=>by cases h
 obtain⟨F1,e,hrf⟩:=p K t e;refine⟨g,hf,by grind,H f g hf,callsDIn_of_wpSIn hf hb trivial λs cs A=>?_⟩
 -- what is recovered
 obtain⟨N,q,B,hrv,O⟩:∃ (N:Value) (q:List Frame),(recoverD (s::cs)=some (N,q)\/(recoverD (s::cs)=none/\N=.nilIface/\q=s::cs))/\R μ Y N/\∃ Q,settle Q=.returning/\q={ s with mode:=Q }::cs:=by
  rcases hu with⟨rfl,rfl⟩|⟨V,rfl,hV⟩
  . refine⟨.nilIface,s::cs,.inr ⟨by simp only[recoverD,A],rfl,rfl⟩,.sc _ rfl,.returning,rfl,?_⟩;rw[<- A]
  . exact⟨V,{ s with mode:=.panicking [{ v:=V,recovered:=true }] }::cs,.inl (by simp only[recoverD,A]),hV,.panicking [{ v:=V,recovered:=true }],rfl,rfl⟩
 obtain⟨Q,k,rfl⟩:=O;refine wpSIn_seq (wpSIn_region ?_);have h0:(#[r,o]:Array Oper)[0]? = some r:=rfl;have h1:(#[r,o]:Array Oper)[1]? = some o:=rfl;show wpOpsSIn (FW none) (0-1) P #[r,o] _ [0,1] _ _ w;have hw0:∀ ts:Array Value,Region.wanted r (yielded #[r,o] ts)=true:=λts=>by simp only[Region.wanted,hr3]
 have hw1:∀ ts:Array Value,Region.wanted o (yielded #[r,o] ts)=true:=λts=>by simp only[Region.wanted,ho3]
 have S:∀ a:Act,(execOp a.eval r).run P w=.ok .recover w:=λa=>by obtain⟨callee,cargs,ctys⟩:=ca;simp only at J;subst J;simp only[execOp,hr1,resolve,pure_bind,invoke,builtin];rfl
 refine qEm h0 (hw0 _) (S _) B ?_;obtain⟨F2,k1,k2⟩:=RF.put (a:={ tmps:=L++Array.replicate (g.ntmps-L.size) Go.undef,defers:=[] }) hrf hrv r.dst (λF=>onQV ((quiet P (dpOf g.ntmps) o.op).f F m) (λv=>(putD (dpOf g.ntmps) g.ntmps o.dst).f v F λF=>qwK ((code P (dpOf g.ntmps) g.ntmps false b).f rec n F m) (λx F m=>leave x m λc=>(resL P (dpOf g.ntmps) g.results.toList).f F m c) CO.no) CO.no);rw[k1,qxY]at e;split at e
 case h_2=>cases e
 rename_i v1 hv1;obtain⟨V1,U,hR1⟩:=qaS (w:=w) Z.root k2 hg Z.obj hv1 o.dst o.type o.pos o.after o.guard;have C:(execOp ((({ tmps:=L++Array.replicate (g.ntmps-L.size) Go.undef,defers:=[] }:Act).put r.dst N).eval) o).run P w=.ok (.value V1) w:=U;refine qEn h1 (hw1 _) C ?_;obtain⟨F3,k3,k4⟩:=RF.put k2 hR1 o.dst (λF=>qwK ((code P (dpOf g.ntmps) g.ntmps false b).f rec n F m) (λx F m=>leave x m λc=>(resL P (dpOf g.ntmps) g.results.toList).f F m c) CO.no);rw[k3,qvo]at e;split at e
 case h_2=>cases e
 rename_i x F4 m4 h4;refine wpSIn_of_wpIn (F:=FW none) rfl (qu8 (ro:=none) (rg:=false) (μ0:=μ) (m0:=m) (w0:=w) K D hmix (λh=>by cases h) n b [] F3 m _ w μ x F4 m4 _ ⟨Z,.refl _ _ _,hg,k4,by rw[put_defers,put_defers]⟩ (λh=>by cases h) h4 λe5 a5 w5 hs=>?_);obtain⟨D5,μ5,hx5,i,_,hD5⟩:=hs;have:=hD5 rfl;subst this;have W:(resL P (dpOf g.ntmps) g.results.toList).f F4 m4 (λvs=>CO.ret (E.one vs) m4)=.ret v G->a5.defers=[]/\∃ X,({ s with mode:=Q }::cs:List Frame)={ s with mode:=X }::cs/\∃ v,(results g a5.tmps).run P w5=.ok v w5/\Back P μ m w G (.returned v) X w5:=by intro e;obtain⟨v5,q1,vs,q2⟩:=I i.rf i.gl i.hp.obj t g _ e;cases q2;exact⟨i.df,Q,rfl,v5,q1,k,μ5,i.hp,i.gn⟩
 cases hx5 with
 |norm=>exact W e
 |ret=>exact W e
 |exit id=>cases e
 |pan v V hv=>cases e
end
end E
end Go.Proofs.YtnnhdcidgfjfpaaGreatDoor
namespace Go.Proofs.YtnnhdcidgfjfpaaGreatDoor
namespace E
section
variable {P:Program} {dp nt:Nat}
theorem qzg (z:Value):∀ (dp k:Nat),T.look z dp k .e=z
 |0,k=>rfl
 |dp+1,k=>by
  have:T.kid (k % 4) (.e:T Value)=.e:=by rcases k % 4 with _|_|_|_<;>rfl
  show T.look z dp (k / 4) (T.kid (k % 4) .e)=z;rw[this];exact qzg z dp (k / 4)
theorem qxv (b:nt<=4 ^ dp){c r}(g:∀ j,r≠.no j):∀ (l:List Value) (k:Nat) (F:T Value),k<=nt->qzD dp nt l k F c=r ->
  k+l.length<=nt/\∃ f,c f=r/\∀ t,t<4 ^ dp->T.look undef dp t f=if k<=t then(l[t-k]?).getD (T.look undef dp t F)else T.look undef dp t F
 |[],k,F,n,e=>⟨by omega,F,e,λt _=>by simp⟩
 |v::l,k,F,n,e=>by
  unfold qzD at e;rw[bi_eq]at e;split at e
  .
   rename_i a;have a:k<nt:=by simp_all
   rw[T.set_eq]at e;obtain⟨q,f,o,p⟩:=qxv b g l (k+1) _ a e;refine⟨by grind,f,o,λt i=>?_⟩;rw[p t i];have h:=Nat.lt_of_lt_of_le a b;by_cases d:t=k
   . subst d;rw[if_neg (by omega),if_pos (Nat.le_refl _),T.look_put_same];simp
   . rw[T.look_put_other _ _ _ _ _ _ i h d]
     grind
  grind
theorem qyE {μ}(a:nt<=4 ^ dp){l L}(h:RL μ l L)(j:l.length<=nt){b}(d:∀ t,t<4 ^ dp->T.look undef dp t b=if 0<=t then(l[t-0]?).getD (T.look undef dp t .e)else T.look undef dp t .e):
  RF μ dp nt b ((⟨L⟩:Array Value)++Array.replicate (nt-(⟨L⟩:Array Value).size) Go.undef):=by
 have e:=h.1;refine⟨by grind,a,λt f=>?_⟩;rw[d t f,if_pos (Nat.zero_le _),qzg,Nat.sub_zero];cases c:l[t]? with
 |none=>
  have g:l.length<=t:=List.getElem?_eq_none_iff.1 c;have:((⟨L⟩:Array Value)++Array.replicate (nt-(⟨L⟩:Array Value).size) Go.undef).getD t Go.undef=Go.undef:=by rw[Array.getD_eq_getD_getElem?,Array.getElem?_append_right (by grind),Array.getElem?_replicate];split<;>rfl
  rw[this];exact .undef
 |some v=>
  obtain⟨V,i,k⟩:=h.get c;have g:=(List.getElem?_eq_some_iff.1 i).1;have:((⟨L⟩:Array Value)++Array.replicate (nt-(⟨L⟩:Array Value).size) Go.undef).getD t Go.undef=V:=by
   rw[Array.getD_eq_getD_getElem?,Array.getElem?_append_left (by omega)]
   grind
  grind
def qbe (a:Array Value):Value:=if h:a.size=1 then a[0]else .tuple a
theorem qei {P c tmps w d}(h:(c.results.toList.mapM (λx=>(match x with
    |.tmp t=>pure (tmps.getD t Go.undef)
    |.cell b t=>do loadVar t (<- asAddr (tmps.getD b Go.undef)):Sem Value))).run P w=.ok d w):(results c tmps).run P w=.ok (qbe d.toArray) w:=by
 unfold results;rw[Array.mapM_eq_mapM_toList];simp only[Sem.run_bind,Sem.run_map];exact congrArg (λr:Result (List Value)=>(r.andThen λa w'=>Result.ok a.toArray w').andThen λa w'=>Sem.run P (pure (if h:a.size=1 then a[0]else Value.tuple a)) w') h
theorem qeM {μ vs a}(h:RL μ vs a):R μ (E.one vs) (qbe a.toArray):=by
 match vs,a,h with
 |[],a,h=>have:=h.nil_inv;subst this;exact .mkTup .nil
 |[v],a,h=>obtain⟨V,f,rfl,d,c⟩:=h.cons_inv;have:=c.nil_inv;subst this;exact d
 |v::g::vs,a,h=>
  obtain⟨V,f,rfl,d,c⟩:=h.cons_inv;obtain⟨e,b,rfl,i,j⟩:=c.cons_inv;have:qbe (V::e::b).toArray=.tuple ⟨V::e::b⟩:=by unfold qbe;grind
  rw[this];exact .mkTup h
theorem qbS {μ F m}{a:Act}{w}(i:RF μ dp nt F a.tmps)(k:Gl P μ)(p:HO μ w m){r}(l:∀ j,r≠.no j):∀ (g:List ResultVar) (c:List Value->CO),(resL P dp g).f F m c=r ->
  ∃ vs h,c vs=r/\RL μ vs h/\(g.mapM (λx=>(match x with
    |.tmp t=>pure (a.tmps.getD t Go.undef)
    |.cell b t=>do loadVar t (<- asAddr (a.tmps.getD b Go.undef)):Sem Value))).run P w=.ok h w
 |[],c,e=>⟨[],[],e,.nil,rfl⟩
 |x::g,c,e=>by
  unfold resL at e;simp only[qxY]at e;split at e
  .
   rename_i v d;obtain⟨vs,h,z,A,G⟩:=qbS i k p l g _ e;have B:∃ V,(match x with
     |.tmp t=>pure (a.tmps.getD t Go.undef)
     |.cell b t=>do loadVar t (<- asAddr (a.tmps.getD b Go.undef)):Sem Value).run P w=.ok V w/\R μ v V:=by
    unfold resV at d;cases x with
    |tmp t=>obtain⟨u,n,f⟩:=zt i k (.tmp t);simp only[n]at d;cases d;exact⟨_,rfl,f⟩
    |cell b t=>
     obtain⟨u,n,f⟩:=zt i k (.tmp b);simp only[n,qu9]at d;split at d
     . rename_i C;obtain⟨_,y,q,s⟩:=f.ptrI;obtain⟨V,D,E⟩:=qAB (P:=P) (w:=w) d (p _ _ q) q;refine⟨V,?_,E⟩;have o:a.tmps.getD b Go.undef=.pointer (some ⟨y.b,y.o+C.off,none⟩):=s;simp only[o,asAddr,Sem.run_bind,Sem.run_pure,Result.andThen_ok];exact D
     grind
   obtain⟨V,s,f⟩:=B;refine⟨v::vs,V::h,z,.cons f A,?_⟩;simp_all
  grind
def NE (P:Program)(b:Nat):Prop:=∀ a,P.funcs[b]? = some a->a.body=none->(a.name == "runtime.NumGoroutine")=false/\Extern.findNext a=none/\Extern.find a=some Extern.AbiNoEscape.same
def NZ (P:Program)(b:Nat):Prop:=∀ a,P.funcs[b]? = some a->a.body=none->Extern.findNext a=none/\∃ c,∀ t,a.resultTypes.toList=[t]->Extern.find a=some (Extern.BytealgMakeNoZero.makeNoZero c #[t])
theorem qAw {μ}:∀ {l L:List Value},l.all flat=true->RL μ l L->L=l
 |[],L,_,h=>h.nil_inv
 |v::l,L,a,h=>by obtain⟨V,d,rfl,b,c⟩:=h.cons_inv;simp only[List.all_cons,Bool.and_eq_true]at a;rw[b.flatI a.1,qAw a.2 c]
theorem qBJ {P a}{f:Nat}(g:P.funcs[f]? = some a)(t:a.body=none)(h:(a.name == "runtime.NumGoroutine")=false){l L m r}(e:(extF P a).f l m=r)(i:∀ j,r≠.no j){μ w}(k:RL μ l L):
  ∃ v,r=.ret v m/\R μ v v/\(callFunc f ⟨L⟩).run P w=.ok (.value v) w:=by
 unfold extF at e;split at e
 . grind
 rename_i n;split at e
 case h_2=>grind
 rename_i row o;simp only at e;split at e
 case h_2=>grind
 rename_i b;split at e
 case h_2=>grind
 rename_i v p;obtain⟨q,s⟩:=qxA p w;have c:=qAw b k;subst c;refine⟨v,e.symm,.sc v s,?_⟩;have d:a.body.isNone=true:=by grind
 simp only[callFunc,program,bind,Sem.bind,Sem.run,g,h,d,n,o,mark,Bool.false_eq_true,if_false,if_true];have:=Sem.run_bind (P:=P) (w:=w) (row ⟨L⟩) λv=>(pure (.value v):Sem Next)
 rw[q]at this;exact this
theorem qB6 {P c f}(i:NZ P f)(z:P.funcs[f]? = some c)(B:c.body=none)(C:(c.name == "runtime.NumGoroutine")=false){l L m r}(e:(noZ P c.resultTypes.toList).f l m=r)(o:∀ j,r≠.no j){μ w}(D:Hp P μ m w)(E:RL μ l L):
  ∃ v V w' b m',(callFunc f ⟨L⟩).run P w=.ok (.value V) w'/\R b v V/\r=.ret v m'/\Hp P b m' w'/\Gn μ m w b m' w':=by
 obtain⟨F,A,p⟩:=i c z B;unfold noZ at e;split at e
 case h_2=>grind
 rename_i t q;have p:=p t q;split at e
 case h_2=>grind
 rename_i h G;rw[bi_eq]at e;split at e
 case isFalse=>grind
 rename_i d;have d:szT P h=1:=Nat.eq_of_beq_eq_true d;simp only[qzG]at e;cases l with
 |nil=>grind
 |cons v H=>
  cases H with
  |cons _ _=>grind
  |nil=>
   simp only[qvt]at e;split at e
   case h_2=>grind
   rename_i k n;rw[bi_eq]at e;split at e
   case isFalse=>grind
   rename_i s;have s:k=.i64:=qxm (Nat.eq_of_beq_eq_true s);subst s;cases n with
   |negSucc n=>exact absurd e.symm (o _)
   |ofNat n=>
    simp only[cI_nat,bi_eq,natF_eq]at e;split at e
    case isFalse=>grind
    rename_i a;have a:n<=1048576:=Nat.le_of_ble_eq_true a;obtain⟨V,S,rfl,I,J⟩:=E.cons_inv;have:=J.nil_inv;subst this;have:=I.int;subst this;subst e;cases g:newC (.cells 0 h []) (slV n 1) m with
    |no j=>grind
    |pan v K=>unfold newC at g;rw[M.new_eq]at g;split at g<;>cases g
    |ret v K=>
     obtain⟨u,rfl,rfl⟩:=qvs g;obtain⟨cs,run,x,N⟩:=Lib.run_makeNoZero (P:=P) w A t h G n (by omega);obtain⟨O,Q⟩:=D.newCells (ro:=0) (t:=h) (l:=[]) (vs:=cs) (fr:=(0,0)) (w0:=w.drew.drew) u (Nat.zero_le _) .nil (λj v e=>by grind) rfl ⟨rfl,rfl⟩ (.inl rfl);refine⟨_,.slice (some ⟨w.heap.size,0,none⟩) n cs.size,_,_,_,?_,?_,rfl,O,Q⟩
     . have y:c.body.isNone=true:=by grind
       simp only[callFunc,program,bind,Sem.bind,Sem.run,z,C,y,F,p,mark,Bool.false_eq_true,if_false,if_true];have:=Sem.run_bind (P:=P) (w:=w) (Extern.BytealgMakeNoZero.makeNoZero A #[t] #[.int .i64 n]) λv=>(pure (.value v):Sem Next)
       rw[run]at this;exact this
     . refine .sl m.next 0 n 1 ⟨w.heap.size,0,cs.size⟩ cs.size (Mu.set_same μ _ _) x ?_;simp
theorem qBC {n}(h:n<=1024):n<=4 ^ dpOf n:=by
 unfold dpOf;simp only[bi_eq];split
 . simp_all
 .
  split
  . simp_all
  omega
theorem qEi {P w r}(h:w.heap[r]? = some (.deferred (some []))):(Instr.takeDeferred r).run P w=.ok [] { w with heap:=w.heap.setIfInBounds r (.deferred none) }:=by simp[Instr.takeDeferred,getObj,setObj,Sem.run,h]
theorem qwi {P j tmps R μ0 μ m0 m w0 u}(n:u≠.run)(K:∀ w',Hp P μ m w'->Gn μ0 m0 w0 μ m w'->LeavesIn (FW none) 0 P j tmps R [] u w'):
  ∀ (D:List Deferred) (w:World),Mk w0 μ m w D->Hp P μ m w->Gn μ0 m0 w0 μ m w->LeavesInM (FW none) 0 P j tmps R D u w
 |[],w,_,c,a=>K w c a
 |d::ds,w,⟨⟨r,o,z,A,p,q,B⟩,C⟩,c,a=>by
  have f:∀ b,b≠r->(w.heap.setIfInBounds r (.deferred none))[b]? = w.heap[b]?:=λb f=>by grind
  refine⟨n,.inl ⟨r,_,by rw[o];rfl,qEi p,?_⟩⟩;refine qwi n K ds _ ?_ (c.aside q (by simp) f) ⟨a.ext,a.next,by grind,λb g s=>?_,a.own,a.out,a.old⟩
  .
   clear a;have key:∀ l:List Deferred,Mk w0 μ m w l->(∀ h∈l,h≠d)->Mk w0 μ m { w with heap:=w.heap.setIfInBounds r (.deferred none) } l:=by
    intro l
    induction l with
    |nil=>intro _ _;trivial
    |cons e l t=>
     rintro ⟨⟨r',k1,v,E,F,x,y⟩,k⟩ i
     refine⟨⟨r',k1,v,by grind,?_,x,y⟩,t k λh hd=>i h (List.mem_cons_of_mem _ hd)⟩
     grind
   grind
  . show(w.heap.setIfInBounds r (.deferred none))[b]? = _;rw[f b (by omega)];exact a.rest b g s
theorem qzH {F n P f args u w R b}(h:CallsDIn F n P f args u w R)(d:∀ e u w,R e u w->b e u w):CallsDIn F n P f args u w b:=⟨h.1,λc cs g a=>let ⟨e,i,w',fr,r,rest⟩:=h.2 c cs g a;⟨e,i,w',fr,d _ _ _ r,rest⟩⟩
theorem qEa {P dp nt F m}{a:Act}{w μ}(f:RF μ dp nt F a.tmps)(g:Gl P μ)(h:HO μ w m){r}(b:∀ j,r≠.no j)(d c)(e:(resL P dp d.results.toList).f F m c=r):∃ v,(results d a.tmps).run P w=.ok v w/\∃ vs,c vs=r:=
 let ⟨vs,l,i,_,k⟩:=qbS f g h b d.results.toList c e
 ⟨_,qei k,vs,i⟩
theorem qBb {ne nz}(hne:NE P ne)(hnz:NZ P nz)(hmix:P.follows .mixedOrders=true)(p:∀ (f:Nat) (fn:Func),P.funcs[f]? = some fn->(fn.name == "runtime.NumGoroutine")=false){ih}(A:qN P ih)(n):
  qN P (λt l m=>onTg t (λf=>(func P ne nz f).f ih n l m) (λ_=>.no 175)):=by
  intro t l m r e b μ w L T hg U;replace e:onTg t (λf=>(func P ne nz f).f ih n l m) (λ_=>.no 175)=r:=e;rw[qzX]at e;cases t with
  |yd j=>exact absurd e.symm (b 175)
  |fn f=>
  simp only at e;show(∃ fn,_)\/_;unfold func at e;split at e
  . grind
  .
   rename_i fn s;split at e
   .
    rename_i C;rw[bi_eq]at e;split at e
    .
     rename_i I;have I:f=ne:=Nat.eq_of_beq_eq_true I;subst I;cases l with
     |nil=>exact absurd e.symm (b _)
     |cons v t=>
      cases t with
      |cons v2 t=>exact absurd e.symm (b _)
      |nil=>
       obtain⟨V,L',rfl,h1,i⟩:=U.cons_inv;have:=i.nil_inv;subst this;obtain⟨k1,k2,k3⟩:=hne fn s C;refine .inr ⟨v,V,w,μ,m,?_,h1,e.symm,T,.refl _ _ _,λW hf'=>by grind⟩;have hbn:fn.body.isNone=true:=by grind
       simp only[callFunc,program,bind,Sem.bind,Sem.run,s,k1,hbn,k2,k3,mark,Bool.false_eq_true,if_false,if_true];rfl
    . rw[bi_eq]at e;split at e
      . rename_i J;have J:f=nz:=Nat.eq_of_beq_eq_true J;subst J;obtain⟨v,V,w',μ',m',g1,g2,g3,g4,g5⟩:=qB6 hnz s C (p f fn s) e b T U
        grind
      . obtain⟨v,g1,g2,g3⟩:=qBJ s C (p f fn s) e b (w:=w) U;exact .inr ⟨v,v,w,μ,m,g3,g2,g1,T,.refl _ _ _,λW hf'=>by grind⟩
   .
    rename_i c C;rw[bi_eq]at e;split at e
    . grind
    .
     rename_i K;have K:fn.ntmps<=1024:=by rw[quZ]at K;simp_all
     have o:=qBC K;split at e
     .
      rename_i k hk;obtain⟨h1,X,i,Y⟩:=qxv o b l 0 .e (Nat.zero_le _) e;have N:=qyE o U (by omega) Y;refine .inl ⟨fn,s,by grind,p f fn s,?_⟩;rw[qD2]at i;split at i
      case h_2=>grind
      rename_i x F B d hc;refine callsIn_wide.1 (callsIn_of_wp_marks (F:=FW none) (n:=0) s C trivial (qzK (μ0:=μ) (m0:=m) (w0:=w) o A hmix n c k hk X m _ w μ x F B d _ ⟨T,.refl _ _ _,hg,N,rfl⟩ hc λO y w1 hs=>?_));obtain⟨D1,q,hx,a,hd⟩:=hs;unfold leaveD at i;cases d with
      |none=>
       have hd:D1=[]:=hd;subst hd;have g:(resL P (dpOf fn.ntmps) fn.results.toList).f F B (λvs=>CO.ret (E.one vs) B)=r->LeavesInM (FW none) 0 P fn y.tmps (Fin P μ m w r) y.defers .returning w1:=by intro e;rw[a.df];obtain⟨vs,Us,O,Z,e3⟩:=qbS a.rf a.gl a.hp.obj b fn.results.toList _ e;subst O;exact⟨_,qei e3,q,qeM Z,a.hp,a.gn⟩
       cases hx with
       |norm=>exact g i
       |ret=>exact g i
       |exit id=>exact absurd i.symm (b _)
       |pan v V hv=>have i:CO.pan v B=r:=i;subst i;show LeavesInM (FW none) 0 P fn y.tmps _ y.defers (.panicking _) w1;rw[a.df];exact⟨V,q,rfl,hv,a.hp,a.gn⟩
      |some fl=>
       obtain⟨f',l'⟩:=fl;obtain⟨b1,b2,rfl,hl'⟩:=hd;simp only[qD4]at i;have key:∀ (u:FrameMode) (rv:Value),u≠.run->((u=.returning/\rv=nilV)\/∃ V,u=.panicking [{ v:=V,recovered:=false }]/\R q rv V) ->
         ∀ z,(∀ v m,z v m=CO.no 207\/z v m=CO.no 208)->onCO ((qCi P f').f ih n l' rv B) (λ_ m=>(resL P (dpOf fn.ntmps) fn.results.toList).f F m λvs=>.ret (E.one vs) m) z CO.no=r ->
         LeavesInM (FW none) 0 P fn y.tmps (Fin P μ m w r) y.defers u w1:=by
        intro u rv hu0 hu z hz e;rw[qvP]at e;split at e
        . rename_i v2 m2 hr2;obtain⟨W,f1,f2,f3,D⟩:=qz5 A hmix hr2 a.hp a.gl hl' hu p (λhF hG hO _ b fn c e=>qEa hF hG hO b fn c e)
           (λ{dp nt c r} o b e=>by obtain⟨h1,X,i,Y⟩:=qxv o b l' 0 .e (Nat.zero_le _) e;exact⟨X,i,qyE o hl' (by omega) Y⟩) (λn hn=>qBC hn)
          rw[a.df];refine⟨hu0,.inr ⟨λh=>FW.room h,.func f',b2,f',b1++b2,rfl,Yh f1 f2 f3 _ _,λ_ _=>trivial,qzH D λen u' w' C=>?_⟩⟩;cases en with
          |returned V2=>obtain⟨hset,μ2,hp2,Q⟩:=C;show LeavesIn (FW none) 0 P fn y.tmps _ [] (settle u') w';rw[hset];obtain⟨vs,Us,O,Z,e3⟩:=qbS (a.rf.mono Q.ext) (a.gl.mono Q.ext) hp2.obj b fn.results.toList _ e;subst O;exact⟨_,qei e3,μ2,qeM Z,hp2,a.gn.trans Q⟩
          |_=>exact C.elim
        . grind
        grind
       cases hx with
       |norm=>exact key .returning nilV (by simp) (.inl ⟨rfl,rfl⟩) _ (λ_ _=>.inl rfl) i
       |ret=>exact key .returning nilV (by simp) (.inl ⟨rfl,rfl⟩) _ (λ_ _=>.inl rfl) i
       |exit id=>grind
       |pan v V hv=>exact key (.panicking [{ v:=V,recovered:=false }]) v (by simp) (.inr ⟨V,rfl,hv⟩) _ (λ_ _=>.inr rfl) i
     rename_i hkn;obtain⟨h1,X,i,Y⟩:=qxv o b l 0 .e (Nat.zero_le _) e;have N:=qyE o U (by omega) Y;refine .inl ⟨fn,s,by grind,p f fn s,?_⟩;rw[qvo]at i;split at i
     . rename_i x F B hc;refine callsIn_wide.1 (callsIn_of_wp_marks (F:=FW none) (n:=0) s C trivial (qu8 (ro:=none) (rg:=true) (μ0:=μ) (m0:=m) (w0:=w) o A hmix (λ_=>rfl) n c [] X m _ w μ x F B _ ⟨T,.refl _ _ _,hg,N,rfl⟩ (λ_=>trivial) hc λO y w1 hs=>?_));obtain⟨D1,q,hx,a,G,_⟩:=hs;replace G:=G rfl;have g:(resL P (dpOf fn.ntmps) fn.results.toList).f F B (λvs=>CO.ret (E.one vs) B)=r->LeavesInM (FW none) 0 P fn y.tmps (Fin P μ m w r) y.defers .returning w1:=by intro e;rw[a.df];refine qwi (by simp) (λw' H S=>?_) D1 w1 G a.hp a.gn;obtain⟨vs,Us,O,Z,e3⟩:=qbS a.rf a.gl H.obj b fn.results.toList _ e;subst O;exact⟨_,qei e3,q,qeM Z,H,S⟩
       cases hx with
       |norm=>exact g i
       |ret=>exact g i
       |exit id=>exact absurd i.symm (b _)
       |pan v V hv=>have i:CO.pan v B=r:=i;subst i;show LeavesInM (FW none) 0 P fn y.tmps _ y.defers (.panicking _) w1;rw[a.df];refine qwi (by simp) (λw' H S=>?_) D1 w1 G a.hp a.gn;exact⟨V,q,rfl,hv,H,S⟩
     grind
theorem qxH {h i}(b:NE P h)(c:NZ P i)(hmix:P.follows .mixedOrders=true)(a:∀ (f:Nat) (j:Func),P.funcs[f]? = some j->(j.name == "runtime.NumGoroutine")=false){k}(d:∀ o,qN P o->qN P (k o)):∀ n,qN P (qED P h i k n)
 |0=>λf l m r e g=>absurd e.symm (g _)
 |n+1=>qBb b c hmix a (d _ (qxH b c hmix a d n)) n
theorem qA3 {d e}(b:NE P d)(c:NZ P e)(hmix:P.follows .mixedOrders=true)(a:∀ (f:Nat) (g:Func),P.funcs[f]? = some g->(g.name == "runtime.NumGoroutine")=false)(n):qN P (call P d e n):=qxH b c hmix a (λ_ h=>h) n
end
end E
end Go.Proofs.YtnnhdcidgfjfpaaGreatDoor
namespace Go.Proofs.YtnnhdcidgfjfpaaGreatDoor
namespace E
open Go.ChangeShapes Go.WideShapes Go.ChangeAt Go.RowKit
noncomputable def isTrue (r:CO):Bool:=onCO r (λv _=>qxX v (λb=>b) false) (λ_ _=>false) (λ_=>false)
theorem qBU {r}(h:isTrue r=true):∃ m,r=.ret (.bool true) m:=by
 unfold isTrue at h;rw[qvP]at h;split at h
 .
  rename_i v m;rw[qvV]at h;split at h
  . simp_all
  grind
 . cases h
 grind
theorem Hp.start (P)(w):Hp P (λ_=>none) (.mk 0 .e) w:=⟨λi x e=>(by cases e),λ_ _=>rfl,Nat.zero_le _,λi x e=>(by cases e),λi x e=>(by cases e),λi j x y _ _ _ e=>(by cases e)⟩
theorem qDk {P:Program}(b:(P.funcs.toList.all λa=>!(a.name == "runtime.NumGoroutine"))=true)(f:Nat)(a)(c:P.funcs[f]? = some a):(a.name == "runtime.NumGoroutine")=false:=by grind
theorem qyG {P rec f}(c:qN P rec)(h:isTrue (rec (.fn f) [] (.mk 0 .e))=true)(d:(P.funcs.toList.all λg=>!(g.name == "runtime.NumGoroutine"))=true){g}(u:P.funcs[f]? = some g)(n:g.body.isSome=true)(w):Calls P f #[] w λj w'=>j=.returned (.bool true)/\w.heap.size<=w'.heap.size/\(∀ b,b<w.heap.size->w'.heap[b]? = w.heap[b]?)/\w'.os=w.os/\w'.output=w.output:=by
 have k:=qDk d;obtain⟨m,o⟩:=qBU h;rcases c (.fn f) [] (.mk 0 .e) _ o (by grind) (λ_=>none) w [] (Hp.start P w) ⟨rfl,rfl⟩ .nil with⟨p,q,y,z,r⟩|⟨v,V,_,_,_,q,_⟩
 .
  refine Calls.mono r λj w' a=>?_;cases j with
  |returned V=>obtain⟨s,t,A,l⟩:=a;rw[t.bool];exact⟨rfl,l.size,λb n=>l.rest b n λi x _ e=>(by cases e),l.out⟩
  |_=>exact a.elim
 grind
theorem closed_calls {P g i n f}(h:isTrue (call P g i n (.fn f) [] (.mk 0 .e))=true)(d:NE P g)(e:NZ P i)(hmix:P.follows .mixedOrders=true)(a:(P.funcs.toList.all λc=>!(c.name == "runtime.NumGoroutine"))=true){c}(j:P.funcs[f]? = some c)(k:c.body.isSome=true)(w):Calls P f #[] w λl w'=>l=.returned (.bool true)/\w.heap.size<=w'.heap.size/\(∀ b,b<w.heap.size->w'.heap[b]? = w.heap[b]?)/\w'.os=w.os/\w'.output=w.output:=qyG (qA3 d e hmix (qDk a) n) h a j k w
end E
end Go.Proofs.YtnnhdcidgfjfpaaGreatDoor
namespace Go.Proofs.YtnnhdcidgfjfpaaGreatDoor
namespace E
def all2 {α:Type}(f:α->α->Bool):List α->List α->Bool
 |[],[]=>true
 |x::l,y::m=>(f x y)&&(all2 f l m)
 |_,_=>false
def qCj:Value->Value->Bool
 |.bool a,.bool b=>decide (a=b)
 |.int k a,.int j b=>(decide (k=j))&&(decide (a=b))
 |.float k a,.float j b=>(decide (k=j))&&(Nat.beq a b)
 |.string ⟨⟨a⟩⟩,.string ⟨⟨b⟩⟩=>all2 (λx y=>decide (x=y)) a b
 |.pointer a,.pointer b=>decide (a=b)
 |.slice a n c,.slice b m d=>(decide (a=b))&&((Nat.beq n m)&&(Nat.beq c d))
 |.map a,.map b=>decide (a=b)
 |.nilFunc,.nilFunc=>true
 |.nilIface,.nilIface=>true
 |.chan none,.chan none=>true
 |.func (.func f) ⟨[]⟩ ⟨[]⟩,.func (.func g) ⟨[]⟩ ⟨[]⟩=>Nat.beq f g
 |_,_=>false
def qCk:Value->Value->Bool
 |.agg ⟨l⟩,.agg ⟨m⟩=>all2 qCj l m
 |.iface t v,.iface u w=>(Nat.beq t u)&&(qCj v w)
 |v,w=>qCj v w
def same:Value->Value->Bool
 |.tuple ⟨l⟩,.tuple ⟨m⟩=>all2 qCk l m
 |v,w=>qCk v w
def qGu (a b:MapEntry):Bool:=(qCk a.key b.key)&&((qCk a.val b.val)&&(Nat.beq a.born b.born))
def qGv:O->O->Bool
 |.cells r t c,.cells r' a b=>(Nat.beq r r')&&((Nat.beq t a)&&(all2 qCk c b))
 |.map e k,.map d f=>(all2 qGu e d)&&(Nat.beq k f)
 |.dead,.dead=>true
 |_,_=>false
def part:T O->T O->Bool
 |_,.e=>true
 |.l a,.l b=>qGv a b
 |.n a b c d,.n e f g h=>(part a e)&&((part b f)&&((part c g)&&(part d h)))
 |_,_=>false
def qGt:M->M->Bool
 |.mk n t,.mk a b=>(Nat.beq n a)&&(part t b)
noncomputable def gives (r:CO)(v:Value)(m:M):Bool:=onCO r (λv' m'=>(same v' v)&&(qGt m' m)) (λ_ _=>false) (λ_=>false)
structure Known where
 f:Nat
 l:List Value
 m:M
 v:Value
 m':M
def Known.ok (P:Program)(k:Known):Prop:=∃ rec,qN P rec/\gives (rec (.fn k.f) k.l k.m) k.v k.m'=true
theorem Hp.part {P μ m n w}(h:Hp P μ m w)(g:n.next=m.next)(b:∀ i,n.at i=m.at i\/n.at i=.dead):Hp P μ n w where
 obj i x e:=by
  rcases b i with h1|h1<;>rw[h1]
  . exact h.obj i x e
  . trivial
 fresh i a:=h.fresh i (g▸a)
 room:=g▸h.room
 root i x e c:=by
  rcases b i with h1|h1<;>rw[h1]at c
  . exact h.root i x e c
  . cases c
 lt:=h.lt
 inj i j x y d a f k l:=by
  rcases b i with h1|h1<;>rw[h1]at a
  . rcases b j with h2|h2<;>rw[h2]at f
    . exact h.inj i j x y d a f k l
    . cases f
  . cases a
theorem Gn.part {μ a m m' n w w'}(h:Gn μ m w a m' w')(c:n.next=m'.next)(d:∀ i,n.at i=m'.at i\/n.at i=.dead):Gn μ m w a n w' where
 ext:=h.ext
 next:=c▸h.next
 size:=h.size
 rest:=h.rest
 own i x b e:=by
  rcases d i with h1|h1<;>rw[h1]at b
  . exact h.own i x b e
  . cases b
 out:=h.out
 old:=h.old
end E
end Go.Proofs.YtnnhdcidgfjfpaaGreatDoor

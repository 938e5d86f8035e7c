/-
  The interpreter of the model's code over values, and its soundness: part 5 of 5. No claim stands here.
-/
import Derived.Test.YtnnhdcidgfjfpaaGreatDoorLibDq
set_option linter.all false
namespace Go.Proofs.YtnnhdcidgfjfpaaGreatDoor
namespace Ab
noncomputable section
section
variable [Glob]
theorem YG.mono {P c Q f}(g:∀ e a w,Q e a w->f e a w){a w}(h:YG P c Q a w):YG P c f a w:=by intro b k cs;obtain⟨e,i,w',j,d⟩:=h b k cs;exact⟨e,i,w',g _ _ _ j,d⟩
theorem qcu {P Q g}(i:∀ e a w,Q e a w->g e a w):∀ {K:List TItem} {e:Exit} {a:Act} {w:World},KQ P K Q e a w->KQ P K g e a w
 |[],e,a,w,h=>i _ _ _ h
 |.code c::K,e,a,w,h=>by
  have d:∀ e a w,KQ P K Q e a w->KQ P K g e a w:=λ_ _ _=>qcu i;cases e with
  |normal=>exact Code.wp_mono d h
  |_=>exact d _ _ _ h
 |.inBlock id::K,e,a,w,h=>by
  have d:∀ e a w,KQ P K Q e a w->KQ P K g e a w:=λ_ _ _=>qcu i;cases e with
  |exit f=>
   have j:if f=id then KQ P K Q .normal a w else KQ P K Q (.exit f) a w:=h
   show if f=id then KQ P K g .normal a w else KQ P K g (.exit f) a w
   split at j
   . rename_i k;rw[aD k];exact d _ _ _ j
   . rename_i k;rw[aF k];exact d _ _ _ j
  |_=>exact d _ _ _ h
 |.inLoop b::K,e,a,w,h=>by
  have d:∀ e a w,KQ P K Q e a w->KQ P K g e a w:=λ_ _ _=>qcu i;cases e with
  |normal=>exact YG.mono d h
  |_=>exact d _ _ _ h
def FinQ (D:Act->Prop)(cx:Cx)(Q:Gh->World->Exit->Act->World->Prop)(K:List TItem)(F:Fr):Prop:=∀ G0 w0 G w a,(∀ d,¬ G0.lv d)->RelF G w F a.tmps->zS G0 w0 G w->D a->KQ cx.P K (Q G0 w0) .normal a w
theorem Fin.q {cx c K F res d}(h:Fin cx c K F res d){Q}(f:∀ G0 w0 e a w,bodyPost cx.P c (Went G0 w0 res d) e a w->Q G0 w0 e a w):FinQ D0 cx Q K F:=λG0 w0 G w a b g i hd=>qcu (f G0 w0) (h G0 w0 G w a b g i hd)
inductive DStop where
 |at (K:List TItem) (F:Fr)
 |ret (F:Fr)
 |pan (v:Value) (F:Fr)
def DStop.ends (D:Act->Prop)(cx:Cx)(Q:Gh->World->Exit->Act->World->Prop):DStop->Prop
 |.at K F=>FinQ D cx Q K F
 |.ret F=>∀ G0 w0 G w a,(∀ d,¬ G0.lv d)->RelF G w F a.tmps->zS G0 w0 G w->D a->Q G0 w0 .normal a w/\Q G0 w0 .ret a w
 |.pan v F=>∀ G0 w0 G w a,(∀ d,¬ G0.lv d)->RelF G w F a.tmps->zS G0 w0 G w->D a->Q G0 w0 (.panic [{ v,recovered:=false }]) a w
def D1 (P:Program)(k f:Nat)(a:Act):Prop:=∃ c cap b vs us,a.defers=[{ target:=.fn c cap,args:=b }]/\a.tmps[k]? = some (.func (.func f) vs us)/\∀ w,(invoke (.fn c cap) b).run P w=.ok (.enter f (vs++us)) w
end
section
variable [Glob]
theorem qgY {G w w' args Vs}(h:RelF G w ⟨args,qd 0 []⟩ Vs)(i:Go.RowKit.Below w.heap.size w w'){v V}(p:∀ r o c,cellAt v.rows r o=some c->∃ x,c=.val x)(q:YY G w ⟨.slot 0,[]⟩ v V):RelF G w' ⟨[v],qd 0 []⟩ #[V]:=by
 have s:Same G w w':=⟨i.size,λb hi=>i.block b (h.inv.imlt b hi),λk x e=>i.block x.b (h.inv.lt k x e)⟩
 have t:RelF G w ⟨[v],qd 0 []⟩ #[V]:=by
  refine⟨h.inv,rfl,λk v' e=>?_,λr l e=>by simp[qd]at e,λd hd=>by have:=h.live d hd;simp[qd]at this,λk rows e hi=>?_⟩
  . cases k with
    |zero=>simp only[aI,aa]at e;subst e;exact⟨V,rfl,q⟩
    |succ k=>simp at e
  .
   exfalso;by_cases n:k.path=[]
   . rcases hi with hi|hi
     . exact hi n
     . obtain⟨root,f⟩:=k;cases root<;>simp[Root.boxed]at hi<;>simp[Fr.rowsAt,Fr.rows,qd]at e
   .
    obtain⟨r,o,u,y,g⟩:=Zg e n;unfold Fr.get at g;cases a:Fr.rowsAt ⟨[v],qd 0 []⟩ ⟨k.root,[]⟩with
    |none=>simp[a]at g
    |some m=>
     simp only[a,ae]at g;have:∃ r o,cellAt v.rows r o=some (.own u y):=by
      obtain⟨root,f⟩:=k;cases root with
      |slot j=>
       cases j with
       |zero=>simp[Fr.rowsAt,Fr.rows,getR]at a;subst a;exact⟨_,_,g⟩
       |succ j=>simp[Fr.rowsAt,Fr.rows]at a
      |_=>simp[Fr.rowsAt,Fr.rows,qd]at a
     obtain⟨r,o,z⟩:=this;obtain⟨x,a⟩:=p r o _ z;cases a
 exact t.same s
theorem Qn {G w w' args Vs}(h:RelF G w ⟨args,qd 0 []⟩ Vs)(a:Go.RowKit.Below w.heap.size w w'){v V}(b:∀ r o c,cellAt v.rows r o=some c->∃ x,c=.val x)(d:YY G w ⟨.slot 0,[]⟩ v V):Went G w (.ret v) [] (.returned V) w':=by exact⟨G,Gain.same a.size a.block h.inv ⟨a.os,a.output⟩,V,rfl,qgY h a b d⟩
theorem qgW {G w k x}(a:oneC x=true):YY G w k (.c (.val x)) x:=by
 refine⟨by simp[AV.c,QO],λr o c e=>?_⟩
 match r,o,e with
 |0,0,e=>simp only[AV.c,cellAt,aI,ae,aa]at e;subst e;exact⟨x,rfl,.inr ⟨rfl,a⟩⟩
 |0,o+1,e=>simp[AV.c,cellAt]at e
 |r+1,o,e=>simp[AV.c,cellAt]at e
theorem qjE {x}:∀ r o c,cellAt (AV.c (.val x)).rows r o=some c->∃ y,c=.val y:=by
 intro r o c e
 match r,o,e with
 |0,0,e=>simp only[AV.c,cellAt,aI,ae,aa]at e;exact⟨x,e.symm⟩
 |0,o+1,e=>simp[AV.c,cellAt]at e
 |r+1,o,e=>simp[AV.c,cellAt]at e
theorem qfA {G w w' args Vs}(h:RelF G w ⟨args,qd 0 []⟩ Vs)(a:Go.RowKit.Below w.heap.size w w'){x}(b:oneC x=true):Went G w (.ret (.c (.val x))) [] (.returned x) w':=Qn h a qjE (qgW b)
end
section
variable [Glob]
def rep {α:Type}(n:Nat)(x:α):List α:=List.replicate n x
def noHand:Nat->Nat->Bool:=λ_ _=>false
def AllP:List Prop->Prop
 |[]=>True
 |p::l=>p/\AllP l
theorem AllP.mem:∀ {l:List Prop},AllP l->∀ p∈l,p
 |[],_,p,hp=>by cases hp
 |q::l,⟨a,b⟩,p,hp=>by
  rcases List.mem_cons.1 hp with rfl|hp
  . exact a
  . exact AllP.mem b p hp
def qlb {α:Type}(v:AV)(k:AV->α):α:=match v with|⟨t,rows⟩=>qjP t λt=>XE (XE qfw) rows λrows=>k ⟨t,rows⟩
theorem qjz {α}(v)(k:AV->α):qlb v k=k v:=by obtain⟨t,rows⟩:=v;simp only[qlb];have:∀ (k:List (List Cell)->α),XE (XE qfw) rows k=k rows:=vU (λl k=>vU (λc k=>qdx c k) l k) rows;cases t<;>exact this _
def qeB {α:Type}(a ls:List Nat):List Bool->List AV->(List AV->α)->α
 |true::m,_::l,k=>qeB a ls m l λl=>k (.deadv::l)
 |false::m,v::l,k=>qlb (v.mapC (yV a ls)) λv=>qeB a ls m l λl=>k (v::l)
 |_,[],k=>k []
 |[],l,k=>k l
def qdk (a:List Nat):Nat->Nat->List Bool
 |_,0=>[]
 |i,n+1=>a.contains i::qdk a (i+1) n
theorem qdC (a):∀ (n i:Nat),(qdk a i n).length=n
 |0,_=>rfl
 |n+1,i=>by simp[qdk,qdC a n]
theorem qcy {α}(a ls):∀ (s:List AV) (i:Nat) (k:List AV->α),qeB a ls (qdk a i s.length) s k=k (YS a ls i s)
 |[],i,k=>rfl
 |v::s,i,k=>by
  show qeB a ls (a.contains i::qdk a (i+1) s.length) (v::s) k=k (YS a ls i (v::s));cases h:a.contains i with
  |true=>simp only[qeB,YS,qcy a ls s (i+1),h,if_true]
  |false=>simp only[qeB,YS,qcy a ls s (i+1),h,qjz,aS,if_false]
def qhZ {α:Type}(a ls:List Nat)(m:List Bool)(F:Fr)(k:Fr->α):α:=match F with
 |⟨s,b⟩=>if m.length=s.length then qeB a ls m s λs=>QA (qcZ a ls b) λb=>k ⟨s,b⟩else k (F.norm a ls)
theorem qi6 {α}(a ls n F)(k:Fr->α):qhZ a ls (qdk a 0 n) F k=k (F.norm a ls):=by
 obtain⟨s,b⟩:=F;unfold qhZ;simp only[qdC];split
 . rename_i h;rw[h,qcy,Yv];rfl
 . rfl
def bm:Nat->Nat->List Bool
 |0,_=>[]
 |n+1,m=>(m % 2==1)::bm n (m / 2)
def zZ:Nat->List Bool->List Nat
 |_,[]=>[]
 |i,true::m=>i::zZ (i+1) m
 |i,false::m=>zZ (i+1) m
theorem qbf:∀ {m:List Bool} {i k:Nat},k∈zZ i m->i<=k
 |[],i,k,h=>by cases h
 |true::m,i,k,h=>by
  rcases List.mem_cons.1 h with rfl|h
  . omega
  . have:=qbf h;omega
 |false::m,i,k,h=>by have:=qbf (m:=m) h;omega
theorem ZF:∀ (m:List Bool) (i:Nat) (pre:List Nat),(∀ k∈pre,k<i)->qdk (pre++zZ i m) i m.length=m
 |[],i,pre,_=>rfl
 |x::m,i,pre,h=>by
  have c:pre.contains i=false:=by grind
  show(pre++zZ i (x::m)).contains i::qdk (pre++zZ i (x::m)) (i+1) m.length=x::m;cases x with
  |true=>
   have b:(pre++zZ i (true::m)).contains i=true:=by simp[zZ]
   rw[b];have:pre++zZ i (true::m)=(pre++[i])++zZ (i+1) m:=by simp[zZ]
   rw[this,ZF m (i+1) (pre++[i]) (λk a=>by grind)]
  |false=>
   have b:(pre++zZ i (false::m)).contains i=false:=by
    cases d:(pre++zZ i (false::m)).contains i with
    |false=>rfl
    |true=>
     have:i∈pre++zZ i (false::m):=by grind
     rcases List.mem_append.1 this with a|a
     . grind
     . have:=qbf (m:=m) (i:=i+1) a;omega
   rw[b];have:pre++zZ i (false::m)=pre++zZ (i+1) m:=by simp[zZ]
   rw[this,ZF m (i+1) pre (λk a=>by grind)]
theorem qbU {α}(m ls F)(k:Fr->α):qhZ (zZ 0 m) ls m F k=k (F.norm (zZ 0 m) ls):=by
 have h:=ZF m 0 [] (λk a=>by cases a);rw[List.nil_append]at h;have:=qi6 (zZ 0 m) ls m.length F k
 grind
theorem Fin.norm {cx c K F res d e ls}(h:Fin cx c K (F.norm e ls) res d):Fin cx c K F res d:=by intro G0 w0 G w a b f g hd;obtain⟨G',i,j⟩:=qax f e ls;exact h G0 w0 G' w a b i (g.trans j) hd
def Fr.fz (F:Fr)(p:Pl):Option Fr:=match F.get p with
 |some (.ref q)=>match F.get q with
  |some (.own _ rows)=>match F.set q (.imm (qG rows))with
   |some a=>a.set p (.imm (qG rows))
   |none=>none
  |_=>none
 |_=>none
def Fr.co (F:Fr)(p:Pl):Option Nat->Option Fr
 |some sz=>match F.get p with
  |some .nil=>match F.set p .dead with
   |some a=>(a.kill p).set p (.own sz [])
   |none=>none
  |_=>none
 |none=>match F.get p with
  |some .nil=>F.set p (.imm [])
  |some (.own _ rows)=>F.set p (.imm (qG rows))
  |some (.ref _)=>F.fz p
  |_=>none
def Fr.cos (F:Fr):List (Pl×Option Nat)->Option Fr
 |[]=>some F
 |(p,s)::l=>match F.co p s with
  |some F'=>F'.cos l
  |none=>none
theorem Val.back {G G' w F F' ts p u}(f:G'.γ p.key=G.γ p.key)(g:∀ k:Nat,(F'.slots[k]?).map AV.tag=(F.slots[k]?).map AV.tag)(h:Val G' w F' ts p u):Val G w F ts p u:=by
 rcases h with⟨i,x,vs,T,c,a,b⟩|⟨j,k,v,V,c,a,b,m⟩
 . exact .inl ⟨i,x,vs,T,by grind,a,b⟩
 .
  have d:=g k;rw[a]at d;cases e:F.slots[k]? with
  |none=>grind
  |some l=>simp only[e,av,aa]at d;exact .inr ⟨j,k,l,V,c,e,b,by grind⟩
theorem qik (F:Fr)(f)(k:Nat):((F.mapC f).slots[k]?).map AV.tag=(F.slots[k]?).map AV.tag:=by simp only[Fr.mapC,aH,Option.map_map];rfl
theorem qau.no_mpb {F i q p rows}(f:qau F i q (.imm rows))(h:∀ d,F.get p≠some (.mpb d))(d):i.get p≠some (.mpb d):=by
 intro c;unfold Fr.get at c;by_cases j:∃ rest,p.key=q.under rest
 . obtain⟨rest,e⟩:=j;rw[e,f.under]at c;simp[subR]at c
 .
  rcases f.other p.key (λrest e=>j ⟨rest,e⟩)with⟨_,o⟩|⟨a,b,r,k,l⟩
  . grind
  .
   rw[k]at c;simp only[ae]at c;by_cases g:(if p.key=q.key then some (q.r,q.o)else none)=some (p.r,p.o)
   .
    have m:p=q:=by
     split at g
     . rename_i s;simp only[aa,ai]at g;cases p;cases q;simp_all
     grind
    have:=f.new;unfold Fr.get at this
    grind
   . obtain⟨t,u,n⟩:=l.cell _ _ _ c g;rcases n with rfl|⟨_,_,_,_,v,_⟩
     . exact h d (by unfold Fr.get;grind)
     grind
theorem qCW {G w F F' ts}(h:RelF G w F ts){p}(e:F.fz p=some F'):∃ G',RelF G' w F' ts/\Gain G w G' w:=by
 unfold Fr.fz at e;split at e
 .
  rename_i q f;split at e
  .
   rename_i r rows d;split at e
   . rename_i s g;have a:=Fr.setTo g;obtain⟨i,j,_,l⟩:=h.freezeAt d a;refine⟨_,i.set (Fr.setTo e) (λ_=>rfl) (λu m=>.inr ?_) (Tree.flat (by grind)) (a.no_mpb (by grind)),j⟩;have b:Val G w F ts p u:=m.back rfl (λk=>a.tags k);obtain⟨t,c,hs⟩:=h.val f;rw[<- b.unique c]at hs;rcases hs with⟨n,_⟩|hs
     . cases n
     . exact((l u (yD h (λ_=>hs) d (by intro o;simp[Seen]at o)).1).sh p).1
   grind
  grind
 grind
theorem qzT {F:Fr}{p}(h:F.get p=some .dead)(a):(F.kill p).get p≠some (.mpb a):=by
 intro b;rcases(Weak.mapC (qM p) F).get b with h'|h'
 . cases h'
 grind
theorem qfq {G w F F' ts}(h:RelF G w F ts){p s}(e:F.co p s=some F'):∃ G',RelF G' w F' ts/\Gain G w G' w:=by
 have val:∀ c,F.get p=some c->(∀ A,c≠.mpb A)->∀ u,Val G w F ts p u->(c=.dead/\¬ p.key.inHeap)\/Sh G w p c u:=by intro c d B u g;obtain⟨J,m,C⟩:=h.val d B;rw[g.unique m];exact C
 cases s with
 |none=>
  simp only[Fr.co]at e;split at e
  . rename_i d;refine⟨G,h.set (Fr.setTo e) (λ_=>rfl) (λu g=>.inr ?_) (Tree.flat (by grind)) (by grind),Gain.refl G w⟩;rcases val _ d (by grind) u g with⟨f,_⟩|f
    . cases f
    . cases f;exact .immE none 0
  . rename_i K rows d;obtain⟨L,M,_,_⟩:=h.freezeAt d (Fr.setTo e)
    grind
  . exact qCW h e
  grind
 |some sz=>
  simp only[Fr.co]at e;split at e
  .
   rename_i d;split at e
   .
    rename_i D i;have l:=Fr.setTo i;have z:=h.empty l (by grind);have r2:=z.mapC (qM p)
    let Y:Nat->Nat->Option (Option Pl):=λr o=>if r=p.r/\o=p.o then some none else none
    have n:∀ r o x,Y r o≠some (some x):=by grind
    have E:RelF (G.mv p.key Y) w (D.kill p) ts:=r2.mv p.key (Y:=Y) (λr o r' N x x' π H e=>absurd e (n r o x)) (λr o π O=>by
     have:r=p.r/\o=p.o:=by grind
     obtain⟨rfl,rfl⟩:=this;exact vH z l.new π) (λr o x π e=>absurd e (n r o x))
    have q:Zk p.key p.toKey=some (p.r,p.o,[]):=xz.2 rfl;have j:(G.mv p.key Y).γ p.toKey=none:=by simp[Gh.mv,q,Y]
    have I:(G.mv p.key Y).γ p.key=G.γ p.key:=YR (λr o π e=>by have:=congrArg (λk=>k.path.length) e;simp[Pl.under]at this) (λr o x π e=>absurd e (n r o x));have t:=Fr.setTo e;refine⟨_,E.set t (λ_=>rfl) (λu g=>.inr ?_) (λrest rows e=>?_) (qzT l.new),Gain.mv p.key Y⟩
    . have v:Val G w F ts p u:=g.back I (λk=>by rw[Fr.kill,qik,l.tags]);rcases val _ d (by grind) u v with⟨f,_⟩|f
      . cases f
      . cases f;exact .inl ⟨j,rfl,rfl⟩
    . cases rest with
      |nil=>simp only[subR,getR,aa]at e;subst e;exact .inl (.inl ⟨j,rfl,by simp[Pl.under]⟩)
      |cons y rest=>obtain⟨a,b⟩:=y;simp[subR,getR,cellAt]at e
   grind
  grind
theorem Fin.cos {cx c K res d}:∀ {cs:List (Pl×Option Nat)} {F F':Fr},F.cos cs=some F'->Fin cx c K F' res d->Fin cx c K F res d
 |[],F,F',e,h=>by
  simp only[Fr.cos,aa]at e
  grind
 |(p,s)::l,F,F',e,h=>by
  simp only[Fr.cos]at e;split at e
  . rename_i m f;have:=Fin.cos e h;intro G0 w0 G w a b g i hd;obtain⟨G',j,k⟩:=qfq g f;exact this G0 w0 G' w a b j (i.trans k.w) hd
  grind
def mcut (cx:Cx)(a:Func)(b n:Nat)(K:List TItem)(F:Fr)(c:Advs)(m:List Bool)(ls:List Nat)(cs:List (Pl×Option Nat)):Option (TStop×List Prop):=match mgo cx a b n K F c with
 |some (.at K F,d)=>qhZ (zZ 0 m) ls m F λF=>match F.cos cs with
  |some F=>some (.at K F,d)
  |none=>none
 |_=>none
theorem zO {cx a d}(hmix:cx.P.follows .mixedOrders=true){res b n K F f c}(e:mgo cx a d n K F f=some (.fin res b,c))(g:AllP c):Fin cx a K F res b:=qoM hmix e g.mem ⟨rfl,rfl⟩
theorem qhs {cx a f}(hmix:cx.P.follows .mixedOrders=true){res b n K c F F' g d m ls cs}(h:Fin cx a c F' res b)(e:mcut cx a f n K F g m ls cs=some (.at c F',d))(i:AllP d):Fin cx a K F res b:=by
 unfold mcut at e;split at e
 .
  rename_i l o p j;rw[qbU]at e;split at e
  . rename_i q k;simp only[aa,ai,TStop.at.injEq]at e;obtain⟨⟨rfl,rfl⟩,rfl⟩:=e;exact qoM hmix j i.mem (Fin.cos k h).norm
  grind
 grind
def kAt:Code->List Nat->List TItem->List TItem
 |c,2::_,K=>.code c::K
 |_,3::_,K=>K
 |.loop b,4::_,K=>.inLoop b::K
 |.seq a b,0::p,K=>kAt a p (.code b::K)
 |.seq _ b,1::p,K=>kAt b p K
 |.cond _ a _,0::p,K=>kAt a p K
 |.cond _ _ b,1::p,K=>kAt b p K
 |.block id b,0::p,K=>kAt b p (.inBlock id::K)
 |.loop b,0::p,K=>kAt b p (.inLoop b::K)
 |_,_,_=>[]
def itS {S R:Type}(step:Nat->(S->Option R)->S->Option R):Nat->S->Option R
 |0,_=>none
 |k+1,s=>step k (itS step k) s
theorem qF {S R step}{P:S->R->Prop}(h:∀ k rec,(∀ s r,rec s=some r->P s r)->∀ s r,step k rec s=some r->P s r):∀ k s r,itS step k s=some r->P s r
 |0,s,r,e=>by cases e
 |k+1,s,r,e=>h k (itS step k) (qF h k) s r e
abbrev Rs:=List (List Cell)
abbrev ic (n:Int):Cell:=.val (.int .i64 n)
abbrev uc (n:Int):Cell:=.val (.int .u64 n)
abbrev bc (b:Bool):Cell:=.val (.bool b)
def strB (l:List Nat):ByteArray:=⟨(l.map UInt8.ofNat).toArray⟩
def gd {α:Type}(b:Bool)(x:Option α):Option α:=bif b then x else none
def ixR {α:Type}(rows:Rs)(n:Int)(k:List Cell->Option α):Option α:=bif decide (0<=n)then(rows[n.toNat]?).bind k else none
def optC {α β:Type}(o:Option α)(z:Option β)(k:α->Option β):Option β:=match o with
 |none=>z
 |some x=>k x
def altC {α β γ:Type}(v:α⊕β)(f:α->Option γ)(g:β->Option γ):Option γ:=match v with
 |.inl a=>f a
 |.inr b=>g b
theorem qa {α:Type}{b x y}{r:α}(h:(bif b then x else y)=some r):(b=true/\x=some r)\/(b=false/\y=some r):=by grind
theorem zo {α b x}{r:α}(h:gd b x=some r):b=true/\x=some r:=by
 cases b
 . cases h
 . exact⟨rfl,h⟩
theorem qh {α β:Type}{o}{k:α->Option β}{r}(h:o.bind k=some r):∃ v,o=some v/\k v=some r:=by
 cases o with
 |none=>cases h
 |some v=>grind
def sxI {α:Type}(s:ByteArray)(n:Int)(k:Int->Option α):Option α:=bif decide (0<=n)then(Xp s n.toNat).bind k else none
theorem Xm {α s n k}{r:α}(h:sxI s n k=some r):∃ c,(0<=n/\Xp s n.toNat=some c)/\k c=some r:=by
 unfold sxI at h;obtain⟨b,a⟩|⟨_,a⟩:=qa h
 . obtain⟨c,d,e⟩:=qh a
   grind
 grind
theorem YJ {α rows n k}{r:α}(h:ixR rows n k=some r):
  ∃ row,(0<=n/\rows[n.toNat]? = some row)/\k row=some r:=by
 unfold ixR at h
 grind
theorem xw {X:Rs}{r}:0<=(X.length:Int)/\(X++[r])[(X.length:Int).toNat]? = some r:=⟨by omega,by simp⟩
theorem qot {rows:Rs}{n:Int}{row}(h:0<=n/\rows[n.toNat]? = some row):0<=n/\n<rows.length:=by grind
theorem xk {rows:Rs}{n:Int}{row o c}(h:0<=n/\rows[n.toNat]? = some row)(a:row[o]? = some c):∃ b,cellAt rows n.toNat o=some b:=⟨c,by simp only[cellAt,h.2,ae,a]⟩
theorem qu5 {rows:Rs}{n:Int}{row o c}(h:0<=n/\rows[n.toNat]? = some row)(a:row[o]? = some c):cellAt rows n.toNat o=some c:=by simp only[cellAt,h.2,ae,a]
theorem zf {rows:Rs}{n:Int}{row o c}(h:0<=n/\rows[n.toNat]? = some row):0<=n/\(setRow rows n.toNat o c)[n.toNat]? = some (row.set o c):=by
 refine⟨h.1,?_⟩;have a:=(az.1 h.2).1;simp only[setRow,h.2,Option.getD_some]
 grind
def slOk (l h:Int)(rows:Rs)(sz:Nat):Bool:=decide (0<=l/\l<=h/\h<=rows.length/\(rows.head?.all (·.length==sz))=true)
def apOk (bytes sz:Nat)(rows more:Rs):Bool:=(rows.length+more.length)*bytes<=140737488355328&&rows.length+more.length<=lim&&0<sz&&true&&more.head?.all (·.length==sz)&&true
def tup2 {a b γ:Type}(v:a×b)(k:a->b->Option γ):Option γ:=k v.1 v.2
def tup3 {a b c γ:Type}(v:a×b×c)(k:a->b->c->Option γ):Option γ:=k v.1 v.2.1 v.2.2
def tup4 {a b c d γ:Type}(v:a×b×c×d)(k:a->b->c->d->Option γ):Option γ:=k v.1 v.2.1 v.2.2.1 v.2.2.2
def tup5 {a b c d e γ:Type}(v:a×b×c×d×e)(k:a->b->c->d->e->Option γ):Option γ:=k v.1 v.2.1 v.2.2.1 v.2.2.2.1 v.2.2.2.2
def tup6 {a b c d e f γ:Type}(v:a×b×c×d×e×f)(k:a->b->c->d->e->f->Option γ):Option γ:=k v.1 v.2.1 v.2.2.1 v.2.2.2.1 v.2.2.2.2.1 v.2.2.2.2.2
def tup7 {a b c d e f g γ:Type}(v:a×b×c×d×e×f×g)(k:a->b->c->d->e->f->g->Option γ):Option γ:=k v.1 v.2.1 v.2.2.1 v.2.2.2.1 v.2.2.2.2.1 v.2.2.2.2.2.1 v.2.2.2.2.2.2
def tup8 {a b c d e f g h γ:Type}(v:a×b×c×d×e×f×g×h)(k:a->b->c->d->e->f->g->h->Option γ):Option γ:=k v.1 v.2.1 v.2.2.1 v.2.2.2.1 v.2.2.2.2.1 v.2.2.2.2.2.1 v.2.2.2.2.2.2.1 v.2.2.2.2.2.2.2
def tup9 {a b c d e f g h i γ:Type}(v:a×b×c×d×e×f×g×h×i)(k:a->b->c->d->e->f->g->h->i->Option γ):Option γ:=k v.1 v.2.1 v.2.2.1 v.2.2.2.1 v.2.2.2.2.1 v.2.2.2.2.2.1 v.2.2.2.2.2.2.1 v.2.2.2.2.2.2.2.1 v.2.2.2.2.2.2.2.2
def ql {a b c d e f g h i j γ:Type}(v:a×b×c×d×e×f×g×h×i×j)(k:a->b->c->d->e->f->g->h->i->j->Option γ):Option γ:=k v.1 v.2.1 v.2.2.1 v.2.2.2.1 v.2.2.2.2.1 v.2.2.2.2.2.1 v.2.2.2.2.2.2.1 v.2.2.2.2.2.2.2.1 v.2.2.2.2.2.2.2.2.1 v.2.2.2.2.2.2.2.2.2
def qoG {b c d e f g h i j l a γ:Type}(v:b×c×d×e×f×g×h×i×j×l×a)(k:b->c->d->e->f->g->h->i->j->l->a->Option γ):Option γ:=k v.1 v.2.1 v.2.2.1 v.2.2.2.1 v.2.2.2.2.1 v.2.2.2.2.2.1 v.2.2.2.2.2.2.1 v.2.2.2.2.2.2.2.1 v.2.2.2.2.2.2.2.2.1 v.2.2.2.2.2.2.2.2.2.1 v.2.2.2.2.2.2.2.2.2.2
def zu {c d e f g h i j l m a b γ:Type}(v:c×d×e×f×g×h×i×j×l×m×a×b)(k:c->d->e->f->g->h->i->j->l->m->a->b->Option γ):Option γ:=k v.1 v.2.1 v.2.2.1 v.2.2.2.1 v.2.2.2.2.1 v.2.2.2.2.2.1 v.2.2.2.2.2.2.1 v.2.2.2.2.2.2.2.1 v.2.2.2.2.2.2.2.2.1 v.2.2.2.2.2.2.2.2.2.1 v.2.2.2.2.2.2.2.2.2.2.1 v.2.2.2.2.2.2.2.2.2.2.2
theorem qvq {e f g i j l m n o p a b γ v}{k:e->f->g->i->j->l->m->n->o->p->a->b->Option γ}{r}(h:zu v k=some r):∃ q s t u w x y z A B c d,v=(q,s,t,u,w,x,y,z,A,B,c,d)/\k q s t u w x y z A B c d=some r:=⟨v.1,v.2.1,v.2.2.1,v.2.2.2.1,v.2.2.2.2.1,v.2.2.2.2.2.1,v.2.2.2.2.2.2.1,v.2.2.2.2.2.2.2.1,v.2.2.2.2.2.2.2.2.1,v.2.2.2.2.2.2.2.2.2.1,v.2.2.2.2.2.2.2.2.2.2.1,v.2.2.2.2.2.2.2.2.2.2.2,rfl,h⟩
theorem t2 {a b γ v}{k:a->b->Option γ}{r}(h:tup2 v k=some r):k v.1 v.2=some r:=h
theorem b2 {a b γ o}{k:a->b->Option γ}{r}(h:(o.bind λv=>tup2 v k)=some r):∃ v,o=some v/\k v.1 v.2=some r:=qh h
theorem t3 {a b c γ v}{k:a->b->c->Option γ}{r}(h:tup3 v k=some r):k v.1 v.2.1 v.2.2=some r:=h
theorem b3 {a b c γ o}{k:a->b->c->Option γ}{r}(h:(o.bind λv=>tup3 v k)=some r):∃ v,o=some v/\k v.1 v.2.1 v.2.2=some r:=qh h
theorem t4 {a b c d γ v}{k:a->b->c->d->Option γ}{r}(h:tup4 v k=some r):k v.1 v.2.1 v.2.2.1 v.2.2.2=some r:=h
theorem b4 {a b c d γ o}{k:a->b->c->d->Option γ}{r}(h:(o.bind λv=>tup4 v k)=some r):∃ v,o=some v/\k v.1 v.2.1 v.2.2.1 v.2.2.2=some r:=qh h
theorem t5 {a b c d e γ v}{k:a->b->c->d->e->Option γ}{r}(h:tup5 v k=some r):k v.1 v.2.1 v.2.2.1 v.2.2.2.1 v.2.2.2.2=some r:=h
theorem b5 {a b c d e γ o}{k:a->b->c->d->e->Option γ}{r}(h:(o.bind λv=>tup5 v k)=some r):∃ v,o=some v/\k v.1 v.2.1 v.2.2.1 v.2.2.2.1 v.2.2.2.2=some r:=qh h
theorem t6 {a b c d e f γ v}{k:a->b->c->d->e->f->Option γ}{r}(h:tup6 v k=some r):k v.1 v.2.1 v.2.2.1 v.2.2.2.1 v.2.2.2.2.1 v.2.2.2.2.2=some r:=h
theorem b6 {a b c d e f γ o}{k:a->b->c->d->e->f->Option γ}{r}(h:(o.bind λv=>tup6 v k)=some r):∃ v,o=some v/\k v.1 v.2.1 v.2.2.1 v.2.2.2.1 v.2.2.2.2.1 v.2.2.2.2.2=some r:=qh h
theorem b7 {a b c d e f g γ o}{k:a->b->c->d->e->f->g->Option γ}{r}(h:(o.bind λv=>tup7 v k)=some r):∃ v,o=some v/\k v.1 v.2.1 v.2.2.1 v.2.2.2.1 v.2.2.2.2.1 v.2.2.2.2.2.1 v.2.2.2.2.2.2=some r:=qh h
theorem b8 {a b c d e f g i γ o}{k:a->b->c->d->e->f->g->i->Option γ}{r}(h:(o.bind λv=>tup8 v k)=some r):∃ v,o=some v/\k v.1 v.2.1 v.2.2.1 v.2.2.2.1 v.2.2.2.2.1 v.2.2.2.2.2.1 v.2.2.2.2.2.2.1 v.2.2.2.2.2.2.2=some r:=qh h
theorem b10 {a b c d e f g i j l γ o}{k:a->b->c->d->e->f->g->i->j->l->Option γ}{r}(h:(o.bind λv=>ql v k)=some r):∃ v,o=some v/\k v.1 v.2.1 v.2.2.1 v.2.2.2.1 v.2.2.2.2.1 v.2.2.2.2.2.1 v.2.2.2.2.2.2.1 v.2.2.2.2.2.2.2.1 v.2.2.2.2.2.2.2.2.1 v.2.2.2.2.2.2.2.2.2=some r:=qh h
end
section
variable [Glob]
end
section
variable [Glob]
theorem FinQ.norm {D cx Q K F c ls}(h:FinQ D cx Q K (F.norm c ls)):FinQ D cx Q K F:=by intro G0 w0 G w a b d e hd;obtain⟨G',f,g⟩:=qax d c ls;exact h G0 w0 G' w a b f (e.trans g) hd
theorem FinQ.cos {D cx Q K}:∀ {cs:List (Pl×Option Nat)} {F F':Fr},F.cos cs=some F'->FinQ D cx Q K F'->FinQ D cx Q K F
 |[],F,F',e,h=>by
  simp only[Fr.cos,aa]at e
  grind
 |(p,s)::l,F,F',e,h=>by
  simp only[Fr.cos]at e;split at e
  . rename_i j c;have:=FinQ.cos e h;intro G0 w0 G w a b d f hd;obtain⟨G',g,i⟩:=qfq d c;exact this G0 w0 G' w a b g (f.trans i.w) hd
  grind
end
section
variable [Glob]
open Go.ChangeShapes Go.WideShapes Go.ChangeAt Go.RowKit
def qdf (P:Program)(T:List TypeId):Bool:=T.all λt=>match P.underlying t with
 |some .bool|some (.int _)|some .string=>P.cellsOf t==1
 |some (.slice e)=>T.contains e&&decide (0<P.cellsOf e)&&P.cellsOf t==1
 |some (.struct fs)=>fs.toList.all λf=>T.contains f.type
 |some (.array _ e)=>T.contains e
 |_=>false
def arrF (P:Program)(k e:Nat):List Field:=(List.range k).map λi=>⟨"", e,i*P.cellsOf e,false, "", "", 0⟩
def rowT (P:Program):Nat->List Field->Bool
 |_,[]=>true
 |o,f::fs=>f.offset==o&&rowT P (o+P.cellsOf f.type) fs
def rowsT (P:Program)(T:List TypeId):Bool:=T.all λt=>match P.underlying t with
 |some (.struct fs)=>rowT P 0 fs.toList&&P.cellsOf t==(fs.toList.map λf=>P.cellsOf f.type).sum
 |some (.array k e)=>rowT P 0 (arrF P k e)&&P.cellsOf t==((arrF P k e).map λf=>P.cellsOf f.type).sum
 |_=>true
def ShT (P:Program)(B:Nat):Nat->TypeId->List Cell->Prop
 |0,_,_=>False
 |n+1,t,l=>match P.underlying t with
  |some .bool=>∃ b,l=[.val (.bool b)]
  |some (.int k)=>∃ x,l=[.val (.int k x)]/\k.min<=x/\x<=k.max
  |some .string=>∃ s:ByteArray,l=[.val (.string s)]/\s.size<=B
  |some (.slice e)=>∃ rows,l=[.imm rows]/\rows.length<=B/\∀ row∈rows,ShT P B n e row
  |some (.struct fs)=>∃ ls:List (List Cell),l=ls.flatten/\ls.length=fs.size/\∀ (i:Nat) f x,fs[i]? = some f->ls[i]? = some x->ShT P B n f.type x
  |some (.array k e)=>∃ ls:List (List Cell),l=ls.flatten/\ls.length=k/\∀ x∈ls,ShT P B n e x
  |_=>False
def qcf (im:Nat->Prop)(w:World)(l:List Cell)(cs:List Value):Prop:=l.length=cs.length/\∀ (o:Nat) c,l[o]? = some c->∃ u,cs[o]? = some u/\RelI im w c u
theorem qbO {β:Type}{f}:∀ {n:Nat} {r:List β},(List.range n).mapM f=some r->r.length=n/\∀ i,i<n->∃ y,f i=some y/\r[i]? = some y:=by
 intro n r h;have a:=mapM_some_length h;rw[List.length_range]at a;refine⟨a,λi b=>?_⟩;have:=mapM_some_get h i i (by grind)
 grind
theorem qfQ {w:World}{base a n cs}(h:w.cells? base a n=some cs)(b:0<n):
  cs.length=n/\a.spot=none/\∃ vs T fr,w.heap[a.block]? = some (.cells vs T fr)/\∀ j,j<n->vs[a.off+j]? = cs[j]?:=by
 unfold World.cells? at h;split at h
 .
  obtain⟨d,c⟩:=qbO h;obtain⟨f,k1,g⟩:=c 0 b;have i:∀ j y,w.cell? (a.add j)=some y->∃ vs T fr,w.heap[a.block]? = some (.cells vs T fr)/\vs[a.off+j]? = some y:=by
   intro j y e;unfold World.cell? at e;have k:(a.add j).block=a.block:=by unfold Addr.add;split<;>rfl
   have l:(a.add j).off=a.off+j:=by unfold Addr.add;split<;>simp_all
   grind
  have m:a.spot=none:=by
   unfold World.cell? at k1;rw[show a.add 0=a from by simp[Addr.add]]at k1;split at k1
   . simp_all
   grind
  grind
 grind
theorem qeM {im w v}(h:oneC v=true):qcf im w [.val v] [v]:=by
 refine⟨rfl,λo c a=>?_⟩;cases o with
 |zero=>simp only[aI,aa]at a;subst a;exact⟨_,rfl,.val _ h⟩
 |succ o=>grind
theorem YC {H}(d:DataW H):1<=Rows.uptoBulk d:=by
 cases d with
 |lit l=>cases l<;>simp[Rows.uptoBulk]
 |nil=>simp[Rows.uptoBulk]
 |ptr d=>simp[Rows.uptoBulk]
 |slice b c=>simp[Rows.uptoBulk]
 |agg e=>simp[Rows.uptoBulk]
 |iface t d=>simp[Rows.uptoBulk]
 |map a=>simp[Rows.uptoBulk]
 |held h=>simp[Rows.uptoBulk]
theorem qit {H d}{l:List (DataW H)}(h:d∈l):Rows.uptoBulk d<=Rows.uptoBulkAll l:=by
 induction l with
 |nil=>cases h
 |cons x r a=>
  simp only[Rows.uptoBulkAll]
  grind
theorem qi4 {H}(l:List (DataW H)):l.length<=Rows.uptoBulkAll l:=by
 induction l with
 |nil=>grind
 |cons x r a=>have:=YC x;simp only[Rows.uptoBulkAll,List.length_cons];omega
mutual
def wtC:Cell->Nat
 |.imm rows=>wtRs rows+1
 |_=>1
def wtL:List Cell->Nat
 |[]=>0
 |c::l=>wtC c+wtL l
def wtRs:List (List Cell)->Nat
 |[]=>0
 |l::r=>wtL l+wtRs r
end
theorem qgD (a b):wtL (a++b)=wtL a+wtL b:=by
 induction a with
 |nil=>simp[wtL]
 |cons c a d=>simp only[List.cons_append,wtL,d];omega
theorem qih {H}:∀ (rows:List (List Cell)) (ds:List (DataW H)),rows.length=ds.length->(∀ (i:Nat) r d,rows[i]? = some r->ds[i]? = some d->wtL r<=Rows.uptoBulk d)->wtRs rows<=Rows.uptoBulkAll ds
 |[],ds,_,_=>by simp[wtRs]
 |r::rows,[],h,_=>by grind
 |r::rows,d::ds,h,a=>by have c:=a 0 r d rfl rfl;have e:=qih rows ds (by grind) (λi r' b f g=>a (i+1) r' b (by grind) (by grind));simp only[wtRs,Rows.uptoBulkAll];omega
theorem qGy {α β γ:Type}{f}{g:β->Option γ}(l:List α):(l.map f).mapM g=l.mapM λx=>g (f x):=by
 induction l with
 |nil=>rfl
 |cons a l b=>simp only[List.map_cons,List.mapM_cons,b]
theorem YT {H:Type}{enc:TypeId×Value->H}{P:Program}{w:World}{base:Nat}{J:Nat->Bool}{M:Bool}{T:List TypeId}{B:Nat}(hT:qdf P T=true)(hR:rowsT P T=true):
  ∀ (n:Nat) (t:TypeId) (cs:List Value) (d:DataW H) (ps:List MemPlace),t∈T->DataW.trod enc P w base J M n t cs=some (d,ps)->Rows.uptoBulk d<=B ->
   ∃ l,qcf (λb=>b<w.heap.size) w l cs/\ShT P B n t l/\cs.length=P.cellsOf t/\wtL l<=Rows.uptoBulk d
 |0,t,cs,d,ps,_,e,_=>by simp[DataW.trod]at e
 |n+1,t,cs,d,ps,ht,e,hB=>by
  have E:=(List.all_eq_true.1 hT) t ht;have V:=(List.all_eq_true.1 hR) t ht;have fin:∀ F:List Field,(∀ f∈F,f.type∈T)->rowT P 0 F=true->P.cellsOf t=(F.map λf=>P.cellsOf f.type).sum ->
    (if cs.length=P.cellsOf t then(F.mapM λf=>DataW.trod enc P w base J M n f.type ((cs.drop f.offset).take (P.cellsOf f.type))).map λxs=>(DataW.agg (xs.map (·.1)),xs.flatMap (·.2))else none)=some (d,ps) ->
    ∃ ls:List (List Cell),qcf (λb=>b<w.heap.size) w ls.flatten cs/\ls.length=F.length/\(∀ (i:Nat) f x,F[i]? = some f->ls[i]? = some x->ShT P B n f.type x)/\cs.length=P.cellsOf t/\wtL ls.flatten<=Rows.uptoBulk d:=by
   intro F L C hsum W;split at W
   .
    rename_i N;rw[aG]at W;obtain⟨xs,hxs,W⟩:=W;simp only[ai]at W;obtain⟨rfl,_⟩:=W;simp only[Rows.uptoBulk]at hB;have key:∀ (F:List Field) (o:Nat) (xs:List (DataW H×List MemPlace)) (K:List Value),(∀ f∈F,f.type∈T)->rowT P o F=true->K.length=(F.map λf=>P.cellsOf f.type).sum->(∀ j,K[j]? = cs[o+j]?) ->
      (F.mapM λf=>DataW.trod enc P w base J M n f.type ((cs.drop f.offset).take (P.cellsOf f.type)))=some xs->Rows.uptoBulkAll (xs.map (·.1))<=B ->
      ∃ ls:List (List Cell),ls.length=F.length/\qcf (λb=>b<w.heap.size) w ls.flatten K/\(∀ (i:Nat) f x,F[i]? = some f->ls[i]? = some x->ShT P B n f.type x)/\wtL ls.flatten<=Rows.uptoBulkAll (xs.map (·.1)):=by
     intro F
     induction F with
     |nil=>intro o xs K _ _ hl _ _ _;refine⟨[],rfl,⟨by simpa using hl.symm,by simp⟩,by simp,by simp[wtL]⟩
     |cons f F ih=>
      intro o xs K L C hl hj hm X;simp only[rowT,aC,beq_iff_eq]at C;obtain⟨Y,C⟩:=C;rw[List.mapM_cons]at hm;simp only[Option.bind_eq_bind,Option.bind_eq_some_iff]at hm;obtain⟨y,S,ys,hys,hm⟩:=hm;simp only[Option.pure_def,aa]at hm;subst hm;simp only[List.map_cons,Rows.uptoBulkAll]at X;obtain⟨dy,py⟩:=y;obtain⟨l0,r1,r2,r3,r4⟩:=YT (B:=B) hT hR n f.type _ dy py (L f au) S (by simp only at X;omega);simp only[List.map_cons,List.sum_cons]at hl;obtain⟨ls,Z,U,s3,s4⟩:=ih (o+P.cellsOf f.type) ys (K.drop (P.cellsOf f.type)) (λf' h=>L f' (aB _ h)) C (by rw[List.length_drop];omega)
       (λj=>by rw[List.getElem?_drop,hj,Nat.add_assoc]) hys (by simp only at X;omega)
      have hcs:∀ j,j<P.cellsOf f.type->((cs.drop f.offset).take (P.cellsOf f.type))[j]? = K[j]?:=by intro j hj';rw[List.getElem?_take_of_lt hj',List.getElem?_drop,hj,Y]
      refine⟨l0::ls,by simp[Z],⟨?_,λj c q=>?_⟩,λi f' x hf' hx=>?_,by rw[List.flatten_cons,qgD];simp only[List.map_cons,Rows.uptoBulkAll];omega⟩
      . rw[List.flatten_cons,List.length_append,U.1,r1.1,r3,List.length_drop];omega
      . rw[List.flatten_cons]at q;by_cases hjl:j<l0.length
        . rw[aX hjl]at q;obtain⟨u,D,G⟩:=r1.2 j c q;exact⟨u,by rw[<- hcs j (by rw[<- r3,<- r1.1];exact hjl)];exact D,G⟩
        . rw[aY (by omega)]at q;obtain⟨u,D,G⟩:=U.2 _ c q;refine⟨u,?_,G⟩;rw[List.getElem?_drop]at D;rw[<- D];congr 1;have:=r1.1;omega
      . cases i with
        |zero=>simp only[aI,aa]at hf' hx;subst hf';subst hx;exact r2
        |succ i=>exact s3 i f' x (by simpa using hf') (by simpa using hx)
    obtain⟨ls,Z,U,s3,s4⟩:=key F 0 xs cs L C (by rw[N,hsum]) (λj=>by rw[Nat.zero_add]) hxs (by omega);exact⟨ls,U,Z,s3,N,by simp only[Rows.uptoBulk];omega⟩
   . cases W
  unfold DataW.trod at e;cases R:P.underlying t with
  |none=>rw[R]at E;cases E
  |some ud=>
   rw[R]at E V e;cases ud with
   |bool=>
    simp only[beq_iff_eq]at E;rcases cs with _|⟨v,_|⟨v2,cs⟩⟩
    . simp at e
    . cases v<;>simp at e;rename_i b;refine⟨[.val (.bool b)],qeM rfl,?_,E.symm,YC _⟩;simp only[ShT,R];exact⟨b,rfl⟩
    . cases v<;>simp at e
   |int k=>
    simp only[beq_iff_eq]at E;rcases cs with _|⟨v,_|⟨v2,cs⟩⟩
    . simp at e
    . cases v<;>simp at e;rename_i k' x;obtain⟨⟨rfl,hw⟩,_⟩:=e;refine⟨[.val (.int k' x)],qeM rfl,?_,E.symm,YC _⟩;simp only[ShT,R];simp only[Lit.wf,aC,aW]at hw;exact⟨x,rfl,hw⟩
    . cases v<;>simp at e
   |string=>
    simp only[beq_iff_eq]at E;rcases cs with _|⟨v,_|⟨v2,cs⟩⟩
    . simp at e
    . cases v<;>simp at e;rename_i s;obtain⟨_,rfl,_⟩:=e;refine⟨[.val (.string s)],qeM rfl,?_,E.symm,YC _⟩;simp only[ShT,R];refine⟨s,rfl,?_⟩;simp only[Rows.uptoBulk]at hB;have hl:s.data.toList.length=s.size:=by rw[Array.length_toList];rfl
      omega
    . cases v<;>simp at e
   |slice z=>
    simp only[aC,aW,beq_iff_eq]at E;obtain⟨⟨E,h3⟩,h4⟩:=E;have hel:z∈T:=by simpa using E
    rcases cs with _|⟨v,_|⟨v2,cs⟩⟩
    . simp at e
    .
     cases v with
     |slice a len cap=>
      cases a with
      |none=>
       cases len<;>cases cap<;>simp at e;refine⟨[.imm []],⟨rfl,λo c q=>?_⟩,?_,h4.symm,YC _⟩
       . cases o with
         |zero=>simp only[aI,aa]at q;subst q;exact⟨_,rfl,.immE none 0⟩
         |succ o=>simp at q
       . simp only[ShT,R];exact⟨[],rfl,Nat.zero_le _,by simp⟩
      |some a=>
       simp only at e;split at e
       .
        rename_i hcond;rw[Option.bind_eq_some_iff]at e;obtain⟨p,he,e⟩:=e;rw[aG]at e;obtain⟨rest,hrest,e⟩:=e;simp only[ai]at e;obtain⟨rfl,_⟩:=e;obtain⟨m1,m2⟩:=qbO he;simp only[Rows.uptoBulk]at hB;have N:p.length<=B:=by have:=qi4 (p.map (·.1));rw[List.length_map]at this;omega
        have O:∀ i,i<len->∃ li g vs,w.cells? base (a.add (i*P.cellsOf z)) (P.cellsOf z)=some g/\qcf (λb=>b<w.heap.size) w li g/\ShT P B n z li/\g.length=P.cellsOf z/\vs=g/\∀ y,p[i]? = some y->wtL li<=Rows.uptoBulk y.1:=by
         intro i A;obtain⟨y,k1,k2⟩:=m2 i A;rw[Option.bind_eq_some_iff]at k1;obtain⟨g,k3,k4⟩:=k1;obtain⟨di,pi⟩:=y;have X:Rows.uptoBulk di<=B:=by have:Rows.uptoBulk di<=Rows.uptoBulkAll (p.map (·.1)):=qit (List.mem_map.2 ⟨(di,pi),aM k2,rfl⟩);omega
         obtain⟨li,r1,r2,r3,r4⟩:=YT (B:=B) hT hR n z g di pi hel k4 X;exact⟨li,g,g,k3,r1,r2,r3,rfl,λy S=>by rw[k2]at S;cases S;exact r4⟩
        cases len with
        |zero=>
         refine⟨[.imm []],⟨rfl,λo c q=>?_⟩,?_,h4.symm,YC _⟩
         . cases o with
           |zero=>simp only[aI,aa]at q;subst q;exact⟨_,rfl,.immE _ _⟩
           |succ o=>simp at q
         . simp only[ShT,R];exact⟨[],rfl,Nat.zero_le _,by simp⟩
        |succ m=>
         obtain⟨l0,cs0,_,q1,_,_,_,_,_⟩:=O 0 (by omega);rw[Nat.zero_mul,show a.add 0=a from by simp[Addr.add]]at q1;obtain⟨_,q2,vs,Tt,fr,q3,q4⟩:=qfQ q1 h3
         let rowAt:Nat->List Cell:=λi=>if A:i<m+1 then(O i A).choose else []
         have I:∀ i (A:i<m+1),∃ g,w.cells? base (a.add (i*P.cellsOf z)) (P.cellsOf z)=some g/\qcf (λb=>b<w.heap.size) w (rowAt i) g/\ShT P B n z (rowAt i)/\g.length=P.cellsOf z/\∀ y,p[i]? = some y->wtL (rowAt i)<=Rows.uptoBulk y.1:=by
          intro i A;obtain⟨g,_,z1,z2,z3,z4,_,z5⟩:=(O i A).choose_spec;refine⟨g,z1,?_,?_,z4,?_⟩
          . simp only[rowAt,dif_pos A];exact z2
          . simp only[rowAt,dif_pos A];exact z3
          . simp only[rowAt,dif_pos A];exact z5
         have hlt:a.block<w.heap.size:=by have:=Array.getElem?_eq_some_iff.1 q3;exact this.1
         have hvs:∀ i (A:i<m+1) g,w.cells? base (a.add (i*P.cellsOf z)) (P.cellsOf z)=some g->∀ j,j<P.cellsOf z->vs[a.off+i*P.cellsOf z+j]? = g[j]?:=by
          intro i A g z1 j hj;obtain⟨_,_,vs',T',fr',q5,q6⟩:=qfQ z1 h3;have X:(a.add (i*P.cellsOf z)).block=a.block:=by unfold Addr.add;split<;>rfl
          have Y:(a.add (i*P.cellsOf z)).off=a.off+i*P.cellsOf z:=by unfold Addr.add;split<;>simp_all
          rw[X,q3]at q5;cases q5;rw[<- q6 j hj,Y]
         refine⟨[.imm ((List.range (m+1)).map rowAt)],⟨rfl,λo c q=>?_⟩,?_,h4.symm,?_⟩
         .
          cases o with
          |succ o=>simp at q
          |zero=>
           simp only[aI,aa]at q;subst q;refine⟨_,rfl,?_⟩;have ha:a=⟨a.block,a.off,none⟩:=by obtain⟨b,o,s⟩:=a;simp only at q2;subst q2;rfl
           have Q:∀ r o c,cellAt ((List.range (m+1)).map rowAt) r o=some c->∃ (C:r<m+1),(rowAt r)[o]? = some c:=by
            intro r o c q;obtain⟨row,k1,k2⟩:=qc.1 q;rw[aH]at k1;by_cases C:r<m+1
            . rw[List.getElem?_range C]at k1;simp only[av,aa]at k1;subst k1;exact⟨C,k2⟩
            . rw[List.getElem?_eq_none (by simpa using C)]at k1;simp at k1
           have:=RelI.imm (im:=λb=>b<w.heap.size) (w:=w) ((List.range (m+1)).map rowAt) a.block a.off cap (P.cellsOf z) vs Tt fr (λr o=>(vs[a.off+r*P.cellsOf z+o]?).getD Go.undef) q3 hlt
            (by rw[List.length_map,List.length_range];exact hcond.2.1) (λrow C=>by obtain⟨i,A,rfl⟩:=List.mem_map.1 C;obtain⟨g,_,z2,_,z4,_⟩:=I i (List.mem_range.1 A);rw[z2.1,z4])
            (λr o c q=>by
             obtain⟨C,q⟩:=Q r o c q;obtain⟨g,z1,z2,_,z4,_⟩:=I r C;obtain⟨u,D,_⟩:=z2.2 o c q;have Y:o<P.cellsOf z:=by rw[<- z4];exact(az.1 D).1
             rw[hvs r C g z1 o Y,D];rfl)
            (λr o c q=>by
             obtain⟨C,q⟩:=Q r o c q;obtain⟨g,z1,z2,_,z4,_⟩:=I r C;obtain⟨u,D,G⟩:=z2.2 o c q;have Y:o<P.cellsOf z:=by rw[<- z4];exact(az.1 D).1
             rw[hvs r C g z1 o Y,D];exact G)
           rw[List.length_map,List.length_range,<- ha]at this;exact this
         . simp only[ShT,R];refine⟨_,rfl,by rw[List.length_map,List.length_range];omega,λrow C=>?_⟩;obtain⟨i,A,rfl⟩:=List.mem_map.1 C;obtain⟨_,_,_,z3,_⟩:=I i (List.mem_range.1 A);exact z3
         . have hw:=qih ((List.range (m+1)).map rowAt) (p.map (·.1)) (by simp[m1]) (λi r d e1 e2=>by
            rw[aH]at e1 e2;by_cases A:i<m+1
            . rw[List.getElem?_range A]at e1;simp only[av,aa]at e1;subst e1;obtain⟨_,_,_,_,_,z5⟩:=I i A;cases S:p[i]? with
              |none=>simp[S]at e2
              |some y=>simp only[S,av,aa]at e2;subst e2;exact z5 y S
            . rw[List.getElem?_eq_none (by simpa using A)]at e1;simp at e1)
           simp only[wtL,wtC,Rows.uptoBulk];omega
       . cases e
     |_=>simp at e
    .
     cases v with
     |slice a len cap=>
      cases a with
      |none=>cases len<;>cases cap<;>simp at e
      |some a=>simp at e
     |_=>simp at e
   |struct fs=>
    simp only at E;simp only[aC,beq_iff_eq]at V;obtain⟨ls,Z,U,s3,s4,s5⟩:=fin fs.toList (λf L=>by have:=(List.all_eq_true.1 E) f L;simpa using this) V.1 V.2 (by
     rcases cs with _|⟨v,_|⟨v2,cs⟩⟩
     . exact e
     . cases v<;>exact e
     . cases v<;>exact e)
    refine⟨ls.flatten,Z,?_,s4,s5⟩;simp only[ShT,R];exact⟨ls,rfl,by simpa using U,λi f x L hx=>s3 i f x (by simpa using L) hx⟩
   |array k z=>
    simp only at E;simp only[aC,beq_iff_eq]at V;have ty:∀ f∈arrF P k z,f.type=z:=λf L=>by obtain⟨i,_,rfl⟩:=List.mem_map.1 L;rfl
    obtain⟨ls,Z,U,s3,s4,s5⟩:=fin (arrF P k z) (λf L=>by rw[ty f L];simpa using E) V.1 V.2 (by
     rw[arrF,qGy];rcases cs with _|⟨v,_|⟨v2,cs⟩⟩
     . exact e
     . cases v<;>exact e
     . cases v<;>exact e)
    refine⟨ls.flatten,Z,?_,s4,s5⟩;simp only[ShT,R];refine⟨ls,rfl,by simpa [arrF]using U,λx hx=>?_⟩;obtain⟨i,A⟩:=List.getElem?_of_mem hx;have hi2:i<(arrF P k z).length:=by have:=(az.1 A).1;omega
    rw[<- ty _ (List.getElem_mem hi2)];exact s3 i _ x (ax hi2) A
   |_=>simp at E
end
section
variable [Glob]
open Go.ChangeShapes Go.WideShapes Go.ChangeAt Go.RowKit
def ShFs (P:Program)(B n:Nat):List TypeId->List Cell->Prop
 |[],l=>l=[]
 |t::ts,l=>∃ x rest,l=x++rest/\ShT P B n t x/\ShFs P B n ts rest
def qfd (P:Program)(t:TypeId):Option (List TypeId):=match P.underlying t with
 |some (.struct fs)=>some (fs.toList.map (·.type))
 |_=>none
theorem ShT.fields {P B n t l ts}(h:ShT P B n t l)(b:qfd P t=some ts):∃ m,ShFs P B m ts l:=by
 cases n with
 |zero=>exact h.elim
 |succ n=>
  unfold qfd at b;simp only[ShT]at h;split at b
  .
   rename_i fs e;rw[e]at h;simp only[aa]at b;subst b;obtain⟨ls,rfl,c,d⟩:=h;refine⟨n,?_⟩;have key:∀ (a:List Field) (ls:List (List Cell)),ls.length=a.length->(∀ (i:Nat) f x,a[i]? = some f->ls[i]? = some x->ShT P B n f.type x)->ShFs P B n (a.map (·.type)) ls.flatten:=by
    intro a
    induction a with
    |nil=>intro ls c _;have:ls=[]:=List.length_eq_zero_iff.1 c;rw[this];rfl
    |cons f a g=>
     intro ls c d;cases ls with
     |nil=>grind
     |cons x ls=>exact⟨x,ls.flatten,by simp,d 0 f x rfl rfl,g ls (by grind) (λi j x' k o=>d (i+1) j x' (by grind) (by grind))⟩
   grind
  grind
theorem ShT.int {P B n t l k}(h:ShT P B n t l)(a:P.underlying t=some (.int k)):∃ x,l=[.val (.int k x)]/\k.min<=x/\x<=k.max:=by
 cases n with
 |zero=>exact h.elim
 |succ n=>simpa only[ShT,a]using h
theorem ShT.bool {P B n t l}(h:ShT P B n t l)(a:P.underlying t=some .bool):∃ b,l=[.val (.bool b)]:=by
 cases n with
 |zero=>exact h.elim
 |succ n=>simpa only[ShT,a]using h
theorem ShT.string {P B n t l}(h:ShT P B n t l)(a:P.underlying t=some .string):∃ s:ByteArray,l=[.val (.string s)]/\s.size<=B:=by
 cases n with
 |zero=>exact h.elim
 |succ n=>simpa only[ShT,a]using h
theorem ShT.slice {P B n t e l}(h:ShT P B n t l)(a:P.underlying t=some (.slice e)):∃ m rows,l=[.imm rows]/\rows.length<=B/\∀ row∈rows,ShT P B m e row:=by
 cases n with
 |zero=>exact h.elim
 |succ n=>simp only[ShT,a]at h;obtain⟨rows,b,c,d⟩:=h;exact⟨n,rows,b,c,d⟩
theorem ShT.array {P B n t}{k e:Nat}{l}(h:ShT P B n t l)(a:P.underlying t=some (.array k e)):∃ m ls,l=List.flatten ls/\ls.length=k/\∀ x∈ls,ShT P B m e x:=by
 cases n with
 |zero=>exact h.elim
 |succ n=>simp only[ShT,a]at h;obtain⟨ls,b,c,d⟩:=h;exact⟨n,ls,b,c,d⟩
def qbG (P:Program)(t:TypeId)(l:List Cell):AV:=match P.underlying t with
 |some (.struct _)|some (.array _ _)=>.ag l
 |_=>match l with
  |[c]=>.c c
  |l=>.ag l
def vJ (P:Program):List TypeId->List (List Cell)->List AV
 |t::ts,l::ls=>qbG P t l::vJ P ts ls
 |_,_=>[]
def qiH (P:Program)(B:Nat):List TypeId->List (List Cell)->Prop
 |[],[]=>True
 |t::ts,l::ls=>(∃ n,ShT P B n t l)/\qiH P B ts ls
 |_,_=>False
def G0of (w:World):Gh:=⟨λ_=>none,λb=>b<w.heap.size,λ_=>False⟩
theorem qhq {P:Program}{w:World}{B n:Nat}{t:TypeId}{v:Value}{l:List Cell}{T:List TypeId}(M:qdf P T=true)(N:t∈T){base:Nat}(f:Value.okWide P w .any base t v)(h:qcf (λb=>b<w.heap.size) w l v.cells.toList)(y:ShT P B n t l)(k:Key):YY (G0of w) w k (qbG P t l) v:=by
 have E:=(List.all_eq_true.1 M) t N;have cell:∀ c u p,RelI (λb=>b<w.heap.size) w c u->(∀ z F,c≠.own z F)->(∀ G,c≠.mp G)->c=.dead\/Sh (G0of w) w p c u:=by
  intro c u p i _ _;cases i with
  |val v h=>exact .inr ⟨rfl,h⟩
  |nil=>exact .inr rfl
  |immE a cap=>exact .inr (.immE a cap)
  |imm rows b H cap sz vs T fr us O Q A I J i=>exact .inr (.imm rows b H cap sz vs T fr us O Q A I J i)
  |dead v h=>exact .inl rfl
 have d:∀ c u,RelI (λb=>b<w.heap.size) w c u->(∀ z F,c≠.own z F)/\(∀ G,c≠.mp G):=by intro c u i;cases i<;>exact⟨by intros;simp,by intros;simp⟩
 have g:oneC v=true->(∃ c,l=[c])->qbG P t l=(match l with|[c]=>.c c|l=>.ag l)->YY (G0of w) w k (qbG P t l) v:=by
  intro J R C;obtain⟨c,rfl⟩:=R;rw[C];have K:v.cells.toList=[v]:=by cases v<;>first|rfl|cases J
  refine⟨trivial,λr o S D=>?_⟩;obtain⟨rfl,rfl,rfl⟩:=one_cell D;obtain⟨u,j,i⟩:=h.2 0 S rfl;rw[K]at j;simp only[aI,aa]at j;subst j;exact⟨_,rfl,cell _ _ _ i (d _ _ i).1 (d _ _ i).2⟩
 unfold Value.okWide at f;cases j:P.underlying t with
 |none=>rw[j]at E;cases E
 |some U=>
  rw[j]at E f;cases n with
  |zero=>exact y.elim
  |succ n=>
   simp only[ShT,j]at y;cases U with
   |bool=>obtain⟨b,rfl⟩:=y;refine g ?_ ⟨_,rfl⟩ (by simp[qbG,j]);cases v<;>first|rfl|(simp[Cell.okWide,Cell.ok,j]at f)
   |int k=>obtain⟨x,rfl,_⟩:=y;refine g ?_ ⟨_,rfl⟩ (by simp[qbG,j]);cases v<;>first|rfl|(simp[Cell.okWide,Cell.ok,j]at f)
   |string=>obtain⟨x,rfl,_⟩:=y;refine g ?_ ⟨_,rfl⟩ (by simp[qbG,j]);cases v<;>first|rfl|(simp[Cell.okWide,Cell.ok,j]at f)
   |slice e=>obtain⟨x,rfl,_⟩:=y;refine g ?_ ⟨_,rfl⟩ (by simp[qbG,j]);cases v<;>first|rfl|(simp[Cell.okWide,Cell.ok,j]at f)
   |struct fs=>
    obtain⟨cs,rfl,_,_⟩:=f;have C:qbG P t l=.ag l:=by simp[qbG,j]
    rw[C];have m:l.length=cs.size:=by have:=h.1;simpa [Value.cells]using this
    refine⟨⟨cs,rfl,by rw[m]⟩,λr o c D=>?_⟩;obtain⟨row,q,L⟩:=qc.1 D;cases r with
    |succ r=>simp[AV.ag]at q
    |zero=>simp only[AV.ag,aI,aa]at q;subst q;obtain⟨u,s,i⟩:=h.2 o c L;refine⟨u,?_,cell _ _ _ i (d _ _ i).1 (d _ _ i).2⟩;simpa [qX,AV.ag,Value.cells]using s
   |array k e=>
    obtain⟨cs,rfl,_,_⟩:=f;have C:qbG P t l=.ag l:=by simp[qbG,j]
    rw[C];have m:l.length=cs.size:=by have:=h.1;simpa [Value.cells]using this
    refine⟨⟨cs,rfl,by rw[m]⟩,λr o c D=>?_⟩;obtain⟨row,q,L⟩:=qc.1 D;cases r with
    |succ r=>simp[AV.ag]at q
    |zero=>simp only[AV.ag,aI,aa]at q;subst q;obtain⟨u,s,i⟩:=h.2 o c L;refine⟨u,?_,cell _ _ _ i (d _ _ i).1 (d _ _ i).2⟩;simpa [qX,AV.ag,Value.cells]using s
   |_=>simp at E
theorem qiD {H enc P w base T B}(b:qdf P T=true)(n:rowsT P T=true):
  ∀ (ts:List TypeId) (vs:List Value) (ds:List (DataW H)) (c:List MemPlace),(∀ t∈ts,t∈T)->(∀ (j:Nat) t v,ts[j]? = some t->vs[j]? = some v->Value.okWide P w .any base t v) ->
   DataW.TrodAll enc P w 0 (λ_=>true) true ts vs ds c->Rows.uptoBulkAll ds<=B ->
   ∃ ls,qiH P B ts ls/\wtRs ls<=Rows.uptoBulkAll ds/\(vJ P ts ls).length=vs.length/\∀ (k:Nat) a,(vJ P ts ls)[k]? = some a->∃ V,vs[k]? = some V/\∀ key,YY (G0of w) w key a V
 |[],vs,ds,c,_,_,h,_=>by obtain⟨rfl,rfl,rfl⟩:=trodAll_nil h;exact⟨[],trivial,by simp[wtRs],rfl,by simp[vJ]⟩
 |t::ts,vs,ds,c,f,o,h,r=>by
  obtain⟨v,g,d,i,p,q,rfl,rfl,rfl,⟨fuel,s⟩,u⟩:=trodAll_cons h;simp only[Rows.uptoBulkAll]at r;obtain⟨ls,k1,A,x,C⟩:=qiD (B:=B) b n ts g i q (λm y=>f m (aB _ y)) (λj m v' D E=>o (j+1) m v' (by grind) (by grind)) u (by omega);obtain⟨l,z,r2,_,F⟩:=YT (B:=B) b n fuel t _ d p (f t au) s (by omega);refine⟨l::ls,⟨⟨fuel,r2⟩,k1⟩,by simp only[wtRs,Rows.uptoBulkAll];omega,by simp[vJ,x],λk a e=>?_⟩;cases k with
  |zero=>simp only[vJ,aI,aa]at e;subst e;exact⟨v,rfl,qhq b (f t au) (o 0 t v rfl rfl) z r2⟩
  |succ k=>
   simp only[vJ,List.getElem?_cons_succ]at e
   grind
theorem qiU {G w}(n:∀ k,G.γ k=none){F:Fr}{ts:Array Value}(d:F.boxes=[])(o:∀ (k:Nat) v,F.slots[k]? = some v->∃ V,ts[k]? = some V/\∀ key,YY G w key v V){k rows}(e:F.rowsAt k=some rows)(hi:k.inHeap):qU G w k rows:=by
 obtain⟨r,π⟩:=k;cases r with
 |slot j=>
  cases π with
  |nil=>rcases hi with hi|hi<;>simp[Root.boxed]at hi
  |cons x π=>
   obtain⟨a,b⟩:=x;simp only[Fr.rowsAt,Fr.rows]at e;cases g:F.slots[j]? with
   |none=>grind
   |some v=>
    simp only[g,av,ae,getR]at e;cases l:cellAt v.rows a b with
    |none=>grind
    |some c=>
     simp only[l]at e;obtain⟨V,_,p⟩:=o j v g;obtain⟨u,_,f⟩:=(p ⟨.slot j,[]⟩).2 a b c l;cases c with
     |own z q=>
      rcases f with h|h
      . cases h
      . rcases h with⟨_,m,_⟩|⟨x,m,_⟩
        . subst m;cases π with
          |nil=>simp only[getR,aa]at e;subst e;exact .inl (.inl ⟨n _,rfl,by simp⟩)
          |cons y π=>obtain⟨s,t⟩:=y;simp[getR,cellAt]at e
        grind
     |_=>grind
 |par i=>simp[Fr.rowsAt,Fr.rows,d]at e
 |loc i=>simp[Fr.rowsAt,Fr.rows,d]at e
 |res=>simp[Fr.rowsAt,Fr.rows,d]at e
theorem qhu {H enc P f}{c:Func}{w base T B args}{ds:List (DataW H)}{C hand}(F:qdf P T=true)(I:rowsT P T=true)(q:∀ t∈c.params.toList,t∈T)(g:∀ (j:Nat) t v,c.params[j]? = some t->args[j]? = some v->Value.okWide P w .any base t v)(h:DataW.TrodAll enc P w 0 (λ_=>true) true c.params.toList args.toList ds C)(n:Rows.uptoBulkAll ds<=B)(m:∀ b,b<Glob.n->b<w.heap.size/\w.heap[b]? = Glob.H b)(s:∀ ls,qiH P B c.params.toList ls->wtRs ls<=B->Ev P hand f (vJ P c.params.toList ls) [] (.ret (.c (bc true))) []):
  Calls P f args w λe w'=>e=.returned (.bool true)/\(w.keptBut w' (λ_=>False)/\(∀ a,a.block<w.heap.size->w'.frozen? a=w.frozen? a)/\w.heap.size<=w'.heap.size)/\∀ b,b<w.heap.size->w'.heap[b]? = w.heap[b]?:=by
 obtain⟨ls,k1,J,O,Q⟩:=qiD (enc:=enc) (B:=B) F I c.params.toList args.toList ds C q (λj t v R S=>g j t v (by grind) (by grind)) h n;have K:∀ (k:Nat) v,(⟨vJ P c.params.toList ls,[]⟩:Fr).slots[k]? = some v->∃ V,args[k]? = some V/\∀ key,YY (G0of w) w key v V:=by grind
 have o:RelF (G0of w) w ⟨vJ P c.params.toList ls,qd 0 []⟩ args:=by
  refine⟨⟨λk U h W e=>(by cases e),λk h e=>(by cases e),λb n=>n,m⟩,(by omega),λk v e=>?_,λr l e=>(by cases e),λd hd=>hd.elim,λk rows e D=>?_⟩
  . grind
  . exact(qiU (G:=G0of w) (w:=w) (λ_=>rfl) rfl K e D)
 refine((s ls k1 (Nat.le_trans J n)).2 (G0of w) w args o).mono λe w' L=>?_;obtain⟨G',p,V,rfl,M⟩:=L;obtain⟨E,X,x⟩:=M.slots 0 _ rfl;obtain⟨u,N,y⟩:=x.2 0 0 (bc true) rfl;have z:E=V:=by grind
 subst z;have A:u=E:=by simpa [qX,AV.c]using N.symm
 subst A;have g:u=.bool true:=by
  rcases y with h|h
  . cases h
  . exact h.1
 have keep:∀ b,b<w.heap.size->w'.heap[b]? = w.heap[b]?:=λb n=>p.keep b n;refine⟨by grind,⟨⟨p.out.1,p.out.2,λi D=>?_⟩,λa Y=>by unfold World.frozen?;grind,p.size⟩,keep⟩
 grind
theorem qkX {w w':World}(h:∀ b,b<w.heap.size->w'.heap[b]? = w.heap[b]?){p}(a:p.block<w.heap.size):w.sameAt w' p:=by
 cases p with
 |cell b o=>simp only[World.sameAt,World.cell?];first|rw[h b a]|(simp[h b a])
 |map b=>simp only[World.sameAt];first|rw[h b a]|exact h b a
theorem qfi {H enc P w w'}(k:laidOutB P=true)(h:∀ b,b<w.heap.size->w'.heap[b]? = w.heap[b]?){l}:
  ∀ (ts:List TypeId) (vs:List Value) (ds:List (DataW H)) (c:List MemPlace),(ts.all λt=>P.readableRec t&&decide (t<P.types.size))=true->(∀ p∈c,p.block<w.heap.size/\l p.block=true) ->
   DataW.TrodAll enc P w 0 (λ_=>true) true ts vs ds c->DataW.TrodAll enc P w' 0 l true ts vs ds c
 |[],vs,ds,c,_,_,hd=>by obtain⟨rfl,rfl,rfl⟩:=trodAll_nil hd;exact hd
 |t::ts,vs,ds,c,f,g,hd=>by
  obtain⟨v,i,d,j,p,q,rfl,rfl,rfl,m,a⟩:=trodAll_cons hd;simp only[List.all_cons,aC,aW]at f;exact⟨p,q,WideElems.Trod_stays k f.1.1 f.1.2 m (λx e=>qkX h (g x (aL _ e)).1) (λx e=>(g x (aL _ e)).2),
   qfi k h ts i j q f.2 (λx e=>g x (aR _ e)) a,rfl⟩
theorem post_of_same' {H enc P f}{s:ChangeSpec}{apart i c k W l args v ds gs before pa pv}(q:DataW.Whole enc P f.params.toList s.vars apart W args.toList ds gs before)(g:∀ (b:Nat) (m:Nat->Bool) (hd:Bool),DataW.TrodAll enc P l b m hd f.resultTypes.toList (v.resultList f.resultTypes.size) (s.fn H (ds++gs)).results [])(d:∀ m:Nat->Bool,(∀ p∈before,m p.block=true)->DataW.TrodAll enc P l 0 m true f.params.toList args.toList (s.fn H (ds++gs)).args pa)(e:∀ m:Nat->Bool,(∀ p∈before,m p.block=true)->DataW.TrodVars enc P l m s.vars (s.fn H (ds++gs)).vars pv)(z:before=pa++pv)(A:W.keptBut l (·∈before))(u:∀ a:Addr,a.block<W.heap.size->l.frozen? a=W.frozen? a)(w:∀ (j:Nat) (t:TypeId) (r:Value),f.resultTypes[j]? = some t->(v.resultList f.resultTypes.size)[j]? = some r->Value.okWide P l .any 0 t r):
  s.post enc P f apart i c k W args v l:=by
 have h:∀ p∈before,(λb=>decide (b<W.heap.size)) p.block=true:=λp n=>by simpa using q.lt p n
 have x:∀ p∈before,p.block<W.heap.size:=λp n=>by grind
 refine⟨ds,gs,before,[],pa,pv,q,g _ _ _,d _ h,e _ h,World.keptBut_mono (λp n=>⟨n,?_⟩) A,λ_=>?_⟩
 . grind
 .
  obtain⟨_,_,_,_,_,B,C⟩:=q;refine⟨w,_,_,([]++pa)++pv,⟨[]++pa,pv,ChangeShapes.trodAll_append (d _ (λ_ _=>rfl)) (g _ _ _),e _ (λ_ _=>rfl),rfl,?_,?_⟩,?_⟩
  . intro b o n;have y:MemPlace.cell b o∈before:=by grind
    rw[u _ (x _ y)];exact B b o y
  . grind
  grind
theorem qjt {H enc P f i}{s:ChangeSpec}{w base T B args}{ds gs:List (DataW H)}{before hand}(M:qdf P T=true)(N:rowsT P T=true)(O:(i.params.toList.all T.contains)=true)(Q:laidOutB P=true)(C:(i.params.toList.all λt=>P.readableRec t&&decide (t<P.types.size))=true)(c:s.vars=[])(a:∀ ds:List (DataW H),ds.length=i.params.size->s.fn H ds={ results:=[.lit (.bool true)],args:=ds })(m:∃ t,i.resultTypes = #[t]/\P.underlying t=some .bool)(n:∀ (j:Nat) t v,i.params[j]? = some t->args[j]? = some v->Value.okWide P w .any base t v)(F:DataW.Whole enc P i.params.toList s.vars false w args.toList ds gs before)(G:Rows.uptoBulkAll (ds++gs)<=B)(k:∀ b,b<Glob.n->b<w.heap.size/\w.heap[b]? = Glob.H b)(D:∀ ls,qiH P B i.params.toList ls->wtRs ls<=B->Ev P hand f (vJ P i.params.toList ls) [] (.ret (.c (bc true))) []):
  Calls P f args w λe w'=>∃ v,e=.returned v/\s.post enc P i false true false false w args v w':=by
 have o:=F;obtain⟨p,q,I,J,rfl,R,S⟩:=F;rw[c]at J;obtain⟨rfl,rfl⟩:=trodVars_none J;rw[List.append_nil]at G o;have g:ds.length=i.params.size:=by
  have:∀ (ts:List TypeId) (vs:List Value) (ds:List (DataW H)) E,DataW.TrodAll enc P w 0 (λ_=>true) true ts vs ds E->ds.length=ts.length:=by
   intro ts
   induction ts with
   |nil=>intro vs ds E h;obtain⟨_,rfl,_⟩:=trodAll_nil h;rfl
   |cons t ts X=>
    intro vs ds E h;obtain⟨v,U,d,V,p,q,rfl,rfl,rfl,_,Y⟩:=trodAll_cons h
    grind
  grind
 obtain⟨t,r,u⟩:=m;refine(qhu (enc:=enc) (B:=B) M N (λt Z=>by grind) n I G k D).mono λe w' ⟨W,K,l⟩=>?_;have y:∀ x∈p,x.block<w.heap.size:=λx A=>by have:=o.lt x A;omega
 refine⟨_,W,post_of_same' (pa:=p) (pv:=[]) (before:=p) (ds:=ds) (gs:=[]) (by omega) (λb L hd=>?_) (λL z=>?_) (λL z=>?_) (by simp) (World.keptBut_mono (λ_ h=>h.elim) K.1) K.2.1 (ok_one r rfl (okWide_bool_mk u _))⟩
 . rw[List.append_nil,a ds g,r];exact trodAll_cons_mk (shut_bool u _) trodAll_mk0
 . rw[List.append_nil,a ds g];exact qfi Q l _ _ _ _ C (λx A=>⟨y x A,z x A⟩) I
 . rw[c,List.append_nil,a ds g];rfl
end
end
end Ab
end Go.Proofs.YtnnhdcidgfjfpaaGreatDoor

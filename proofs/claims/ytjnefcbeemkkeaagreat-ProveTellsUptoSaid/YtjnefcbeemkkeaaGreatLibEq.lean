/-
  The interpreter of the model's code over values, and its soundness: part 5 of 5. No claim stands here.
-/
import Derived.Test.YtjnefcbeemkkeaaGreatLibDq
set_option linter.all false
namespace Go.Proofs.YtjnefcbeemkkeaaGreat
namespace Ab
noncomputable section
section
variable [Glob]
theorem YG.mono {P c Q Q'}(hm:∀ e a w,Q e a w->Q' e a w){a w}(h:YG P c Q a w):YG P c Q' a w:=by intro b k cs;obtain⟨e,a',w',hq,harr⟩:=h b k cs;exact⟨e,a',w',hm _ _ _ hq,harr⟩
theorem qcu {P Q Q'}(hm:∀ e a w,Q e a w->Q' e a w):∀ {K:List TItem} {e:Exit} {a:Act} {w:World},KQ P K Q e a w->KQ P K Q' e a w
 |[],e,a,w,h=>hm _ _ _ h
 |.code c::K,e,a,w,h=>by
  have hK:∀ e a w,KQ P K Q e a w->KQ P K Q' e a w:=fun _ _ _=>qcu hm;cases e with
  |normal=>exact Code.wp_mono hK h
  |_=>exact hK _ _ _ h
 |.inBlock id::K,e,a,w,h=>by
  have hK:∀ e a w,KQ P K Q e a w->KQ P K Q' e a w:=fun _ _ _=>qcu hm;cases e with
  |exit id'=>
   have h':if id'=id then KQ P K Q .normal a w else KQ P K Q (.exit id') a w:=h
   show if id'=id then KQ P K Q' .normal a w else KQ P K Q' (.exit id') a w
   split at h'
   . rename_i hi;rw[aF hi];exact hK _ _ _ h'
   . rename_i hi;rw[aG hi];exact hK _ _ _ h'
  |_=>exact hK _ _ _ h
 |.inLoop b::K,e,a,w,h=>by
  have hK:∀ e a w,KQ P K Q e a w->KQ P K Q' e a w:=fun _ _ _=>qcu hm;cases e with
  |normal=>exact YG.mono hK h
  |_=>exact hK _ _ _ h
def FinQ (D:Act->Prop)(cx:Cx)(Q:Gh->World->Exit->Act->World->Prop)(K:List TItem)(F:Fr):Prop:=∀ G0 w0 G w a,(∀ d,¬ G0.lv d)->RelF G w F a.tmps->zS G0 w0 G w->D a->KQ cx.P K (Q G0 w0) .normal a w
theorem Fin.q {cx fn K F res bx}(h:Fin cx fn K F res bx){Q}(hm:∀ G0 w0 e a w,bodyPost cx.P fn (Went G0 w0 res bx) e a w->Q G0 w0 e a w):FinQ D0 cx Q K F:=fun G0 w0 G w a hlv hr hg hd=>qcu (hm G0 w0) (h G0 w0 G w a hlv hr hg hd)
inductive DStop where
 |at (K:List TItem) (F:Fr)
 |ret (F:Fr)
 |pan (v:Value) (F:Fr)
def DStop.ends (D:Act->Prop)(cx:Cx)(Q:Gh->World->Exit->Act->World->Prop):DStop->Prop
 |.at K F=>FinQ D cx Q K F
 |.ret F=>∀ G0 w0 G w a,(∀ d,¬ G0.lv d)->RelF G w F a.tmps->zS G0 w0 G w->D a->Q G0 w0 .normal a w/\Q G0 w0 .ret a w
 |.pan v F=>∀ G0 w0 G w a,(∀ d,¬ G0.lv d)->RelF G w F a.tmps->zS G0 w0 G w->D a->Q G0 w0 (.panic [{ v,recovered:=false }]) a w
def D1 (P:Program)(k f:Nat)(a:Act):Prop:=∃ fv cap dargs vs us,a.defers=[{ target:=.fn fv cap,args:=dargs }]/\a.tmps[k]? = some (.func (.func f) vs us)/\∀ w,(invoke (.fn fv cap) dargs).run P w=.ok (.enter f (vs++us)) w
end
section
variable [Glob]
theorem qgY {G w w' args Vs}(h:RelF G w ⟨args,qd 0 []⟩ Vs)(hb:Go.RowKit.Below w.heap.size w w'){v V}(hv:∀ r o c,cellAt v.rows r o=some c->∃ x,c=.val x)(hr:YY G w ⟨.slot 0,[]⟩ v V):RelF G w' ⟨[v],qd 0 []⟩ #[V]:=by
 have hs:Same G w w':=⟨hb.size,fun b hi=>hb.block b (h.inv.imlt b hi),fun k x e=>hb.block x.b (h.inv.lt k x e)⟩
 have h0:RelF G w ⟨[v],qd 0 []⟩ #[V]:=by
  refine⟨h.inv,rfl,fun k v' e=>?_,fun r l e=>by simp[qd]at e,fun d hd=>by have:=h.live d hd;simp[qd]at this,fun k rows e hi=>?_⟩
  . cases k with
    |zero=>simp only[aJ,aa]at e;subst e;exact⟨V,rfl,hr⟩
    |succ k=>simp at e
  .
   exfalso;by_cases hp:k.path=[]
   . rcases hi with hi|hi
     . exact hi hp
     . obtain⟨root,path⟩:=k;cases root<;>simp[Root.boxed]at hi<;>simp[Fr.rowsAt,Fr.rows,qd]at e
   .
    obtain⟨r,o,zz,rs,hg⟩:=Zg e hp;unfold Fr.get at hg;cases hx:Fr.rowsAt ⟨[v],qd 0 []⟩ ⟨k.root,[]⟩with
    |none=>simp[hx]at hg
    |some rows'=>
     simp only[hx,ae]at hg;have:∃ r o,cellAt v.rows r o=some (.own zz rs):=by
      obtain⟨root,path⟩:=k;cases root with
      |slot j=>
       cases j with
       |zero=>simp[Fr.rowsAt,Fr.rows,getR]at hx;subst hx;exact⟨_,_,hg⟩
       |succ j=>simp[Fr.rowsAt,Fr.rows]at hx
      |_=>simp[Fr.rowsAt,Fr.rows,qd]at hx
     obtain⟨r,o,hc⟩:=this;obtain⟨x,hx⟩:=hv r o _ hc;cases hx
 exact h0.same hs
theorem Qn {G w w' args Vs}(h:RelF G w ⟨args,qd 0 []⟩ Vs)(hb:Go.RowKit.Below w.heap.size w w'){v V}(hv:∀ r o c,cellAt v.rows r o=some c->∃ x,c=.val x)(hr:YY G w ⟨.slot 0,[]⟩ v V):Went G w (.ret v) [] (.returned V) w':=by exact⟨G,Gain.same hb.size hb.block h.inv ⟨hb.os,hb.output⟩,V,rfl,qgY h hb hv hr⟩
theorem qgW {G w k x}(hx:oneC x=true):YY G w k (.c (.val x)) x:=by
 refine⟨by simp[AV.c,QO],fun r o c e=>?_⟩
 match r,o,e with
 |0,0,e=>simp only[AV.c,cellAt,aJ,ae,aa]at e;subst e;exact⟨x,rfl,.inr ⟨rfl,hx⟩⟩
 |0,o+1,e=>simp[AV.c,cellAt]at e
 |r+1,o,e=>simp[AV.c,cellAt]at e
theorem qjE {x}:∀ r o c,cellAt (AV.c (.val x)).rows r o=some c->∃ y,c=.val y:=by
 intro r o c e
 match r,o,e with
 |0,0,e=>simp only[AV.c,cellAt,aJ,ae,aa]at e;exact⟨x,e.symm⟩
 |0,o+1,e=>simp[AV.c,cellAt]at e
 |r+1,o,e=>simp[AV.c,cellAt]at e
theorem qfA {G w w' args Vs}(h:RelF G w ⟨args,qd 0 []⟩ Vs)(hb:Go.RowKit.Below w.heap.size w w'){x}(hx:oneC x=true):Went G w (.ret (.c (.val x))) [] (.returned x) w':=Qn h hb qjE (qgW hx)
end
section
variable [Glob]
def rep {α:Type}(n:Nat)(x:α):List α:=List.replicate n x
def noHand:Nat->Nat->Bool:=fun _ _=>false
def AllP:List Prop->Prop
 |[]=>True
 |p::l=>p/\AllP l
theorem AllP.mem:∀ {l:List Prop},AllP l->∀ p∈l,p
 |[],_,p,hp=>by cases hp
 |q::l,⟨h1,h2⟩,p,hp=>by
  rcases List.mem_cons.1 hp with rfl|hp
  . exact h1
  . exact AllP.mem h2 p hp
def qlb {α:Type}(v:AV)(k:AV->α):α:=match v with|⟨t,rows⟩=>qjP t fun t=>XE (XE qfw) rows fun rows=>k ⟨t,rows⟩
theorem qjz {α}(v)(k:AV->α):qlb v k=k v:=by obtain⟨t,rows⟩:=v;simp only[qlb];have:∀ (k:List (List Cell)->α),XE (XE qfw) rows k=k rows:=vU (fun l k=>vU (fun c k=>qdx c k) l k) rows;cases t<;>exact this _
def qeB {α:Type}(ks ls:List Nat):List Bool->List AV->(List AV->α)->α
 |true::m,_::l,k=>qeB ks ls m l fun l=>k (.deadv::l)
 |false::m,v::l,k=>qlb (v.mapC (yV ks ls)) fun v=>qeB ks ls m l fun l=>k (v::l)
 |_,[],k=>k []
 |[],l,k=>k l
def qdk (ks:List Nat):Nat->Nat->List Bool
 |_,0=>[]
 |i,n+1=>ks.contains i::qdk ks (i+1) n
theorem qdC (ks):∀ (n i:Nat),(qdk ks i n).length=n
 |0,_=>rfl
 |n+1,i=>by simp[qdk,qdC ks n]
theorem qcy {α}(ks ls):∀ (s:List AV) (i:Nat) (k:List AV->α),qeB ks ls (qdk ks i s.length) s k=k (YS ks ls i s)
 |[],i,k=>rfl
 |v::s,i,k=>by
  show qeB ks ls (ks.contains i::qdk ks (i+1) s.length) (v::s) k=k (YS ks ls i (v::s));cases h:ks.contains i with
  |true=>simp only[qeB,YS,qcy ks ls s (i+1),h,if_true]
  |false=>simp only[qeB,YS,qcy ks ls s (i+1),h,qjz,aU,if_false]
def qhZ {α:Type}(ks ls:List Nat)(m:List Bool)(F:Fr)(k:Fr->α):α:=match F with
 |⟨s,b⟩=>if m.length=s.length then qeB ks ls m s fun s=>QA (qcZ ks ls b) fun b=>k ⟨s,b⟩else k (F.norm ks ls)
theorem qi6 {α}(ks ls n F)(k:Fr->α):qhZ ks ls (qdk ks 0 n) F k=k (F.norm ks ls):=by
 obtain⟨s,b⟩:=F;unfold qhZ;simp only[qdC];split
 . rename_i h;rw[h,qcy,Yv];rfl
 . rfl
def bm:Nat->Nat->List Bool
 |0,_=>[]
 |n+1,m=>(m % 2==1)::bm n (m / 2)
def zZ:Nat->List Bool->List Nat
 |_,[]=>[]
 |i,true::m=>i::zZ (i+1) m
 |i,false::m=>zZ (i+1) m
theorem qbf:∀ {m:List Bool} {i k:Nat},k∈zZ i m->i<=k
 |[],i,k,h=>by cases h
 |true::m,i,k,h=>by
  rcases List.mem_cons.1 h with rfl|h
  . exact Nat.le_refl _
  . have:=qbf h;omega
 |false::m,i,k,h=>by have:=qbf (m:=m) h;omega
theorem ZF:∀ (m:List Bool) (i:Nat) (pre:List Nat),(∀ k∈pre,k<i)->qdk (pre++zZ i m) i m.length=m
 |[],i,pre,_=>rfl
 |x::m,i,pre,h=>by
  have hp:pre.contains i=false:=by
   cases hc:pre.contains i with
   |false=>rfl
   |true=>have:=h i (by simpa using hc);omega
  show(pre++zZ i (x::m)).contains i::qdk (pre++zZ i (x::m)) (i+1) m.length=x::m;cases x with
  |true=>
   have h1:(pre++zZ i (true::m)).contains i=true:=by simp[zZ]
   rw[h1];have:pre++zZ i (true::m)=(pre++[i])++zZ (i+1) m:=by simp[zZ]
   rw[this,ZF m (i+1) (pre++[i]) (fun k hk=>by
    rcases List.mem_append.1 hk with hk|hk
    . have:=h k hk;omega
    . simp at hk;omega)]
  |false=>
   have h1:(pre++zZ i (false::m)).contains i=false:=by
    cases hc:(pre++zZ i (false::m)).contains i with
    |false=>rfl
    |true=>
     have:i∈pre++zZ i (false::m):=by simpa using hc
     rcases List.mem_append.1 this with hk|hk
     . have:=h i hk;omega
     . have:=qbf (m:=m) (i:=i+1) hk;omega
   rw[h1];have:pre++zZ i (false::m)=pre++zZ (i+1) m:=by simp[zZ]
   rw[this,ZF m (i+1) pre (fun k hk=>by have:=h k hk;omega)]
theorem qbU {α}(m ls F)(k:Fr->α):qhZ (zZ 0 m) ls m F k=k (F.norm (zZ 0 m) ls):=by have h:=ZF m 0 [] (fun k hk=>by cases hk);rw[List.nil_append]at h;have:=qi6 (zZ 0 m) ls m.length F k;rw[h]at this;exact this
theorem Fin.norm {cx fn K F res bx ks ls}(h:Fin cx fn K (F.norm ks ls) res bx):Fin cx fn K F res bx:=by intro G0 w0 G w a hlv hr hg hd;obtain⟨G',r1,g1⟩:=qax hr ks ls;exact h G0 w0 G' w a hlv r1 (hg.trans g1) hd
def Fr.fz (F:Fr)(p:Pl):Option Fr:=match F.get p with
 |some (.ref q)=>match F.get q with
  |some (.own _ rows)=>match F.set q (.imm (qG rows))with
   |some F1=>F1.set p (.imm (qG rows))
   |none=>none
  |_=>none
 |_=>none
def Fr.co (F:Fr)(p:Pl):Option Nat->Option Fr
 |some sz=>match F.get p with
  |some .nil=>match F.set p .dead with
   |some F1=>(F1.kill p).set p (.own sz [])
   |none=>none
  |_=>none
 |none=>match F.get p with
  |some .nil=>F.set p (.imm [])
  |some (.own _ rows)=>F.set p (.imm (qG rows))
  |some (.ref _)=>F.fz p
  |_=>none
def Fr.cos (F:Fr):List (Pl×Option Nat)->Option Fr
 |[]=>some F
 |(p,s)::l=>match F.co p s with
  |some F'=>F'.cos l
  |none=>none
theorem Val.back {G G' w F F' ts p u}(hγ:G'.γ p.key=G.γ p.key)(ht:∀ k:Nat,(F'.slots[k]?).map AV.tag=(F.slots[k]?).map AV.tag)(h:Val G' w F' ts p u):Val G w F ts p u:=by
 rcases h with⟨hi,x,vs,T,e1,e2,e3⟩|⟨hn,k,v,V,e1,e2,e3,e4⟩
 . exact .inl ⟨hi,x,vs,T,by rw[<- hγ];exact e1,e2,e3⟩
 .
  have h1:=ht k;rw[e2]at h1;cases hk:F.slots[k]? with
  |none=>simp[hk]at h1
  |some v0=>simp only[hk,av,aa]at h1;exact .inr ⟨hn,k,v0,V,e1,hk,e3,by rw[<- h1];exact e4⟩
theorem qik (F:Fr)(f)(k:Nat):((F.mapC f).slots[k]?).map AV.tag=(F.slots[k]?).map AV.tag:=by simp only[Fr.mapC,aI,Option.map_map];rfl
theorem qau.no_mpb {F F1 q p rows}(st:qau F F1 q (.imm rows))(h:∀ es,F.get p≠some (.mpb es))(es):F1.get p≠some (.mpb es):=by
 intro hg;unfold Fr.get at hg;by_cases hu:∃ rest,p.key=q.under rest
 . obtain⟨rest,e⟩:=hu;rw[e,st.under]at hg;simp[subR]at hg
 .
  rcases st.other p.key (fun rest e=>hu ⟨rest,e⟩)with⟨_,hn⟩|⟨a,b,ha,hb,hl⟩
  . rw[hn]at hg;cases hg
  .
   rw[hb]at hg;simp only[ae]at hg;by_cases hx:(if p.key=q.key then some (q.r,q.o)else none)=some (p.r,p.o)
   .
    have hpq:p=q:=by
     split at hx
     . rename_i hk;simp only[aa,ai]at hx;cases p;cases q;simp_all
     . cases hx
    have:=st.new;unfold Fr.get at this;rw[<- hpq,hb]at this;simp only[ae]at this;rw[hg]at this;cases this
   . obtain⟨c0,h0,hs⟩:=hl.cell _ _ _ hg hx;rcases hs with rfl|⟨_,_,_,_,h2,_⟩
     . exact h es (by unfold Fr.get;rw[ha];exact h0)
     . cases h2
theorem qBk {G w F F' ts}(h:RelF G w F ts){p}(e:F.fz p=some F'):∃ G',RelF G' w F' ts/\Gain G w G' w:=by
 unfold Fr.fz at e;split at e
 .
  rename_i q hg;split at e
  .
   rename_i zz rows hq;split at e
   . rename_i F1 h1;have st1:=Fr.setTo h1;obtain⟨a1,a2,_,a4⟩:=h.freezeAt hq st1;refine⟨_,a1.set (Fr.setTo e) (fun _=>rfl) (fun u hu=>.inr ?_) (Tree.flat (by intros;simp)) (st1.no_mpb (by intro _;rw[hg];simp)),a2⟩;have hu':Val G w F ts p u:=hu.back rfl (fun k=>st1.tags k);obtain⟨u0,hu0,hs⟩:=h.val hg;rw[<- hu'.unique hu0]at hs;rcases hs with⟨hx,_⟩|hs
     . cases hx
     . exact((a4 u (yD h (fun _=>hs) hq (by intro hh;simp[Seen]at hh)).1).sh p).1
   . cases e
  . cases e
 . cases e
theorem qyU {F:Fr}{p}(h:F.get p=some .dead)(es):(F.kill p).get p≠some (.mpb es):=by
 intro hg;rcases(Weak.mapC (qM p) F).get hg with h'|h'
 . cases h'
 . rw[h]at h';cases h'
theorem qfq {G w F F' ts}(h:RelF G w F ts){p s}(e:F.co p s=some F'):∃ G',RelF G' w F' ts/\Gain G w G' w:=by
 have val:∀ c,F.get p=some c->(∀ es,c≠.mpb es)->∀ u,Val G w F ts p u->(c=.dead/\¬ p.key.inHeap)\/Sh G w p c u:=by intro c hg hb u hu;obtain⟨u0,hu0,hs⟩:=h.val hg hb;rw[hu.unique hu0];exact hs
 cases s with
 |none=>
  simp only[Fr.co]at e;split at e
  . rename_i hg;refine⟨G,h.set (Fr.setTo e) (fun _=>rfl) (fun u hu=>.inr ?_) (Tree.flat (by intros;simp)) (by intro _;rw[hg];simp),Gain.refl G w⟩;rcases val _ hg (by intro _;simp) u hu with⟨hx,_⟩|hx
    . cases hx
    . cases hx;exact .immE none 0
  . rename_i zz rows hg;obtain⟨a1,a2,_,_⟩:=h.freezeAt hg (Fr.setTo e);exact⟨_,a1,a2⟩
  . exact qBk h e
  . cases e
 |some sz=>
  simp only[Fr.co]at e;split at e
  .
   rename_i hg;split at e
   .
    rename_i F1 hset;have st:=Fr.setTo hset;have r1:=h.empty st (by intro _;rw[hg];simp);have r2:=r1.mapC (qM p)
    let Y:Nat->Nat->Option (Option Pl):=fun r o=>if r=p.r/\o=p.o then some none else none
    have hY:∀ r o x,Y r o≠some (some x):=by intro r o x e;simp only[Y]at e;split at e<;>simp at e
    have r3:RelF (G.mv p.key Y) w (F1.kill p) ts:=r2.mv p.key (Y:=Y) (fun r o r' o' x x' π π' e=>absurd e (hY r o x)) (fun r o π hr=>by
     have:r=p.r/\o=p.o:=by
      simp only[Y]at hr;split at hr
      . assumption
      . exact absurd rfl hr
     obtain⟨rfl,rfl⟩:=this;exact vH r1 st.new π) (fun r o x π e=>absurd e (hY r o x))
    have hsp:Zk p.key p.toKey=some (p.r,p.o,[]):=xz.2 rfl;have hγ:(G.mv p.key Y).γ p.toKey=none:=by simp[Gh.mv,hsp,Y]
    have hk:(G.mv p.key Y).γ p.key=G.γ p.key:=YR (fun r o π e=>by have:=congrArg (fun k=>k.path.length) e;simp[Pl.under]at this) (fun r o x π e=>absurd e (hY r o x));have st2:=Fr.setTo e;refine⟨_,r3.set st2 (fun _=>rfl) (fun u hu=>.inr ?_) (fun rest rows e=>?_) (qyU st.new),Gain.mv p.key Y⟩
    . have hu':Val G w F ts p u:=hu.back hk (fun k=>by rw[Fr.kill,qik,st.tags]);rcases val _ hg (by intro _;simp) u hu' with⟨hx,_⟩|hx
      . cases hx
      . cases hx;exact .inl ⟨hγ,rfl,rfl⟩
    . cases rest with
      |nil=>simp only[subR,getR,aa]at e;subst e;exact .inl (.inl ⟨hγ,rfl,by simp[Pl.under]⟩)
      |cons y rest=>obtain⟨a,b⟩:=y;simp[subR,getR,cellAt]at e
   . cases e
  . cases e
theorem Fin.cos {cx fn K res bx}:∀ {cs:List (Pl×Option Nat)} {F F':Fr},F.cos cs=some F'->Fin cx fn K F' res bx->Fin cx fn K F res bx
 |[],F,F',e,h=>by simp only[Fr.cos,aa]at e;subst e;exact h
 |(p,s)::l,F,F',e,h=>by
  simp only[Fr.cos]at e;split at e
  . rename_i F1 h1;have:=Fin.cos e h;intro G0 w0 G w a hlv hr hg hd;obtain⟨G',r1,g1⟩:=qfq hr h1;exact this G0 w0 G' w a hlv r1 (hg.trans g1.w) hd
  . cases e
def mcut (cx:Cx)(fn:Func)(nb n:Nat)(K:List TItem)(F:Fr)(ad:Advs)(m:List Bool)(ls:List Nat)(cs:List (Pl×Option Nat)):Option (TStop×List Prop):=match mgo cx fn nb n K F ad with
 |some (.at K F,ps)=>qhZ (zZ 0 m) ls m F fun F=>match F.cos cs with
  |some F=>some (.at K F,ps)
  |none=>none
 |_=>none
theorem zO {cx fn nb}(hmix:cx.P.follows .mixedOrders=true){res bx n K F ad ps}(e:mgo cx fn nb n K F ad=some (.fin res bx,ps))(hp:AllP ps):Fin cx fn K F res bx:=qoM hmix e hp.mem ⟨rfl,rfl⟩
theorem qhs {cx fn nb}(hmix:cx.P.follows .mixedOrders=true){res bx n K K' F F' ad ps m ls cs}(h:Fin cx fn K' F' res bx)(e:mcut cx fn nb n K F ad m ls cs=some (.at K' F',ps))(hp:AllP ps):Fin cx fn K F res bx:=by
 unfold mcut at e;split at e
 .
  rename_i K1 F1 qs h1;rw[qbU]at e;split at e
  . rename_i F2 h2;simp only[aa,ai,TStop.at.injEq]at e;obtain⟨⟨rfl,rfl⟩,rfl⟩:=e;exact qoM hmix h1 hp.mem (Fin.cos h2 h).norm
  . cases e
 . cases e
def kAt:Code->List Nat->List TItem->List TItem
 |c,2::_,K=>.code c::K
 |_,3::_,K=>K
 |.loop b,4::_,K=>.inLoop b::K
 |.seq a b,0::p,K=>kAt a p (.code b::K)
 |.seq _ b,1::p,K=>kAt b p K
 |.cond _ a _,0::p,K=>kAt a p K
 |.cond _ _ b,1::p,K=>kAt b p K
 |.block id b,0::p,K=>kAt b p (.inBlock id::K)
 |.loop b,0::p,K=>kAt b p (.inLoop b::K)
 |_,_,_=>[]
def itS {S R:Type}(step:Nat->(S->Option R)->S->Option R):Nat->S->Option R
 |0,_=>none
 |k+1,s=>step k (itS step k) s
theorem qF {S R step}{P:S->R->Prop}(h:∀ k rec,(∀ s r,rec s=some r->P s r)->∀ s r,step k rec s=some r->P s r):∀ k s r,itS step k s=some r->P s r
 |0,s,r,e=>by cases e
 |k+1,s,r,e=>h k (itS step k) (qF h k) s r e
abbrev Rs:=List (List Cell)
abbrev Es:=List (Value×List Cell)
abbrev ic (n:Int):Cell:=.val (.int .i64 n)
abbrev bc (b:Bool):Cell:=.val (.bool b)
def gd {α:Type}(b:Bool)(x:Option α):Option α:=bif b then x else none
def ixR {α:Type}(rows:Rs)(n:Int)(k:List Cell->Option α):Option α:=bif decide (0<=n)then(rows[n.toNat]?).bind k else none
def optC {α β:Type}(o:Option α)(z:Option β)(k:α->Option β):Option β:=match o with
 |none=>z
 |some x=>k x
def altC {α β γ:Type}(v:α⊕β)(f:α->Option γ)(g:β->Option γ):Option γ:=match v with
 |.inl a=>f a
 |.inr b=>g b
theorem qa {α:Type}{b x y}{r:α}(h:(bif b then x else y)=some r):(b=true/\x=some r)\/(b=false/\y=some r):=by
 cases b
 . exact .inr ⟨rfl,h⟩
 . exact .inl ⟨rfl,h⟩
theorem zo {α b x}{r:α}(h:gd b x=some r):b=true/\x=some r:=by
 cases b
 . cases h
 . exact⟨rfl,h⟩
theorem qh {α β:Type}{o}{k:α->Option β}{r}(h:o.bind k=some r):∃ v,o=some v/\k v=some r:=by
 cases o with
 |none=>cases h
 |some v=>exact⟨v,rfl,h⟩
theorem qgU {α β o z}{k:α->Option β}{r}(h:optC o z k=some r):(∃ x,o=some x/\k x=some r)\/(o=none/\z=some r):=by
 cases o with
 |none=>exact .inr ⟨rfl,h⟩
 |some x=>exact .inl ⟨x,rfl,h⟩
def sxI {α:Type}(s:ByteArray)(n:Int)(k:Int->Option α):Option α:=bif decide (0<=n)then(Xp s n.toNat).bind k else none
theorem Xm {α s n k}{r:α}(h:sxI s n k=some r):∃ c,(0<=n/\Xp s n.toNat=some c)/\k c=some r:=by
 unfold sxI at h;obtain⟨h1,h2⟩|⟨_,h2⟩:=qa h
 . obtain⟨c,h3,h4⟩:=qh h2;exact⟨c,⟨of_decide_eq_true h1,h3⟩,h4⟩
 . cases h2
theorem YJ {α rows n k}{r:α}(h:ixR rows n k=some r):
  ∃ row,(0<=n/\rows[n.toNat]? = some row)/\k row=some r:=by
 unfold ixR at h;obtain⟨h1,h2⟩|⟨_,h2⟩:=qa h
 . obtain⟨row,h3,h4⟩:=qh h2;exact⟨row,⟨of_decide_eq_true h1,h3⟩,h4⟩
 . cases h2
theorem qot {rows:Rs}{n:Int}{row}(h:0<=n/\rows[n.toNat]? = some row):0<=n/\n<rows.length:=by have:=(az.1 h.2).1;exact⟨h.1,by omega⟩
def slOk (l h:Int)(rows:Rs)(sz:Nat):Bool:=decide (0<=l/\l<=h/\h<=rows.length/\(rows.head?.all (·.length==sz))=true)
def apOk (bytes sz:Nat)(rows more:Rs):Bool:=(rows.length+more.length)*bytes<=140737488355328&&rows.length+more.length<=lim&&0<sz&&true&&more.head?.all (·.length==sz)&&true
def tup2 {α0 α1 γ:Type}(v:α0×α1)(k:α0->α1->Option γ):Option γ:=k v.1 v.2
def tup3 {α0 α1 α2 γ:Type}(v:α0×α1×α2)(k:α0->α1->α2->Option γ):Option γ:=k v.1 v.2.1 v.2.2
def tup4 {α0 α1 α2 α3 γ:Type}(v:α0×α1×α2×α3)(k:α0->α1->α2->α3->Option γ):Option γ:=k v.1 v.2.1 v.2.2.1 v.2.2.2
def tup5 {α0 α1 α2 α3 α4 γ:Type}(v:α0×α1×α2×α3×α4)(k:α0->α1->α2->α3->α4->Option γ):Option γ:=k v.1 v.2.1 v.2.2.1 v.2.2.2.1 v.2.2.2.2
def tup6 {α0 α1 α2 α3 α4 α5 γ:Type}(v:α0×α1×α2×α3×α4×α5)(k:α0->α1->α2->α3->α4->α5->Option γ):Option γ:=k v.1 v.2.1 v.2.2.1 v.2.2.2.1 v.2.2.2.2.1 v.2.2.2.2.2
def tup7 {α0 α1 α2 α3 α4 α5 α6 γ:Type}(v:α0×α1×α2×α3×α4×α5×α6)(k:α0->α1->α2->α3->α4->α5->α6->Option γ):Option γ:=k v.1 v.2.1 v.2.2.1 v.2.2.2.1 v.2.2.2.2.1 v.2.2.2.2.2.1 v.2.2.2.2.2.2
def tup8 {α0 α1 α2 α3 α4 α5 α6 α7 γ:Type}(v:α0×α1×α2×α3×α4×α5×α6×α7)(k:α0->α1->α2->α3->α4->α5->α6->α7->Option γ):Option γ:=k v.1 v.2.1 v.2.2.1 v.2.2.2.1 v.2.2.2.2.1 v.2.2.2.2.2.1 v.2.2.2.2.2.2.1 v.2.2.2.2.2.2.2
def tup9 {α0 α1 α2 α3 α4 α5 α6 α7 α8 γ:Type}(v:α0×α1×α2×α3×α4×α5×α6×α7×α8)(k:α0->α1->α2->α3->α4->α5->α6->α7->α8->Option γ):Option γ:=k v.1 v.2.1 v.2.2.1 v.2.2.2.1 v.2.2.2.2.1 v.2.2.2.2.2.1 v.2.2.2.2.2.2.1 v.2.2.2.2.2.2.2.1 v.2.2.2.2.2.2.2.2
def ql {α0 α1 α2 α3 α4 α5 α6 α7 α8 α9 γ:Type}(v:α0×α1×α2×α3×α4×α5×α6×α7×α8×α9)(k:α0->α1->α2->α3->α4->α5->α6->α7->α8->α9->Option γ):Option γ:=k v.1 v.2.1 v.2.2.1 v.2.2.2.1 v.2.2.2.2.1 v.2.2.2.2.2.1 v.2.2.2.2.2.2.1 v.2.2.2.2.2.2.2.1 v.2.2.2.2.2.2.2.2.1 v.2.2.2.2.2.2.2.2.2
def qoG {α0 α1 α2 α3 α4 α5 α6 α7 α8 α9 α10 γ:Type}(v:α0×α1×α2×α3×α4×α5×α6×α7×α8×α9×α10)(k:α0->α1->α2->α3->α4->α5->α6->α7->α8->α9->α10->Option γ):Option γ:=k v.1 v.2.1 v.2.2.1 v.2.2.2.1 v.2.2.2.2.1 v.2.2.2.2.2.1 v.2.2.2.2.2.2.1 v.2.2.2.2.2.2.2.1 v.2.2.2.2.2.2.2.2.1 v.2.2.2.2.2.2.2.2.2.1 v.2.2.2.2.2.2.2.2.2.2
def zu {α0 α1 α2 α3 α4 α5 α6 α7 α8 α9 α10 α11 γ:Type}(v:α0×α1×α2×α3×α4×α5×α6×α7×α8×α9×α10×α11)(k:α0->α1->α2->α3->α4->α5->α6->α7->α8->α9->α10->α11->Option γ):Option γ:=k v.1 v.2.1 v.2.2.1 v.2.2.2.1 v.2.2.2.2.1 v.2.2.2.2.2.1 v.2.2.2.2.2.2.1 v.2.2.2.2.2.2.2.1 v.2.2.2.2.2.2.2.2.1 v.2.2.2.2.2.2.2.2.2.1 v.2.2.2.2.2.2.2.2.2.2.1 v.2.2.2.2.2.2.2.2.2.2.2
def qCM {α0 α1 α2 α3 α4 α5 α6 α7 α8 α9 α10 α11 α12 γ:Type}(v:α0×α1×α2×α3×α4×α5×α6×α7×α8×α9×α10×α11×α12)(k:α0->α1->α2->α3->α4->α5->α6->α7->α8->α9->α10->α11->α12->Option γ):Option γ:=k v.1 v.2.1 v.2.2.1 v.2.2.2.1 v.2.2.2.2.1 v.2.2.2.2.2.1 v.2.2.2.2.2.2.1 v.2.2.2.2.2.2.2.1 v.2.2.2.2.2.2.2.2.1 v.2.2.2.2.2.2.2.2.2.1 v.2.2.2.2.2.2.2.2.2.2.1 v.2.2.2.2.2.2.2.2.2.2.2.1 v.2.2.2.2.2.2.2.2.2.2.2.2
theorem qBD {α0 α1 α2 α3 α4 α5 α6 α7 α8 α9 α10 α11 α12 γ v}{k:α0->α1->α2->α3->α4->α5->α6->α7->α8->α9->α10->α11->α12->Option γ}{r}(h:qCM v k=some r):∃ a0 a1 a2 a3 a4 a5 a6 a7 a8 a9 a10 a11 a12,v=(a0,a1,a2,a3,a4,a5,a6,a7,a8,a9,a10,a11,a12)/\k a0 a1 a2 a3 a4 a5 a6 a7 a8 a9 a10 a11 a12=some r:=⟨v.1,v.2.1,v.2.2.1,v.2.2.2.1,v.2.2.2.2.1,v.2.2.2.2.2.1,v.2.2.2.2.2.2.1,v.2.2.2.2.2.2.2.1,v.2.2.2.2.2.2.2.2.1,v.2.2.2.2.2.2.2.2.2.1,v.2.2.2.2.2.2.2.2.2.2.1,v.2.2.2.2.2.2.2.2.2.2.2.1,v.2.2.2.2.2.2.2.2.2.2.2.2,rfl,h⟩
theorem t2 {α0 α1 γ v}{k:α0->α1->Option γ}{r}(h:tup2 v k=some r):k v.1 v.2=some r:=h
theorem b2 {α0 α1 γ o}{k:α0->α1->Option γ}{r}(h:(o.bind fun v=>tup2 v k)=some r):∃ v,o=some v/\k v.1 v.2=some r:=qh h
theorem t3 {α0 α1 α2 γ v}{k:α0->α1->α2->Option γ}{r}(h:tup3 v k=some r):k v.1 v.2.1 v.2.2=some r:=h
theorem b3 {α0 α1 α2 γ o}{k:α0->α1->α2->Option γ}{r}(h:(o.bind fun v=>tup3 v k)=some r):∃ v,o=some v/\k v.1 v.2.1 v.2.2=some r:=qh h
theorem t4 {α0 α1 α2 α3 γ v}{k:α0->α1->α2->α3->Option γ}{r}(h:tup4 v k=some r):k v.1 v.2.1 v.2.2.1 v.2.2.2=some r:=h
theorem b4 {α0 α1 α2 α3 γ o}{k:α0->α1->α2->α3->Option γ}{r}(h:(o.bind fun v=>tup4 v k)=some r):∃ v,o=some v/\k v.1 v.2.1 v.2.2.1 v.2.2.2=some r:=qh h
theorem t5 {α0 α1 α2 α3 α4 γ v}{k:α0->α1->α2->α3->α4->Option γ}{r}(h:tup5 v k=some r):k v.1 v.2.1 v.2.2.1 v.2.2.2.1 v.2.2.2.2=some r:=h
theorem b5 {α0 α1 α2 α3 α4 γ o}{k:α0->α1->α2->α3->α4->Option γ}{r}(h:(o.bind fun v=>tup5 v k)=some r):∃ v,o=some v/\k v.1 v.2.1 v.2.2.1 v.2.2.2.1 v.2.2.2.2=some r:=qh h
theorem t6 {α0 α1 α2 α3 α4 α5 γ v}{k:α0->α1->α2->α3->α4->α5->Option γ}{r}(h:tup6 v k=some r):k v.1 v.2.1 v.2.2.1 v.2.2.2.1 v.2.2.2.2.1 v.2.2.2.2.2=some r:=h
theorem b6 {α0 α1 α2 α3 α4 α5 γ o}{k:α0->α1->α2->α3->α4->α5->Option γ}{r}(h:(o.bind fun v=>tup6 v k)=some r):∃ v,o=some v/\k v.1 v.2.1 v.2.2.1 v.2.2.2.1 v.2.2.2.2.1 v.2.2.2.2.2=some r:=qh h
theorem b7 {α0 α1 α2 α3 α4 α5 α6 γ o}{k:α0->α1->α2->α3->α4->α5->α6->Option γ}{r}(h:(o.bind fun v=>tup7 v k)=some r):∃ v,o=some v/\k v.1 v.2.1 v.2.2.1 v.2.2.2.1 v.2.2.2.2.1 v.2.2.2.2.2.1 v.2.2.2.2.2.2=some r:=qh h
theorem b8 {α0 α1 α2 α3 α4 α5 α6 α7 γ o}{k:α0->α1->α2->α3->α4->α5->α6->α7->Option γ}{r}(h:(o.bind fun v=>tup8 v k)=some r):∃ v,o=some v/\k v.1 v.2.1 v.2.2.1 v.2.2.2.1 v.2.2.2.2.1 v.2.2.2.2.2.1 v.2.2.2.2.2.2.1 v.2.2.2.2.2.2.2=some r:=qh h
end
section
variable [Glob]
end
section
variable [Glob]
theorem FinQ.norm {D cx Q K F ks ls}(h:FinQ D cx Q K (F.norm ks ls)):FinQ D cx Q K F:=by intro G0 w0 G w a hlv hr hg hd;obtain⟨G',r1,g1⟩:=qax hr ks ls;exact h G0 w0 G' w a hlv r1 (hg.trans g1) hd
theorem FinQ.cos {D cx Q K}:∀ {cs:List (Pl×Option Nat)} {F F':Fr},F.cos cs=some F'->FinQ D cx Q K F'->FinQ D cx Q K F
 |[],F,F',e,h=>by simp only[Fr.cos,aa]at e;subst e;exact h
 |(p,s)::l,F,F',e,h=>by
  simp only[Fr.cos]at e;split at e
  . rename_i F1 h1;have:=FinQ.cos e h;intro G0 w0 G w a hlv hr hg hd;obtain⟨G',r1,g1⟩:=qfq hr h1;exact this G0 w0 G' w a hlv r1 (hg.trans g1.w) hd
  . cases e
end
section
variable [Glob]
open Go.ChangeShapes Go.WideShapes Go.ChangeAt Go.RowKit
def qdf (P:Program)(T:List TypeId):Bool:=T.all fun t=>match P.underlying t with
 |some .bool|some (.int _)|some .string=>P.cellsOf t==1
 |some (.slice e)=>T.contains e&&decide (0<P.cellsOf e)&&P.cellsOf t==1
 |some (.struct fs)=>fs.toList.all fun f=>T.contains f.type
 |_=>false
def rowT (P:Program):Nat->List Field->Bool
 |_,[]=>true
 |o,f::fs=>f.offset==o&&rowT P (o+P.cellsOf f.type) fs
def rowsT (P:Program)(T:List TypeId):Bool:=T.all fun t=>match P.underlying t with
 |some (.struct fs)=>rowT P 0 fs.toList&&P.cellsOf t==(fs.toList.map fun f=>P.cellsOf f.type).sum
 |_=>true
def ShT (P:Program)(B:Nat):Nat->TypeId->List Cell->Prop
 |0,_,_=>False
 |n+1,t,l=>match P.underlying t with
  |some .bool=>∃ b,l=[.val (.bool b)]
  |some (.int k)=>∃ x,l=[.val (.int k x)]/\k.min<=x/\x<=k.max
  |some .string=>∃ s:ByteArray,l=[.val (.string s)]/\s.size<=B
  |some (.slice e)=>∃ rows,l=[.imm rows]/\rows.length<=B/\∀ row∈rows,ShT P B n e row
  |some (.struct fs)=>∃ ls:List (List Cell),l=ls.flatten/\ls.length=fs.size/\∀ (i:Nat) f x,fs[i]? = some f->ls[i]? = some x->ShT P B n f.type x
  |_=>False
def qcf (im:Nat->Prop)(w:World)(l:List Cell)(cs:List Value):Prop:=l.length=cs.length/\∀ (o:Nat) c,l[o]? = some c->∃ u,cs[o]? = some u/\RelI im w c u
theorem qbO {β:Type}{f}:∀ {n:Nat} {r:List β},(List.range n).mapM f=some r->r.length=n/\∀ i,i<n->∃ y,f i=some y/\r[i]? = some y:=by intro n r h;have h1:=mapM_some_length h;rw[List.length_range]at h1;refine⟨h1,fun i hi=>?_⟩;have:=mapM_some_get h i i (by rw[List.getElem?_range hi]);rw[ax (by omega:i<r.length)]at this;exact⟨_,this,ax _⟩
theorem qfQ {w:World}{base a n cs}(h:w.cells? base a n=some cs)(hn:0<n):
  cs.length=n/\a.spot=none/\∃ vs T fr,w.heap[a.block]? = some (.cells vs T fr)/\∀ j,j<n->vs[a.off+j]? = cs[j]?:=by
 unfold World.cells? at h;split at h
 .
  obtain⟨h1,h2⟩:=qbO h;obtain⟨y0,k1,k2⟩:=h2 0 hn;have hc:∀ j y,w.cell? (a.add j)=some y->∃ vs T fr,w.heap[a.block]? = some (.cells vs T fr)/\vs[a.off+j]? = some y:=by
   intro j y e;unfold World.cell? at e;have hb:(a.add j).block=a.block:=by unfold Addr.add;split<;>rfl
   have ho:(a.add j).off=a.off+j:=by unfold Addr.add;split<;>simp_all
   rw[hb,ho]at e;split at e
   . rename_i c T fr hh;split at e
     . cases e
     . exact⟨c,T,fr,hh,e⟩
   . cases e
  have hs:a.spot=none:=by
   unfold World.cell? at k1;rw[show a.add 0=a from by simp[Addr.add]]at k1;split at k1
   . split at k1
     . cases k1
     . rename_i hs;simpa using hs
   . cases k1
  obtain⟨vs,T,fr,e1,_⟩:=hc 0 y0 k1;refine⟨h1,hs,vs,T,fr,e1,fun j hj=>?_⟩;obtain⟨y,l1,l2⟩:=h2 j hj;obtain⟨vs',T',fr',e2,e3⟩:=hc j y l1;rw[e1]at e2;cases e2;rw[e3,l2]
 . cases h
theorem qeM {im w v}(h:oneC v=true):qcf im w [.val v] [v]:=by
 refine⟨rfl,fun o c hc=>?_⟩;cases o with
 |zero=>simp only[aJ,aa]at hc;subst hc;exact⟨_,rfl,.val _ h⟩
 |succ o=>simp at hc
theorem YC {H}(d:DataW H):1<=Rows.uptoBulk d:=by
 cases d with
 |lit l=>cases l<;>simp[Rows.uptoBulk]
 |nil=>simp[Rows.uptoBulk]
 |ptr d=>simp[Rows.uptoBulk]
 |slice elems spare=>simp[Rows.uptoBulk]
 |agg parts=>simp[Rows.uptoBulk]
 |iface t d=>simp[Rows.uptoBulk]
 |map entries=>simp[Rows.uptoBulk]
 |held h=>simp[Rows.uptoBulk]
theorem qit {H d}{l:List (DataW H)}(h:d∈l):Rows.uptoBulk d<=Rows.uptoBulkAll l:=by
 induction l with
 |nil=>cases h
 |cons x r ih=>
  simp only[Rows.uptoBulkAll];cases List.mem_cons.1 h with
  |inl e=>subst e;omega
  |inr e=>have:=ih e;omega
theorem qi4 {H}(l:List (DataW H)):l.length<=Rows.uptoBulkAll l:=by
 induction l with
 |nil=>simp[Rows.uptoBulkAll]
 |cons x r ih=>have:=YC x;simp only[Rows.uptoBulkAll,List.length_cons];omega
mutual
def wtC:Cell->Nat
 |.imm rows=>wtRs rows+1
 |_=>1
def wtL:List Cell->Nat
 |[]=>0
 |c::l=>wtC c+wtL l
def wtRs:List (List Cell)->Nat
 |[]=>0
 |l::r=>wtL l+wtRs r
end
theorem qgD (a b):wtL (a++b)=wtL a+wtL b:=by
 induction a with
 |nil=>simp[wtL]
 |cons c a ih=>simp only[List.cons_append,wtL,ih];omega
theorem qih {H}:∀ (rows:List (List Cell)) (ds:List (DataW H)),rows.length=ds.length->(∀ (i:Nat) r d,rows[i]? = some r->ds[i]? = some d->wtL r<=Rows.uptoBulk d)->wtRs rows<=Rows.uptoBulkAll ds
 |[],ds,_,_=>by simp[wtRs]
 |r::rows,[],h,_=>by simp at h
 |r::rows,d::ds,h,hp=>by have h1:=hp 0 r d rfl rfl;have h2:=qih rows ds (by simpa using h) (fun i r' d' e1 e2=>hp (i+1) r' d' (by simpa using e1) (by simpa using e2));simp only[wtRs,Rows.uptoBulkAll];omega
theorem YT {H enc P w base spare held T B}(hT:qdf P T=true)(hR:rowsT P T=true):
  ∀ (n:Nat) (t:TypeId) (cs:List Value) (d:DataW H) (ps:List MemPlace),t∈T->DataW.trod enc P w base spare held n t cs=some (d,ps)->Rows.uptoBulk d<=B ->
   ∃ l,qcf (fun b=>b<w.heap.size) w l cs/\ShT P B n t l/\cs.length=P.cellsOf t/\wtL l<=Rows.uptoBulk d
 |0,t,cs,d,ps,_,e,_=>by simp[DataW.trod]at e
 |n+1,t,cs,d,ps,ht,e,hB=>by
  have h1:=(List.all_eq_true.1 hT) t ht;have h2:=(List.all_eq_true.1 hR) t ht;unfold DataW.trod at e;cases hu:P.underlying t with
  |none=>rw[hu]at h1;cases h1
  |some ud=>
   rw[hu]at h1 h2 e;cases ud with
   |bool=>
    simp only[beq_iff_eq]at h1;rcases cs with _|⟨v,_|⟨v2,cs⟩⟩
    . simp at e
    . cases v<;>simp at e;rename_i b;refine⟨[.val (.bool b)],qeM rfl,?_,h1.symm,YC _⟩;simp only[ShT,hu];exact⟨b,rfl⟩
    . cases v<;>simp at e
   |int k=>
    simp only[beq_iff_eq]at h1;rcases cs with _|⟨v,_|⟨v2,cs⟩⟩
    . simp at e
    . cases v<;>simp at e;rename_i k' x;obtain⟨⟨rfl,hw⟩,_⟩:=e;refine⟨[.val (.int k' x)],qeM rfl,?_,h1.symm,YC _⟩;simp only[ShT,hu];simp only[Lit.wf,aD,aY]at hw;exact⟨x,rfl,hw⟩
    . cases v<;>simp at e
   |string=>
    simp only[beq_iff_eq]at h1;rcases cs with _|⟨v,_|⟨v2,cs⟩⟩
    . simp at e
    . cases v<;>simp at e;rename_i s;obtain⟨_,rfl,_⟩:=e;refine⟨[.val (.string s)],qeM rfl,?_,h1.symm,YC _⟩;simp only[ShT,hu];refine⟨s,rfl,?_⟩;simp only[Rows.uptoBulk]at hB;have hl:s.data.toList.length=s.size:=by rw[Array.length_toList];rfl
      omega
    . cases v<;>simp at e
   |slice el=>
    simp only[aD,aY,beq_iff_eq]at h1;obtain⟨⟨h1,h3⟩,h4⟩:=h1;have hel:el∈T:=by simpa using h1
    rcases cs with _|⟨v,_|⟨v2,cs⟩⟩
    . simp at e
    .
     cases v with
     |slice a len cap=>
      cases a with
      |none=>
       cases len<;>cases cap<;>simp at e;refine⟨[.imm []],⟨rfl,fun o c hc=>?_⟩,?_,h4.symm,YC _⟩
       . cases o with
         |zero=>simp only[aJ,aa]at hc;subst hc;exact⟨_,rfl,.immE none 0⟩
         |succ o=>simp at hc
       . simp only[ShT,hu];exact⟨[],rfl,Nat.zero_le _,by simp⟩
      |some a=>
       simp only at e;split at e
       .
        rename_i hcond;rw[Option.bind_eq_some_iff]at e;obtain⟨elems,he,e⟩:=e;rw[aH]at e;obtain⟨rest,hrest,e⟩:=e;simp only[ai]at e;obtain⟨rfl,_⟩:=e;obtain⟨m1,m2⟩:=qbO he;simp only[Rows.uptoBulk]at hB;have hlen:elems.length<=B:=by have:=qi4 (elems.map (·.1));rw[List.length_map]at this;omega
        have each:∀ i,i<len->∃ li csi vs,w.cells? base (a.add (i*P.cellsOf el)) (P.cellsOf el)=some csi/\qcf (fun b=>b<w.heap.size) w li csi/\ShT P B n el li/\csi.length=P.cellsOf el/\vs=csi/\∀ y,elems[i]? = some y->wtL li<=Rows.uptoBulk y.1:=by
         intro i hi;obtain⟨y,k1,k2⟩:=m2 i hi;rw[Option.bind_eq_some_iff]at k1;obtain⟨csi,k3,k4⟩:=k1;obtain⟨di,pi⟩:=y;have hb:Rows.uptoBulk di<=B:=by have:Rows.uptoBulk di<=Rows.uptoBulkAll (elems.map (·.1)):=qit (List.mem_map.2 ⟨(di,pi),aN k2,rfl⟩);omega
         obtain⟨li,r1,r2,r3,r4⟩:=YT (B:=B) hT hR n el csi di pi hel k4 hb;exact⟨li,csi,csi,k3,r1,r2,r3,rfl,fun y hy=>by rw[k2]at hy;cases hy;exact r4⟩
        cases len with
        |zero=>
         refine⟨[.imm []],⟨rfl,fun o c hc=>?_⟩,?_,h4.symm,YC _⟩
         . cases o with
           |zero=>simp only[aJ,aa]at hc;subst hc;exact⟨_,rfl,.immE _ _⟩
           |succ o=>simp at hc
         . simp only[ShT,hu];exact⟨[],rfl,Nat.zero_le _,by simp⟩
        |succ len'=>
         obtain⟨l0,cs0,_,q1,_,_,_,_,_⟩:=each 0 (by omega);rw[Nat.zero_mul,show a.add 0=a from by simp[Addr.add]]at q1;obtain⟨_,q2,vs,Tt,fr,q3,q4⟩:=qfQ q1 h3
         let rowAt:Nat->List Cell:=fun i=>if hi:i<len'+1 then(each i hi).choose else []
         have hrow:∀ i (hi:i<len'+1),∃ csi,w.cells? base (a.add (i*P.cellsOf el)) (P.cellsOf el)=some csi/\qcf (fun b=>b<w.heap.size) w (rowAt i) csi/\ShT P B n el (rowAt i)/\csi.length=P.cellsOf el/\∀ y,elems[i]? = some y->wtL (rowAt i)<=Rows.uptoBulk y.1:=by
          intro i hi;obtain⟨csi,_,z1,z2,z3,z4,_,z5⟩:=(each i hi).choose_spec;refine⟨csi,z1,?_,?_,z4,?_⟩
          . simp only[rowAt,dif_pos hi];exact z2
          . simp only[rowAt,dif_pos hi];exact z3
          . simp only[rowAt,dif_pos hi];exact z5
         have hlt:a.block<w.heap.size:=by have:=Array.getElem?_eq_some_iff.1 q3;exact this.1
         have hvs:∀ i (hi:i<len'+1) csi,w.cells? base (a.add (i*P.cellsOf el)) (P.cellsOf el)=some csi->∀ j,j<P.cellsOf el->vs[a.off+i*P.cellsOf el+j]? = csi[j]?:=by
          intro i hi csi z1 j hj;obtain⟨_,_,vs',T',fr',q5,q6⟩:=qfQ z1 h3;have hb:(a.add (i*P.cellsOf el)).block=a.block:=by unfold Addr.add;split<;>rfl
          have ho:(a.add (i*P.cellsOf el)).off=a.off+i*P.cellsOf el:=by unfold Addr.add;split<;>simp_all
          rw[hb,q3]at q5;cases q5;rw[<- q6 j hj,ho]
         refine⟨[.imm ((List.range (len'+1)).map rowAt)],⟨rfl,fun o c hc=>?_⟩,?_,h4.symm,?_⟩
         .
          cases o with
          |succ o=>simp at hc
          |zero=>
           simp only[aJ,aa]at hc;subst hc;refine⟨_,rfl,?_⟩;have ha:a=⟨a.block,a.off,none⟩:=by obtain⟨b,o,s⟩:=a;simp only at q2;subst q2;rfl
           have hcell:∀ r o c,cellAt ((List.range (len'+1)).map rowAt) r o=some c->∃ (hr:r<len'+1),(rowAt r)[o]? = some c:=by
            intro r o c hc;obtain⟨row,k1,k2⟩:=qc.1 hc;rw[aI]at k1;by_cases hr:r<len'+1
            . rw[List.getElem?_range hr]at k1;simp only[av,aa]at k1;subst k1;exact⟨hr,k2⟩
            . rw[List.getElem?_eq_none (by simpa using hr)]at k1;simp at k1
           have:=RelI.imm (im:=fun b=>b<w.heap.size) (w:=w) ((List.range (len'+1)).map rowAt) a.block a.off cap (P.cellsOf el) vs Tt fr (fun r o=>(vs[a.off+r*P.cellsOf el+o]?).getD Go.undef) q3 hlt
            (by rw[List.length_map,List.length_range];exact hcond.2.1) (fun row hr=>by obtain⟨i,hi,rfl⟩:=List.mem_map.1 hr;obtain⟨csi,_,z2,_,z4,_⟩:=hrow i (List.mem_range.1 hi);rw[z2.1,z4])
            (fun r o c hc=>by
             obtain⟨hr,hc⟩:=hcell r o c hc;obtain⟨csi,z1,z2,_,z4,_⟩:=hrow r hr;obtain⟨u,hu',_⟩:=z2.2 o c hc;have ho:o<P.cellsOf el:=by rw[<- z4];exact(az.1 hu').1
             rw[hvs r hr csi z1 o ho,hu'];rfl)
            (fun r o c hc=>by
             obtain⟨hr,hc⟩:=hcell r o c hc;obtain⟨csi,z1,z2,_,z4,_⟩:=hrow r hr;obtain⟨u,hu',hrel⟩:=z2.2 o c hc;have ho:o<P.cellsOf el:=by rw[<- z4];exact(az.1 hu').1
             rw[hvs r hr csi z1 o ho,hu'];exact hrel)
           rw[List.length_map,List.length_range,<- ha]at this;exact this
         . simp only[ShT,hu];refine⟨_,rfl,by rw[List.length_map,List.length_range];omega,fun row hr=>?_⟩;obtain⟨i,hi,rfl⟩:=List.mem_map.1 hr;obtain⟨_,_,_,z3,_⟩:=hrow i (List.mem_range.1 hi);exact z3
         . have hw:=qih ((List.range (len'+1)).map rowAt) (elems.map (·.1)) (by simp[m1]) (fun i r d e1 e2=>by
            rw[aI]at e1 e2;by_cases hi:i<len'+1
            . rw[List.getElem?_range hi]at e1;simp only[av,aa]at e1;subst e1;obtain⟨_,_,_,_,_,z5⟩:=hrow i hi;cases hy:elems[i]? with
              |none=>simp[hy]at e2
              |some y=>simp only[hy,av,aa]at e2;subst e2;exact z5 y hy
            . rw[List.getElem?_eq_none (by simpa using hi)]at e1;simp at e1)
           simp only[wtL,wtC,Rows.uptoBulk];omega
       . cases e
     |_=>simp at e
    .
     cases v with
     |slice a len cap=>
      cases a with
      |none=>cases len<;>cases cap<;>simp at e
      |some a=>simp at e
     |_=>simp at e
   |struct fs=>
    simp only at h1;simp only[aD,beq_iff_eq]at h2;have e':(if cs.length=P.cellsOf t then(fs.toList.mapM fun f=>DataW.trod enc P w base spare held n f.type ((cs.drop f.offset).take (P.cellsOf f.type))).map fun xs=>(DataW.agg (xs.map (·.1)),xs.flatMap (·.2))else none)=some (d,ps):=by
     rcases cs with _|⟨v,_|⟨v2,cs⟩⟩
     . exact e
     . cases v<;>exact e
     . cases v<;>exact e
    split at e'
    .
     rename_i hlen;rw[aH]at e';obtain⟨xs,hxs,e'⟩:=e';simp only[ai]at e';obtain⟨rfl,_⟩:=e';simp only[Rows.uptoBulk]at hB;have key:∀ (fl:List Field) (o:Nat) (xs:List (DataW H×List MemPlace)) (cs':List Value),(∀ f∈fl,f.type∈T)->rowT P o fl=true->cs'.length=(fl.map fun f=>P.cellsOf f.type).sum->(∀ j,cs'[j]? = cs[o+j]?) ->
       (fl.mapM fun f=>DataW.trod enc P w base spare held n f.type ((cs.drop f.offset).take (P.cellsOf f.type)))=some xs->Rows.uptoBulkAll (xs.map (·.1))<=B ->
       ∃ ls:List (List Cell),ls.length=fl.length/\qcf (fun b=>b<w.heap.size) w ls.flatten cs'/\(∀ (i:Nat) f x,fl[i]? = some f->ls[i]? = some x->ShT P B n f.type x)/\wtL ls.flatten<=Rows.uptoBulkAll (xs.map (·.1)):=by
      intro fl
      induction fl with
      |nil=>intro o xs cs' _ _ hl _ _ _;refine⟨[],rfl,⟨by simpa using hl.symm,by simp⟩,by simp,by simp[wtL]⟩
      |cons f fl ih=>
       intro o xs cs' hf hr hl hj hm hb;simp only[rowT,aD,beq_iff_eq]at hr;obtain⟨ho,hr⟩:=hr;rw[List.mapM_cons]at hm;simp only[Option.bind_eq_bind,Option.bind_eq_some_iff]at hm;obtain⟨y,hy,ys,hys,hm⟩:=hm;simp only[Option.pure_def,aa]at hm;subst hm;simp only[List.map_cons,Rows.uptoBulkAll]at hb;obtain⟨dy,py⟩:=y;obtain⟨l0,r1,r2,r3,r4⟩:=YT (B:=B) hT hR n f.type _ dy py (hf f au) hy (by simp only at hb;omega);simp only[List.map_cons,List.sum_cons]at hl;obtain⟨ls,s1,s2,s3,s4⟩:=ih (o+P.cellsOf f.type) ys (cs'.drop (P.cellsOf f.type)) (fun f' h=>hf f' (aB _ h)) hr (by rw[List.length_drop];omega)
        (fun j=>by rw[List.getElem?_drop,hj,Nat.add_assoc]) hys (by simp only at hb;omega)
       have hcs:∀ j,j<P.cellsOf f.type->((cs.drop f.offset).take (P.cellsOf f.type))[j]? = cs'[j]?:=by intro j hj';rw[List.getElem?_take_of_lt hj',List.getElem?_drop,hj,ho]
       refine⟨l0::ls,by simp[s1],⟨?_,fun j c hc=>?_⟩,fun i f' x hf' hx=>?_,by rw[List.flatten_cons,qgD];simp only[List.map_cons,Rows.uptoBulkAll];omega⟩
       . rw[List.flatten_cons,List.length_append,s2.1,r1.1,r3,List.length_drop];omega
       . rw[List.flatten_cons]at hc;by_cases hjl:j<l0.length
         . rw[aZ hjl]at hc;obtain⟨u,hu',hrel⟩:=r1.2 j c hc;exact⟨u,by rw[<- hcs j (by rw[<- r3,<- r1.1];exact hjl)];exact hu',hrel⟩
         . rw[bg (by omega)]at hc;obtain⟨u,hu',hrel⟩:=s2.2 _ c hc;refine⟨u,?_,hrel⟩;rw[List.getElem?_drop]at hu';rw[<- hu'];congr 1;have:=r1.1;omega
       . cases i with
         |zero=>simp only[aJ,aa]at hf' hx;subst hf';subst hx;exact r2
         |succ i=>exact s3 i f' x (by simpa using hf') (by simpa using hx)
     obtain⟨ls,s1,s2,s3,s4⟩:=key fs.toList 0 xs cs (fun f hf=>by have:=(List.all_eq_true.1 h1) f hf;simpa using this) h2.1 (by rw[hlen,h2.2]) (fun j=>by rw[Nat.zero_add]) hxs (by omega);refine⟨ls.flatten,s2,?_,hlen,by simp only[Rows.uptoBulk];omega⟩;simp only[ShT,hu];exact⟨ls,rfl,by simpa using s1,fun i f x hf hx=>s3 i f x (by simpa using hf) hx⟩
    . cases e'
   |_=>simp at h1
end
section
variable [Glob]
open Go.ChangeShapes Go.WideShapes Go.ChangeAt Go.RowKit
def ShFs (P:Program)(B n:Nat):List TypeId->List Cell->Prop
 |[],l=>l=[]
 |t::ts,l=>∃ x rest,l=x++rest/\ShT P B n t x/\ShFs P B n ts rest
def qfd (P:Program)(t:TypeId):Option (List TypeId):=match P.underlying t with
 |some (.struct fs)=>some (fs.toList.map (·.type))
 |_=>none
theorem ShT.fields {P B n t l ts}(h:ShT P B n t l)(hu:qfd P t=some ts):∃ m,ShFs P B m ts l:=by
 cases n with
 |zero=>exact h.elim
 |succ n=>
  unfold qfd at hu;simp only[ShT]at h;split at hu
  .
   rename_i fs he;rw[he]at h;simp only[aa]at hu;subst hu;obtain⟨ls,rfl,hl,hs⟩:=h;refine⟨n,?_⟩;have key:∀ (fl:List Field) (ls:List (List Cell)),ls.length=fl.length->(∀ (i:Nat) f x,fl[i]? = some f->ls[i]? = some x->ShT P B n f.type x)->ShFs P B n (fl.map (·.type)) ls.flatten:=by
    intro fl
    induction fl with
    |nil=>intro ls hl _;have:ls=[]:=List.length_eq_zero_iff.1 hl;rw[this];rfl
    |cons f fl ih=>
     intro ls hl hs;cases ls with
     |nil=>simp at hl
     |cons x ls=>exact⟨x,ls.flatten,by simp,hs 0 f x rfl rfl,ih ls (by simpa using hl) (fun i f' x' h1 h2=>hs (i+1) f' x' (by simpa using h1) (by simpa using h2))⟩
   exact key fs.toList ls (by simpa using hl) (fun i f x h1 h2=>hs i f x (by simpa using h1) h2)
  . cases hu
theorem ShT.int {P B n t l k}(h:ShT P B n t l)(hu:P.underlying t=some (.int k)):∃ x,l=[.val (.int k x)]/\k.min<=x/\x<=k.max:=by
 cases n with
 |zero=>exact h.elim
 |succ n=>simpa only[ShT,hu]using h
theorem ShT.bool {P B n t l}(h:ShT P B n t l)(hu:P.underlying t=some .bool):∃ b,l=[.val (.bool b)]:=by
 cases n with
 |zero=>exact h.elim
 |succ n=>simpa only[ShT,hu]using h
theorem ShT.string {P B n t l}(h:ShT P B n t l)(hu:P.underlying t=some .string):∃ s:ByteArray,l=[.val (.string s)]/\s.size<=B:=by
 cases n with
 |zero=>exact h.elim
 |succ n=>simpa only[ShT,hu]using h
theorem ShT.slice {P B n t e l}(h:ShT P B n t l)(hu:P.underlying t=some (.slice e)):∃ m rows,l=[.imm rows]/\rows.length<=B/\∀ row∈rows,ShT P B m e row:=by
 cases n with
 |zero=>exact h.elim
 |succ n=>simp only[ShT,hu]at h;obtain⟨rows,h1,h2,h3⟩:=h;exact⟨n,rows,h1,h2,h3⟩
theorem qx0 {α:Type}{f}:∀ {rows:List (List Cell)},(∀ row∈rows,∃ x,row=f x)->∃ L:List α,rows=L.map f
 |[],_=>⟨[],rfl⟩
 |row::rows,h=>by obtain⟨x,hx⟩:=h row au;obtain⟨L,hL⟩:=qx0 fun r hr=>h r (aB _ hr);exact⟨x::L,by rw[hx,hL];rfl⟩
def qbG (P:Program)(t:TypeId)(l:List Cell):AV:=match P.underlying t with
 |some (.struct _)=>.ag l
 |_=>match l with
  |[c]=>.c c
  |l=>.ag l
def vJ (P:Program):List TypeId->List (List Cell)->List AV
 |t::ts,l::ls=>qbG P t l::vJ P ts ls
 |_,_=>[]
def qiH (P:Program)(B:Nat):List TypeId->List (List Cell)->Prop
 |[],[]=>True
 |t::ts,l::ls=>(∃ n,ShT P B n t l)/\qiH P B ts ls
 |_,_=>False
def G0of (w:World):Gh:=⟨fun _=>none,fun b=>b<w.heap.size,fun _=>False⟩
theorem qhq {P w B n t v l T}(hT:qdf P T=true)(ht:t∈T){base}(hval:Value.okWide P w .any base t v)(h:qcf (fun b=>b<w.heap.size) w l v.cells.toList)(hs:ShT P B n t l)(k):YY (G0of w) w k (qbG P t l) v:=by
 have h1:=(List.all_eq_true.1 hT) t ht;have cell:∀ c u p,RelI (fun b=>b<w.heap.size) w c u->(∀ z rs,c≠.own z rs)->(∀ es,c≠.mp es)->c=.dead\/Sh (G0of w) w p c u:=by
  intro c u p hr _ _;cases hr with
  |val v h=>exact .inr ⟨rfl,h⟩
  |nil=>exact .inr rfl
  |immE a cap=>exact .inr (.immE a cap)
  |imm rows b off cap sz vs T fr us hb hi hcap hsz hv hr=>exact .inr (.imm rows b off cap sz vs T fr us hb hi hcap hsz hv hr)
  |dead v h=>exact .inl rfl
 have notOwn:∀ c u,RelI (fun b=>b<w.heap.size) w c u->(∀ z rs,c≠.own z rs)/\(∀ es,c≠.mp es):=by intro c u hr;cases hr<;>exact⟨by intros;simp,by intros;simp⟩
 have single:oneC v=true->(∃ c,l=[c])->qbG P t l=(match l with|[c]=>.c c|l=>.ag l)->YY (G0of w) w k (qbG P t l) v:=by
  intro hv hl he;obtain⟨c,rfl⟩:=hl;rw[he];have hcv:v.cells.toList=[v]:=by cases v<;>first|rfl|cases hv
  refine⟨trivial,fun r o c' hc=>?_⟩;obtain⟨rfl,rfl,rfl⟩:=one_cell hc;obtain⟨u,hu,hr⟩:=h.2 0 c' rfl;rw[hcv]at hu;simp only[aJ,aa]at hu;subst hu;exact⟨_,rfl,cell _ _ _ hr (notOwn _ _ hr).1 (notOwn _ _ hr).2⟩
 unfold Value.okWide at hval;cases hu:P.underlying t with
 |none=>rw[hu]at h1;cases h1
 |some ud=>
  rw[hu]at h1 hval;cases n with
  |zero=>exact hs.elim
  |succ n=>
   simp only[ShT,hu]at hs;cases ud with
   |bool=>obtain⟨b,rfl⟩:=hs;refine single ?_ ⟨_,rfl⟩ (by simp[qbG,hu]);cases v<;>first|rfl|(simp[Cell.okWide,Cell.ok,hu]at hval)
   |int k=>obtain⟨x,rfl,_⟩:=hs;refine single ?_ ⟨_,rfl⟩ (by simp[qbG,hu]);cases v<;>first|rfl|(simp[Cell.okWide,Cell.ok,hu]at hval)
   |string=>obtain⟨x,rfl,_⟩:=hs;refine single ?_ ⟨_,rfl⟩ (by simp[qbG,hu]);cases v<;>first|rfl|(simp[Cell.okWide,Cell.ok,hu]at hval)
   |slice e=>obtain⟨x,rfl,_⟩:=hs;refine single ?_ ⟨_,rfl⟩ (by simp[qbG,hu]);cases v<;>first|rfl|(simp[Cell.okWide,Cell.ok,hu]at hval)
   |struct fs=>
    obtain⟨cs,rfl,_,_⟩:=hval;have he:qbG P t l=.ag l:=by simp[qbG,hu]
    rw[he];have hlen:l.length=cs.size:=by have:=h.1;simpa [Value.cells]using this
    refine⟨⟨cs,rfl,by rw[hlen]⟩,fun r o c hc=>?_⟩;obtain⟨row,h3,h4⟩:=qc.1 hc;cases r with
    |succ r=>simp[AV.ag]at h3
    |zero=>simp only[AV.ag,aJ,aa]at h3;subst h3;obtain⟨u,hu',hr⟩:=h.2 o c h4;refine⟨u,?_,cell _ _ _ hr (notOwn _ _ hr).1 (notOwn _ _ hr).2⟩;simpa [qX,AV.ag,Value.cells]using hu'
   |_=>simp at h1
theorem qiD {H enc P w base T B}(hT:qdf P T=true)(hR:rowsT P T=true):
  ∀ (ts:List TypeId) (vs:List Value) (ds:List (DataW H)) (ps:List MemPlace),(∀ t∈ts,t∈T)->(∀ (j:Nat) t v,ts[j]? = some t->vs[j]? = some v->Value.okWide P w .any base t v) ->
   DataW.TrodAll enc P w 0 (fun _=>true) true ts vs ds ps->Rows.uptoBulkAll ds<=B ->
   ∃ ls,qiH P B ts ls/\wtRs ls<=Rows.uptoBulkAll ds/\(vJ P ts ls).length=vs.length/\∀ (k:Nat) a,(vJ P ts ls)[k]? = some a->∃ V,vs[k]? = some V/\∀ key,YY (G0of w) w key a V
 |[],vs,ds,ps,_,_,h,_=>by obtain⟨rfl,rfl,rfl⟩:=trodAll_nil h;exact⟨[],trivial,by simp[wtRs],rfl,by simp[vJ]⟩
 |t::ts,vs,ds,ps,ht,hv,h,hb=>by
  obtain⟨v,vs',d,ds',p,q,rfl,rfl,rfl,⟨fuel,h0⟩,hr⟩:=trodAll_cons h;simp only[Rows.uptoBulkAll]at hb;obtain⟨ls,k1,k4,k2,k3⟩:=qiD (B:=B) hT hR ts vs' ds' q (fun t' h'=>ht t' (aB _ h')) (fun j t' v' e1 e2=>hv (j+1) t' v' (by simpa using e1) (by simpa using e2)) hr (by omega);obtain⟨l,r1,r2,_,r4⟩:=YT (B:=B) hT hR fuel t _ d p (ht t au) h0 (by omega);refine⟨l::ls,⟨⟨fuel,r2⟩,k1⟩,by simp only[wtRs,Rows.uptoBulkAll];omega,by simp[vJ,k2],fun k a e=>?_⟩;cases k with
  |zero=>simp only[vJ,aJ,aa]at e;subst e;exact⟨v,rfl,qhq hT (ht t au) (hv 0 t v rfl rfl) r1 r2⟩
  |succ k=>simp only[vJ,List.getElem?_cons_succ]at e;obtain⟨V,hV,hr⟩:=k3 k a e;exact⟨V,by simpa using hV,hr⟩
theorem qiU {G w}(hG:∀ k,G.γ k=none){F:Fr}{ts:Array Value}(hb:F.boxes=[])(hs:∀ (k:Nat) v,F.slots[k]? = some v->∃ V,ts[k]? = some V/\∀ key,YY G w key v V){k rows}(e:F.rowsAt k=some rows)(hi:k.inHeap):qU G w k rows:=by
 obtain⟨r,π⟩:=k;cases r with
 |slot j=>
  cases π with
  |nil=>rcases hi with hi|hi<;>simp[Root.boxed]at hi
  |cons x π=>
   obtain⟨a,b⟩:=x;simp only[Fr.rowsAt,Fr.rows]at e;cases hj:F.slots[j]? with
   |none=>simp[hj]at e
   |some v=>
    simp only[hj,av,ae,getR]at e;cases hc:cellAt v.rows a b with
    |none=>simp[hc]at e
    |some c=>
     simp only[hc]at e;obtain⟨V,_,hr⟩:=hs j v hj;obtain⟨u,_,hsh⟩:=(hr ⟨.slot j,[]⟩).2 a b c hc;cases c with
     |own z rs=>
      rcases hsh with h|h
      . cases h
      . rcases h with⟨_,hx,_⟩|⟨x,hx,_⟩
        . subst hx;cases π with
          |nil=>simp only[getR,aa]at e;subst e;exact .inl (.inl ⟨hG _,rfl,by simp⟩)
          |cons y π=>obtain⟨y1,y2⟩:=y;simp[getR,cellAt]at e
        rw[hG]at hx;cases hx
     |_=>simp at e
 |par i=>simp[Fr.rowsAt,Fr.rows,hb]at e
 |loc i=>simp[Fr.rowsAt,Fr.rows,hb]at e
 |res=>simp[Fr.rowsAt,Fr.rows,hb]at e
theorem qhu {H enc P f}{fn:Func}{w base T B args}{ds:List (DataW H)}{ps hand}(hT:qdf P T=true)(hR:rowsT P T=true)(hts:∀ t∈fn.params.toList,t∈T)(hval:∀ (j:Nat) t v,fn.params[j]? = some t->args[j]? = some v->Value.okWide P w .any base t v)(h:DataW.TrodAll enc P w 0 (fun _=>true) true fn.params.toList args.toList ds ps)(hb:Rows.uptoBulkAll ds<=B)(hglob:∀ b,b<Glob.n->b<w.heap.size/\w.heap[b]? = Glob.H b)(hev:∀ ls,qiH P B fn.params.toList ls->wtRs ls<=B->Ev P hand f (vJ P fn.params.toList ls) [] (.ret (.c (bc true))) []):
  Calls P f args w fun e w'=>e=.returned (.bool true)/\(w.keptBut w' (fun _=>False)/\(∀ a,a.block<w.heap.size->w'.frozen? a=w.frozen? a)/\w.heap.size<=w'.heap.size)/\∀ b,b<w.heap.size->w'.heap[b]? = w.heap[b]?:=by
 obtain⟨ls,k1,k4,k2,k3⟩:=qiD (enc:=enc) (B:=B) hT hR fn.params.toList args.toList ds ps hts (fun j t v e1 e2=>hval j t v (by simpa using e1) (by simpa using e2)) h hb;have hs:∀ (k:Nat) v,(⟨vJ P fn.params.toList ls,[]⟩:Fr).slots[k]? = some v->∃ V,args[k]? = some V/\∀ key,YY (G0of w) w key v V:=by intro k v e;obtain⟨V,hV,hr⟩:=k3 k v e;exact⟨V,by simpa using hV,hr⟩
 have hrel:RelF (G0of w) w ⟨vJ P fn.params.toList ls,qd 0 []⟩ args:=by
  refine⟨⟨fun k k' h h' e=>(by cases e),fun k h e=>(by cases e),fun b hb=>hb,hglob⟩,(by simpa using k2),fun k v e=>?_,fun r l e=>(by cases e),fun d hd=>hd.elim,fun k rows e hi=>?_⟩
  . obtain⟨V,hV,hr⟩:=hs k v e;exact⟨V,hV,hr _⟩
  . exact(qiU (G:=G0of w) (w:=w) (fun _=>rfl) rfl hs e hi)
 refine((hev ls k1 (Nat.le_trans k4 hb)).2 (G0of w) w args hrel).mono fun e w' hw=>?_;obtain⟨G',hg,V,rfl,hr⟩:=hw;obtain⟨V',hV,hav⟩:=hr.slots 0 _ rfl;obtain⟨u,hu,hsh⟩:=hav.2 0 0 (bc true) rfl;have hVV:V'=V:=by simpa using hV.symm
 subst hVV;have hu':u=V':=by simpa [qX,AV.c]using hu.symm
 subst hu';have hval:u=.bool true:=by
  rcases hsh with h|h
  . cases h
  . exact h.1
 have keep:∀ b,b<w.heap.size->w'.heap[b]? = w.heap[b]?:=fun b hb=>hg.keep b hb;refine⟨by rw[hval],⟨⟨hg.out.1,hg.out.2,fun i hi=>?_⟩,fun a ha=>by unfold World.frozen?;rw[keep _ ha],hg.size⟩,keep⟩;rw[keep i hi];cases hh:w.heap[i]? with
 |none=>rfl
 |some o=>cases o<;>simp
theorem qkX {w w':World}(h:∀ b,b<w.heap.size->w'.heap[b]? = w.heap[b]?){p}(hp:p.block<w.heap.size):w.sameAt w' p:=by
 cases p with
 |cell b o=>simp only[World.sameAt,World.cell?];first|rw[h b hp]|(simp[h b hp])
 |map b=>simp only[World.sameAt];first|rw[h b hp]|exact h b hp
theorem qfi {H enc P w w'}(hl:laidOutB P=true)(h:∀ b,b<w.heap.size->w'.heap[b]? = w.heap[b]?){sp}:
  ∀ (ts:List TypeId) (vs:List Value) (ds:List (DataW H)) (ps:List MemPlace),(ts.all fun t=>P.readableRec t&&decide (t<P.types.size))=true->(∀ p∈ps,p.block<w.heap.size/\sp p.block=true) ->
   DataW.TrodAll enc P w 0 (fun _=>true) true ts vs ds ps->DataW.TrodAll enc P w' 0 sp true ts vs ds ps
 |[],vs,ds,ps,_,_,hd=>by obtain⟨rfl,rfl,rfl⟩:=trodAll_nil hd;exact hd
 |t::ts,vs,ds,ps,hr,hp,hd=>by
  obtain⟨v,vs',d,ds',p,q,rfl,rfl,rfl,h0,hrest⟩:=trodAll_cons hd;simp only[List.all_cons,aD,aY]at hr;exact⟨p,q,WideElems.Trod_stays hl hr.1.1 hr.1.2 h0 (fun x hx=>qkX h (hp x (aM _ hx)).1) (fun x hx=>(hp x (aM _ hx)).2),
   qfi hl h ts vs' ds' q hr.2 (fun x hx=>hp x (aT _ hx)) hrest,rfl⟩
theorem post_of_same' {H enc P f}{s:ChangeSpec}{apart fresh handsOn again W W' args v ds gs before pa pv}(hW:DataW.Whole enc P f.params.toList s.vars apart W args.toList ds gs before)(hres:∀ (b:Nat) (sp:Nat->Bool) (hd:Bool),DataW.TrodAll enc P W' b sp hd f.resultTypes.toList (v.resultList f.resultTypes.size) (s.fn H (ds++gs)).results [])(hargs:∀ sp:Nat->Bool,(∀ p∈before,sp p.block=true)->DataW.TrodAll enc P W' 0 sp true f.params.toList args.toList (s.fn H (ds++gs)).args pa)(hvars:∀ sp:Nat->Bool,(∀ p∈before,sp p.block=true)->DataW.TrodVars enc P W' sp s.vars (s.fn H (ds++gs)).vars pv)(hps:before=pa++pv)(hk:W.keptBut W' (·∈before))(hfz:∀ a:Addr,a.block<W.heap.size->W'.frozen? a=W.frozen? a)(hok:∀ (j:Nat) (t:TypeId) (r:Value),f.resultTypes[j]? = some t->(v.resultList f.resultTypes.size)[j]? = some r->Value.okWide P W' .any 0 t r):
  s.post enc P f apart fresh handsOn again W args v W':=by
 have hold:∀ p∈before,(fun b=>decide (b<W.heap.size)) p.block=true:=fun p hp=>by simpa using hW.lt p hp
 have hlt:∀ p∈before,p.block<W.heap.size:=fun p hp=>by simpa using hW.lt p hp
 refine⟨ds,gs,before,[],pa,pv,hW,hres _ _ _,hargs _ hold,hvars _ hold,World.keptBut_mono (fun p hp=>⟨hp,?_⟩) hk,fun _=>?_⟩
 . rw[hps,List.mem_append]at hp;exact Or.inr hp
 .
  obtain⟨_,_,_,_,_,hz,hn⟩:=hW;refine⟨hok,_,_,([]++pa)++pv,⟨[]++pa,pv,ChangeShapes.trodAll_append (hargs _ (fun _ _=>rfl)) (hres _ _ _),hvars _ (fun _ _=>rfl),rfl,?_,?_⟩,?_⟩
  . intro b off hp;have hb:MemPlace.cell b off∈before:=by rw[hps];simpa using hp
    rw[hfz _ (hlt _ hb)];exact hz b off hb
  . intro ha;have:=hn ha;rw[hps]at this;simpa using this
  . intro p hp _;rw[hps];simpa using hp
theorem qjt {H enc P f fn}{s:ChangeSpec}{w base T B args}{ds gs:List (DataW H)}{before hand}(hT:qdf P T=true)(hR:rowsT P T=true)(hts:(fn.params.toList.all T.contains)=true)(hl:laidOutB P=true)(hrd:(fn.params.toList.all fun t=>P.readableRec t&&decide (t<P.types.size))=true)(hvars:s.vars=[])(hspec:∀ ds:List (DataW H),ds.length=fn.params.size->s.fn H ds={ results:=[.lit (.bool true)],args:=ds })(hres:∃ t,fn.resultTypes = #[t]/\P.underlying t=some .bool)(hval:∀ (j:Nat) t v,fn.params[j]? = some t->args[j]? = some v->Value.okWide P w .any base t v)(hW:DataW.Whole enc P fn.params.toList s.vars false w args.toList ds gs before)(hk:Rows.uptoBulkAll (ds++gs)<=B)(hglob:∀ b,b<Glob.n->b<w.heap.size/\w.heap[b]? = Glob.H b)(hev:∀ ls,qiH P B fn.params.toList ls->wtRs ls<=B->Ev P hand f (vJ P fn.params.toList ls) [] (.ret (.c (bc true))) []):
  Calls P f args w fun e w'=>∃ v,e=.returned v/\s.post enc P fn false true false false w args v w':=by
 have hW':=hW;obtain⟨p,q,hA,hV,rfl,hfz,hnd⟩:=hW;rw[hvars]at hV;obtain⟨rfl,rfl⟩:=trodVars_none hV;rw[List.append_nil]at hk hW';have hlen:ds.length=fn.params.size:=by
  have:∀ (ts:List TypeId) (vs:List Value) (ds:List (DataW H)) ps,DataW.TrodAll enc P w 0 (fun _=>true) true ts vs ds ps->ds.length=ts.length:=by
   intro ts
   induction ts with
   |nil=>intro vs ds ps h;obtain⟨_,rfl,_⟩:=trodAll_nil h;rfl
   |cons t ts ih=>intro vs ds ps h;obtain⟨v,vs',d,ds',p,q,rfl,rfl,rfl,_,hr⟩:=trodAll_cons h;simp[ih _ _ _ hr]
  have:=this _ _ _ _ hA;simpa using this
 obtain⟨t,hrt,hub⟩:=hres;refine(qhu (enc:=enc) (B:=B) hT hR (fun t ht=>by have:=(List.all_eq_true.1 hts) t ht;simpa using this) hval hA hk hglob hev).mono fun e w' ⟨he,hg,hkeep⟩=>?_;have hold:∀ x∈p,x.block<w.heap.size:=fun x hx=>by have:=hW'.lt x hx;simpa using this
 refine⟨_,he,post_of_same' (pa:=p) (pv:=[]) (before:=p) (ds:=ds) (gs:=[]) (by simpa using hW') (fun b sp hd=>?_) (fun sp hsp=>?_) (fun sp hsp=>?_) (by simp) (World.keptBut_mono (fun _ h=>h.elim) hg.1) hg.2.1 (ok_one hrt rfl (okWide_bool_mk hub _))⟩
 . rw[List.append_nil,hspec ds hlen,hrt];exact trodAll_cons_mk (shut_bool hub _) trodAll_mk0
 . rw[List.append_nil,hspec ds hlen];exact qfi hl hkeep _ _ _ _ hrd (fun x hx=>⟨hold x hx,hsp x hx⟩) hA
 . rw[hvars,List.append_nil,hspec ds hlen];rfl
end
section
variable [Glob]
inductive CStop where
 |ret (F:Fr)
 |pan (v:Value) (F:Fr)
 |dfr (ops:List Oper) (K:List TItem) (F:Fr)
def defers (ops:List Oper):Bool:=ops.any fun o=>match o.op with
 |.defer _=>true
 |_=>false
def CStop.ends (D:Act->Prop)(cx:Cx)(Q:Gh->World->Exit->Act->World->Prop):CStop->Prop
 |.dfr ops K F=>∀ id ops',ops'.toList=ops->FinQ D cx Q (.code (.region id ops' false)::K) F
 |.ret F=>(DStop.ret F).ends D cx Q
 |.pan v F=>(DStop.pan v F).ends D cx Q
section
variable {P:Program} (hmix:P.follows .mixedOrders=true) {mv:Nat->List Nat} {rec:Oracle} (hok:qcG P rec)
include hmix hok
omit hmix hok in
end
end
end
end Ab
end Go.Proofs.YtjnefcbeemkkeaaGreat

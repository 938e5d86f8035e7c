/-
  The interpreter of the model's code over values, and its soundness: part 2 of 5. No claim stands here.
-/
import Derived.Test.YtjnefcbeemkkeaaGreatLibAq
set_option linter.all false
namespace Go.Proofs.YtjnefcbeemkkeaaGreat
namespace Ab
section
variable [Glob]
theorem qfH {G' w F F' ts p c}(st:qau F F' p c)(h':RelF G' w F' ts){k}(hu:Uses F' k):
  Uses F k\/k∈deps p c\/∃ rest,k=p.under rest:=by
 rcases hu with⟨hs,hi⟩|⟨x,c',hx,hk⟩
 .
  by_cases hn:∃ rest,k=p.under rest
  . exact .inr (.inr hn)
  . rcases st.other k (fun rest e=>hn ⟨rest,e⟩)with⟨_,h⟩|⟨a,b,ha,hb,hl⟩
    . rw[h]at hs;cases hs
    . exact .inl (.inl ⟨by rw[ha];rfl,hi⟩)
 .
  by_cases hxp:x=p
  . subst hxp;rw[st.new]at hx;cases hx;exact .inr (.inl hk)
  .
   by_cases hn:∃ rest,x.key=p.under rest
   . obtain⟨rest,hn⟩:=hn;have hpure:=h'.pure hx (by rw[hn];simp[Pl.under]);cases c'<;>simp[qw]at hpure<;>simp only[deps,List.not_mem_nil,aW]at hk;refine .inr (.inr ⟨rest++[(x.r,x.o)],?_⟩);rw[hk];simp only[Pl.toKey,hn,Pl.under,List.append_assoc,List.cons_append]
   .
    cases e:F'.rowsAt x.key with
    |none=>simp[Fr.get,e]at hx
    |some rows=>
     have hx':cellAt rows x.r x.o=some c':=by simpa [Fr.get,e]using hx
     rcases st.other x.key (fun rest e=>hn ⟨rest,e⟩)with⟨_,h⟩|⟨a,b,ha,hb,hl⟩
     . rw[h]at e;cases e
     .
      rw[hb]at e;cases e;have hne:(if x.key=p.key then some (p.r,p.o)else none)≠some (x.r,x.o):=by
       split
       . rename_i ek;simp only[ne_eq,aa,ai]
         rintro ⟨e1,e2⟩
         exact hxp (by cases x;cases p;simp_all)
       . simp
      obtain⟨c0,hc0,hsh⟩:=hl.cell _ _ _ hx' hne;refine .inl (.inr ⟨x,c0,by simp[Fr.get,ha,hc0],?_⟩);rcases hsh with rfl|⟨_,r1,r2,e1,e2,_⟩
      . exact hk
      . subst e1;subst e2;exact hk
theorem qfs {F q c}(h:F.get q=some c)(hi:q.key.inHeap):Uses F q.key:=by
 refine .inl ⟨?_,hi⟩;unfold Fr.get at h;cases hr:F.rowsAt q.key with
 |none=>simp[hr]at h
 |some rows=>rfl
theorem apart {F}{q:Pl}{k a b}(hq:Uses F q.key)(hi:q.key.inHeap)(hf:∀ π,¬ Uses F ((⟨⟨.slot k,[]⟩,a,b⟩:Pl).under π))(π π'):
  (⟨⟨.slot k,[]⟩,a,b⟩:Pl).under π≠q.under π':=by
 intro e;simp only[Pl.under,List.nil_append,Key.mk.injEq]at e;obtain⟨e1,e2⟩:=e;have hp:q.key.path≠[]:=by
  rcases hi with hi|hi
  . exact hi
  . rw[<- e1]at hi;simp[Root.boxed]at hi
 cases hqp:q.key.path with
 |nil=>exact hp hqp
 |cons y rest=>
  rw[hqp]at e2;simp only[List.cons_append,List.cons.injEq]at e2;obtain⟨e3,_⟩:=e2;apply hf rest;have:(⟨⟨.slot k,[]⟩,a,b⟩:Pl).under rest=q.key:=by cases hk:q.key;rw[hk]at e1 hqp;simp only at e1 hqp;simp[Pl.under,e1,hqp,e3]
  rw[this];exact hq
theorem qgj {G w F c v}(h:Hold G w F none c v){p k}(hk:k∈deps p c):k.path=[]:=by
 obtain⟨h1,h2,h3,h4,h5⟩:=h;cases c with
 |own zz rows=>exact absurd rfl (h1.1 _ rows)
 |mp es=>exact absurd rfl (h1.2 es)
 |ref q=>exact absurd rfl (h3 q)
 |ptr q=>simp only[deps,aW]at hk;rw[hk];exact h4 q rfl
 |clo f fs cs=>
  obtain⟨vs,us,_,e2,e3⟩:=h5 p;have go:∀ (l:List Cell) (vs:List Value),qY G l vs->k∈l.filterMap (fun c=>match c with|.ptr q=>some q.key|_=>none)->k.path=[]:=by
   intro l
   induction l with
   |nil=>intro vs _ hm;simp at hm
   |cons c l ih=>
    intro vs h hm;cases vs with
    |nil=>exact h.elim
    |cons v vs=>
     simp only[List.filterMap_cons]at hm;split at hm
     . exact ih vs h.2 hm
     . rename_i k0 hc;rcases List.mem_cons.1 hm with rfl|hm
       . cases c<;>simp at hc;subst hc;exact h.1.2.1
       . exact ih vs h.2 hm
  simp only[deps,List.filterMap_append,List.mem_append]at hk;rcases hk with hk|hk
  . exact go _ _ e2 hk
  . exact go _ _ e3 hk
 |_=>simp[deps]at hk
theorem lay1 {G w F F' ts}(h:RelF G w F ts){q}(hi:q.key.inHeap)(hd:F.get q=some .dead){u}(hu:Val G w F ts q u){x c}(hh:Hold G w F x c u)(hp:q.key.path≠[]->qw c=true)(hfree:qy c=true->∀ π,¬ Uses F (q.under π))(st:qau F F' q c):
  ∃ G',RelF G' w F' ts/\Gain G w G' w/\G'.γ q.key=G.γ q.key/\∀ x' c' u',Hold G w F x' c' u'->(∀ s,x'=some s->x≠some s)->Hold G' w F' x' c' u':=by
 have hq:=qfs hd hi;have uniq:∀ u',Val G w F ts q u'->u'=u:=fun u' h'=>h'.unique hu;cases x with
 |none=>
  have r:=h.set st hp (fun u' h'=>.inr (by rw[uniq u' h'];exact hh.2.2.2.2 q)) (Tree.flat fun rows e=>hh.1.1 rows e) (by intro _;rw[hd];simp);refine⟨G,r,Gain.refl G w,rfl,fun x' c' u' h' _=>?_⟩;cases x' with
  |none=>exact h'
  |some s=>
   obtain⟨⟨k,a,b,rfl⟩,g2,g3,g4,g5⟩:=h';refine⟨⟨k,a,b,rfl⟩,g2,g3,g4,fun π hus=>?_⟩;rcases qfH st r hus with hus|hus|⟨rest,hus⟩
   . exact g5 π hus
   . have:=qgj hh hus;simp[Pl.under]at this
   . exact apart hq hi g5 π rest hus
 |some s=>
  obtain⟨⟨k,a,b,rfl⟩,g2,g3,g4,g5⟩:=hh
  let s:Pl:=⟨⟨.slot k,[]⟩,a,b⟩
  let Y:Nat->Nat->Option (Option Pl):=fun r o=>if r=q.r/\o=q.o then some (some s)else none
  have hY:∀ r o z,Y r o=some (some z)->r=q.r/\o=q.o/\z=s:=by
   intro r o z e;simp only[Y]at e;split at e
   . rename_i hc;exact⟨hc.1,hc.2,by simpa using e.symm⟩
   . cases e
  have hYq:Y q.r q.o=some (some s):=by simp[Y]
  have hinj:Inj Y:=by intro r o r' o' z z' π π' e1 e2 e;obtain⟨rfl,rfl,rfl⟩:=hY _ _ _ e1;obtain⟨rfl,rfl,rfl⟩:=hY _ _ _ e2;refine⟨rfl,rfl,?_⟩;simpa [Pl.under]using e
  have hown:qy c=true:=by
   cases ho:qy c with
   |true=>rfl
   |false=>exact absurd (qvc.2 ho) g2
  have r1:RelF (G.mv q.key Y) w F ts:=h.mv q.key hinj
   (fun r o π e=>by
    have:r=q.r/\o=q.o:=by
     by_cases hc:r=q.r/\o=q.o
     . exact hc
     . simp[Y,hc]at e
    obtain⟨rfl,rfl⟩:=this;exact hfree hown π)
   (fun r o z π e=>by obtain⟨_,_,rfl⟩:=hY _ _ _ e;exact g5 π)
  have γq:(G.mv q.key Y).γ q.key=G.γ q.key:=by
   refine YR (fun r o π e=>?_) (fun r o z π e e'=>?_)
   . have:=congrArg (fun k=>k.path.length) e;simp[Pl.under]at this
   . obtain⟨_,_,rfl⟩:=hY _ _ _ e;exact absurd hq (by rw[e'];exact g5 π)
  have sh:Sh (G.mv q.key Y) w q c u:=by have:=g3.mv hYq g2 (K:=q.key);exact this
  have tr:Tree (G.mv q.key Y) w q c:=g4.mv hYq (K:=q.key);have hu':∀ u',Val (G.mv q.key Y) w F ts q u'->u'=u:=by
   intro u' h';refine uniq u' ?_;rcases h' with⟨hi',y,vs,T,e1,e2,e3⟩|h'
   . exact .inl ⟨hi',y,vs,T,by rw[<- γq];exact e1,e2,e3⟩
   . exact .inr h'
  have r2:=r1.set st hp (fun u' h'=>.inr (by rw[hu' u' h'];exact sh)) tr (by intro _;rw[hd];simp);refine⟨_,r2,Gain.mv _ _,γq,fun x' c' u' h' hne=>?_⟩;cases x' with
  |none=>exact⟨h'.1,h'.2.1,h'.2.2.1,h'.2.2.2.1,fun p=>h'.still _ _ p⟩
  |some s'=>
   obtain⟨⟨k',a',b',rfl⟩,f2,f3,f4,f5⟩:=h';have hss:(⟨⟨.slot k',[]⟩,a',b'⟩:Pl)≠s:=fun e=>hne _ rfl (by rw[e]);have γs:∀ π,(G.mv q.key Y).γ ((⟨⟨.slot k',[]⟩,a',b'⟩:Pl).under π)=G.γ ((⟨⟨.slot k',[]⟩,a',b'⟩:Pl).under π):=by
    intro π;refine YR (fun r o π' e=>?_) (fun r o z π' e e'=>?_)
    . have:q=⟨q.key,q.r,q.o⟩:=rfl;by_cases hc:r=q.r/\o=q.o
      . obtain⟨rfl,rfl⟩:=hc;exact absurd e (apart hq hi f5 π π')
      . simp[Y,hc]
    . obtain⟨_,_,rfl⟩:=hY _ _ _ e;apply hss;simp only[Pl.under,List.nil_append,Key.mk.injEq,Root.slot.injEq,List.cons.injEq,ai,s]at e';obtain⟨rfl,⟨rfl,rfl⟩,_⟩:=e';rfl
   refine⟨⟨k',a',b',rfl⟩,f2,?_,?_,fun π hus=>?_⟩
   . cases c' with
     |own zz rows=>unfold Sh;rw[<- Pl.under_nil,γs []];exact f3
     |mp es=>obtain⟨y,ents,clock,e1,e2⟩:=f3;exact⟨y,ents,clock,by rw[<- Pl.under_nil,γs []];exact e1,e2⟩
     |_=>exact absurd (by constructor<;>intros<;>simp) f2
   . intro rest rows e;rcases(f4 rest rows e).arr (by simp[Pl.under])with⟨g1,g2,g3⟩|⟨y,vs,T,e1,e2,e3,e4,e5,e6,e7,e8,e9⟩
     . exact .inl (.inl ⟨by rw[γs];exact g1,g2,g3⟩)
     refine .inr ⟨y,vs,T,by rw[γs];exact e1,e2,e3,e4,e5,e6,e7,e8,fun r o c0 hc0=>?_⟩;obtain⟨u0,hu0,hs0⟩:=e9 r o c0 hc0;refine⟨u0,hu0,Sh.ghost (G:=G) (G':=G.mv q.key Y) rfl (fun r h=>by cases r<;>exact h) rfl (fun kk hk=>?_) hs0⟩;have hpure:=(e8 (by simp[Pl.under])).2 r o c0 hc0;cases c0<;>simp[qw]at hpure<;>simp only[deps,List.not_mem_nil,aW]at hk;rw[hk];have:(⟨(⟨⟨.slot k',[]⟩,a',b'⟩:Pl).under rest,r,o⟩:Pl).toKey=(⟨⟨.slot k',[]⟩,a',b'⟩:Pl).under (rest++[(r,o)]):=by simp[Pl.toKey,Pl.under]
     rw[this,γs]
   .
    rcases qfH st r2 hus with hus|hus|⟨rest,hus⟩
    . exact f5 π hus
    .
     have e:(⟨⟨.slot k',[]⟩,a',b'⟩:Pl).under π=q.under []:=by
      rw[Pl.under_nil];cases c with
      |own zz rows=>simpa [deps]using hus
      |mp es=>simpa [deps]using hus
      |_=>exact absurd (by constructor<;>intros<;>simp) g2
     exact apart hq hi f5 π [] e
    . exact apart hq hi f5 π rest hus
theorem Hold.write {G w w' F q y}(inv:GInv G w)(hq:Uses F q)(hy:G.γ q=some y)(hc:∃ vs T fr,w.heap[y.b]? = some (.cells vs T fr))(him:¬ G.im y.b)(hw:∀ b,b≠y.b->w'.heap[b]? = w.heap[b]?){x c v}(h:Hold G w F x c v):Hold G w' F x c v:=by
 have sm:qjb G w w':=by refine⟨fun b hb=>hw b fun (e:b=y.b)=>him (by rw[<- e];exact hb),fun k z es cl hk hm=>hw _ fun e=>?_⟩;obtain⟨vs,T,fr,hc⟩:=hc;rw[e,hc]at hm;cases hm
 cases x with
 |none=>exact⟨h.1,h.2.1,h.2.2.1,h.2.2.2.1,fun p=>(h.2.2.2.2 p).same sm⟩
 |some s=>
  obtain⟨g1,g2,g3,g4,g5⟩:=h;refine⟨g1,g2,g3.same sm,fun rest rows e=>?_,g5⟩;rcases(g4 rest rows e).arr (by simp[Pl.under])with hn|⟨z,vs,T,e1,e2,e3,e4,e5,e6,e7,e8,e9⟩
  . exact .inl (.inl hn)
  refine .inr ⟨z,vs,T,e1,e2,e3,?_,e5,e6,e7,e8,fun r o c hc=>let ⟨u,hu,hs⟩:=e9 r o c hc;⟨u,hu,hs.same sm⟩⟩;rw[hw z.b fun e=>?_]
  . exact e4
  . have:=inv.inj _ _ _ _ e1 hy e;exact g5 rest (this▸hq)
theorem zb (b i n):(⟨b,i,none⟩:Addr).add n=⟨b,i+n,none⟩:=by
 unfold Addr.add;split
 . rename_i h;simp[h]
 . rfl
theorem qbI {P w b i vs T u0 u}(h:w.heap[b]? = some (.cells vs T (0,0)))(hi:vs[i]? = some u0)(hu:oneC u=true):
  (store ⟨b,i,none⟩ u).run P w=.ok () (w.setCell ⟨b,i,none⟩ u):=by
 have hc:w.cell? ⟨b,i,none⟩=some u0:=by unfold World.cell?;simp[h,hi]
 have hf:w.frozen? ⟨b,i,none⟩=false:=by unfold World.frozen?;simp[h]
 cases u<;>first
  |(simp[oneC]at hu;done)
  |(simp only[store,Sem.run,hc,hf];rfl)
theorem Gain.write {G w k y}(hy:G.γ k=some y)(him:¬ G.im y.b){vs T fr}(hb:w.heap[y.b]? = some (.cells vs T fr))(i)(u):
  Gain G w G (w.setCell ⟨y.b,i,none⟩ u):=by
 have hp:=heap_setCell hb u (i:=i);refine⟨by rw[size_setCell];exact Nat.le_refl _,fun _ h=>h,fun b h=>?_,fun b _ hn=>⟨?_,fun h=>h⟩,fun k' x e=>.inl ⟨k',x,e,rfl⟩,fun _=>rfl,Out.setCell _ _ _,fun _ h=>⟨h,rfl⟩⟩
 . rw[hp,aG fun (e:b=y.b)=>him (by rw[<- e];exact h)]
 . rw[hp,aG fun e=>hn _ _ hy e.symm]
theorem set1 {P G w F F' ts}(h:RelF G w F ts){q}(hi:q.key.inHeap){y}(hy:G.γ q.key=some y)(hym:y.isMap=false){x c u}(hh:Hold G w F x c u)(hp:q.key.path≠[]->qw c=true)(hs:(if qy c then F.kill q else F).set q c=some F'):
  ∃ G',(store ⟨y.b,q.r*y.sz+q.o,none⟩ u).run P w=.ok () (w.setCell ⟨y.b,q.r*y.sz+q.o,none⟩ u)/\RelF G' (w.setCell ⟨y.b,q.r*y.sz+q.o,none⟩ u) F' ts /\
   Gain G w G' (w.setCell ⟨y.b,q.r*y.sz+q.o,none⟩ u)/\G'.γ q.key=some y /\
   ∀ x' c' u',Hold G w F x' c' u'->(∀ s,x'=some s->x≠some s)->Hold G' (w.setCell ⟨y.b,q.r*y.sz+q.o,none⟩ u) F' x' c' u':=by
 obtain⟨F1,hF1⟩:∃ F1,F1=(if qy c then F.kill q else F):=⟨_,rfl⟩
 rw[<- hF1]at hs;have hw1:Weak F F1:=by
  rw[hF1];split
  . exact Weak.mapC (qM q) F
  . exact⟨rfl,fun k v e=>.inr ⟨v,e,rfl,rfl,fun r o c e=>⟨c,e,.inl rfl⟩,fun _ _ _ e=>e⟩,fun r l e=>⟨l,e,rfl,fun r o c e=>⟨c,e,.inl rfl⟩,fun _ _ _ e=>e⟩⟩
 have h1:RelF G w F1 ts:=by
  rw[hF1];split
  . exact h.mapC (qM q)
  . exact h
 obtain⟨c0,hc0⟩:=(Fr.setTo hs).old;obtain⟨F2,hF2⟩:=Fr.set_of_get hc0 .dead;have st2:=Fr.setTo hF2;have h2:=h1.empty st2 (h1.no_mpb hy hym hi);have uses2:∀ k,Uses F2 k->Uses F k:=fun k hu=>hw1.uses (st2.uses rfl (fun _=>rfl) hu);have shr:Shr G F G F2:=⟨rfl,rfl,fun _ h=>h,fun _ h=>.inl h,uses2⟩
 have hcont:∃ vs T u0,w.heap[y.b]? = some (.cells vs T (0,0))/\vs[q.r*y.sz+q.o]? = some u0/\¬ G.im y.b:=by
  have hd:=st2.new;unfold Fr.get at hd;cases hr:F2.rowsAt q.key with
  |none=>simp[hr]at hd
  |some rows=>simp only[hr,ae]at hd;obtain⟨z,vs,T,e1,e2,e3,e4,e5,e6,e7,e8,e9⟩:=(h2.cont _ _ hr hi).of_hd hy hym;rw[hy]at e1;cases e1;obtain⟨u0,hu0,_⟩:=e9 _ _ _ hd;exact⟨vs,T,u0,e4,hu0,e3⟩
 obtain⟨vs,T,u0,hb,hu0,him⟩:=hcont;have hone:=hh.one;have h3:=h2.write st2.new hi hy hone;have hp':=heap_setCell hb u (i:=q.r*y.sz+q.o);have hq2:=qfs st2.new hi;have keepw:∀ x' c' u',Hold G w F x' c' u'->Hold G (w.setCell ⟨y.b,q.r*y.sz+q.o,none⟩ u) F2 x' c' u':=fun x' c' u' hx=>(hx.shr shr h.inv).write h.inv hq2 hy ⟨vs,T,(0,0),hb⟩ him (fun b hb=>by rw[hp',aG hb]);have hval:Val G (w.setCell ⟨y.b,q.r*y.sz+q.o,none⟩ u) F2 ts q u:=by
  refine .inl ⟨hi,y,_,T,hy,by rw[hp',aF rfl],?_⟩;have hlt:q.r*y.sz+q.o<vs.size:=by
   rcases Nat.lt_or_ge (q.r*y.sz+q.o) vs.size with h|h
   . exact h
   . simp[Array.getElem?_eq_none h]at hu0
  simp[hlt]
 have st3:=st2.comb (Fr.setTo hs);have hfree:qy c=true->∀ π,¬ Uses F2 (q.under π):=?_
 . obtain⟨G',r,g,γq,hold⟩:=lay1 h3 hi st2.new hval (keepw _ _ _ hh) hp hfree st3;refine⟨G',qbI hb hu0 hone,r,(Gain.write hy him hb _ u).trans g,by rw[γq];exact hy,fun x' c' u' hx hne=>hold x' c' u' (keepw _ _ _ hx) hne⟩
 .
  intro ho π hu
  -- behind the place lies nothing: it was emptied,and killed before
  have hrows:∀ π,F2.rowsAt (q.under π)=none:=fun π=>by rw[st2.under];rfl
  rcases hu with⟨hr,_⟩|⟨z,cz,hz,hk⟩
  . rw[hrows]at hr;cases hr
  .
   by_cases hzp:z.key.path=[]
   .
    -- a cell that stands by itself: it was turned by the kill
    have hz1:cz=.dead\/∃ c1,F1.get z=some c1/\Shp c1 cz:=by
     by_cases hzq:z=q
     . rw[hzq,st2.new]at hz;exact .inl (aS hz).symm
     .
      unfold Fr.get at hz;cases e:F2.rowsAt z.key with
      |none=>simp[e]at hz
      |some rows=>
       simp only[e,ae]at hz;rcases st2.other z.key (fun rest e=>by have:=congrArg Key.path e;rw[hzp]at this;simp[Pl.under]at this)with⟨_,hn⟩|⟨a,b,ha,hb',hl⟩
       . rw[hn]at e;cases e
       . rw[hb']at e;cases e;have hne:(if z.key=q.key then some (q.r,q.o)else none)≠some (z.r,z.o):=by
          split
          . rename_i ek;simp only[ne_eq,aa,ai]
            rintro ⟨e1,e2⟩
            exact hzq (by cases z;cases q;simp_all)
          . simp
         obtain⟨c1,hc1,hsh⟩:=hl.cell _ _ _ hz hne;exact .inr ⟨c1,by simp[Fr.get,ha,hc1],hsh⟩
    rcases hz1 with rfl|⟨c1,hc1,hsh⟩
    . simp[deps]at hk
    .
     rw[hF1,aF ho,Fr.kill,qaH F _ hzp]at hc1;cases hzc:F.get z with
     |none=>simp[hzc]at hc1
     |some cz0=>
      simp only[hzc,av,aa]at hc1;have ownCase:¬ Seen cz->q.under π=z.toKey->False:=by
       intro hns e;cases π with
       |nil=>rw[Pl.under_nil]at e;have:=Xu e;subst this;rw[st2.new]at hz;cases hz;exact hns (by constructor<;>intros<;>simp)
       |cons y' π=>have:=congrArg (fun k=>k.path.length) e;simp[Pl.under,Pl.toKey,hzp]at this;omega
      cases cz with
      |own zz rows=>simp only[deps,aW]at hk;exact ownCase (fun h=>h.1 _ rows rfl) hk
      |mp es=>simp only[deps,aW]at hk;exact ownCase (fun h=>h.2 es rfl) hk
      |ref p=>
       have:c1=.ref p:=by
        rcases hsh with h|⟨_,_,_,_,h,_⟩
        . exact h
        . cases h
       rw[this]at hc1;have hcz:cz0=.ref p:=by
        cases cz0<;>simp only[vI]at hc1<;>try (split at hc1)<;>first|exact hc1|(cases hc1)
        all_goals first|rfl|cases hc1
       subst hcz;simp only[vI]at hc1;split at hc1
       . cases hc1
       . rename_i hn;simp only[deps,aW]at hk;exact hn (qaC.2 ⟨π,hk.symm⟩)
      |ptr p=>
       have:c1=.ptr p:=by
        rcases hsh with h|⟨_,_,_,_,h,_⟩
        . exact h
        . cases h
       rw[this]at hc1;have hcz:cz0=.ptr p:=by
        cases cz0<;>simp only[vI]at hc1<;>try (split at hc1)<;>first|exact hc1|(cases hc1)
        all_goals first|rfl|cases hc1
       subst hcz;simp only[vI]at hc1;split at hc1
       . cases hc1
       . rename_i hn;simp only[deps,aW]at hk;exact hn (qaC.2 ⟨π,hk.symm⟩)
      |clo f fs cs=>have:=h2.clo_path hz hk;simp[Pl.under]at this
      |_=>simp[deps]at hk
   . have hpure:=h2.pure hz hzp;cases cz<;>simp[qw]at hpure<;>simp only[deps,List.not_mem_nil,aW]at hk;rename_i zz rs;have hr:F2.rowsAt z.toKey=none:=by rw[<- hk];exact hrows π
     have:F2.rowsAt z.toKey=subR (.own zz rs) []:=by rw[<- Pl.under_nil];exact qoN hz []
     rw[hr]at this;simp[subR,getR]at this
theorem qgp {P ts p}(hi:p.key.inHeap){y}(hym:y.isMap=false):∀ (l:List Cell) (us:List Value) (xs:List (Option Pl)) (j:Nat) (G:Gh) (w:World) (F F':Fr),
  RelF G w F ts->G.γ p.key=some y->qva G w F xs l us->Dis xs->(p.key.path≠[]->l.all qw=true)->F.setL p j l=some F' ->
  ∃ G' w',(storeCells ⟨y.b,p.r*y.sz+p.o,none⟩ us j).run P w=.ok () w'/\RelF G' w' F' ts/\Gain G w G' w':=by
 intro l
 induction l with
 |nil=>
  intro us xs j G w F F' h hy hh _ _ e;simp only[Fr.setL,aa]at e;subst e;cases us with
  |nil=>exact⟨G,w,rfl,h,Gain.refl G w⟩
  |cons u us=>cases xs<;>exact hh.elim
 |cons c l ih=>
  intro us xs j G w F F' h hy hh hd hp e;cases xs with
  |nil=>exact hh.elim
  |cons x xs=>
   cases us with
   |nil=>exact hh.elim
   |cons u us=>
    simp only[Fr.setL]at e;cases hs:(if qy c=true then F.kill { p with o:=p.o+j }else F).set { p with o:=p.o+j } c with
    |none=>simp[hs]at e
    |some F1=>
     simp only[hs]at e;have hp1:p.key.path≠[]->qw c=true/\l.all qw=true:=fun hh=>by simpa using hp hh
     obtain⟨G1,run,r1,g1,γ1,hold⟩:=set1 (P:=P) h (q:={ p with o:=p.o+j }) hi hy hym hh.1 (fun hh=>(hp1 hh).1) hs;have hhl:qva G1 (w.setCell ⟨y.b,p.r*y.sz+(p.o+j),none⟩ u) F1 xs l us:=by
      have hx:∀ (i:Nat) (z:Option Pl),xs[i]? = some z->∀ s,z=some s->x≠some s:=by intro i z hz s hs' hx;have:=hd 0 (i+1) s (by simp[hx]) (by simp[hz,hs']);omega
      have go:∀ (xs:List (Option Pl)) (l:List Cell) (us:List Value),(∀ (i:Nat) z,xs[i]? = some z->∀ s,z=some s->x≠some s)->qva G w F xs l us ->
        qva G1 (w.setCell ⟨y.b,p.r*y.sz+(p.o+j),none⟩ u) F1 xs l us:=by
       intro xs
       induction xs with
       |nil=>intro l us _ h;cases l<;>cases us<;>first|exact h|exact h.elim
       |cons z xs ih=>
        intro l us hz h;cases l with
        |nil=>exact h.elim
        |cons c l=>
         cases us with
         |nil=>exact h.elim
         |cons u us=>exact⟨hold _ _ _ h.1 (hz 0 z rfl),ih l us (fun i z' hz'=>hz (i+1) z' hz') h.2⟩
      exact go xs l us hx hh.2
     have hd1:Dis xs:=fun i k s h1 h2=>by have:=hd (i+1) (k+1) s (by simpa using h1) (by simpa using h2);omega
     obtain⟨G2,w2,run2,r2,g2⟩:=ih us xs (j+1) G1 _ F1 F' r1 γ1 hhl hd1 (fun hh=>(hp1 hh).2) e;refine⟨G2,w2,?_,r2,g1.trans g2⟩;have hadd:(⟨y.b,p.r*y.sz+p.o,none⟩:Addr).add j=⟨y.b,p.r*y.sz+(p.o+j),none⟩:=by rw[zb,Nat.add_assoc]
     simp only[storeCells,hadd,aL];rw[run];exact run2
end
section
variable [Glob]
theorem qcD {α P s}{a:α}(h:qo P s=some a)(w):s.run P w=.ok a w:=by
 induction s with
 |pure b=>simp only[qo,aa]at h;subst h;rfl
 |program k ih=>exact ih P h
 |mark m k ih=>exact ih h
 |_=>simp[qo]at h
theorem qK {P t n}(h:qQ P t=some n)(w):(sizeOf t).run P w=.ok n w:=by
 unfold qQ at h;cases hi:P.info? t with
 |none=>simp[hi]at h
 |some i=>simp only[hi,av,aa]at h;simp[sizeOf,typeInfo,hi,h]
theorem vK {P t g}(h:zW P t=some g)(w):(isAgg t).run P w=.ok g w:=by
 unfold zW at h;cases hu:P.underlying t with
 |none=>simp[hu]at h
 |some d=>cases d<;>simp only[hu,aa]at h<;>subst h<;>simp[isAgg,run_underlying hu]
theorem yc {G w v V V'}(h:RelV G w v V)(e:v.con=some V'):V=V':=by
 obtain⟨hs,hc⟩:=h;unfold AV.con at e;have cell:∀ c u u',conC c=some u'->(c=.dead\/(Seen c/\∀ p,Sh G w p c u))->u=u':=by
  intro c u u' e h;rcases h with rfl|⟨_,h⟩
  . simp[conC]at e
  . have:=h ⟨⟨.res,[]⟩,0,0⟩;cases c<;>simp only[conC,aa,reduceCtorEq]at e
    . subst e;exact this.1
    . subst e;exact this
 split at e
 . rename_i x ht hr;obtain⟨u,hu,hx⟩:=hc 0 0 x (by rw[hr];rfl);rw[ht]at hu;simp only[qX,aa]at hu;subst hu;exact cell _ _ _ e hx
 .
  rename_i l ht hr;rw[ht,hr]at hs;obtain⟨vs,rfl,hsz⟩:=hs;have hcells:∀ (o:Nat) c,l[o]? = some c->∃ u,vs[o]? = some u/\(c=.dead\/(Seen c/\∀ p,Sh G w p c u)):=by intro o c ho;obtain⟨u,hu,hx⟩:=hc 0 o c (by rw[hr];simp[cellAt,ho]);rw[ht]at hu;exact⟨u,by simpa [qX]using hu,hx⟩
  have go:∀ (l:List Cell) (us us':List Value),us.length=l.length->conL l=some us' ->
    (∀ (o:Nat) c,l[o]? = some c->∃ u,us[o]? = some u/\(c=.dead\/(Seen c/\∀ p,Sh G w p c u)))->us=us':=by
   intro l
   induction l with
   |nil=>intro us us' hl e _;simp only[conL,aa]at e;subst e;exact List.length_eq_zero_iff.1 hl
   |cons c l ih=>
    intro us us' hl e h;cases us with
    |nil=>simp at hl
    |cons u us=>
     simp only[conL]at e;cases hc:conC c with
     |none=>simp[hc]at e
     |some u1=>
      cases hl1:conL l with
      |none=>simp[hc,hl1]at e
      |some us1=>simp only[hc,hl1,aa]at e;subst e;obtain⟨u2,hu2,hx⟩:=h 0 c rfl;cases hu2;rw[cell _ _ _ hc hx,ih us us1 (by simpa using hl) hl1 fun o c ho=>h (o+1) c ho]
  simp only[aH]at e;obtain⟨us',e1,rfl⟩:=e;have:=go l vs.toList us' (by simpa using hsz) e1 (fun o c ho=>by simpa using hcells o c ho);rw[<- this]
 . cases e
theorem Zh {G w v V}(h:RelV G w v V){c}(e:v.cell=some c):c=.dead\/(Seen c/\∀ p,Sh G w p c V):=by
 unfold AV.cell at e;split at e
 . rename_i x ht hr;cases e;obtain⟨u,hu,hx⟩:=h.2 0 0 c (by rw[hr];rfl);rw[ht]at hu;simp only[qX,aa]at hu;subst hu;exact hx
 . cases e
theorem RelV.ag {G w l vs}(hl:vs.size=l.length)(h:∀ (o:Nat) c,l[o]? = some c->∃ u,vs[o]? = some u/\(c=.dead\/(Seen c/\∀ p,Sh G w p c u))):
  RelV G w (.ag l) (.agg vs):=by
 refine⟨⟨vs,rfl,by simpa using hl⟩,fun r o c hc=>?_⟩;obtain⟨rfl,ho⟩:=zI hc;obtain⟨u,hu,hx⟩:=h o c ho;exact⟨u,by simpa [qX,AV.ag]using hu,hx⟩
theorem qa6 {G w F ts}(h:RelF G w F ts){c V}(hc:∀ p,Sh G w p c V){n l}(e:F.loadL n c=some l):
  ∃ (a:Addr) (us:List Value),V=.pointer (some a)/\us.length=n/\l.length=n/\(∀ (j:Nat) u,us[j]? = some u->w.cell? (a.add j)=some u) /\
   ∀ (j:Nat) c,l[j]? = some c->∃ u,us[j]? = some u/\(c=.dead\/(Seen c/\∀ p,Sh G w p c u)):=by
 cases c<;>simp only[Fr.loadL,reduceCtorEq]at e
 .
  rename_i p;have hheap:p.key.heap=true:=by
   cases hh:p.key.heap with
   |true=>rfl
   |false=>simp[hh]at e
  rw[aG (by simp[hheap])]at e;obtain⟨hok,y,hy,hm,hv⟩:=hc ⟨⟨.res,[]⟩,0,0⟩;cases hr:F.rowsAt p.key with
  |none=>simp[hr]at e
  |some rows=>
   simp only[hr]at e;cases hrow:rows[p.r]? with
   |none=>simp[hrow]at e
   |some row=>
    simp only[hrow]at e;split at e
    .
     rename_i hle;simp only[aa]at e;subst e;have hi:=qcn.1 hheap
     .
      have hym:=h.no_map hy hm hr hrow hi;rw[Hd.adr_of hym]at hv;subst hv;obtain⟨z,vs,T,e1,e2,e3,e4,e5,e6,e7,e8,e9⟩:=(h.cont _ _ hr hi).of_hd hy hym;rw[hy]at e1;cases e1;have each:∀ j,j<n->∃ c u,row[p.o+j]? = some c/\vs[p.r*y.sz+p.o+j]? = some u/\Sh G w ⟨p.key,p.r,p.o+j⟩ c u:=by
       intro j hj;have hlt:p.o+j<row.length:=by omega
       have hcell:cellAt rows p.r (p.o+j)=some row[p.o+j]:=by simp[cellAt,hrow,hlt]
       obtain⟨u,hu,hs⟩:=e9 _ _ _ hcell;exact⟨_,u,by simp[hlt],by rw[Nat.add_assoc];exact hu,hs⟩
      refine⟨⟨y.b,p.r*y.sz+p.o,none⟩,(List.range n).map fun j=>vs[p.r*y.sz+p.o+j]?.getD .nilIface,rfl,by simp,by rw[YU];simp;omega,fun j u hu=>?_,fun j c hc=>?_⟩
      . simp only[aI]at hu;have hj:j<n:=by
         rcases Nat.lt_or_ge j n with h|h
         . exact h
         . rw[List.getElem?_eq_none (by simpa using h)]at hu;simp at hu
        obtain⟨c,u',_,hu',_⟩:=each j hj;simp only[List.getElem?_range hj,av,hu',Option.getD_some,aa]at hu;subst hu;rw[zb];unfold World.cell?;simp[e4,hu']
      . rw[Xi]at hc;have hj:j<n:=by
         rcases Nat.lt_or_ge j n with h|h
         . exact h
         . rw[List.getElem?_eq_none (by simp;omega)]at hc;simp at hc
        obtain⟨c0,u',hc0,hu',hs⟩:=each j hj;have hrowj:((row.drop p.o).take n)[j]? = some c0:=by rw[List.getElem?_take_of_lt hj,List.getElem?_drop];exact hc0
        rw[hrowj]at hc;simp only[av,aa]at hc;subst hc;exact⟨u',by simp[hj,hu'],.inr ⟨qcc _ _,fun q=>hs.view hok q⟩⟩
    . cases e
 .
  rename_i row o;obtain⟨b,base,vs,T,fr,hi,rfl,hb,hrow⟩:=hc ⟨⟨.res,[]⟩,0,0⟩;split at e
  .
   rename_i hle;simp only[aa]at e;subst e;have each:∀ j,j<n->∃ c u,row[o+j]? = some c/\vs[base+(o+j)]? = some u/\RelI G.im w c u:=by
    intro j hj;have hlt:o+j<row.length:=by omega
    obtain⟨u,hu,hs⟩:=hrow (o+j) row[o+j] (by simp[hlt]);exact⟨_,u,by simp[hlt],hu,hs⟩
   refine⟨⟨b,base+o,none⟩,(List.range n).map fun j=>vs[base+(o+j)]?.getD .nilIface,rfl,by simp,by simp;omega,fun j u hu=>?_,fun j c hc=>?_⟩
   .
    simp only[aI]at hu;have hj:j<n:=by
     rcases Nat.lt_or_ge j n with h|h
     . exact h
     . rw[List.getElem?_eq_none (by simpa using h)]at hu;simp at hu
    obtain⟨c,u',_,hu',_⟩:=each j hj;simp only[List.getElem?_range hj,av,hu',Option.getD_some,aa]at hu;subst hu;rw[zb,Nat.add_assoc];unfold World.cell?;simp[hb,hu']
   .
    have hj:j<n:=by
     rcases Nat.lt_or_ge j n with h|h
     . exact h
     . rw[List.getElem?_eq_none (by simp;omega)]at hc;simp at hc
    obtain⟨c0,u',hc0,hu',hs⟩:=each j hj;have hrowj:((row.drop o).take n)[j]? = some c0:=by rw[List.getElem?_take_of_lt hj,List.getElem?_drop];exact hc0
    rw[hrowj]at hc;cases hc;refine⟨u',by simp[hj,hu'],?_⟩;cases hs with
    |val v h=>exact .inr ⟨⟨by intros;simp,by intros;simp⟩,fun q=>⟨rfl,h⟩⟩
    |nil=>exact .inr ⟨⟨by intros;simp,by intros;simp⟩,fun q=>rfl⟩
    |immE a cap=>exact .inr ⟨⟨by intros;simp,by intros;simp⟩,fun q=>.immE a cap⟩
    |imm rows b' off cap sz vs' T' fr' us hb' hi' hcap hsz hv hr=>exact .inr ⟨⟨by intros;simp,by intros;simp⟩,fun q=>.imm rows b' off cap sz vs' T' fr' us hb' hi' hcap hsz hv hr⟩
    |dead v h=>exact .inl rfl
  . cases e
end
section
variable [Glob]
def Hangs (o:Oper):Prop:=∀ ρ ρ':Operand->Value,(∀ x∈o.op.operands.toList,ρ x=ρ' x)->execOp ρ o=execOp ρ' o
theorem qEz {cx G w F}{a:Act}{o v}(h:RelF G w F a.tmps)(ho:Hangs o)(e:yg cx F o=some v):
  ∃ V,(execOp a.eval o).run cx.P w=.ok (.value V) w/\RelV G w v V:=by
 unfold yg at e;split at e
 .
  rename_i hall;have hρ:∀ x∈o.op.operands.toList,((F.ev x).con).getD Go.undef=a.eval x:=by
   intro x hx;have:=(List.all_eq_true.1 hall) x hx;cases hc:(F.ev x).con with
   |none=>simp[hc]at this
   |some V=>rw[yc (qx h x) hc];rfl
  rw[ho _ a.eval hρ]at e;cases hp:qo cx.P (execOp a.eval o)with
  |none=>simp[hp]at e
  |some n=>cases n<;>simp only[hp,aa,reduceCtorEq]at e;subst e;exact⟨_,qcD hp w,xI G w _⟩
 . cases e
theorem qbq {d op t x y u ty pos after g}:
  Hangs ⟨d,.binOp op t x y u,ty,pos,after,g⟩:=by
 intro ρ ρ' h;simp only[Op.operands]at h;simp only[execOp,h x (by simp),h y (by simp)]
theorem qb8 {d op t x ty pos after g}:
  Hangs ⟨d,.unOp op t x,ty,pos,after,g⟩:=by
 intro ρ ρ' h;simp only[Op.operands]at h;simp only[execOp,h x (by simp)]
theorem XO {d s t x ty pos after g}:
  Hangs ⟨d,.convert s t x,ty,pos,after,g⟩:=by
 intro ρ ρ' h;simp only[Op.operands]at h;simp only[execOp,h x (by simp)]
theorem xH {d t x ty pos after g}:
  Hangs ⟨d,.makeInterface t x,ty,pos,after,g⟩:=by
 intro ρ ρ' h;simp only[Op.operands]at h;simp only[execOp,h x (by simp)]
theorem qaW {d t x i ty pos after g}:
  Hangs ⟨d,.index t x i,ty,pos,after,g⟩:=by
 intro ρ ρ' h;simp only[Op.operands]at h;simp only[execOp,h x (by simp),h i (by simp)]
theorem qoY {d b args ts ty pos after g}:
  Hangs ⟨d,.call ⟨.builtin b,args,ts⟩,ty,pos,after,g⟩:=by
 intro ρ ρ' h;simp only[Op.operands,Call.operands]at h;have:args.map ρ=args.map ρ':=by apply Array.ext';simp only[Array.toList_map];exact List.map_congr_left fun x hx=>h x (by simpa using hx)
 simp only[execOp,resolve,this]
theorem qeU {d t x lo hi ty pos after g}:
  Hangs ⟨d,.slice t x lo hi none,ty,pos,after,g⟩:=by
 intro ρ ρ' h;simp only[Op.operands]at h;have h1:lo.map ρ=lo.map ρ':=by cases lo<;>simp;exact h _ (by simp)
 have h2:hi.map ρ=hi.map ρ':=by cases hi<;>simp;exact h _ (by simp)
 simp only[execOp,h x (by simp),h1,h2,Option.map_none]
theorem xD {G w v V}(h:RelV G w v V){n}(e:asInt v=some n):∃ k,V=.int k n:=by
 unfold asInt at e;cases hc:v.con with
 |none=>simp[hc]at e
 |some V'=>cases V'<;>simp only[hc,aa,reduceCtorEq]at e;rename_i k m;subst e;exact⟨k,yc h hc⟩
theorem XV {G w c c' V n}(h:∀ p,Sh G w p c V)(e:ZE n c=some c'):
  ∃ a,V=.pointer (some a)/\Seen c'/\∀ p,Sh G w p c' (.pointer (some (a.add n))):=by
 cases c<;>simp only[ZE,aa,reduceCtorEq]at e
 .
  rename_i q;split at e
  . cases e
  rename_i hq;simp only[aa]at e;subst e;obtain⟨a,y,b,c,hv⟩:=h ⟨⟨.res,[]⟩,0,0⟩;have hm:y.isMap=false:=by
   cases hb:y.isMap with
   |false=>rfl
   |true=>exact absurd (c hb) hq
  rw[Hd.adr_of hm]at hv;subst hv;refine⟨_,rfl,⟨by intros;simp,by intros;simp⟩,fun p=>⟨a,y,b,c,?_⟩⟩;rw[Hd.adr_of hm,zb,Nat.add_assoc]
 . rename_i row o;subst e;obtain⟨b,base,vs,T,fr,e1,rfl,e3,e4⟩:=h ⟨⟨.res,[]⟩,0,0⟩;refine⟨_,rfl,⟨by intros;simp,by intros;simp⟩,fun p=>⟨b,base,vs,T,fr,e1,?_,e3,e4⟩⟩;rw[zb,Nat.add_assoc]
theorem qbJ {G w g l us v}(e:mkAV g l=some v)(hl:us.length=l.length)(h:∀ (j:Nat) c,l[j]? = some c->∃ u,us[j]? = some u/\(c=.dead\/(Seen c/\∀ p,Sh G w p c u))):
  (g=true/\RelV G w v (.agg us.toArray))\/(g=false/\∃ u,us=[u]/\RelV G w v u):=by
 unfold mkAV at e;cases g with
 |true=>simp only[if_true,aa]at e;subst e;exact .inl ⟨rfl,RelV.ag (by simpa using hl) fun o c ho=>by simpa using h o c ho⟩
 |false=>
  right;simp only[aU,if_false]at e;split at e
  . rename_i x;simp only[aa]at e;subst e
    match us,hl with
    |[u],_=>obtain⟨u',hu,hx⟩:=h 0 x rfl;cases hu;exact⟨rfl,u,rfl,RelV.c hx⟩
  . cases e
theorem qgs {G w F ts}(h:RelF G w F ts){c V}(hc:∀ p,Sh G w p c V){rows}(e:F.look c=some rows):
  ∃ a cap,V=.slice a rows.length cap:=by
 cases c<;>simp only[Fr.look,aa,reduceCtorEq]at e
 . subst e;exact⟨none,0,hc ⟨⟨.res,[]⟩,0,0⟩⟩
 .
  subst e;have:=hc ⟨⟨.res,[]⟩,0,0⟩;cases this with
  |immE a cap=>exact⟨a,cap,rfl⟩
  |imm rows b off cap sz vs T fr us _ _ _ _ _ _=>exact⟨_,cap,rfl⟩
 .
  rename_i p;cases hg:F.get p with
  |none=>simp[hg]at e
  |some c0=>
   cases c0<;>simp only[hg,aa,reduceCtorEq]at e;subst e;rcases(yD h hc hg (fun hn=>hn.1 _ _ rfl)).1 with⟨_,e2,rfl⟩|⟨x,e1,e2,rfl,e4⟩
   . subst e2;exact⟨none,0,rfl⟩
   exact⟨some ⟨x.b,0,none⟩,x.cap,by simp[Hd.val,e2,e4]⟩
theorem qgk {P G w t n g}(hn:qQ P t=some n)(hg:zW P t=some g){l:List Cell}{vs}(hl:vs.size=l.length)(h:∀ (o:Nat) c,l[o]? = some c->∃ u,vs[o]? = some u/\(c=.dead\/(Seen c/\∀ p,Sh G w p c u))){off}(hle:off+n<=l.length){v}(e:mkAV g ((l.drop off).take n)=some v):
  ∃ V,(part t vs off).run P w=.ok V w/\RelV G w v V:=by
 have hlen:((vs.toList.drop off).take n).length=((l.drop off).take n).length:=by simp[hl]
 have hcells:∀ (j:Nat) c,((l.drop off).take n)[j]? = some c->∃ u,((vs.toList.drop off).take n)[j]? = some u/\(c=.dead\/(Seen c/\∀ p,Sh G w p c u)):=by
  intro j c hj;rw[List.getElem?_take]at *;split at hj
  . rename_i hlt;rw[List.getElem?_drop]at *;obtain⟨u,hu,hx⟩:=h _ _ hj;exact⟨u,by rw[aF hlt];simpa using hu,hx⟩
  . cases hj
 have hrun:=vK hg w;rcases qbJ e hlen hcells with⟨rfl,hr⟩|⟨rfl,u,hu,hr⟩
 .
  refine⟨.agg (vs.extract off (off+n)),?_,?_⟩
  . simp only[part,aL,hrun,ay,if_true,qK hn,aV]
  . have:(vs.extract off (off+n))=((vs.toList.drop off).take n).toArray:=by apply Array.ext';simp[Array.toList_extract,List.extract_eq_take_drop]
    rw[this];exact hr
 .
  refine⟨u,?_,hr⟩;have h0:vs[off]? = some u:=by
   have:((vs.toList.drop off).take n)[0]? = some u:=by rw[hu];rfl
   rw[List.getElem?_take]at this;split at this
   . rw[List.getElem?_drop]at this;simpa using this
   . cases this
  simp only[part,aL,hrun,ay,aU,if_false,h0,aV]
end
section
variable [Glob]
theorem qgK {P t z}(h:qg0 P t=some z):∃ v,z=yR v/\∀ w,(zeroValue t).run P w=.ok v w:=by
 unfold qg0 at h;cases hi:P.info? t with
 |none=>simp[hi]at h
 |some i=>
  simp only[hi]at h;cases hz:i.zero with
  |none=>simp[hz]at h
  |some v=>simp only[hz,av,aa]at h;exact⟨v,h.symm,fun w=>by simp[zeroValue,typeInfo,hi,hz]⟩
theorem Zf {P f}(h:yM P f=true):zW P f.type=some false:=by
 unfold yM at h;unfold zW;simp only[aD]at h;cases hu:P.underlying f.type with
 |none=>simp[hu]at h
 |some d=>cases d<;>simp[hu]at h |-
theorem ZL {P t xs off x}(hg:zW P t=some false)(hx:xs[off]? = some x)(w):(part t xs off).run P w=.ok x w:=by simp only[part,aL,vK hg,ay,aU,if_false,hx,aV]
theorem zA {P t}(h:qL P t=true):P.underlying t=some (.struct (P.fieldsOf t))/\P.stoodInHeld t=false/\P.eqGuardType P.depth t=false /\
  ∀ f∈(P.fieldsOf t).toList,yM P f=true:=by
 unfold qL at h;unfold Program.fieldsOf;cases hu:P.underlying t with
 |none=>simp[hu]at h
 |some d=>cases d<;>simp only[hu,aU]at h;simp only[aD,Bool.not_eq_true',List.all_eq_true]at h;exact⟨rfl,h.1.1,h.1.2,fun f hf=>h.2 f hf⟩
theorem qeg {P xs ys}(d)(w):∀ (fs:List Field) (r:Bool),(∀ f∈fs,yM P f=true)->qaK P xs ys fs=some r ->
  (Op.eqFields (d+1) xs ys fs).run P w=.ok r w:=by
 intro fs
 induction fs with
 |nil=>intro r _ e;simp only[qaK,aa]at e;subst e;rfl
 |cons f fs ih=>
  intro r hf e;have h1:=hf f (by simp);have hne:f.name ≠ "_":=by unfold yM at h1;simp only[aD,bne_iff_ne]at h1;exact h1.1
  simp only[qaK]at e;cases hx:xs[f.offset]? with
  |none=>simp[hx]at e
  |some x=>
   cases hy:ys[f.offset]? with
   |none=>simp[hx,hy]at e
   |some y=>
    cases hr:qaK P xs ys fs with
    |none=>simp[hx,hy,hr]at e
    |some r'=>
     simp only[hx,hy,hr]at e;have ihr:=ih r' (fun g hg=>hf g (aB _ hg)) hr;have key:∃ b,(Op.equalIn (d+1) f.type x y).run P w=.ok b w/\r=(b&&r'):=by
      cases hu:P.underlying f.type with
      |none=>simp[hu]at e
      |some dd=>
       cases hs:sEq x y with
       |none=>cases dd<;>simp[hu,hs]at e
       |some b=>
        cases dd<;>simp only[hu,hs,reduceCtorEq]at e
        . -- bool
          cases x<;>simp only[reduceCtorEq,aa]at e;cases y<;>simp[sEq]at hs;exact⟨b,by rw[run_equalIn_bool' w d f.type _ _ hu,<- hs],e.symm⟩
        . -- int
          cases x<;>simp only[reduceCtorEq]at e;split at e
          . rename_i hk;simp only[aa]at e;cases y<;>simp[sEq]at hs;obtain⟨rfl,hs⟩:=hs;exact⟨b,by rw[run_equalIn_int w d f.type _ _ _ _ hu,<- hs],e.symm⟩
          . cases e
        . -- string
          cases x<;>simp only[reduceCtorEq,aa]at e;cases y<;>simp[sEq]at hs;exact⟨b,by rw[run_equalIn_string w d f.type _ _ hu,<- hs],e.symm⟩
     obtain⟨b,hb,rfl⟩:=key;simp only[Op.eqFields,hne,ne_eq,not_false_eq_true,if_true,aL,ZL (Zf h1) hx,ZL (Zf h1) hy,ay,hb,Sem.run_ite,aV];cases b with
     |true=>simpa using ihr
     |false=>simp
theorem yF {P t xs ys r}(hf:qL P t=true)(e:qaK P xs ys (P.fieldsOf t).toList=some r)(d)(w):
  (Op.equalIn (d+2) t (.agg xs) (.agg ys)).run P w=.ok r w:=by
 obtain⟨h1,h2,h3,h4⟩:=zA hf;rw[run_equalIn_struct w (d+1) t xs ys h1 h2];exact qeg d w _ r h4 e
theorem Qk {P t xs}(hf:qL P t=true)(hx:∀ f∈(P.fieldsOf t).toList,∃ x,xs[f.offset]? = some x)(b n)(w):
  (Instr.checkKey b (n+2) t (.agg xs)).run P w=.ok () w:=by
 obtain⟨h1,h2,h3,h4⟩:=zA hf;obtain⟨m,hm⟩:∃ m,m=n+1:=⟨_,rfl⟩
 rw[show n+2=m+1 by omega];simp only[Instr.checkKey,aL,run_underlying h1,ay];rw[<- Array.forIn_toList];generalize (P.fieldsOf t).toList=fs at *;clear h1
 induction fs with
 |nil=>simp
 |cons f fs ih=>
  have hff:=h4 f (by simp);obtain⟨x,hx1⟩:=hx f (by simp);have hne:f.name ≠ "_":=by unfold yM at hff;simp only[aD,bne_iff_ne]at hff;exact hff.1
  have hk:(Instr.checkKey b m f.type x).run P w=.ok () w:=by
   rw[hm];unfold yM at hff;simp only[aD]at hff;cases hu:P.underlying f.type with
   |none=>simp[hu]at hff
   |some d=>simp only[Instr.checkKey,aL,run_underlying hu,ay];cases d<;>simp[hu]at hff<;>rfl
  simp only[List.forIn_cons,hne,ne_eq,not_false_eq_true,if_true,aL,ZL (Zf hff) hx1,ay,hk,aV];exact ih (fun g hg=>hx g (aB _ hg)) (fun g hg=>h4 g (aB _ hg))
theorem run_checkKey_plain {P t d}(hu:P.underlying t=some d)(hd:(∃ k,d=.int k)\/d=.string)(k b n)(w):
  (Instr.checkKey b (n+1) t k).run P w=.ok () w:=by
 simp only[Instr.checkKey,aL,run_underlying hu,ay];rcases hd with⟨k,rfl⟩|rfl<;>rfl
def qdG (P:Program)(t:TypeId)(k:Value):Prop:=match P.underlying t,k with
 |some (.int _),.int _ _=>True
 |some .string,.string _=>True
 |some (.struct _),.agg xs=>qL P t=true/\∀ f∈(P.fieldsOf t).toList,∃ x,xs[f.offset]? = some x
 |_,_=>False
theorem run_checkKey {P t k}(h:qdG P t k)(b)(w):(Instr.checkKey b 10000 t k).run P w=.ok () w:=by
 unfold qdG at h;cases hu:P.underlying t with
 |none=>simp[hu]at h
 |some d=>
  rw[hu]at h;cases d<;>cases k<;>simp only at h
  . exact run_checkKey_plain hu (.inl ⟨_,rfl⟩) _ b 9999 w
  . exact run_checkKey_plain hu (.inr rfl) _ b 9999 w
  . exact Qk h.1 h.2 b 9998 w
def Found (im:Nat->Prop)(w:World)(es:List (Value×List Cell))(ents:List MapEntry)(r:Option (List Cell))(res:Option (Nat×Value))(i0:Nat):Prop:=(r=none/\res=none)\/∃ l i e k,r=some l/\res=some (i0+i,e.val)/\es[i]? = some (k,l)/\ents[i]? = some e/\ZQ im w l e.val
theorem qdW {P t d}(hu:P.underlying t=some d){x y b}(e:qbk P t x y=some b)(hs:∀ fs,d≠.struct fs):Instr.sameNow d x y=some b:=by unfold qbk at e;rw[hu]at e;cases d<;>cases x<;>cases y<;>simp_all[Instr.sameNow]
theorem Xo {P t d}(hu:P.underlying t=some d)(hs:∀ fs,d≠.struct fs){im w k}:
  ∀ (es:List (Value×List Cell)) (ents:List MapEntry) (r:Option (List Cell)) (i0:Nat),ZB im w es ents->yU P t k es=some r ->
   ∃ res,Instr.findNow d k ents i0=some res/\Found im w es ents r res i0
 |[],[],r,i0,_,e=>by simp only[yU,aa]at e;subst e;exact⟨none,rfl,.inl ⟨rfl,rfl⟩⟩
 |(k',l)::es,x::ents,r,i0,⟨h1,h2,h3⟩,e=>by
  simp only[yU]at e;cases hk:qbk P t k k' with
  |none=>simp[hk]at e
  |some b=>
   have hn:=qdW hu hk hs;cases b with
   |true=>simp only[hk,aa]at e;subst e;exact⟨some (i0,x.val),by simp[Instr.findNow,h1,hn],.inr ⟨l,0,x,k',rfl,rfl,rfl,rfl,h2⟩⟩
   |false=>
    simp only[hk]at e;obtain⟨res,e1,e2⟩:=Xo hu hs es ents r (i0+1) h3 e;refine⟨res,by simp[Instr.findNow,h1,hn,e1],?_⟩;rcases e2 with h|⟨l',i,y,k'',a1,a2,a3,a4,a5⟩
    . exact .inl h
    . exact .inr ⟨l',i+1,y,k'',a1,by rw[a2];congr 2;omega,by simpa using a3,by simpa using a4,a5⟩
 |[],_::_,_,_,h,_=>h.elim
 |_::_,[],_,_,h,_=>h.elim
theorem Zw {P t}(hf:qL P t=true){im w k}:
  ∀ (es:List (Value×List Cell)) (ents:List MapEntry) (r:Option (List Cell)) (i0:Nat),ZB im w es ents->yU P t k es=some r ->
   ∃ res,(Instr.findAsking t k ents i0).run P w=.ok res w/\Found im w es ents r res i0
 |[],[],r,i0,_,e=>by simp only[yU,aa]at e;subst e;exact⟨none,rfl,.inl ⟨rfl,rfl⟩⟩
 |(k',l)::es,x::ents,r,i0,⟨h1,h2,h3⟩,e=>by
  simp only[yU]at e;cases hk:qbk P t k k' with
  |none=>simp[hk]at e
  |some b=>
   have heq:(Op.equal t k x.key).run P w=.ok b w:=by rw[h1];unfold qbk at hk;have hu:=(zA hf).1;rw[hu]at hk;cases k<;>cases k'<;>simp only[reduceCtorEq]at hk;rw[aF hf]at hk;exact yF hf hk 9998 w
   cases b with
   |true=>simp only[hk,aa]at e;subst e;exact⟨some (i0,x.val),by simp[Instr.findAsking,heq],.inr ⟨l,0,x,k',rfl,rfl,rfl,rfl,h2⟩⟩
   |false=>
    simp only[hk]at e;obtain⟨res,e1,e2⟩:=Zw hf es ents r (i0+1) h3 e;refine⟨res,by simp[Instr.findAsking,heq,e1],?_⟩;rcases e2 with h|⟨l',i,y,k'',a1,a2,a3,a4,a5⟩
    . exact .inl h
    . exact .inr ⟨l',i+1,y,k'',a1,by rw[a2];congr 2;omega,by simpa using a3,by simpa using a4,a5⟩
 |[],_::_,_,_,h,_=>h.elim
 |_::_,[],_,_,h,_=>h.elim
theorem qcC {P t im w k}(hk:qdG P t k){es ents r}(h:ZB im w es ents)(e:yU P t k es=some r):∃ res,(Instr.findKey t k ents).run P w=.ok res w/\Found im w es ents r res 0:=by
 unfold qdG at hk;cases hu:P.underlying t with
 |none=>simp[hu]at hk
 |some d=>
  rw[hu]at hk;by_cases hs:∃ fs,d=.struct fs
  .
   obtain⟨fs,rfl⟩:=hs;cases k<;>simp only at hk;cases es with
   |nil=>
    cases ents with
    |nil=>simp only[yU,aa]at e;subst e;exact⟨none,by simp[Instr.findKey,run_underlying hu,Instr.findNow],.inl ⟨rfl,rfl⟩⟩
    |cons _ _=>exact h.elim
   |cons y es=>
    cases ents with
    |nil=>exact h.elim
    |cons x ents=>
     obtain⟨res,e1,e2⟩:=Zw hk.1 (y::es) (x::ents) r 0 h e;refine⟨res,?_,e2⟩;have:∀ a b,Instr.sameNow (.struct fs) a b=none:=by intro a b;rfl
     simp only[Instr.findKey,aL,run_underlying hu,ay,Instr.findNow,this];exact e1
  . obtain⟨res,e1,e2⟩:=Xo hu (fun fs e=>hs ⟨fs,e⟩) es ents r 0 h e;exact⟨res,by simp only[Instr.findKey,aL,run_underlying hu,ay,e1,aV],e2⟩
theorem qfr {P t k}(h:ZK P t k=true):qdG P t k:=by
 unfold ZK at h;unfold qdG;cases hu:P.underlying t with
 |none=>simp[hu]at h
 |some d=>
  rw[hu]at h;cases d<;>cases k<;>simp only[aU]at h |-;simp only[aD,List.all_eq_true]at h;have hf:=(zA h.1).1;rw[hu]at hf;have:(P.fieldsOf t)=_:=(by simpa using hf.symm)
  refine⟨h.1,fun f hf=>?_⟩;rw[this]at hf;have:=h.2 f hf;exact Option.isSome_iff_exists.1 this
end
section
variable [Glob]
theorem qcx {α β f}:∀ {l:List α} {r:List β},mapO f l=some r->r.length=l.length/\∀ (i:Nat) x,l[i]? = some x->∃ y,r[i]? = some y/\f x=some y
 |[],r,h=>by simp only[mapO,aa]at h;subst h;exact⟨rfl,by simp⟩
 |a::l,r,h=>by
  simp only[mapO]at h;split at h
  . rename_i y ys h1 h2;simp only[aa]at h;subst h;obtain⟨k1,k2⟩:=qcx h2;refine⟨by simp[k1],fun i x hx=>?_⟩;cases i with
    |zero=>simp only[aJ,aa]at hx;subst hx;exact⟨y,rfl,h1⟩
    |succ i=>exact k2 i x (by simpa using hx)
  . cases h
theorem qbZ {row n}(h:qi3 row=some n):row=[.val (.int .u8 n)]:=by
 unfold qi3 at h;split at h
 . simp only[aa]at h;subst h;rfl
 . cases h
theorem bytes_at {G w F ts}(h:RelF G w F ts){c V}(hc:∀ p,Sh G w p c V){rows}(e:F.look c=some rows){xs}(hx:mapO qi3 rows=some xs):
  ∃ a cap,V=.slice a rows.length cap/\(rows=[]\/∃ b off,a=some ⟨b,off,none⟩/\∀ (i:Nat) n,xs[i]? = some n->w.cell? ⟨b,off+i,none⟩=some (.int .u8 n)):=by
 obtain⟨hl,hg⟩:=qcx hx;have row1:∀ row∈rows,∃ n,row=[.val (.int .u8 n)]:=fun row hr=>by obtain⟨i,hi⟩:=List.getElem?_of_mem hr;obtain⟨n,_,hn⟩:=hg i row hi;exact⟨n,qbZ hn⟩
 have at_:∀ (i:Nat) n,xs[i]? = some n->rows[i]? = some [.val (.int .u8 n)]:=fun i n hn=>by
  have hi:i<rows.length:=by rw[<- hl];exact(az.1 hn).1
  have hr:rows[i]? = some (rows[i]):=ax hi;obtain⟨y,hy,hb⟩:=hg i _ hr;rw[hn]at hy;cases hy;rw[hr,qbZ hb]
 cases c<;>simp only[Fr.look,aa,reduceCtorEq]at e
 . subst e;exact⟨none,0,hc ⟨⟨.res,[]⟩,0,0⟩,.inl rfl⟩
 .
  rename_i r0;subst e;have:=hc ⟨⟨.res,[]⟩,0,0⟩;cases this with
  |immE a cap=>exact⟨a,cap,rfl,.inl rfl⟩
  |imm _ b off cap sz vs T fr us hb hi hcap hsz hv hr=>
   refine⟨_,cap,rfl,?_⟩;by_cases h0:r0=[]
   . exact .inl h0
   . refine .inr ⟨b,off,rfl,fun i n hn=>?_⟩;have hrow:=at_ i n hn;have h1:sz=1:=by rw[<- hsz _ (aN hrow)];rfl
     have hcell:cellAt r0 i 0=some (.val (.int .u8 n)):=by simp[cellAt,hrow]
     have h2:=hv i 0 _ hcell;have h3:=hr i 0 _ hcell;rw[h1,Nat.mul_one,Nat.add_zero]at h2;have h4:us i 0=.int .u8 n:=by generalize us i 0=z at h3;cases h3;rfl
     rw[h4]at h2;unfold World.cell?;simp[hb,h2]
 .
  rename_i p;cases hgt:F.get p with
  |none=>simp[hgt]at e
  |some c0=>
   cases c0<;>simp only[hgt,aa,reduceCtorEq]at e;subst e;rename_i zz rs;rcases(yD h hc hgt (fun hn=>hn.1 _ _ rfl)).1 with⟨_,e2,rfl⟩|⟨x,e1,e2,rfl,e4,e5⟩
   . subst e2;exact⟨none,0,rfl,.inl rfl⟩
   .
    refine⟨some ⟨x.b,0,none⟩,x.cap,by simp[Hd.val,e2,e4],?_⟩;by_cases h0:rs=[]
    . exact .inl h0
    . refine .inr ⟨x.b,0,rfl,fun i n hn=>?_⟩;have hra:F.rowsAt p.toKey=some rs:=by have:=qoN hgt [];rw[Pl.under_nil]at this;rw[this];rfl
      obtain⟨y,vs,T,q1,q2,q3,q4,q5,q6,q7,q8,q9⟩:=(h.cont _ _ hra (.inl (by simp[Pl.toKey]))).of_hd e1 e2;rw[e1]at q1;cases q1;have hrow:=at_ i n hn;have h1:x.sz=1:=by rw[<- q5 _ (aN hrow)];rfl
      have hcell:cellAt rs i 0=some (.val (.int .u8 n)):=by simp[cellAt,hrow]
      obtain⟨u,hu,hs⟩:=q9 i 0 _ hcell;rw[h1,Nat.mul_one,Nat.add_zero]at hu;have h4:u=.int .u8 n:=hs.1;rw[h4]at hu;unfold World.cell?;simp[q4,hu]
theorem qcF {cx G w F}{a:Act}{d s t x ty pos after g v}(h:RelF G w F a.tmps)(e:XU cx F ⟨d,.convert s t x,ty,pos,after,g⟩ s t x=some v):∃ V,(execOp a.eval ⟨d,.convert s t x,ty,pos,after,g⟩).run cx.P w=.ok (.value V) w/\RelV G w v V:=by
 unfold XU at e;split at e
 .
  rename_i el c hs ht hcell;split at e
  .
   rename_i rows he hl;simp only[aH]at e;obtain⟨xs,hx,rfl⟩:=e;have hd:c≠.dead:=by rintro rfl;simp[Fr.look]at hl
   have hsh:=((Zh (qx h x) hcell).resolve_left hd).2;obtain⟨ad,cap,hV,hor⟩:=bytes_at h hsh hl hx;obtain⟨hlen,_⟩:=qcx hx;refine⟨.string (qhy xs),?_,RelV.c (.inr ⟨⟨by intros;simp,by intros;simp⟩,fun p=>⟨rfl,rfl⟩⟩)⟩;have key:(convert s t (a.eval x)).run cx.P w=.ok (.string (qhy xs)) w:=by
    rw[hV];rcases hor with h0|⟨b,off,rfl,hc⟩
    . have hx0:xs=[]:=List.eq_nil_of_length_eq_zero (by rw[hlen,h0];rfl);subst hx0;cases ad with
      |none=>rw[run_convert_bytes_nil w s el hs he _ _ t ht];rfl
      |some ad=>rw[run_convert_bytes_string w s t el _ _ _ hs he ht,h0];rw[show([]:List (List Cell)).length=0 from rfl,run_bytesToString w ad 0 cap [] (by rfl)];rfl
    . exact run_convert_bytes_arg w s el hs he b off _ cap xs hlen (fun i hi=>by have hn:xs[i]? = some (xs[i]'(by omega)):=ax _;rw[hc i _ hn];simp[List.getD,hn]) t ht
   simp only[execOp,aL,key,ay,aV]
  . cases e
 . exact qEz h XO e
end
section
variable [Glob]
theorem qp {G w F}{a:Act}(h:RelF G w F a.tmps){x c}(e:(F.ev x).cell=some c)(hd:c≠.dead):Seen c/\∀ p,Sh G w p c (a.eval x):=(Zh (qx h x) e).resolve_left hd
theorem qlv {G w F ts}(h:RelF G w F ts){p zz rows V}(hs:∀ q,Sh G w q (.ref p) V)(hg:F.get p=some (.own zz rows)){n}(hn:n<rows.length):
  ∃ x cap,V=.slice (some x) rows.length cap/\∃ y,G.γ p.toKey=some y/\y.sz=zz/\x=⟨y.b,0,none⟩/\∀ q,Sh G w q (.ptr ⟨p.toKey,n,0⟩) (.pointer (some ⟨y.b,n*y.sz,none⟩)):=by
 rcases(yD h hs hg (fun hn=>hn.1 _ _ rfl)).1 with⟨_,e2,_⟩|⟨x,e1,e2,rfl,e4,e5⟩
 . subst e2;simp at hn
 have ok:=(hs ⟨⟨.res,[]⟩,0,0⟩).1;exact⟨⟨x.b,0,none⟩,x.cap,by simp[Hd.val,e2,e4],x,e1,e5,rfl,fun q=>⟨ok,x,e1,fun hb=>(by rw[e2]at hb;cases hb),by rw[Hd.adr_of e2];simp⟩⟩
theorem RelV.agg_inv {G w l V}(h:RelV G w ⟨.agg,[l]⟩ V):
  ∃ vs,V=.agg vs/\vs.size=l.length/\∀ (o:Nat) c,l[o]? = some c->∃ u,vs[o]? = some u/\(c=.dead\/(Seen c/\∀ p,Sh G w p c u)):=by
 obtain⟨⟨vs,rfl,hsz⟩,hc⟩:=h;refine⟨vs,rfl,hsz,fun o c ho=>?_⟩;obtain⟨u,hu,hx⟩:=hc 0 o c (by simp[cellAt,ho]);exact⟨u,by simpa [qX]using hu,hx⟩
theorem RelV.tup_inv {G w fl rows V}(h:RelV G w ⟨.tup fl,rows⟩ V){i:Nat}{g l}(hg:fl[i]? = some g)(hl:rows[i]? = some l):
  ∃ Vs U,V=.tuple Vs/\Vs[i]? = some U/\∀ v,mkAV g l=some v->RelV G w v U:=by
 obtain⟨⟨Vs,rfl,e1,e2,e3⟩,hc⟩:=h;obtain⟨U,hU,hsh⟩:=e3 i g l.length hg (by simp[hl]);refine⟨Vs,U,rfl,hU,fun v hv=>?_⟩;have cells:∀ (o:Nat) c,l[o]? = some c->∃ u,qX (.tup fl) (.tuple Vs) i o=some u/\(c=.dead\/(Seen c/\∀ p,Sh G w p c u)):=fun o c ho=>hc i o c (by simp[cellAt,hl,ho]);cases g with
 |true=>obtain⟨vs,rfl,hsz⟩:=hsh;simp only[mkAV,if_true,aa]at hv;subst hv;refine RelV.ag (by simpa using hsz) fun o c ho=>?_;obtain⟨u,hu,hx⟩:=cells o c ho;exact⟨u,by simpa [qX,hg,hU]using hu,hx⟩
 |false=>
  simp only[mkAV,aU,if_false]at hv;split at hv
  . rename_i x;simp only[aa]at hv;subst hv;obtain⟨u,hu,hx⟩:=cells 0 x rfl;simp only[qX,hg,hU,if_true,aa]at hu;subst hu;exact RelV.c hx
  . cases hv
theorem RelI.seen {im w G}(hG:G.im=im){c v}(h:RelI im w c v):c=.dead\/(Seen c/\∀ p,Sh G w p c v):=by
 subst hG;cases h with
 |val v h=>exact .inr ⟨⟨by intros;simp,by intros;simp⟩,fun q=>⟨rfl,h⟩⟩
 |nil=>exact .inr ⟨⟨by intros;simp,by intros;simp⟩,fun q=>rfl⟩
 |immE a cap=>exact .inr ⟨⟨by intros;simp,by intros;simp⟩,fun q=>.immE a cap⟩
 |imm rows b' off cap sz vs' T' fr' us hb' hi' hcap hsz hv hr=>exact .inr ⟨⟨by intros;simp,by intros;simp⟩,fun q=>.imm rows b' off cap sz vs' T' fr' us hb' hi' hcap hsz hv hr⟩
 |dead v h=>exact .inl rfl
theorem qaR {G w F ts}(h:RelF G w F ts){p V}(hs:∀ q,Sh G w q (.ref p) V){es}(hg:F.get p=some (.mp es)):
  ∃ y ents clock,G.γ p.toKey=some y/\V=.map (some y.b)/\w.heap[y.b]? = some (.map ents clock)/\ZB G.im w es ents.toList:=by
 obtain⟨⟨y,ents,clock,e1,e2,rfl,e4,e5,e6⟩,_⟩:=yD h hs hg (fun hn=>hn.2 _ rfl);exact⟨y,ents,clock,e1,by simp[Hd.val,e2],e5,e6⟩
theorem qxB {G w F ts}(h:RelF G w F ts){q:Pl}{es}(he:F.get ⟨q.key,0,0⟩=some (.mpb es)):q.key.inHeap:=by
 unfold Fr.get at he;cases hr:F.rowsAt q.key with
 |none=>simp[hr]at he
 |some rows=>
  simp only[hr,ae]at he;rcases h.rowsAt_cases hr with hi|⟨k,v,hk,hv,rfl⟩
  . exact hi
  . obtain⟨V,hV,hrel⟩:=h.slots k v hv;obtain⟨u,hu,hs⟩:=hrel.2 _ _ _ he;rcases hs with hs|hs
    . cases hs
    . exact hs.elim
theorem qAI {G w F ts}(h:RelF G w F ts){q V}(hs:∀ x,Sh G w x (.ptr q) V){es}(he:F.get ⟨q.key,0,0⟩=some (.mpb es)):
  ∃ y ents clock,G.γ q.key=some y/\y.isMap=true/\V=.map (some y.b)/\¬ G.im y.b/\w.heap[y.b]? = some (.map ents clock)/\ZB G.im w es ents.toList:=by
 obtain⟨_,y,hy,hm,hv⟩:=hs ⟨⟨.res,[]⟩,0,0⟩;have hi:q.key.inHeap:=qxB h he;unfold Fr.get at he;cases hr:F.rowsAt q.key with
 |none=>simp[hr]at he
 |some rows=>
  simp only[hr,ae]at he;rcases h.cont _ _ hr hi with(⟨n,_⟩|⟨z,es2,ents,clock,rfl,_,e2,e3,e4,e5,e6⟩)|⟨z,vs,T,e1,e2,e3,e4,e5,e6,e7,e8,e9⟩
  . rw[hy]at n;cases n
  . rw[hy]at e2;cases e2;obtain⟨_,_,hx⟩:=qww he;cases hx;exact⟨y,ents,clock,hy,e3,by rw[hv];simp[Hd.adr,Hd.val,e3],e4,e5,e6⟩
  . obtain⟨_,_,hx⟩:=e9 _ _ _ he;exact hx.elim
theorem qse {G w F ts}(h:RelF G w F ts){c V}(hs:∀ q,Sh G w q c V){p es}(hg:qwv F c=some (p,es)):
  ∃ y ents clock,(∃ k,G.γ k=some y)/\V=.map (some y.b)/\w.heap[y.b]? = some (.map ents clock)/\ZB G.im w es ents.toList:=by
 cases c<;>simp only[qwv,reduceCtorEq]at hg
 .
  rename_i q;split at hg
  . rename_i hq;split at hg
    . rename_i es' he;simp only[aa,ai]at hg;obtain⟨rfl,rfl⟩:=hg;obtain⟨y,ents,clock,h1,_,h3,_,h5⟩:=qAI h hs he;exact⟨y,ents,clock,⟨_,h1⟩,h3,h5⟩
    . cases hg
  . cases hg
 .
  rename_i q;split at hg
  . rename_i es' he;simp only[aa,ai]at hg;obtain⟨rfl,rfl⟩:=hg;obtain⟨y,ents,clock,h1,h2⟩:=qaR h hs he;exact⟨y,ents,clock,⟨_,h1⟩,h2⟩
  . cases hg
theorem ZB.len {im w}:∀ {es:List (Value×List Cell)} {ents:List MapEntry},ZB im w es ents->es.length=ents.length
 |[],[],_=>rfl
 |_::_,_::_,⟨_,_,h⟩=>by simp[h.len]
 |[],_::_,h=>h.elim
 |_::_,[],h=>h.elim
def qbb (G:Gh)(w:World)(g:Bool)(l:List Cell)(V:Value):Prop:=
 if g=true then ∃ vs,V=.agg vs/\vs.size=l.length/\∀ (o:Nat) c,l[o]? = some c->∃ u,vs[o]? = some u/\(c=.dead\/(Seen c/\∀ p,Sh G w p c u))
 else ∃ c,l=[c]/\(c=.dead\/(Seen c/\∀ p,Sh G w p c V))
theorem qbb.mk {G w g l V}(h:qbb G w g l V){v}(e:mkAV g l=some v):RelV G w v V:=by
 cases g with
 |true=>obtain⟨vs,rfl,hsz,hc⟩:=h;simp only[mkAV,if_true,aa]at e;subst e;exact RelV.ag hsz hc
 |false=>obtain⟨c,rfl,hc⟩:=h;simp only[mkAV,aU,if_false,aa]at e;subst e;exact RelV.c hc
theorem qbb.tup {G w g l V}(h:qbb G w g l V)(b):RelV G w ⟨.tup [g,false],[l,[.val (.bool b)]]⟩ (.tuple #[V,.bool b]):=by
 have hb:∀ p,Sh G w p (.val (.bool b)) (.bool b):=fun p=>⟨rfl,rfl⟩
 refine⟨⟨_,rfl,rfl,rfl,fun i g' n hg hn=>?_⟩,fun r o c hc=>?_⟩
 .
  match i with
  |0=>
   simp only[aJ,aa,List.map_cons]at hg hn;subst hg;subst hn;refine⟨V,rfl,?_⟩;cases g with
   |true=>obtain⟨vs,rfl,hsz,_⟩:=h;exact⟨vs,rfl,hsz⟩
   |false=>obtain⟨c,rfl,_⟩:=h;rfl
  |1=>simp at hg hn;subst hg;subst hn;exact⟨.bool b,rfl,by simp⟩
  |i+2=>simp at hg
 .
  obtain⟨row,h1,h2⟩:=qc.1 hc
  match r with
  |0=>
   simp at h1;subst h1;cases g with
   |true=>obtain⟨vs,rfl,hsz,hcell⟩:=h;obtain⟨u,hu,hx⟩:=hcell o c h2;exact⟨u,by simp[qX,hu],hx⟩
   |false=>
    obtain⟨c0,rfl,hx⟩:=h;cases o with
    |zero=>simp at h2;subst h2;exact⟨V,by simp[qX],hx⟩
    |succ o=>simp at h2
  |1=>
   simp at h1;subst h1;cases o with
   |zero=>simp at h2;subst h2;exact⟨.bool b,by simp[qX],.inr ⟨⟨by intros;simp,by intros;simp⟩,hb⟩⟩
   |succ o=>simp at h2
  |r+2=>simp at h1
theorem RelV.res {G w v V}(h:RelV G w v V){g}(ht:Qs v.tag g=true){l}(e:v.cells=some l):qbb G w g l V:=by
 obtain⟨hs,hc⟩:=h;unfold AV.cells at e;split at e
 . rename_i x htag hr;rw[htag]at ht;simp only[Qs,Bool.not_eq_true']at ht;subst ht;cases e;obtain⟨u,hu,hx⟩:=hc 0 0 x (by rw[hr];rfl);rw[htag]at hu;simp only[qX,aa]at hu;subst hu;exact⟨x,rfl,hx⟩
 . rename_i l' htag hr;rw[htag]at ht;simp only[Qs]at ht;subst ht;cases e;rw[htag,hr]at hs;obtain⟨vs,rfl,hsz⟩:=hs;refine⟨vs,rfl,hsz,fun o c ho=>?_⟩;obtain⟨u,hu,hx⟩:=hc 0 o c (by rw[hr];simp[cellAt,ho]);rw[htag]at hu;exact⟨u,by simpa [qX]using hu,hx⟩
 . cases e
theorem ZQ.res {G w l v}(h:ZQ G.im w l v){g}(hg:g=(l.length != 1)):qbb G w g l v:=by
 obtain⟨h1,h2,h3⟩:=h;by_cases hl:l.length=1
 .
  rw[aF hl]at h1;have:g=false:=by rw[hg];simp[hl]
  subst this
  match l,hl with
  |[c],_=>obtain⟨u,hu,hr⟩:=h3 0 c rfl;rw[qo1 h1]at hu;cases hu;exact⟨c,rfl,hr.seen rfl⟩
 . rw[aG hl]at h1;have:g=true:=by rw[hg];simp[hl]
   subst this;obtain⟨cs,rfl⟩:=h1;exact⟨cs,rfl,by simpa [Value.cells]using h2,fun o c ho=>let ⟨u,hu,hr⟩:=h3 o c ho;⟨u,by simpa [Value.cells]using hu,hr.seen rfl⟩⟩
theorem qht {G w v v' V}(h:RelV G w v V)(e:qkM v=some v'):RelV G w v' (.tuple #[V,.bool true]):=by
 obtain⟨tag,rows⟩:=v;unfold qkM at e;have bl:∀ p,Sh G w p (.val (.bool true)) (.bool true):=fun p=>⟨rfl,rfl⟩
 split at e
 .
  rename_i h1 h2;change tag=_ at h1;change rows=_ at h2;subst h1;subst h2;simp only[aa]at e;subst e;rename_i c;refine⟨⟨#[V,.bool true],rfl,rfl,rfl,fun i g n e1 e2=>?_⟩,fun r o c' hc=>?_⟩
  .
   match i,e1,e2 with
   |0,e1,e2=>simp at e1 e2;subst e1;subst e2;exact⟨_,rfl,rfl⟩
   |1,e1,e2=>simp at e1 e2;subst e1;subst e2;exact⟨_,rfl,rfl⟩
   |i+2,e1,e2=>simp at e1
  .
   match r,o,hc with
   |0,0,hc=>simp[cellAt]at hc;subst hc;obtain⟨u,hu,hs⟩:=h.2 0 0 c rfl;simp only[qX,aa]at hu;subst hu;exact⟨V,rfl,hs⟩
   |1,0,hc=>simp[cellAt]at hc;subst hc;exact⟨_,rfl,.inr ⟨⟨by intros;simp,by intros;simp⟩,bl⟩⟩
   |0,o+1,hc=>simp[cellAt]at hc
   |1,o+1,hc=>simp[cellAt]at hc
   |r+2,o,hc=>simp[cellAt]at hc
 .
  rename_i h1 h2;change tag=_ at h1;change rows=_ at h2;subst h1;subst h2;simp only[aa]at e;subst e;rename_i l;obtain⟨vs,rfl,hn⟩:=h.1;refine⟨⟨#[.agg vs,.bool true],rfl,rfl,rfl,fun i g n e1 e2=>?_⟩,fun r o c' hc=>?_⟩
  .
   match i,e1,e2 with
   |0,e1,e2=>simp at e1 e2;subst e1;subst e2;exact⟨_,rfl,vs,rfl,hn⟩
   |1,e1,e2=>simp at e1 e2;subst e1;subst e2;exact⟨_,rfl,rfl⟩
   |i+2,e1,e2=>simp at e1
  .
   match r,o,hc with
   |0,o,hc=>obtain⟨u,hu,hs⟩:=h.2 0 o c' hc;exact⟨u,hu,hs⟩
   |1,0,hc=>simp[cellAt]at hc;subst hc;exact⟨_,rfl,.inr ⟨⟨by intros;simp,by intros;simp⟩,bl⟩⟩
   |1,o+1,hc=>simp[cellAt]at hc
   |r+2,o,hc=>simp[cellAt]at hc
 . cases e
theorem qdR {cx G w F}{a:Act}{x xt t ok v dst ty pos after guard}(h:RelF G w F a.tmps)(e:qbz cx F x t ok=some v):
  ∃ V,(execOp a.eval ⟨dst,.typeAssert x xt t ok,ty,pos,after,guard⟩).run cx.P w=.ok (.value V) w/\RelV G w v V:=by
 unfold qbz at e;split at e
 .
  rename_i t' V0 u hx hu;have hx':=yc (qx h x) hx;have run:∀ ok,(∀ m,u≠.interface m)->t'=t->(Instr.typeAssert (.iface t' V0) xt t ok).run cx.P w=.ok (if ok then .tuple #[V0,.bool true]else V0) w:=by intro ok hi ht;subst ht;unfold Instr.typeAssert;simp only[aL,run_underlying hu,ay];cases u<;>first|(exact absurd rfl (hi _))|(simp only[aF];cases ok<;>rfl)
  split at e
  . cases e
  .
   rename_i hi;split at e
   . rename_i ht;have hr:=run ok (fun m hm=>hi m hm) ht;cases ok with
     |true=>simp only[if_true]at e hr;refine⟨.tuple #[V0,.bool true],?_,qht (xI G w V0) e⟩;simp only[execOp,hx',aL,hr,ay];rfl
     |false=>simp only[aU,if_false,aa]at e hr;subst e;refine⟨V0,?_,xI G w V0⟩;simp only[execOp,hx',aL,hr,ay];rfl
   . cases e
 . cases e
theorem qaS {cx G w F}{a:Act}{o v}(h:RelF G w F a.tmps)(e:quiet cx F o=some v):
  ∃ V,(execOp a.eval o).run cx.P w=.ok (.value V) w/\RelV G w v V:=by
 obtain⟨dst,op,ty,pos,after,guard⟩:=o;unfold quiet at e;split at e
 . -- move
   rename_i x he;simp only at he;subst he;simp only[aa]at e;subst e;exact⟨a.eval x,rfl,qx h x⟩
 .
  -- pick
  rename_i c x y he;simp only at he;subst he;split at e
  .
   rename_i t hc;simp only[aa]at e;subst e;have hb:=yc (qx h c) hc;refine⟨if t then a.eval x else a.eval y,?_,?_⟩
   . simp only[execOp,hb];cases t<;>rfl
   . cases t
     . exact qx h y
     . exact qx h x
  . cases e
 .
  -- binOp
  rename_i bop t x y u he;simp only at he;subst he;split at e
  . rename_i xs ys hx hy;split at e
    . rename_i hf;simp only[aH]at e;obtain⟨b,eb,rfl⟩:=e;have hu:=(zA hf).1;rw[hu]at eb;have h1:=yc (qx h x) hx;have h2:=yc (qx h y) hy;refine⟨.bool b,?_,RelV.c (.inr ⟨⟨by intros;simp,by intros;simp⟩,fun p=>⟨rfl,rfl⟩⟩)⟩;simp only[execOp,h1,h2,aL,run_eqGuard_agg w _ t x y xs ys (zA hf).2.2.1,ay,run_eql_struct,yF hf eb 9998 w,aV]
    . cases e
  . rename_i xs ys hx hy;split at e
    . rename_i hf;simp only[aH]at e;obtain⟨b,eb,rfl⟩:=e;have hu:=(zA hf).1;rw[hu]at eb;have h1:=yc (qx h x) hx;have h2:=yc (qx h y) hy;refine⟨.bool (!b),?_,RelV.c (.inr ⟨⟨by intros;simp,by intros;simp⟩,fun p=>⟨rfl,rfl⟩⟩)⟩;simp only[execOp,h1,h2,aL,run_eqGuard_agg w _ t x y xs ys (zA hf).2.2.1,ay,run_neq_struct,yF hf eb 9998 w,aV]
    . cases e
  . exact qEz h qbq e
 . rename_i he;simp only at he;subst he;exact qEz h qb8 e
 . rename_i he;simp only at he;subst he;exact qcF h e
 . rename_i he;simp only at he;subst he;exact qEz h xH e
 . rename_i he;simp only at he;subst he;exact qdR h e
 .
  -- load
  rename_i t x he;simp only at he;subst he;split at e
  .
   rename_i c n g hc hn hg;cases hl:F.loadL n c with
   |none=>simp[hl]at e
   |some l=>
    simp only[hl,ae]at e;have hd:c≠.dead:=by rintro rfl;simp[Fr.loadL]at hl
    obtain⟨_,hs⟩:=qp h hc hd;obtain⟨ad,us,hV,hlen,hll,hcell,hrel⟩:=qa6 h hs hl;have hagg:=vK hg w;rcases qbJ e (by rw[hlen,hll]) hrel with⟨rfl,hr⟩|⟨rfl,u,hu,hr⟩
    . refine⟨.agg us.toArray,?_,hr⟩;have hlc:=run_loadCells_list (P:=cx.P) w ad us hcell;rw[hlen]at hlc;simp only[execOp,Instr.loadAt,Instr.sureAddr,hV,pure_bind,aL,loadVar,hagg,ay,if_true,qK hn,hlc,aV]
    . refine⟨u,?_,hr⟩;have h0:=hcell 0 u (by rw[hu];rfl);have:ad.add 0=ad:=by simp[Addr.add]
      rw[this]at h0;simp only[execOp,Instr.loadAt,Instr.sureAddr,hV,pure_bind,aL,loadVar,hagg,ay,aU,if_false,run_load,h0,aV]
  . cases e
 .
  -- nilCheck
  rename_i x he;simp only at he;subst he;split at e
  .
   rename_i p hc;split at e
   . cases e
   rename_i hq;simp only[aa]at e;subst e;obtain⟨hseen,hs⟩:=qp h hc (by simp);obtain⟨_,y,_,hb,hv⟩:=hs ⟨⟨.res,[]⟩,0,0⟩;have hm:y.isMap=false:=by
    cases hx:y.isMap with
    |false=>rfl
    |true=>exact absurd (hb hx) hq
   rw[Hd.adr_of hm]at hv;exact⟨a.eval x,by simp only[execOp,hv];rfl,RelV.c (.inr ⟨hseen,hs⟩)⟩
  . rename_i row o hc;simp only[aa]at e;subst e;obtain⟨hseen,hs⟩:=qp h hc (by simp);obtain⟨b,base,vs,T,fr,_,hv,_,_⟩:=hs ⟨⟨.res,[]⟩,0,0⟩;exact⟨a.eval x,by simp only[execOp,hv];rfl,RelV.c (.inr ⟨hseen,hs⟩)⟩
  . cases e
 .
  -- fieldAddr
  rename_i s x f he;simp only at he;subst he;split at e
  .
   rename_i fields c hu hc;split at e
   .
    rename_i fd hf;split at e
    . rename_i m hsz;simp only[aH]at e;obtain⟨c',e1,rfl⟩:=e;have hd:c≠.dead:=by rintro rfl;simp[ZE]at e1
      obtain⟨_,hs⟩:=qp h hc hd;obtain⟨ad,hV,hseen,hs'⟩:=XV hs e1;refine⟨_,?_,RelV.c (.inr ⟨hseen,hs'⟩)⟩;simp only[execOp,Instr.fieldAt,Instr.sureAddr,hV,aL,run_underlying hu,ay,hf,aV,fieldPlace,qK hsz,Nat.add_one_ne_zero,if_false]
    . cases e
   . cases e
  . cases e
 .
  -- indexAddr
  rename_i t x i he;simp only at he;subst he;split at e
  .
   -- an immutable slice
   rename_i elem rows n hu hc hi;split at e
   .
    rename_i row sz hrow hsz;split at e
    .
     rename_i hcond;simp only[aa]at e;subst e;simp only[aD,aY,beq_iff_eq]at hcond;obtain⟨h0,hrl⟩:=hcond;obtain⟨_,hs⟩:=qp h hc (by simp);obtain⟨k,hk⟩:=xD (qx h i) hi;have hlt:n.toNat<rows.length:=(az.1 hrow).1;have hV:=hs ⟨⟨.res,[]⟩,0,0⟩;generalize hVx:a.eval x=V at hV;cases hV with
     |immE ad cap=>simp at hlt
     |imm _ b off cap sz' vs T fr us hb him _ hsz' hv hr=>
      have hin:0<=n/\n<(rows.length:Int):=⟨h0,by omega⟩
      have hszeq:sz'=sz:=by rw[<- hsz' row (aN hrow),hrl]
      subst hszeq;refine⟨.pointer (some ⟨b,off+n.toNat*sz',none⟩),?_,RelV.c (.inr ⟨⟨by intros;simp,by intros;simp⟩,fun q=>⟨b,off+n.toNat*sz',vs,T,fr,him,by simp,hb,fun j c hj=>?_⟩⟩)⟩
      . simp only[execOp,Instr.indexAt,hk,asIntOf,pure_bind,aL,run_underlying hu,ay,hVx,aV,hin,and_self,if_true,qK hsz,zb,true_and]
      . have hcell:cellAt rows n.toNat j=some c:=by simp[cellAt,hrow,hj]
        exact⟨us n.toNat j,hv _ _ _ hcell,hr _ _ _ hcell⟩
    . cases e
   . cases e
  .
   -- an owned slice
   rename_i elem p n hu hc hi;split at e
   .
    rename_i zz rows sz hg hsz;split at e
    . rename_i hcond;simp only[aa]at e;subst e;simp only[aD,aY,beq_iff_eq]at hcond;obtain⟨⟨h0,hlt0⟩,rfl⟩:=hcond;obtain⟨_,hs⟩:=qp h hc (by simp);obtain⟨k,hk⟩:=xD (qx h i) hi;have hlt:n.toNat<rows.length:=by omega
      obtain⟨ad,cap,hV,y,hy,hz,rfl,hp⟩:=qlv h hs hg hlt;have hin:0<=n/\n<(rows.length:Int):=⟨h0,hlt0⟩
      rw[hz]at hp;refine⟨_,?_,RelV.c (.inr ⟨⟨by intros;simp,by intros;simp⟩,hp⟩)⟩;simp only[execOp,Instr.indexAt,hk,asIntOf,pure_bind,aL,run_underlying hu,ay,hV,aV,hin,and_self,if_true,qK hsz,zb,Nat.zero_add,true_and]
    . cases e
   . cases e
  .
   -- an array's address
   rename_i len elem c n hu hc hi;split at e
   .
    rename_i sz hsz;split at e
    . rename_i hin;simp only[aH]at e;obtain⟨c',e1,rfl⟩:=e;have hd:c≠.dead:=by rintro rfl;simp[ZE]at e1
      obtain⟨_,hs⟩:=qp h hc hd;obtain⟨k,hk⟩:=xD (qx h i) hi;obtain⟨ad,hV,hseen,hs'⟩:=XV hs e1;refine⟨_,?_,RelV.c (.inr ⟨hseen,hs'⟩)⟩;simp only[execOp,Instr.indexAt,Instr.sureAddr,hk,asIntOf,pure_bind,aL,run_underlying hu,ay,hV,aV,hin,and_self,if_true,qK hsz,true_and]
    . cases e
   . cases e
  . cases e
 . rename_i he;simp only at he;subst he;exact qEz h qaW e
 .
  -- field
  rename_i s x f he;simp only at he;subst he;split at e
  .
   rename_i fields l hu hx;split at e
   .
    rename_i fd hf;split at e
    . rename_i n g hn hg;split at e
      . rename_i hle;have hr:=qx h x;rw[hx]at hr;obtain⟨vs,hV,hsz,hc⟩:=hr.agg_inv;obtain⟨V,hrun,hrel⟩:=qgk hn hg hsz hc hle e;refine⟨V,?_,hrel⟩;simp only[execOp,Instr.field,aL,run_underlying hu,ay,hf,hV,asAgg,pure_bind,hrun,aV]
      . cases e
    . cases e
   . cases e
  . cases e
 .
  -- extract
  rename_i x i he;simp only at he;subst he;split at e
  . rename_i fl rows hx;split at e
    . rename_i g l hg hl;have hr:=qx h x;rw[hx]at hr;obtain⟨Vs,U,hV,hU,hrel⟩:=hr.tup_inv hg hl;refine⟨U,?_,hrel v e⟩;simp only[execOp,Instr.extract,hV,hU,aL,aV,ay]
    . cases e
  . cases e
 .
  -- lookup
  rename_i t x k ok he;simp only at he;subst he;split at e
  .
   rename_i kt elem p kv hu hc hk;split at e
   .
    rename_i pl es hg;split at e
    .
     rename_i r g z hfind hagg hz;obtain⟨_,hs⟩:=qp h hc (by rintro rfl;cases hg);obtain⟨y,ents,clock,hy,hV,hb,hes⟩:=qse h hs hg;have hkv:=yc (qx h k) hk;obtain⟨zv,rfl,hzrun⟩:=qgK hz;have hget:(getObj y.b).run cx.P w=.ok (.map ents clock) w:=by simp[getObj,Sem.run,hb]
     split at e
     .
      rename_i l hl;split at e
      . cases e
      .
       rename_i hcond;simp only[Bool.or_eq_true,Bool.not_eq_true',bne_iff_ne,ne_eq,not_or,Bool.not_eq_false,Decidable.not_not]at hcond;obtain⟨hko,hgl⟩:=hcond;have hkk:=qfr hko;obtain⟨res,hfr,hfo⟩:=qcC hkk hes hfind;have hval:∃ V,((match res with
         |some (_,v)=>pure (v,true)
         |none=>do pure (<- zeroValue elem,false):Sem (Value×Bool)).run cx.P w=.ok (V,r.isSome) w)/\qbb G w g l V:=by
        rcases hfo with⟨rfl,rfl⟩|⟨l',i,ent,kk,rfl,rfl,_,_,hrow⟩
        . simp only[Option.isSome_none]at hl |-;refine⟨zv,by simp only[aL,hzrun w,ay,aV],?_⟩;split at hl
          . rename_i htag;exact(xI G w zv).res htag hl
          . cases hl
        . simp only[aa]at hl;subst hl;exact⟨ent.val,by simp only[aV,Option.isSome_some],hrow.res hgl⟩
       obtain⟨V,hVrun,hrr⟩:=hval;cases ok with
       |true=>
        simp only[if_true,aa]at e;subst e;refine⟨.tuple #[V,.bool r.isSome],?_,hrr.tup r.isSome⟩;cases res with
        |none=>simp only[aL,hzrun w,ay,aV,Result.ok.injEq,ai,and_true]at hVrun;simp only[execOp,Instr.lookup,aL,run_underlying hu,ay,hV,hget,aV,hkv,run_checkKey hkk,hfr,hzrun w,if_true,hVrun.1,<- hVrun.2]
        |some y=>obtain⟨i,v⟩:=y;simp only[aV,Result.ok.injEq,ai,and_true]at hVrun;simp only[execOp,Instr.lookup,aL,run_underlying hu,ay,hV,hget,aV,hkv,run_checkKey hkk,hfr,if_true,hVrun.1,<- hVrun.2]
       |false=>
        simp only[aU,if_false]at e;refine⟨V,?_,hrr.mk e⟩;cases res with
        |none=>simp only[aL,hzrun w,ay,aV,Result.ok.injEq,ai,and_true]at hVrun;simp only[execOp,Instr.lookup,aL,run_underlying hu,ay,hV,hget,aV,hkv,run_checkKey hkk,hfr,hzrun w,if_false,aU,hVrun.1]
        |some y=>obtain⟨i,v⟩:=y;simp only[aV,Result.ok.injEq,ai,and_true]at hVrun;simp only[execOp,Instr.lookup,aL,run_underlying hu,ay,hV,hget,aV,hkv,run_checkKey hkk,hfr,if_false,aU,hVrun.1]
     . cases e
    . cases e
   . cases e
  . cases e
 .
  -- len
  rename_i args argTypes he;simp only at he;subst he;split at e
  .
   rename_i x t hx ht;split at e
   . rename_i elem c hu hc;simp only[aH]at e;obtain⟨rows,hl,rfl⟩:=e;have hd:c≠.dead:=by rintro rfl;simp[Fr.look]at hl
     obtain⟨_,hs⟩:=qp h hc hd;obtain⟨ad,cap,hV⟩:=qgs h hs hl;refine⟨.int .i64 rows.length,?_,RelV.c (.inr ⟨⟨by intros;simp,by intros;simp⟩,fun q=>⟨rfl,rfl⟩⟩)⟩;have hm:(args.map a.eval)[0]? = some (.slice ad rows.length cap):=by simp[hx,hV]
     simp only[execOp,resolve,pure_bind,invoke,builtin,aL,Builtin.len_,ht,hm,run_underlying hu,ay,aV,goInt]
   .
    rename_i kt et p hu hc;split at e
    . rename_i es hg;simp only[aa]at e;subst e;obtain⟨_,hs⟩:=qp h hc (by simp);obtain⟨y,ents,clock,hy,hV,hb,hes⟩:=qaR h hs hg;refine⟨.int .i64 es.length,?_,RelV.c (.inr ⟨⟨by intros;simp,by intros;simp⟩,fun q=>⟨rfl,rfl⟩⟩)⟩;have hm:(args.map a.eval)[0]? = some (.map (some y.b)):=by simp[hx,hV]
      have hlen:es.length=ents.size:=by rw[hes.len,Array.length_toList]
      have hget:(getObj y.b).run cx.P w=.ok (.map ents clock) w:=by simp[getObj,Sem.run,hb]
      simp only[execOp,resolve,pure_bind,invoke,builtin,aL,Builtin.len_,ht,hm,run_underlying hu,ay,hget,aV,goInt,hlen]
    . cases e
   . exact qEz h qoY e
  . cases e
 . rename_i he;simp only at he;subst he;exact qEz h qoY e
 . rename_i he;simp only at he;subst he;exact qEz h qoY e
 .
  -- makeFunc
  rename_i f first caps he
  simp only at he;subst he;dsimp only at e;split at e
  .
   rename_i hgood;simp only[aa]at e;subst e;have go:∀ (l:List Operand),(l.map fun x=>(F.ev x).cell).all (fun c=>match c with|some (.ptr p)=>p.key.path.isEmpty&&p.r==0|some (.val _)=>true|_=>false)=true ->
     qY G ((l.map fun x=>(F.ev x).cell).map (·.getD .dead)) (l.map a.eval):=by
    intro l
    induction l with
    |nil=>intro _;trivial
    |cons x l ih=>
     intro hl;simp only[List.map_cons,List.all_cons,aD]at hl;refine⟨?_,ih hl.2⟩;cases hc:(F.ev x).cell with
     |none=>simp[hc]at hl
     |some c=>
      cases c with
      |val u=>obtain⟨_,hs⟩:=qp h hc (by simp);show RelX G ((F.ev x).cell.getD .dead) (a.eval x);rw[hc];exact hs ⟨⟨.res,[]⟩,0,0⟩
      |ptr q=>
       simp only[hc,aD,beq_iff_eq]at hl;obtain⟨_,hs⟩:=qp h hc (by simp);obtain⟨a1,y,a2,hb,hv⟩:=hs ⟨⟨.res,[]⟩,0,0⟩;have hm:y.isMap=false:=by
        cases hx:y.isMap with
        |false=>rfl
        |true=>have:=hb hx;simp[Pl.isM,hl.1.2]at this
       rw[Hd.adr_of hm]at hv;show RelX G ((F.ev x).cell.getD .dead) (a.eval x);rw[hc];exact⟨a1,by simpa [List.isEmpty_iff]using hl.1.1,y,a2,hm,hv⟩
      |_=>simp[hc]at hl
   simp only[aD]at hgood;refine⟨.func (.func f) (first.map a.eval) (caps.map a.eval),?_,RelV.c (.inr ⟨⟨by intros;simp,by intros;simp⟩,fun q=>⟨_,_,rfl,?_,?_⟩⟩)⟩
   . simp only[execOp,Instr.makeFunc,aL,aV,ay]
   . rw[Array.toList_map];exact go first.toList hgood.1
   . rw[Array.toList_map];exact go caps.toList hgood.2
  . cases e
 . cases e
end
section
variable [Glob]
theorem RelV.noOwn {G w v V}(h:RelV G w v V):(v.rows.any (·.any qy))=false:=by
 rw[List.any_eq_false];intro row hrow;simp only[Bool.not_eq_true,List.any_eq_false];intro c hc;obtain⟨r,hr⟩:=List.getElem?_of_mem hrow;obtain⟨o,ho⟩:=List.getElem?_of_mem hc;obtain⟨u,_,hx⟩:=h.2 r o c (qc.2 ⟨row,hr,ho⟩);rcases hx with rfl|⟨hx,_⟩
 . rfl
 . exact qvc.1 hx
theorem putV {G w F ts}(h:RelF G w F ts){d v V}(hv:RelV G w v V):
  RelF G w (F.putS (some d) v) (ts.setIfInBounds d V):=by
 unfold Fr.putS;simp only[hv.noOwn,aU,if_false];refine h.put_flat ⟨hv.1,fun r o c e=>?_⟩ (fun r o c zz rs e hco=>?_)
 . obtain⟨u,hu,hx⟩:=hv.2 r o c e;exact⟨u,hu,hx.imp id (fun h=>h.2 _)⟩
 . have:=qea hv.noOwn e;rw[hco]at this;simp[qy]at this
theorem putO {G w F}{a:Act}(h:RelF G w F a.tmps){d v V}(hv:RelV G w v V):
  RelF G w (F.putS d v) (a.put d V).tmps:=by
 cases d with
 |none=>exact h
 |some d=>exact putV h hv
theorem putL {G w F ts}(h:RelF G w F ts){d xs l us}(hh:qva G w F xs l us)(hd:Dis xs){v V}(hv:(v=.ag l/\V=.agg us.toArray)\/(∃ c,v=.c c/\l=[c]/\us=[V])):
  ∃ G',RelF G' w (F.putS (some d) v) (ts.setIfInBounds d V)/\Gain G w G' w:=by
 have hlen:=hh.len;have hrows:v.rows=[l]:=by rcases hv with⟨rfl,_⟩|⟨c,rfl,rfl,_⟩<;>rfl
 refine qgw h (fun r o=>if r=0 then xs[o]? else none) ?_ (fun r o c e=>?_) (fun r o r' o' s e e'=>?_)
 .
  rcases hv with⟨rfl,rfl⟩|⟨c,rfl,rfl,rfl⟩
  . exact⟨us.toArray,rfl,by simp[hlen.2]⟩
  . trivial
 .
  rw[hrows]at e;obtain⟨rfl,ho⟩:=zI e;obtain⟨x,u,hx,hu,hc⟩:=hh.get ho;refine⟨u,?_,.inr ⟨x,by simp[hx],hc⟩⟩;rcases hv with⟨rfl,rfl⟩|⟨c',rfl,rfl,rfl⟩
  . simpa [qX,AV.ag]using hu
  . cases o with
    |zero=>simpa [qX,AV.c]using hu
    |succ o=>simp at hu
 .
  have key:∀ r o s,zg v.rows (fun r o=>if r=0 then xs[o]? else none) r o=some (some s)->r=0/\xs[o]? = some (some s):=by
   intro r o s e;unfold zg at e;rw[hrows]at e;cases hc:cellAt [l] r o with
   |none=>simp[hc]at e
   |some c=>
    obtain⟨rfl,_⟩:=zI hc;simp only[hc,if_true]at e;split at e
    . exact⟨rfl,e⟩
    . cases e
  obtain⟨rfl,h1⟩:=key _ _ _ e;obtain⟨rfl,h2⟩:=key _ _ _ e';exact⟨rfl,hd _ _ _ h1 h2⟩
theorem RelV.ls {G w v V}(h:RelV G w v V){l}(e:v.cells=some l):
  ((v.tag=.agg/\v=.ag l/\∃ vs,V=.agg vs)\/(v.tag=.one/\∃ c,v=.c c/\l=[c]))/\(∀ c∈l,c≠.dead)->vz G w l V.cells.toList:=by
 rintro ⟨hk,hnd⟩
 rcases hk with⟨_,rfl,vs,rfl⟩|⟨_,c,rfl,rfl⟩
 . obtain⟨vs',e1,e2,e3⟩:=h.agg_inv;cases e1;exact vz.of_get (by simpa [Value.cells]using e2) (fun o c ho=>by obtain⟨u,hu,hx⟩:=e3 o c ho;exact⟨u,by simpa [Value.cells]using hu,hx⟩)
 .
  obtain⟨u,hu,hx⟩:=h.2 0 0 c rfl;simp only[AV.c,qX,aa]at hu;subst hu;rcases hx with rfl|⟨h1,h2⟩
  . exact absurd rfl (hnd _ (by simp))
  . rw[qo1 (h2 ⟨⟨.res,[]⟩,0,0⟩).one];exact⟨.inr ⟨h1,h2⟩,trivial⟩
theorem Xb {cx G w F F' ts}(h:RelF G w F ts){v v' V}(hv:RelV G w v V)(e:Qb cx F v=some (v',F')):
  ∃ im' xs l us,RelF { G with im:=im' } w F' ts/\Gain G w { G with im:=im' } w/\qva { G with im:=im' } w F' xs l us/\Dis xs/\v'.cells=some l/\us=V.cells.toList /\
   ((v'=.ag l/\V=.agg us.toArray)\/(∃ c,v'=.c c/\l=[c]/\us=[V])):=by
 obtain⟨tag,rows⟩:=v;unfold Qb at e;split at e
 .
  rename_i x ht hr;simp only at ht hr;subst ht;subst hr;simp only[aH,Prod.exists,ai]at e;obtain⟨c',F1,e1,rfl,rfl⟩:=e;obtain⟨u,hu,hx⟩:=hv.2 0 0 x rfl;simp only[qX,aa]at hu;subst hu;rcases hx with rfl|⟨h1,h2⟩
  . simp[takeC]at e1
  .
   obtain⟨im',x,a1,a2,_,a4,_⟩:=YW h h1 h2 e1;refine⟨im',[x],[c'],[V],a1,a2,⟨a4,trivial⟩,?_,rfl,?_,.inr ⟨c',rfl,rfl,rfl⟩⟩
   . intro i j s hi hj;have:i=0:=by cases i<;>simp at hi<;>rfl
     have:j=0:=by cases j<;>simp at hj<;>rfl
     omega
   . rw[qo1 a4.one]
 . rename_i l ht hr;simp only at ht hr;subst ht;subst hr;simp only[aH,Prod.exists,ai]at e;obtain⟨l',F1,e1,rfl,rfl⟩:=e;obtain⟨vs,rfl,e2,e3⟩:=hv.agg_inv;obtain⟨im',xs,a1,a2,_,a4,a5,_⟩:=Zl l l' vs.toList G F F1 h (vz.of_get (by simpa using e2) (fun o c ho=>by obtain⟨u,hu,hx⟩:=e3 o c ho;exact⟨u,by simpa using hu,hx⟩)) e1;exact⟨im',xs,l',vs.toList,a1,a2,a4,a5,rfl,rfl,.inl ⟨rfl,by simp⟩⟩
 . cases e
def Ran (cx:Cx)(G:Gh)(w:World)(a:Act)(o:Oper)(F':Fr):Prop:=∃ n V G' w',(execOp a.eval o).run cx.P w=.ok n w'/\(n=.value V\/(n=.skip/\V=Go.undef))/\RelF G' w' F' (a.put o.dst V).tmps/\Gain G w G' w'
theorem qdp {cx G w F F' a o x}(ho:o.op=.assign x)(h:RelF G w F a.tmps)(e:loud cx F o=some F'):Ran cx G w a o F':=by
 obtain⟨dst,op,ty,pos,after,guard⟩:=o;change op=_ at ho;subst ho;have run:∀ w,(execOp a.eval ⟨dst,.assign x,ty,pos,after,guard⟩).run cx.P w=.ok (.value (a.eval x)) w:=fun w=>rfl;have hr:=qx h x;unfold loud at e;simp only at e;split at e
 .
  rename_i p d hc;obtain⟨hsn,hs⟩:=qp h hc (by simp);split at e
  .
   rename_i hroot;split at e
   .
    rename_i hp;subst hp;split at e
    .
     rename_i c hsl;split at e
     .
      rename_i hcell;simp only[aa]at e;subst e;have hg:F.get ⟨⟨.slot d,[]⟩,0,0⟩=some c:=qz (zR hsl) rfl;obtain⟨_,hval⟩:=yD h hs hg (fun hn=>by rw[qvc.1 hn]at hcell;cases hcell);obtain⟨V,hV,hsh,hcs⟩:=h.slots d _ hsl;have hVe:V=a.eval x:=hval V (.inr ⟨Zi d,d,_,V,rfl,hsl,hV,rfl⟩);refine⟨_,a.eval x,G,w,run w,.inl rfl,?_,Gain.refl G w⟩;have:a.tmps.setIfInBounds d (a.eval x)=a.tmps:=by
       apply Array.ext_getElem?;intro i;rw[aX];split
       . rename_i hi;subst hi;split
         . rw[hV,hVe]
         . rename_i hn;rw[Array.getElem?_eq_none (by omega)]
       . rfl
      simp only[Act.put,this];exact h
     . cases e
    . cases e
   . cases e
  .
   split at e
   .
    split at e
    . rename_i c F1 ht;simp only[aa]at e;subst e;obtain⟨im',xx,a1,a2,_,a4,_⟩:=YW h hsn hs ht;obtain⟨G',b1,b2⟩:=putL (d:=d) a1 (xs:=[xx]) (l:=[c]) (us:=[a.eval x]) ⟨a4,trivial⟩ (by
       intro i j s hi hj;have:i=0:=by cases i<;>simp at hi<;>rfl
       have:j=0:=by cases j<;>simp at hj<;>rfl
       omega) (.inr ⟨c,rfl,rfl,rfl⟩)
      exact⟨_,a.eval x,G',w,run w,.inl rfl,b1,a2.trans b2⟩
    . cases e
   . simp only[aa]at e;subst e;exact⟨_,a.eval x,G,w,run w,.inl rfl,putV h (RelV.c (.inr ⟨hsn,hs⟩)),Gain.refl G w⟩
 . rename_i c d hneg hc;simp only[aa]at e;subst e;exact⟨_,a.eval x,G,w,run w,.inl rfl,putV h (RelV.c (Zh hr hc)),Gain.refl G w⟩
 . rename_i d hc;simp only[aH,Prod.exists]at e;obtain⟨v,F1,e1,rfl⟩:=e;obtain⟨im',xs,l,us,a1,a2,a3,a4,_,_,a7⟩:=Xb h hr e1;obtain⟨G',b1,b2⟩:=putL (d:=d) a1 a3 a4 a7;exact⟨_,a.eval x,G',w,run w,.inl rfl,b1,a2.trans b2⟩
 . cases e
end
section
variable [Glob]
theorem Weak.drop (F)(d):Weak F (F.drop (.loc d)):=by
 have h0:=Weak.mapC (yN (.loc d)) F;refine⟨by simp[Fr.drop,Fr.mapC],fun k v' e=>h0.slot k v' e,fun r l' e=>?_⟩;simp only[Fr.drop,Fr.mapC,qH,qad]at e;split at e
 . cases e
 . exact h0.box r l' (by simpa [Fr.mapC,qH]using e)
theorem qY.less {G d}:∀ {l:List Cell} {vs:List Value},(∀ q,.ptr q∈l->q.key.root≠.loc d)->qY G l vs->qY { G with lv:=fun k=>G.lv k/\k≠d } l vs
 |[],[],_,_=>trivial
 |c::l,v::vs,hn,⟨h1,h2⟩=>by
  refine⟨?_,qY.less (fun q hq=>hn q (aB _ hq)) h2⟩;cases c with
  |ptr q=>
   obtain⟨a,b⟩:=h1;refine⟨?_,b⟩;have hq:=hn q (by simp);cases hr:q.key.root with
   |loc k=>rw[hr]at a hq;exact⟨a,by simpa using hq⟩
   |_=>trivial
  |val u=>exact h1
  |_=>exact h1.elim
 |[],_::_,_,h=>h.elim
 |_::_,[],_,h=>h.elim
theorem Gh.ok_less {G:Gh}{d r}(h:G.ok r)(hr:r≠.loc d):Gh.ok { G with lv:=fun k=>G.lv k/\k≠d } r:=by
 cases r with
 |loc k=>exact⟨h,by simpa using hr⟩
 |_=>trivial
theorem Hold.drop {G w F x c u}(h:Hold G w F x c u)(d):
  (zn (.loc d) c=.dead/\oneC u=true)\/Hold { G with lv:=fun k=>G.lv k/\k≠d } w (F.drop (.loc d)) x (zn (.loc d) c) u:=by
 have h1:=h.one;cases x with
 |none=>
  obtain⟨a1,a2,a3,a4,a5⟩:=h;cases c with
  |own zz rows=>exact absurd rfl (a1.1 _ rows)
  |mp es=>exact absurd rfl (a1.2 es)
  |mpb es=>exact(a5 ⟨⟨.res,[]⟩,0,0⟩).elim
  |ref q=>exact absurd rfl (a3 q)
  |ptr q=>
   simp only[zn];split
   . exact .inl ⟨rfl,h1⟩
   . rename_i hr;refine .inr ⟨a1,a2,a3,a4,fun p=>?_⟩;obtain⟨b1,b2⟩:=a5 p;exact⟨Gh.ok_less b1 hr,b2⟩
  |clo f fs cs=>
   simp only[zn];split
   . exact .inl ⟨rfl,h1⟩
   . rename_i hr;refine .inr ⟨a1,a2,a3,a4,fun p=>?_⟩;obtain⟨vs,us,b1,b2,b3⟩:=a5 p;have hn:∀ q,.ptr q∈fs++cs->q.key.root≠.loc d:=by intro q hq hroot;refine hr ?_;rw[List.any_eq_true];exact⟨_,hq,by simp[hroot]⟩
     exact⟨vs,us,b1,b2.less fun q hq=>hn q (aM _ hq),b3.less fun q hq=>hn q (aT _ hq)⟩
  |val v=>exact .inr ⟨a1,a2,a3,a4,fun p=>a5 p⟩
  |nil=>exact .inr ⟨a1,a2,a3,a4,fun p=>a5 p⟩
  |imm rows=>exact .inr ⟨a1,a2,a3,a4,fun p=>a5 p⟩
  |cptr row o=>exact .inr ⟨a1,a2,a3,a4,fun p=>a5 p⟩
  |dead=>exact absurd rfl a2
 |some s=>
  obtain⟨a1,a2,a3,a4,a5⟩:=h;have hu:∀ π,¬ Uses (F.drop (.loc d)) (s.under π):=fun π hu=>a5 π ((Weak.drop F d).uses hu);have ht:Tree { G with lv:=fun k=>G.lv k/\k≠d } w s c:=by
   intro rest rows e;rcases(a4 rest rows e).arr (by simp[Pl.under])with hn|⟨hd,vs,T,e1,e2,e3,e4,e5,e6,e7,e8,e9⟩
   . exact .inl (.inl hn)
   refine .inr ⟨hd,vs,T,e1,e2,e3,e4,e5,e6,e7,e8,fun r o c' hc'=>?_⟩;obtain⟨u,hu,hs⟩:=e9 r o c' hc';refine⟨u,hu,?_⟩;have hp:=(e8 (by simp[Pl.under])).2 r o c' hc';cases c'<;>first|exact hs|simp[qw]at hp
  cases c with
  |own zz rows=>exact .inr ⟨a1,a2,a3,ht,hu⟩
  |mp es=>exact .inr ⟨a1,a2,a3,ht,hu⟩
  |_=>exact absurd (by constructor<;>intros<;>simp) a2
theorem Gain.lv {G w}(lv):zS G w { G with lv:=lv } w:=⟨Nat.le_refl _,fun _ h=>h,fun _ _=>rfl,fun _ _ _=>⟨rfl,fun h=>h⟩,fun k h e=>.inl ⟨k,h,e,rfl⟩,fun _=>rfl,.refl w⟩
theorem qh2 {xs:List (Option Pl)}{l r o s}(e:zg [l] (fun r o=>if r=0 then xs[o]? else none) r o=some (some s)):r=0/\xs[o]? = some (some s):=by
 unfold zg at e;cases hc:cellAt [l] r o with
 |none=>simp[hc]at e
 |some c=>
  obtain⟨rfl,_⟩:=zI hc;simp only[hc,if_true]at e;split at e
  . exact⟨rfl,e⟩
  . cases e
theorem qaj {G w F F' ts}(h:RelF G w F ts){dst xs l us}(hh:qva G w F xs l us)(hd:Dis xs)(T)(e:qaN F dst l=some F'):
  ∃ d G',dst=some d/\RelF G' (w.alloc (.cells us.toArray T)) F' (ts.setIfInBounds d (.pointer (some ⟨w.heap.size,0,none⟩)))/\Gain G w G' (w.alloc (.cells us.toArray T)):=by
 have hlen:=hh.len;cases dst with
 |none=>simp[qaN]at e
 |some d=>
  have fin:∀ (G0:Gh) (F0:Fr) (l0:List Cell),RelF G0 w F0 ts->F0.boxes.lookup (.loc d)=none->l0.length=l.length ->
    (∀ (o:Nat) c,l0[o]? = some c->∃ u,us.toArray[o]? = some u/\((c=.dead/\oneC u=true)\/∃ x,(if 0=0 then xs[o]? else none)=some x/\Hold G0 w F0 x c u)) ->
    ∃ G',RelF G' (w.alloc (.cells us.toArray T)) (({ F0 with boxes:=(.loc d,l0)::F0.boxes }:Fr).putS (some d) (.c (.ptr ⟨⟨.loc d,[]⟩,0,0⟩))) (ts.setIfInBounds d (.pointer (some ⟨w.heap.size,0,none⟩))) /\
     Gain G0 w G' (w.alloc (.cells us.toArray T)):=by
   intro G0 F0 l0 r0 hn hl hc;obtain⟨G',b1,b2,b3,x,b4,b5,b6⟩:=qmQ r0 hn (l:=l0) (us:=us.toArray) T (fun r o=>if r=0 then xs[o]? else none) (by simp[hlen.2,hl]) hc (fun r o r' o' s e e'=>by obtain⟨rfl,h1⟩:=qh2 e;obtain⟨rfl,h2⟩:=qh2 e';exact⟨rfl,hd _ _ _ h1 h2⟩);refine⟨G',putV b1 (RelV.c (.inr ⟨⟨by intros;simp,by intros;simp⟩,fun p=>⟨b3,x,b4,fun hb=>(by rw[b6]at hb;cases hb),?_⟩⟩)),b2⟩;rw[Hd.adr_of b6];simp[b5]
  unfold qaN at e;simp only at e;split at e
  . rename_i hn;simp only[aa]at e;subst e;obtain⟨G',b1,b2⟩:=fin G F l h hn rfl (fun o c ho=>by obtain⟨x,u,hx,hu,hc⟩:=hh.get ho;exact⟨u,by simpa using hu,.inr ⟨x,by simp[hx],hc⟩⟩);exact⟨d,G',rfl,b1,b2⟩
  . cases e
theorem qec {u}(h:QK (qm u)=true)(G w)(F):Hold G w F none (qm u) u:=by
 have:=ZP G w u;cases hc:qm u<;>rw[hc]at h this<;>simp[QK]at h
 .
  rcases this with h|⟨h1,h2⟩
  . cases h
  . exact⟨h1,by simp,by intros;simp,by intros;simp_all,h2⟩
 .
  rcases this with h|⟨h1,h2⟩
  . cases h
  . exact⟨h1,by simp,by intros;simp,by intros;simp_all,h2⟩
theorem Yq:∀ {us:List Value},(us.map qm).all QK=true->∀ (G:Gh) (w:World) (F:Fr),qva G w F (List.replicate us.length none) (us.map qm) us
 |[],_,_,_,_=>trivial
 |u::us,h,G,w,F=>by simp only[List.map_cons,List.all_cons,aD]at h;exact⟨qec h.1 G w F,Yq h.2 G w F⟩
theorem Dis.none (n):Dis (List.replicate n none):=by intro i j s hi _;rw[List.getElem?_replicate]at hi;split at hi<;>simp at hi
theorem Yj {P t l}(h:XP P t=some l):∃ z,(∀ w,(zeroValue t).run P w=.ok z w)/\l=z.cells.toList.map qm/\l.all QK=true/\qQ P t=some l.length:=by
 unfold XP at h;split at h
 .
  rename_i i hi;split at h
  . rename_i z hz;split at h
    . rename_i hc;simp only[aa]at h;subst h;simp only[aD,aY]at hc;exact⟨z,fun w=>by simp[zeroValue,typeInfo,Sem.run,hi,hz],rfl,hc.2,by simp[qQ,hi,hc.1]⟩
    . cases h
  . cases h
 . cases h
theorem qeI {cx G w F F' a o t}(ho:o.op=.alloc t)(h:RelF G w F a.tmps)(e:loud cx F o=some F'):Ran cx G w a o F':=by
 obtain⟨dst,op,ty,pos,after,guard⟩:=o;change op=_ at ho;subst ho;unfold loud at e;simp only at e;split at e
 . rename_i l hl;obtain⟨z,hz,rfl,hp,_⟩:=Yj hl;obtain⟨d,G',rfl,b1,b2⟩:=qaj h (Yq hp G w F) (Dis.none _) t e;refine⟨_,_,G',_,?_,.inl rfl,b1,b2⟩;simp[execOp,Instr.alloc,hz,newVar,newRow,newObj,aL,Sem.run,ay]
 . cases e
theorem qhH {cx G w F F' a o t x}(ho:o.op=.box t x)(h:RelF G w F a.tmps)(e:loud cx F o=some F'):Ran cx G w a o F':=by
 obtain⟨dst,op,ty,pos,after,guard⟩:=o;change op=_ at ho;subst ho;unfold loud at e;simp only at e;split at e
 . rename_i v F1 ht;obtain⟨im',xs,l,us,a1,a2,a3,a4,a5,a6,a7⟩:=Xb h (qx h x) ht;rw[a5]at e;obtain⟨d,G',rfl,b1,b2⟩:=qaj a1 a3 a4 t e;refine⟨_,_,G',_,?_,.inl rfl,b1,a2.trans b2⟩;simp[execOp,Instr.box,newVar,newRow,newObj,aL,Sem.run,ay,a6]
 . cases e
theorem qeW {cx G w F F' a o t y x}(ho:o.op=.store t y x)(h:RelF G w F a.tmps)(e:loud cx F o=some F'):Ran cx G w a o F':=by
 obtain⟨dst,op,ty,pos,after,guard⟩:=o;change op=_ at ho;subst ho;unfold loud at e;simp only at e;split at e
 .
  rename_i p n v F1 hc hn ht;split at e
  .
   rename_i l hl;split at e
   .
    rename_i hcond;simp only[aD,aY,Bool.or_eq_true,List.isEmpty_iff]at hcond;obtain⟨⟨hln,hheap,hnm⟩,hpure⟩:=hcond;obtain⟨_,hs⟩:=qp h hc (by simp);obtain⟨_,y0,hy,hb,hV⟩:=hs ⟨⟨.res,[]⟩,0,0⟩;have hym:y0.isMap=false:=by
     cases hx:y0.isMap with
     |false=>rfl
     |true=>rw[hb hx]at hnm;cases hnm
    rw[Hd.adr_of hym]at hV;obtain⟨im',xs,l',us,a1,a2,a3,a4,a5,a6,_⟩:=Xb h (qx h x) ht;rw[hl]at a5;cases a5;obtain⟨G',w',b1,b2,b3⟩:=qgp (P:=cx.P) (qcn.1 hheap) hym l us xs 0 _ w F1 F' a1 hy a3 a4 (fun hp=>hpure.resolve_left hp) e;refine⟨.skip,_,G',w',?_,.inr ⟨rfl,rfl⟩,b2,a2.trans b3⟩;have hsz:(a.eval x).cells.size=n:=by rw[<- hln,<- a3.len.2,a6];simp
    rw[a6]at b1;simp only[execOp,Instr.storeAt,Instr.sureAddr,storeVar,hV,aL,aV,ay,qK hn,hsz,ne_eq,not_true_eq_false,if_false,b1]
   . cases e
  . cases e
 . cases e
end
section
variable [Glob]
def Nod (xs:List (Option Pl)):Prop:=(xs.filterMap id).Nodup
theorem Dis.tail {x xs}(h:Dis (x::xs)):Dis xs:=fun i j s hi hj=>by have:=h (i+1) (j+1) s (by simpa using hi) (by simpa using hj);omega
theorem ZN:∀ {xs:List (Option Pl)},Dis xs↔Nod xs
 |[]=>⟨fun _=>List.nodup_nil,fun _ i j s hi=>by simp at hi⟩
 |none::xs=>by unfold Nod;simp only[List.filterMap_cons,id];exact⟨fun h=>ZN.1 h.tail,fun h=>Dis.cons (ZN.2 h) (by intros;simp_all)⟩
 |some s::xs=>by unfold Nod;simp only[List.filterMap_cons,id,List.nodup_cons,List.mem_filterMap,exists_eq_right];refine⟨fun h=>⟨fun hm=>?_,ZN.1 h.tail⟩,fun h=>Dis.cons (ZN.2 h.2) (by intro s' e;cases e;exact h.1)⟩;obtain⟨j,hj⟩:=List.getElem?_of_mem hm;have:=h 0 (j+1) s rfl (by simpa using hj);omega
theorem qva.take {G w F}:∀ (n:Nat) {xs:List (Option Pl)} {l:List Cell} {us:List Value},qva G w F xs l us->qva G w F (xs.take n) (l.take n) (us.take n)
 |0,_,_,_,_=>trivial
 |n+1,[],[],[],_=>trivial
 |n+1,_::_,_::_,_::_,⟨h1,h2⟩=>⟨h1,h2.take n⟩
 |_+1,[],[],_::_,h=>h.elim
 |_+1,[],_::_,_,h=>h.elim
 |_+1,_::_,[],_,h=>h.elim
 |_+1,_::_,_::_,[],h=>h.elim
theorem qva.drop {G w F}:∀ (n:Nat) {xs:List (Option Pl)} {l:List Cell} {us:List Value},qva G w F xs l us->qva G w F (xs.drop n) (l.drop n) (us.drop n)
 |0,_,_,_,h=>h
 |n+1,[],[],[],_=>trivial
 |n+1,_::_,_::_,_::_,⟨_,h2⟩=>h2.drop n
 |_+1,[],[],_::_,h=>h.elim
 |_+1,[],_::_,_,h=>h.elim
 |_+1,_::_,[],_,h=>h.elim
 |_+1,_::_,_::_,[],h=>h.elim
theorem qva.append {G w F}:∀ {xs xs':List (Option Pl)} {l l':List Cell} {us us':List Value},qva G w F xs l us->qva G w F xs' l' us'->qva G w F (xs++xs') (l++l') (us++us')
 |[],_,[],_,[],_,_,h=>h
 |_::_,_,_::_,_,_::_,_,⟨h1,h2⟩,h=>⟨h1,h2.append h⟩
 |[],_,[],_,_::_,_,h,_=>h.elim
 |[],_,_::_,_,_,_,h,_=>h.elim
 |_::_,_,[],_,_,_,h,_=>h.elim
 |_::_,_,_::_,_,[],_,h,_=>h.elim
def qk9 (G:Gh)(w:World)(F:Fr):List (List (Option Pl))->List (Nat×List Cell)->List (Nat×Value)->Prop
 |[],[],[]=>True
 |xs::xss,(i,l)::ps,(j,V)::vs=>i=j/\qva G w F xs l V.cells.toList/\qk9 G w F xss ps vs
 |_,_,_=>False
theorem qgn {cx F}:takeC cx F .dead=none:=rfl
theorem qfu {cx}:∀ {F:Fr} {l l':List Cell} {F':Fr},QB cx F l=some (l',F')->∀ c∈l,c≠.dead
 |F,[],_,_,_,c,hc=>by simp at hc
 |F,c0::l,l',F',e,c,hc=>by
  simp only[QB]at e;cases h1:takeC cx F c0 with
  |none=>simp[h1]at e
  |some y=>
   obtain⟨c1,F1⟩:=y;simp only[h1]at e;cases h2:QB cx F1 l with
   |none=>simp[h2]at e
   |some z=>
    obtain⟨l2,F2⟩:=z;rcases List.mem_cons.1 hc with rfl|hm
    . rintro rfl
      rw[qgn]at h1;cases h1
    . exact qfu h2 c hm
theorem Xf {v:AV}{l}(h:v.cells=some l):(v.tag=.agg/\v=.ag l)\/(v.tag=.one/\∃ c,v=.c c/\l=[c]):=by
 obtain⟨tag,rows⟩:=v;unfold AV.cells at h;split at h
 . rename_i x ht hr;simp only at ht hr;subst ht;subst hr;simp only[aa]at h;exact .inr ⟨rfl,x,rfl,h.symm⟩
 . rename_i l' ht hr;simp only at ht hr;subst ht;subst hr;simp only[aa]at h;subst h;exact .inl ⟨rfl,rfl⟩
 . cases h
theorem RelV.ls' {G w v V}(h:RelV G w v V){l}(e:v.cells=some l)(hd:∀ c∈l,c≠.dead):vz G w l V.cells.toList:=by
 refine h.ls e ⟨?_,hd⟩;rcases Xf e with⟨h1,rfl⟩|h1
 . obtain⟨vs,rfl,_⟩:=h.agg_inv;exact .inl ⟨rfl,rfl,vs,rfl⟩
 . exact .inr h1
theorem xJ {cx w ts}:∀ (vs:List (Nat×AV)) (Vs:List (Nat×Value)) (ps:List (Nat×List Cell)) (G:Gh) (F F':Fr),RelF G w F ts ->
  vs.length=Vs.length->(∀ (j:Nat) x X,vs[j]? = some x->Vs[j]? = some X->x.1=X.1/\RelV G w x.2 X.2)->ym cx F vs=some (ps,F') ->
  ∃ im' xss,RelF { G with im:=im' } w F' ts/\Gain G w { G with im:=im' } w/\Shr G F { G with im:=im' } F'/\qk9 { G with im:=im' } w F' xss ps Vs/\Nod xss.flatten /\
   ∀ s,some s∈xss.flatten->Uses F s.toKey
 |[],[],ps,G,F,F',h,_,_,e=>by simp only[ym,aa,ai]at e;obtain⟨rfl,rfl⟩:=e;exact⟨G.im,[],h,Gain.refl G w,Shr.refl G F,trivial,List.nodup_nil,by intro s hs;simp at hs⟩
 |(i,v)::vs,(j,V)::Vs,ps,G,F,F',h,hl,hr,e=>by
  simp only[ym]at e;obtain⟨hij,hv⟩:=hr 0 _ _ rfl rfl;simp only at hij hv;cases hc:v.cells with
  |none=>simp[hc]at e
  |some l=>
   simp only[hc]at e;cases h1:QB cx F l with
   |none=>simp[h1]at e
   |some y=>
    obtain⟨l1,F1⟩:=y;simp only[h1]at e;cases h2:ym cx F1 vs with
    |none=>simp[h2]at e
    |some z=>
     obtain⟨ps1,F2⟩:=z;simp only[h2,aa,ai]at e;obtain⟨rfl,rfl⟩:=e;obtain⟨im1,xs,a1,a2,a3,a4,a5,a6⟩:=Zl l l1 V.cells.toList G F F1 h (hv.ls' hc (qfu h1)) h1;obtain⟨im2,xss,b1,b2,b3,b4,b5,b6⟩:=xJ vs Vs ps1 { G with im:=im1 } F1 F2 a1 (by simpa using hl) (fun j x X hx hX=>by obtain⟨c1,c2⟩:=hr (j+1) x X (by simpa using hx) (by simpa using hX);exact⟨c1,c2.shr a3⟩) h2;refine⟨im2,xs::xss,b1,a2.trans b2,a3.trans b3,⟨hij,a4.shr b3 a1.inv,b4⟩,?_,fun s hs=>?_⟩
     . unfold Nod;rw[List.flatten_cons,List.filterMap_append,List.nodup_append];refine⟨ZN.1 a5,b5,?_⟩;intro s hs s' hs' he;subst he;simp only[List.mem_filterMap,id,exists_eq_right]at hs hs';exact a4.nouse hs (b6 s hs')
     . rw[List.flatten_cons,List.mem_append]at hs;rcases hs with hs|hs
       . exact a6 s hs
       . exact a3.uses _ (b6 s hs)
 |[],_::_,_,_,_,_,_,hl,_,_=>by simp at hl
 |_::_,[],_,_,_,_,_,hl,_,_=>by simp at hl
theorem splice (cells new:Array Value)(off)(h:off+new.size<=cells.size):
  (new.zipIdx.foldl (fun cs (c,j)=>cs.setIfInBounds (off+j) c) cells).toList=cells.toList.take off++new.toList++cells.toList.drop (off+new.size):=by
 have go:∀ (l:List Value) (k:Nat) (cs:Array Value),off+k+l.length<=cs.size ->
   ((l.zipIdx k).foldl (fun (cs:Array Value) (x:Value×Nat)=>cs.setIfInBounds (off+x.2) x.1) cs).toList=cs.toList.take (off+k)++l++cs.toList.drop (off+k+l.length):=by
  intro l
  induction l with
  |nil=>intro k cs _;simp
  |cons v l ih=>intro k cs hk;simp only[List.length_cons]at hk;simp only[List.zipIdx_cons,List.foldl_cons];rw[ih (k+1) _ (by simp;omega)];simp only[Array.toList_setIfInBounds,List.length_cons];rw[List.drop_set_of_lt (by omega)];rw[show cs.toList.set (off+k) v=cs.toList.set (off+k) v from rfl,show List.take (off+(k+1)) (cs.toList.set (off+k) v)=List.take (off+k) cs.toList++[v]from by rw[show off+(k+1)=off+k+1 from by omega,List.take_add_one,List.take_set_of_le (by omega),List.getElem?_set_self (by simp;omega)];rfl];rw[show off+(k+1)+l.length=off+k+(l.length+1)from by omega];simp
 have:=go new.toList 0 cells (by simpa using h);rw[<- Array.foldl_toList,Array.toList_zipIdx];simpa using this
theorem qf4 {xs ys zs n k}(hnk:n<=k)(h:Nod (xs++(ys++zs))):Nod ((xs.take n++ys++xs.drop k)++zs):=by
 unfold Nod at *;have hp:((xs.take n++ys++xs.drop k)++zs).Perm ((xs.take n++xs.drop k)++(ys++zs)):=by simp only[List.append_assoc];refine List.Perm.append_left _ ?_;rw[<- List.append_assoc,<- List.append_assoc];exact List.Perm.append_right _ List.perm_append_comm
 rw[(hp.filterMap id).nodup_iff];refine List.Nodup.sublist (List.Sublist.filterMap id (List.Sublist.append ?_ (List.Sublist.refl _))) h;have h2:(xs.drop k).Sublist (xs.drop n):=by have:=List.drop_sublist (k-n) (xs.drop n);rw[List.drop_drop]at this;rwa [show n+(k-n)=k from by omega]at this
 calc (xs.take n++xs.drop k).Sublist (xs.take n++xs.drop n):=List.Sublist.append (List.Sublist.refl _) h2
  _=xs:=List.take_append_drop n xs
theorem YV {G w F place}:∀ (ps:List (Nat×List Cell)) (vs:List (Nat×Value)) (xss:List (List (Option Pl))) (xs:List (Option Pl)) (l l':List Cell) (us:List Value),
  qva G w F xs l us->qk9 G w F xss ps vs->Nod (xs++xss.flatten)->qbn place l ps=some l' ->
  ∃ xs' us',Instr.fill place us.toArray vs=some us'.toArray/\qva G w F xs' l' us'/\Dis xs'
 |[],[],[],xs,l,l',us,h,_,hn,e=>by simp only[qbn,aa]at e;subst e;exact⟨xs,us,rfl,h,ZN.2 (by simpa using hn)⟩
 |(i,cs)::ps,(j,V)::vs,ys::xss,xs,l,l',us,h,⟨hij,h1,h2⟩,hn,e=>by
  subst hij;simp only[qbn]at e;cases hp:place i with
  |none=>simp[hp]at e
  |some y=>
   obtain⟨off,size⟩:=y;simp only[hp]at e;split at e
   .
    rename_i hc;simp only[aD,aY]at hc;have hl:=h.len;have hl1:=h1.len;have hV:V.cells.size=cs.length:=by have:=hl1.2;simpa using this
    have hle:off+V.cells.size<=us.toArray.size:=by simp only[List.size_toArray];omega
    obtain⟨xs',us',a1,a2,a3⟩:=YV ps vs xss (xs.take off++ys++xs.drop (off+cs.length)) _ l' (us.take off++V.cells.toList++us.drop (off+cs.length))
     (((h.take off).append h1).append (h.drop _)) h2 (qf4 (by omega) (by simpa using hn)) e
    refine⟨xs',us',?_,a2,a3⟩;simp only[Instr.fill,hp];have hcond:(decide (V.cells.size≠size)||decide (off+V.cells.size>us.toArray.size))=false:=by simp only[Bool.or_eq_false_iff,decide_eq_false_iff_not,ne_eq,Decidable.not_not];omega
    rw[hcond];have hs:=splice us.toArray V.cells off hle;rw[hV]at hs;simp only[aU,if_false];rw[<- a1];congr 1;apply Array.ext';rw[hs]
   . cases e
 |[],_::_,_,_,_,_,_,_,h,_,_=>by cases ‹List (List (Option Pl))›<;>exact h.elim
 |[],[],_::_,_,_,_,_,_,h,_,_=>h.elim
 |_::_,[],_,_,_,_,_,_,h,_,_=>by cases ‹List (List (Option Pl))›<;>exact h.elim
 |_::_,_::_,[],_,_,_,_,_,h,_,_=>h.elim
end
section
variable [Glob]
theorem Qp {G G' w w' p q c u}(him:G'.im=G.im)(hw:∀ b,G.im b->w'.heap[b]? = w.heap[b]?)(hp:qw c=true)(ho:qy c=false)(h:Sh G w p c u):Sh G' w' q c u:=by
 cases c with
 |val v=>exact h
 |nil=>exact h
 |dead=>exact h
 |imm rows=>exact RelI.mono (fun b hb=>by rw[him];exact hb) hw h
 |own zz rows=>simp[qy]at ho
 |_=>simp[qw]at hp
theorem qgT {G w F ts}(h:RelF G w F ts){d rows sz b cap w' vs T}(X:Nat->Nat->Option Pl)(hsize:w.heap.size<=w'.heap.size)(hold:∀ b',b'≠b->b'<w.heap.size->w'.heap[b']? = w.heap[b']?)(hb:b<w'.heap.size)(him:¬ G.im b)(hown:∀ k x,G.γ k=some x->x.b=b->k.path≠[]/\¬ Uses F k/\∀ r o s π,X r o=some s->k≠s.under π)(hold':b<w.heap.size->∃ k x,G.γ k=some x/\x.b=b)(hobj:w'.heap[b]? = some (.cells vs T (0,0)))(hout:Out w w')(hrow:∀ row∈rows,row.length=sz)(hcap:rows.length<=cap)(hvs:vs.size=cap*sz)(hcell:∀ r o c,cellAt rows r o=some c->qw c=true/\∃ u,vs[r*sz+o]? = some u /\
   match X r o with
   |none=>qy c=false/\∃ p,Sh G w p c u
   |some s=>Sh G w s c u/\Tree G w s c)(hX:∀ r o s,X r o=some s->∀ π,¬ Uses F (s.under π))(hinj:∀ r o r' o' s s' π π',X r o=some s->X r' o'=some s'->s.under π=s'.under π'->r=r'/\o=o'/\π=π'):
  ∃ G',RelF G' w' (F.putS (some d) (.c (.own sz rows))) (ts.setIfInBounds d (.slice (some ⟨b,0,none⟩) rows.length cap))/\Gain G w G' w':=by
 let V:Value:=.slice (some ⟨b,0,none⟩) rows.length cap
 let K:Key:=⟨.slot d,[(0,0)]⟩
 let hd:Hd:=⟨b,sz,rows.length,cap,false⟩
 let Y:Nat->Nat->Option (Option Pl):=fun r o=>(X r o).map some
 have hY:∀ r o s,Y r o=some (some s)↔X r o=some s:=fun r o s=>by simp[Y]
 have hYn:∀ r o,Y r o≠none->∃ s,X r o=some s:=fun r o hn=>by
  cases hx:X r o with
  |none=>simp[Y,hx]at hn
  |some s=>exact⟨s,rfl⟩
 let F1:=(F.killR (.slot d)).put (some d) AV.deadv
 let ts1:=ts.setIfInBounds d V
 have dcell:∀ r o c,cellAt AV.deadv.rows r o=some c->c=.dead:=fun r o c e=>(one_cell e).2.2;have r1:RelF G w F1 ts1:=by
  refine(h.mapC (qP (.slot d))).put_flat ⟨trivial,fun r o c e=>?_⟩ (fun r o c zz rs e=>by rw[dcell r o c e];simp)
  obtain⟨rfl,rfl,rfl⟩:=one_cell e;exact⟨V,rfl,.inl rfl⟩
 have fre:∀ π,π≠[]->¬ Uses F1 ⟨.slot d,π⟩:=fun π hπ=>vQ h hπ (fun r o c zz rs es e=>by rw[dcell r o c e];simp) (fun r o c e k hk=>by rw[dcell r o c e]at hk;simp[deps]at hk);have uses1:∀ k,Uses F1 k->Uses F k:=fun k hu=>(Weak.mapC (qP (.slot d)) F).uses (Uses.put (fun r o c zz rs e=>by rw[dcell r o c e];simp) (fun r o c e=>by rw[dcell r o c e];simp[deps]) hu);have hinjY:Inj Y:=fun r o r' o' s s' π π' e e' he=>hinj r o r' o' s s' π π' ((hY _ _ _).1 e) ((hY _ _ _).1 e') he;have r2:RelF (G.mv K Y) w F1 ts1:=r1.mv K hinjY (fun r o π _=>fre _ (by simp[K])) (fun r o s π e hu=>hX r o s ((hY _ _ _).1 e) π (uses1 _ hu))
 let G1:=G.mv K Y
 -- the block's own keys go
 let G2:Gh:={ G1 with γ:=fun k=>match G1.γ k with
  |some x=>if x.b=b then none else some x
  |none=>none }
 have g2:∀ k x,G2.γ k=some x->G1.γ k=some x/\x.b≠b:=by
  intro k x e;simp only[G2]at e;split at e
  . rename_i y hy;split at e
    . cases e
    . rename_i hne;cases e;exact⟨hy,hne⟩
  . cases e
 have g2':∀ k x,G1.γ k=some x->x.b≠b->G2.γ k=some x:=by intro k x e hne;simp only[G2,e,aG hne]
 have inv2:GInv G2 w:=⟨fun k k' x x' e e' hb=>r2.inv.inj k k' x x' (g2 k x e).1 (g2 k' x' e').1 hb,fun k x e=>r2.inv.lt k x (g2 k x e).1,r2.inv.imlt,r2.inv.glob⟩
 have r3:RelF G2 w F1 ts1:=by
  refine r2.ghost inv2 rfl rfl fun k hu=>?_;cases hk:G1.γ k with
  |none=>simp only[G2,hk]
  |some x=>
   have hne:x.b≠b:=by
    intro hxb;rcases YE G K Y k with⟨r,o,s,π,h1,h2,h3⟩|h1|⟨h1,h2⟩
    . rw[h2]at hu;exact fre _ (by simp) hu
    . rw[h1]at hk;cases hk
    . rw[h2]at hk;exact(hown k x hk hxb).2.1 (uses1 _ hu)
   rw[g2' k x hk hne]
 have heq:∀ b',G.im b'->w'.heap[b']? = w.heap[b']?:=fun b' hi=>hold b' (fun e=>him (e▸hi)) (h.inv.imlt b' hi);have r4:RelF G2 w' F1 ts1:=r3.same ⟨hsize,heq,fun k x e=>hold _ (g2 k x e).2 (inv2.lt k x e)⟩
 let G3:=G2.add K hd
 have g3:∀ k,k≠K->G3.γ k=G2.γ k:=fun k hk=>by simp only[G3,Gh.add,aG hk]
 have g3K:G3.γ K=some hd:=by simp[G3,Gh.add]
 have inv3:GInv G3 w':=by
  refine⟨fun k k' x x' e e' hbb=>?_,fun k x e=>?_,fun b' hi=>Nat.lt_of_lt_of_le (h.inv.imlt b' hi) hsize,fun b hb=>⟨(h.inv.glob b hb).1,(heq b (h.inv.glob b hb).1).trans (h.inv.glob b hb).2⟩⟩
  .
   by_cases hk:k=K
   . by_cases hk':k'=K
     . rw[hk,hk']
     . subst hk;rw[g3K]at e;cases e;rw[g3 k' hk']at e';exact absurd hbb.symm (g2 k' x' e').2
   . by_cases hk':k'=K
     . subst hk';rw[g3K]at e';cases e';rw[g3 k hk]at e;exact absurd hbb (g2 k x e).2
     . rw[g3 k hk]at e;rw[g3 k' hk']at e';exact inv2.inj k k' x x' e e' hbb
  . by_cases hk:k=K
    . subst hk;rw[g3K]at e;cases e;exact hb
    . rw[g3 k hk]at e;exact Nat.lt_of_lt_of_le (inv2.lt k x e) hsize
 have r5:RelF G3 w' F1 ts1:=r4.ghost inv3 rfl rfl fun k hu=>g3 k (by rintro rfl;exact fre _ (by simp) hu)
 -- what is moved
 have γm:∀ r o s π x,X r o=some s->G.γ (s.under π)=some x->G3.γ ((⟨K,r,o⟩:Pl).under π)=some x/\w'.heap[x.b]? = w.heap[x.b]?:=by intro r o s π x hx e;have hne:x.b≠b:=fun hxb=>(hown _ x e hxb).2.2 r o s π hx rfl;refine⟨?_,hold _ hne (h.inv.lt _ x e)⟩;rw[g3 _ (by intro hk;have:=congrArg (fun k=>k.path.length) hk;simp[Pl.under,K]at this)];refine g2' _ x ?_ hne;rw[Ze G K ((hY r o s).2 hx)];exact e
 have γn:∀ r o s π,X r o=some s->G.γ (s.under π)=none->G3.γ ((⟨K,r,o⟩:Pl).under π)=none:=by
  intro r o s π hx e;rw[g3 _ (by intro hk;have:=congrArg (fun k=>k.path.length) hk;simp[Pl.under,K]at this)];have:G1.γ ((⟨K,r,o⟩:Pl).under π)=none:=by rw[Ze G K ((hY r o s).2 hx)];exact e
  simp only[G2,this]
 have carry:∀ r o s c u,X r o=some s->qw c=true->Sh G w s c u->Tree G w s c->Sh G3 w' ⟨K,r,o⟩ c u/\Tree G3 w' ⟨K,r,o⟩ c:=by
  intro r o s c u hx hp hs ht;constructor
  .
   cases c with
   |own zz rs=>
    rcases hs with⟨e1,e2,e3⟩|⟨x,e1,e2,e3,e4⟩
    . refine .inl ⟨?_,e2,e3⟩;rw[<- Pl.under_nil]at e1 |-;exact γn r o s [] hx e1
    refine .inr ⟨x,?_,e2,e3,e4⟩;rw[<- Pl.under_nil]at e1 |-;exact(γm r o s [] x hx e1).1
   |val v=>exact hs
   |nil=>exact hs
   |dead=>exact hs
   |imm rs=>exact Qp (G:=G) (G':=G3) (p:=s) rfl heq rfl rfl hs
   |_=>simp[qw]at hp
  .
   intro rest rs e;rcases(ht rest rs e).arr (by simp[Pl.under])with⟨g1,g2,_⟩|⟨x,vs',T',e1,e2,e3,e4,e5,e6,e7,e8,e9⟩
   . exact .inl (.inl ⟨γn r o s rest hx g1,g2,by simp[Pl.under]⟩)
   obtain⟨m1,m2⟩:=γm r o s rest x hx e1;have hpath:(s.under rest).path≠[]:=by simp[Pl.under]
   refine .inr ⟨x,vs',T',m1,e2,e3,by rw[m2];exact e4,e5,e6,e7,fun _=>e8 hpath,fun r' o' c' hc'=>?_⟩;obtain⟨u',hu',hs'⟩:=e9 r' o' c' hc';refine⟨u',hu',?_⟩;have hp':=(e8 hpath).2 r' o' c' hc';cases c' with
   |own zz rs'=>
    have k1:(⟨(⟨K,r,o⟩:Pl).under rest,r',o'⟩:Pl).toKey=(⟨K,r,o⟩:Pl).under (rest++[(r',o')]):=by simp[Pl.toKey,Pl.under]
    have k2:(⟨s.under rest,r',o'⟩:Pl).toKey=s.under (rest++[(r',o')]):=by simp[Pl.toKey,Pl.under]
    rcases hs' with⟨f1,f2⟩|⟨y,f1,f2⟩
    . rw[k2]at f1;exact .inl ⟨by rw[k1];exact γn r o s _ hx f1,f2⟩
    refine .inr ⟨y,?_,f2⟩;rw[k2]at f1;rw[k1];exact(γm r o s _ y hx f1).1
   |val v=>exact hs'
   |nil=>exact hs'
   |dead=>exact hs'
   |imm rs'=>exact Qp (G:=G) (G':=G3) (p:=s) rfl heq rfl rfl hs'
   |_=>simp[qw]at hp'
 have cells:∀ r o c,cellAt rows r o=some c->qw c=true/\∃ u,vs[r*sz+o]? = some u/\Sh G3 w' ⟨K,r,o⟩ c u/\Tree G3 w' ⟨K,r,o⟩ c:=by
  intro r o c e;obtain⟨hp,u,hu,hs⟩:=hcell r o c e;refine⟨hp,u,hu,?_⟩;split at hs
  . obtain⟨ho,p,hs⟩:=hs;exact⟨Qp (G:=G) (G':=G3) (p:=p) rfl heq hp ho hs,Tree.flat (by rintro zz rs rfl;simp[qy]at ho)⟩
  . rename_i s hx;exact carry r o s c u hx hp hs.1 hs.2
 refine⟨G3,?_,?_⟩
 .
  have r6:RelF G3 w' (F1.put (some d) (.c (.own sz rows))) (ts1.setIfInBounds d V):=by
   refine r5.put ⟨trivial,fun r o c e=>?_⟩ (fun π rs hπ e=>?_)
   . obtain⟨rfl,rfl,rfl⟩:=one_cell e;exact⟨V,rfl,.inr (.inr ⟨hd,g3K,rfl,rfl,rfl,rfl⟩)⟩
   .
    cases π with
    |nil=>exact absurd rfl hπ
    |cons y π=>
     obtain⟨r,o⟩:=y;simp only[getR]at e;cases hc:cellAt (AV.c (Cell.own sz rows)).rows r o with
     |none=>simp[hc]at e
     |some c=>
      obtain⟨rfl,rfl,rfl⟩:=one_cell hc;simp only[hc]at e;cases π with
      |nil=>
       simp only[getR,aa]at e;subst e;exact .inr ⟨hd,vs,T,g3K,rfl,him,hobj,hrow,by rw[hvs];exact Nat.mul_le_mul_right _ hcap,hcap,fun _=>⟨hvs,fun r o c e=>(cells r o c e).1⟩,
        fun r o c e=>let ⟨_,u,hu,hs,_⟩:=cells r o c e;⟨u,hu,hs⟩⟩
      |cons y' π=>
       obtain⟨r',o'⟩:=y';simp only[getR]at e;cases hc':cellAt rows r' o' with
       |none=>simp[hc']at e
       |some c'=>
        cases c' with
        |own zz rs'=>simp only[hc']at e;obtain⟨_,u,_,_,ht⟩:=cells r' o' _ hc';exact ht π rs e
        |_=>simp[hc']at e
  have e1:(F.putS (some d) (.c (.own sz rows)))=F1.put (some d) (.c (.own sz rows)):=by simp only[Fr.putS];rw[aF (by simp[AV.c,qy])];exact(qc9 _ _ _ _).symm
  have e2:ts1.setIfInBounds d V=ts.setIfInBounds d V:=by simp[ts1]
  rw[e1,<- e2];exact r6
 .
  refine⟨hsize,fun _ h=>h,heq,fun b' hlt hn=>⟨hold b' (fun e=>?_) hlt,fun h=>h⟩,fun k x e=>?_,fun i=>?_,hout,fun d' hd'=>⟨hd',?_⟩⟩
  . subst e;obtain⟨k,x,hk,hx⟩:=hold' hlt;exact hn k x hk hx
  .
   by_cases hk:k=K
   . subst hk;rw[g3K]at e;cases e;by_cases hlt:b<w.heap.size
     . obtain⟨k,x,hk,hx⟩:=hold' hlt;exact .inl ⟨k,x,hk,hx⟩
     . exact .inr (by simpa [hd]using hlt)
   . rw[g3 k hk]at e;exact(Gain.mv K Y:Gain G w G1 w).own k x (g2 k x e).1
  . rw[g3 _ (by simp[K])];have e1:G1.γ ⟨.par i,[]⟩=G.γ ⟨.par i,[]⟩:=qaF rfl;cases hk:G.γ ⟨.par i,[]⟩with
    |none=>simp only[G2,e1,hk]
    |some x=>refine g2' _ x (by rw[e1];exact hk) fun hxb=>?_;exact(hown _ x hk hxb).1 rfl
  . rw[g3 _ (by simp[K])];have e1:G1.γ ⟨.loc d',[]⟩=G.γ ⟨.loc d',[]⟩:=qaF rfl;cases hk:G.γ ⟨.loc d',[]⟩with
    |none=>simp only[G2,e1,hk]
    |some x=>refine g2' _ x (by rw[e1];exact hk) fun hxb=>?_;exact(hown _ x hk hxb).1 rfl
end
section
variable [Glob]
theorem qmC {G w F ts}(h:RelF G w F ts)(d):
  ∃ G',RelF G' (w.alloc (.map #[] 0)) (F.putS (some d) (.c (.mp []))) (ts.setIfInBounds d (.map (some w.heap.size)))/\Gain G w G' (w.alloc (.map #[] 0)):=by
 let V:Value:=.map (some w.heap.size)
 let K:Key:=⟨.slot d,[(0,0)]⟩
 let hd:Hd:=⟨w.heap.size,0,0,0,true⟩
 let F1:=(F.killR (.slot d)).put (some d) AV.deadv
 let ts1:=ts.setIfInBounds d V
 have dcell:∀ r o c,cellAt AV.deadv.rows r o=some c->c=.dead:=fun r o c e=>(one_cell e).2.2;have r1:RelF G w F1 ts1:=by
  refine(h.mapC (qP (.slot d))).put_flat ⟨trivial,fun r o c e=>?_⟩ (fun r o c zz rs e=>by rw[dcell r o c e];simp)
  obtain⟨rfl,rfl,rfl⟩:=one_cell e;exact⟨V,rfl,.inl rfl⟩
 have fre:¬ Uses F1 K:=vQ h (by simp) (fun r o c zz rs es e=>by rw[dcell r o c e];simp) (fun r o c e k hk=>by rw[dcell r o c e]at hk;simp[deps]at hk);have r2:RelF (G.add K hd) (w.alloc (.map #[] 0)) F1 ts1:=r1.add K hd rfl _ fre;refine⟨G.add K hd,?_,Gain.alloc h.inv K hd rfl _ (by intro i;simp[K]) (by intro i _;simp[K]) (fun _ _ _ e=>by cases e)⟩;have r3:RelF (G.add K hd) (w.alloc (.map #[] 0)) (F1.put (some d) (.c (.mp []))) (ts1.setIfInBounds d V):=by
  refine r2.put_flat ⟨trivial,fun r o c e=>?_⟩ (fun r o c zz rs e=>by rw[(one_cell e).2.2];simp)
  obtain⟨rfl,rfl,rfl⟩:=one_cell e;refine⟨V,rfl,.inr ⟨hd,#[],0,?_,rfl,rfl,?_,?_,trivial⟩⟩
  . exact aF rfl
  . intro hi;have:=h.inv.imlt _ hi;simp[hd]at this
  . rw[heap_alloc];simp[hd]
 have e1:(F.putS (some d) (.c (.mp [])))=F1.put (some d) (.c (.mp [])):=by simp only[Fr.putS];rw[aF (by simp[AV.c,qy])];exact(qc9 _ _ _ _).symm
 have e2:ts1.setIfInBounds d V=ts.setIfInBounds d V:=by simp[ts1]
 rw[e1,<- e2];exact r3
theorem qcE {cx G w F F' a o t}(ho:o.op=.makeMap t none)(h:RelF G w F a.tmps)(e:loud cx F o=some F'):Ran cx G w a o F':=by
 obtain⟨dst,op,ty,pos,after,guard⟩:=o;change op=_ at ho;subst ho;have run:(execOp a.eval ⟨dst,.makeMap t none,ty,pos,after,guard⟩).run cx.P w=.ok (.value (.map (some w.heap.size))) (w.alloc (.map #[] 0)):=by simp[execOp,Instr.makeMap,newObj,aL,Sem.run,ay]
 unfold loud at e;simp only at e;cases dst with
 |some d=>
  simp only at e;split at e
  . unfold qyW at e;split at e
    . rename_i hn;simp only[aa]at e;subst e;obtain⟨G',b1,b2,b3,x,b4,b5,b6⟩:=qCY h hn;refine⟨_,_,G',_,run,.inl rfl,putV b1 (RelV.c (.inr ⟨⟨by intros;simp,by intros;simp⟩,fun p=>⟨b3,x,b4,fun _=>rfl,?_⟩⟩)),b2⟩;simp[Hd.adr,Hd.val,b6,b5]
    . cases e
  . simp only[aa]at e;subst e;obtain⟨G',b1,b2⟩:=qmC h d;exact⟨_,_,G',_,run,.inl rfl,b1,b2⟩
 |none=>cases e
theorem qf9 (a:Array Value)(n k)(ha:a.size=n)(hn:0<n):
  ((Array.range (k*n)).map (fun i=>a[i % a.size]!)).toList=(List.replicate k a.toList).flatten:=by
 rw[Array.toList_map,Array.toList_range,ha]
 induction k with
 |zero=>simp
 |succ k ih=>
  rw[Nat.succ_mul,Nat.add_comm,List.range_add,List.map_append,List.replicate_succ,List.flatten_cons,<- ih,List.map_map];congr 1
  . apply List.ext_getElem?;intro i;simp only[aI,aR];by_cases hi:i<n
    . simp[hi,Nat.mod_eq_of_lt hi,ha]
    . simp[hi,ha]
  . apply List.map_congr_left;intro i _;simp
theorem ZO (sz):∀ (n:Nat) (l:List Cell),(chunk sz n l).length=n
 |0,_=>rfl
 |n+1,l=>by simp[chunk,ZO sz n]
theorem qds (sz):∀ (n:Nat) (l:List Cell),l.length=n*sz->∀ row∈chunk sz n l,row.length=sz
 |0,_,_,row,h=>by simp[chunk]at h
 |n+1,l,hl,row,h=>by
  have hl':l.length=n*sz+sz:=by rw[hl,Nat.succ_mul]
  rcases List.mem_cons.1 h with rfl|h
  . rw[List.length_take];omega
  . exact qds sz n _ (by rw[List.length_drop];omega) row h
theorem qbQ (sz):∀ (n:Nat) (l:List Cell) {r o:Nat} {c:Cell},cellAt (chunk sz n l) r o=some c->r<n/\o<sz/\l[r*sz+o]? = some c
 |0,_,r,o,c,h=>by simp[chunk,cellAt]at h
 |n+1,l,r,o,c,h=>by
  cases r with
  |zero=>
   obtain⟨row,h1,h2⟩:=qc.1 h;simp only[chunk,aJ,aa]at h1;subst h1;rw[List.getElem?_take]at h2;split at h2
   . exact⟨by omega,by assumption,by simpa using h2⟩
   . cases h2
  |succ r=>
   have h':cellAt (chunk sz n (l.drop sz)) r o=some c:=by simpa [chunk,cellAt]using h
   obtain⟨a1,a2,a3⟩:=qbQ sz n _ h';refine⟨by omega,a2,?_⟩;rw[List.getElem?_drop]at a3;rw[<- a3];congr 1;rw[Nat.succ_mul];omega
theorem run_askRoom (P w)(n):(askRoom n).run P w=.ok () w:=by unfold askRoom;split<;>rfl
theorem qch {w:World}(o b)(hb:b<w.heap.size):(w.alloc o).heap[b]? = w.heap[b]?:=by rw[heap_alloc,aG (by omega)]
theorem qhB {G w}(inv:GInv G w):¬ G.im w.heap.size:=fun hi=>Nat.lt_irrefl _ (inv.imlt _ hi)
theorem qfJ {cx G w F a op ty pos after guard}(h:RelF G w F a.tmps){V o}(run:(execOp a.eval ⟨none,op,ty,pos,after,guard⟩).run cx.P w=.ok (.value V) (w.alloc o))(ho:∀ vs T fr,o=.cells vs T fr->fr=(0,0)):Ran cx G w a ⟨none,op,ty,pos,after,guard⟩ F:=⟨_,_,G,_,run,.inl rfl,h.same (Same.alloc h.inv _),Gain.same (by simp[size_alloc]) (fun b hb=>qch _ b hb) h.inv (Out.alloc _ _)⟩
theorem qas {cx G w F F' a o t len parts}(ho:o.op=.buildSlice t len parts)(h:RelF G w F a.tmps)(e:loud cx F o=some F'):Ran cx G w a o F':=by
 obtain⟨dst,op,ty,pos,after,guard⟩:=o;change op=_ at ho;subst ho;unfold loud at e;simp only at e;split at e
 .
  rename_i elem hu;split at e
  .
   rename_i sz zl ps F1 hsz hz ht;split at e
   .
    rename_i hcond;simp only[aD,aY]at hcond;split at e
    .
     rename_i l hf;split at e
     .
      rename_i hpure;simp only[aa]at e;subst e;obtain⟨z,hzr,rfl,hp,hsz'⟩:=Yj hz;have hzs:z.cells.size=sz:=by rw[hsz]at hsz';have:=aS hsz';simpa using this.symm
      obtain⟨im',xss,a1,a2,_,a4,a5,_⟩:=xJ _ (parts.toList.map fun (i,x)=>(i,a.eval x)) ps G F F1 h (by simp) (fun j x X hx hX=>by
       rw[aI]at hx hX;cases hj:parts.toList[j]? with
       |none=>simp[hj]at hx
       |some y=>simp only[hj,av,aa]at hx hX;subst hx;subst hX;exact⟨rfl,qx h y.2⟩) ht
      have zl0:=qf9 z.cells sz len hzs hcond.2;have hmap:(List.replicate len (z.cells.toList.map qm)).flatten=((List.replicate len z.cells.toList).flatten).map qm:=by rw[List.map_flatten,List.map_replicate]
      have hpl:(((List.replicate len z.cells.toList).flatten).map qm).all QK=true:=by rw[<- hmap,List.all_eq_true];intro c hc;obtain⟨l0,h1,h2⟩:=List.mem_flatten.1 hc;rw[(List.mem_replicate.1 h1).2]at h2;exact List.all_eq_true.1 hp c h2
      rw[hmap]at hf;obtain⟨xs',us',b1,b2,b3⟩:=YV ps _ xss _ _ l _ (Yq hpl { G with im:=im' } w F1) a4 (by
       unfold Nod;rw[List.filterMap_append];have:(List.replicate ((List.replicate len z.cells.toList).flatten).length (none:Option Pl)).filterMap id=[]:=by rw[List.filterMap_eq_nil_iff];intro x hx;rw[(List.mem_replicate.1 hx).2];rfl
       rw[this];exact a5) hf
      have hlen:=b2.len;have hus:us'.length=len*sz:=by
       rw[hlen.2];have go:∀ (ps:List (Nat×List Cell)) (l l':List Cell),qbn (fun i=>some (i*sz,sz)) l ps=some l'->l'.length=l.length:=by
        intro ps
        induction ps with
        |nil=>intro l l' e;simp only[qbn,aa]at e;rw[e]
        |cons p ps ih=>
         obtain⟨i,cs⟩:=p;intro l l' e;simp only[qbn]at e;split at e
         . rename_i hc;simp only[aD,aY]at hc;rw[ih _ _ e];simp only[List.length_append,List.length_take,List.length_drop];omega
         . cases e
       rw[go _ _ _ hf];simp[hzs]
      have run:(execOp a.eval ⟨dst,.buildSlice t len parts,ty,pos,after,guard⟩).run cx.P w=.ok (.value (.slice (some ⟨w.heap.size,0,none⟩) len len)) (w.alloc (.cells us'.toArray elem)):=by
       have hbig:¬ (len*sz>2 ^ 24):=by omega
       have hfill:Instr.fill (fun i=>some (i*sz,sz)) ((Array.range (len*sz)).map (fun i=>z.cells[i % z.cells.size]!)) (parts.map fun (i,x)=>(i,a.eval x)).toList=some us'.toArray:=by rw[Array.toList_map,<- b1];congr 1;apply Array.ext';rw[zl0]
       simp only[execOp,Instr.buildSlice,aL,run_underlying hu,ay,qK hsz,aG hbig];by_cases h0:len*sz=0
       . have hl0:len=0:=by rcases Nat.mul_eq_zero.1 h0 with h|h<;>omega
         subst hl0;have he:∀ f:Nat->Value,(Array.range (0*sz)).map f = #[]:=by intro f;apply Array.ext';simp
         rw[he]at hfill;simp only[aF h0,he,aL,aV,ay];rw[hfill];rfl
       . simp only[aG h0,aL,aV,hzr,ay];rw[hfill];rfl
      cases dst with
      |none=>obtain⟨n,V,G',w',c1,c2,c3,c4⟩:=qfJ (cx:=cx) a1 run (fun _ _ _ e=>by cases e;rfl);exact⟨n,V,G',w',c1,c2,c3,a2.trans c4⟩
      |some d=>
       obtain⟨G',c1,c2⟩:=qgT (b:=w.heap.size) (cap:=len) (w':=w.alloc (.cells us'.toArray elem)) (vs:=us'.toArray) (T:=elem) a1 (d:=d) (rows:=chunk sz len l) (sz:=sz)
        (fun r o=>if r<len/\o<sz then(xs'[r*sz+o]?).join else none)
        (by simp[size_alloc]) (fun b' hne hlt=>qch _ b' hlt) (by simp[size_alloc]) (qhB a1.inv)
        (fun k x hk hx=>absurd (a1.inv.lt k x hk) (by omega)) (fun hlt=>absurd hlt (Nat.lt_irrefl _)) (by rw[heap_alloc];simp) (Out.alloc _ _)
        (qds sz len l (by rw[<- hlen.2];exact hus)) (by rw[ZO];exact Nat.le_refl _) (by simpa using hus)
        (fun r o c hc=>by
         obtain⟨k1,k2,k3⟩:=qbQ sz len l hc;obtain⟨x,u,k4,k5,k6⟩:=b2.get k3;refine⟨List.all_eq_true.1 hpure c (aN k3),u,by simpa using k5,?_⟩;simp only[k1,k2,and_self,if_true,k4,Option.join_some];cases x with
         |none=>exact⟨qvc.1 k6.1,⟨⟨.res,[]⟩,0,0⟩,k6.2.2.2.2 _⟩
         |some s=>exact⟨k6.2.2.1,k6.2.2.2.1⟩)
        (fun r o s hs=>by
         split at hs
         . rename_i hro;cases hx:xs'[r*sz+o]? with
           |none=>simp[hx]at hs
           |some x=>
            simp only[hx,Option.join_some]at hs;subst hs;have hlt:r*sz+o<l.length:=by rw[<- hlen.1];exact(az.1 hx).1
            obtain⟨x',u,k4,k5,k6⟩:=b2.get (ax hlt);rw[hx]at k4;cases k4;exact k6.2.2.2.2
         . cases hs)
        (fun r o r' o' s s' π π' hs hs' hπ=>by
         split at hs
         .
          rename_i hro;split at hs'
          . rename_i hro';have src:∀ (i:Nat) (s:Pl),(xs'[i]?).join=some s->xs'[i]? = some (some s)/\∃ (k a b:Nat),s=(⟨⟨.slot k,[]⟩,a,b⟩:Pl):=by
             intro i s hs;cases hx:xs'[i]? with
             |none=>simp[hx]at hs
             |some x=>
              simp only[hx,Option.join_some]at hs;subst hs;have hlt:i<l.length:=by rw[<- hlen.1];exact(az.1 hx).1
              obtain⟨x',u,k4,k5,k6⟩:=b2.get (ax hlt);rw[hx]at k4;cases k4;exact⟨rfl,k6.1⟩
            obtain⟨m1,k,x,y,rfl⟩:=src _ _ hs;obtain⟨m2,k',x',y',rfl⟩:=src _ _ hs';simp only[Pl.under,List.nil_append,Key.mk.injEq,Root.slot.injEq,List.cons.injEq,ai]at hπ;obtain⟨rfl,⟨rfl,rfl⟩,rfl⟩:=hπ;have hi:=b3 _ _ _ m1 m2;have hsz0:0<sz:=hcond.2;have h1:(r*sz+o) / sz=r:=by rw[Nat.mul_comm,Nat.mul_add_div hsz0,Nat.div_eq_of_lt hro.2,Nat.add_zero]
            have h2:(r'*sz+o') / sz=r':=by rw[Nat.mul_comm,Nat.mul_add_div hsz0,Nat.div_eq_of_lt hro'.2,Nat.add_zero]
            have hr:r=r':=by rw[<- h1,<- h2,hi]
            subst hr;exact⟨rfl,by omega,rfl⟩
          . cases hs'
         . cases hs)
       rw[ZO]at c1;exact⟨_,_,G',_,run,.inl rfl,c1,a2.trans c2⟩
     . cases e
    . cases e
   . cases e
  . cases e
 . cases e
end
section
variable [Glob]
theorem run_places {P}{fields:Array Field}(h:fields.all (fun f=>(qQ P f.type).isSome)=true)(w):
  (fields.mapM fun f=>do pure (f.offset,<- sizeOf f.type):Sem (Array (Nat×Nat))).run P w=.ok (fields.map fun f=>(f.offset,(qQ P f.type).getD 0)) w:=by
 have go:∀ l:List Field,(∀ f∈l,(qQ P f.type).isSome=true) ->
   (l.mapM fun f=>(do pure (f.offset,<- sizeOf f.type):Sem (Nat×Nat))).run P w=.ok (l.map fun f=>(f.offset,(qQ P f.type).getD 0)) w:=by
  intro l
  induction l with
  |nil=>intro _;rfl
  |cons f l ih=>intro hl;obtain⟨n,hn⟩:=Option.isSome_iff_exists.1 (hl f (by simp));simp only[List.mapM_cons,aL,qK hn,aV,ay,ih (fun f hf=>hl f (aB _ hf)),List.map_cons,hn,Option.getD_some]
 rw[Array.mapM_eq_mapM_toList,<- bind_pure_comp];simp only[aL,go fields.toList (fun f hf=>by rw[Array.all_eq_true_iff_forall_mem]at h;exact h f (Array.mem_toList_iff.1 hf)),ay,aV];congr 1;apply Array.ext';simp
theorem qet {cx G w F F' a o t parts}(ho:o.op=.build t parts)(h:RelF G w F a.tmps)(e:loud cx F o=some F'):Ran cx G w a o F':=by
 obtain⟨dst,op,ty,pos,after,guard⟩:=o;change op=_ at ho;subst ho;unfold loud at e;simp only at e;split at e
 .
  rename_i l place ps F1 hz hpl ht;simp only[aH]at e;obtain⟨l',hf,rfl⟩:=e;obtain⟨z,hzr,rfl,hp,_⟩:=Yj hz;obtain⟨im',xss,a1,a2,_,a4,a5,_⟩:=xJ _ (parts.toList.map fun (i,x)=>(i,a.eval x)) ps G F F1 h (by simp) (fun j x X hx hX=>by
   rw[aI]at hx hX;cases hj:parts.toList[j]? with
   |none=>simp[hj]at hx
   |some y=>simp only[hj,av,aa]at hx hX;subst hx;subst hX;exact⟨rfl,qx h y.2⟩) ht
  obtain⟨xs',us',b1,b2,b3⟩:=YV ps _ xss _ _ l' _ (Yq hp { G with im:=im' } w F1) a4 (by
   unfold Nod;rw[List.filterMap_append];have:(List.replicate z.cells.toList.length (none:Option Pl)).filterMap id=[]:=by rw[List.filterMap_eq_nil_iff];intro x hx;rw[(List.mem_replicate.1 hx).2];rfl
   rw[this];exact a5) hf
  have run:(execOp a.eval ⟨dst,.build t parts,ty,pos,after,guard⟩).run cx.P w=.ok (.value (.agg us'.toArray)) w:=by
   have hfill:Instr.fill place z.cells (parts.map fun (i,x)=>(i,a.eval x)).toList=some us'.toArray:=by rw[Array.toList_map,<- b1]
   unfold placeOf at hpl;split at hpl
   .
    rename_i fields hu;split at hpl
    . rename_i hall;simp only[aa]at hpl;have hpl':place=fun i=>(fields.map fun f=>(f.offset,(qQ cx.P f.type).getD 0))[i]?:=by
       rw[<- hpl];funext i;rw[Array.getElem?_map];cases hi:fields[i]? with
       |none=>rfl
       |some f=>rw[Array.all_eq_true_iff_forall_mem]at hall;obtain⟨n,hn⟩:=Option.isSome_iff_exists.1 (hall f (Array.mem_of_getElem? hi));simp[hn]
      rw[hpl']at hfill;simp only[execOp,Instr.build,aL,hzr,ay,run_underlying hu,run_places hall];rw[hfill];rfl
    . cases hpl
   . rename_i n elem hu;simp only[aH]at hpl;obtain⟨sz,hsz,hpl⟩:=hpl;rw[<- hpl]at hfill;simp only[execOp,Instr.build,aL,hzr,ay,run_underlying hu,qK hsz];rw[hfill];rfl
   . cases hpl
  cases dst with
  |none=>exact⟨_,_,_,w,run,.inl rfl,a1,a2⟩
  |some d=>obtain⟨G',c1,c2⟩:=putL (d:=d) a1 b2 b3 (v:=.ag l') (V:=.agg us'.toArray) (.inl ⟨rfl,rfl⟩);exact⟨_,_,G',w,run,.inl rfl,c1,a2.trans c2⟩
 . cases e
theorem qby {cx G w F F' a o t x y}(ho:o.op=.makeSlice t x y)(h:RelF G w F a.tmps)(e:loud cx F o=some F'):Ran cx G w a o F':=by
 obtain⟨dst,op,ty,pos,after,guard⟩:=o;change op=_ at ho;subst ho;unfold loud at e;simp only at e;split at e
 .
  rename_i elem n m hu hn hm;split at e
  .
   rename_i sz i zl hsz hi hz;split at e
   .
    rename_i hcond;simp only[aa]at e;subst e;simp only[aD,aY]at hcond;obtain⟨⟨⟨⟨h0,h1⟩,h2⟩,h3⟩,h4⟩:=hcond;simp only[lim]at h3;obtain⟨k,hk⟩:=xD (qx h x) hn;obtain⟨k',hk'⟩:=xD (qx h y) hm;obtain⟨z,hzr,rfl,hp,hsz'⟩:=Yj hz;have hzs:z.cells.size=sz:=by rw[hsz]at hsz';have:=aS hsz';simpa using this.symm
    obtain⟨n,rfl⟩:=Int.eq_ofNat_of_zero_le h0;obtain⟨m,rfl⟩:=Int.eq_ofNat_of_zero_le (Int.le_trans h0 h1);have hnm:n<=m:=by omega
    let vs:=(Array.range (m*sz)).map (fun i=>z.cells[i % z.cells.size]!)
    have run:(execOp a.eval ⟨dst,.makeSlice t x y,ty,pos,after,guard⟩).run cx.P w=.ok (.value (.slice (some ⟨w.heap.size,0,none⟩) n m)) (w.alloc (.cells vs elem)):=by
     have wn:IntKind.i64.wrap (n:Int)=n:=by rw[IntKind.wrap_i64];omega
     have wm:IntKind.i64.wrap (m:Int)=m:=by rw[IntKind.wrap_i64];omega
     have hb:¬ ((i.bytes:Int)*(m:Int)>2 ^ 48):=by rw[Int.mul_comm];omega
     have c1:¬ ((m:Int)<0):=by omega
     have c2:¬ ((n:Int)<0):=by omega
     have c3:¬ ((n:Int)>m):=by omega
     have hti:∀ w,(typeInfo elem).run cx.P w=.ok i w:=fun w=>by simp[typeInfo,Sem.run,hi]
     have hai:∀ k (n:Int) w,(Go.asInt (.int k n)).run cx.P w=.ok n w:=fun k n w=>rfl;have hcond:(decide ((m:Int)<0)||decide ((i.bytes:Int)*(m:Int)>2 ^ 48)||decide ((n:Int)<0)||decide ((n:Int)>m))=false:=by rw[aO c1,aO hb,aO c2,aO c3];rfl
     simp only[execOp,Instr.makeSlice,aL,run_underlying hu,ay,hk,hk',hai,hti,wn,wm,hcond,aU,if_false,run_askRoom,Int.toNat_natCast,qK hsz];have he:∀ f:Nat->Value,(Array.range 0).map f = #[]:=by intro f;apply Array.ext';simp
     by_cases h0:m*sz=0
     . simp only[aF h0,aL,aV,ay];have hvs:vs = #[]:=by simp only[vs,h0,he]
       rw[hvs,h0,he];rfl
     . simp only[aG h0,aL,aV,hzr,ay];rfl
    cases dst with
    |none=>exact qfJ h run (fun _ _ _ e=>by cases e;rfl)
    |some d=>
     obtain⟨G',c1,c2⟩:=qgT (b:=w.heap.size) (cap:=m) (w':=w.alloc (.cells vs elem)) (vs:=vs) (T:=elem) h (d:=d) (rows:=List.replicate n (z.cells.toList.map qm)) (sz:=sz)
      (fun _ _=>none) (by simp[size_alloc]) (fun b' hne hlt=>qch _ b' hlt) (by simp[size_alloc]) (qhB h.inv)
      (fun k x hk hx=>absurd (h.inv.lt k x hk) (by omega)) (fun hlt=>absurd hlt (Nat.lt_irrefl _)) (by rw[heap_alloc];simp) (Out.alloc _ _)
      (fun row hr=>by rw[(List.mem_replicate.1 hr).2];simpa using hzs) (by simpa using hnm) (by simp[vs])
      (fun r o c hc=>by
       obtain⟨row,k1,k2⟩:=qc.1 hc;rw[List.getElem?_replicate]at k1;split at k1
       .
        rename_i hr;cases k1;rw[aI]at k2;cases hu:z.cells.toList[o]? with
        |none=>simp[hu]at k2
        |some u=>
         simp only[hu,av,aa]at k2;subst k2;have hpl:QK (qm u)=true:=List.all_eq_true.1 hp _ (List.mem_map_of_mem (aN hu));have hh:=qec hpl G w F;have ho:o<sz:=by have:=(az.1 hu).1;simpa [hzs]using this
         refine⟨?_,u,?_,qvc.1 hh.1,⟨⟨.res,[]⟩,0,0⟩,hh.2.2.2.2 _⟩
         . revert hpl;cases qm u<;>simp[QK,qw]
         . have hlt:r*sz+o<m*sz:=by have:(r+1)*sz<=m*sz:=Nat.mul_le_mul_right _ (by omega);rw[Nat.succ_mul]at this;omega
           simp only[vs,Array.getElem?_map];rw[Array.getElem?_eq_getElem (by simpa using hlt)];simp only[Array.getElem_range,av,hzs];have hmod:(r*sz+o) % sz=o:=by rw[Nat.mul_comm,Nat.mul_add_mod,Nat.mod_eq_of_lt ho]
           rw[hmod];rw[aR]at hu;rw[Array.getElem!_eq_getD,aK,hu];rfl
       . cases k1) (fun r o s hs=>by cases hs) (fun r o r' o' s s' π π' hs=>by cases hs)
     rw[List.length_replicate]at c1;exact⟨_,_,G',_,run,.inl rfl,c1,c2⟩
   . cases e
  . cases e
 . cases e
end
section
variable [Glob]
theorem qgt {G w F F' ts c V rows}(h:RelF G w F ts)(hs:∀ p,Sh G w p c V)(e:frzC F c=some (rows,F')):
  ∃ im',RelF { G with im:=im' } w F' ts/\Gain G w { G with im:=im' } w/\RelI im' w (.imm rows) V:=by
 unfold frzC at e;split at e
 . simp only[aa,ai]at e;obtain⟨rfl,rfl⟩:=e;have hv:V=.slice none 0 0:=hs ⟨⟨.res,[]⟩,0,0⟩;subst hv;exact⟨G.im,h,Gain.refl G w,.immE none 0⟩
 . simp only[aa,ai]at e;obtain⟨rfl,rfl⟩:=e;exact⟨G.im,h,Gain.refl G w,hs ⟨⟨.res,[]⟩,0,0⟩⟩
 .
  rename_i p;split at e
  . rename_i zz rs hg;simp only[aH,ai]at e;obtain⟨F1,hset,rfl,rfl⟩:=e;obtain⟨a1,a2,a3,a4⟩:=h.freezeAt hg (Fr.setTo hset);exact⟨_,a1,a2,a4 V (yD h hs hg (fun hn=>hn.1 _ _ rfl)).1⟩
  . cases e
 . cases e
theorem qiL {im w rows V}(h:RelI im w (.imm rows) V){l k}(hlk:l<=k)(hk:k<=rows.length){sz}(hsz:rows.head?.all (·.length==sz)=true):
  ∃ a cap,V=.slice a rows.length cap/\rows.length<=cap/\RelI im w (.imm ((rows.take k).drop l)) (.slice (if cap=l then a else a.map (·.add (l*sz))) (k-l) (cap-l)):=by
 have hlen:((rows.take k).drop l).length=k-l:=by simp;omega
 cases h with
 |immE a cap=>
  have h1:k=0:=by simpa using hk
  subst h1;have h2:l=0:=by omega
  subst h2;refine⟨a,cap,rfl,Nat.zero_le _,?_⟩;simpa using RelI.immE _ _
 |imm _ b off cap sz' vs T fr us hb hi hcap hr hv hx=>
  refine⟨some ⟨b,off,none⟩,cap,rfl,hcap,?_⟩;cases hd:(rows.take k).drop l with
  |nil=>
   rw[hd]at hlen;have:k-l=0:=by simpa using hlen.symm
   rw[this];exact .immE _ _
  |cons row rest=>
   have hne:rows≠[]:=by rintro rfl;simp at hd
   have hszz:sz'=sz:=by
    cases rows with
    |nil=>exact absurd rfl hne
    |cons r0 rs=>have h1:=hr r0 (by simp);simp at hsz;omega
   subst hszz;rw[<- hd,<- hlen];have hcl:cap≠l:=by rw[hd]at hlen;simp at hlen;omega
   rw[aG hcl];simp only[av,zb];have cell:∀ r o c,cellAt ((rows.take k).drop l) r o=some c->cellAt rows (l+r) o=some c:=by
    intro r o c hc;obtain⟨row,h1,h2⟩:=qc.1 hc;rw[List.getElem?_drop,List.getElem?_take]at h1;split at h1
    . exact qc.2 ⟨row,h1,h2⟩
    . cases h1
   refine .imm _ b (off+l*sz') (cap-l) sz' vs T fr (fun r o=>us (l+r) o) hb hi (by rw[hlen];omega) (fun row hm=>hr row (List.mem_of_mem_take (List.mem_of_mem_drop hm))) (fun r o c hc=>?_) (fun r o c hc=>hx _ _ _ (cell r o c hc));rw[<- hv _ _ _ (cell r o c hc)];congr 1;rw[Nat.add_mul];omega
theorem qdi {P w k}{n:Int}{y:Nat}{code}(h0:0<=n)(h1:n<=y):(Instr.sliceBound (.int k n) y code).run P w=.ok n.toNat w:=by simp only[Instr.sliceBound,asIntOf,aL,aV,ay];rw[aF ⟨h0,h1⟩];rfl
theorem qem {cx G w F F' a o t x lo hi}(ho:o.op=.slice t x lo hi none)(h:RelF G w F a.tmps)(e:loud cx F o=some F'):Ran cx G w a o F':=by
 obtain⟨dst,op,ty,pos,after,guard⟩:=o;change op=_ at ho;subst ho;unfold loud at e;simp only at e;split at e
 .
  rename_i elem hu;split at e
  .
   rename_i rows F1 sz hf hsz;split at e
   .
    rename_i l k hl hk;split at e
    .
     rename_i hcond;simp only[aa]at e;subst e;obtain⟨h0,h1,h2,h3⟩:=hcond;have hs:∀ p,Sh G w p (((F.ev x).cell).getD .dead) (a.eval x):=by
      cases hc:(F.ev x).cell with
      |none=>rw[hc]at hf;simp[frzC]at hf
      |some c=>
       rcases Zh (qx h x) hc with rfl|hh
       . rw[hc]at hf;simp[frzC]at hf
       . exact hh.2
     obtain⟨im',a1,a2,a3⟩:=qgt h hs hf;obtain⟨l,rfl⟩:=Int.eq_ofNat_of_zero_le h0;obtain⟨k,rfl⟩:=Int.eq_ofNat_of_zero_le (Int.le_trans h0 h1);obtain⟨ad,cap,hV,hcap,hrel⟩:=qiL a3 (l:=l) (k:=k) (by omega) (by omega) h3;have run:(execOp a.eval ⟨dst,.slice t x lo hi none,ty,pos,after,guard⟩).run cx.P w=.ok (.value (.slice (if cap=l then ad else ad.map (·.add (l*sz))) (k-l) (cap-l))) w:=by
      have hlo:∀ w,(match lo.map a.eval with
        |some v=>Instr.sliceBound v k BoundsCode.sliceB
        |none=>pure 0:Sem Nat).run cx.P w=.ok l w:=by
       intro w;cases lo with
       |none=>
        simp only[aa]at hl;have:l=0:=by omega
        subst this;rfl
       |some y=>simp only at hl;obtain⟨kk,hkk⟩:=xD (qx h y) hl;simp only[av,hkk];rw[qdi (by omega) (by omega)];simp
      have hhi:∀ w,(match hi.map a.eval with
        |some v=>Instr.sliceBound v cap BoundsCode.sliceAcap
        |none=>pure rows.length:Sem Nat).run cx.P w=.ok k w:=by
       intro w;cases hi with
       |none=>
        simp only[aa]at hk;have:k=rows.length:=by omega
        subst this;rfl
       |some y=>simp only at hk;obtain⟨kk,hkk⟩:=xD (qx h y) hk;simp only[av,hkk];rw[qdi (by omega) (by omega)];simp
      simp only[execOp,Instr.sliceAt,aL,run_underlying hu,ay,Instr.slice,hV,Instr.sliceBounds,Option.map_none,aV];cases hi with
      |none=>
       simp only[Option.map_none]at hhi |-;have hk':k=rows.length:=by simp only[aa]at hk;omega
       subst hk';cases lo with
       |none=>
        have:l=0:=by simp only[aa]at hl;omega
        subst this;simp[aL,aV,ay,qK hsz]
       |some y=>have:=hlo w;simp only[av]at this;simp[aL,aV,ay,qK hsz,this]
      |some z=>
       have h5:=hhi w;simp only[av]at h5;cases lo with
       |none=>
        have:l=0:=by simp only[aa]at hl;omega
        subst this;simp[aL,aV,ay,qK hsz,h5]
       |some y=>have:=hlo w;simp only[av]at this;simp[aL,aV,ay,qK hsz,this,h5]
     refine⟨_,_,_,w,run,.inl rfl,putO a1 (RelV.c (.inr ⟨⟨by intros;simp,by intros;simp⟩,fun p=>hrel⟩)),a2⟩
    . cases e
   . cases e
  . cases e
 . simp only[aH]at e;obtain⟨v,hv,rfl⟩:=e;obtain⟨V,hV,hr⟩:=qEz h qeU hv;exact⟨_,V,G,w,hV,.inl rfl,putO h hr,Gain.refl G w⟩
end
section
variable [Glob]
theorem vC (b):∀ (news:List Value) (o:Nat) (w:World),(w.setCells b o news).heap.size=w.heap.size
 |[],_,_=>rfl
 |v::news,o,w=>by rw[World.setCells,vC b news,size_setCell]
theorem Out.setCells (b):∀ (news:List Value) (o:Nat) (w:World),Out w (w.setCells b o news)
 |[],_,w=>.refl w
 |v::news,o,w=>by rw[World.setCells];exact(Out.setCell w _ v).trans (Out.setCells b news (o+1) _)
theorem XK {b T fr}:∀ (news:List Value) (o:Nat) (w:World) (vs:Array Value),w.heap[b]? = some (.cells vs T fr)->o+news.length<=vs.size ->
  ∃ vs',(w.setCells b o news).heap[b]? = some (.cells vs' T fr)/\vs'.size=vs.size/\(∀ j,(j<o\/o+news.length<=j)->vs'[j]? = vs[j]?)/\(∀ j,j<news.length->vs'[o+j]? = news[j]?) /\
   ∀ b',b'≠b->(w.setCells b o news).heap[b']? = w.heap[b']?
 |[],o,w,vs,h,_=>⟨vs,h,rfl,fun _ _=>rfl,fun j hj=>by simp at hj,fun _ _=>rfl⟩
 |v::news,o,w,vs,h,hl=>by
  simp only[List.length_cons]at hl;have h1:=heap_setCell h v (i:=o);obtain⟨vs',a1,a2,a3,a4,a5⟩:=XK news (o+1) (w.setCell ⟨b,o,none⟩ v) (vs.setIfInBounds o v) (by rw[h1,aF rfl]) (by simp;omega);refine⟨vs',a1,by rw[a2];simp,fun j hj=>?_,fun j hj=>?_,fun b' hb=>?_⟩
  . simp only[List.length_cons]at hj;rw[a3 j (by omega),aX,aG (by omega)]
  . cases j with
    |zero=>rw[Nat.add_zero,a3 o (by omega),aX,aF rfl,aF (by omega)];rfl
    |succ j=>simp only[List.length_cons]at hj;have:=a4 j (by omega);rw[show o+(j+1)=o+1+j from by omega,this];rfl
  . rw[World.setCells,a5 b' hb,h1,aG hb]
theorem qmL {u}(h:oneC u=true):u.oneCell'=true:=by cases u<;>first|rfl|simp[oneC]at h
theorem RelI.sh {G w c u}(h:RelI G.im w c u)(p):Sh G w p c u/\qw c=true/\qy c=false:=by
 cases h with
 |val v h=>exact⟨⟨rfl,h⟩,rfl,rfl⟩
 |nil=>exact⟨rfl,rfl,rfl⟩
 |immE a cap=>exact⟨.immE a cap,rfl,rfl⟩
 |imm rows b off cap sz vs T fr us hb hi hcap hsz hv hr=>exact⟨.imm rows b off cap sz vs T fr us hb hi hcap hsz hv hr,rfl,rfl⟩
 |dead v h=>exact⟨h,rfl,rfl⟩
theorem qaY {rows size}(hs:0<size)(hrow:∀ row∈rows,row.length=size){f:Nat->Option Value}(hf:∀ r o c,cellAt rows r o=some c->∃ u,f (r*size+o)=some u/\oneC u=true):
  ∃ news:List Value,news.length=rows.length*size/\(∀ (j:Nat) u,news[j]? = some u->f j=some u)/\(∀ u∈news,u.oneCell'=true)/\∀ r o c,cellAt rows r o=some c->∃ u,f (r*size+o)=some u/\news[r*size+o]? = some u:=by
 have cell:∀ j,j<rows.length*size->∃ c,cellAt rows (j / size) (j % size)=some c/\j / size*size+j % size=j:=by
  intro j hj;have h1:j / size<rows.length:=by rw[Nat.div_lt_iff_lt_mul hs];exact hj
  have h2:j % size<(rows[j / size]).length:=by rw[hrow _ (List.getElem_mem h1)];exact Nat.mod_lt _ hs
  refine⟨(rows[j / size])[j % size],qc.2 ⟨_,ax h1,ax h2⟩,?_⟩;have:=Nat.div_add_mod j size;rw[Nat.mul_comm]at this;exact this
 let news:=(List.range (rows.length*size)).map fun j=>(f j).getD Go.undef
 have hat:∀ (j:Nat) u,news[j]? = some u->j<rows.length*size/\f j=some u/\oneC u=true:=by
  intro j u hj;simp only[news,aI]at hj;by_cases hlt:j<rows.length*size
  . rw[List.getElem?_range hlt]at hj;obtain⟨c,hc,he⟩:=cell j hlt;obtain⟨u',hu',h1⟩:=hf _ _ c hc;rw[he]at hu';simp only[av,hu',Option.getD_some,aa]at hj;subst hj;exact⟨hlt,hu',h1⟩
  . rw[List.getElem?_eq_none (by simpa using hlt)]at hj;simp at hj
 refine⟨news,by simp[news],fun j u hj=>(hat j u hj).2.1,fun u hu=>?_,fun r o c hc=>?_⟩
 . obtain⟨j,hj⟩:=List.getElem?_of_mem hu;exact qmL (hat j u hj).2.2
 .
  obtain⟨u,hu,_⟩:=hf r o c hc;refine⟨u,hu,?_⟩;obtain⟨row,h1,h2⟩:=qc.1 hc;have hr:=(az.1 h1).1;have ho:o<size:=by have:=(az.1 h2).1;rw[hrow row (aN h1)]at this;exact this
  have hlt:r*size+o<rows.length*size:=by have:(r+1)*size<=rows.length*size:=Nat.mul_le_mul_right _ hr;rw[Nat.succ_mul]at this;omega
  simp[news,aI,List.getElem?_range hlt,hu]
theorem qxr {P:Program}{t1 e1}(h:srcU (P.underlying t1)=some (.slice e1)):(∃ e',P.underlying t1=some (.slice e'))\/P.underlying t1=some .string:=by
 unfold srcU at h;split at h
 . rename_i h1;exact .inr h1
 . exact .inl ⟨_,h⟩
theorem qxP {s r o c}(h:cellAt (yH s) r o=some c):o=0/\∃ b:Nat,c=.val (.int .u8 b)/\(byteCells s)[r]? = some (.int .u8 b):=by
 obtain⟨row,h1,h2⟩:=qc.1 h;unfold yH at h1;rw[aI]at h1;obtain⟨b,hb,rfl⟩:=aH.1 h1;cases o with
 |succ o=>simp at h2
 |zero=>simp only[aJ,aa]at h2;exact⟨rfl,b.toNat,h2.symm,by unfold byteCells;rw[aI,hb];rfl⟩
theorem qk5 {P size t1 e1}(hu1:srcU (P.underlying t1)=some (.slice e1))(hs:0<size){G w F xx c V}(hh:Hold G w F xx c V){more}(hm:QM c=some more)(hsz:more.head?.all (·.length==size)=true):
  ∃ news,Src P size t1 V more.length news w/\(∀ row∈more,row.length=size)/\∀ r o c',cellAt more r o=some c'->qw c'=true/\∃ u,news[r*size+o]? = some u /\
   match (generalizing:=false) xx with
   |none=>qy c'=false/\∃ p,Sh G w p c' u
   |some s=>Sh G w ⟨s.toKey,r,o⟩ c' u/\Tree G w ⟨s.toKey,r,o⟩ c':=by
 have hk:=qxr hu1;have ofSlice:∀ (a:Addr) (n c:Nat) (news:List Value),news.length=n*size->(∀ j u,news[j]? = some u->w.cell? (a.add j)=some u)->(∀ u∈news,u.oneCell'=true)->Src P size t1 (.slice (some a) n c) n news w:=fun a n c news hl hnews h1=>⟨hk,fun _=>rfl,run_firstCells_some w size n a n c news hl hnews,run_firstCells_some w.drew size n a n c news hl (by simpa using hnews),hl,h1⟩
 have empty:∀ (a:Option Addr) (cap:Nat),Src P size t1 (.slice a 0 cap) 0 [] w:=by
  intro a cap;cases a with
  |none=>exact⟨hk,fun _=>rfl,run_firstCells_none w size 0 0 cap,run_firstCells_none w.drew size 0 0 cap,by simp,fun _ h=>by cases h⟩
  |some a=>exact ofSlice a 0 cap [] (by simp) (by intros;simp_all) (by intros;simp_all)
 have rowsOf:∀ sz',(∀ row∈more,row.length=sz')->∀ row∈more,row.length=size:=by
  intro sz' h row hr;cases more with
  |nil=>simp at hr
  |cons r0 rs=>have h0:=h r0 (by simp);simp at hsz;rw[h row hr,<- h0,hsz]
 cases c with
 |nil=>
  simp only[QM,aa]at hm;subst hm;cases xx with
  |none=>have hv:V=.slice none 0 0:=hh.2.2.2.2 ⟨⟨.res,[]⟩,0,0⟩;subst hv;exact⟨[],empty none 0,by simp,by intro r o c' h;simp[cellAt]at h⟩
  |some s=>exact absurd (by constructor<;>intros<;>simp) hh.2.1
 |imm rs=>
  simp only[QM,aa]at hm;subst hm;cases xx with
  |none=>
   have hr:RelI G.im w (.imm rs) V:=hh.2.2.2.2 ⟨⟨.res,[]⟩,0,0⟩;cases hr with
   |immE a cap=>exact⟨[],empty a cap,by simp,by intro r o c' h;simp[cellAt]at h⟩
   |imm _ b off cap sz' vs T fr us hb hi hcap hrow hv hr=>
    have hrow':=rowsOf sz' hrow;have hszz:∀ r o c',cellAt rs r o=some c'->sz'=size:=fun r o c' hc=>by obtain⟨row,h1,_⟩:=qc.1 hc;rw[<- hrow row (aN h1),hrow' row (aN h1)]
    obtain⟨news,n1,n2,n3,n4⟩:=qaY hs hrow' (f:=fun j=>vs[off+j]?) (fun r o c' hc=>by refine⟨us r o,?_,(hr r o c' hc).one⟩;have:=hv r o c' hc;rw[hszz r o c' hc]at this;rw[<- this];congr 1;omega);refine⟨news,ofSlice ⟨b,off,none⟩ rs.length cap news n1 (fun j u hj=>?_) n3,hrow',fun r o c' hc=>?_⟩
    . rw[zb];unfold World.cell?;simp[hb,n2 j u hj]
    . obtain⟨u,h1,h2⟩:=n4 r o c' hc;have hu:u=us r o:=by have:=hv r o c' hc;rw[hszz r o c' hc,Nat.add_assoc]at this;rw[this]at h1;exact(aS h1).symm
      subst hu;have:=(hr r o c' hc).sh (G:=G) ⟨⟨.res,[]⟩,0,0⟩;exact⟨this.2.1,_,h2,this.2.2,_,this.1⟩
  |some s=>exact absurd (by constructor<;>intros<;>simp) hh.2.1
 |own zz rs=>
  simp only[QM,aa]at hm;subst hm;cases xx with
  |none=>exact absurd rfl (hh.1.1 _ rs)
  |some s=>
   obtain⟨_,_,hsh0,ht,_⟩:=hh;rcases hsh0 with⟨_,hrn,hvn⟩|⟨x,g1,g2,g3,g4,g5⟩
   . subst hrn;subst hvn;exact⟨[],empty none 0,by simp,by intro r o c' h;simp[cellAt]at h⟩
   obtain⟨x',vs,T,e1,e2,e3,e4,e5,e6,e7,e8,e9⟩:=(ht [] rs rfl).of_hd (by rw[Pl.under_nil];exact g1) g2;rw[Pl.under_nil]at e1 e8;rw[g1]at e1;cases e1;have hrow':=rowsOf x.sz e5;have hszz:∀ r o c',cellAt rs r o=some c'->x.sz=size:=fun r o c' hc=>by obtain⟨row,h1,_⟩:=qc.1 hc;rw[<- e5 row (aN h1),hrow' row (aN h1)]
   obtain⟨news,n1,n2,n3,n4⟩:=qaY hs hrow' (f:=fun j=>vs[j]?) (fun r o c' hc=>by obtain⟨u,hu,hsh⟩:=e9 r o c' hc;rw[hszz r o c' hc]at hu;exact⟨u,hu,hsh.one⟩);have hV:V=.slice (some ⟨x.b,0,none⟩) rs.length x.cap:=by rw[g3,<- g4];simp[Hd.val,g2]
   rw[hV];refine⟨news,ofSlice ⟨x.b,0,none⟩ rs.length x.cap news n1 (fun j u hj=>?_) n3,hrow',fun r o c' hc=>?_⟩
   . rw[zb];unfold World.cell?;simp[e4,n2 j u hj]
   . obtain⟨u,h1,h2⟩:=n4 r o c' hc;obtain⟨u',hu,hsh⟩:=e9 r o c' hc;rw[hszz r o c' hc,h1]at hu;cases hu;rw[Pl.under_nil]at hsh;refine⟨(e8 (by simp[Pl.toKey])).2 r o c' hc,u,h2,hsh,fun rest rows e=>?_⟩;have:=ht ((r,o)::rest) rows (by simp only[subR,getR,hc];cases c'<;>exact e);rwa [qW]
 |val v=>
  cases v with
  |string s=>
   simp only[QM,aa]at hm;subst hm;cases xx with
   |some q=>exact absurd (by constructor<;>intros<;>simp) hh.2.1
   |none=>
    have hv:V=.string s:=(hh.2.2.2.2 ⟨⟨.res,[]⟩,0,0⟩).1;subst hv;have hl:(yH s).length=s.size:=by unfold yH;rw[List.length_map];rfl
    by_cases h0:s.size=0
    . have hn:yH s=[]:=List.length_eq_zero_iff.1 (hl.trans h0);rw[hn];refine⟨[],⟨hk,fun _=>by simp[Builtin.lenOf,h0],by simp[Builtin.firstCells],by simp[Builtin.firstCells],by simp,fun _ h=>by cases h⟩,by simp,fun r o c' hc=>by simp[cellAt]at hc⟩
    .
     have h1:size=1:=by
      cases hb:yH s with
      |nil=>rw[hb]at hl;exact absurd hl.symm h0
      |cons r0 rs=>
       have hm0:r0∈yH s:=by rw[hb];simp
       obtain⟨b,_,rfl⟩:=List.mem_map.1 hm0;rw[hb]at hsz;exact(by simpa using hsz:1=size).symm
     subst h1;rw[hl];refine⟨byteCells s,⟨hk,fun _=>rfl,firstCells_string s w,firstCells_string s w.drew,by rw[byteCells_length,Nat.mul_one],fun u hu=>by obtain⟨_,_,rfl⟩:=List.mem_map.1 hu;rfl⟩,fun row hr=>?_,fun r o c' hc=>?_⟩
     . obtain⟨b,_,rfl⟩:=List.mem_map.1 hr;rfl
     . obtain⟨rfl,b,rfl,hb⟩:=qxP hc;exact⟨rfl,_,by rw[Nat.mul_one,Nat.add_zero];exact hb,rfl,⟨⟨.res,[]⟩,0,0⟩,rfl,rfl⟩
  |_=>simp[QM]at hm
 |_=>simp[QM]at hm
end
section
variable [Glob]
theorem heap_drew (w:World):w.drew.heap=w.heap:=rfl
theorem qcs {a b r o c}(h:cellAt (a++b) r o=some c):(r<a.length/\cellAt a r o=some c)\/(a.length<=r/\cellAt b (r-a.length) o=some c):=by
 obtain⟨row,h1,h2⟩:=qc.1 h;by_cases hr:r<a.length
 . rw[aZ hr]at h1;exact .inl ⟨hr,qc.2 ⟨row,h1,h2⟩⟩
 . rw[bg (by omega)]at h1;exact .inr ⟨by omega,qc.2 ⟨row,h1,h2⟩⟩
theorem qbC (z)(n):(Builtin.zeroCells z n).size=n*z.size:=by simp[Builtin.zeroCells]
theorem qdd {G w F ts}(h:RelF G w F ts){d rows more sz b cap w' vs T}(hs:0<sz)(p s:Option Pl)(hsize:w.heap.size<=w'.heap.size)(hold:∀ b',b'≠b->b'<w.heap.size->w'.heap[b']? = w.heap[b']?)(hb:b<w'.heap.size)(him:¬ G.im b)(hkey:∀ k x,G.γ k=some x->x.b=b->∃ p0,p=some p0/\k=p0.toKey)(hold':b<w.heap.size->∃ k x,G.γ k=some x/\x.b=b)(hobj:w'.heap[b]? = some (.cells vs T (0,0)))(hout:Out w w')(hrow:∀ row∈rows,row.length=sz)(hrow':∀ row∈more,row.length=sz)(hcap:rows.length+more.length<=cap)(hvs:vs.size=cap*sz)(hfree:∀ p0,p=some p0->∀ π,¬ Uses F (p0.under π))(hfree':∀ s0,s=some s0->∀ π,¬ Uses F (s0.under π))(hap:∀ p0 s0,p=some p0->s=some s0->∀ π π',p0.under π≠s0.under π')(hc1:∀ r o c,cellAt rows r o=some c->qw c=true/\∃ p0 u,p=some p0/\vs[r*sz+o]? = some u/\Sh G w ⟨p0.toKey,r,o⟩ c u/\Tree G w ⟨p0.toKey,r,o⟩ c)(hc2:∀ r o c,cellAt more r o=some c->qw c=true/\∃ u,vs[(rows.length+r)*sz+o]? = some u /\
   match (generalizing:=false) s with
   |none=>qy c=false/\∃ q,Sh G w q c u
   |some s0=>Sh G w ⟨s0.toKey,r,o⟩ c u/\Tree G w ⟨s0.toKey,r,o⟩ c):
  ∃ G',RelF G' w' (F.putS (some d) (.c (.own sz (rows++more)))) (ts.setIfInBounds d (.slice (some ⟨b,0,none⟩) (rows.length+more.length) cap))/\Gain G w G' w':=by
 let X:Nat->Nat->Option Pl:=fun r o=>if r<rows.length then p.map fun p0=>⟨p0.toKey,r,o⟩else s.map fun s0=>⟨s0.toKey,r-rows.length,o⟩
 have hX:∀ r o q,X r o=some q->(r<rows.length/\∃ p0,p=some p0/\q=⟨p0.toKey,r,o⟩)\/(rows.length<=r/\∃ s0,s=some s0/\q=⟨s0.toKey,r-rows.length,o⟩):=by
  intro r o q e;simp only[X]at e;split at e
  . rename_i hr;obtain⟨p0,h1,h2⟩:=aH.1 e;exact .inl ⟨hr,p0,h1,h2.symm⟩
  . rename_i hr;obtain⟨s0,h1,h2⟩:=aH.1 e;exact .inr ⟨by omega,s0,h1,h2.symm⟩
 have under_inj:∀ (q:Pl) r o π r' o' π',(⟨q.toKey,r,o⟩:Pl).under π=(⟨q.toKey,r',o'⟩:Pl).under π'->r=r'/\o=o'/\π=π':=by intro q r o π r' o' π' e;simpa [Pl.under,and_assoc]using e
 obtain⟨G',g1,g2⟩:=qgT h (d:=d) (rows:=rows++more) (sz:=sz) (b:=b) (cap:=cap) (w':=w') (vs:=vs) (T:=T) X hsize hold hb him
  (fun k x hk hx=>by
   obtain⟨p0,hp,rfl⟩:=hkey k x hk hx;refine⟨by simp[Pl.toKey],?_,fun r o q π e=>?_⟩
   . rw[<- Pl.under_nil];exact hfree p0 hp []
   . rcases hX r o q e with⟨_,p1,hp1,rfl⟩|⟨_,s0,hs0,rfl⟩
     . rw[hp]at hp1;cases hp1;intro he;have:=congrArg (fun k=>k.path.length) he;simp[Pl.under,Pl.toKey]at this
     . rw[qW,<- Pl.under_nil];exact hap p0 s0 hp hs0 _ _)
  hold' hobj hout (fun row hr=>by
   rcases List.mem_append.1 hr with hr|hr
   . exact hrow row hr
   . exact hrow' row hr) (by rw[List.length_append];exact hcap) hvs
  (fun r o c hc=>by
   rcases qcs hc with⟨hr,hc⟩|⟨hr,hc⟩
   . obtain⟨a1,p0,u,a2,a3,a4,a5⟩:=hc1 r o c hc;refine⟨a1,u,a3,?_⟩;simp only[X,aF hr,a2,av];exact⟨a4,a5⟩
   . obtain⟨a1,u,a2,a3⟩:=hc2 _ o c hc;rw[show rows.length+(r-rows.length)=r from by omega]at a2;refine⟨a1,u,a2,?_⟩;have hn:¬ r<rows.length:=by omega
     simp only[X,aG hn];cases s with
     |none=>exact a3
     |some s0=>exact a3)
  (fun r o q e π=>by
   rcases hX r o q e with⟨_,p0,hp,rfl⟩|⟨_,s0,hs0,rfl⟩
   . rw[qW];exact hfree p0 hp _
   . rw[qW];exact hfree' s0 hs0 _)
  (fun r o r' o' q q' π π' e e' he=>by
   rcases hX r o q e with⟨h1,p0,hp,rfl⟩|⟨h1,s0,hs0,rfl⟩
   . rcases hX r' o' q' e' with⟨h2,p1,hp1,rfl⟩|⟨h2,s1,hs1,rfl⟩
     . rw[hp]at hp1;cases hp1;exact under_inj _ _ _ _ _ _ _ he
     . rw[qW,qW]at he;exact absurd he (hap p0 s1 hp hs1 _ _)
   . rcases hX r' o' q' e' with⟨h2,p1,hp1,rfl⟩|⟨h2,s1,hs1,rfl⟩
     . rw[qW,qW]at he;exact absurd he.symm (hap p1 s0 hp1 hs0 _ _)
     . rw[hs0]at hs1;cases hs1;obtain⟨a1,a2,a3⟩:=under_inj _ _ _ _ _ _ _ he;exact⟨by omega,a2,a3⟩)
 rw[List.length_append]at g1;exact⟨G',g1,g2⟩
end
section
variable [Glob]
theorem RelF.nilOwn {G w F ts}(h:RelF G w F ts)(d sz):
  ∃ G',RelF G' w (F.putS (some d) (.c (.own sz []))) (ts.setIfInBounds d (.slice none 0 0))/\Gain G w G' w:=by
 have h1:RelF G w ((F.killR (.slot d)).put (some d) (.c .dead)) (ts.setIfInBounds d (.slice none 0 0)):=by
  refine(h.mapC (qP (.slot d))).put_flat ⟨trivial,fun r o c hc=>?_⟩ (fun r o c zz rs hc=>?_)
  . obtain⟨rfl,rfl,rfl⟩:=one_cell hc;exact⟨_,rfl,.inl rfl⟩
  . obtain⟨rfl,rfl,rfl⟩:=one_cell hc;simp
 let Y:Nat->Nat->Option (Option Pl):=fun r o=>if r=0/\o=0 then some none else none
 have hY:∀ r o x,Y r o≠some (some x):=by intro r o x e;simp only[Y]at e;split at e<;>simp at e
 have h2:=h1.mv ⟨.slot d,[]⟩ (Y:=Y) (fun r o r' o' x x' π π' e=>absurd e (hY r o x)) (fun r o π _=>by
  refine vQ h (by simp) (fun r o c zz rs es hc=>?_) (fun r o c hc k hk=>?_)
  . obtain⟨rfl,rfl,rfl⟩:=one_cell hc;simp
  . obtain⟨rfl,rfl,rfl⟩:=one_cell hc;simp[deps]at hk) (fun r o x π e=>absurd e (hY r o x))
 have hγ:(G.mv ⟨.slot d,[]⟩ Y).γ ⟨.slot d,[(0,0)]⟩=none:=by have:Zk ⟨.slot d,[]⟩ ⟨.slot d,[(0,0)]⟩=some (0,0,[]):=xz.2 rfl;simp[Gh.mv,this,Y]
 refine⟨_,?_,Gain.mv ⟨.slot d,[]⟩ Y⟩;have h3:=h2.put (d:=d) (v:=.c (.own sz [])) (V:=.slice none 0 0) ⟨trivial,fun r o c hc=>?_⟩ (fun π rows hπ e=>?_)
 . simpa [Fr.putS,AV.c,qy,Fr.put]using h3
 . obtain⟨rfl,rfl,rfl⟩:=one_cell hc;exact⟨_,rfl,.inr (.inl ⟨hγ,rfl,rfl⟩)⟩
 .
  cases π with
  |nil=>exact absurd rfl hπ
  |cons x π=>
   obtain⟨r,o⟩:=x;simp only[getR]at e;cases hc:cellAt (AV.c (.own sz [])).rows r o with
   |none=>simp[hc]at e
   |some c=>
    obtain⟨rfl,rfl,rfl⟩:=one_cell hc;rw[hc]at e;cases π with
    |nil=>simp only[getR,aa]at e;subst e;exact .inl (.inl ⟨hγ,rfl,by simp⟩)
    |cons y π=>obtain⟨r',o'⟩:=y;simp[getR,cellAt]at e
theorem qeF {P t t1 ty elem e1 i}(hu:P.underlying t=some (.slice elem))(hu1:srcU (P.underlying t1)=some (.slice e1))(hi:P.info? elem=some i){zl}(hz:XP P elem=some zl)(hs:0<i.size){G w F ts}(h:RelF G w F ts){rows more base n cap p}(hbytes:(rows.length+more.length)*i.bytes<=140737488355328)(hlim:rows.length+more.length<=lim)(hold:(p=none/\rows=[]/\base=none/\n=0/\cap=0)\/(∃ p0,p=some p0/\Sh G w p0 (.own i.size rows) (.slice base n cap)/\Tree G w p0 (.own i.size rows)/\∀ π,¬ Uses F (p0.under π))){xx c V}(hh:Hold G w F xx c V)(hm:QM c=some more)(hhead:more.head?.all (·.length==i.size)=true)(hap:∀ p0 s0,p=some p0->xx=some s0->∀ π π',p0.under π≠s0.under π')(d):
  ∃ V' w' G',(Builtin.append_ #[t,t1] ty #[.slice base n cap,V]).run P w=.ok V' w' /\
   RelF G' w' (F.putS (some d) (.c (if p.isNone&&more.isEmpty then .nil else .own i.size (rows++more)))) (ts.setIfInBounds d V')/\Gain G w G' w':=by
 obtain⟨news,hsrc,hrow',hcell'⟩:=qk5 hu1 hs hh hm hhead;obtain⟨z,hzr,rfl,hp,hszz⟩:=Yj hz;have hzi:i.zero=some z:=by
  have:=hzr w;simp only[zeroValue,typeInfo,aL]at this;cases hiz:i.zero with
  |none=>simp[Sem.run,hi,hiz,stuck,unsupported,Result.andThen]at this
  |some z'=>simp[Sem.run,hi,hiz,Result.andThen]at this;rw[this]
 have hzs:z.cells.size=i.size:=by simp only[qQ,hi,av,aa,List.length_map,Array.length_toList]at hszz;exact hszz.symm
 have hnl:news.length=more.length*i.size:=hsrc.newsLen;have hfree':∀ s0,xx=some s0->∀ π,¬ Uses F (s0.under π):=by
  rintro s0 rfl
  exact hh.2.2.2.2
 -- what was there
 have grow:∀ (olds:List Value),n=rows.length->olds.length=n*i.size->cap<n+more.length ->
   (Builtin.firstCells i.size n (.slice base n cap)).run P w.drew=.ok olds.toArray w.drew->(∀ row∈rows,row.length=i.size)->(∀ p0,p=some p0->∀ π,¬ Uses F (p0.under π)) ->
   (∀ r o c,cellAt rows r o=some c->qw c=true/\∃ p0 u,p=some p0/\olds[r*i.size+o]? = some u/\Sh G w ⟨p0.toKey,r,o⟩ c u/\Tree G w ⟨p0.toKey,r,o⟩ c) ->
   ∃ V' w' G',(Builtin.append_ #[t,t1] ty #[.slice base n cap,V]).run P w=.ok V' w' /\
    RelF G' w' (F.putS (some d) (.c (.own i.size (rows++more)))) (ts.setIfInBounds d V')/\Gain G w G' w':=by
  intro olds hn hol hg hfc hrow hfree hc1;have hnm:n+more.length=rows.length+more.length:=by rw[hn]
  have hfit:Builtin.nextslicecap (n+more.length) cap*i.bytes<=281474976710656:=by have h1:=Go.Room.nextslicecap_le' hg;have h2:=Nat.mul_le_mul_right i.bytes h1;rw[Nat.mul_assoc,hnm]at h2;rw[hnm];omega
  have run:=run_append_grow_src (P:=P) w t t1 ty elem i z hu hi hzi base n cap olds hfc V more.length news hsrc hg (by simp only[lim]at hlim;omega) hfit;have hge:=grownCap_ge w (n+more.length) cap elem;generalize hgc:grownCap w (n+more.length) cap elem=gc at run hge;have hsz:((olds++news).toArray++Builtin.zeroCells z.cells (gc-(n+more.length))).size=gc*i.size:=by rw[Array.size_append,qbC,hzs];simp only[List.size_toArray,List.length_append,hol,hnl];rw[<- Nat.add_mul,<- Nat.add_mul];congr 1;omega
  have hat:∀ (j:Nat) u,(olds++news)[j]? = some u->((olds++news).toArray++Builtin.zeroCells z.cells (gc-(n+more.length)))[j]? = some u:=by intro j u hj;have hlt:=(az.1 hj).1;rw[Array.getElem?_append_left (by simpa using hlt)];simpa using hj
  obtain⟨G',g1,g2⟩:=qdd h (d:=d) (rows:=rows) (more:=more) (sz:=i.size) (b:=w.heap.size) (cap:=gc)
   (w':=w.drew.alloc (.cells ((olds++news).toArray++Builtin.zeroCells z.cells (gc-(n+more.length))) elem)) (T:=elem) hs p xx
   (by rw[size_alloc,heap_drew];omega) (fun b' hne hlt=>by rw[heap_alloc,heap_drew,aG hne]) (by rw[size_alloc,heap_drew];omega) (qhB h.inv)
   (fun k x hk hx=>absurd (h.inv.lt k x hk) (by omega)) (fun hlt=>absurd hlt (Nat.lt_irrefl _)) (by rw[heap_alloc,heap_drew,aF rfl]) ((Out.drew w _).trans (Out.alloc _ _))
   hrow hrow' (by omega) hsz hfree hfree' hap
   (fun r o c hc=>by obtain⟨a1,p0,u,a2,a3,a4⟩:=hc1 r o c hc;refine⟨a1,p0,u,a2,hat _ u ?_,a4⟩;rw[aZ (az.1 a3).1];exact a3)
   (fun r o c hc=>by obtain⟨a1,u,a2,a3⟩:=hcell' r o c hc;refine⟨a1,u,hat _ u ?_,a3⟩;rw[Nat.add_mul,Nat.add_assoc,<- hn,<- hol,bg (by omega),Nat.add_sub_cancel_left];exact a2)
  rw[<- hn]at g1;exact⟨_,_,G',run,g1,g2⟩
 rcases hold with⟨rfl,rfl,rfl,rfl,rfl⟩|⟨p0,rfl,hsh,htr,hfree⟩
 .
  by_cases hm0:more=[]
  .
   subst hm0;have hn0:news=[]:=by
    cases news with
    |nil=>rfl
    |cons a l=>simp at hnl
   subst hn0;refine⟨.slice none 0 0,w,G,?_,putV h (RelV.c (.inr ⟨⟨by intros;simp,by intros;simp⟩,fun p=>rfl⟩)),Gain.refl G w⟩;have h1:=hsrc.len;have h2:=hsrc.cells;simp only[List.length_nil]at h1 h2;rcases qxr hu1 with⟨e',hk⟩|hk<;>simp[Builtin.append_,run_underlying hu,run_underlying hk,sizeOf,typeInfo,hi,h1,h2]
  . have:more.isEmpty=false:=by simpa using hm0
    simp only[Option.isNone_none,this,Bool.and_false,aU,if_false];have hml:0<more.length:=List.length_pos_iff.2 hm0;exact grow [] rfl (by simp) (by omega) (run_firstCells_none w.drew i.size 0 0 0) (by simp) (by intro p0 hp;cases hp) (by intro r o c hc;simp[cellAt]at hc)
 .
  simp only[Option.isNone_some,Bool.false_and,aU,if_false];rcases hsh with⟨g1,g2,g3⟩|⟨x,g1,g2,g3,g4,g5⟩
  .
   cases g3;subst g2;by_cases hm0:more=[]
   .
    subst hm0;have hn0:news=[]:=by
     cases news with
     |nil=>rfl
     |cons a l=>simp at hnl
    subst hn0;obtain⟨G',k1,k2⟩:=h.nilOwn d i.size;refine⟨.slice none 0 0,w,G',?_,k1,k2⟩;have h1:=hsrc.len;have h2:=hsrc.cells;simp only[List.length_nil]at h1 h2;rcases qxr hu1 with⟨e',hk⟩|hk<;>simp[Builtin.append_,run_underlying hu,run_underlying hk,sizeOf,typeInfo,hi,h1,h2]
   . have hml:0<more.length:=List.length_pos_iff.2 hm0;exact grow [] rfl (by simp) (by omega) (run_firstCells_none w.drew i.size 0 0 0) (by simp) (by intro p1 hp;cases hp;exact hfree) (by intro r o c hc;simp[cellAt]at hc)
  obtain⟨x',vs,T,f1,f2,f3,f4,f5,f6,f7,f8,f9⟩:=(htr [] rows rfl).of_hd (by rw[Pl.under_nil];exact g1) g2;rw[Pl.under_nil]at f1 f8;rw[g1]at f1;cases f1;simp only[Hd.val,g2,aU,if_false,Value.slice.injEq]at g3;obtain⟨rfl,rfl,rfl⟩:=g3;have hvs:=(f8 (by simp[Pl.toKey])).1;have hrow:∀ row∈rows,row.length=i.size:=fun row hr=>by rw[f5 row hr,g5]
  obtain⟨olds,o1,o2,o3,o4⟩:=qaY hs hrow (f:=fun j=>vs[j]?) (fun r o c hc=>by obtain⟨u,hu,hsh⟩:=f9 r o c hc;rw[g5]at hu;exact⟨u,hu,hsh.one⟩);have hc1:∀ r o c,cellAt rows r o=some c->qw c=true/\∃ q u,(some p0:Option Pl)=some q/\olds[r*i.size+o]? = some u/\vs[r*i.size+o]? = some u/\Sh G w ⟨q.toKey,r,o⟩ c u/\Tree G w ⟨q.toKey,r,o⟩ c:=by intro r o c hc;obtain⟨u,h1,h2⟩:=o4 r o c hc;obtain⟨u',hu,hsh⟩:=f9 r o c hc;rw[g5,h1]at hu;cases hu;rw[Pl.under_nil]at hsh;refine⟨(f8 (by simp[Pl.toKey])).2 r o c hc,p0,u,rfl,h2,h1,hsh,fun rest rs e=>?_⟩;have:=htr ((r,o)::rest) rs (by simp only[subR,getR,hc];cases c<;>exact e);rwa [qW]
  by_cases hroom:x.len+more.length<=x.cap
  .
   have hsize:x.len*i.size+news.length<=vs.size:=by rw[hvs,g5,hnl,<- Nat.add_mul];exact Nat.mul_le_mul_right _ hroom
   have run:=run_append_room_src (P:=P) w t t1 ty elem i hu hi x.b 0 x.len x.cap V more.length news hsrc hroom
    (fun j hj=>by
     unfold World.cell?;simp only[f4];have:x.len*i.size+j<vs.size:=by omega
     simp[this])
    (fun j hj=>by unfold World.frozen?;simp[f4])
   simp only[Nat.zero_add]at run;obtain⟨vs',b1,b2,b3,b4,b5⟩:=XK news (x.len*i.size) w vs f4 hsize;obtain⟨G',c1,c2⟩:=qdd h (d:=d) (rows:=rows) (more:=more) (sz:=i.size) (b:=x.b) (cap:=x.cap) (w':=w.setCells x.b (x.len*i.size) news) (vs:=vs') (T:=T) hs (some p0) xx
    (by rw[vC];exact Nat.le_refl _) (fun b' hne _=>b5 b' hne) (by rw[vC];exact h.inv.lt _ _ g1) f3
    (fun k y hk hy=>⟨p0,rfl,h.inv.inj _ _ _ _ hk g1 hy⟩) (fun _=>⟨_,x,g1,rfl⟩) b1 (Out.setCells _ _ _ _) hrow hrow' (by rw[<- g4];exact hroom) (by rw[b2,hvs,g5])
    (fun q hq=>by cases hq;exact hfree) hfree' hap
    (fun r o c hc=>by obtain⟨a1,q,u,a2,a3,a4,a5⟩:=hc1 r o c hc;refine⟨a1,q,u,a2,?_,a5⟩;have hlt:=(az.1 a3).1;rw[o1,<- g4]at hlt;rw[b3 _ (.inl hlt)];exact a4)
    (fun r o c hc=>by obtain⟨a1,u,a2,a3⟩:=hcell' r o c hc;refine⟨a1,u,?_,a3⟩;rw[Nat.add_mul,Nat.add_assoc,<- g4,b4 _ (az.1 a2).1];exact a2)
   rw[<- g4]at c1;exact⟨_,_,G',run,c1,c2⟩
  . refine grow olds g4 (by rw[o1,g4]) (by omega) ?_ hrow (fun q hq=>by cases hq;exact hfree) (fun r o c hc=>?_)
    . refine run_firstCells_some w.drew i.size x.len ⟨x.b,0,none⟩ x.len x.cap olds (by rw[o1,g4]) (fun j u hj=>?_);rw[zb];unfold World.cell?;simp[heap_drew,f4,o2 j u hj]
    . obtain⟨a1,q,u,a2,a3,_,a5⟩:=hc1 r o c hc;exact⟨a1,q,u,a2,a3,a5⟩
end
section
variable [Glob]
theorem Zc {cx t t1 ty elem e1 i}(hu:cx.P.underlying t=some (.slice elem))(hu1:srcU (cx.P.underlying t1)=some (.slice e1))(hi:cx.P.info? elem=some i){G w F F' ts}(h:RelF G w F ts){rows base n cap p}(hold:(p=none/\rows=[]/\base=none/\n=0/\cap=0)\/(∃ p0,p=some p0/\Sh G w p0 (.own i.size rows) (.slice base n cap)/\Tree G w p0 (.own i.size rows)/\∀ π,¬ Uses F (p0.under π))){xc V}(hx:xc=.dead\/(Seen xc/\∀ q,Sh G w q xc V)){d}(e:Yo cx F d elem i rows p xc=some F'):
  ∃ V' w' G',(Builtin.append_ #[t,t1] ty #[.slice base n cap,V]).run cx.P w=.ok V' w'/\RelF G' w' F' (ts.setIfInBounds d V')/\Gain G w G' w':=by
 unfold Yo at e;split at e
 .
  rename_i c F2 ht;split at e
  .
   rename_i more hm;split at e
   .
    rename_i hcond;simp only[aa]at e;subst e;simp only[aD,aY]at hcond;obtain⟨⟨⟨⟨⟨c1,c2⟩,c3⟩,c4⟩,c5⟩,c6⟩:=hcond;rcases hx with rfl|⟨hseen,hsh⟩
    . simp[takeC]at ht
    .
     obtain⟨im',xx,a1,a2,a3,a4,a5'⟩:=qbK h hseen hsh ht;have a5:=fun s e=>(a5' s e).1;obtain⟨zl,hzl⟩:=Option.isSome_iff_exists.1 c4;obtain⟨V',w',G',b1,b2,b3⟩:=qeF (ty:=ty) hu hu1 hi hzl c3 a1 (rows:=rows) (more:=more) (base:=base) (n:=n) (cap:=cap) (p:=p) c1 c2 (by
      rcases hold with hold|⟨p0,hp,k1,k2,k3⟩
      . exact .inl hold
      . exact .inr ⟨p0,hp,k1.shr a3 (by intros;simp),k2.shr a3 h.inv k3,fun π hu=>k3 π (a3.uses _ hu)⟩) a4 hm c5 (by
      rintro p0 s0 rfl rfl π π' he
      rcases hold with⟨hp,_⟩|⟨p1,hp,k1,k2,k3⟩
      . cases hp
      . cases hp;have hus:=a5 s0 rfl;obtain⟨⟨k,r,o,rfl⟩,hns,hss,_⟩:=a4;have hq:=(a5' _ rfl).2;subst hq;simp only[Pl.under,List.nil_append,Key.mk.injEq]at he;obtain⟨hroot,hpath⟩:=he;simp only[qg3,hroot,List.isEmpty_iff,ne_eq,not_true_eq_false,decide_false,Bool.or_false]at c6;rw[c6]at hpath;simp only[List.nil_append,List.cons.injEq,ai]at hpath;obtain⟨⟨e1,e2⟩,_⟩:=hpath;have:p0=⟨⟨.slot k,[]⟩,r,o⟩:=by
         cases p0 with
         |mk key r0 o0=>cases key;simp_all
        subst this;exact k3 [] (by rw[Pl.under_nil];exact hus)) d
     exact⟨V',w',G',b1,b2,a2.trans b3⟩
   . cases e
  . cases e
 . cases e
theorem qdu {cx G w F F' a o args argTypes}(ho:o.op=.call ⟨.builtin .append,args,argTypes⟩)(h:RelF G w F a.tmps)(e:loud cx F o=some F'):Ran cx G w a o F':=by
 obtain⟨dst,op,ty,pos,after,guard⟩:=o;change op=_ at ho;subst ho;unfold loud at e;simp only at e;split at e
 .
  rename_i s x t t1 d hargs htypes;have hargs':args = #[s,x]:=Array.ext' hargs;have htypes':argTypes = #[t,t1]:=Array.ext' htypes;subst hargs';subst htypes';have fin:∀ {V w' G'},(Builtin.append_ #[t,t1] ty #[a.eval s,a.eval x]).run cx.P w=.ok V w'->RelF G' w' F' (a.tmps.setIfInBounds d V)->Gain G w G' w' ->
    Ran cx G w a ⟨some d,.call ⟨.builtin .append,#[s,x],#[t,t1]⟩,ty,pos,after,guard⟩ F':=by
   intro V w' G' h1 h2 h3;refine⟨_,V,G',w',?_,.inl rfl,h2,h3⟩;simp only[execOp,resolve,pure_bind,invoke,builtin,aL,List.map_toArray,List.map_cons,List.map_nil,h1,ay,aV]
  split at e
  . rename_i elem e1 xc hu hu1 hs hx;split at e
    . rename_i i hi;obtain⟨_,hsn⟩:=qp h hs (by simp);have hV:a.eval s=.slice none 0 0:=hsn ⟨⟨.res,[]⟩,0,0⟩;obtain⟨V',w',G',b1,b2,b3⟩:=Zc (ty:=ty) hu hu1 hi h (.inl ⟨rfl,rfl,rfl,rfl,rfl⟩) (Zh (qx h x) hx) e;rw[<- hV]at b1;exact fin b1 b2 b3
    . cases e
  .
   rename_i elem e1 p xc hu hu1 hs hx;split at e
   .
    rename_i zz rows i F1 hg hi hset;split at e
    . rename_i hzz;subst hzz;obtain⟨_,hsn⟩:=qp h hs (by simp);obtain⟨hsh,_⟩:=yD h hsn hg (fun hn=>hn.1 _ _ rfl);have st:=Fr.setTo hset;have r1:=h.empty st (by intro _;rw[hg];simp);have r2:=r1.mapC (qM p);rcases hsh with⟨y1,y2,y3⟩|⟨y,y1,y2,y3,y4,y5⟩
      . obtain⟨V',w',G',b1,b2,b3⟩:=Zc (ty:=ty) hu hu1 hi (F:=F1.kill p) (base:=none) (n:=0) (cap:=0) r2 (.inr ⟨p,rfl,.inl ⟨y1,y2,rfl⟩,h.tree hg,fun π=>vH r1 st.new π⟩) (Zh (qx h x) hx) e;rw[<- y3]at b1;exact fin b1 b2 b3
      have hV:a.eval s=.slice (some ⟨y.b,0,none⟩) y.len y.cap:=by rw[y3];simp[Hd.val,y2]
      obtain⟨V',w',G',b1,b2,b3⟩:=Zc (ty:=ty) hu hu1 hi (F:=F1.kill p) (base:=some ⟨y.b,0,none⟩) (n:=y.len) (cap:=y.cap) r2 (.inr ⟨p,rfl,.inr ⟨y,y1,y2,by simp[Hd.val,y2],y4,y5⟩,h.tree hg,fun π=>vH r1 st.new π⟩) (Zh (qx h x) hx) e;rw[<- hV]at b1;exact fin b1 b2 b3
    . cases e
   . cases e
  . cases e
 . cases e
end
section
variable [Glob]
theorem RelF.writeMap {G w w' F ts}(h:RelF G w F ts){p}(hd:F.get p=some .dead){x}(hx:G.γ p.toKey=some x)(him:¬ G.im x.b)(hm:∃ ents clock,w.heap[x.b]? = some (.map ents clock))(hs:w.heap.size<=w'.heap.size)(hw:∀ b,b≠x.b->w'.heap[b]? = w.heap[b]?):RelF G w' F ts:=by
 have hi:∀ b,G.im b->w'.heap[b]? = w.heap[b]?:=fun b hb=>hw b (by rintro rfl;exact him hb);have keep:∀ q c u,F.get q=some c->Sh G w q c u->Sh G w' q c u:=by
  intro q c u hq hsh;cases c with
  |imm rows=>exact RelI.mono (fun _ h=>h) hi hsh
  |mp es=>
   obtain⟨y,ents,clock,e1,e2,e3,e4,e5,e6⟩:=hsh;have hne:y.b≠x.b:=by intro hb;have:=Xu (h.inv.inj _ _ _ _ e1 hx hb);subst this;rw[hd]at hq;cases hq
   exact⟨y,ents,clock,e1,e2,e3,e4,by rw[hw _ hne];exact e5,e6.mono (fun _ h=>h) hi⟩
  |cptr row o=>obtain⟨b,base,vs,T,fr,e1,e2,e3,e4⟩:=hsh;exact⟨b,base,vs,T,fr,e1,e2,by rw[hi _ e1];exact e3,fun j c e=>let ⟨u,hu,hr⟩:=e4 j c e;⟨u,hu,hr.mono (fun _ h=>h) hi⟩⟩
  |_=>exact hsh
 refine⟨⟨h.inv.inj,fun k y e=>Nat.lt_of_lt_of_le (h.inv.lt k y e) hs,fun b e=>Nat.lt_of_lt_of_le (h.inv.imlt b e) hs,fun b hb=>⟨(h.inv.glob b hb).1,(hi b (h.inv.glob b hb).1).trans (h.inv.glob b hb).2⟩⟩,h.size,fun k v e=>?_,h.boxes,h.live,fun k rows e hk=>?_⟩
 . obtain⟨V,hV,hr⟩:=h.slots k v e;exact⟨V,hV,hr.map fun r o c u hc hsh=>keep _ c u (qz (zR e) hc) hsh⟩
 .
  rcases h.cont k rows e hk with(hn|⟨y,es,ents,clock,g0,g1,g2,g3,g4,g5,g6⟩)|⟨y,vs,T,e1,e2,e3,e4,e5,e6,e7,e8,e9⟩
  . exact .inl (.inl hn)
  . have hne:y.b≠x.b:=by intro hb;have:=h.inv.inj _ _ _ _ g2 hx hb;rw[this]at g1;simp[Pl.toKey]at g1
    exact .inl (.inr ⟨y,es,ents,clock,g0,g1,g2,g3,g4,by rw[hw _ hne];exact g5,g6.mono (fun _ h=>h) hi⟩)
  have hne:y.b≠x.b:=by intro hb;obtain⟨ents,clock,hm⟩:=hm;rw[hb,hm]at e4;cases e4
  exact .inr ⟨y,vs,T,e1,e2,e3,by rw[hw _ hne];exact e4,e5,e6,e7,e8,fun r o c hc=>let ⟨u,hu,hsh⟩:=e9 r o c hc;⟨u,hu,keep _ c u (qz e hc) hsh⟩⟩
theorem qCE {F F':Fr}{k0}(hk0:k0.path=[])(hb:k0.root.boxed=true){es c}(hg:F.get ⟨k0,0,0⟩=some (.mpb es))(e:F.set ⟨k0,0,0⟩ c=some F'):
  F'.slots=F.slots/\∃ l,F.boxes.lookup k0.root=some (.mpb es::l)/\F'.boxes=YQ k0.root (c::l) F.boxes:=by
 obtain⟨r,π⟩:=k0;simp only at hk0 hb;subst hk0;have hns:∀ k,r≠.slot k:=by rintro k rfl;simp[Root.boxed]at hb
 unfold Fr.get Fr.rowsAt at hg;simp only[Fr.rows_ns _ hns]at hg;unfold Fr.set at e;simp only[Fr.rows_ns _ hns]at e;cases hl:F.boxes.lookup r with
 |none=>simp[hl]at hg
 |some l=>
  simp only[hl,av,ae,getR]at hg e;cases l with
  |nil=>simp[cellAt]at hg
  |cons c0 l=>
   simp only[cellAt,aJ,ae,aa]at hg;subst hg;simp only[updR,putAt,cellAt,aJ,ae,setRow,List.set_cons_zero,Option.getD_some,aa]at e;subst e;cases r with
   |slot k=>exact absurd rfl (hns k)
   |_=>exact⟨rfl,l,rfl,rfl⟩
theorem RelF.writeMbox {G w w' F F' ts}(h:RelF G w F ts){k0}(hk0:k0.path=[]){es es'}(hg:F.get ⟨k0,0,0⟩=some (.mpb es)){x}(hx:G.γ k0=some x)(hxm:x.isMap=true)(him:¬ G.im x.b){ents' clock'}(hs:w.heap.size<=w'.heap.size)(hw:∀ b,b≠x.b->w'.heap[b]? = w.heap[b]?)(hn:w'.heap[x.b]? = some (.map ents' clock'))(hes:ZB G.im w es' ents'.toList)(hset:F.set ⟨k0,0,0⟩ (.mpb es')=some F'):RelF G w' F' ts:=by
 have hi:∀ b,G.im b->w'.heap[b]? = w.heap[b]?:=fun b hb=>hw b (by rintro rfl;exact him hb);have hin:k0.inHeap:=qxB (q:=⟨k0,0,0⟩) h hg;have hb:k0.root.boxed=true:=hin.resolve_left (fun h=>h hk0);obtain⟨hsl,l,hl,hbx⟩:=qCE hk0 hb hg hset;have hl0:l=[]:=by
  have hr:F.rowsAt k0=some [.mpb es::l]:=by
   obtain⟨r,π⟩:=k0;simp only at hk0 hb hl;subst hk0;have hns:∀ k,r≠.slot k:=by rintro k rfl;simp[Root.boxed]at hb
   simp[Fr.rowsAt,Fr.rows_ns _ hns,hl,getR]
  rcases h.cont _ _ hr hin with(⟨n,_⟩|⟨_,_,_,_,e,_⟩)|⟨y,_,_,e1,e2,_⟩
  . rw[hx]at n;cases n
  . simp at e;exact e.2
  . rw[hx]at e1;cases e1;rw[hxm]at e2;cases e2
 subst hl0;have keep:∀ q c u,F.get q=some c->Sh G w q c u->Sh G w' q c u:=by
  intro q c u hq hsh;cases c with
  |imm rows=>exact RelI.mono (fun _ h=>h) hi hsh
  |mp es=>
   obtain⟨y,ents,clock,e1,e2,e3,e4,e5,e6⟩:=hsh;have hne:y.b≠x.b:=by intro hb;have:=h.inv.inj _ _ _ _ e1 hx hb;rw[<- this]at hk0;simp[Pl.toKey]at hk0
   exact⟨y,ents,clock,e1,e2,e3,e4,by rw[hw _ hne];exact e5,e6.mono (fun _ h=>h) hi⟩
  |cptr row o=>obtain⟨b,base,vs,T,fr,e1,e2,e3,e4⟩:=hsh;exact⟨b,base,vs,T,fr,e1,e2,by rw[hi _ e1];exact e3,fun j c e=>let ⟨u,hu,hr⟩:=e4 j c e;⟨u,hu,hr.mono (fun _ h=>h) hi⟩⟩
  |_=>exact hsh
 have look:∀ r,F'.boxes.lookup r=if r=k0.root then some [.mpb es']else F.boxes.lookup r:=by
  intro r;rw[hbx,yu];split
  . rename_i hr;rw[hl];rfl
  . rfl
 refine⟨⟨h.inv.inj,fun k y e=>Nat.lt_of_lt_of_le (h.inv.lt k y e) hs,fun b e=>Nat.lt_of_lt_of_le (h.inv.imlt b e) hs,fun b hb=>⟨(h.inv.glob b hb).1,(hi b (h.inv.glob b hb).1).trans (h.inv.glob b hb).2⟩⟩,by rw[hsl];exact h.size,fun k v e=>?_,fun r l e=>?_,fun d hd=>?_,fun k rows e hk=>?_⟩
 . rw[hsl]at e;obtain⟨V,hV,hr⟩:=h.slots k v e;exact⟨V,hV,hr.map fun r o c u hc hsh=>keep _ c u (qz (zR e) hc) hsh⟩
 .
  rw[look]at e;split at e
  . rename_i hr;rw[hr];exact h.boxes _ _ hl
  . exact h.boxes _ _ e
 .
  rw[look];split
  . rfl
  . exact h.live d hd
 .
  obtain⟨r,π⟩:=k;by_cases hr:r=k0.root
  .
   subst hr;have hns:∀ k,k0.root≠.slot k:=by intro k hk;rw[hk]at hb;simp[Root.boxed]at hb
   have e':getR [[Cell.mpb es']] π=some rows:=by unfold Fr.rowsAt at e;rw[Fr.rows_ns _ hns,look,aF rfl]at e;simpa using e
   cases π with
   |nil=>
    simp only[getR,aa]at e';subst e';have hkk:(⟨k0.root,[]⟩:Key)=k0:=by cases k0;simp_all
    exact .inl (.inr ⟨x,es',ents',clock',rfl,rfl,by rw[hkk];exact hx,hxm,him,hn,hes.mono (fun _ h=>h) hi⟩)
   |cons y π=>
    obtain⟨a,b⟩:=y;simp only[getR]at e';cases hc:cellAt [[Cell.mpb es']] a b with
    |none=>simp[hc]at e'
    |some c=>obtain⟨_,_,rfl⟩:=qww hc;simp[hc]at e'
  .
   have e2:F.rowsAt ⟨r,π⟩=some rows:=by
    unfold Fr.rowsAt at e |-;rw[<- e];congr 1;cases r with
    |slot j=>simp[Fr.rows,hsl]
    |_=>simp only[Fr.rows];rw[look,aG hr]
   rcases h.cont _ rows e2 hk with(hn|⟨y,es2,ents,clock,g0,g1,g2,g3,g4,g5,g6⟩)|⟨y,vs,T,e1,e2',e3,e4,e5,e6,e7,e8,e9⟩
   . exact .inl (.inl hn)
   . have hne:y.b≠x.b:=by intro hb;have:=h.inv.inj _ _ _ _ g2 hx hb;exact hr (congrArg Key.root this)
     exact .inl (.inr ⟨y,es2,ents,clock,g0,g1,g2,g3,g4,by rw[hw _ hne];exact g5,g6.mono (fun _ h=>h) hi⟩)
   . have hne:y.b≠x.b:=by intro hb;have:=h.inv.inj _ _ _ _ e1 hx hb;exact hr (congrArg Key.root this)
     exact .inr ⟨y,vs,T,e1,e2',e3,by rw[hw _ hne];exact e4,e5,e6,e7,e8,fun r o c hc=>let ⟨u,hu,hsh⟩:=e9 r o c hc;⟨u,hu,keep _ c u (qz e2 hc) hsh⟩⟩
theorem qgN {P t}(hf:qL P t=true){k k' b}(hk:qbk P t k k'=some b)(w):(Op.equal t k k').run P w=.ok b w:=by unfold qbk at hk;have hu:=(zA hf).1;rw[hu]at hk;cases k<;>cases k'<;>simp only[reduceCtorEq]at hk;rw[aF hf]at hk;exact yF hf hk 9998 w
def Put (im:Nat->Prop)(w:World)(k v:Value)(es':List (Value×List Cell))(ents:List MapEntry)(res:Option (Nat×Value))(i0:Nat):Prop:=
 (res=none/\∀ b,ZB im w es' (ents++[{ key:=k,val:=v,born:=b }])) \/
 (∃ i ent u,res=some (i0+i,u)/\ents[i]? = some ent/\Instr.sameBits 10000 ent.key k=true/\ZB im w es' (ents.modify i fun e=>{ e with key:=k,val:=v }))
theorem qa0 {P t d}(hu:P.underlying t=some d)(hs:∀ fs,d≠.struct fs){im w k v l}(hv:ZQ im w l v):
  ∀ (es:List (Value×List Cell)) (ents:List MapEntry) (es':List (Value×List Cell)) (i0:Nat),ZB im w es ents->xL P t k l es=some es' ->
   ∃ res,Instr.findNow d k ents i0=some res/\Put im w k v es' ents res i0
 |[],[],es',i0,_,e=>by simp only[xL,aa]at e;subst e;exact⟨none,rfl,.inl ⟨rfl,fun b=>⟨rfl,hv,trivial⟩⟩⟩
 |(k',l0)::es,x::ents,es',i0,⟨h1,h2,h3⟩,e=>by
  simp only[xL]at e;cases hk:qbk P t k k' with
  |none=>simp[hk]at e
  |some b=>
   have hn:=qdW hu hk hs;cases b with
   |true=>
    simp only[hk]at e;split at e
    . rename_i hsame;simp only[aa]at e;subst e;exact⟨some (i0,x.val),by simp[Instr.findNow,h1,hn],.inr ⟨0,x,x.val,rfl,rfl,by rw[h1];exact hsame,⟨rfl,hv,h3⟩⟩⟩
    . cases e
   |false=>
    simp only[hk,aH]at e;obtain⟨es1,e1,rfl⟩:=e;obtain⟨res,a1,a2⟩:=qa0 hu hs hv es ents es1 (i0+1) h3 e1;refine⟨res,by simp[Instr.findNow,h1,hn,a1],?_⟩;rcases a2 with⟨rfl,a2⟩|⟨i,ent,u,b1,b2,b3,b4⟩
    . exact .inl ⟨rfl,fun b=>⟨h1,h2,a2 b⟩⟩
    . exact .inr ⟨i+1,ent,u,by rw[b1];congr 2;omega,by simpa using b2,b3,⟨h1,h2,b4⟩⟩
 |[],_::_,_,_,h,_=>h.elim
 |_::_,[],_,_,h,_=>h.elim
theorem YM {P t}(hf:qL P t=true){im w k v l}(hv:ZQ im w l v):
  ∀ (es:List (Value×List Cell)) (ents:List MapEntry) (es':List (Value×List Cell)) (i0:Nat),ZB im w es ents->xL P t k l es=some es' ->
   ∃ res,(Instr.findAsking t k ents i0).run P w=.ok res w/\Put im w k v es' ents res i0
 |[],[],es',i0,_,e=>by simp only[xL,aa]at e;subst e;exact⟨none,rfl,.inl ⟨rfl,fun b=>⟨rfl,hv,trivial⟩⟩⟩
 |(k',l0)::es,x::ents,es',i0,⟨h1,h2,h3⟩,e=>by
  simp only[xL]at e;cases hk:qbk P t k k' with
  |none=>simp[hk]at e
  |some b=>
   have heq:(Op.equal t k x.key).run P w=.ok b w:=by rw[h1];exact qgN hf hk w
   cases b with
   |true=>
    simp only[hk]at e;split at e
    . rename_i hsame;simp only[aa]at e;subst e;exact⟨some (i0,x.val),by simp[Instr.findAsking,heq],.inr ⟨0,x,x.val,rfl,rfl,by rw[h1];exact hsame,⟨rfl,hv,h3⟩⟩⟩
    . cases e
   |false=>
    simp only[hk,aH]at e;obtain⟨es1,e1,rfl⟩:=e;obtain⟨res,a1,a2⟩:=YM hf hv es ents es1 (i0+1) h3 e1;refine⟨res,by simp[Instr.findAsking,heq,a1],?_⟩;rcases a2 with⟨rfl,a2⟩|⟨i,ent,u,b1,b2,b3,b4⟩
    . exact .inl ⟨rfl,fun b=>⟨h1,h2,a2 b⟩⟩
    . exact .inr ⟨i+1,ent,u,by rw[b1];congr 2;omega,by simpa using b2,b3,⟨h1,h2,b4⟩⟩
 |[],_::_,_,_,h,_=>h.elim
 |_::_,[],_,_,h,_=>h.elim
end
section
variable [Glob]
theorem qeu {P t im w k v l}(hk:qdG P t k)(hv:ZQ im w l v){es es' ents}(h:ZB im w es ents)(e:xL P t k l es=some es'):∃ res,(Instr.findKey t k ents).run P w=.ok res w/\Put im w k v es' ents res 0:=by
 unfold qdG at hk;cases hu:P.underlying t with
 |none=>simp[hu]at hk
 |some d=>
  rw[hu]at hk;by_cases hs:∃ fs,d=.struct fs
  .
   obtain⟨fs,rfl⟩:=hs;cases k<;>simp only at hk;cases es with
   |nil=>
    cases ents with
    |nil=>simp only[xL,aa]at e;subst e;exact⟨none,by simp[Instr.findKey,run_underlying hu,Instr.findNow],.inl ⟨rfl,fun b=>⟨rfl,hv,trivial⟩⟩⟩
    |cons _ _=>exact h.elim
   |cons y es=>
    cases ents with
    |nil=>exact h.elim
    |cons x ents=>
     obtain⟨res,e1,e2⟩:=YM hk.1 hv (y::es) (x::ents) es' 0 h e;refine⟨res,?_,e2⟩;have:∀ a b,Instr.sameNow (.struct fs) a b=none:=by intro a b;rfl
     simp only[Instr.findKey,aL,run_underlying hu,ay,Instr.findNow,this];exact e1
  . obtain⟨res,e1,e2⟩:=qa0 hu (fun fs e=>hs ⟨fs,e⟩) hv es ents es' 0 h e;exact⟨res,by simp only[Instr.findKey,aL,run_underlying hu,ay,e1,aV],e2⟩
theorem ZQ.imm {im w l v}(h:ZQ im w l v):ZQ im w (qfz l) v:=by obtain⟨h1,h2,h3⟩:=h;rw[qiq];refine⟨by rw[List.length_map];exact h1,by rw[List.length_map];exact h2,fun o c hc=>?_⟩;rw[aI,aH]at hc;obtain⟨c0,hc0,rfl⟩:=hc;obtain⟨u,hu,hr⟩:=h3 o c0 hc0;exact⟨u,hu,by cases hr<;>first|exact .val _ ‹_›|exact .immE _ _|exact .dead _ ‹_›|exact .imm _ _ _ _ _ _ _ _ _ ‹_› ‹_› ‹_› ‹_› ‹_› ‹_›⟩
theorem RelV.row {G w v V}(h:RelV G w v V){l}(hl:v.cells=some l)(ht:(match v.tag with|.one=>l.length==1|_=>l.length != 1)=true)(hp:l.all (fun c=>match c with|.val _|.nil|.imm _=>true|_=>false)=true):ZQ G.im w l V:=by
 have toI:∀ c u,c∈l->(c=.dead\/(Seen c/\∀ p,Sh G w p c u))->RelI G.im w c u:=by
  intro c u hc hx;have h1:=List.all_eq_true.1 hp c hc;rcases hx with rfl|⟨_,hs⟩
  . cases h1
  .
   have hs:=hs ⟨⟨.res,[]⟩,0,0⟩;cases c with
   |val v=>obtain⟨rfl,h⟩:=hs;exact .val _ h
   |nil=>cases hs;exact .nil
   |imm rows=>exact hs
   |_=>cases h1
 rcases Xf hl with⟨htag,rfl⟩|⟨htag,c,rfl,rfl⟩
 . obtain⟨vs,rfl,h1,h2⟩:=h.agg_inv;simp only[AV.ag,bne_iff_ne,ne_eq]at ht;refine⟨by rw[aG ht];exact⟨vs,rfl⟩,h1,fun o c ho=>?_⟩;obtain⟨u,hu,hx⟩:=h2 o c ho;exact⟨u,hu,toI c u (aN ho) hx⟩
 .
  obtain⟨u,hu,hx⟩:=h.2 0 0 c rfl;simp only[AV.c,qX,aa]at hu;subst hu;have hI:=toI c V (by simp) hx;refine⟨by simpa using hI.one,by rw[qo1 hI.one];rfl,fun o c' ho=>?_⟩;rw[qo1 hI.one];cases o with
  |zero=>simp at ho;subst ho;exact⟨V,rfl,hI⟩
  |succ o=>simp at ho
end
section
variable [Glob]
theorem qgx {cx:Cx}{G w F F'}{a:Act}{t kt et m k x p kv l es es'}(h:RelF G w F a.tmps)(hu:cx.P.underlying t=some (.map kt et))(hc:(F.ev m).cell=some (.ref p))(hk:(F.ev k).con=some kv)(hl:(F.ev x).cells=some l)(hg:F.get p=some (.mp es))(hko:ZK cx.P kt kv=true)(ht:(match (F.ev x).tag with|.one=>l.length==1|_=>l.length != 1)=true)(hp:l.all (fun c=>match c with|.val _|.nil|.imm _=>true|_=>false)=true)(hput:xL cx.P kt kv (qfz l) es=some es')(hset:F.set p (.mp es')=some F'):
  ∃ G' w',(Instr.mapUpdate t (a.eval m) (a.eval k) (a.eval x)).run cx.P w=.ok () w'/\RelF G' w' F' a.tmps/\Gain G w G' w':=by
 obtain⟨_,hs⟩:=qp h hc (by simp);obtain⟨⟨y,ents,clock,e1,e2,e3,e4,e5,e6⟩,_⟩:=yD h hs hg (fun hn=>hn.2 _ rfl);have hV:a.eval m=.map (some y.b):=by rw[e3];simp[Hd.val,e2]
 have hkv:=yc (qx h k) hk;have hkk:=qfr hko;obtain⟨res,hfr,hpt⟩:=qeu hkk ((qx h x).row hl ht hp).imm e6 hput;have hget:(getObj y.b).run cx.P w=.ok (.map ents clock) w:=by simp[getObj,Sem.run,e5]
 have setRun:∀ o:Obj,(setObj y.b o).run cx.P w=.ok () { w with heap:=w.heap.setIfInBounds y.b o }:=by intro o;simp[setObj,Sem.run,e5]
 have hlt:=h.inv.lt _ _ e1;obtain⟨F1,hF1⟩:=Fr.set_of_get hg .dead;have st1:=Fr.setTo hF1;have st:=Fr.setTo hset;have r1:=h.empty st1 (by intro _;rw[hg];simp);have fin:∀ ents' clock',ZB G.im w es' (Array.toList ents')->RelF G { w with heap:=w.heap.setIfInBounds y.b (.map ents' clock') } F' a.tmps/\Gain G w G { w with heap:=w.heap.setIfInBounds y.b (.map ents' clock') }:=by
  intro ents' clock' hes;have hheap:∀ b,({ w with heap:=w.heap.setIfInBounds y.b (.map ents' clock') }:World).heap[b]? = if y.b=b then some (.map ents' clock')else w.heap[b]?:=by intro b;simp only[aX,hlt,if_true]
  have hother:∀ b,b≠y.b->({ w with heap:=w.heap.setIfInBounds y.b (.map ents' clock') }:World).heap[b]? = w.heap[b]?:=fun b hb=>by rw[hheap,aG (fun e=>hb e.symm)]
  have hsz:({ w with heap:=w.heap.setIfInBounds y.b (.map ents' clock') }:World).heap.size=w.heap.size:=by simp
  have him:∀ b,G.im b->({ w with heap:=w.heap.setIfInBounds y.b (.map ents' clock') }:World).heap[b]? = w.heap[b]?:=fun b hb=>hother b (by rintro rfl;exact e4 hb);have r2:=r1.writeMap st1.new e1 e4 ⟨ents,clock,e5⟩ (by rw[hsz];exact Nat.le_refl _) hother;refine⟨r2.set (st1.comb st) (fun hn=>?_) (fun u hu=>.inr ?_) (Tree.flat (by intros;simp)) (by intro _;rw[st1.new];simp),?_⟩
  . have:=h.pure hg hn;simp[qw]at this
  .
   obtain⟨u0,hu0,hs0⟩:=h.val hg;have hue:u=u0:=by
    rcases hu with⟨hi,z,vs,T,a1,a2,a3⟩|⟨hn,j,v,V,a1,a2,a3,a4⟩
    . have hne:z.b≠y.b:=by intro hb;rw[hb,hheap,aF rfl]at a2;cases a2
      rw[hother _ hne]at a2;exact Val.unique (G:=G) (F:=F) (ts:=a.tmps) (.inl ⟨hi,z,vs,T,a1,a2,a3⟩) hu0
    . have htag:=st1.tags j;rw[a2]at htag;cases hj:F.slots[j]? with
      |none=>simp[hj]at htag
      |some v0=>simp only[hj,av,aa]at htag;exact Val.unique (G:=G) (w:=w) (.inr ⟨hn,j,v0,V,a1,hj,a3,by rw[<- htag];exact a4⟩) hu0
   subst hue;rcases hs0 with⟨hd,_⟩|hs0
   . cases hd
   . obtain⟨y',_,_,f1,f2,f3,_⟩:=hs0;rw[e1]at f1;cases f1;exact⟨y,ents',clock',e1,e2,f3,e4,by rw[hheap,aF rfl],hes.mono (fun _ h=>h) him⟩
  . refine⟨by rw[hsz];exact Nat.le_refl _,fun _ h=>h,him,fun b _ hn=>⟨hother b fun e=>hn _ _ e1 e.symm,fun h=>h⟩,fun k x e=>.inl ⟨k,x,e,rfl⟩,fun _=>rfl,⟨rfl,rfl⟩,fun _ h=>⟨h,rfl⟩⟩
 rcases hpt with⟨rfl,hes⟩|⟨i,ent,u,rfl,hent,hsame,hes⟩
 . obtain⟨b1,b2⟩:=fin (ents.push { key:=kv,val:=a.eval x,born:=clock }) (clock+1) (by rw[Array.toList_push];exact hes clock);refine⟨G,_,?_,b1,b2⟩;simp only[Instr.mapUpdate,aL,run_underlying hu,ay,hV,hget,hkv,run_checkKey hkk,hfr,setRun]
 . obtain⟨b1,b2⟩:=fin (ents.modify i fun e=>{ e with key:=kv,val:=a.eval x }) clock (by rw[Array.toList_modify];exact hes);refine⟨G,_,?_,b1,b2⟩;have hent':ents[i]? = some ent:=by simpa using hent
   simp only[Nat.zero_add]at hfr;simp only[Instr.mapUpdate,aL,run_underlying hu,ay,hV,hget,hkv,run_checkKey hkk,hfr,hent',av,Option.getD_some,Instr.keyThatStays,hsame,if_true,aV,setRun]
theorem qyV {cx:Cx}{G w F F'}{a:Act}{t kt et m k x q kv l es es'}(h:RelF G w F a.tmps)(hu:cx.P.underlying t=some (.map kt et))(hc:(F.ev m).cell=some (.ptr q))(hk:(F.ev k).con=some kv)(hl:(F.ev x).cells=some l)(hq:q.isM=true)(hg:F.get ⟨q.key,0,0⟩=some (.mpb es))(hko:ZK cx.P kt kv=true)(ht:(match (F.ev x).tag with|.one=>l.length==1|_=>l.length != 1)=true)(hp:l.all (fun c=>match c with|.val _|.nil|.imm _=>true|_=>false)=true)(hput:xL cx.P kt kv (qfz l) es=some es')(hset:F.set ⟨q.key,0,0⟩ (.mpb es')=some F'):
  ∃ G' w',(Instr.mapUpdate t (a.eval m) (a.eval k) (a.eval x)).run cx.P w=.ok () w'/\RelF G' w' F' a.tmps/\Gain G w G' w':=by
 obtain⟨_,hs⟩:=qp h hc (by simp);have hq':q.key.path=[]:=by simp only[Pl.isM,aD,List.isEmpty_iff]at hq;exact hq.1
 obtain⟨y,ents,clock,e1,e2,e3,e4,e5,e6⟩:=qAI h hs hg;have hkv:=yc (qx h k) hk;have hkk:=qfr hko;obtain⟨res,hfr,hpt⟩:=qeu hkk ((qx h x).row hl ht hp).imm e6 hput;have hget:(getObj y.b).run cx.P w=.ok (.map ents clock) w:=by simp[getObj,Sem.run,e5]
 have setRun:∀ o:Obj,(setObj y.b o).run cx.P w=.ok () { w with heap:=w.heap.setIfInBounds y.b o }:=by intro o;simp[setObj,Sem.run,e5]
 have hlt:=h.inv.lt _ _ e1;have fin:∀ ents' clock',ZB G.im w es' (Array.toList ents')->RelF G { w with heap:=w.heap.setIfInBounds y.b (.map ents' clock') } F' a.tmps/\Gain G w G { w with heap:=w.heap.setIfInBounds y.b (.map ents' clock') }:=by
  intro ents' clock' hes;have hheap:∀ b,({ w with heap:=w.heap.setIfInBounds y.b (.map ents' clock') }:World).heap[b]? = if y.b=b then some (.map ents' clock')else w.heap[b]?:=by intro b;simp only[aX,hlt,if_true]
  have hother:∀ b,b≠y.b->({ w with heap:=w.heap.setIfInBounds y.b (.map ents' clock') }:World).heap[b]? = w.heap[b]?:=fun b hb=>by rw[hheap,aG (fun e=>hb e.symm)]
  have hsz:({ w with heap:=w.heap.setIfInBounds y.b (.map ents' clock') }:World).heap.size=w.heap.size:=by simp
  have him:∀ b,G.im b->({ w with heap:=w.heap.setIfInBounds y.b (.map ents' clock') }:World).heap[b]? = w.heap[b]?:=fun b hb=>hother b (by rintro rfl;exact e4 hb);refine⟨h.writeMbox hq' hg e1 e2 e4 (by rw[hsz];exact Nat.le_refl _) hother (by rw[hheap,aF rfl]) hes hset,?_⟩;refine⟨by rw[hsz];exact Nat.le_refl _,fun _ h=>h,him,fun b _ hn=>⟨hother b fun e=>hn _ _ e1 e.symm,fun h=>h⟩,fun k x e=>.inl ⟨k,x,e,rfl⟩,fun _=>rfl,⟨rfl,rfl⟩,fun _ h=>⟨h,rfl⟩⟩
 rcases hpt with⟨rfl,hes⟩|⟨i,ent,u,rfl,hent,hsame,hes⟩
 . obtain⟨b1,b2⟩:=fin (ents.push { key:=kv,val:=a.eval x,born:=clock }) (clock+1) (by rw[Array.toList_push];exact hes clock);refine⟨G,_,?_,b1,b2⟩;simp only[Instr.mapUpdate,aL,run_underlying hu,ay,e3,hget,hkv,run_checkKey hkk,hfr,setRun]
 . obtain⟨b1,b2⟩:=fin (ents.modify i fun e=>{ e with key:=kv,val:=a.eval x }) clock (by rw[Array.toList_modify];exact hes);refine⟨G,_,?_,b1,b2⟩;have hent':ents[i]? = some ent:=by simpa using hent
   simp only[Nat.zero_add]at hfr;simp only[Instr.mapUpdate,aL,run_underlying hu,ay,e3,hget,hkv,run_checkKey hkk,hfr,hent',av,Option.getD_some,Instr.keyThatStays,hsame,if_true,aV,setRun]
theorem Yn {cx G w F F' a o t m k x}(ho:o.op=.mapUpdate t m k x\/o.op=.insert t m k x)(h:RelF G w F a.tmps)(e:loud cx F o=some F'):Ran cx G w a o F':=by
 obtain⟨dst,op,ty,pos,after,guard⟩:=o;change op=_\/op=_ at ho;have main:(match (generalizing:=false) dst,cx.P.underlying t,(F.ev m).cell,(F.ev k).con,(F.ev x).cells with
  |none,some (.map kt _),some c,some kv,some l=>match qwv F c with
   | some (p,es)=>if ZK cx.P kt kv&&(match (F.ev x).tag with|.one=>l.length==1|_=>l.length != 1)&&l.all (fun c=>match c with|.val _|.nil|.imm _=>true|_=>false)then
     (xL cx.P kt kv (qfz l) es).bind fun es'=>F.set p (mapC c es')else none
   |none=>none
  |_,_,_,_,_=>none)=some F'->∃ G' w',dst=none/\(Instr.mapUpdate t (a.eval m) (a.eval k) (a.eval x)).run cx.P w=.ok () w'/\RelF G' w' F' a.tmps/\Gain G w G' w':=by
  clear e;intro e;split at e
  .
   rename_i kt et c kv l hu hc hk hl;split at e
   .
    rename_i p es hg;cases hput:xL cx.P kt kv (qfz l) es with
    |none=>simp[hput]at e
    |some es'=>
     simp only[hput,ae]at e;by_cases hcond:(ZK cx.P kt kv&&(match (F.ev x).tag with|.one=>l.length==1|_=>l.length != 1)&&l.all (fun c=>match c with|.val _|.nil|.imm _=>true|_=>false))=true
     .
      rw[aF hcond]at e;simp only[aD]at hcond;cases c<;>simp only[qwv,reduceCtorEq]at hg
      . rename_i q;split at hg
        . rename_i hq;split at hg
          . rename_i es0 hg0;simp only[aa,ai]at hg;obtain⟨rfl,rfl⟩:=hg;obtain⟨G',w',b⟩:=qyV h hu hc hk hl hq hg0 hcond.1.1 hcond.1.2 hcond.2 hput e;exact⟨G',w',rfl,b⟩
          . cases hg
        . cases hg
      . rename_i q;split at hg
        . rename_i es0 hg0;simp only[aa,ai]at hg;obtain⟨rfl,rfl⟩:=hg;obtain⟨G',w',b⟩:=qgx h hu hc hk hl hg0 hcond.1.1 hcond.1.2 hcond.2 hput e;exact⟨G',w',rfl,b⟩
        . cases hg
     . rw[aG hcond]at e;cases e
   . cases e
  . cases e
 rcases ho with rfl|rfl
 . obtain⟨G',w',rfl,b1,b2,b3⟩:=main e;exact⟨.skip,_,G',w',by simp only[execOp,aL,b1,ay,aV],.inr ⟨rfl,rfl⟩,b2,b3⟩
 . obtain⟨G',w',rfl,b1,b2,b3⟩:=main e;exact⟨.skip,_,G',w',by simp only[execOp,aL,b1,ay,aV],.inr ⟨rfl,rfl⟩,b2,b3⟩
end
end Ab
end Go.Proofs.YtjnefcbeemkkeaaGreat

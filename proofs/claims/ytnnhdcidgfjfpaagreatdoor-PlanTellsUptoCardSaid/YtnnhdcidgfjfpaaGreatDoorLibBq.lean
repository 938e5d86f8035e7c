/-
  The interpreter of the model's code over values, and its soundness: part 2 of 5. No claim stands here.
-/
import Derived.Test.YtnnhdcidgfjfpaaGreatDoorLibAq
set_option linter.all false
namespace Go.Proofs.YtnnhdcidgfjfpaaGreatDoor
namespace Ab
section
variable [Glob]
theorem qfH {G' w F F' ts p c}(l:qau F F' p c)(z:RelF G' w F' ts){k}(A:Uses F' k):
  Uses F k\/k∈deps p c\/∃ rest,k=p.under rest:=by
 rcases A with⟨D,B⟩|⟨x,r,i,j⟩
 .
  by_cases d:∃ rest,k=p.under rest
  . grind
  . rcases l.other k (λrest e=>d ⟨rest,e⟩)with⟨_,h⟩|⟨a,b,s,t,u⟩
    . grind
    . exact .inl (.inl ⟨by grind,B⟩)
 .
  by_cases g:x=p
  . subst g;rw[l.new]at i
    grind
  .
   by_cases d:∃ rest,x.key=p.under rest
   . obtain⟨rest,d⟩:=d;have f:=z.pure i (by rw[d];simp[Pl.under]);cases r<;>simp[qw]at f<;>simp only[deps,List.not_mem_nil,aU]at j;refine .inr (.inr ⟨rest++[(x.r,x.o)],?_⟩);rw[j];simp only[Pl.toKey,d,Pl.under,List.append_assoc,List.cons_append]
   .
    cases e:F'.rowsAt x.key with
    |none=>simp[Fr.get,e]at i
    |some rows=>
     have m:cellAt rows x.r x.o=some r:=by simpa [Fr.get,e]using i
     rcases l.other x.key (λrest e=>d ⟨rest,e⟩)with⟨_,h⟩|⟨a,b,s,t,u⟩
     . grind
     .
      rw[t]at e;cases e;have n:(if x.key=p.key then some (p.r,p.o)else none)≠some (x.r,x.o):=by
       split
       . rename_i E;simp only[ne_eq,aa,ai]
         rintro ⟨v,y⟩
         exact g (by cases x;cases p;simp_all)
       . simp
      obtain⟨C,o,q⟩:=u.cell _ _ _ m n;refine .inl (.inr ⟨x,C,by simp[Fr.get,s,o],?_⟩);rcases q with rfl|⟨_,G,r2,v,y,_⟩
      . exact j
      . subst v;subst y;exact j
theorem qfs {F q c}(h:F.get q=some c)(a:q.key.inHeap):Uses F q.key:=by
 refine .inl ⟨?_,a⟩;unfold Fr.get at h;cases b:F.rowsAt q.key with
 |none=>grind
 |some rows=>rfl
theorem apart {F}{q:Pl}{k a b}(l:Uses F q.key)(hi:q.key.inHeap)(h:∀ π,¬ Uses F ((⟨⟨.slot k,[]⟩,a,b⟩:Pl).under π))(π f):
  (⟨⟨.slot k,[]⟩,a,b⟩:Pl).under π≠q.under f:=by
 intro e;simp only[Pl.under,List.nil_append,Key.mk.injEq]at e;obtain⟨d,g⟩:=e;have m:q.key.path≠[]:=by
  rcases hi with hi|hi
  . exact hi
  . rw[<- d]at hi;simp[Root.boxed]at hi
 cases c:q.key.path with
 |nil=>grind
 |cons y rest=>
  rw[c]at g;simp only[List.cons_append,List.cons.injEq]at g;obtain⟨i,_⟩:=g;apply h rest;have:(⟨⟨.slot k,[]⟩,a,b⟩:Pl).under rest=q.key:=by cases j:q.key;rw[j]at d c;simp only at d c;simp[Pl.under,d,c,i]
  grind
theorem qgj {G w F c v}(h:Hold G w F none c v){p k}(a:k∈deps p c):k.path=[]:=by
 obtain⟨b,j,m,n,g⟩:=h;cases c with
 |own o rows=>exact absurd rfl (b.1 _ rows)
 |mp i=>exact absurd rfl (b.2 i)
 |ref q=>grind
 |ptr q=>simp only[deps,aU]at a;grind
 |clo f fs cs=>
  obtain⟨vs,us,_,r,s⟩:=g p;have go:∀ (l:List Cell) (vs:List Value),qY G l vs->k∈l.filterMap (λc=>match c with|.ptr q=>some q.key|_=>none)->k.path=[]:=by
   intro l
   induction l with
   |nil=>grind
   |cons c l d=>
    intro vs h hm;cases vs with
    |nil=>exact h.elim
    |cons v vs=>
     simp only[List.filterMap_cons]at hm;split at hm
     . exact d vs h.2 hm
     . rename_i t e;rcases List.mem_cons.1 hm with rfl|hm
       . cases c<;>simp at e;subst e;exact h.1.2.1
       . exact d vs h.2 hm
  simp only[deps,List.filterMap_append,List.mem_append]at a
  grind
 |_=>simp[deps]at a
theorem lay1 {G w F F' ts}(h:RelF G w F ts){q}(A:q.key.inHeap)(hd:F.get q=some .dead){u}(hu:Val G w F ts q u){x c}(M:Hold G w F x c u)(hp:q.key.path≠[]->qw c=true)(P:qy c=true->∀ π,¬ Uses F (q.under π))(N:qau F F' q c):
  ∃ G',RelF G' w F' ts/\Gain G w G' w/\G'.γ q.key=G.γ q.key/\∀ x' B f,Hold G w F x' B f->(∀ s,x'=some s->x≠some s)->Hold G' w F' x' B f:=by
 have O:=qfs hd A;have g:∀ f,Val G w F ts q f->f=u:=λf h'=>h'.unique hu;cases x with
 |none=>
  have r:=h.set N hp (λf h'=>.inr (by rw[g f h'];exact M.2.2.2.2 q)) (Tree.flat λrows e=>M.1.1 rows e) (by grind);refine⟨G,r,Gain.refl G w,rfl,λx' B f h' _=>?_⟩;cases x' with
  |none=>exact h'
  |some s=>
   obtain⟨⟨k,a,b,rfl⟩,i,C,Q,g5⟩:=h';refine⟨⟨k,a,b,rfl⟩,i,C,Q,λπ d=>?_⟩;rcases qfH N r d with d|d|⟨rest,d⟩
   . grind
   . have:=qgj M d;simp[Pl.under]at this
   . exact apart O A g5 π rest d
 |some s=>
  obtain⟨⟨k,a,b,rfl⟩,i,C,Q,g5⟩:=M
  let s:Pl:=⟨⟨.slot k,[]⟩,a,b⟩
  let Y:Nat->Nat->Option (Option Pl):=λr o=>if r=q.r/\o=q.o then some (some s)else none
  have R:∀ r o z,Y r o=some (some z)->r=q.r/\o=q.o/\z=s:=by grind
  have D:Y q.r q.o=some (some s):=by simp[Y]
  have E:Inj Y:=by intro r o r' o' z z' π j H l e;obtain⟨rfl,rfl,rfl⟩:=R _ _ _ H;obtain⟨rfl,rfl,rfl⟩:=R _ _ _ l;refine⟨rfl,rfl,?_⟩;simpa [Pl.under]using e
  have hown:qy c=true:=by
   cases ho:qy c with
   |true=>rfl
   |false=>exact absurd (qvp.2 ho) i
  have r1:RelF (G.mv q.key Y) w F ts:=h.mv q.key E
   (λr o π e=>by
    have:r=q.r/\o=q.o:=by grind
    simp_all)
   (λr o z π e=>by grind)
  have S:(G.mv q.key Y).γ q.key=G.γ q.key:=by
   refine YR (λr o π e=>?_) (λr o z π e e'=>?_)
   . have:=congrArg (λk=>k.path.length) e;simp[Pl.under]at this
   grind
  have sh:Sh (G.mv q.key Y) w q c u:=by have:=C.mv D i (K:=q.key);omega
  have tr:Tree (G.mv q.key Y) w q c:=Q.mv D (K:=q.key);have hu':∀ f,Val (G.mv q.key Y) w F ts q f->f=u:=by
   intro f h';refine g f ?_;rcases h' with⟨U,y,vs,T,H,l,V⟩|h'
   . exact .inl ⟨U,y,vs,T,by grind,l,V⟩
   grind
  have r2:=r1.set N hp (λf h'=>.inr (by grind)) tr (by grind);refine⟨_,r2,Gain.mv _ _,S,λx' B f h' X=>?_⟩;cases x' with
  |none=>exact⟨h'.1,h'.2.1,h'.2.2.1,h'.2.2.2.1,λp=>h'.still _ _ p⟩
  |some s'=>
   obtain⟨⟨m,n,t,rfl⟩,f2,f3,f4,Z⟩:=h';have hss:(⟨⟨.slot m,[]⟩,n,t⟩:Pl)≠s:=λe=>X _ rfl (by rw[e]);have I:∀ π,(G.mv q.key Y).γ ((⟨⟨.slot m,[]⟩,n,t⟩:Pl).under π)=G.γ ((⟨⟨.slot m,[]⟩,n,t⟩:Pl).under π):=by
    intro π;refine YR (λr o j e=>?_) (λr o z j e e'=>?_)
    . have:q=⟨q.key,q.r,q.o⟩:=rfl;by_cases hc:r=q.r/\o=q.o
      . obtain⟨rfl,rfl⟩:=hc;exact absurd e (apart O A Z π j)
      grind
    . obtain⟨_,_,rfl⟩:=R _ _ _ e;apply hss;simp only[Pl.under,List.nil_append,Key.mk.injEq,Root.slot.injEq,List.cons.injEq,ai,s]at e'
      grind
   refine⟨⟨m,n,t,rfl⟩,f2,?_,?_,λπ d=>?_⟩
   . cases B with
     |own zz rows=>unfold Sh;rw[<- Pl.under_nil,I []];exact f3
     |mp es=>obtain⟨y,J,clock,H,l⟩:=f3;exact⟨y,J,clock,by rw[<- Pl.under_nil,I []];exact H,l⟩
     |_=>exact absurd (by constructor<;>intros<;>simp) f2
   . intro rest rows e;rcases(f4 rest rows e).arr (by simp[Pl.under])with⟨g1,i,C⟩|⟨y,vs,T,H,l,V,e4,e5,e6,e7,e8,e9⟩
     . exact .inl (.inl ⟨by grind,i,C⟩)
     refine .inr ⟨y,vs,T,by grind,l,V,e4,e5,e6,e7,e8,λr o c0 L=>?_⟩;obtain⟨u0,hu0,hs0⟩:=e9 r o c0 L;refine⟨u0,hu0,Sh.ghost (G:=G) (G':=G.mv q.key Y) rfl (λr h=>by cases r<;>exact h) rfl (λkk hk=>?_) hs0⟩;have v:=(e8 (by simp[Pl.under])).2 r o c0 L;cases c0<;>simp[qw]at v<;>simp only[deps,List.not_mem_nil,aU]at hk;rw[hk];have:(⟨(⟨⟨.slot m,[]⟩,n,t⟩:Pl).under rest,r,o⟩:Pl).toKey=(⟨⟨.slot m,[]⟩,n,t⟩:Pl).under (rest++[(r,o)]):=by simp[Pl.toKey,Pl.under]
     grind
   .
    rcases qfH N r2 d with d|d|⟨rest,d⟩
    . grind
    .
     have e:(⟨⟨.slot m,[]⟩,n,t⟩:Pl).under π=q.under []:=by
      rw[Pl.under_nil];cases c with
      |own zz rows=>simpa [deps]using d
      |mp es=>simpa [deps]using d
      |_=>exact absurd (by constructor<;>intros<;>simp) i
     exact apart O A Z π [] e
    . exact apart O A Z π rest d
theorem Hold.write {G w w' F q y}(a:GInv G w)(P:Uses F q)(l:G.γ q=some y)(i:∃ vs T fr,w.heap[y.b]? = some (.cells vs T fr))(d:¬ G.im y.b)(f:∀ b,b≠y.b->w'.heap[b]? = w.heap[b]?){x c v}(h:Hold G w F x c v):Hold G w' F x c v:=by
 have g:qjb G w w':=by
  refine⟨λb Q=>f b λ(e:b=y.b)=>d (by grind),λk z R S U V=>f _ λe=>?_⟩
  grind
 cases x with
 |none=>exact⟨h.1,h.2.1,h.2.2.1,h.2.2.2.1,λp=>(h.2.2.2.2 p).same g⟩
 |some s=>
  obtain⟨m,n,t,A,B⟩:=h;refine⟨m,n,t.same g,λrest rows e=>?_,B⟩;rcases(A rest rows e).arr (by simp[Pl.under])with C|⟨z,vs,T,j,D,E,H,I,J,K,L,M⟩
  . exact .inl (.inl C)
  refine .inr ⟨z,vs,T,j,D,E,?_,I,J,K,L,λr o c i=>let ⟨u,N,O⟩:=M r o c i;⟨u,N,O.same g⟩⟩;rw[f z.b λe=>?_]
  . exact H
  . have:=a.inj _ _ _ _ j l e
    grind
theorem zb (b i n):(⟨b,i,none⟩:Addr).add n=⟨b,i+n,none⟩:=by
 unfold Addr.add
 grind
theorem qbI {P w b i vs T a u}(h:w.heap[b]? = some (.cells vs T (0,0)))(f:vs[i]? = some a)(c:oneC u=true):
  (store ⟨b,i,none⟩ u).run P w=.ok () (w.setCell ⟨b,i,none⟩ u):=by
 have d:w.cell? ⟨b,i,none⟩=some a:=by unfold World.cell?;grind
 have e:w.frozen? ⟨b,i,none⟩=false:=by unfold World.frozen?;simp[h]
 cases u<;>first
  |(simp[oneC]at c;done)
  |(simp only[store,Sem.run,d,e];rfl)
theorem Gain.write {G w k y}(f:G.γ k=some y)(a:¬ G.im y.b){vs T fr}(c:w.heap[y.b]? = some (.cells vs T fr))(i)(u):
  Gain G w G (w.setCell ⟨y.b,i,none⟩ u):=by
 have g:=heap_setCell c u (i:=i);refine⟨by simp_all,λ_ h=>h,λb h=>?_,λb _ j=>⟨?_,λh=>h⟩,λd x e=>.inl ⟨d,x,e,rfl⟩,λ_=>rfl,Out.setCell _ _ _,λ_ h=>⟨h,rfl⟩⟩
 . grind
 grind
theorem set1 {P G w F F' ts}(h:RelF G w F ts){q}(R:q.key.inHeap){y}(S:G.γ q.key=some y)(U:y.isMap=false){x c u}(hh:Hold G w F x c u)(hp:q.key.path≠[]->qw c=true)(hs:(if qy c then F.kill q else F).set q c=some F'):
  ∃ G',(store ⟨y.b,q.r*y.sz+q.o,none⟩ u).run P w=.ok () (w.setCell ⟨y.b,q.r*y.sz+q.o,none⟩ u)/\RelF G' (w.setCell ⟨y.b,q.r*y.sz+q.o,none⟩ u) F' ts /\
   Gain G w G' (w.setCell ⟨y.b,q.r*y.sz+q.o,none⟩ u)/\G'.γ q.key=some y /\
   ∀ x' E H,Hold G w F x' E H->(∀ s,x'=some s->x≠some s)->Hold G' (w.setCell ⟨y.b,q.r*y.sz+q.o,none⟩ u) F' x' E H:=by
 obtain⟨F1,A⟩:∃ F1,F1=(if qy c then F.kill q else F):=⟨_,rfl⟩
 rw[<- A]at hs;have hw1:Weak F F1:=by
  rw[A];split
  . exact Weak.mapC (qM q) F
  . exact⟨rfl,λk v e=>.inr ⟨v,e,rfl,rfl,λr o c e=>⟨c,e,.inl rfl⟩,λ_ _ _ e=>e⟩,λr l e=>⟨l,e,rfl,λr o c e=>⟨c,e,.inl rfl⟩,λ_ _ _ e=>e⟩⟩
 have h1:RelF G w F1 ts:=by
  rw[A];split
  . exact h.mapC (qM q)
  omega
 obtain⟨c0,hc0⟩:=(Fr.setTo hs).old;obtain⟨F2,hF2⟩:=Fr.set_of_get hc0 .dead;have j:=Fr.setTo hF2;have h2:=h1.empty j (h1.no_mpb S U R);have J:∀ k,Uses F2 k->Uses F k:=λk hu=>hw1.uses (j.uses rfl (λ_=>rfl) hu);have shr:Shr G F G F2:=⟨rfl,rfl,λ_ h=>h,λ_ h=>.inl h,J⟩
 have K:∃ vs T u0,w.heap[y.b]? = some (.cells vs T (0,0))/\vs[q.r*y.sz+q.o]? = some u0/\¬ G.im y.b:=by
  have hd:=j.new;unfold Fr.get at hd;cases V:F2.rowsAt q.key with
  |none=>grind
  |some rows=>
   simp only[V,ae]at hd;obtain⟨z,vs,T,e1,e2,e3,e4,e5,e6,e7,e8,e9⟩:=(h2.cont _ _ V R).of_hd S U
   grind
 obtain⟨vs,T,u0,X,hu0,Y⟩:=K;have I:=hh.one;have h3:=h2.write j.new R S I;have hp':=heap_setCell X u (i:=q.r*y.sz+q.o);have hq2:=qfs j.new R;have t:∀ x' E H,Hold G w F x' E H->Hold G (w.setCell ⟨y.b,q.r*y.sz+q.o,none⟩ u) F2 x' E H:=λx' E H hx=>(hx.shr shr h.inv).write h.inv hq2 S ⟨vs,T,(0,0),X⟩ Y (λb X=>by grind);have Z:Val G (w.setCell ⟨y.b,q.r*y.sz+q.o,none⟩ u) F2 ts q u:=by
  refine .inl ⟨R,y,_,T,S,by rw[hp',aD rfl],?_⟩
  grind
 have st3:=j.comb (Fr.setTo hs);have L:qy c=true->∀ π,¬ Uses F2 (q.under π):=?_
 . obtain⟨G',r,g,γq,hold⟩:=lay1 h3 R j.new Z (t _ _ _ hh) hp L st3;refine⟨G',qbI X hu0 I,r,(Gain.write S Y X _ u).trans g,by grind,λx' E H hx M=>hold x' E H (t _ _ _ hx) M⟩
 .
  intro ho π hu
  -- behind the place lies nothing: it was emptied,and killed before
  have hrows:∀ π,F2.rowsAt (q.under π)=none:=λπ=>by rw[j.under];rfl
  rcases hu with⟨V,_⟩|⟨z,cz,B,n⟩
  . grind
  .
   by_cases N:z.key.path=[]
   .
    -- a cell that stands by itself: it was turned by the kill
    have hz1:cz=.dead\/∃ c1,F1.get z=some c1/\Shp c1 cz:=by
     by_cases hzq:z=q
     . rw[hzq,j.new]at B
       grind
     .
      unfold Fr.get at B;cases e:F2.rowsAt z.key with
      |none=>grind
      |some rows=>
       simp only[e,ae]at B;rcases j.other z.key (λrest e=>by grind)with⟨_,hn⟩|⟨a,b,ha,hb',hl⟩
       . grind
       . rw[hb']at e;cases e;have M:(if z.key=q.key then some (q.r,q.o)else none)≠some (z.r,z.o):=by
          split
          . rename_i ek;simp only[ne_eq,aa,ai]
            rintro ⟨e1,e2⟩
            exact hzq (by cases z;cases q;simp_all)
          . simp
         obtain⟨c1,d,C⟩:=hl.cell _ _ _ B M;exact .inr ⟨c1,by simp[Fr.get,ha,d],C⟩
    rcases hz1 with rfl|⟨c1,d,C⟩
    . simp[deps]at n
    .
     rw[A,aD ho,Fr.kill,qaH F _ N]at d;cases hzc:F.get z with
     |none=>grind
     |some D=>
      simp only[hzc,av,aa]at d;have m:¬ Seen cz->q.under π=z.toKey->False:=by
       intro hns e;cases π with
       |nil=>rw[Pl.under_nil]at e;have:=Xu e;subst this;rw[j.new]at B;cases B;exact hns (by constructor<;>intros<;>simp)
       |cons y' π=>have:=congrArg (λk=>k.path.length) e;simp[Pl.under,Pl.toKey,N]at this;omega
      cases cz with
      |own zz rows=>simp only[deps,aU]at n;exact m (λh=>h.1 _ rows rfl) n
      |mp es=>simp only[deps,aU]at n;exact m (λh=>h.2 es rfl) n
      |ref p=>
       have:c1=.ref p:=by
        rcases C with h|⟨_,_,_,_,h,_⟩
        . exact h
        grind
       rw[this]at d;have O:D=.ref p:=by
        cases D<;>simp only[vI]at d<;>try (grind)<;>first|grind|grind
        all_goals omega
       subst O;simp only[vI]at d;split at d
       . grind
       . rename_i hn;simp only[deps,aU]at n;exact hn (qaC.2 ⟨π,n.symm⟩)
      |ptr p=>
       have:c1=.ptr p:=by
        rcases C with h|⟨_,_,_,_,h,_⟩
        . exact h
        grind
       rw[this]at d;have O:D=.ptr p:=by
        cases D<;>simp only[vI]at d<;>try (grind)<;>first|grind|grind
        all_goals omega
       subst O;simp only[vI]at d;split at d
       . grind
       . rename_i hn;simp only[deps,aU]at n;exact hn (qaC.2 ⟨π,n.symm⟩)
      |clo f fs cs=>have:=h2.clo_path B n;simp[Pl.under]at this
      |_=>simp[deps]at n
   . have Q:=h2.pure B N;cases cz<;>simp[qw]at Q<;>simp only[deps,List.not_mem_nil,aU]at n;rename_i zz rs;have V:F2.rowsAt z.toKey=none:=by grind
     have:F2.rowsAt z.toKey=subR (.own zz rs) []:=by rw[<- Pl.under_nil];exact qoN B []
     rw[V]at this;simp[subR,getR]at this
theorem qgp {P ts p}(H:p.key.inHeap){y}(g:y.isMap=false):∀ (l:List Cell) (us:List Value) (xs:List (Option Pl)) (j:Nat) (G:Gh) (w:World) (F F':Fr),
  RelF G w F ts->G.γ p.key=some y->qvg G w F xs l us->Dis xs->(p.key.path≠[]->l.all qw=true)->F.setL p j l=some F' ->
  ∃ G' w',(storeCells ⟨y.b,p.r*y.sz+p.o,none⟩ us j).run P w=.ok () w'/\RelF G' w' F' ts/\Gain G w G' w':=by
 intro l
 induction l with
 |nil=>
  intro us xs j G w F F' h B a _ _ e;simp only[Fr.setL,aa]at e;subst e;cases us with
  |nil=>exact⟨G,w,rfl,h,Gain.refl G w⟩
  |cons u us=>cases xs<;>exact a.elim
 |cons c l m=>
  intro us xs j G w F F' h B a hd O e;cases xs with
  |nil=>exact a.elim
  |cons x xs=>
   cases us with
   |nil=>exact a.elim
   |cons u us=>
    simp only[Fr.setL]at e;cases C:(if qy c=true then F.kill { p with o:=p.o+j }else F).set { p with o:=p.o+j } c with
    |none=>grind
    |some F1=>
     simp only[C]at e;have b:p.key.path≠[]->qw c=true/\l.all qw=true:=λa=>by grind
     obtain⟨G1,run,I,J,n,d⟩:=set1 (P:=P) h (q:={ p with o:=p.o+j }) H B g a.1 (λa=>(b a).1) C;have r:qvg G1 (w.setCell ⟨y.b,p.r*y.sz+(p.o+j),none⟩ u) F1 xs l us:=by
      have D:∀ (i:Nat) (z:Option Pl),xs[i]? = some z->∀ s,z=some s->x≠some s:=by intro i z t s K D;have:=hd 0 (i+1) s (by grind) (by grind);omega
      have go:∀ (xs:List (Option Pl)) (l:List Cell) (us:List Value),(∀ (i:Nat) z,xs[i]? = some z->∀ s,z=some s->x≠some s)->qvg G w F xs l us ->
        qvg G1 (w.setCell ⟨y.b,p.r*y.sz+(p.o+j),none⟩ u) F1 xs l us:=by
       intro xs
       induction xs with
       |nil=>intro l us _ h;cases l<;>cases us<;>first|exact h|exact h.elim
       |cons z xs m=>
        intro l us t h;cases l with
        |nil=>exact h.elim
        |cons c l=>
         cases us with
         |nil=>exact h.elim
         |cons u us=>exact⟨d _ _ _ h.1 (t 0 z rfl),m l us (λi L v=>t (i+1) L v) h.2⟩
      exact go xs l us D a.2
     have A:Dis xs:=λi k s Q R=>by have:=hd (i+1) (k+1) s (by grind) (by grind);omega
     obtain⟨G2,M,E,r2,N⟩:=m us xs (j+1) G1 _ F1 F' I n r A (λa=>(b a).2) e;refine⟨G2,M,?_,r2,J.trans N⟩;have f:(⟨y.b,p.r*y.sz+p.o,none⟩:Addr).add j=⟨y.b,p.r*y.sz+(p.o+j),none⟩:=by rw[zb,Nat.add_assoc]
     simp only[storeCells,f,aK];simp_all
end
section
variable [Glob]
theorem qcD {α P s}{a:α}(h:qo P s=some a)(w):s.run P w=.ok a w:=by
 induction s with
 |pure b=>simp only[qo,aa]at h;simp_all
 |program k c=>exact c P h
 |mark m k c=>exact c h
 |_=>simp[qo]at h
theorem qK {P t n}(h:qQ P t=some n)(w):(sizeOf t).run P w=.ok n w:=by
 unfold qQ at h;cases a:P.info? t with
 |none=>grind
 |some i=>simp only[a,av,aa]at h;simp[sizeOf,typeInfo,a,h]
theorem vK {P t g}(h:zW P t=some g)(w):(isAgg t).run P w=.ok g w:=by
 unfold zW at h;cases a:P.underlying t with
 |none=>grind
 |some d=>cases d<;>simp only[a,aa]at h<;>subst h<;>simp[isAgg,run_underlying a]
theorem qvz {G w v V s}(h:RelV G w v V)(e:v.con=some s):V=s:=by
 obtain⟨t,d⟩:=h;unfold AV.con at e;have cell:∀ c u n,conC c=some n->(c=.dead\/(Seen c/\∀ p,Sh G w p c u))->u=n:=by
  intro c u n e h;rcases h with rfl|⟨_,h⟩
  . simp[conC]at e
  . have:=h ⟨⟨.res,[]⟩,0,0⟩;cases c<;>simp only[conC,aa,reduceCtorEq]at e
    . subst e;exact this.1
    . subst e;exact this
 split at e
 . rename_i x i j;obtain⟨u,b,f⟩:=d 0 0 x (by rw[j];rfl);rw[i]at b;simp only[qX,aa]at b;subst b;exact cell _ _ _ e f
 .
  rename_i l i j;rw[i,j]at t;obtain⟨vs,rfl,y⟩:=t;have k:∀ (o:Nat) c,l[o]? = some c->∃ u,vs[o]? = some u/\(c=.dead\/(Seen c/\∀ p,Sh G w p c u)):=by intro o c m;obtain⟨u,b,f⟩:=d 0 o c (by rw[j];simp[cellAt,m]);rw[i]at b;exact⟨u,by simpa [qX]using b,f⟩
  have go:∀ (l:List Cell) (us a:List Value),us.length=l.length->conL l=some a ->
    (∀ (o:Nat) c,l[o]? = some c->∃ u,us[o]? = some u/\(c=.dead\/(Seen c/\∀ p,Sh G w p c u)))->us=a:=by
   intro l
   induction l with
   |nil=>intro us a z e _;simp only[conL,aa]at e;grind
   |cons c l A=>
    intro us a z e h;cases us with
    |nil=>grind
    |cons u us=>
     simp only[conL]at e;cases d:conC c with
     |none=>grind
     |some C=>
      cases g:conL l with
      |none=>grind
      |some q=>simp only[d,g,aa]at e;subst e;obtain⟨D,r,f⟩:=h 0 c rfl;cases r;rw[cell _ _ _ d f,A us q (by grind) g λo c m=>h (o+1) c m]
  simp only[aG]at e;obtain⟨a,B,rfl⟩:=e;have:=go l vs.toList a (by omega) B (λo c m=>by grind);rw[<- this]
 grind
theorem Zh {G w v V}(h:RelV G w v V){c}(e:v.cell=some c):c=.dead\/(Seen c/\∀ p,Sh G w p c V):=by
 unfold AV.cell at e;split at e
 . rename_i x b d;cases e;obtain⟨u,a,f⟩:=h.2 0 0 c (by rw[d];rfl);rw[b]at a;simp only[qX,aa]at a
   grind
 grind
theorem RelV.ag {G w l vs}(f:vs.size=l.length)(h:∀ (o:Nat) c,l[o]? = some c->∃ u,vs[o]? = some u/\(c=.dead\/(Seen c/\∀ p,Sh G w p c u))):
  RelV G w (.ag l) (.agg vs):=by
 refine⟨⟨vs,rfl,by omega⟩,λr o c a=>?_⟩;obtain⟨rfl,b⟩:=zI a;obtain⟨u,d,e⟩:=h o c b;exact⟨u,by simpa [qX,AV.ag]using d,e⟩
theorem qa6 {G w F ts}(h:RelF G w F ts){c V}(m:∀ p,Sh G w p c V){n l}(e:F.loadL n c=some l):
  ∃ (a:Addr) (us:List Value),V=.pointer (some a)/\us.length=n/\l.length=n/\(∀ (j:Nat) u,us[j]? = some u->w.cell? (a.add j)=some u) /\
   ∀ (j:Nat) c,l[j]? = some c->∃ u,us[j]? = some u/\(c=.dead\/(Seen c/\∀ p,Sh G w p c u)):=by
 cases c<;>simp only[Fr.loadL,reduceCtorEq]at e
 .
  rename_i p;have r:p.key.heap=true:=by grind
  rw[aF (by grind)]at e;obtain⟨E,y,H,Y,D⟩:=m ⟨⟨.res,[]⟩,0,0⟩;cases t:F.rowsAt p.key with
  |none=>grind
  |some rows=>
   simp only[t]at e;cases g:rows[p.r]? with
   |none=>grind
   |some row=>
    simp only[g]at e;split at e
    .
     rename_i I;simp only[aa]at e;subst e;have J:=qcn.1 r
     .
      have x:=h.no_map H Y t g J;rw[Hd.adr_of x]at D;subst D;obtain⟨z,vs,T,X,e2,e3,e4,e5,e6,e7,e8,e9⟩:=(h.cont _ _ t J).of_hd H x;rw[H]at X;cases X;have d:∀ j,j<n->∃ c u,row[p.o+j]? = some c/\vs[p.r*y.sz+p.o+j]? = some u/\Sh G w ⟨p.key,p.r,p.o+j⟩ c u:=by
       intro j i;have A:p.o+j<row.length:=by omega
       have K:cellAt rows p.r (p.o+j)=some row[p.o+j]:=by simp[cellAt,g,A]
       grind
      refine⟨⟨y.b,p.r*y.sz+p.o,none⟩,(List.range n).map λj=>vs[p.r*y.sz+p.o+j]?.getD .nilIface,rfl,by simp,by rw[YU];grind,λj u s=>?_,λj c m=>?_⟩
      . simp only[aH]at s;have i:j<n:=by grind
        obtain⟨c,B,_,k,_⟩:=d j i;simp only[List.getElem?_range i,av,k,Option.getD_some,aa]at s;subst s;rw[zb];unfold World.cell?
        grind
      . rw[Xi]at m;have i:j<n:=by grind
        obtain⟨L,B,M,k,N⟩:=d j i;have f:((row.drop p.o).take n)[j]? = some L:=by grind
        rw[f]at m;simp only[av,aa]at m;subst m;exact⟨B,by grind,.inr ⟨qcc _ _,λq=>N.view E q⟩⟩
    grind
 .
  rename_i row o;obtain⟨b,base,vs,T,fr,J,rfl,hb,g⟩:=m ⟨⟨.res,[]⟩,0,0⟩;split at e
  .
   rename_i I;simp only[aa]at e;subst e;have d:∀ j,j<n->∃ c u,row[o+j]? = some c/\vs[base+(o+j)]? = some u/\RelI G.im w c u:=by
    intro j i;have A:o+j<row.length:=by omega
    simp_all
   refine⟨⟨b,base+o,none⟩,(List.range n).map λj=>vs[base+(o+j)]?.getD .nilIface,rfl,by simp,by grind,λj u s=>?_,λj c m=>?_⟩
   . simp only[aH]at s;have i:j<n:=by grind
     obtain⟨c,B,_,k,_⟩:=d j i;simp only[List.getElem?_range i,av,k,Option.getD_some,aa]at s;subst s;rw[zb,Nat.add_assoc];unfold World.cell?
     grind
   .
    have i:j<n:=by grind
    obtain⟨L,B,M,k,N⟩:=d j i;have f:((row.drop o).take n)[j]? = some L:=by grind
    rw[f]at m;cases m;refine⟨B,by grind,?_⟩;cases N with
    |val v h=>exact .inr ⟨⟨by grind,by grind⟩,λq=>⟨rfl,h⟩⟩
    |nil=>exact .inr ⟨⟨by grind,by grind⟩,λq=>rfl⟩
    |immE a cap=>exact .inr ⟨⟨by grind,by grind⟩,λq=>.immE a cap⟩
    |imm rows Z O cap sz P T' Q us R S C U D t=>exact .inr ⟨⟨by grind,by grind⟩,λq=>.imm rows Z O cap sz P T' Q us R S C U D t⟩
    |dead v h=>grind
  grind
end
section
variable [Glob]
def Hangs (o:Oper):Prop:=∀ ρ a:Operand->Value,(∀ x∈o.op.operands.toList,ρ x=a x)->execOp ρ o=execOp a o
theorem qvc {cx G w F}{a:Act}{o v}(h:RelF G w F a.tmps)(f:Hangs o)(e:yg cx F o=some v):
  ∃ V,(execOp a.eval o).run cx.P w=.ok (.value V) w/\RelV G w v V:=by
 unfold yg at e;split at e
 .
  rename_i b;have c:∀ x∈o.op.operands.toList,((F.ev x).con).getD Go.undef=a.eval x:=by
   intro x g;have:=(List.all_eq_true.1 b) x g;cases i:(F.ev x).con with
   |none=>grind
   |some V=>rw[qvz (qx h x) i];rfl
  rw[f _ a.eval c]at e;cases d:qo cx.P (execOp a.eval o)with
  |none=>grind
  |some n=>cases n<;>simp only[d,aa,reduceCtorEq]at e;subst e;exact⟨_,qcD d w,xI G w _⟩
 grind
theorem qbq {d op t x y u ty pos after g}:
  Hangs ⟨d,.binOp op t x y u,ty,pos,after,g⟩:=by
 intro ρ a h;simp only[Op.operands]at h;simp only[execOp,h x (by simp),h y (by simp)]
theorem qb8 {d op t x ty pos after g}:
  Hangs ⟨d,.unOp op t x,ty,pos,after,g⟩:=by
 intro ρ a h;simp only[Op.operands]at h;simp only[execOp,h x (by simp)]
theorem XO {d s t x ty pos after g}:
  Hangs ⟨d,.convert s t x,ty,pos,after,g⟩:=by
 intro ρ a h;simp only[Op.operands]at h;simp only[execOp,h x (by simp)]
theorem xH {d t x ty pos after g}:
  Hangs ⟨d,.makeInterface t x,ty,pos,after,g⟩:=by
 intro ρ a h;simp only[Op.operands]at h;simp only[execOp,h x (by simp)]
theorem qaW {d t x i ty pos after g}:
  Hangs ⟨d,.index t x i,ty,pos,after,g⟩:=by
 intro ρ a h;simp only[Op.operands]at h;simp only[execOp,h x (by simp),h i (by simp)]
theorem qoY {d b args ts ty pos after g}:
  Hangs ⟨d,.call ⟨.builtin b,args,ts⟩,ty,pos,after,g⟩:=by
 intro ρ a h;simp only[Op.operands,Call.operands]at h;have:args.map ρ=args.map a:=by grind
 simp only[execOp,resolve,this]
theorem qeU {d t x b c ty pos after g}:
  Hangs ⟨d,.slice t x b c none,ty,pos,after,g⟩:=by
 intro ρ a h;simp only[Op.operands]at h;have e:b.map ρ=b.map a:=by cases b<;>simp;grind
 have f:c.map ρ=c.map a:=by cases c<;>simp;grind
 simp only[execOp,h x (by simp),e,f,Option.map_none]
theorem xD {G w v V}(h:RelV G w v V){n}(e:asInt v=some n):∃ k,V=.int k n:=by
 unfold asInt at e;cases a:v.con with
 |none=>grind
 |some b=>cases b<;>simp only[a,aa,reduceCtorEq]at e;rename_i k m;subst e;exact⟨k,qvz h a⟩
theorem XV {G w c d V n}(h:∀ p,Sh G w p c V)(e:ZE n c=some d):
  ∃ a,V=.pointer (some a)/\Seen d/\∀ p,Sh G w p d (.pointer (some (a.add n))):=by
 cases c<;>simp only[ZE,aa,reduceCtorEq]at e
 .
  rename_i q;split at e
  . cases e
  rename_i l;simp only[aa]at e;subst e;obtain⟨a,y,b,c,f⟩:=h ⟨⟨.res,[]⟩,0,0⟩;have g:y.isMap=false:=by grind
  rw[Hd.adr_of g]at f;subst f;refine⟨_,rfl,⟨by grind,by grind⟩,λp=>⟨a,y,b,c,?_⟩⟩;rw[Hd.adr_of g,zb,Nat.add_assoc]
 . rename_i row o;subst e;obtain⟨b,base,vs,T,fr,i,rfl,j,k⟩:=h ⟨⟨.res,[]⟩,0,0⟩;refine⟨_,rfl,⟨by grind,by grind⟩,λp=>⟨b,base,vs,T,fr,i,?_,j,k⟩⟩;rw[zb,Nat.add_assoc]
theorem qbJ {G w g l us v}(e:mkAV g l=some v)(a:us.length=l.length)(h:∀ (j:Nat) c,l[j]? = some c->∃ u,us[j]? = some u/\(c=.dead\/(Seen c/\∀ p,Sh G w p c u))):
  (g=true/\RelV G w v (.agg us.toArray))\/(g=false/\∃ u,us=[u]/\RelV G w v u):=by
 unfold mkAV at e;cases g with
 |true=>simp only[if_true,aa]at e;subst e;exact .inl ⟨rfl,RelV.ag (by omega) λo c f=>by grind⟩
 |false=>
  right;simp only[aS,if_false]at e;split at e
  . rename_i x;simp only[aa]at e;subst e
    match us,a with
    |[u],_=>obtain⟨i,b,d⟩:=h 0 x rfl;cases b;exact⟨rfl,u,rfl,RelV.c d⟩
  grind
theorem qgs {G w F ts}(h:RelF G w F ts){c V}(d:∀ p,Sh G w p c V){rows}(e:F.look c=some rows):
  ∃ a cap,V=.slice a rows.length cap:=by
 cases c<;>simp only[Fr.look,aa,reduceCtorEq]at e
 . subst e;exact⟨none,0,d ⟨⟨.res,[]⟩,0,0⟩⟩
 .
  subst e;have:=d ⟨⟨.res,[]⟩,0,0⟩;cases this with
  |immE a cap=>grind
  |imm rows b i cap sz vs T fr us _ _ _ _ _ _=>grind
 .
  rename_i p;cases f:F.get p with
  |none=>grind
  |some j=>
   cases j<;>simp only[f,aa,reduceCtorEq]at e;subst e;rcases(yD h d f (λk=>k.1 _ _ rfl)).1 with⟨_,g,rfl⟩|⟨x,m,g,rfl,l⟩
   . grind
   exact⟨some ⟨x.b,0,none⟩,x.cap,by simp[Hd.val,g,l]⟩
theorem qgk {P G w t n g}(k:qQ P t=some n)(m:zW P t=some g){l:List Cell}{vs}(s:vs.size=l.length)(h:∀ (o:Nat) c,l[o]? = some c->∃ u,vs[o]? = some u/\(c=.dead\/(Seen c/\∀ p,Sh G w p c u))){a}(q:a+n<=l.length){v}(e:mkAV g ((l.drop a).take n)=some v):
  ∃ V,(part t vs a).run P w=.ok V w/\RelV G w v V:=by
 have f:((vs.toList.drop a).take n).length=((l.drop a).take n).length:=by grind
 have b:∀ (j:Nat) c,((l.drop a).take n)[j]? = some c->∃ u,((vs.toList.drop a).take n)[j]? = some u/\(c=.dead\/(Seen c/\∀ p,Sh G w p c u)):=by grind
 have d:=vK m w;rcases qbJ e f b with⟨rfl,i⟩|⟨rfl,u,x,i⟩
 .
  refine⟨.agg (vs.extract a (a+n)),?_,?_⟩
  . simp only[part,aK,d,ay,if_true,qK k,aT]
  . have:(vs.extract a (a+n))=((vs.toList.drop a).take n).toArray:=by grind
    grind
 .
  refine⟨u,?_,i⟩;have r:vs[a]? = some u:=by
   have:((vs.toList.drop a).take n)[0]? = some u:=by grind
   grind
  simp only[part,aK,d,ay,aS,if_false,r,aT]
end
section
variable [Glob]
theorem Zf {P f}(h:yM P f=true):zW P f.type=some false:=by
 unfold yM at h;unfold zW
 grind
theorem ZL {P t xs a x}(b:zW P t=some false)(c:xs[a]? = some x)(w):(part t xs a).run P w=.ok x w:=by simp only[part,aK,vK b,ay,aS,if_false,c,aT]
theorem zA {P t}(h:qL P t=true):P.underlying t=some (.struct (P.fieldsOf t))/\P.stoodInHeld t=false/\P.eqGuardType P.depth t=false /\
  ∀ f∈(P.fieldsOf t).toList,yM P f=true:=by
 unfold qL at h;unfold Program.fieldsOf
 grind
theorem qeg {P xs h}(d)(w):∀ (fs:List Field) (r:Bool),(∀ f∈fs,yM P f=true)->qaK P xs h fs=some r ->
  (Op.eqFields (d+1) xs h fs).run P w=.ok r w:=by
 intro fs
 induction fs with
 |nil=>intro r _ e;simp only[qaK,aa]at e;subst e;rfl
 |cons f fs p=>
  intro r k e;have i:=k f (by simp);have j:f.name ≠ "_":=by
   unfold yM at i
   grind
  simp only[qaK]at e;cases l:xs[f.offset]? with
  |none=>grind
  |some x=>
   cases m:h[f.offset]? with
   |none=>grind
   |some y=>
    cases n:qaK P xs h fs with
    |none=>grind
    |some r'=>
     simp only[l,m,n]at e;have q:=p r' (λg s=>k g (aB _ s)) n;have key:∃ b,(Op.equalIn (d+1) f.type x y).run P w=.ok b w/\r=(b&&r'):=by
      cases c:P.underlying f.type with
      |none=>grind
      |some o=>
       cases a:sEq x y with
       |none=>cases o<;>simp[c,a]at e
       |some b=>
        cases o<;>simp only[c,a,reduceCtorEq]at e
        . -- bool
          cases x<;>simp only[reduceCtorEq,aa]at e;cases y<;>simp[sEq]at a;exact⟨b,by rw[run_equalIn_bool' w d f.type _ _ c,<- a],e.symm⟩
        . -- int
          cases x<;>simp only[reduceCtorEq]at e;split at e
          . rename_i u;simp only[aa]at e;cases y<;>simp[sEq]at a;obtain⟨rfl,a⟩:=a;exact⟨b,by rw[run_equalIn_int w d f.type _ _ _ _ c,<- a],e.symm⟩
          grind
        . -- string
          cases x<;>simp only[reduceCtorEq,aa]at e;cases y<;>simp[sEq]at a;exact⟨b,by rw[run_equalIn_string w d f.type _ _ c,<- a],e.symm⟩
     obtain⟨b,t,rfl⟩:=key;simp only[Op.eqFields,j,ne_eq,not_false_eq_true,if_true,aK,ZL (Zf i) l,ZL (Zf i) m,ay,t,Sem.run_ite,aT]
     grind
theorem yF {P t xs a r}(b:qL P t=true)(e:qaK P xs a (P.fieldsOf t).toList=some r)(d)(w):
  (Op.equalIn (d+2) t (.agg xs) (.agg a)).run P w=.ok r w:=by
 obtain⟨c,f,h,g⟩:=zA b;rw[run_equalIn_struct w (d+1) t xs a c f];exact qeg d w _ r g e
theorem Qk {P t xs}(i:qL P t=true)(j:∀ f∈(P.fieldsOf t).toList,∃ x,xs[f.offset]? = some x)(b n)(w):
  (Instr.checkKey b (n+2) t (.agg xs)).run P w=.ok () w:=by
 obtain⟨g,p,q,k⟩:=zA i;obtain⟨m,l⟩:∃ m,m=n+1:=⟨_,rfl⟩
 rw[show n+2=m+1 by omega];simp only[Instr.checkKey,aK,run_underlying g,ay];rw[<- Array.forIn_toList];generalize (P.fieldsOf t).toList=fs at *;clear g
 induction fs with
 |nil=>simp
 |cons f fs r=>
  have a:=k f (by simp);obtain⟨x,c⟩:=j f (by simp);have e:f.name ≠ "_":=by
   unfold yM at a
   grind
  have o:(Instr.checkKey b m f.type x).run P w=.ok () w:=by
   rw[l];unfold yM at a;simp only[aC]at a;cases h:P.underlying f.type with
   |none=>grind
   |some d=>simp only[Instr.checkKey,aK,run_underlying h,ay];cases d<;>simp[h]at a<;>rfl
  simp only[List.forIn_cons,e,ne_eq,not_false_eq_true,if_true,aK,ZL (Zf a) c,ay,o,aT];simp_all
theorem run_checkKey_plain {P t d}(a:P.underlying t=some d)(hd:(∃ k,d=.int k)\/d=.string)(k b n)(w):
  (Instr.checkKey b (n+1) t k).run P w=.ok () w:=by
 simp only[Instr.checkKey,aK,run_underlying a,ay];rcases hd with⟨k,rfl⟩|rfl<;>rfl
def qdG (P:Program)(t:TypeId)(k:Value):Prop:=match P.underlying t,k with
 |some (.int _),.int _ _=>True
 |some .string,.string _=>True
 |some (.struct _),.agg xs=>qL P t=true/\∀ f∈(P.fieldsOf t).toList,∃ x,xs[f.offset]? = some x
 |_,_=>False
theorem run_checkKey {P t k}(h:qdG P t k)(b)(w):(Instr.checkKey b 10000 t k).run P w=.ok () w:=by
 unfold qdG at h;cases a:P.underlying t with
 |none=>grind
 |some d=>
  rw[a]at h;cases d<;>cases k<;>simp only at h
  . exact run_checkKey_plain a (.inl ⟨_,rfl⟩) _ b 9999 w
  . exact run_checkKey_plain a (.inr rfl) _ b 9999 w
  . exact Qk h.1 h.2 b 9998 w
end
section
variable [Glob]
theorem qcx {α β f}:∀ {l:List α} {r:List β},mapO f l=some r->r.length=l.length/\∀ (i:Nat) x,l[i]? = some x->∃ y,r[i]? = some y/\f x=some y
 |[],r,h=>by
  simp only[mapO,aa]at h
  grind
 |a::l,r,h=>by
  simp only[mapO]at h;split at h
  . rename_i y c d b;simp only[aa]at h;subst h;obtain⟨k1,e⟩:=qcx b
    grind
  grind
theorem qbZ {row n}(h:qi3 row=some n):row=[.val (.int .u8 n)]:=by
 unfold qi3 at h
 grind
theorem bytes_at {G w F ts}(h:RelF G w F ts){c V}(o:∀ p,Sh G w p c V){rows}(e:F.look c=some rows){xs}(O:mapO qi3 rows=some xs):
  ∃ a cap,V=.slice a rows.length cap/\(rows=[]\/∃ b g,a=some ⟨b,g,none⟩/\∀ (i:Nat) n,xs[i]? = some n->w.cell? ⟨b,g+i,none⟩=some (.int .u8 n)):=by
 obtain⟨Z,B⟩:=qcx O;have C:∀ row∈rows,∃ n,row=[.val (.int .u8 n)]:=λrow l=>by obtain⟨i,m⟩:=List.getElem?_of_mem l;obtain⟨n,_,j⟩:=B i row m;exact⟨n,qbZ j⟩
 have at_:∀ (i:Nat) n,xs[i]? = some n->rows[i]? = some [.val (.int .u8 n)]:=λi n j=>by
  have m:i<rows.length:=by grind
  have l:rows[i]? = some (rows[i]):=ax m;obtain⟨y,D,E⟩:=B i _ l;rw[j]at D;cases D;rw[l,qbZ E]
 cases c<;>simp only[Fr.look,aa,reduceCtorEq]at e
 . subst e;exact⟨none,0,o ⟨⟨.res,[]⟩,0,0⟩,.inl rfl⟩
 .
  rename_i H;subst e;have:=o ⟨⟨.res,[]⟩,0,0⟩;cases this with
  |immE a cap=>grind
  |imm _ b g cap sz vs T fr us E m I q P l=>
   refine⟨_,cap,rfl,?_⟩;by_cases Q:H=[]
   . grind
   .
    refine .inr ⟨b,g,rfl,λi n j=>?_⟩;have f:=at_ i n j;have r:sz=1:=by rw[<- q _ (aM f)];rfl
    have d:cellAt H i 0=some (.val (.int .u8 n)):=by simp[cellAt,f]
    have J:=P i 0 _ d;have K:=l i 0 _ d;rw[r,Nat.mul_one,Nat.add_zero]at J;have s:us i 0=.int .u8 n:=by generalize us i 0=z at K;cases K;rfl
    rw[s]at J;unfold World.cell?
    grind
 .
  rename_i p;cases k:F.get p with
  |none=>grind
  |some R=>
   cases R<;>simp only[k,aa,reduceCtorEq]at e;subst e;rename_i zz t;rcases(yD h o k (λj=>j.1 _ _ rfl)).1 with⟨_,v,rfl⟩|⟨x,L,v,rfl,S,e5⟩
   . grind
   .
    refine⟨some ⟨x.b,0,none⟩,x.cap,by simp[Hd.val,v,S],?_⟩;by_cases Q:t=[]
    . grind
    . refine .inr ⟨x.b,0,rfl,λi n j=>?_⟩;have A:F.rowsAt p.toKey=some t:=by have:=qoN k [];rw[Pl.under_nil]at this;rw[this];rfl
      obtain⟨y,vs,T,M,q2,q3,q4,U,q6,q7,q8,X⟩:=(h.cont _ _ A (.inl (by simp[Pl.toKey]))).of_hd L v;rw[L]at M;cases M;have f:=at_ i n j;have r:x.sz=1:=by rw[<- U _ (aM f)];rfl
      have d:cellAt t i 0=some (.val (.int .u8 n)):=by simp[cellAt,f]
      obtain⟨u,N,Y⟩:=X i 0 _ d;rw[r,Nat.mul_one,Nat.add_zero]at N;have s:u=.int .u8 n:=Y.1;rw[s]at N;unfold World.cell?
      grind
theorem qcF {cx G w F}{a:Act}{d s t x ty pos after g v}(h:RelF G w F a.tmps)(e:XU cx F ⟨d,.convert s t x,ty,pos,after,g⟩ s t x=some v):∃ V,(execOp a.eval ⟨d,.convert s t x,ty,pos,after,g⟩).run cx.P w=.ok (.value V) w/\RelV G w v V:=by
 unfold XU at e;split at e
 .
  rename_i k c l m f;split at e
  .
   rename_i rows n z;simp only[aG]at e;obtain⟨xs,A,rfl⟩:=e;have hd:c≠.dead:=by rintro rfl;simp[Fr.look]at z
   have o:=((Zh (qx h x) f).resolve_left hd).2;obtain⟨q,cap,B,r⟩:=bytes_at h o z A;obtain⟨j,_⟩:=qcx A;refine⟨.string (qhy xs),?_,RelV.c (.inr ⟨⟨by grind,by grind⟩,λp=>⟨rfl,rfl⟩⟩)⟩;have key:(convert s t (a.eval x)).run cx.P w=.ok (.string (qhy xs)) w:=by
    rw[B];rcases r with C|⟨b,u,rfl,D⟩
    . have y:xs=[]:=List.eq_nil_of_length_eq_zero (by grind);subst y;cases q with
      |none=>rw[run_convert_bytes_nil w s k l n _ _ t m];rfl
      |some q=>rw[run_convert_bytes_string w s t k _ _ _ l n m,C];rw[show([]:List (List Cell)).length=0 from rfl,run_bytesToString w q 0 cap [] (by rfl)];rfl
    . exact run_convert_bytes_arg w s k l n b u _ cap xs j (λi E=>by grind) t m
   simp only[execOp,aK,key,ay,aT]
  grind
 . exact qvc h XO e
end
section
variable [Glob]
theorem qp {G w F}{a:Act}(h:RelF G w F a.tmps){x c}(e:(F.ev x).cell=some c)(hd:c≠.dead):Seen c/\∀ p,Sh G w p c (a.eval x):=(Zh (qx h x) e).resolve_left hd
theorem qlv {G w F ts}(h:RelF G w F ts){p b rows V}(c:∀ q,Sh G w q (.ref p) V)(f:F.get p=some (.own b rows)){n}(d:n<rows.length):
  ∃ x cap,V=.slice (some x) rows.length cap/\∃ y,G.γ p.toKey=some y/\y.sz=b/\x=⟨y.b,0,none⟩/\∀ q,Sh G w q (.ptr ⟨p.toKey,n,0⟩) (.pointer (some ⟨y.b,n*y.sz,none⟩)):=by
 rcases(yD h c f (λd=>d.1 _ _ rfl)).1 with⟨_,a,_⟩|⟨x,e,a,rfl,g,i⟩
 . grind
 have ok:=(c ⟨⟨.res,[]⟩,0,0⟩).1;exact⟨⟨x.b,0,none⟩,x.cap,by simp[Hd.val,a,g],x,e,i,rfl,λq=>⟨ok,x,e,λj=>(by grind),by rw[Hd.adr_of a];simp⟩⟩
theorem RelV.agg_inv {G w l V}(h:RelV G w ⟨.agg,[l]⟩ V):
  ∃ vs,V=.agg vs/\vs.size=l.length/\∀ (o:Nat) c,l[o]? = some c->∃ u,vs[o]? = some u/\(c=.dead\/(Seen c/\∀ p,Sh G w p c u)):=by
 obtain⟨⟨vs,rfl,a⟩,b⟩:=h;refine⟨vs,rfl,a,λo c d=>?_⟩;obtain⟨u,e,f⟩:=b 0 o c (by simp[cellAt,d]);exact⟨u,by simpa [qX]using e,f⟩
theorem RelV.tup_inv {G w d rows V}(h:RelV G w ⟨.tup d,rows⟩ V){i:Nat}{g l}(e:d[i]? = some g)(n:rows[i]? = some l):
  ∃ Vs U,V=.tuple Vs/\Vs[i]? = some U/\∀ v,mkAV g l=some v->RelV G w v U:=by
 obtain⟨⟨Vs,rfl,t,y,q⟩,r⟩:=h;obtain⟨U,f,j⟩:=q i g l.length e (by grind);refine⟨Vs,U,rfl,f,λv a=>?_⟩;have cells:∀ (o:Nat) c,l[o]? = some c->∃ u,qX (.tup d) (.tuple Vs) i o=some u/\(c=.dead\/(Seen c/\∀ p,Sh G w p c u)):=λo c k=>r i o c (by simp[cellAt,n,k]);cases g with
 |true=>obtain⟨vs,rfl,s⟩:=j;simp only[mkAV,if_true,aa]at a;subst a;refine RelV.ag (by omega) λo c k=>?_;obtain⟨u,b,m⟩:=cells o c k;exact⟨u,by simpa [qX,e,f]using b,m⟩
 |false=>
  simp only[mkAV,aS,if_false]at a;split at a
  . rename_i x;simp only[aa]at a;subst a;obtain⟨u,b,m⟩:=cells 0 x rfl;simp only[qX,e,f,if_true,aa]at b;subst b;exact RelV.c m
  grind
theorem RelI.seen {im w G}(k:G.im=im){c v}(h:RelI im w c v):c=.dead\/(Seen c/\∀ p,Sh G w p c v):=by
 subst k;cases h with
 |val v h=>exact .inr ⟨⟨by grind,by grind⟩,λq=>⟨rfl,h⟩⟩
 |nil=>exact .inr ⟨⟨by grind,by grind⟩,λq=>rfl⟩
 |immE a cap=>exact .inr ⟨⟨by grind,by grind⟩,λq=>.immE a cap⟩
 |imm rows l d cap sz e m f us g i b j n o=>exact .inr ⟨⟨by grind,by grind⟩,λq=>.imm rows l d cap sz e m f us g i b j n o⟩
 |dead v h=>grind
theorem ZB.len {im w}:∀ {b:List (Value×List Cell)} {a:List MapEntry},ZB im w b a->b.length=a.length
 |[],[],_=>rfl
 |_::_,_::_,⟨_,_,h⟩=>by simp[h.len]
 |[],_::_,h=>h.elim
 |_::_,[],h=>h.elim
def qbb (G:Gh)(w:World)(g:Bool)(l:List Cell)(V:Value):Prop:=
 if g=true then ∃ vs,V=.agg vs/\vs.size=l.length/\∀ (o:Nat) c,l[o]? = some c->∃ u,vs[o]? = some u/\(c=.dead\/(Seen c/\∀ p,Sh G w p c u))
 else ∃ c,l=[c]/\(c=.dead\/(Seen c/\∀ p,Sh G w p c V))
theorem qbb.mk {G w g l V}(h:qbb G w g l V){v}(e:mkAV g l=some v):RelV G w v V:=by
 cases g with
 |true=>obtain⟨vs,rfl,a,b⟩:=h;simp only[mkAV,if_true,aa]at e;subst e;exact RelV.ag a b
 |false=>obtain⟨c,rfl,b⟩:=h;simp only[mkAV,aS,if_false,aa]at e;subst e;exact RelV.c b
theorem qbb.tup {G w g l V}(h:qbb G w g l V)(b):RelV G w ⟨.tup [g,false],[l,[.val (.bool b)]]⟩ (.tuple #[V,.bool b]):=by
 have q:∀ p,Sh G w p (.val (.bool b)) (.bool b):=λp=>⟨rfl,rfl⟩
 refine⟨⟨_,rfl,rfl,rfl,λi v n e f=>?_⟩,λr o c s=>?_⟩
 .
  match i with
  |0=>
   simp only[aI,aa,List.map_cons]at e f;subst e;subst f;refine⟨V,rfl,?_⟩;cases g with
   |true=>obtain⟨vs,rfl,k,_⟩:=h;grind
   |false=>obtain⟨c,rfl,_⟩:=h;rfl
  |1=>simp at e f;subst e;subst f;simp_all
  |i+2=>grind
 .
  obtain⟨row,j,d⟩:=qc.1 s
  match r with
  |0=>
   simp at j;subst j;cases g with
   |true=>obtain⟨vs,rfl,k,a⟩:=h;obtain⟨u,t,m⟩:=a o c d;exact⟨u,by simp[qX,t],m⟩
   |false=>
    obtain⟨x,rfl,m⟩:=h;cases o with
    |zero=>simp at d;subst d;exact⟨V,by simp[qX],m⟩
    |succ o=>grind
  |1=>
   simp at j;subst j;cases o with
   |zero=>simp at d;subst d;exact⟨.bool b,by simp[qX],.inr ⟨⟨by grind,by grind⟩,q⟩⟩
   |succ o=>grind
  |r+2=>grind
theorem RelV.res {G w v V}(h:RelV G w v V){g}(b:Qs v.tag g=true){l}(e:v.cells=some l):qbb G w g l V:=by
 obtain⟨k,m⟩:=h;unfold AV.cells at e;split at e
 . rename_i x a f;rw[a]at b;simp only[Qs,Bool.not_eq_true']at b;subst b;cases e;obtain⟨u,d,i⟩:=m 0 0 x (by rw[f];rfl);rw[a]at d;simp only[qX,aa]at d;subst d;exact⟨x,rfl,i⟩
 . rename_i p a f;rw[a]at b;simp only[Qs]at b;subst b;cases e;rw[a,f]at k;obtain⟨vs,rfl,j⟩:=k;refine⟨vs,rfl,j,λo c n=>?_⟩;obtain⟨u,d,i⟩:=m 0 o c (by rw[f];simp[cellAt,n]);rw[a]at d;exact⟨u,by simpa [qX]using d,i⟩
 grind
theorem ZQ.res {G w l v}(h:ZQ G.im w l v){g}(k:g=(l.length != 1)):qbb G w g l v:=by
 obtain⟨a,i,f⟩:=h;by_cases d:l.length=1
 .
  rw[aD d]at a;have:g=false:=by grind
  subst this
  match l,d with
  |[c],_=>obtain⟨u,b,e⟩:=f 0 c rfl;rw[qo1 a]at b;cases b;exact⟨c,rfl,e.seen rfl⟩
 . rw[aF d]at a;have:g=true:=by grind
   subst this;obtain⟨cs,rfl⟩:=a;exact⟨cs,rfl,by simpa [Value.cells]using i,λo c j=>let ⟨u,b,e⟩:=f o c j;⟨u,by simpa [Value.cells]using b,e.seen rfl⟩⟩
theorem qht {G w v v' V}(h:RelV G w v V)(e:qkM v=some v'):RelV G w v' (.tuple #[V,.bool true]):=by
 obtain⟨f,rows⟩:=v;unfold qkM at e;have s:∀ p,Sh G w p (.val (.bool true)) (.bool true):=λp=>⟨rfl,rfl⟩
 split at e
 .
  rename_i j k;change f=_ at j;change rows=_ at k;subst j;subst k;simp only[aa]at e;subst e;rename_i c;refine⟨⟨#[V,.bool true],rfl,rfl,rfl,λi g n b d=>?_⟩,λr o t a=>?_⟩
  .
   match i,b,d with
   |0,b,d=>simp at b d;subst b;subst d;simp_all
   |1,b,d=>simp at b d;subst b;subst d;simp_all
   |i+2,b,d=>grind
  .
   match r,o,a with
   |0,0,a=>simp[cellAt]at a;subst a;obtain⟨u,m,q⟩:=h.2 0 0 c rfl;simp only[qX,aa]at m;subst m;exact⟨V,rfl,q⟩
   |1,0,a=>simp[cellAt]at a;subst a;exact⟨_,rfl,.inr ⟨⟨by grind,by grind⟩,s⟩⟩
   |0,o+1,a=>simp[cellAt]at a
   |1,o+1,a=>simp[cellAt]at a
   |r+2,o,a=>simp[cellAt]at a
 .
  rename_i j k;change f=_ at j;change rows=_ at k;subst j;subst k;simp only[aa]at e;subst e;rename_i l;obtain⟨vs,rfl,x⟩:=h.1;refine⟨⟨#[.agg vs,.bool true],rfl,rfl,rfl,λi g n b d=>?_⟩,λr o t a=>?_⟩
  .
   match i,b,d with
   |0,b,d=>simp_all
   |1,b,d=>simp at b d;subst b;subst d;simp_all
   |i+2,b,d=>grind
  .
   match r,o,a with
   |0,o,a=>obtain⟨u,m,q⟩:=h.2 0 o t a;exact⟨u,m,q⟩
   |1,0,a=>simp[cellAt]at a;subst a;exact⟨_,rfl,.inr ⟨⟨by grind,by grind⟩,s⟩⟩
   |1,o+1,a=>simp[cellAt]at a
   |r+2,o,a=>simp[cellAt]at a
 grind
theorem qdR {cx G w F}{a:Act}{x g t ok v dst ty pos after guard}(h:RelF G w F a.tmps)(e:qbz cx F x t ok=some v):
  ∃ V,(execOp a.eval ⟨dst,.typeAssert x g t ok,ty,pos,after,guard⟩).run cx.P w=.ok (.value V) w/\RelV G w v V:=by
 unfold qbz at e;split at e
 .
  rename_i i b u k l;have c:=qvz (qx h x) k;have run:∀ ok,(∀ m,u≠.interface m)->i=t->(Instr.typeAssert (.iface i b) g t ok).run cx.P w=.ok (if ok then .tuple #[b,.bool true]else b) w:=by intro ok j f;subst f;unfold Instr.typeAssert;simp only[aK,run_underlying l,ay];cases u<;>first|simp_all|simp_all
  split at e
  . cases e
  .
   rename_i j;split at e
   . rename_i f;have d:=run ok (λm n=>j m n) f;cases ok with
     |true=>simp only[if_true]at e d;refine⟨.tuple #[b,.bool true],?_,qht (xI G w b) e⟩;simp only[execOp,c,aK,d,ay];rfl
     |false=>simp only[aS,if_false,aa]at e d;subst e;refine⟨b,?_,xI G w b⟩;simp only[execOp,c,aK,d,ay];rfl
   grind
 grind
theorem qaS {cx G w F}{a:Act}{o v}(h:RelF G w F a.tmps)(e:quiet cx F o=some v):
  ∃ V,(execOp a.eval o).run cx.P w=.ok (.value V) w/\RelV G w v V:=by
 obtain⟨dst,op,ty,pos,after,guard⟩:=o;unfold quiet at e;split at e
 . -- move
   rename_i x d;simp only at d;subst d;simp only[aa]at e;subst e;exact⟨a.eval x,rfl,qx h x⟩
 .
  -- pick
  rename_i c x y d;simp only at d;subst d;split at e
  .
   rename_i t z;simp only[aa]at e;subst e;have hb:=qvz (qx h c) z;refine⟨if t then a.eval x else a.eval y,?_,?_⟩
   . simp only[execOp,hb];cases t<;>rfl
   . cases t
     . exact qx h y
     . exact qx h x
  grind
 .
  -- binOp
  rename_i bop t x y u d;simp only at d;subst d;split at e
  . rename_i xs ys N hy;split at e
    . rename_i K;simp only[aG]at e;obtain⟨b,eb,rfl⟩:=e;have E:=(zA K).1;rw[E]at eb;have h1:=qvz (qx h x) N;have h2:=qvz (qx h y) hy;refine⟨.bool b,?_,RelV.c (.inr ⟨⟨by grind,by grind⟩,λp=>⟨rfl,rfl⟩⟩)⟩;simp only[execOp,h1,h2,aK,run_eqGuard_agg w _ t x y xs ys (zA K).2.2.1,ay,run_eql_struct,yF K eb 9998 w,aT]
    grind
  . rename_i xs ys N hy;split at e
    . rename_i K;simp only[aG]at e;obtain⟨b,eb,rfl⟩:=e;have E:=(zA K).1;rw[E]at eb;have h1:=qvz (qx h x) N;have h2:=qvz (qx h y) hy;refine⟨.bool (!b),?_,RelV.c (.inr ⟨⟨by grind,by grind⟩,λp=>⟨rfl,rfl⟩⟩)⟩;simp only[execOp,h1,h2,aK,run_eqGuard_agg w _ t x y xs ys (zA K).2.2.1,ay,run_neq_struct,yF K eb 9998 w,aT]
    grind
  . exact qvc h qbq e
 . rename_i d;simp only at d;subst d;exact qvc h qb8 e
 . rename_i d;simp only at d;subst d;exact qcF h e
 . rename_i d;simp only at d;subst d;exact qvc h xH e
 . rename_i d;simp only at d;subst d;exact qdR h e
 .
  -- load
  rename_i t x d;simp only at d;subst d;split at e
  .
   rename_i c n g z hn Y;cases J:F.loadL n c with
   |none=>grind
   |some l=>
    simp only[J,ae]at e;have hd:c≠.dead:=by rintro rfl;simp[Fr.loadL]at J
    obtain⟨_,B⟩:=qp h z hd;obtain⟨Q,us,H,hlen,hll,I,D⟩:=qa6 h B J;have R:=vK Y w;rcases qbJ e (by omega) D with⟨rfl,O⟩|⟨rfl,u,E,O⟩
    . refine⟨.agg us.toArray,?_,O⟩;have hlc:=run_loadCells_list (P:=cx.P) w Q us I;rw[hlen]at hlc;simp only[execOp,Instr.loadAt,Instr.sureAddr,H,pure_bind,aK,loadVar,R,ay,if_true,qK hn,hlc,aT]
    . refine⟨u,?_,O⟩;have h0:=I 0 u (by grind);have:Q.add 0=Q:=by simp[Addr.add]
      rw[this]at h0;simp only[execOp,Instr.loadAt,Instr.sureAddr,H,pure_bind,aK,loadVar,R,ay,aS,if_false,run_load,h0,aT]
  grind
 .
  -- nilCheck
  rename_i x d;simp only at d;subst d;split at e
  .
   rename_i p z;split at e
   . cases e
   rename_i hq;simp only[aa]at e;subst e;obtain⟨r,B⟩:=qp h z (by simp);obtain⟨_,y,_,hb,S⟩:=B ⟨⟨.res,[]⟩,0,0⟩;have hm:y.isMap=false:=by grind
   rw[Hd.adr_of hm]at S;exact⟨a.eval x,by simp only[execOp,S];rfl,RelV.c (.inr ⟨r,B⟩)⟩
  . rename_i row o z;simp only[aa]at e;subst e;obtain⟨r,B⟩:=qp h z (by simp);obtain⟨b,base,vs,T,fr,_,S,_,_⟩:=B ⟨⟨.res,[]⟩,0,0⟩;exact⟨a.eval x,by simp only[execOp,S];rfl,RelV.c (.inr ⟨r,B⟩)⟩
  grind
 .
  -- Z
  rename_i s x f d;simp only at d;subst d;split at e
  .
   rename_i fields c E z;split at e
   .
    rename_i fd K;split at e
    . rename_i m C;simp only[aG]at e;obtain⟨c',e1,rfl⟩:=e;have hd:c≠.dead:=by rintro rfl;simp[ZE]at e1
      obtain⟨_,B⟩:=qp h z hd;obtain⟨Q,H,r,hs'⟩:=XV B e1;refine⟨_,?_,RelV.c (.inr ⟨r,hs'⟩)⟩;simp only[execOp,Instr.fieldAt,Instr.sureAddr,H,aK,run_underlying E,ay,K,aT,fieldPlace,qK C,Nat.add_one_ne_zero,if_false]
    grind
   grind
  grind
 .
  -- indexAddr
  rename_i t x i d;simp only at d;subst d;split at e
  .
   -- an immutable slice
   rename_i L rows n E z hi;split at e
   .
    rename_i row sz X C;split at e
    .
     rename_i A;simp only[aa]at e;subst e;simp only[aC,aW,beq_iff_eq]at A;obtain⟨h0,hrl⟩:=A;obtain⟨_,B⟩:=qp h z (by simp);obtain⟨k,hk⟩:=xD (qx h i) hi;have hlt:n.toNat<rows.length:=(az.1 X).1;have H:=B ⟨⟨.res,[]⟩,0,0⟩;generalize hVx:a.eval x=V at H;cases H with
     |immE Q cap=>grind
     |imm _ b off cap sz' vs T fr us hb him _ hsz' S O=>
      have M:0<=n/\n<(rows.length:Int):=⟨h0,by omega⟩
      have hszeq:sz'=sz:=by grind
      subst hszeq;refine⟨.pointer (some ⟨b,off+n.toNat*sz',none⟩),?_,RelV.c (.inr ⟨⟨by grind,by grind⟩,λq=>⟨b,off+n.toNat*sz',vs,T,fr,him,by simp,hb,λj c hj=>?_⟩⟩)⟩
      . simp only[execOp,Instr.indexAt,hk,asIntOf,pure_bind,aK,run_underlying E,ay,hVx,aT,M,and_self,if_true,qK C,zb,true_and]
      . have I:cellAt rows n.toNat j=some c:=by simp[cellAt,X,hj]
        grind
    grind
   grind
  .
   -- an owned slice
   rename_i L p n E z hi;split at e
   .
    rename_i zz rows sz Y C;split at e
    . rename_i A;simp only[aa]at e;subst e;simp only[aC,aW,beq_iff_eq]at A;obtain⟨⟨h0,hlt0⟩,rfl⟩:=A;obtain⟨_,B⟩:=qp h z (by simp);obtain⟨k,hk⟩:=xD (qx h i) hi;have hlt:n.toNat<rows.length:=by omega
      obtain⟨Q,cap,H,y,hy,hz,rfl,hp⟩:=qlv h B Y hlt;have M:0<=n/\n<(rows.length:Int):=⟨h0,hlt0⟩
      rw[hz]at hp;refine⟨_,?_,RelV.c (.inr ⟨⟨by grind,by grind⟩,hp⟩)⟩;simp only[execOp,Instr.indexAt,hk,asIntOf,pure_bind,aK,run_underlying E,ay,H,aT,M,and_self,if_true,qK C,zb,Nat.zero_add,true_and]
    grind
   grind
  .
   -- an array's address
   rename_i len L c n E z hi;split at e
   .
    rename_i sz C;split at e
    . rename_i M;simp only[aG]at e;obtain⟨c',e1,rfl⟩:=e;have hd:c≠.dead:=by rintro rfl;simp[ZE]at e1
      obtain⟨_,B⟩:=qp h z hd;obtain⟨k,hk⟩:=xD (qx h i) hi;obtain⟨Q,H,r,hs'⟩:=XV B e1;refine⟨_,?_,RelV.c (.inr ⟨r,hs'⟩)⟩;simp only[execOp,Instr.indexAt,Instr.sureAddr,hk,asIntOf,pure_bind,aK,run_underlying E,ay,H,aT,M,and_self,if_true,qK C,true_and]
    grind
   grind
  grind
 . rename_i d;simp only at d;subst d;exact qvc h qaW e
 .
  -- field
  rename_i s x f d;simp only at d;subst d;split at e
  .
   rename_i fields l E N;split at e
   .
    rename_i fd K;split at e
    . rename_i n g hn Y;split at e
      . rename_i hle;have O:=qx h x;rw[N]at O;obtain⟨vs,H,C,z⟩:=O.agg_inv;obtain⟨V,hrun,D⟩:=qgk hn Y C z hle e;refine⟨V,?_,D⟩;simp only[execOp,Instr.field,aK,run_underlying E,ay,K,H,asAgg,pure_bind,hrun,aT]
      grind
    grind
   grind
  grind
 .
  -- extract
  rename_i x i d;simp only at d;subst d;split at e
  . rename_i fl rows N;split at e
    . rename_i g l Y J;have O:=qx h x;rw[N]at O;obtain⟨Vs,U,H,hU,D⟩:=O.tup_inv Y J;refine⟨U,?_,D v e⟩;simp only[execOp,Instr.extract,H,hU,aK,aT,ay]
    grind
  grind
 .
  -- len
  rename_i args argTypes d;simp only at d;subst d;split at e
  .
   rename_i x t N ht;split at e
   . rename_i L c E z;simp only[aG]at e;obtain⟨rows,J,rfl⟩:=e;have hd:c≠.dead:=by rintro rfl;simp[Fr.look]at J
     obtain⟨_,B⟩:=qp h z hd;obtain⟨Q,cap,H⟩:=qgs h B J;refine⟨.int .i64 rows.length,?_,RelV.c (.inr ⟨⟨by grind,by grind⟩,λq=>⟨rfl,rfl⟩⟩)⟩;have hm:(args.map a.eval)[0]? = some (.slice Q rows.length cap):=by grind
     simp only[execOp,resolve,pure_bind,invoke,builtin,aK,Builtin.len_,ht,hm,run_underlying E,ay,aT,goInt]
   . exact qvc h qoY e
  grind
 . rename_i d;simp only at d;subst d;exact qvc h qoY e
 . rename_i d;simp only at d;subst d;exact qvc h qoY e
 .
  -- makeFunc
  rename_i f first caps d
  simp only at d;subst d;dsimp only at e;split at e
  .
   rename_i hgood;simp only[aa]at e;subst e;have go:∀ (l:List Operand),(l.map λx=>(F.ev x).cell).all (λc=>match c with|some (.ptr p)=>p.key.path.isEmpty&&p.r==0|some (.val _)=>true|_=>false)=true ->
     qY G ((l.map λx=>(F.ev x).cell).map (·.getD .dead)) (l.map a.eval):=by
    intro l
    induction l with
    |nil=>intro _;trivial
    |cons x l ih=>
     intro J;simp only[List.map_cons,List.all_cons,aC]at J;refine⟨?_,ih J.2⟩;cases z:(F.ev x).cell with
     |none=>grind
     |some c=>
      cases c with
      |val u=>obtain⟨_,B⟩:=qp h z (by simp);show RelX G ((F.ev x).cell.getD .dead) (a.eval x);rw[z];exact B ⟨⟨.res,[]⟩,0,0⟩
      |ptr q=>
       simp only[z,aC,beq_iff_eq]at J;obtain⟨_,B⟩:=qp h z (by simp);obtain⟨a1,y,a2,hb,S⟩:=B ⟨⟨.res,[]⟩,0,0⟩;have hm:y.isMap=false:=by
        cases N:y.isMap with
        |false=>rfl
        |true=>have:=hb N;simp[Pl.isM,J.1.2]at this
       rw[Hd.adr_of hm]at S;show RelX G ((F.ev x).cell.getD .dead) (a.eval x);rw[z];exact⟨a1,by grind,y,a2,hm,S⟩
      |_=>grind
   simp only[aC]at hgood;refine⟨.func (.func f) (first.map a.eval) (caps.map a.eval),?_,RelV.c (.inr ⟨⟨by grind,by grind⟩,λq=>⟨_,_,rfl,?_,?_⟩⟩)⟩
   . simp only[execOp,Instr.makeFunc,aK,aT,ay]
   . rw[Array.toList_map];grind
   . rw[Array.toList_map];grind
  grind
 grind
end
section
variable [Glob]
theorem RelV.noOwn {G w v V}(h:RelV G w v V):(v.rows.any (·.any qy))=false:=by
 rw[List.any_eq_false];intro row a;simp only[Bool.not_eq_true,List.any_eq_false];intro c d;obtain⟨r,e⟩:=List.getElem?_of_mem a;obtain⟨o,f⟩:=List.getElem?_of_mem d;obtain⟨u,_,b⟩:=h.2 r o c (qc.2 ⟨row,e,f⟩);rcases b with rfl|⟨b,_⟩
 . rfl
 . exact qvp.1 b
theorem putV {G w F ts}(h:RelF G w F ts){d v V}(a:RelV G w v V):
  RelF G w (F.putS (some d) v) (ts.setIfInBounds d V):=by
 unfold Fr.putS;simp only[a.noOwn,aS,if_false];refine h.put_flat ⟨a.1,λr o c e=>?_⟩ (λr o c f g e b=>?_)
 . obtain⟨u,i,j⟩:=a.2 r o c e
   grind
 . have:=qea a.noOwn e;rw[b]at this;simp[qy]at this
theorem putO {G w F}{a:Act}(h:RelF G w F a.tmps){d v V}(b:RelV G w v V):
  RelF G w (F.putS d v) (a.put d V).tmps:=by
 cases d with
 |none=>exact h
 |some d=>exact putV h b
theorem putL {G w F ts}(h:RelF G w F ts){d xs l us}(f:qvg G w F xs l us)(hd:Dis xs){v V}(b:(v=.ag l/\V=.agg us.toArray)\/(∃ c,v=.c c/\l=[c]/\us=[V])):
  ∃ G',RelF G' w (F.putS (some d) v) (ts.setIfInBounds d V)/\Gain G w G' w:=by
 have g:=f.len;have a:v.rows=[l]:=by rcases b with⟨rfl,_⟩|⟨c,rfl,rfl,_⟩<;>rfl
 refine qgw h (λr o=>if r=0 then xs[o]? else none) ?_ (λr o c e=>?_) (λr o r' q s e j=>?_)
 .
  rcases b with⟨rfl,rfl⟩|⟨c,rfl,rfl,rfl⟩
  . exact⟨us.toArray,rfl,by grind⟩
  . trivial
 .
  rw[a]at e;obtain⟨rfl,k⟩:=zI e;obtain⟨x,u,t,i,m⟩:=f.get k;refine⟨u,?_,.inr ⟨x,by grind,m⟩⟩;rcases b with⟨rfl,rfl⟩|⟨y,rfl,rfl,rfl⟩
  . simpa [qX,AV.ag]using i
  . cases o with
    |zero=>simpa [qX,AV.c]using i
    |succ o=>grind
 .
  have key:∀ r o s,zg v.rows (λr o=>if r=0 then xs[o]? else none) r o=some (some s)->r=0/\xs[o]? = some (some s):=by
   intro r o s e;unfold zg at e
   grind
  obtain⟨rfl,n⟩:=key _ _ _ e;obtain⟨rfl,p⟩:=key _ _ _ j;exact⟨rfl,hd _ _ _ n p⟩
theorem RelV.ls {G w v V}(h:RelV G w v V){l}(e:v.cells=some l):
  ((v.tag=.agg/\v=.ag l/\∃ vs,V=.agg vs)\/(v.tag=.one/\∃ c,v=.c c/\l=[c]))/\(∀ c∈l,c≠.dead)->vz G w l V.cells.toList:=by
 rintro ⟨f,g⟩
 rcases f with⟨_,rfl,vs,rfl⟩|⟨_,c,rfl,rfl⟩
 . obtain⟨i,j,k,m⟩:=h.agg_inv;cases j;exact vz.of_get (by simpa [Value.cells]using k) (λo c n=>by obtain⟨u,a,b⟩:=m o c n;exact⟨u,by simpa [Value.cells]using a,b⟩)
 .
  obtain⟨u,a,b⟩:=h.2 0 0 c rfl;simp only[AV.c,qX,aa]at a;subst a;rcases b with rfl|⟨p,d⟩
  . grind
  . rw[qo1 (d ⟨⟨.res,[]⟩,0,0⟩).one];exact⟨.inr ⟨p,d⟩,trivial⟩
theorem Xb {cx G w F F' ts}(h:RelF G w F ts){v v' V}(m:RelV G w v V)(e:Qb cx F v=some (v',F')):
  ∃ im' xs l us,RelF { G with im:=im' } w F' ts/\Gain G w { G with im:=im' } w/\qvg { G with im:=im' } w F' xs l us/\Dis xs/\v'.cells=some l/\us=V.cells.toList /\
   ((v'=.ag l/\V=.agg us.toArray)\/(∃ c,v'=.c c/\l=[c]/\us=[V])):=by
 obtain⟨r,rows⟩:=v;unfold Qb at e;split at e
 .
  rename_i x a b;simp only at a b;subst a;subst b;simp only[aG,Prod.exists,ai]at e;obtain⟨n,F1,d,rfl,rfl⟩:=e;obtain⟨u,p,t⟩:=m.2 0 0 x rfl;simp only[qX,aa]at p;subst p;rcases t with rfl|⟨y,z⟩
  . simp[takeC]at d
  .
   obtain⟨im',x,g,k,_,f,_⟩:=YW h y z d;refine⟨im',[x],[n],[V],g,k,⟨f,trivial⟩,?_,rfl,?_,.inr ⟨n,rfl,rfl,rfl⟩⟩
   . intro i j s B C
     grind
   . rw[qo1 f.one]
 . rename_i l a b;simp only at a b;subst a;subst b;simp only[aG,Prod.exists,ai]at e;obtain⟨q,F1,d,rfl,rfl⟩:=e;obtain⟨vs,rfl,D,E⟩:=m.agg_inv;obtain⟨im',xs,g,k,_,f,A,_⟩:=Zl l q vs.toList G F F1 h (vz.of_get (by omega) (λo c H=>by grind)) d;exact⟨im',xs,q,vs.toList,g,k,f,A,rfl,rfl,.inl ⟨rfl,by simp⟩⟩
 grind
def Ran (cx:Cx)(G:Gh)(w:World)(a:Act)(o:Oper)(F':Fr):Prop:=∃ n V G' w',(execOp a.eval o).run cx.P w=.ok n w'/\(n=.value V\/(n=.skip/\V=Go.undef))/\RelF G' w' F' (a.put o.dst V).tmps/\Gain G w G' w'
theorem qdp {cx G w F F' a o x}(z:o.op=.assign x)(h:RelF G w F a.tmps)(e:loud cx F o=some F'):Ran cx G w a o F':=by
 obtain⟨dst,op,ty,pos,after,guard⟩:=o;change op=_ at z;subst z;have run:∀ w,(execOp a.eval ⟨dst,.assign x,ty,pos,after,guard⟩).run cx.P w=.ok (.value (a.eval x)) w:=λw=>rfl;have A:=qx h x;unfold loud at e;simp only at e;split at e
 .
  rename_i p d m;obtain⟨g,n⟩:=qp h m (by simp);split at e
  .
   rename_i q;split at e
   .
    rename_i C;subst C;split at e
    . rename_i c b;split at e
      . rename_i f;simp only[aa]at e;subst e;have D:F.get ⟨⟨.slot d,[]⟩,0,0⟩=some c:=qz (zR b) rfl;obtain⟨_,k⟩:=yD h n D (λE=>by rw[qvp.1 E]at f;grind);obtain⟨V,H,I,J⟩:=h.slots d _ b;have K:V=a.eval x:=k V (.inr ⟨Zi d,d,_,V,rfl,b,H,rfl⟩);refine⟨_,a.eval x,G,w,run w,.inl rfl,?_,Gain.refl G w⟩;have:a.tmps.setIfInBounds d (a.eval x)=a.tmps:=by grind
        simp only[Act.put,this];exact h
      grind
    grind
   grind
  .
   split at e
   .
    split at e
    . rename_i c F1 L;simp only[aa]at e;subst e;obtain⟨im',M,r,t,_,u,_⟩:=YW h g n L;obtain⟨G',y,b2⟩:=putL (d:=d) r (xs:=[M]) (l:=[c]) (us:=[a.eval x]) ⟨u,trivial⟩ (by
       intro i j s Q R
       grind) (.inr ⟨c,rfl,rfl,rfl⟩)
      exact⟨_,a.eval x,G',w,run w,.inl rfl,y,t.trans b2⟩
    grind
   . simp only[aa]at e;subst e;exact⟨_,a.eval x,G,w,run w,.inl rfl,putV h (RelV.c (.inr ⟨g,n⟩)),Gain.refl G w⟩
 . rename_i c d B m;simp only[aa]at e;subst e;exact⟨_,a.eval x,G,w,run w,.inl rfl,putV h (RelV.c (Zh A m)),Gain.refl G w⟩
 . rename_i d m;simp only[aG,Prod.exists]at e;obtain⟨v,F1,N,rfl⟩:=e;obtain⟨im',xs,l,us,r,t,O,u,_,_,P⟩:=Xb h A N;obtain⟨G',y,b2⟩:=putL (d:=d) r O u P;exact⟨_,a.eval x,G',w,run w,.inl rfl,y,t.trans b2⟩
 grind
end
section
variable [Glob]
theorem Weak.drop (F)(d):Weak F (F.drop (.loc d)):=by
 have a:=Weak.mapC (yN (.loc d)) F;refine⟨by simp[Fr.drop,Fr.mapC],λk v' e=>a.slot k v' e,λr b e=>?_⟩;simp only[Fr.drop,Fr.mapC,qH,qad]at e;split at e
 . cases e
 . exact a.box r b (by simpa [Fr.mapC,qH]using e)
theorem qY.less {G d}:∀ {l:List Cell} {vs:List Value},(∀ q,.ptr q∈l->q.key.root≠.loc d)->qY G l vs->qY { G with lv:=λk=>G.lv k/\k≠d } l vs
 |[],[],_,_=>trivial
 |c::l,v::vs,g,⟨e,i⟩=>by
  refine⟨?_,qY.less (λq f=>g q (aB _ f)) i⟩;cases c with
  |ptr q=>
   obtain⟨a,b⟩:=e;refine⟨?_,b⟩;have f:=g q (by simp);cases j:q.key.root with
   |loc k=>rw[j]at a f;exact⟨a,by grind⟩
   |_=>trivial
  |val u=>exact e
  |_=>exact e.elim
 |[],_::_,_,h=>h.elim
 |_::_,[],_,h=>h.elim
theorem Gh.ok_less {G:Gh}{d r}(h:G.ok r)(a:r≠.loc d):Gh.ok { G with lv:=λk=>G.lv k/\k≠d } r:=by
 cases r with
 |loc k=>exact⟨h,by grind⟩
 |_=>trivial
theorem Hold.drop {G w F x c u}(h:Hold G w F x c u)(d):
  (zn (.loc d) c=.dead/\oneC u=true)\/Hold { G with lv:=λk=>G.lv k/\k≠d } w (F.drop (.loc d)) x (zn (.loc d) c) u:=by
 have R:=h.one;cases x with
 |none=>
  obtain⟨a,b,g,j,i⟩:=h;cases c with
  |own E rows=>exact absurd rfl (a.1 _ rows)
  |mp t=>exact absurd rfl (a.2 t)
  |mpb t=>exact(i ⟨⟨.res,[]⟩,0,0⟩).elim
  |ref q=>grind
  |ptr q=>
   simp only[zn];split
   . grind
   . rename_i B;refine .inr ⟨a,b,g,j,λp=>?_⟩;obtain⟨y,b2⟩:=i p;exact⟨Gh.ok_less y B,b2⟩
  |clo f fs cs=>
   simp only[zn];split
   . grind
   . rename_i B;refine .inr ⟨a,b,g,j,λp=>?_⟩;obtain⟨vs,us,y,b2,b3⟩:=i p;have n:∀ q,.ptr q∈fs++cs->q.key.root≠.loc d:=by grind
     exact⟨vs,us,y,b2.less λq z=>n q (aL _ z),b3.less λq z=>n q (aR _ z)⟩
  |val v=>exact .inr ⟨a,b,g,j,λp=>i p⟩
  |nil=>exact .inr ⟨a,b,g,j,λp=>i p⟩
  |imm rows=>exact .inr ⟨a,b,g,j,λp=>i p⟩
  |cptr row o=>exact .inr ⟨a,b,g,j,λp=>i p⟩
  |dead=>grind
 |some s=>
  obtain⟨a,b,g,j,i⟩:=h;have l:∀ π,¬ Uses (F.drop (.loc d)) (s.under π):=λπ l=>i π ((Weak.drop F d).uses l);have C:Tree { G with lv:=λk=>G.lv k/\k≠d } w s c:=by
   intro rest rows e;rcases(j rest rows e).arr (by simp[Pl.under])with n|⟨hd,vs,T,H,I,J,K,L,M,N,D,O⟩
   . exact .inl (.inl n)
   refine .inr ⟨hd,vs,T,H,I,J,K,L,M,N,D,λr o A m=>?_⟩;obtain⟨u,l,P⟩:=O r o A m;refine⟨u,l,?_⟩;have Q:=(D (by simp[Pl.under])).2 r o A m;cases A<;>first|exact P|simp[qw]at Q
  cases c with
  |own E rows=>exact .inr ⟨a,b,g,C,l⟩
  |mp t=>exact .inr ⟨a,b,g,C,l⟩
  |_=>exact absurd (by constructor<;>intros<;>simp) b
theorem Gain.lv {G w}(lv):zS G w { G with lv:=lv } w:=⟨Nat.le_refl _,λ_ h=>h,λ_ _=>rfl,λ_ _ _=>⟨rfl,λh=>h⟩,λk h e=>.inl ⟨k,h,e,rfl⟩,λ_=>rfl,.refl w⟩
theorem qh2 {xs:List (Option Pl)}{l r o s}(e:zg [l] (λr o=>if r=0 then xs[o]? else none) r o=some (some s)):r=0/\xs[o]? = some (some s):=by
 unfold zg at e
 grind
theorem qaj {G w F F' ts}(h:RelF G w F ts){dst xs l us}(i:qvg G w F xs l us)(hd:Dis xs)(T)(e:qaN F dst l=some F'):
  ∃ d G',dst=some d/\RelF G' (w.alloc (.cells us.toArray T)) F' (ts.setIfInBounds d (.pointer (some ⟨w.heap.size,0,none⟩)))/\Gain G w G' (w.alloc (.cells us.toArray T)):=by
 have j:=i.len;cases dst with
 |none=>simp[qaN]at e
 |some d=>
  have f:∀ (G0:Gh) (a:Fr) (b:List Cell),RelF G0 w a ts->a.boxes.lookup (.loc d)=none->b.length=l.length ->
    (∀ (o:Nat) c,b[o]? = some c->∃ u,us.toArray[o]? = some u/\((c=.dead/\oneC u=true)\/∃ x,(if 0=0 then xs[o]? else none)=some x/\Hold G0 w a x c u)) ->
    ∃ G',RelF G' (w.alloc (.cells us.toArray T)) (({ a with boxes:=(.loc d,b)::a.boxes }:Fr).putS (some d) (.c (.ptr ⟨⟨.loc d,[]⟩,0,0⟩))) (ts.setIfInBounds d (.pointer (some ⟨w.heap.size,0,none⟩))) /\
     Gain G0 w G' (w.alloc (.cells us.toArray T)):=by
   intro G0 a b n g z k;obtain⟨G',m,b2,b3,x,b4,b5,b6⟩:=qmQ n g (l:=b) (us:=us.toArray) T (λr o=>if r=0 then xs[o]? else none) (by grind) k (λr o r' A s e q=>by obtain⟨rfl,t⟩:=qh2 e;obtain⟨rfl,v⟩:=qh2 q;exact⟨rfl,hd _ _ _ t v⟩);refine⟨G',putV m (RelV.c (.inr ⟨⟨by grind,by grind⟩,λp=>⟨b3,x,b4,λB=>(by grind),?_⟩⟩)),b2⟩;rw[Hd.adr_of b6]
   grind
  unfold qaN at e;simp only at e;split at e
  .
   rename_i g;simp only[aa]at e;subst e;obtain⟨G',m,b2⟩:=f G F l h g rfl (λo c y=>by
    obtain⟨x,u,C,D,k⟩:=i.get y
    grind)
   grind
  grind
theorem qec {u}(h:QK (qm u)=true)(G w)(F):Hold G w F none (qm u) u:=by
 have:=ZP G w u;cases c:qm u<;>rw[c]at h this<;>simp[QK]at h
 .
  rcases this with h|⟨a,b⟩
  . cases h
  . exact⟨a,by simp,by grind,by grind,b⟩
 .
  rcases this with h|⟨a,b⟩
  . cases h
  . exact⟨a,by simp,by grind,by grind,b⟩
theorem Yq:∀ {us:List Value},(us.map qm).all QK=true->∀ (G:Gh) (w:World) (F:Fr),qvg G w F (List.replicate us.length none) (us.map qm) us
 |[],_,_,_,_=>trivial
 |u::us,h,G,w,F=>by simp only[List.map_cons,List.all_cons,aC]at h;exact⟨qec h.1 G w F,Yq h.2 G w F⟩
theorem Dis.none (n):Dis (List.replicate n none):=by
 intro i j s a _
 grind
theorem Yj {P t l}(h:XP P t=some l):∃ z,(∀ w,(zeroValue t).run P w=.ok z w)/\l=z.cells.toList.map qm/\l.all QK=true/\qQ P t=some l.length:=by
 unfold XP at h;split at h
 .
  rename_i i b;split at h
  . rename_i z c;split at h
    . rename_i a;simp only[aa]at h;subst h;simp only[aC,aW]at a;exact⟨z,λw=>by simp[zeroValue,typeInfo,Sem.run,b,c],rfl,a.2,by simp[qQ,b,a.1]⟩
    grind
  grind
 grind
theorem qeI {cx G w F F' a o t}(b:o.op=.alloc t)(h:RelF G w F a.tmps)(e:loud cx F o=some F'):Ran cx G w a o F':=by
 obtain⟨dst,op,ty,pos,after,guard⟩:=o;change op=_ at b;subst b;unfold loud at e;simp only at e;split at e
 . rename_i l c;obtain⟨z,f,rfl,g,_⟩:=Yj c;obtain⟨d,G',rfl,i,b2⟩:=qaj h (Yq g G w F) (Dis.none _) t e;refine⟨_,_,G',_,?_,.inl rfl,i,b2⟩;simp[execOp,Instr.alloc,f,newVar,newRow,newObj,aK,Sem.run,ay]
 grind
theorem qhH {cx G w F F' a o t x}(b:o.op=.box t x)(h:RelF G w F a.tmps)(e:loud cx F o=some F'):Ran cx G w a o F':=by
 obtain⟨dst,op,ty,pos,after,guard⟩:=o;change op=_ at b;subst b;unfold loud at e;simp only at e;split at e
 . rename_i v F1 c;obtain⟨im',xs,l,us,f,g,i,j,k,m,p⟩:=Xb h (qx h x) c;rw[k]at e;obtain⟨d,G',rfl,n,b2⟩:=qaj f i j t e;refine⟨_,_,G',_,?_,.inl rfl,n,g.trans b2⟩;simp[execOp,Instr.box,newVar,newRow,newObj,aK,Sem.run,ay,m]
 grind
theorem qeW {cx G w F F' a o t y x}(j:o.op=.store t y x)(h:RelF G w F a.tmps)(e:loud cx F o=some F'):Ran cx G w a o F':=by
 obtain⟨dst,op,ty,pos,after,guard⟩:=o;change op=_ at j;subst j;unfold loud at e;simp only at e;split at e
 .
  rename_i p n v F1 u z A;split at e
  .
   rename_i l B;split at e
   . rename_i b;simp only[aC,aW,Bool.or_eq_true,List.isEmpty_iff]at b;obtain⟨⟨g,c,C⟩,d⟩:=b;obtain⟨_,D⟩:=qp h u (by simp);obtain⟨_,E,H,M,k⟩:=D ⟨⟨.res,[]⟩,0,0⟩;have f:E.isMap=false:=by grind
     rw[Hd.adr_of f]at k;obtain⟨im',xs,N,us,I,J,m,K,q,r,_⟩:=Xb h (qx h x) A;rw[B]at q;cases q;obtain⟨G',w',s,b2,b3⟩:=qgp (P:=cx.P) (qcn.1 c) f l us xs 0 _ w F1 F' I H m K (λL=>d.resolve_left L) e;refine⟨.skip,_,G',w',?_,.inr ⟨rfl,rfl⟩,b2,J.trans b3⟩;have i:(a.eval x).cells.size=n:=by rw[<- g,<- m.len.2,r];simp
     rw[r]at s;simp only[execOp,Instr.storeAt,Instr.sureAddr,storeVar,k,aK,aT,ay,qK z,i,ne_eq,not_true_eq_false,if_false,s]
   grind
  grind
 grind
end
section
variable [Glob]
def Nod (xs:List (Option Pl)):Prop:=(xs.filterMap id).Nodup
theorem Dis.tail {x xs}(h:Dis (x::xs)):Dis xs:=λi j s a b=>by have:=h (i+1) (j+1) s (by grind) (by grind);omega
theorem ZN:∀ {xs:List (Option Pl)},Dis xs↔Nod xs
 |[]=>⟨λ_=>List.nodup_nil,λ_ i j s b=>by grind⟩
 |none::xs=>by unfold Nod;simp only[List.filterMap_cons,id];exact⟨λh=>ZN.1 h.tail,λh=>Dis.cons (ZN.2 h) (by grind)⟩
 |some s::xs=>by unfold Nod;simp only[List.filterMap_cons,id,List.nodup_cons,List.mem_filterMap,exists_eq_right];refine⟨λh=>⟨λa=>?_,ZN.1 h.tail⟩,λh=>Dis.cons (ZN.2 h.2) (by grind)⟩;obtain⟨j,c⟩:=List.getElem?_of_mem a;have:=h 0 (j+1) s rfl (by grind);omega
theorem qvg.take {G w F}:∀ (n:Nat) {xs:List (Option Pl)} {l:List Cell} {us:List Value},qvg G w F xs l us->qvg G w F (xs.take n) (l.take n) (us.take n)
 |0,_,_,_,_=>trivial
 |n+1,[],[],[],_=>trivial
 |n+1,_::_,_::_,_::_,⟨a,b⟩=>⟨a,b.take n⟩
 |_+1,[],[],_::_,h=>h.elim
 |_+1,[],_::_,_,h=>h.elim
 |_+1,_::_,[],_,h=>h.elim
 |_+1,_::_,_::_,[],h=>h.elim
theorem qvg.drop {G w F}:∀ (n:Nat) {xs:List (Option Pl)} {l:List Cell} {us:List Value},qvg G w F xs l us->qvg G w F (xs.drop n) (l.drop n) (us.drop n)
 |0,_,_,_,h=>h
 |n+1,[],[],[],_=>trivial
 |n+1,_::_,_::_,_::_,⟨_,a⟩=>a.drop n
 |_+1,[],[],_::_,h=>h.elim
 |_+1,[],_::_,_,h=>h.elim
 |_+1,_::_,[],_,h=>h.elim
 |_+1,_::_,_::_,[],h=>h.elim
theorem qvg.append {G w F}:∀ {xs a:List (Option Pl)} {l c:List Cell} {us b:List Value},qvg G w F xs l us->qvg G w F a c b->qvg G w F (xs++a) (l++c) (us++b)
 |[],_,[],_,[],_,_,h=>h
 |_::_,_,_::_,_,_::_,_,⟨d,e⟩,h=>⟨d,e.append h⟩
 |[],_,[],_,_::_,_,h,_=>h.elim
 |[],_,_::_,_,_,_,h,_=>h.elim
 |_::_,_,[],_,_,_,h,_=>h.elim
 |_::_,_,_::_,_,[],_,h,_=>h.elim
def qk9 (G:Gh)(w:World)(F:Fr):List (List (Option Pl))->List (Nat×List Cell)->List (Nat×Value)->Prop
 |[],[],[]=>True
 |xs::xss,(i,l)::a,(j,V)::vs=>i=j/\qvg G w F xs l V.cells.toList/\qk9 G w F xss a vs
 |_,_,_=>False
theorem qgn {cx F}:takeC cx F .dead=none:=rfl
theorem qfu {cx}:∀ {F:Fr} {l b:List Cell} {F':Fr},qxi cx F l=some (b,F')->∀ c∈l,c≠.dead
 |F,[],_,_,_,c,d=>by grind
 |F,f::l,b,F',e,c,d=>by
  simp only[qxi]at e;cases a:takeC cx F f with
  |none=>grind
  |some y=>
   obtain⟨c1,F1⟩:=y;simp only[a]at e;cases g:qxi cx F1 l with
   |none=>grind
   |some z=>
    obtain⟨h,F2⟩:=z;rcases List.mem_cons.1 d with rfl|hm
    . rintro rfl
      rw[qgn]at a;cases a
    . exact qfu g c hm
theorem Xf {v:AV}{l}(h:v.cells=some l):(v.tag=.agg/\v=.ag l)\/(v.tag=.one/\∃ c,v=.c c/\l=[c]):=by
 obtain⟨d,rows⟩:=v;unfold AV.cells at h;split at h
 . rename_i x a b;simp only at a b;subst a;subst b;simp only[aa]at h;exact .inr ⟨rfl,x,rfl,h.symm⟩
 . rename_i e a b;simp only at a b;subst a;subst b;simp only[aa]at h;subst h;exact .inl ⟨rfl,rfl⟩
 grind
theorem RelV.ls' {G w v V}(h:RelV G w v V){l}(e:v.cells=some l)(hd:∀ c∈l,c≠.dead):vz G w l V.cells.toList:=by
 refine h.ls e ⟨?_,hd⟩;rcases Xf e with⟨h1,rfl⟩|h1
 . obtain⟨vs,rfl,_⟩:=h.agg_inv
   grind
 grind
theorem xJ {cx w ts}:∀ (vs:List (Nat×AV)) (Vs:List (Nat×Value)) (c:List (Nat×List Cell)) (G:Gh) (F F':Fr),RelF G w F ts ->
  vs.length=Vs.length->(∀ (j:Nat) x X,vs[j]? = some x->Vs[j]? = some X->x.1=X.1/\RelV G w x.2 X.2)->ym cx F vs=some (c,F') ->
  ∃ im' xss,RelF { G with im:=im' } w F' ts/\Gain G w { G with im:=im' } w/\Shr G F { G with im:=im' } F'/\qk9 { G with im:=im' } w F' xss c Vs/\Nod xss.flatten /\
   ∀ s,some s∈xss.flatten->Uses F s.toKey
 |[],[],c,G,F,F',h,_,_,e=>by simp only[ym,aa,ai]at e;obtain⟨rfl,rfl⟩:=e;exact⟨G.im,[],h,Gain.refl G w,Shr.refl G F,trivial,List.nodup_nil,by grind⟩
 |(i,v)::vs,(j,V)::Vs,c,G,F,F',h,n,o,e=>by
  simp only[ym]at e;obtain⟨a,p⟩:=o 0 _ _ rfl rfl;simp only at a p;cases q:v.cells with
  |none=>grind
  |some l=>
   simp only[q]at e;cases d:qxi cx F l with
   |none=>grind
   |some y=>
    obtain⟨A,F1⟩:=y;simp only[d]at e;cases r:ym cx F1 vs with
    |none=>grind
    |some z=>
     obtain⟨f,F2⟩:=z;simp only[r,aa,ai]at e;obtain⟨rfl,rfl⟩:=e;obtain⟨g,xs,t,B,k,u,C,I⟩:=Zl l A V.cells.toList G F F1 h (p.ls' q (qfu d)) d;obtain⟨m,xss,D,b2,b3,b4,b5,b6⟩:=xJ vs Vs f { G with im:=g } F1 F2 t (by grind) (λj x X J K=>by obtain⟨c1,E⟩:=o (j+1) x X (by grind) (by grind);exact⟨c1,E.shr k⟩) r;refine⟨m,xs::xss,D,B.trans b2,k.trans b3,⟨a,u.shr b3 t.inv,b4⟩,?_,λs hs=>?_⟩
     . unfold Nod;rw[List.flatten_cons,List.filterMap_append,List.nodup_append];refine⟨ZN.1 C,b5,?_⟩;intro s hs L b H;subst H;simp only[List.mem_filterMap,id,exists_eq_right]at hs b;exact u.nouse hs (b6 s b)
     . rw[List.flatten_cons,List.mem_append]at hs;rcases hs with hs|hs
       . grind
       . exact k.uses _ (b6 s hs)
 |[],_::_,_,_,_,_,_,n,_,_=>by grind
 |_::_,[],_,_,_,_,_,n,_,_=>by grind
theorem splice (cells new:Array Value)(a)(h:a+new.size<=cells.size):
  (new.zipIdx.foldl (λcs (c,j)=>cs.setIfInBounds (a+j) c) cells).toList=cells.toList.take a++new.toList++cells.toList.drop (a+new.size):=by
 have go:∀ (l:List Value) (k:Nat) (cs:Array Value),a+k+l.length<=cs.size ->
   ((l.zipIdx k).foldl (λ(cs:Array Value) (x:Value×Nat)=>cs.setIfInBounds (a+x.2) x.1) cs).toList=cs.toList.take (a+k)++l++cs.toList.drop (a+k+l.length):=by
  intro l
  induction l with
  |nil=>simp_all
  |cons v l b=>
   intro k cs d;simp only[List.length_cons]at d;simp only[List.zipIdx_cons,List.foldl_cons];rw[b (k+1) _ (by grind)];simp only[Array.toList_setIfInBounds,List.length_cons];rw[List.drop_set_of_lt (by omega)];rw[show cs.toList.set (a+k) v=cs.toList.set (a+k) v from rfl,show List.take (a+(k+1)) (cs.toList.set (a+k) v)=List.take (a+k) cs.toList++[v]from by rw[show a+(k+1)=a+k+1 from by omega,List.take_add_one,List.take_set_of_le (by omega),List.getElem?_set_self (by grind)];rfl]
   grind
 have:=go new.toList 0 cells (by omega);rw[<- Array.foldl_toList,Array.toList_zipIdx];omega
theorem qf4 {xs a b n k}(c:n<=k)(h:Nod (xs++(a++b))):Nod ((xs.take n++a++xs.drop k)++b):=by
 unfold Nod at *;have d:((xs.take n++a++xs.drop k)++b).Perm ((xs.take n++xs.drop k)++(a++b)):=by grind
 rw[(d.filterMap id).nodup_iff];refine List.Nodup.sublist (List.Sublist.filterMap id (List.Sublist.append ?_ (List.Sublist.refl _))) h;have e:(xs.drop k).Sublist (xs.drop n):=by grind
 calc (xs.take n++xs.drop k).Sublist (xs.take n++xs.drop n):=List.Sublist.append (List.Sublist.refl _) e
  _=xs:=List.take_append_drop n xs
theorem YV {G w F b}:∀ (k:List (Nat×List Cell)) (vs:List (Nat×Value)) (xss:List (List (Option Pl))) (xs:List (Option Pl)) (l g:List Cell) (us:List Value),
  qvg G w F xs l us->qk9 G w F xss k vs->Nod (xs++xss.flatten)->qbn b l k=some g ->
  ∃ c d,Instr.fill b us.toArray vs=some d.toArray/\qvg G w F c g d/\Dis c
 |[],[],[],xs,l,g,us,h,_,q,e=>by simp only[qbn,aa]at e;subst e;exact⟨xs,us,rfl,h,ZN.2 (by grind)⟩
 |(i,cs)::k,(j,V)::vs,r::xss,xs,l,g,us,h,⟨m,o,s⟩,q,e=>by
  subst m;simp only[qbn]at e;cases p:b i with
  |none=>grind
  |some y=>
   obtain⟨a,size⟩:=y;simp only[p]at e;split at e
   .
    rename_i t;simp only[aC,aW]at t;have C:=h.len;have u:=o.len;have v:V.cells.size=cs.length:=by grind
    have n:a+V.cells.size<=us.toArray.size:=by grind
    obtain⟨c,d,x,z,A⟩:=YV k vs xss (xs.take a++r++xs.drop (a+cs.length)) _ g (us.take a++V.cells.toList++us.drop (a+cs.length))
     (((h.take a).append o).append (h.drop _)) s (qf4 (by omega) (by grind)) e
    refine⟨c,d,?_,z,A⟩;simp only[Instr.fill,p];have f:(decide (V.cells.size≠size)||decide (a+V.cells.size>us.toArray.size))=false:=by grind
    rw[f];have B:=splice us.toArray V.cells a n;rw[v]at B;simp only[aS,if_false];rw[<- x];congr 1
    grind
   grind
 |[],_::_,_,_,_,_,_,_,h,_,_=>by cases ‹List (List (Option Pl))›<;>exact h.elim
 |[],[],_::_,_,_,_,_,_,h,_,_=>h.elim
 |_::_,[],_,_,_,_,_,_,h,_,_=>by cases ‹List (List (Option Pl))›<;>exact h.elim
 |_::_,_::_,[],_,_,_,_,_,h,_,_=>h.elim
end
section
variable [Glob]
theorem Qp {G G' w w' p q c u}(a:G'.im=G.im)(d:∀ b,G.im b->w'.heap[b]? = w.heap[b]?)(e:qw c=true)(f:qy c=false)(h:Sh G w p c u):Sh G' w' q c u:=by
 cases c with
 |val v=>exact h
 |nil=>exact h
 |dead=>exact h
 |imm rows=>exact RelI.mono (λb g=>by grind) d h
 |own i rows=>simp[qy]at f
 |_=>simp[qw]at e
theorem qgT {G w F ts}(h:RelF G w F ts){d rows sz b cap w' vs T}(X:Nat->Nat->Option Pl)(a:w.heap.size<=w'.heap.size)(l:∀ g,g≠b->g<w.heap.size->w'.heap[g]? = w.heap[g]?)(S:b<w'.heap.size)(him:¬ G.im b)(hown:∀ k x,G.γ k=some x->x.b=b->k.path≠[]/\¬ Uses F k/\∀ r o s π,X r o=some s->k≠s.under π)(hold':b<w.heap.size->∃ k x,G.γ k=some x/\x.b=b)(hobj:w'.heap[b]? = some (.cells vs T (0,0)))(hout:Out w w')(hrow:∀ row∈rows,row.length=sz)(J:rows.length<=cap)(hvs:vs.size=cap*sz)(N:∀ r o c,cellAt rows r o=some c->qw c=true/\∃ u,vs[r*sz+o]? = some u /\
   match X r o with
   |none=>qy c=false/\∃ p,Sh G w p c u
   |some s=>Sh G w s c u/\Tree G w s c)(hX:∀ r o s,X r o=some s->∀ π,¬ Uses F (s.under π))(hinj:∀ r o r' m s s' π D,X r o=some s->X r' m=some s'->s.under π=s'.under D->r=r'/\o=m/\π=D):
  ∃ G',RelF G' w' (F.putS (some d) (.c (.own sz rows))) (ts.setIfInBounds d (.slice (some ⟨b,0,none⟩) rows.length cap))/\Gain G w G' w':=by
 let V:Value:=.slice (some ⟨b,0,none⟩) rows.length cap
 let K:Key:=⟨.slot d,[(0,0)]⟩
 let hd:Hd:=⟨b,sz,rows.length,cap,false⟩
 let Y:Nat->Nat->Option (Option Pl):=λr o=>(X r o).map some
 have hY:∀ r o s,Y r o=some (some s)↔X r o=some s:=λr o s=>by simp[Y]
 have hYn:∀ r o,Y r o≠none->∃ s,X r o=some s:=λr o hn=>by
  cases L:X r o with
  |none=>grind
  |some s=>grind
 let F1:=(F.killR (.slot d)).put (some d) AV.deadv
 let ts1:=ts.setIfInBounds d V
 have z:∀ r o c,cellAt AV.deadv.rows r o=some c->c=.dead:=λr o c e=>(one_cell e).2.2;have r1:RelF G w F1 ts1:=by
  refine(h.mapC (qP (.slot d))).put_flat ⟨trivial,λr o c e=>?_⟩ (λr o c U E e=>by grind)
  obtain⟨rfl,rfl,rfl⟩:=one_cell e;exact⟨V,rfl,.inl rfl⟩
 have fre:∀ π,π≠[]->¬ Uses F1 ⟨.slot d,π⟩:=λπ hπ=>vQ h hπ (λr o c U E es e=>by grind) (λr o c e k j=>by rw[z r o c e]at j;simp[deps]at j);have O:∀ k,Uses F1 k->Uses F k:=λk H=>(Weak.mapC (qP (.slot d)) F).uses (Uses.put (λr o c U E e=>by grind) (λr o c e=>by rw[z r o c e];simp[deps]) H);have P:Inj Y:=λr o r' m s s' π D e Z he=>hinj r o r' m s s' π D ((hY _ _ _).1 e) ((hY _ _ _).1 Z) he;have r2:RelF (G.mv K Y) w F1 ts1:=r1.mv K P (λr o π _=>fre _ (by simp[K])) (λr o s π e H=>hX r o s ((hY _ _ _).1 e) π (O _ H))
 let G1:=G.mv K Y
 -- the block's own keys go
 let G2:Gh:={ G1 with γ:=λk=>match G1.γ k with
  |some x=>if x.b=b then none else some x
  |none=>none }
 have Q:∀ k x,G2.γ k=some x->G1.γ k=some x/\x.b≠b:=by grind
 have g2':∀ k x,G1.γ k=some x->x.b≠b->G2.γ k=some x:=by grind
 have n:GInv G2 w:=⟨λk k' x x' e Z S=>r2.inv.inj k k' x x' (Q k x e).1 (Q k' x' Z).1 S,λk x e=>r2.inv.lt k x (Q k x e).1,r2.inv.imlt,r2.inv.glob⟩
 have r3:RelF G2 w F1 ts1:=by
  refine r2.ghost n rfl rfl λk H=>?_;cases j:G1.γ k with
  |none=>grind
  |some x=>
   have R:x.b≠b:=by
    intro hxb;rcases YE G K Y k with⟨r,o,s,π,h1,h2,h3⟩|h1|⟨h1,h2⟩
    . grind
    . grind
    grind
   grind
 have q:∀ g,G.im g->w'.heap[g]? = w.heap[g]?:=λg hi=>l g (λe=>him (e▸hi)) (h.inv.imlt g hi);have r4:RelF G2 w' F1 ts1:=r3.same ⟨a,q,λk x e=>l _ (Q k x e).2 (n.lt k x e)⟩
 let f:=G2.add K hd
 have I:∀ k,k≠K->f.γ k=G2.γ k:=λk j=>by simp only[f,Gh.add,aF j]
 have g3K:f.γ K=some hd:=by simp[f,Gh.add]
 have inv3:GInv f w':=by
  refine⟨λk k' x x' e Z hbb=>?_,λk x e=>?_,λg hi=>Nat.lt_of_lt_of_le (h.inv.imlt g hi) a,λb S=>⟨(h.inv.glob b S).1,(q b (h.inv.glob b S).1).trans (h.inv.glob b S).2⟩⟩
  .
   by_cases j:k=K
   . grind
   . by_cases hk':k'=K
     . grind
     . rw[I k j]at e;rw[I k' hk']at Z;exact n.inj k k' x x' e Z hbb
  . by_cases j:k=K
    . grind
    . rw[I k j]at e;exact Nat.lt_of_lt_of_le (n.lt k x e) a
 have r5:RelF f w' F1 ts1:=r4.ghost inv3 rfl rfl λk H=>I k (by grind)
 -- what is moved
 have γm:∀ r o s π x,X r o=some s->G.γ (s.under π)=some x->f.γ ((⟨K,r,o⟩:Pl).under π)=some x/\w'.heap[x.b]? = w.heap[x.b]?:=by intro r o s π x L e;have R:x.b≠b:=λhxb=>(hown _ x e hxb).2.2 r o s π L rfl;refine⟨?_,l _ R (h.inv.lt _ x e)⟩;rw[I _ (by intro j;have:=congrArg (λk=>k.path.length) j;simp[Pl.under,K]at this)];refine g2' _ x ?_ R;rw[Ze G K ((hY r o s).2 L)];exact e
 have γn:∀ r o s π,X r o=some s->G.γ (s.under π)=none->f.γ ((⟨K,r,o⟩:Pl).under π)=none:=by
  intro r o s π L e;rw[I _ (by intro j;have:=congrArg (λk=>k.path.length) j;simp[Pl.under,K]at this)];have:G1.γ ((⟨K,r,o⟩:Pl).under π)=none:=by rw[Ze G K ((hY r o s).2 L)];exact e
  grind
 have carry:∀ r o s c u,X r o=some s->qw c=true->Sh G w s c u->Tree G w s c->Sh f w' ⟨K,r,o⟩ c u/\Tree f w' ⟨K,r,o⟩ c:=by
  intro r o s c u L hp t ht;constructor
  .
   cases c with
   |own U E=>
    rcases t with⟨M,e2,e3⟩|⟨x,M,e2,e3,e4⟩
    . refine .inl ⟨?_,e2,e3⟩;rw[<- Pl.under_nil]at M |-
      grind
    refine .inr ⟨x,?_,e2,e3,e4⟩;rw[<- Pl.under_nil]at M |-
    grind
   |val v=>exact t
   |nil=>exact t
   |dead=>exact t
   |imm E=>exact Qp (G:=G) (G':=f) (p:=s) rfl q rfl rfl t
   |_=>simp[qw]at hp
  .
   intro rest E e;rcases(ht rest E e).arr (by simp[Pl.under])with⟨g1,Q,_⟩|⟨x,vs',T',M,e2,e3,e4,e5,e6,e7,e8,e9⟩
   . exact .inl (.inl ⟨γn r o s rest L g1,Q,by simp[Pl.under]⟩)
   obtain⟨m1,m2⟩:=γm r o s rest x L M;have A:(s.under rest).path≠[]:=by simp[Pl.under]
   refine .inr ⟨x,vs',T',m1,e2,e3,by grind,e5,e6,e7,λ_=>e8 A,λr' m c' B=>?_⟩;obtain⟨u',hu',C⟩:=e9 r' m c' B;refine⟨u',hu',?_⟩;have hp':=(e8 A).2 r' m c' B;cases c' with
   |own U rs'=>
    have k1:(⟨(⟨K,r,o⟩:Pl).under rest,r',m⟩:Pl).toKey=(⟨K,r,o⟩:Pl).under (rest++[(r',m)]):=by simp[Pl.toKey,Pl.under]
    have k2:(⟨s.under rest,r',m⟩:Pl).toKey=s.under (rest++[(r',m)]):=by simp[Pl.toKey,Pl.under]
    rcases C with⟨f1,f2⟩|⟨y,f1,f2⟩
    . rw[k2]at f1;exact .inl ⟨by grind,f2⟩
    refine .inr ⟨y,?_,f2⟩
    grind
   |val v=>exact C
   |nil=>exact C
   |dead=>exact C
   |imm rs'=>exact Qp (G:=G) (G':=f) (p:=s) rfl q rfl rfl C
   |_=>simp[qw]at hp'
 have cells:∀ r o c,cellAt rows r o=some c->qw c=true/\∃ u,vs[r*sz+o]? = some u/\Sh f w' ⟨K,r,o⟩ c u/\Tree f w' ⟨K,r,o⟩ c:=by
  intro r o c e;obtain⟨hp,u,H,t⟩:=N r o c e;refine⟨hp,u,H,?_⟩;split at t
  . obtain⟨ho,p,t⟩:=t;exact⟨Qp (G:=G) (G':=f) (p:=p) rfl q hp ho t,Tree.flat (by rintro U E rfl;simp[qy]at ho)⟩
  grind
 refine⟨f,?_,?_⟩
 .
  have r6:RelF f w' (F1.put (some d) (.c (.own sz rows))) (ts1.setIfInBounds d V):=by
   refine r5.put ⟨trivial,λr o c e=>?_⟩ (λπ E hπ e=>?_)
   . obtain⟨rfl,rfl,rfl⟩:=one_cell e;exact⟨V,rfl,.inr (.inr ⟨hd,g3K,rfl,rfl,rfl,rfl⟩)⟩
   .
    cases π with
    |nil=>grind
    |cons y π=>
     obtain⟨r,o⟩:=y;simp only[getR]at e;cases hc:cellAt (AV.c (Cell.own sz rows)).rows r o with
     |none=>grind
     |some c=>
      obtain⟨rfl,rfl,rfl⟩:=one_cell hc;simp only[hc]at e;cases π with
      |nil=>
       simp only[getR,aa]at e;subst e;exact .inr ⟨hd,vs,T,g3K,rfl,him,hobj,hrow,by rw[hvs];exact Nat.mul_le_mul_right _ J,J,λ_=>⟨hvs,λr o c e=>(cells r o c e).1⟩,
        λr o c e=>let ⟨_,u,H,t,_⟩:=cells r o c e;⟨u,H,t⟩⟩
      |cons y' π=>
       obtain⟨r',m⟩:=y';simp only[getR]at e;cases B:cellAt rows r' m with
       |none=>grind
       |some c'=>
        cases c' with
        |own U rs'=>simp only[B]at e;obtain⟨_,u,_,_,ht⟩:=cells r' m _ B;exact ht π E e
        |_=>grind
  have M:(F.putS (some d) (.c (.own sz rows)))=F1.put (some d) (.c (.own sz rows)):=by simp only[Fr.putS];rw[aD (by simp[AV.c,qy])];exact(qc9 _ _ _ _).symm
  have e2:ts1.setIfInBounds d V=ts.setIfInBounds d V:=by grind
  grind
 .
  refine⟨a,λ_ h=>h,q,λg hlt hn=>⟨l g (λe=>?_) hlt,λh=>h⟩,λk x e=>?_,λi=>?_,hout,λd' hd'=>⟨hd',?_⟩⟩
  . grind
  . by_cases j:k=K
    . grind
    . rw[I k j]at e;exact(Gain.mv K Y:Gain G w G1 w).own k x (Q k x e).1
  . rw[I _ (by simp[K])];have M:G1.γ ⟨.par i,[]⟩=G.γ ⟨.par i,[]⟩:=qaF rfl
    grind
  . rw[I _ (by simp[K])];have M:G1.γ ⟨.loc d',[]⟩=G.γ ⟨.loc d',[]⟩:=qaF rfl
    grind
end
section
variable [Glob]
theorem qf9 (a:Array Value)(n k)(b:a.size=n)(e:0<n):
  ((Array.range (k*n)).map (λi=>a[i % a.size]!)).toList=(List.replicate k a.toList).flatten:=by
 rw[Array.toList_map,Array.toList_range,b]
 induction k with
 |zero=>simp
 |succ k d=>
  rw[Nat.succ_mul,Nat.add_comm,List.range_add,List.map_append,List.replicate_succ,List.flatten_cons,<- d,List.map_map];congr 1
  . apply List.ext_getElem?;intro i;simp only[aH,aP];by_cases c:i<n
    . simp[c,Nat.mod_eq_of_lt c,b]
    grind
  . apply List.map_congr_left;simp_all
theorem ZO (sz):∀ (n:Nat) (l:List Cell),(chunk sz n l).length=n
 |0,_=>rfl
 |n+1,l=>by simp[chunk,ZO sz n]
theorem qds (sz):∀ (n:Nat) (l:List Cell),l.length=n*sz->∀ row∈chunk sz n l,row.length=sz
 |0,_,_,row,h=>by simp[chunk]at h
 |n+1,l,b,row,h=>by
  have a:l.length=n*sz+sz:=by grind
  rcases List.mem_cons.1 h with rfl|h
  . grind
  . exact qds sz n _ (by grind) row h
theorem qbQ (sz):∀ (n:Nat) (l:List Cell) {r o:Nat} {c:Cell},cellAt (chunk sz n l) r o=some c->r<n/\o<sz/\l[r*sz+o]? = some c
 |0,_,r,o,c,h=>by simp[chunk,cellAt]at h
 |n+1,l,r,o,c,h=>by
  cases r with
  |zero=>
   obtain⟨row,a,d⟩:=qc.1 h;simp only[chunk,aI,aa]at a
   grind
  |succ r=>
   have b:cellAt (chunk sz n (l.drop sz)) r o=some c:=by simpa [chunk,cellAt]using h
   obtain⟨e,f,g⟩:=qbQ sz n _ b
   grind
theorem qch {w:World}(o b)(a:b<w.heap.size):(w.alloc o).heap[b]? = w.heap[b]?:=by rw[heap_alloc,aF (by omega)]
theorem qhB {G w}(a:GInv G w):¬ G.im w.heap.size:=λb=>Nat.lt_irrefl _ (a.imlt _ b)
theorem qfJ {cx G w F a op ty pos after guard}(h:RelF G w F a.tmps){V o}(run:(execOp a.eval ⟨none,op,ty,pos,after,guard⟩).run cx.P w=.ok (.value V) (w.alloc o))(d:∀ vs T fr,o=.cells vs T fr->fr=(0,0)):Ran cx G w a ⟨none,op,ty,pos,after,guard⟩ F:=⟨_,_,G,_,run,.inl rfl,h.same (Same.alloc h.inv _),Gain.same (by simp_all) (λb c=>qch _ b c) h.inv (Out.alloc _ _)⟩
theorem qas {cx G w F F' a o t len g}(ho:o.op=.buildSlice t len g)(h:RelF G w F a.tmps)(e:loud cx F o=some F'):Ran cx G w a o F':=by
 obtain⟨dst,op,ty,pos,after,guard⟩:=o;change op=_ at ho;subst ho;unfold loud at e;simp only at e;split at e
 .
  rename_i A hu;split at e
  .
   rename_i sz zl J F1 Z hz ht;split at e
   .
    rename_i m;simp only[aC,aW]at m;split at e
    .
     rename_i l hf;split at e
     .
      rename_i K;simp only[aa]at e;subst e;obtain⟨z,hzr,rfl,hp,hsz'⟩:=Yj hz;have hzs:z.cells.size=sz:=by grind
      obtain⟨im',xss,U,a2,_,a4,a5,_⟩:=xJ _ (g.toList.map λ(i,x)=>(i,a.eval x)) J G F F1 h (by simp) (λj x X D hX=>by
       rw[aH]at D hX;cases hj:g.toList[j]? with
       |none=>grind
       |some y=>simp only[hj,av,aa]at D hX;subst D;subst hX;exact⟨rfl,qx h y.2⟩) ht
      have zl0:=qf9 z.cells sz len hzs m.2;have M:(List.replicate len (z.cells.toList.map qm)).flatten=((List.replicate len z.cells.toList).flatten).map qm:=by simp_all
      have hpl:(((List.replicate len z.cells.toList).flatten).map qm).all QK=true:=by grind
      rw[M]at hf;obtain⟨B,C,b1,b2,b3⟩:=YV J _ xss _ _ l _ (Yq hpl { G with im:=im' } w F1) a4 (by
       unfold Nod;rw[List.filterMap_append];have:(List.replicate ((List.replicate len z.cells.toList).flatten).length (none:Option Pl)).filterMap id=[]:=by
        rw[List.filterMap_eq_nil_iff]
        grind
       rw[this];exact a5) hf
      have N:=b2.len;have hus:C.length=len*sz:=by
       rw[N.2];have go:∀ (J:List (Nat×List Cell)) (l Y:List Cell),qbn (λi=>some (i*sz,sz)) l J=some Y->Y.length=l.length:=by
        intro J
        induction J with
        |nil=>intro l Y e;simp only[qbn,aa]at e;rw[e]
        |cons p J ih=>
         obtain⟨i,cs⟩:=p;intro l Y e;simp only[qbn]at e
         grind
       grind
      have run:(execOp a.eval ⟨dst,.buildSlice t len g,ty,pos,after,guard⟩).run cx.P w=.ok (.value (.slice (some ⟨w.heap.size,0,none⟩) len len)) (w.alloc (.cells C.toArray A)):=by
       have O:¬ (len*sz>2 ^ 24):=by omega
       have q:Instr.fill (λi=>some (i*sz,sz)) ((Array.range (len*sz)).map (λi=>z.cells[i % z.cells.size]!)) (g.map λ(i,x)=>(i,a.eval x)).toList=some C.toArray:=by
        rw[Array.toList_map,<- b1];congr 1
        grind
       simp only[execOp,Instr.buildSlice,aK,run_underlying hu,ay,qK Z,aF O];by_cases h0:len*sz=0
       . have hl0:len=0:=by rcases Nat.mul_eq_zero.1 h0 with h|h<;>omega
         subst hl0;have he:∀ f:Nat->Value,(Array.range (0*sz)).map f = #[]:=by grind
         rw[he]at q;simp only[aD h0,he,aK,aT,ay];rw[q];rfl
       . simp only[aF h0,aK,aT,hzr,ay];rw[q];rfl
      cases dst with
      |none=>obtain⟨n,V,G',w',c1,c2,c3,c4⟩:=qfJ (cx:=cx) U run (λ_ _ _ e=>by grind);exact⟨n,V,G',w',c1,c2,c3,a2.trans c4⟩
      |some d=>
       obtain⟨G',c1,c2⟩:=qgT (b:=w.heap.size) (cap:=len) (w':=w.alloc (.cells C.toArray A)) (vs:=C.toArray) (T:=A) U (d:=d) (rows:=chunk sz len l) (sz:=sz)
        (λr o=>if r<len/\o<sz then(B[r*sz+o]?).join else none)
        (by simp[size_alloc]) (λb' hne v=>qch _ b' v) (by simp[size_alloc]) (qhB U.inv)
        (λk x hk D=>absurd (U.inv.lt k x hk) (by omega)) (λv=>absurd v (Nat.lt_irrefl _)) (by rw[heap_alloc];simp) (Out.alloc _ _)
        (qds sz len l (by omega)) (by rw[ZO];omega) (by omega)
        (λr o c hc=>by
         obtain⟨k1,k2,k3⟩:=qbQ sz len l hc;obtain⟨x,u,L,k5,H⟩:=b2.get k3;refine⟨List.all_eq_true.1 K c (aM k3),u,by grind,?_⟩;simp only[k1,k2,and_self,if_true,L,Option.join_some];cases x with
         |none=>exact⟨qvp.1 H.1,⟨⟨.res,[]⟩,0,0⟩,H.2.2.2.2 _⟩
         |some s=>exact⟨H.2.2.1,H.2.2.2.1⟩)
        (λr o s E=>by
         split at E
         . rename_i P;cases D:B[r*sz+o]? with
           |none=>grind
           |some x=>
            simp only[D,Option.join_some]at E;subst E;have v:r*sz+o<l.length:=by grind
            obtain⟨x',u,L,k5,H⟩:=b2.get (ax v);rw[D]at L;cases L;exact H.2.2.2.2
         grind)
        (λr o r' o' s s' π π' E Q R=>by
         split at E
         .
          rename_i P;split at Q
          . rename_i S;have src:∀ (i:Nat) (s:Pl),(B[i]?).join=some s->B[i]? = some (some s)/\∃ (k a b:Nat),s=(⟨⟨.slot k,[]⟩,a,b⟩:Pl):=by
             intro i s E;cases D:B[i]? with
             |none=>grind
             |some x=>
              simp only[D,Option.join_some]at E;subst E;have v:i<l.length:=by grind
              obtain⟨x',u,L,k5,H⟩:=b2.get (ax v);rw[D]at L;cases L;exact⟨rfl,H.1⟩
            obtain⟨m1,k,x,y,rfl⟩:=src _ _ E;obtain⟨m2,k',x',y',rfl⟩:=src _ _ Q;simp only[Pl.under,List.nil_append,Key.mk.injEq,Root.slot.injEq,List.cons.injEq,ai]at R;obtain⟨rfl,⟨rfl,rfl⟩,rfl⟩:=R;have hi:=b3 _ _ _ m1 m2;have I:0<sz:=m.2;have h1:(r*sz+o) / sz=r:=by rw[Nat.mul_comm,Nat.mul_add_div I,Nat.div_eq_of_lt P.2,Nat.add_zero]
            have h2:(r'*sz+o') / sz=r':=by rw[Nat.mul_comm,Nat.mul_add_div I,Nat.div_eq_of_lt S.2,Nat.add_zero]
            grind
          grind
         grind)
       rw[ZO]at c1;exact⟨_,_,G',_,run,.inl rfl,c1,a2.trans c2⟩
     grind
    grind
   grind
  grind
 grind
end
section
variable [Glob]
theorem run_places {P}{fields:Array Field}(h:fields.all (λf=>(qQ P f.type).isSome)=true)(w):
  (fields.mapM λf=>do pure (f.offset,<- sizeOf f.type):Sem (Array (Nat×Nat))).run P w=.ok (fields.map λf=>(f.offset,(qQ P f.type).getD 0)) w:=by
 have go:∀ l:List Field,(∀ f∈l,(qQ P f.type).isSome=true) ->
   (l.mapM λf=>(do pure (f.offset,<- sizeOf f.type):Sem (Nat×Nat))).run P w=.ok (l.map λf=>(f.offset,(qQ P f.type).getD 0)) w:=by
  intro l
  induction l with
  |nil=>simp_all
  |cons f l d=>intro a;obtain⟨n,b⟩:=Option.isSome_iff_exists.1 (a f (by simp));simp only[List.mapM_cons,aK,qK b,aT,ay,d (λf c=>a f (aB _ c)),List.map_cons,b,Option.getD_some]
 rw[Array.mapM_eq_mapM_toList,<- bind_pure_comp];simp only[aK,go fields.toList (λf c=>by
  rw[Array.all_eq_true_iff_forall_mem]at h
  grind),ay,aT]
 congr 1
 grind
theorem qet {cx G w F F' a o t b}(C:o.op=.build t b)(h:RelF G w F a.tmps)(e:loud cx F o=some F'):Ran cx G w a o F':=by
 obtain⟨dst,op,ty,pos,after,guard⟩:=o;change op=_ at C;subst C;unfold loud at e;simp only at e;split at e
 .
  rename_i l g D F1 K c L;simp only[aG]at e;obtain⟨E,M,rfl⟩:=e;obtain⟨z,q,rfl,N,_⟩:=Yj K;obtain⟨im',xss,H,I,_,O,P,_⟩:=xJ _ (b.toList.map λ(i,x)=>(i,a.eval x)) D G F F1 h (by simp) (λj x X s u=>by
   rw[aH]at s u;cases Q:b.toList[j]? with
   |none=>grind
   |some y=>simp only[Q,av,aa]at s u;subst s;subst u;exact⟨rfl,qx h y.2⟩) L
  obtain⟨R,p,U,b2,b3⟩:=YV D _ xss _ _ E _ (Yq N { G with im:=im' } w F1) O (by
   unfold Nod;rw[List.filterMap_append];have:(List.replicate z.cells.toList.length (none:Option Pl)).filterMap id=[]:=by simp_all
   rw[this];exact P) M
  have run:(execOp a.eval ⟨dst,.build t b,ty,pos,after,guard⟩).run cx.P w=.ok (.value (.agg p.toArray)) w:=by
   have k:Instr.fill g z.cells (b.map λ(i,x)=>(i,a.eval x)).toList=some p.toArray:=by simp_all
   unfold placeOf at c;split at c
   .
    rename_i fields A;split at c
    .
     rename_i m;simp only[aa]at c;have r:g=λi=>(fields.map λf=>(f.offset,(qQ cx.P f.type).getD 0))[i]?:=by
      rw[<- c];funext i;rw[Array.getElem?_map];cases S:fields[i]? with
      |none=>rfl
      |some f=>
       rw[Array.all_eq_true_iff_forall_mem]at m;obtain⟨n,Y⟩:=Option.isSome_iff_exists.1 (m f (Array.mem_of_getElem? S))
       grind
     rw[r]at k;simp only[execOp,Instr.build,aK,q,ay,run_underlying A,run_places m];simp_all
    grind
   . rename_i n J A;simp only[aG]at c;obtain⟨sz,B,c⟩:=c;rw[<- c]at k;simp only[execOp,Instr.build,aK,q,ay,run_underlying A,qK B];simp_all
   grind
  cases dst with
  |none=>exact⟨_,_,_,w,run,.inl rfl,H,I⟩
  |some d=>obtain⟨G',c1,T⟩:=putL (d:=d) H b2 b3 (v:=.ag E) (V:=.agg p.toArray) (.inl ⟨rfl,rfl⟩);exact⟨_,_,G',w,run,.inl rfl,c1,I.trans T⟩
 grind
end
section
variable [Glob]
theorem qgt {G w F F' ts c V rows}(h:RelF G w F ts)(b:∀ p,Sh G w p c V)(e:frzC F c=some (rows,F')):
  ∃ im',RelF { G with im:=im' } w F' ts/\Gain G w { G with im:=im' } w/\RelI im' w (.imm rows) V:=by
 unfold frzC at e;split at e
 . simp only[aa,ai]at e;obtain⟨rfl,rfl⟩:=e;have f:V=.slice none 0 0:=b ⟨⟨.res,[]⟩,0,0⟩;subst f;exact⟨G.im,h,Gain.refl G w,.immE none 0⟩
 . simp only[aa,ai]at e;obtain⟨rfl,rfl⟩:=e;exact⟨G.im,h,Gain.refl G w,b ⟨⟨.res,[]⟩,0,0⟩⟩
 .
  rename_i p;split at e
  . rename_i l m d;simp only[aG,ai]at e;obtain⟨F1,a,rfl,rfl⟩:=e;obtain⟨g,i,n,j⟩:=h.freezeAt d (Fr.setTo a);exact⟨_,g,i,j V (yD h b d (λk=>k.1 _ _ rfl)).1⟩
  grind
 grind
theorem qiL {im w rows V}(h:RelI im w (.imm rows) V){l k}(q:l<=k)(A:k<=rows.length){sz}(s:rows.head?.all (·.length==sz)=true):
  ∃ a cap,V=.slice a rows.length cap/\rows.length<=cap/\RelI im w (.imm ((rows.take k).drop l)) (.slice (if cap=l then a else a.map (·.add (l*sz))) (k-l) (cap-l)):=by
 have d:((rows.take k).drop l).length=k-l:=by grind
 cases h with
 |immE a cap=>
  have f:k=0:=by grind
  subst f;have n:l=0:=by omega
  subst n;refine⟨a,cap,rfl,Nat.zero_le _,?_⟩;simpa using RelI.immE _ _
 |imm _ b g cap e vs T fr us t u i v B x=>
  refine⟨some ⟨b,g,none⟩,cap,rfl,i,?_⟩;cases hd:(rows.take k).drop l with
  |nil=>
   rw[hd]at d;have:k-l=0:=by grind
   rw[this];exact .immE _ _
  |cons row rest=>
   have y:rows≠[]:=by grind
   have j:e=sz:=by
    cases rows with
    |nil=>grind
    |cons C D=>grind
   subst j;rw[<- hd,<- d];have p:cap≠l:=by grind
   rw[aF p];simp only[av,zb];have cell:∀ r o c,cellAt ((rows.take k).drop l) r o=some c->cellAt rows (l+r) o=some c:=by
    intro r o c m;obtain⟨row,f,n⟩:=qc.1 m;rw[List.getElem?_drop,List.getElem?_take]at f;split at f
    . exact qc.2 ⟨row,f,n⟩
    grind
   refine .imm _ b (g+l*e) (cap-l) e vs T fr (λr o=>us (l+r) o) t u (by omega) (λrow z=>v row (List.mem_of_mem_take (List.mem_of_mem_drop z))) (λr o c m=>?_) (λr o c m=>x _ _ _ (cell r o c m))
   grind
theorem qdi {P w k}{n:Int}{y:Nat}{code}(a:0<=n)(b:n<=y):(Instr.sliceBound (.int k n) y code).run P w=.ok n.toNat w:=by simp only[Instr.sliceBound,asIntOf,aK,aT,ay];simp_all
theorem qem {cx G w F F' a o t x g i}(D:o.op=.slice t x g i none)(h:RelF G w F a.tmps)(e:loud cx F o=some F'):Ran cx G w a o F':=by
 obtain⟨dst,op,ty,pos,after,guard⟩:=o;change op=_ at D;subst D;unfold loud at e;simp only at e;split at e
 .
  rename_i E K;split at e
  .
   rename_i rows F1 sz j b;split at e
   .
    rename_i l k r s;split at e
    .
     rename_i d;simp only[aa]at e;subst e;obtain⟨H,L,U,M⟩:=d;have N:∀ p,Sh G w p (((F.ev x).cell).getD .dead) (a.eval x):=by
      cases u:(F.ev x).cell with
      |none=>rw[u]at j;simp[frzC]at j
      |some c=>
       rcases Zh (qx h x) u with rfl|X
       . rw[u]at j;simp[frzC]at j
       grind
     obtain⟨im',O,P,Q⟩:=qgt h N j;obtain⟨l,rfl⟩:=Int.eq_ofNat_of_zero_le H;obtain⟨k,rfl⟩:=Int.eq_ofNat_of_zero_le (Int.le_trans H L);obtain⟨I,cap,A,J,m⟩:=qiL Q (l:=l) (k:=k) (by omega) (by omega) M;have run:(execOp a.eval ⟨dst,.slice t x g i none,ty,pos,after,guard⟩).run cx.P w=.ok (.value (.slice (if cap=l then I else I.map (·.add (l*sz))) (k-l) (cap-l))) w:=by
      have n:∀ w,(match g.map a.eval with
        |some v=>Instr.sliceBound v k BoundsCode.sliceB
        |none=>pure 0:Sem Nat).run cx.P w=.ok l w:=by
       intro w;cases g with
       |none=>
        simp only[aa]at r;have:l=0:=by omega
        subst this;rfl
       |some y=>simp only at r;obtain⟨R,f⟩:=xD (qx h y) r;simp only[av,f];rw[qdi (by omega) (by omega)];simp
      have q:∀ w,(match i.map a.eval with
        |some v=>Instr.sliceBound v cap BoundsCode.sliceAcap
        |none=>pure rows.length:Sem Nat).run cx.P w=.ok k w:=by
       intro w;cases i with
       |none=>
        simp only[aa]at s;have:k=rows.length:=by omega
        simp_all
       |some y=>simp only at s;obtain⟨R,f⟩:=xD (qx h y) s;simp only[av,f];rw[qdi (by omega) (by omega)];simp
      simp only[execOp,Instr.sliceAt,aK,run_underlying K,ay,Instr.slice,A,Instr.sliceBounds,Option.map_none,aT];cases i with
      |none=>
       simp only[Option.map_none]at q |-;have B:k=rows.length:=by grind
       subst B;cases g with
       |none=>
        have:l=0:=by grind
        subst this;simp[aK,aT,ay,qK b]
       |some y=>have:=n w;simp only[av]at this;simp[aK,aT,ay,qK b,this]
      |some z=>
       have C:=q w;simp only[av]at C;cases g with
       |none=>
        have:l=0:=by grind
        subst this;simp[aK,aT,ay,qK b,C]
       |some y=>have:=n w;simp only[av]at this;simp[aK,aT,ay,qK b,this,C]
     refine⟨_,_,_,w,run,.inl rfl,putO O (RelV.c (.inr ⟨⟨by grind,by grind⟩,λp=>m⟩)),P⟩
    grind
   grind
  grind
 . simp only[aG]at e;obtain⟨v,S,rfl⟩:=e;obtain⟨V,A,T⟩:=qvc h qeU S;exact⟨_,V,G,w,A,.inl rfl,putO h T,Gain.refl G w⟩
end
section
variable [Glob]
theorem vC (b):∀ (a:List Value) (o:Nat) (w:World),(w.setCells b o a).heap.size=w.heap.size
 |[],_,_=>rfl
 |v::a,o,w=>by rw[World.setCells,vC b a,size_setCell]
theorem Out.setCells (b):∀ (a:List Value) (o:Nat) (w:World),Out w (w.setCells b o a)
 |[],_,w=>.refl w
 |v::a,o,w=>by rw[World.setCells];exact(Out.setCell w _ v).trans (Out.setCells b a (o+1) _)
theorem XK {b T fr}:∀ (a:List Value) (o:Nat) (w:World) (vs:Array Value),w.heap[b]? = some (.cells vs T fr)->o+a.length<=vs.size ->
  ∃ c,(w.setCells b o a).heap[b]? = some (.cells c T fr)/\c.size=vs.size/\(∀ j,(j<o\/o+a.length<=j)->c[j]? = vs[j]?)/\(∀ j,j<a.length->c[o+j]? = a[j]?) /\
   ∀ d,d≠b->(w.setCells b o a).heap[d]? = w.heap[d]?
 |[],o,w,vs,h,_=>⟨vs,h,rfl,λ_ _=>rfl,λj e=>by grind,λ_ _=>rfl⟩
 |v::a,o,w,vs,h,k=>by
  simp only[List.length_cons]at k;have f:=heap_setCell h v (i:=o);obtain⟨c,l,n,p,q,m⟩:=XK a (o+1) (w.setCell ⟨b,o,none⟩ v) (vs.setIfInBounds o v) (by rw[f,aD rfl]) (by grind);refine⟨c,l,by grind,λj e=>?_,λj e=>?_,λd g=>?_⟩
  . grind
  . grind
  . rw[World.setCells,m d g,f,aF g]
theorem qmL {u}(h:oneC u=true):u.oneCell'=true:=by cases u<;>first|rfl|simp[oneC]at h
theorem RelI.sh {G w c u}(h:RelI G.im w c u)(p):Sh G w p c u/\qw c=true/\qy c=false:=by
 cases h with
 |val v h=>exact⟨⟨rfl,h⟩,rfl,rfl⟩
 |nil=>exact⟨rfl,rfl,rfl⟩
 |immE a cap=>exact⟨.immE a cap,rfl,rfl⟩
 |imm rows b e cap sz vs T fr us g i d f j k=>exact⟨.imm rows b e cap sz vs T fr us g i d f j k,rfl,rfl⟩
 |dead v h=>exact⟨h,rfl,rfl⟩
theorem qaY {rows size}(i:0<size)(b:∀ row∈rows,row.length=size){f:Nat->Option Value}(m:∀ r o c,cellAt rows r o=some c->∃ u,f (r*size+o)=some u/\oneC u=true):
  ∃ a:List Value,a.length=rows.length*size/\(∀ (j:Nat) u,a[j]? = some u->f j=some u)/\(∀ u∈a,u.oneCell'=true)/\∀ r o c,cellAt rows r o=some c->∃ u,f (r*size+o)=some u/\a[r*size+o]? = some u:=by
 have cell:∀ j,j<rows.length*size->∃ c,cellAt rows (j / size) (j % size)=some c/\j / size*size+j % size=j:=by
  intro j d;have g:j / size<rows.length:=by rw[Nat.div_lt_iff_lt_mul i];exact d
  have k:j % size<(rows[j / size]).length:=by rw[b _ (List.getElem_mem g)];exact Nat.mod_lt _ i
  refine⟨(rows[j / size])[j % size],qc.2 ⟨_,ax g,ax k⟩,?_⟩;have:=Nat.div_add_mod j size
  grind
 let a:=(List.range (rows.length*size)).map λj=>(f j).getD Go.undef
 have e:∀ (j:Nat) u,a[j]? = some u->j<rows.length*size/\f j=some u/\oneC u=true:=by grind
 refine⟨a,by grind,λj u d=>(e j u d).2.1,λu h=>?_,λr o c l=>?_⟩
 . obtain⟨j,d⟩:=List.getElem?_of_mem h;exact qmL (e j u d).2.2
 .
  obtain⟨u,h,_⟩:=m r o c l;refine⟨u,h,?_⟩;obtain⟨row,g,k⟩:=qc.1 l;have n:=(az.1 g).1;have q:o<size:=by grind
  have p:r*size+o<rows.length*size:=by
   have:(r+1)*size<=rows.length*size:=Nat.mul_le_mul_right _ n
   grind
  grind
theorem qx6 {P:Program}{t1 a}(h:srcU (P.underlying t1)=some (.slice a)):(∃ b,P.underlying t1=some (.slice b))\/P.underlying t1=some .string:=by
 unfold srcU at h
 grind
theorem qyF {s r o c}(h:cellAt (yH s) r o=some c):o=0/\∃ b:Nat,c=.val (.int .u8 b)/\(byteCells s)[r]? = some (.int .u8 b):=by
 obtain⟨row,a,d⟩:=qc.1 h;unfold yH at a;rw[aH]at a;obtain⟨b,e,rfl⟩:=aG.1 a;cases o with
 |succ o=>grind
 |zero=>simp only[aI,aa]at d;exact⟨rfl,b.toNat,d.symm,by unfold byteCells;grind⟩
theorem qk5 {P size t1 L}(S:srcU (P.underlying t1)=some (.slice L))(hs:0<size){G w F J c V}(D:Hold G w F J c V){more}(A:QM c=some more)(hsz:more.head?.all (·.length==size)=true):
  ∃ d,Src P size t1 V more.length d w/\(∀ row∈more,row.length=size)/\∀ r o g,cellAt more r o=some g->qw g=true/\∃ u,d[r*size+o]? = some u /\
   match (generalizing:=false) J with
   |none=>qy g=false/\∃ p,Sh G w p g u
   |some s=>Sh G w ⟨s.toKey,r,o⟩ g u/\Tree G w ⟨s.toKey,r,o⟩ g:=by
 have Q:=qx6 S;have l:∀ (a:Addr) (n c:Nat) (d:List Value),d.length=n*size->(∀ j u,d[j]? = some u->w.cell? (a.add j)=some u)->(∀ u∈d,u.oneCell'=true)->Src P size t1 (.slice (some a) n c) n d w:=λa n c d K H E=>⟨Q,λ_=>rfl,run_firstCells_some w size n a n c d K H,run_firstCells_some w.drew size n a n c d K (by simp_all),K,E⟩
 have empty:∀ (a:Option Addr) (cap:Nat),Src P size t1 (.slice a 0 cap) 0 [] w:=by
  intro a cap;cases a with
  |none=>exact⟨Q,λ_=>rfl,run_firstCells_none w size 0 0 cap,run_firstCells_none w.drew size 0 0 cap,by simp,λ_ h=>by cases h⟩
  |some a=>grind
 have m:∀ t,(∀ row∈more,row.length=t)->∀ row∈more,row.length=size:=by
  intro t h row I;cases more with
  |nil=>grind
  |cons r0 y=>grind
 cases c with
 |nil=>
  simp only[QM,aa]at A;subst A;cases J with
  |none=>have R:V=.slice none 0 0:=D.2.2.2.2 ⟨⟨.res,[]⟩,0,0⟩;subst R;exact⟨[],empty none 0,by simp,by intro r o g h;simp[cellAt]at h⟩
  |some s=>exact absurd (by constructor<;>intros<;>simp) D.2.1
 |imm y=>
  simp only[QM,aa]at A;subst A;cases J with
  |none=>
   have I:RelI G.im w (.imm y) V:=D.2.2.2.2 ⟨⟨.res,[]⟩,0,0⟩;cases I with
   |immE a cap=>exact⟨[],empty a cap,by simp,by intro r o g h;simp[cellAt]at h⟩
   |imm _ b M cap t vs T fr us hb hi hcap N R I=>
    have i:=m t N;have z:∀ r o g,cellAt y r o=some g->t=size:=λr o g k=>by
     obtain⟨row,E,_⟩:=qc.1 k
     grind
    obtain⟨d,U,n2,X,Y⟩:=qaY hs i (f:=λj=>vs[M+j]?) (λr o g k=>by
     refine⟨us r o,?_,(I r o g k).one⟩
     grind)
    refine⟨d,l ⟨b,M,none⟩ y.length cap d U (λj u hj=>?_) X,i,λr o g k=>?_⟩
    . rw[zb];unfold World.cell?
      grind
    . obtain⟨u,E,h2⟩:=Y r o g k;have B:u=us r o:=by grind
      subst B;have:=(I r o g k).sh (G:=G) ⟨⟨.res,[]⟩,0,0⟩
      grind
  |some s=>exact absurd (by constructor<;>intros<;>simp) D.2.1
 |own zz y=>
  simp only[QM,aa]at A;subst A;cases J with
  |none=>exact absurd rfl (D.1.1 _ y)
  |some s=>
   obtain⟨_,_,O,ht,_⟩:=D;rcases O with⟨_,Z,hvn⟩|⟨x,g1,g2,g3,g4,g5⟩
   . subst Z;subst hvn;exact⟨[],empty none 0,by simp,by intro r o g h;simp[cellAt]at h⟩
   obtain⟨x',vs,T,L,e2,e3,e4,e5,e6,e7,e8,e9⟩:=(ht [] y rfl).of_hd (by rw[Pl.under_nil];exact g1) g2;rw[Pl.under_nil]at L e8;rw[g1]at L;cases L;have i:=m x.sz e5;have z:∀ r o g,cellAt y r o=some g->x.sz=size:=λr o g k=>by
    obtain⟨row,E,_⟩:=qc.1 k
    grind
   obtain⟨d,U,n2,X,Y⟩:=qaY hs i (f:=λj=>vs[j]?) (λr o g k=>by obtain⟨u,B,C⟩:=e9 r o g k;rw[z r o g k]at B;exact⟨u,B,C.one⟩);have hV:V=.slice (some ⟨x.b,0,none⟩) y.length x.cap:=by rw[g3,<- g4];simp[Hd.val,g2]
   rw[hV];refine⟨d,l ⟨x.b,0,none⟩ y.length x.cap d U (λj u hj=>?_) X,i,λr o g k=>?_⟩
   . rw[zb];unfold World.cell?
     grind
   . obtain⟨u,E,h2⟩:=Y r o g k;obtain⟨u',B,C⟩:=e9 r o g k;rw[z r o g k,E]at B;cases B;rw[Pl.under_nil]at C;refine⟨(e8 (by simp[Pl.toKey])).2 r o g k,u,h2,C,λrest rows e=>?_⟩;have:=ht ((r,o)::rest) rows (by simp only[subR,getR,k];cases g<;>exact e);rwa [qW]
 |val v=>
  cases v with
  |string s=>
   simp only[QM,aa]at A;subst A;cases J with
   |some q=>exact absurd (by constructor<;>intros<;>simp) D.2.1
   |none=>
    have R:V=.string s:=(D.2.2.2.2 ⟨⟨.res,[]⟩,0,0⟩).1;subst R;have K:(yH s).length=s.size:=by unfold yH;simp_all
    by_cases h0:s.size=0
    . have hn:yH s=[]:=List.length_eq_zero_iff.1 (K.trans h0);rw[hn];refine⟨[],⟨Q,λ_=>by simp[Builtin.lenOf,h0],by simp[Builtin.firstCells],by simp[Builtin.firstCells],by simp,λ_ h=>by cases h⟩,by simp,λr o g k=>by simp[cellAt]at k⟩
    .
     have E:size=1:=by
      cases hb:yH s with
      |nil=>grind
      |cons r0 y=>
       have hm0:r0∈yH s:=by grind
       obtain⟨b,_,rfl⟩:=List.mem_map.1 hm0
       grind
     subst E;rw[K];refine⟨byteCells s,⟨Q,λ_=>rfl,firstCells_string s w,firstCells_string s w.drew,by rw[byteCells_length,Nat.mul_one],λu B=>by obtain⟨_,_,rfl⟩:=List.mem_map.1 B;rfl⟩,λrow I=>?_,λr o g k=>?_⟩
     . obtain⟨b,_,rfl⟩:=List.mem_map.1 I;rfl
     . obtain⟨rfl,b,rfl,hb⟩:=qyF k;exact⟨rfl,_,by grind,rfl,⟨⟨.res,[]⟩,0,0⟩,rfl,rfl⟩
  |_=>simp[QM]at A
 |_=>simp[QM]at A
end
section
variable [Glob]
theorem heap_drew (w:World):w.drew.heap=w.heap:=rfl
theorem qcs {a b r o c}(h:cellAt (a++b) r o=some c):(r<a.length/\cellAt a r o=some c)\/(a.length<=r/\cellAt b (r-a.length) o=some c):=by
 obtain⟨row,d,e⟩:=qc.1 h;by_cases f:r<a.length
 . rw[aX f]at d;exact .inl ⟨f,qc.2 ⟨row,d,e⟩⟩
 . rw[aY (by omega)]at d;exact .inr ⟨by omega,qc.2 ⟨row,d,e⟩⟩
theorem qbC (z)(n):(Builtin.zeroCells z n).size=n*z.size:=by simp[Builtin.zeroCells]
theorem qdd {G w F ts}(h:RelF G w F ts){d rows more sz b cap w' vs T}(hs:0<sz)(p s:Option Pl)(j:w.heap.size<=w'.heap.size)(t:∀ D,D≠b->D<w.heap.size->w'.heap[D]? = w.heap[D]?)(hb:b<w'.heap.size)(K:¬ G.im b)(v:∀ k x,G.γ k=some x->x.b=b->∃ a,p=some a/\k=a.toKey)(l:b<w.heap.size->∃ k x,G.γ k=some x/\x.b=b)(y:w'.heap[b]? = some (.cells vs T (0,0)))(z:Out w w')(S:∀ row∈rows,row.length=sz)(L:∀ row∈more,row.length=sz)(U:rows.length+more.length<=cap)(M:vs.size=cap*sz)(N:∀ a,p=some a->∀ π,¬ Uses F (a.under π))(E:∀ f,s=some f->∀ π,¬ Uses F (f.under π))(hap:∀ a f,p=some a->s=some f->∀ π g,a.under π≠f.under g)(hc1:∀ r o c,cellAt rows r o=some c->qw c=true/\∃ a u,p=some a/\vs[r*sz+o]? = some u/\Sh G w ⟨a.toKey,r,o⟩ c u/\Tree G w ⟨a.toKey,r,o⟩ c)(O:∀ r o c,cellAt more r o=some c->qw c=true/\∃ u,vs[(rows.length+r)*sz+o]? = some u /\
   match (generalizing:=false) s with
   |none=>qy c=false/\∃ q,Sh G w q c u
   |some f=>Sh G w ⟨f.toKey,r,o⟩ c u/\Tree G w ⟨f.toKey,r,o⟩ c):
  ∃ G',RelF G' w' (F.putS (some d) (.c (.own sz (rows++more)))) (ts.setIfInBounds d (.slice (some ⟨b,0,none⟩) (rows.length+more.length) cap))/\Gain G w G' w':=by
 let X:Nat->Nat->Option Pl:=λr o=>if r<rows.length then p.map λa=>⟨a.toKey,r,o⟩else s.map λf=>⟨f.toKey,r-rows.length,o⟩
 have A:∀ r o q,X r o=some q->(r<rows.length/\∃ a,p=some a/\q=⟨a.toKey,r,o⟩)\/(rows.length<=r/\∃ f,s=some f/\q=⟨f.toKey,r-rows.length,o⟩):=by
  intro r o q e;simp only[X]at e;split at e
  . rename_i H;obtain⟨a,P,B⟩:=aG.1 e
    grind
  . rename_i H;obtain⟨f,P,B⟩:=aG.1 e
    grind
 have m:∀ (q:Pl) r o π r' n g,(⟨q.toKey,r,o⟩:Pl).under π=(⟨q.toKey,r',n⟩:Pl).under g->r=r'/\o=n/\π=g:=by intro q r o π r' n g e;simpa [Pl.under,and_assoc]using e
 obtain⟨G',g1,g2⟩:=qgT h (d:=d) (rows:=rows++more) (sz:=sz) (b:=b) (cap:=cap) (w':=w') (vs:=vs) (T:=T) X j t hb K
  (λk x hk hx=>by
   obtain⟨a,Q,rfl⟩:=v k x hk hx;refine⟨by simp[Pl.toKey],?_,λr o q π e=>?_⟩
   . rw[<- Pl.under_nil];grind
   .
    rcases A r o q e with⟨_,V,i,rfl⟩|⟨_,f,C,rfl⟩
    . rw[Q]at i;cases i;intro I;have:=congrArg (λk=>k.path.length) I;simp[Pl.under,Pl.toKey]at this
    . rw[qW,<- Pl.under_nil]
      grind)
  l y z (λrow H=>by grind) (by grind) M
  (λr o c J=>by
   rcases qcs J with⟨H,J⟩|⟨H,J⟩
   . grind
   . obtain⟨a1,u,a2,a3⟩:=O _ o c J;rw[show rows.length+(r-rows.length)=r from by omega]at a2
     grind)
  (λr o q e π=>by
   rcases A r o q e with⟨_,a,Q,rfl⟩|⟨_,f,C,rfl⟩
   . rw[qW];grind
   . rw[qW];grind)
  (λr o r' n q Y π g e Z I=>by
   rcases A r o q e with⟨P,a,Q,rfl⟩|⟨P,f,C,rfl⟩
   .
    rcases A r' n Y Z with⟨B,V,i,rfl⟩|⟨B,s1,R,rfl⟩
    . grind
    . rw[qW,qW]at I
      grind
   .
    rcases A r' n Y Z with⟨B,V,i,rfl⟩|⟨B,s1,R,rfl⟩
    . rw[qW,qW]at I
      grind
    grind)
 grind
end
section
variable [Glob]
theorem RelF.nilOwn {G w F ts}(h:RelF G w F ts)(d sz):
  ∃ G',RelF G' w (F.putS (some d) (.c (.own sz []))) (ts.setIfInBounds d (.slice none 0 0))/\Gain G w G' w:=by
 have g:RelF G w ((F.killR (.slot d)).put (some d) (.c .dead)) (ts.setIfInBounds d (.slice none 0 0)):=by
  refine(h.mapC (qP (.slot d))).put_flat ⟨trivial,λr o c a=>?_⟩ (λr o c i j a=>?_)
  . obtain⟨rfl,rfl,rfl⟩:=one_cell a;exact⟨_,rfl,.inl rfl⟩
  . obtain⟨rfl,rfl,rfl⟩:=one_cell a;simp
 let Y:Nat->Nat->Option (Option Pl):=λr o=>if r=0/\o=0 then some none else none
 have f:∀ r o x,Y r o≠some (some x):=by grind
 have l:=g.mv ⟨.slot d,[]⟩ (Y:=Y) (λr o r' m x x' π n e=>absurd e (f r o x)) (λr o π _=>by
  refine vQ h (by simp) (λr o c i j t a=>?_) (λr o c a k p=>?_)
  . obtain⟨rfl,rfl,rfl⟩:=one_cell a;simp
  . obtain⟨rfl,rfl,rfl⟩:=one_cell a;simp[deps]at p) (λr o x π e=>absurd e (f r o x))
 have b:(G.mv ⟨.slot d,[]⟩ Y).γ ⟨.slot d,[(0,0)]⟩=none:=by have:Zk ⟨.slot d,[]⟩ ⟨.slot d,[(0,0)]⟩=some (0,0,[]):=xz.2 rfl;simp[Gh.mv,this,Y]
 refine⟨_,?_,Gain.mv ⟨.slot d,[]⟩ Y⟩;have q:=l.put (d:=d) (v:=.c (.own sz [])) (V:=.slice none 0 0) ⟨trivial,λr o c a=>?_⟩ (λπ rows s e=>?_)
 . simpa [Fr.putS,AV.c,qy,Fr.put]using q
 . obtain⟨rfl,rfl,rfl⟩:=one_cell a;exact⟨_,rfl,.inr (.inl ⟨b,rfl,rfl⟩)⟩
 .
  cases π with
  |nil=>grind
  |cons x π=>
   obtain⟨r,o⟩:=x;simp only[getR]at e;cases a:cellAt (AV.c (.own sz [])).rows r o with
   |none=>grind
   |some c=>
    obtain⟨rfl,rfl,rfl⟩:=one_cell a;rw[a]at e;cases π with
    |nil=>simp only[getR,aa]at e;subst e;exact .inl (.inl ⟨b,rfl,by simp⟩)
    |cons y π=>obtain⟨r',m⟩:=y;simp[getR,cellAt]at e
theorem qeF {P t t1 ty l e1 i}(K:P.underlying t=some (.slice l))(Q:srcU (P.underlying t1)=some (.slice e1))(hi:P.info? l=some i){zl}(hz:XP P l=some zl)(hs:0<i.size){G w F ts}(h:RelF G w F ts){rows more base n cap p}(hbytes:(rows.length+more.length)*i.bytes<=140737488355328)(hlim:rows.length+more.length<=lim)(hold:(p=none/\rows=[]/\base=none/\n=0/\cap=0)\/(∃ s,p=some s/\Sh G w s (.own i.size rows) (.slice base n cap)/\Tree G w s (.own i.size rows)/\∀ π,¬ Uses F (s.under π))){xx c V}(hh:Hold G w F xx c V)(hm:QM c=some more)(R:more.head?.all (·.length==i.size)=true)(hap:∀ s Y,p=some s->xx=some Y->∀ π π',s.under π≠Y.under π')(d):
  ∃ V' w' G',(Builtin.append_ #[t,t1] ty #[.slice base n cap,V]).run P w=.ok V' w' /\
   RelF G' w' (F.putS (some d) (.c (if p.isNone&&more.isEmpty then .nil else .own i.size (rows++more)))) (ts.setIfInBounds d V')/\Gain G w G' w':=by
 obtain⟨g,m,D,M⟩:=qk5 Q hs hh hm R;obtain⟨z,hzr,rfl,hp,hszz⟩:=Yj hz;have hzi:i.zero=some z:=by
  have:=hzr w;simp only[zeroValue,typeInfo,aK]at this;cases hiz:i.zero with
  |none=>simp_all
  |some z'=>simp_all
 have hzs:z.cells.size=i.size:=by simp only[qQ,hi,av,aa,List.length_map,Array.length_toList]at hszz;omega
 have hnl:g.length=more.length*i.size:=m.newsLen;have B:∀ Y,xx=some Y->∀ π,¬ Uses F (Y.under π):=by
  rintro Y rfl
  exact hh.2.2.2.2
 -- what was there
 have E:∀ (a:List Value),n=rows.length->a.length=n*i.size->cap<n+more.length ->
   (Builtin.firstCells i.size n (.slice base n cap)).run P w.drew=.ok a.toArray w.drew->(∀ row∈rows,row.length=i.size)->(∀ s,p=some s->∀ π,¬ Uses F (s.under π)) ->
   (∀ r o c,cellAt rows r o=some c->qw c=true/\∃ s u,p=some s/\a[r*i.size+o]? = some u/\Sh G w ⟨s.toKey,r,o⟩ c u/\Tree G w ⟨s.toKey,r,o⟩ c) ->
   ∃ V' w' G',(Builtin.append_ #[t,t1] ty #[.slice base n cap,V]).run P w=.ok V' w' /\
    RelF G' w' (F.putS (some d) (.c (.own i.size (rows++more)))) (ts.setIfInBounds d V')/\Gain G w G' w':=by
  intro a hn hol hg hfc v H hc1;have hnm:n+more.length=rows.length+more.length:=by rw[hn]
  have hfit:Builtin.nextslicecap (n+more.length) cap*i.bytes<=281474976710656:=by
   have L:=Go.Room.nextslicecap_le' hg;have N:=Nat.mul_le_mul_right i.bytes L;rw[Nat.mul_assoc,hnm]at N
   grind
  have run:=run_append_grow_src (P:=P) w t t1 ty l i z K hi hzi base n cap a hfc V more.length g m hg (by simp only[lim]at hlim;omega) hfit;have hge:=grownCap_ge w (n+more.length) cap l;generalize hgc:grownCap w (n+more.length) cap l=gc at run hge;have hsz:((a++g).toArray++Builtin.zeroCells z.cells (gc-(n+more.length))).size=gc*i.size:=by
   rw[Array.size_append,qbC,hzs];simp only[List.size_toArray,List.length_append,hol,hnl];rw[<- Nat.add_mul,<- Nat.add_mul]
   grind
  have hat:∀ (j:Nat) u,(a++g)[j]? = some u->((a++g).toArray++Builtin.zeroCells z.cells (gc-(n+more.length)))[j]? = some u:=by grind
  obtain⟨G',Z,g2⟩:=qdd h (d:=d) (rows:=rows) (more:=more) (sz:=i.size) (b:=w.heap.size) (cap:=gc)
   (w':=w.drew.alloc (.cells ((a++g).toArray++Builtin.zeroCells z.cells (gc-(n+more.length))) l)) (T:=l) hs p xx
   (by simp_all) (λb' S hlt=>by rw[heap_alloc,heap_drew,aF S]) (by simp_all) (qhB h.inv)
   (λk x O hx=>absurd (h.inv.lt k x O) (by omega)) (λhlt=>absurd hlt (Nat.lt_irrefl _)) (by rw[heap_alloc,heap_drew,aD rfl]) ((Out.drew w _).trans (Out.alloc _ _))
   v D (by omega) hsz H B hap
   (λr o c A=>by grind)
   (λr o c A=>by obtain⟨a1,u,a2,a3⟩:=M r o c A;refine⟨a1,u,hat _ u ?_,a3⟩;rw[Nat.add_mul,Nat.add_assoc,<- hn,<- hol,aY (by omega),Nat.add_sub_cancel_left];exact a2)
  grind
 rcases hold with⟨rfl,rfl,rfl,rfl,rfl⟩|⟨s,rfl,C,htr,H⟩
 .
  by_cases I:more=[]
  . subst I;have U:g=[]:=by grind
    subst U;refine⟨.slice none 0 0,w,G,?_,putV h (RelV.c (.inr ⟨⟨by grind,by grind⟩,λp=>rfl⟩)),Gain.refl G w⟩;have L:=m.len;have N:=m.cells;simp only[List.length_nil]at L N;rcases qx6 Q with⟨e',O⟩|O<;>simp[Builtin.append_,run_underlying K,run_underlying O,sizeOf,typeInfo,hi,L,N]
  . have:more.isEmpty=false:=by grind
    simp only[Option.isNone_none,this,Bool.and_false,aS,if_false];have hml:0<more.length:=List.length_pos_iff.2 I;exact E [] rfl (by simp) (by omega) (run_firstCells_none w.drew i.size 0 0 0) (by simp) (by grind) (by intro r o c A;simp[cellAt]at A)
 .
  simp only[Option.isNone_some,Bool.false_and,aS,if_false];rcases C with⟨Z,g2,g3⟩|⟨x,Z,g2,g3,g4,g5⟩
  .
   cases g3;subst g2;by_cases I:more=[]
   . subst I;have U:g=[]:=by grind
     subst U;obtain⟨G',k1,k2⟩:=h.nilOwn d i.size;refine⟨.slice none 0 0,w,G',?_,k1,k2⟩;have L:=m.len;have N:=m.cells;simp only[List.length_nil]at L N;rcases qx6 Q with⟨e',O⟩|O<;>simp[Builtin.append_,run_underlying K,run_underlying O,sizeOf,typeInfo,hi,L,N]
   . have hml:0<more.length:=List.length_pos_iff.2 I;exact E [] rfl (by simp) (by omega) (run_firstCells_none w.drew i.size 0 0 0) (by simp) (by grind) (by intro r o c A;simp[cellAt]at A)
  obtain⟨x',vs,T,f1,f2,f3,f4,f5,f6,f7,f8,f9⟩:=(htr [] rows rfl).of_hd (by rw[Pl.under_nil];exact Z) g2;rw[Pl.under_nil]at f1 f8;rw[Z]at f1;cases f1;simp only[Hd.val,g2,aS,if_false,Value.slice.injEq]at g3;obtain⟨rfl,rfl,rfl⟩:=g3;have hvs:=(f8 (by simp[Pl.toKey])).1;have v:∀ row∈rows,row.length=i.size:=λrow hr=>by grind
  obtain⟨a,o1,o2,o3,o4⟩:=qaY hs v (f:=λj=>vs[j]?) (λr o c A=>by obtain⟨u,K,C⟩:=f9 r o c A;rw[g5]at K;exact⟨u,K,C.one⟩);have hc1:∀ r o c,cellAt rows r o=some c->qw c=true/\∃ q u,(some s:Option Pl)=some q/\a[r*i.size+o]? = some u/\vs[r*i.size+o]? = some u/\Sh G w ⟨q.toKey,r,o⟩ c u/\Tree G w ⟨q.toKey,r,o⟩ c:=by intro r o c A;obtain⟨u,L,N⟩:=o4 r o c A;obtain⟨u',K,C⟩:=f9 r o c A;rw[g5,L]at K;cases K;rw[Pl.under_nil]at C;refine⟨(f8 (by simp[Pl.toKey])).2 r o c A,s,u,rfl,N,L,C,λrest rs e=>?_⟩;have:=htr ((r,o)::rest) rs (by simp only[subR,getR,A];cases c<;>exact e);rwa [qW]
  by_cases J:x.len+more.length<=x.cap
  .
   have X:x.len*i.size+g.length<=vs.size:=by rw[hvs,g5,hnl,<- Nat.add_mul];exact Nat.mul_le_mul_right _ J
   have run:=run_append_room_src (P:=P) w t t1 ty l i K hi x.b 0 x.len x.cap V more.length g m J
    (λj hj=>by
     unfold World.cell?
     grind)
    (λj hj=>by unfold World.frozen?;grind)
   simp only[Nat.zero_add]at run;obtain⟨vs',b1,b2,b3,b4,b5⟩:=XK g (x.len*i.size) w vs f4 X;obtain⟨G',c1,c2⟩:=qdd h (d:=d) (rows:=rows) (more:=more) (sz:=i.size) (b:=x.b) (cap:=x.cap) (w':=w.setCells x.b (x.len*i.size) g) (vs:=vs') (T:=T) hs (some s) xx
    (by rw[vC];omega) (λb' S _=>b5 b' S) (by grind) f3
    (λk y O hy=>⟨s,rfl,h.inv.inj _ _ _ _ O Z hy⟩) (λ_=>⟨_,x,Z,rfl⟩) b1 (Out.setCells _ _ _ _) v D (by omega) (by grind)
    (λq hq=>by grind) B hap
    (λr o c A=>by grind)
    (λr o c A=>by grind)
   grind
  . refine E a g4 (by grind) (by omega) ?_ v (λq hq=>by grind) (λr o c A=>?_)
    . refine run_firstCells_some w.drew i.size x.len ⟨x.b,0,none⟩ x.len x.cap a (by grind) (λj u hj=>?_);rw[zb];unfold World.cell?;simp[heap_drew,f4,o2 j u hj]
    grind
end
section
variable [Glob]
theorem Zc {cx t t1 ty b H i}(A:cx.P.underlying t=some (.slice b))(B:srcU (cx.P.underlying t1)=some (.slice H))(N:cx.P.info? b=some i){G w F F' ts}(h:RelF G w F ts){rows base n cap p}(f:(p=none/\rows=[]/\base=none/\n=0/\cap=0)\/(∃ j,p=some j/\Sh G w j (.own i.size rows) (.slice base n cap)/\Tree G w j (.own i.size rows)/\∀ π,¬ Uses F (j.under π))){x V}(O:x=.dead\/(Seen x/\∀ q,Sh G w q x V)){d}(e:Yo cx F d b i rows p x=some F'):
  ∃ y w' G',(Builtin.append_ #[t,t1] ty #[.slice base n cap,V]).run cx.P w=.ok y w'/\RelF G' w' F' (ts.setIfInBounds d y)/\Gain G w G' w':=by
 unfold Yo at e;split at e
 .
  rename_i c F2 I;split at e
  .
   rename_i more P;split at e
   .
    rename_i g;simp only[aa]at e;subst e;simp only[aC,aW]at g;obtain⟨⟨⟨⟨⟨c1,Q⟩,R⟩,S⟩,T⟩,J⟩:=g;rcases O with rfl|⟨l,C⟩
    . simp[takeC]at I
    .
     obtain⟨im',xx,U,X,D,K,u⟩:=qbK h l C I;have Y:=λs e=>(u s e).1;obtain⟨zl,E⟩:=Option.isSome_iff_exists.1 S;obtain⟨y,w',G',Z,b2,b3⟩:=qeF (ty:=ty) A B N E R U (rows:=rows) (more:=more) (base:=base) (n:=n) (cap:=cap) (p:=p) c1 Q (by
      rcases f with f|⟨j,v,k1,L,z⟩
      . grind
      . exact .inr ⟨j,v,k1.shr D (by grind),L.shr D h.inv z,λπ A=>z π (D.uses _ A)⟩) K P T (by
      rintro j s0 rfl rfl π π' M
      rcases f with⟨v,_⟩|⟨p1,v,k1,L,z⟩
      . cases v
      . cases v;have hus:=Y s0 rfl;obtain⟨⟨k,r,o,rfl⟩,hns,hss,_⟩:=K;have hq:=(u _ rfl).2;subst hq;simp only[Pl.under,List.nil_append,Key.mk.injEq]at M;obtain⟨m,a⟩:=M;simp only[qg3,m,List.isEmpty_iff,ne_eq,not_true_eq_false,decide_false,Bool.or_false]at J;rw[J]at a;simp only[List.nil_append,List.cons.injEq,ai]at a;obtain⟨⟨H,e2⟩,_⟩:=a;have:j=⟨⟨.slot k,[]⟩,r,o⟩:=by
         cases j with
         |mk key r0 o0=>cases key;simp_all
        subst this;exact z [] (by rw[Pl.under_nil];omega)) d
     exact⟨y,w',G',Z,b2,X.trans b3⟩
   grind
  grind
 grind
theorem qdu {cx G w F F' a o args argTypes}(I:o.op=.call ⟨.builtin .append,args,argTypes⟩)(h:RelF G w F a.tmps)(e:loud cx F o=some F'):Ran cx G w a o F':=by
 obtain⟨dst,op,ty,pos,after,guard⟩:=o;change op=_ at I;subst I;unfold loud at e;simp only at e;split at e
 .
  rename_i s x t t1 d j c;have f:args = #[s,x]:=Array.ext' j;have b:argTypes = #[t,t1]:=Array.ext' c;subst f;subst b;have M:∀ {V w' G'},(Builtin.append_ #[t,t1] ty #[a.eval s,a.eval x]).run cx.P w=.ok V w'->RelF G' w' F' (a.tmps.setIfInBounds d V)->Gain G w G' w' ->
    Ran cx G w a ⟨some d,.call ⟨.builtin .append,#[s,x],#[t,t1]⟩,ty,pos,after,guard⟩ F':=by
   intro V w' G' N O P;refine⟨_,V,G',w',?_,.inl rfl,O,P⟩;simp only[execOp,resolve,pure_bind,invoke,builtin,aK,List.map_toArray,List.map_cons,List.map_nil,N,ay,aT]
  split at e
  .
   rename_i l Q R q g z r;split at e
   . rename_i i u;obtain⟨_,k⟩:=qp h z (by simp);have S:a.eval s=.slice none 0 0:=k ⟨⟨.res,[]⟩,0,0⟩;obtain⟨J,w',G',K,b2,b3⟩:=Zc (ty:=ty) q g u h (.inl ⟨rfl,rfl,rfl,rfl,rfl⟩) (Zh (qx h x) r) e
     grind
   grind
  .
   rename_i l Q p R q g z r;split at e
   .
    rename_i Y rows i F1 A u m;split at e
    .
     rename_i B;subst B;obtain⟨_,k⟩:=qp h z (by simp);obtain⟨C,_⟩:=yD h k A (λT=>T.1 _ _ rfl);have D:=Fr.setTo m;have E:=h.empty D (by grind);have r2:=E.mapC (qM p);rcases C with⟨H,v,L⟩|⟨y,H,v,L,U,X⟩
     . obtain⟨J,w',G',K,b2,b3⟩:=Zc (ty:=ty) q g u (F:=F1.kill p) (base:=none) (n:=0) (cap:=0) r2 (.inr ⟨p,rfl,.inl ⟨H,v,rfl⟩,h.tree A,λπ=>vH E D.new π⟩) (Zh (qx h x) r) e
       grind
     have S:a.eval s=.slice (some ⟨y.b,0,none⟩) y.len y.cap:=by rw[L];simp[Hd.val,v]
     obtain⟨J,w',G',K,b2,b3⟩:=Zc (ty:=ty) q g u (F:=F1.kill p) (base:=some ⟨y.b,0,none⟩) (n:=y.len) (cap:=y.cap) r2 (.inr ⟨p,rfl,.inr ⟨y,H,v,by grind,U,X⟩,h.tree A,λπ=>vH E D.new π⟩) (Zh (qx h x) r) e
     grind
    grind
   grind
  grind
 grind
end
section
variable [Glob]
theorem qge {cx G w F F' a o s t x}(A:o.op=.convert s t x)(h:RelF G w F a.tmps)(e:loud cx F o=some F'):Ran cx G w a o F':=by
 obtain⟨dst,op,ty,pos,after,guard⟩:=o;change op=_ at A;subst A;unfold loud at e;simp only at e;split at e
 .
  rename_i d b C D E;split at e
  .
   rename_i p;simp only[aa]at e;subst e;have H:a.eval x=.string b:=qvz (qx h x) E;have run:(execOp a.eval ⟨dst,.convert s t x,ty,pos,after,guard⟩).run cx.P w=.ok (.value (.slice (some ⟨w.heap.size,0,none⟩) b.size (grownCap w b.size 0 d))) (Lib.bytesWorld w d b):=by simp only[execOp,H,aK,Lib.run_convert_string_bytes w s t d b C D p,ay];rfl
   have old:∀ k,k<w.heap.size->(Lib.bytesWorld w d b).heap[k]? = w.heap[k]?:=Lib.bytesWorld_at_old w d b;have I:=Lib.bytesWorld_size w d b;have B:RelF G (Lib.bytesWorld w d b) F a.tmps:=h.same ⟨by omega,λk f=>old k (h.inv.imlt k f),λk y f=>old _ (h.inv.lt k y f)⟩;have r2:=B.freeze (λk=>G.im k\/k=w.heap.size) (λ_ f=>.inl f) (λk f=>by
    rcases f with f|rfl
    . exact B.inv.imlt k f
    . omega) (λk y f _ hi=>by
    rcases hi with hi|hi
    . exact hi
    . have:=h.inv.lt k y f;omega)
   have q:Out w (Lib.bytesWorld w d b):=⟨rfl,rfl⟩
   have J:Gain G w { G with im:=λk=>G.im k\/k=w.heap.size } (Lib.bytesWorld w d b):=
    ⟨by omega,λ_ f=>.inl f,λk f=>old k (h.inv.imlt k f),λk f _=>⟨old k f,λhi=>by
     rcases hi with hi|hi
     . exact hi
     . omega⟩,λk y f=>.inl ⟨k,y,f,rfl⟩,λ_=>rfl,q,λ_ hd=>⟨hd,rfl⟩⟩
   have i:(yH b).length=b.size:=by unfold yH;rw[List.length_map,Array.length_toList];rfl
   have K:RelI (λk=>G.im k\/k=w.heap.size) (Lib.bytesWorld w d b) (.imm (yH b)) (.slice (some ⟨w.heap.size,0,none⟩) b.size (grownCap w b.size 0 d)):=by
    have j:b.size<=grownCap w b.size 0 d:=grownCap_ge w b.size 0 d;have l:∀ r o c,cellAt (yH b) r o=some c->∃ y,b.data.toList[r]? = some y/\o=0/\c=.val (.int .u8 y.toNat):=by
     intro r o c m;obtain⟨row,k1,u⟩:=qc.1 m;simp only[yH,aH]at k1;cases g:b.data.toList[r]? with
     |none=>simp[g]at k1
     |some y=>
      simp only[g,av,aa]at k1;subst k1;cases o with
      |zero=>simp at u;exact⟨y,rfl,rfl,u.symm⟩
      |succ o=>simp at u
    have:=RelI.imm (im:=λk=>G.im k\/k=w.heap.size) (w:=Lib.bytesWorld w d b) (yH b) w.heap.size 0 (grownCap w b.size 0 d) 1 (Lib.bytesCells w d b) d
     ((Lib.bytesCells w d b).size,(Lib.bytesCells w d b).size+1) (λr _=>.int .u8 ((b.data.toList.getD r 0).toNat)) (Lib.bytesWorld_at_new w d b) (.inr rfl) (by rw[i];exact j)
     (λrow n=>by simp only[yH,List.mem_map]at n;obtain⟨y,_,rfl⟩:=n;rfl)
     (λr o c m=>by
      obtain⟨y,g,rfl,rfl⟩:=l r o c m;have n:r<b.data.size:=by have:=(az.1 g).1;simpa using this
      have L:r<b.size:=n;have v:b.data.toList.getD r 0=y:=by simp[List.getD,g]
      rw[v];unfold Lib.bytesCells;rw[Array.getElem?_append_left (by simp;omega)];rw[aP]at g;simp[g])
     (λr o c m=>by
      obtain⟨y,g,rfl,rfl⟩:=l r o c m;have v:b.data.toList.getD r 0=y:=by simp[List.getD,g]
      rw[v];exact .val _ rfl)
    rw[i]at this;exact this
   have z:RelV { G with im:=λk=>G.im k\/k=w.heap.size } (Lib.bytesWorld w d b) (.c (.imm (yH b))) (.slice (some ⟨w.heap.size,0,none⟩) b.size (grownCap w b.size 0 d)):=RelV.c (.inr ⟨⟨by intros;simp,by intros;simp⟩,λ_=>K⟩);exact⟨_,_,_,_,run,.inl rfl,putO r2 z,J⟩
  . cases e
 . cases e
theorem qgi {cx:Cx}{G:Gh}{w:World}{F F':Fr}{a:Act}{o:Oper}(h:RelF G w F a.tmps)(e:loud cx F o=some F'):Ran cx G w a o F':=by
 cases d:o.op with
 |assign x=>exact qdp d h e
 |alloc t=>exact qeI d h e
 |box t x=>exact qhH d h e
 |store t y x=>exact qeW d h e
 |build t f=>exact qet d h e
 |buildSlice t n f=>exact qas d h e
 |convert s t x=>exact qge d h e
 |slice t x i j g=>
  cases g with
  |none=>exact qem d h e
  |some r=>simp[loud,d]at e
 |call c=>
  obtain⟨callee,args,argTypes⟩:=c;cases callee with
  |builtin b=>
   cases b with
   |append=>exact qdu d h e
   |_=>simp[loud,d]at e
  |_=>simp[loud,d]at e
 |_=>simp[loud,d]at e
end
section
variable [Glob]
def qcJ (G:Gh)(w:World)(F:Fr):Option Pl->Cell->Value->Prop
 |none,c,v=>Seen c/\(∀ q,c≠.ref q)/\(∀ q,c≠.ptr q)/\(∀ f a b,c≠.clo f a b)/\(c=.dead/\oneC v=true\/∀ p,Sh G w p c v)
 |some s,c,v=>¬ Seen c/\Sh G w s c v/\Tree G w s c/\∀ π,¬ Uses F (s.under π)
theorem qcJ.still {G w F c v}(h:qcJ G w F none c v)(K Y)(p):c=.dead\/Sh (G.mv K Y) w p c v:=by
 obtain⟨a,b,d,e,h6⟩:=h;rcases h6 with⟨h6,_⟩|h6
 . exact .inl h6
 right;have g:=h6 p;cases c with
 |own j rows=>exact absurd rfl (a.1 _ rows)
 |mp i=>exact absurd rfl (a.2 i)
 |ref q=>exact absurd rfl (b q)
 |ptr q=>exact absurd rfl (d q)
 |clo f fs cs=>exact absurd rfl (e f fs cs)
 |_=>exact g
theorem qbR {G w F ts}(h:RelF G w F ts){d v V}(X)(C:QO v.tag (v.rows.map List.length) V)(p:∀ r o c,cellAt v.rows r o=some c->∃ u,qX v.tag V r o=some u/\∃ x,X r o=some x/\qcJ G w F x c u)(q:Inj (zg v.rows X)):
  ∃ G',RelF G' w (F.putS (some d) v) (ts.setIfInBounds d V)/\Gain G w G' w:=by
 unfold Fr.putS;simp only;by_cases D:(v.rows.any (·.any qy))=true
 .
  rw[aD D];have N:=h.mapC (qP (.slot d))
  let E:AV:=⟨v.tag,v.rows.map (·.map λ_=>.dead)⟩
  have f:∀ r o c,cellAt E.rows r o=some c->c=.dead/\∃ t,cellAt v.rows r o=some t:=λr o c e=>by obtain⟨t,i,e⟩:=zH e;exact⟨e,t,i⟩
  have O:RelF G w ((F.killR (.slot d)).put (some d) E) (ts.setIfInBounds d V):=by
   refine N.put_flat ⟨by rw[Zn];exact C,λr o c e=>?_⟩ (λr o c z m e=>by rw[(f r o c e).1];simp)
   obtain⟨rfl,t,i⟩:=f r o c e;obtain⟨u,g,_⟩:=p r o t i;exact⟨u,g,.inl rfl⟩
  have A:∀ r o s,zg v.rows X r o=some (some s)->∃ c u,cellAt v.rows r o=some c/\qX v.tag V r o=some u/\qcJ G w F (some s) c u:=by
   intro r o s e;unfold zg at e;cases a:cellAt v.rows r o with
   |none=>simp[a]at e
   |some c=>
    simp only[a]at e;split at e
    . rename_i Q;obtain⟨u,g,x,n,b⟩:=p r o c a;rw[n]at e;cases e;exact⟨c,u,rfl,g,b⟩
    . cases e
  have H:∀ π,π≠[]->¬ Uses ((F.killR (.slot d)).put (some d) E) ⟨.slot d,π⟩:=λπ j=>vQ h j (λr o c z m R e=>by rw[(f r o c e).1];simp) (λr o c e k L=>by rw[(f r o c e).1]at L;simp[deps]at L);have P:=O.mv ⟨.slot d,[]⟩ q (λr o π _=>H _ (by simp)) (λr o s π e g=>by obtain⟨c,u,_,_,b⟩:=A r o s e;have I:=Uses.put (λr o c z m e=>by rw[(f r o c e).1];simp) (λr o c e=>by rw[(f r o c e).1];simp[deps]) g;exact b.2.2.2 π ((Weak.mapC (qP (.slot d)) F).uses I));have qxd:∀ r o c,cellAt v.rows r o=some c->∃ u,qX v.tag V r o=some u/\(c=.dead\/Sh (G.mv ⟨.slot d,[]⟩ (zg v.rows X)) w ⟨⟨.slot d,[]⟩,r,o⟩ c u):=by
   intro r o c e;obtain⟨u,g,x,n,b⟩:=p r o c e;refine⟨u,g,?_⟩;cases x with
   |none=>exact b.still _ _ _
   |some s=>
    right;have l:zg v.rows X r o=some (some s):=by
     unfold zg;simp only[e];rw[aD,n];cases J:qy c with
     |true=>rfl
     |false=>exact absurd (qvp.2 J) b.1
    exact b.2.1.mv l b.1
  refine⟨_,?_,Gain.mv ⟨.slot d,[]⟩ (zg v.rows X)⟩;have M:=P.put (d:=d) (v:=v) (V:=V) ⟨C,qxd⟩ (λπ rows j e=>?_)
  . rw[qc9]at M;simpa using M
  .
   cases π with
   |nil=>exact absurd rfl j
   |cons y π=>
    obtain⟨r,o⟩:=y;simp only[getR]at e;cases a:cellAt v.rows r o with
    |none=>simp[a]at e
    |some c=>
     cases c with
     |own z m=>
      simp only[a]at e;obtain⟨u,g,x,n,b⟩:=p r o _ a;cases x with
      |none=>exact absurd rfl (b.1.1 _ m)
      |some s=>
       have l:zg v.rows X r o=some (some s):=by unfold zg;simp only[a];have:qy (.own z m)=true:=rfl;rw[aD this,n]
       exact(b.2.2.1.mv l) π rows e
     |_=>simp[a]at e
 .
  have B:(v.rows.any (·.any qy))=false:=by simpa using D
  rw[aF D];refine⟨G,h.put_flat ⟨C,λr o c e=>?_⟩ (λr o c z m e K=>?_),Gain.refl G w⟩
  .
   obtain⟨u,g,x,n,b⟩:=p r o c e;refine⟨u,g,?_⟩;cases x with
   |none=>
    rcases b.2.2.2.2 with hd|b
    . exact .inl hd.1
    . exact .inr (b _)
   |some s=>exact absurd (qvp.2 (qea B e)) b.1
  . have:=qea B e;rw[K]at this;simp[qy]at this
theorem qgS {G w F F' ts p c}(h:RelF G w F ts)(B:p.key.inHeap)(e:mvC F p=some (c,F')):
  ∃ u y vs T,G.γ p.key=some y/\w.heap[y.b]? = some (.cells vs T (0,0))/\vs[p.r*y.sz+p.o]? = some u/\RelF G w F' ts/\(∀ k,Uses F' k->Uses F k) /\
   qcJ G w F' (if qy c then some p else none) c u:=by
 unfold mvC at e;cases l:F.get p with
 |none=>simp[l]at e
 |some m=>
  simp only[l]at e;by_cases d:qw m=true
  case neg=>rw[aF d]at e;cases e
  rw[aD d]at e;have n:∀ r,m≠.mpb r:=by rintro r rfl;simp[qw]at d
  obtain⟨u,E,z⟩:=h.val l n;have g:Sh G w p m u:=z.resolve_left λH=>H.2 B;obtain⟨y,vs,T,t,v,x⟩:∃ y vs T,G.γ p.key=some y/\w.heap[y.b]? = some (.cells vs T (0,0))/\vs[p.r*y.sz+p.o]? = some u:=by
   rcases E with⟨_,y,vs,T,t,v,x⟩|⟨I,_⟩
   . exact⟨y,vs,T,t,v,x⟩
   . exact absurd B I
  by_cases j:qy m=true
  .
   rw[aD j]at e;cases i:F.set p .dead with
   |none=>simp[i]at e
   |some F1=>
    simp only[i,av,aa,ai]at e;obtain⟨rfl,rfl⟩:=e;have A:=Fr.setTo i;have C:=h.empty A (by intro r D;rw[l]at D;cases D;exact n r rfl);rw[aD j];exact⟨u,y,vs,T,t,v,x,C.mapC (qM p),λk J=>A.uses rfl (λ_=>rfl) ((Weak.mapC (qM p) F1).uses J),
     (λK=>by rw[qvp.1 K]at j;cases j),g,h.tree l,λπ=>vH C A.new π⟩
  .
   rw[aF j]at e;simp only[aa,ai]at e;obtain⟨rfl,rfl⟩:=e;rw[aF j];refine⟨u,y,vs,T,t,v,x,h,λ_ h=>h,qvp.2 (by simpa using j),?_,?_,?_,?_⟩
   . intro q s;subst s;simp[qw]at d
   . intro q s;subst s;simp[qw]at d
   . intro f a b s;subst s;simp[qw]at d
   .
    cases m with
    |dead=>exact .inl ⟨rfl,g⟩
    |own L rows=>simp[qy]at j
    |mp r=>simp[qw]at d
    |ref q=>simp[qw]at d
    |ptr q=>simp[qw]at d
    |clo f a b=>simp[qw]at d
    |cptr row o=>simp[qw]at d
    |_=>exact .inr λq=>g
theorem qcJ.shr {G w F F'}(a:∀ k,Uses F' k->Uses F k){x c v}(h:qcJ G w F x c v):qcJ G w F' x c v:=by
 cases x with
 |none=>exact h
 |some s=>exact⟨h.1,h.2.1,h.2.2.1,λπ b=>h.2.2.2 π (a _ b)⟩
theorem qeb {G w ts K r}(m:K.inHeap){y}(p:G.γ K=some y):∀ (n o:Nat) (F F':Fr) (l:List Cell),RelF G w F ts->mvL F K r o n=some (l,F') ->
  ∃ us:List Value,us.length=n/\l.length=n/\RelF G w F' ts/\(∀ k,Uses F' k->Uses F k)/\(∀ (j:Nat) u,us[j]? = some u->w.cell? ⟨y.b,r*y.sz+o+j,none⟩=some u) /\
   ∀ (j:Nat) c,l[j]? = some c->∃ u,us[j]? = some u/\qcJ G w F' (if qy c then some ⟨K,r,o+j⟩else none) c u
 |0,o,F,F',l,h,e=>by simp only[mvL,aa,ai]at e;obtain⟨rfl,rfl⟩:=e;exact⟨[],rfl,rfl,h,λ_ h=>h,by simp,by simp⟩
 |n+1,o,F,F',l,h,e=>by
  simp only[mvL]at e;cases a:mvC F ⟨K,r,o⟩with
  |none=>simp[a]at e
  |some z=>
   obtain⟨c,F1⟩:=z;simp only[a]at e;cases b:mvL F1 K r (o+1) n with
   |none=>simp[b]at e
   |some x=>
    obtain⟨A,F2⟩:=x;simp only[b,aa,ai]at e;obtain⟨rfl,rfl⟩:=e;obtain⟨u,d,vs,T,q,B,C,D,r2,E⟩:=qgS h m a;have:d=y:=by rw[p]at q;exact(aQ q).symm
    subst this;obtain⟨us,H,I,J,s,L,M⟩:=qeb m p n (o+1) F1 F2 A D b;refine⟨u::us,by simp[H],by simp[I],J,λk N=>r2 k (s k N),λj v f=>?_,λj O g=>?_⟩
    . cases j with
      |zero=>simp only[aI,aa]at f;subst f;unfold World.cell?;simp only[Nat.add_zero,B];simpa using C
      |succ j=>have:=L j v (by simpa using f);rw[show r*d.sz+o+(j+1)=r*d.sz+(o+1)+j by omega];exact this
    . cases j with
      |zero=>simp only[aI,aa]at g;subst g;exact⟨u,rfl,E.shr s⟩
      |succ j=>obtain⟨P,i,t⟩:=M j O (by simpa using g);rw[show o+1+j=o+(j+1)by omega]at t;exact⟨P,by simpa using i,t⟩
theorem qgo {cx G w F F' a o}(h:RelF G w F a.tmps)(e:mvop cx F o=some F'):Ran cx G w a o F':=by
 obtain⟨dst,op,ty,pos,after,guard⟩:=o;unfold mvop at e;split at e
 . cases e
 split at e
 .
  rename_i t x d A hd;simp only at A hd;subst A;subst hd;split at e
  .
   split at e
   .
    rename_i p n g hc hn hg;split at e
    . cases e
    rename_i b;have b:p.key.heap=true/\p.isM=false:=by simpa using b
    obtain⟨b,B⟩:=b;split at e
    .
     rename_i l F1 hl;simp only[aG]at e;obtain⟨v,m,rfl⟩:=e;obtain⟨_,hs⟩:=qp h hc (by simp);obtain⟨hok,y,hy,hm,I⟩:=hs ⟨⟨.res,[]⟩,0,0⟩;have J:y.isMap=false:=by
      cases i:y.isMap with
      |false=>rfl
      |true=>rw[hm i]at B;cases B
     rw[Hd.adr_of J]at I;obtain⟨us,H,O,Q,a4,a5,R⟩:=qeb (qcn.1 b) hy n p.o F F1 l h hl;have k:∀ (j:Nat) u,us[j]? = some u->w.cell? ((⟨y.b,p.r*y.sz+p.o,none⟩:Addr).add j)=some u:=λj u C=>by rw[zb];exact a5 j u C
     have q:=vK hg w
     let X:Nat->Nat->Option (Option Pl):=λr j=>match cellAt [l] r j with
      |some c=>some (if qy c then some ⟨p.key,p.r,p.o+j⟩else none)
      |none=>none
     have K:∀ r j c,cellAt [l] r j=some c->r=0/\l[j]? = some c/\X r j=some (if qy c then some ⟨p.key,p.r,p.o+j⟩else none):=λr j c D=>by obtain⟨rfl,z⟩:=zI D;exact⟨rfl,z,by simp only[X,D]⟩
     have s:∀ {v:AV},v.rows=[l]->Inj (zg v.rows X):=by
      intro v m r o r' o' x x' π π' S T U;rw[m]at S T;have key:∀ r o x,zg [l] X r o=some (some x)->r=0/\x=⟨p.key,p.r,p.o+o⟩:=by
       intro r o x i;unfold zg at i;cases f:cellAt [l] r o with
       |none=>simp[f]at i
       |some c=>
        simp only[f]at i;split at i
        . rename_i L;obtain⟨q1,q2,q3⟩:=K r o c f;rw[q3,aD L]at i;cases i;exact⟨q1,rfl⟩
        . cases i
      obtain⟨rfl,rfl⟩:=key _ _ _ S;obtain⟨rfl,rfl⟩:=key _ _ _ T;simp only[Pl.under,Key.mk.injEq,true_and,List.append_cancel_left_eq,List.cons.injEq,ai]at U;exact⟨rfl,by omega,U.2⟩
     unfold mkAV at m;cases g with
     |true=>simp only[if_true,aa]at m;subst m;obtain⟨G',M,b2⟩:=qbR (d:=d) (v:=.ag l) (V:=.agg us.toArray) Q X ⟨us.toArray,rfl,by simp[AV.ag,H,O]⟩ (λr o c f=>by obtain⟨rfl,z,i⟩:=K r o c f;obtain⟨u,C,N⟩:=R o c z;exact⟨u,by simpa [qX,AV.ag]using C,_,i,N⟩) (s rfl);refine⟨_,.agg us.toArray,G',w,?_,.inl rfl,M,b2⟩;have E:=run_loadCells_list (P:=cx.P) w _ us k;rw[H]at E;simp only[execOp,Instr.loadAt,Instr.sureAddr,I,pure_bind,aK,loadVar,q,ay,if_true,qK hn,E,aT]
     |false=>
      simp only[aS,if_false]at m;split at m
      .
       rename_i c;simp only[aa]at m;subst m;obtain⟨u,rfl⟩:∃ u,us=[u]:=by
        simp only[List.length_singleton]at O;cases us with
        |nil=>simp at H;omega
        |cons u us=>
         cases us with
         |nil=>exact⟨u,rfl⟩
         |cons _ _=>simp at H;omega
       obtain⟨G',M,b2⟩:=qbR (d:=d) (v:=.c c) (V:=u) Q X trivial (λr o Y f=>by
        obtain⟨rfl,z,i⟩:=K r o Y f;obtain⟨u',C,N⟩:=R o Y z;cases o with
        |zero=>exact⟨u',by simpa [qX,AV.c]using C,_,i,N⟩
        |succ o=>simp at z) (s rfl)
       refine⟨_,u,G',w,?_,.inl rfl,M,b2⟩;have Z:=k 0 u rfl;have:(⟨y.b,p.r*y.sz+p.o,none⟩:Addr).add 0=⟨y.b,p.r*y.sz+p.o,none⟩:=by simp[Addr.add]
       rw[this]at Z;simp only[execOp,Instr.loadAt,Instr.sureAddr,I,pure_bind,aK,loadVar,q,ay,aS,if_false,run_load,Z,aT]
      . cases m
    . cases e
   . cases e
  . cases e
 . cases e
end
section
variable [Glob]
def RenP (W:Root->Option Root)(a q:Pl):Prop:=W q.key.root=some a.key.root/\q.key.path=a.key.path/\q.r=a.r/\q.o=a.o
def RenX (W:Root->Option Root):Cell->Cell->Prop
 |.ptr c,.ptr q=>RenP W c q
 |.val u,.val v=>u=v
 |.ptr _,_=>False
 |.val _,_=>False
 |a,b=>a=b
def qev (W:Root->Option Root):List Cell->List Cell->Prop
 |[],[]=>True
 |a::l,b::m=>RenX W a b/\qev W l m
 |_,_=>False
def RenC (W:Root->Option Root):Cell->Cell->Prop
 |.ptr c,.ptr q=>RenP W c q
 |.ref c,.ref q=>RenP W c q
 |.clo f fs cs,.clo g d e=>f=g/\qev W fs d/\qev W cs e
 |.val u,.val v=>u=v
 |.nil,.nil=>True
 |.imm a,.imm b=>a=b
 |.own z a,.own h b=>z=h/\a=b
 |.mp a,.mp b=>a=b
 |.mpb a,.mpb b=>a=b
 |.cptr a o,.cptr b i=>a=b/\o=i
 |_,_=>False
def yS (W:Root->Option Root)(a b:List (List Cell)):Prop:=a.map List.length=b.map List.length /\
 (∀ r o c,cellAt b r o=some c->∃ c1,cellAt a r o=some c1/\(c=.dead\/RenC W c1 c))/\∀ r o d,cellAt a r o=some (.mpb d)->cellAt b r o=some (.mpb d)
def qeH (W:Root->Option Root)(q:Pl):Prop:=W q.key.root=none\/(q.key.path=[]/\q.key.root.boxed=true)
def qdX (W:Root->Option Root):Cell->Prop
 |.ptr q=>qeH W q
 |.ref q=>W q.key.root=none
 |.clo _ fs cs=>∀ q,.ptr q∈fs++cs->qeH W q
 |_=>True
def yJ (W:Root->Option Root)(a b:List (List Cell)):Prop:=a.map List.length=b.map List.length /\
 (∀ r o c,cellAt b r o=some c->∃ c1,cellAt a r o=some c1/\(c=.dead\/(c=c1/\qdX W c)))/\∀ r o d,cellAt a r o=some (.mpb d)->cellAt b r o=some (.mpb d)
structure Spliced (W:Root->Option Root) (F1 F2 F:Fr) (ts1 ts2 ts:Array Value):Prop where
 len:F.slots.length=ts.size
 slot:∀ k v,F.slots[k]? = some v->∃ V,ts[k]? = some V /\
  ((∃ k1 v1,W (.slot k)=some (.slot k1)/\F1.slots[k1]? = some v1/\ts1[k1]? = some V/\v.tag=v1.tag/\yS W v1.rows v.rows) \/
  (W (.slot k)=none/\∃ v2,F2.slots[k]? = some v2/\ts2[k]? = some V/\v.tag=v2.tag/\yJ W v2.rows v.rows)\/v=.deadv)
 box:∀ r l,F.boxes.lookup r=some l ->
  (∃ r1 l1,W r=some r1/\F1.boxes.lookup r1=some l1/\yS W [l1] [l])\/(W r=none/\∃ l2,F2.boxes.lookup r=some l2/\yJ W [l2] [l])
structure Part (W:Root->Option Root) (G2 GR G1:Gh) (w w':World) (F2 F:Fr):Prop where
 gain:Gain GR w G1 w'
 inj:∀ r r' a,W r=some a->W r'=some a->r=r'
 bx:∀ r a,W r=some a->r.boxed=a.boxed
 im:GR.im=G2.im
 src:∀ k1 h,GR.γ k1=some h->∃ k,G2.γ k=some h/\((W k.root).isSome=true\/(k.path≠[]/\¬ Uses F2 k))
 par:∀ i a,W (.par i)=some a->G1.γ ⟨a,[]⟩=G2.γ ⟨.par i,[]⟩
 loc:∀ d a,W (.loc d)=some a->G2.lv d->G1.γ ⟨a,[]⟩=G2.γ ⟨.loc d,[]⟩/\G1.ok a
 comp:∀ d a,W (.loc d)=some a->G1.ok a->(F.boxes.lookup (.loc d)).isSome=true
 rest:∀ d,W (.loc d)=none->G2.lv d->(F.boxes.lookup (.loc d)).isSome=true
open Classical in
noncomputable def Gh.splice (W:Root->Option Root)(G2 G1:Gh)(F2:Fr):Gh where
 γ k:=match W k.root with
  |some a=>G1.γ ⟨a,k.path⟩
  |none=>if k.path=[]\/Uses F2 k then G2.γ k else none
 im:=G1.im
 lv d:=match W (.loc d)with
  |some a=>G1.ok a
  |none=>G2.lv d
theorem zh {W G2 G1 F2 k a}(h:W k.root=some a):(Gh.splice W G2 G1 F2).γ k=G1.γ ⟨a,k.path⟩:=by simp only[Gh.splice,h]
theorem zQ {W G2 G1 F2 k}(h:W k.root=none)(a:k.path=[]\/Uses F2 k):(Gh.splice W G2 G1 F2).γ k=G2.γ k:=by simp only[Gh.splice,h,aD a]
theorem vM {W G2 G1 F2 k x}(e:(Gh.splice W G2 G1 F2).γ k=some x):
  (∃ a,W k.root=some a/\G1.γ ⟨a,k.path⟩=some x)\/(W k.root=none/\(k.path=[]\/Uses F2 k)/\G2.γ k=some x):=by
 cases b:W k.root with
 |some a=>exact .inl ⟨a,rfl,by rw[zh b]at e;exact e⟩
 |none=>
  simp only[Gh.splice,b]at e;split at e
  . rename_i c;exact .inr ⟨rfl,c,e⟩
  . cases e
section
variable {W:Root->Option Root} {G2 GR G1:Gh} {w w':World} {F1 F2 F:Fr} {ts1 ts2 ts:Array Value}
theorem Part.apart (c:Part W G2 GR G1 w w' F2 F)(d:GInv G2 w){k x}(f:W k.root=none)(a:k.path=[]\/Uses F2 k)(e:G2.γ k=some x):
  ∀ k1 y,GR.γ k1=some y->y.b≠x.b:=by
 intro k1 y g h;obtain⟨i,j,b⟩:=c.src _ _ g;have:i=k:=d.inj _ _ _ _ j e h;subst this;rcases b with b|⟨l,m⟩
 . rw[f]at b;cases b
 .
  rcases a with a|a
  . exact l a
  . exact m a
theorem Part.heap (a:Part W G2 GR G1 w w' F2 F)(b:GInv G2 w){k x}(c:W k.root=none)(d:k.path=[]\/Uses F2 k)(e:G2.γ k=some x):
  w'.heap[x.b]? = w.heap[x.b]?/\(G1.im x.b->G2.im x.b):=by
 have:=a.gain.rest x.b (b.lt _ _ e) (a.apart b c d e);exact⟨this.1,λh=>by rw[<- a.im];exact this.2 h⟩
theorem qep (m:Part W G2 GR G1 w w' F2 F)(n:GInv G2 w)(o:GInv G1 w'):GInv (Gh.splice W G2 G1 F2) w' where
 inj k d x x' e c g:=by
  have i:∀ {k d:Key} {x x':Hd} {a:Root},W k.root=some a->G1.γ ⟨a,k.path⟩=some x->W d.root=none->(d.path=[]\/Uses F2 d)->G2.γ d=some x'->x.b=x'.b->False:=by
   intro k d x x' a p e q r c g;rcases m.gain.own _ _ e with⟨z,A,t,s⟩|u
   . exact m.apart n q r c _ _ t (s.trans g)
   . have:=n.lt _ _ c;omega
  rcases vM e with⟨a,p,e⟩|⟨q,r,e⟩
  . rcases vM c with⟨v,f,c⟩|⟨j,l,c⟩
    . have:=o.inj _ _ _ _ e c g;simp only[Key.mk.injEq]at this;obtain⟨rfl,y⟩:=this;have:=m.inj _ _ _ p f;cases k;cases d;simp_all
    . exact(i p e j l c g).elim
  . rcases vM c with⟨v,f,c⟩|⟨j,l,c⟩
    . exact(i f c q r e g.symm).elim
    . exact n.inj _ _ _ _ e c g
 lt k x e:=by
  rcases vM e with⟨a,p,e⟩|⟨q,r,e⟩
  . exact o.lt _ _ e
  . exact Nat.lt_of_lt_of_le (n.lt _ _ e) m.gain.size
 imlt b h:=o.imlt b h
 glob b h:=o.glob b h
theorem qb1 (c:Part W G2 GR G1 w w' F2 F){d}(hd:G2.lv d):(Gh.splice W G2 G1 F2).lv d/\(Gh.splice W G2 G1 F2).γ ⟨.loc d,[]⟩=G2.γ ⟨.loc d,[]⟩:=by
 cases b:W (.loc d)with
 |some a=>obtain⟨e,f⟩:=c.loc d a b hd;refine⟨?_,by rw[zh b];exact e⟩;simp only[Gh.splice,b];exact f
 |none=>refine⟨?_,zQ b (.inl rfl)⟩;simp only[Gh.splice,b];exact hd
theorem qeE (c:Part W G2 GR G1 w w' F2 F):Gain G2 w (Gh.splice W G2 G1 F2) w' where
 out:=c.gain.out
 size:=c.gain.size
 im b h:=c.gain.im b (by rw[c.im];exact h)
 keep b h:=c.gain.keep b (by rw[c.im];exact h)
 rest b m l:=by
  have:=c.gain.rest b m λk1 s n=>by obtain⟨k,e,_⟩:=c.src _ _ n;exact l _ _ e
  exact⟨this.1,λh=>by rw[<- c.im];exact this.2 h⟩
 own k x e:=by
  rcases vM e with⟨a,t,e⟩|⟨l,u,e⟩
  . rcases c.gain.own _ _ e with⟨v,o,p,f⟩|g
    . obtain⟨q,r,_⟩:=c.src _ _ p;exact .inl ⟨q,o,r,f⟩
    . exact .inr g
  . exact .inl ⟨k,x,e,rfl⟩
 par i:=by
  cases j:W (.par i)with
  |some a=>rw[zh j];exact c.par i a j
  |none=>exact zQ j (.inl rfl)
 loc d hd:=qb1 c hd
theorem XW {r a}(b:W r=some a)(c:r.boxed=a.boxed)(h:G1.ok a):(Gh.splice W G2 G1 F2).ok r:=by
 cases r with
 |loc d=>show(Gh.splice W G2 G1 F2).lv d;simp only[Gh.splice,b];exact h
 |_=>trivial
theorem Qy {r}(a:W r=none)(h:G2.ok r):(Gh.splice W G2 G1 F2).ok r:=by
 cases r with
 |loc d=>show(Gh.splice W G2 G1 F2).lv d;simp only[Gh.splice,a];exact h
 |_=>trivial
theorem qY.ren (f:Part W G2 GR G1 w w' F2 F):∀ {l m:List Cell} {vs:List Value},qev W l m->qY G1 l vs->qY (Gh.splice W G2 G1 F2) m vs
 |[],[],vs,_,h=>by cases vs<;>exact h
 |a::l,b::m,[],_,h=>h.elim
 |a::l,b::m,v::vs,⟨c,i⟩,⟨d,j⟩=>by
  refine⟨?_,qY.ren f i j⟩;cases a with
  |ptr y=>
   cases b with
   |ptr q=>obtain⟨e,g,k,n⟩:=c;obtain⟨o,p,x,r,s,t⟩:=d;refine⟨XW e (f.bx _ _ e) o,by rw[g];exact p,x,?_,s,by rw[k,n];exact t⟩;rw[zh e,g];exact r
   |_=>exact c.elim
  |val u=>
   cases b with
   |val v'=>cases c;exact d
   |_=>exact c.elim
  |_=>exact d.elim
 |[],_::_,_,h,_=>h.elim
 |_::_,[],_,h,_=>h.elim
theorem Sh.ren (n:Part W G2 GR G1 w w' F2 F){k a}(v:W k.root=some a){r o c1 c u}(d:RenC W c1 c)(h:Sh G1 w' ⟨⟨a,k.path⟩,r,o⟩ c1 u):Sh (Gh.splice W G2 G1 F2) w' ⟨k,r,o⟩ c u:=by
 have key:(Gh.splice W G2 G1 F2).γ (⟨k,r,o⟩:Pl).toKey=G1.γ (⟨⟨a,k.path⟩,r,o⟩:Pl).toKey:=zh (by exact v);cases c1 with
 |val M=>
  cases c with
  |val v'=>cases d;exact h
  |_=>exact d.elim
 |nil=>
  cases c with
  |nil=>exact h
  |_=>exact d.elim
 |imm rows=>
  cases c with
  |imm b=>cases d;exact h
  |_=>exact d.elim
 |own N rows=>
  cases c with
  |own y p=>obtain⟨rfl,rfl⟩:=d;unfold Sh;rw[key];exact h
  |_=>exact d.elim
 |mp z=>
  cases c with
  |mp A=>cases d;obtain⟨x,l,clock,e,i,j,m⟩:=h;exact⟨x,l,clock,by rw[key];exact e,i,j,m⟩
  |_=>exact d.elim
 |ptr s=>
  cases c with
  |ptr q=>obtain⟨e,i,j,m⟩:=d;obtain⟨B,x,C,D,E⟩:=h;refine⟨XW e (n.bx _ _ e) B,x,?_,λG=>by rw[qBT i j];exact D G,by rw[j,m];exact E⟩;rw[zh e,i];exact C
  |_=>exact d.elim
 |mpb z=>exact h.elim
 |cptr row O=>
  cases c with
  |cptr t H=>obtain⟨rfl,rfl⟩:=d;exact h
  |_=>exact d.elim
 |ref s=>
  cases c with
  |ref q=>
   obtain⟨e,i,j,m⟩:=d;refine⟨XW e (n.bx _ _ e) h.1,?_⟩;have:q.toKey=⟨q.key.root,s.toKey.path⟩:=by simp[Pl.toKey,i,j,m]
   rw[this,zh (k:=⟨q.key.root,s.toKey.path⟩) e];exact h.2
  |_=>exact d.elim
 |clo f fs cs=>
  cases c with
  |clo g I J=>obtain⟨rfl,K,L⟩:=d;obtain⟨vs,us,e,i,j⟩:=h;exact⟨vs,us,e,i.ren n K,j.ren n L⟩
  |_=>exact d.elim
 |dead=>cases c<;>exact d.elim
theorem qb5 (e:Part W G2 GR G1 w w' F2 F){q}(c:qeH W q)(f:G2.ok q.key.root)(h:Uses F2 q.key):
  (Gh.splice W G2 G1 F2).ok q.key.root/\(Gh.splice W G2 G1 F2).γ q.key=G2.γ q.key:=by
 cases b:W q.key.root with
 |none=>exact⟨Qy b f,zQ b (.inr h)⟩
 |some a=>
  rcases c with c|⟨l,g⟩
  . rw[b]at c;cases c
  .
   obtain⟨⟨r,π⟩,i,j⟩:=q;simp only at *;subst l;cases r with
   |slot k=>cases g
   |res=>cases g
   |par i=>exact⟨trivial,by rw[zh b];exact e.par i a b⟩
   |loc d=>exact qb1 e f
theorem qY.keep (c:Part W G2 GR G1 w w' F2 F):∀ {l:List Cell} {vs:List Value},(∀ q,.ptr q∈l->qeH W q/\Uses F2 q.key)->qY G2 l vs->qY (Gh.splice W G2 G1 F2) l vs
 |[],vs,_,h=>by cases vs<;>exact h
 |a::l,[],_,h=>h.elim
 |a::l,v::vs,d,⟨b,e⟩=>by
  refine⟨?_,qY.keep c (λq f=>d q (aB _ f)) e⟩;cases a with
  |ptr q=>obtain⟨g,i,x,j,k,m⟩:=b;obtain⟨n,o⟩:=d q au;obtain⟨k1,p⟩:=qb5 c n g o;exact⟨k1,i,x,by rw[p];exact j,k,m⟩
  |val u=>exact b
  |_=>exact b.elim
theorem Sh.keep (i:Part W G2 GR G1 w w' F2 F)(C:GInv G2 w){p}(z:W p.key.root=none){c u}(m:∀ k∈deps p c,Uses F2 k)(y:qdX W c)(h:Sh G2 w p c u):Sh (Gh.splice W G2 G1 F2) w' p c u:=by
 have d:∀ b,G2.im b->G1.im b:=λb h=>i.gain.im b (by rw[i.im];exact h);have a:∀ b,G2.im b->w'.heap[b]? = w.heap[b]?:=λb h=>i.gain.keep b (by rw[i.im];exact h);cases c with
 |val v=>exact h
 |nil=>exact h
 |imm rows=>exact RelI.mono d a h
 |own N rows=>unfold Sh;rw[zQ (k:=p.toKey) z (.inr (m _ (by simp[deps])))];exact h
 |mp D=>obtain⟨x,t,clock,g,n,r,A,E,G⟩:=h;have l:=m p.toKey (by simp[deps]);obtain⟨H,I⟩:=i.heap C (k:=p.toKey) z (.inr l) g;exact⟨x,t,clock,by rw[zQ (k:=p.toKey) z (.inr l)];exact g,n,r,λJ=>A (I J),by rw[H];exact E,G.mono d a⟩
 |ptr q=>obtain⟨K,x,g,n,r⟩:=h;obtain⟨k1,L⟩:=qb5 i y K (m q.key (by simp[deps]));exact⟨k1,x,by rw[L];exact g,n,r⟩
 |mpb D=>exact h.elim
 |cptr row o=>obtain⟨b,base,vs,T,fr,g,n,r,A⟩:=h;exact⟨b,base,vs,T,fr,d _ g,n,by rw[a _ g];exact r,λj c e=>let ⟨u,m,M⟩:=A j c e;⟨u,m,M.mono d a⟩⟩
 |ref q=>exact⟨Qy y h.1,by rw[zQ (k:=q.toKey) y (.inr (m _ (by simp[deps])))];exact h.2⟩
 |clo f fs cs=>
  obtain⟨vs,us,g,n,r⟩:=h;have B:∀ q,.ptr q∈fs++cs->qeH W q/\Uses F2 q.key:=λq s=>⟨y q s,m _ (by simp only[deps,List.mem_filterMap];exact⟨.ptr q,s,rfl⟩)⟩
  exact⟨vs,us,g,n.keep i (λq s=>B q (aL _ s)),r.keep i (λq s=>B q (aR _ s))⟩
 |dead=>exact h
theorem yS.getR {a b}(h:yS W a b){x π rows}(e:Ab.getR b (x::π)=some rows):
  Ab.getR a (x::π)=some rows:=by
 obtain⟨r,o⟩:=x;simp only[Ab.getR]at *;cases d:cellAt b r o with
 |none=>simp[d]at e
 |some c=>
  rw[d]at e;obtain⟨c1,f,h2⟩:=h.2.1 r o c d;rw[f];cases c with
  |own z i=>
   rcases h2 with h2|h2
   . cases h2
   . cases c1 with
     |own j g=>obtain⟨_,rfl⟩:=h2;exact e
     |_=>exact h2.elim
  |_=>simp at e
theorem yJ.getR {a b}(h:yJ W a b){x π rows}(e:Ab.getR b (x::π)=some rows):
  Ab.getR a (x::π)=some rows:=by
 obtain⟨r,o⟩:=x;simp only[Ab.getR]at *;cases f:cellAt b r o with
 |none=>simp[f]at e
 |some c=>
  rw[f]at e;obtain⟨c1,g,d⟩:=h.2.1 r o c f;rw[g];cases c with
  |own z i=>
   rcases d with d|⟨d,_⟩
   . cases d
   . subst d;exact e
  |_=>simp at e
theorem yS.pure {rows}(h:∀ r o c,cellAt rows r o=some c->qw c=true):yS W rows rows:=⟨rfl,λr o c e=>⟨c,e,by have:=h r o c e;cases c<;>simp_all[qw,RenC]⟩,λ_ _ _ e=>e⟩
theorem yJ.pure {rows}(h:∀ r o c,cellAt rows r o=some c->qw c=true):yJ W rows rows:=⟨rfl,λr o c e=>⟨c,e,.inr ⟨rfl,by have:=h r o c e;cases c<;>simp_all[qw,qdX]⟩⟩,λ_ _ _ e=>e⟩
theorem qeo (H:RelF G2 w F2 ts2)(A:RelF G1 w' F1 ts1)(B:Spliced W F1 F2 F ts1 ts2 ts){k rows}(e:F.rowsAt k=some rows)(hi:k.inHeap):
  (∃ a b,W k.root=some a/\F1.rowsAt ⟨a,k.path⟩=some b/\yS W b rows/\(⟨a,k.path⟩:Key).inHeap)\/(W k.root=none/\∃ d,F2.rowsAt k=some d/\yJ W d rows):=by
 obtain⟨r,π⟩:=k;have C:∀ {k:Key} {rows:List (List Cell)},k.path≠[]->F1.rowsAt k=some rows->yS W rows rows:=λm e=>.pure λr o c n=>(A.cont _ _ e (.inl m)).pure m n;have D:∀ {k:Key} {rows:List (List Cell)},k.path≠[]->F2.rowsAt k=some rows->yJ W rows rows:=λm e=>.pure λr o c n=>(H.cont _ _ e (.inl m)).pure m n;by_cases E:∃ j,r=.slot j
 .
  obtain⟨j,rfl⟩:=E;have t:π≠[]:=by
   rcases hi with hi|hi
   . exact hi
   . simp[Root.boxed]at hi
  cases π with
  |nil=>exact absurd rfl t
  |cons x π=>
   unfold Fr.rowsAt at e;simp only[Fr.rows]at e;cases u:F.slots[j]? with
   |none=>simp[u]at e
   |some v=>
    simp only[u,av,ae]at e;obtain⟨V,_,n⟩:=B.slot j v u;rcases n with⟨k1,K,c1,g,h,I,y⟩|⟨c1,L,g,h,I,y⟩|rfl
    . have f:F1.rowsAt ⟨.slot k1,x::π⟩=some rows:=by simp only[Fr.rowsAt,Fr.rows,g,av,ae];exact y.getR e
      exact .inl ⟨_,rows,c1,f,C (by simp) f,.inl (by simp)⟩
    . have f:F2.rowsAt ⟨.slot j,x::π⟩=some rows:=by simp only[Fr.rowsAt,Fr.rows,g,av,ae];exact y.getR e
      exact .inr ⟨c1,rows,f,D (by simp) f⟩
    . rw[qbT (by simp)]at e;cases e
 .
  have i:∀ k,r≠.slot k:=λk e=>E ⟨k,e⟩;unfold Fr.rowsAt at e;simp only at e;rw[Fr.rows_ns _ i]at e;cases z:F.boxes.lookup r with
  |none=>simp[z]at e
  |some l=>
   simp only[z,av,ae]at e;rcases B.box r l z with⟨p,G,c1,g,h⟩|⟨c1,J,g,h⟩
   .
    have q:=(A.boxes p G g).1;have s:∀ k,p≠.slot k:=λk e=>by subst e;simp[Root.boxed]at q
    cases π with
    |nil=>simp only[Ab.getR,aa]at e;subst e;refine .inl ⟨p,[G],c1,?_,h,.inr q⟩;simp only[Fr.rowsAt,F1.rows_ns s,g,av,ae,Ab.getR]
    |cons x π=>
     have f:F1.rowsAt ⟨p,x::π⟩=some rows:=by simp only[Fr.rowsAt,F1.rows_ns s,g,av,ae];exact h.getR e
     exact .inl ⟨p,rows,c1,f,C (by simp) f,.inl (by simp)⟩
   .
    cases π with
    |nil=>simp only[Ab.getR,aa]at e;subst e;refine .inr ⟨c1,[J],?_,h⟩;simp only[Fr.rowsAt,F2.rows_ns i,g,av,ae,Ab.getR]
    |cons x π=>
     have f:F2.rowsAt ⟨r,x::π⟩=some rows:=by simp only[Fr.rowsAt,F2.rows_ns i,g,av,ae];exact h.getR e
     exact .inr ⟨c1,rows,f,D (by simp) f⟩
theorem qap (C:RelF G2 w F2 ts2)(L:RelF G1 w' F1 ts1)(S:Spliced W F1 F2 F ts1 ts2 ts)(m:Part W G2 GR G1 w w' F2 F):
  RelF (Gh.splice W G2 G1 F2) w' F ts/\Gain G2 w (Gh.splice W G2 G1 F2) w':=by
 refine⟨⟨qep m C.inv L.inv,S.len,λk v e=>?_,λr l e=>?_,λd hd=>?_,λk rows e Y=>?_⟩,qeE m⟩
 .
  obtain⟨V,hV,n⟩:=S.slot k v e;refine⟨V,hV,?_⟩;rcases n with⟨k1,v1,c1,q,g,D,M⟩|⟨c1,v2,q,g,D,M⟩|rfl
  .
   obtain⟨Z,E,hs,G⟩:=L.slots k1 v1 q;have:Z=V:=by rw[E]at g;exact aQ g
   subst this;refine⟨by rw[D,<- M.1];exact hs,λr o c n=>?_⟩;obtain⟨y,s,i⟩:=M.2.1 r o c n;obtain⟨u,H,t⟩:=G r o y s;refine⟨u,by rw[D];exact H,?_⟩;rcases i with rfl|i
   . exact .inl rfl
   . rcases t with rfl|t
     . cases c<;>exact i.elim
     . exact .inr (Sh.ren m (k:=⟨.slot k,[]⟩) c1 i t)
  .
   obtain⟨Z,E,hs,G⟩:=C.slots k v2 q;have:Z=V:=by rw[E]at g;exact aQ g
   subst this;refine⟨by rw[D,<- M.1];exact hs,λr o c n=>?_⟩;obtain⟨y,s,i⟩:=M.2.1 r o c n;obtain⟨u,H,t⟩:=G r o y s;refine⟨u,by rw[D];exact H,?_⟩;rcases i with rfl|⟨rfl,i⟩
   . exact .inl rfl
   . rcases t with rfl|t
     . exact .inl rfl
     . exact .inr (Sh.keep m C.inv (p:=⟨⟨.slot k,[]⟩,r,o⟩) c1 (λk' I=>.inr ⟨_,_,qz (zR q) s,I⟩) i t)
  . refine⟨trivial,λr o c n=>?_⟩;obtain⟨rfl,rfl,rfl⟩:=one_cell n;exact⟨V,rfl,.inl rfl⟩
 .
  rcases S.box r l e with⟨r1,l1,c1,q,g⟩|⟨c1,l2,q,g⟩
  . have:=L.boxes r1 l1 q;exact⟨by rw[m.bx _ _ c1];exact this.1,XW c1 (m.bx _ _ c1) this.2⟩
  . have:=C.boxes r l2 q;exact⟨this.1,Qy c1 this.2⟩
 .
  cases U:W (.loc d)with
  |some a=>refine m.comp d a U ?_;simp only[Gh.splice,U]at hd;exact hd
  |none=>refine m.rest d U ?_;simp only[Gh.splice,U]at hd;exact hd
 .
  rcases qeo C L S e Y with⟨a,z,c1,q,g,D⟩|⟨c1,A,q,g⟩
  .
   have f:rows.length=z.length:=by simpa using (congrArg List.length g.1).symm
   rcases L.cont _ _ q D with(⟨n1,n2,n3⟩|⟨x,N,B,clock,rfl,O,K,g3,g4,g5,g6⟩)|⟨x,vs,T,X,e2,e3,e4,e5,e6,e7,P,e9⟩
   . subst n2;exact .inl (.inl ⟨by rw[zh c1];exact n1,List.eq_nil_of_length_eq_zero f,n3⟩)
   . obtain rfl:=qyL g.1 (g.2.2 0 0 N rfl);exact .inl (.inr ⟨x,N,B,clock,rfl,O,by rw[zh c1];exact K,g3,g4,g5,g6⟩)
   refine .inr ⟨x,vs,T,by rw[zh c1];exact X,e2,e3,e4,λrow G=>?_,by rw[f];exact e6,by rw[f];exact e7,λQ=>⟨(P Q).1,λr o c n=>?_⟩,λr o c n=>?_⟩
   . have:row.length∈z.map List.length:=by rw[g.1];exact List.mem_map_of_mem G
     obtain⟨R,m1,m2⟩:=List.mem_map.1 this;rw[<- m2];exact e5 _ m1
   . obtain⟨y,s,i⟩:=g.2.1 r o c n;have:=(P Q).2 r o y s;rcases i with rfl|i
     . rfl
     . cases y<;>cases c<;>simp_all[qw,RenC]
   . obtain⟨y,s,i⟩:=g.2.1 r o c n;obtain⟨u,H,t⟩:=e9 r o y s;refine⟨u,H,?_⟩;rcases i with rfl|i
     . exact t.one
     . exact Sh.ren m c1 i t
  .
   have j:Uses F2 k:=.inl ⟨by rw[q];rfl,Y⟩;have f:rows.length=A.length:=by simpa using (congrArg List.length g.1).symm
   rcases C.cont _ _ q Y with(⟨n1,n2,n3⟩|⟨x,N,B,clock,rfl,O,K,g3,g4,g5,g6⟩)|⟨x,vs,T,X,e2,e3,e4,e5,e6,e7,P,e9⟩
   . subst n2;exact .inl (.inl ⟨by rw[zQ c1 (.inr j)];exact n1,List.eq_nil_of_length_eq_zero f,n3⟩)
   . obtain rfl:=qyL g.1 (g.2.2 0 0 N rfl);obtain⟨k1,k2⟩:=m.heap C.inv c1 (.inr j) K;exact .inl (.inr ⟨x,N,B,clock,rfl,O,by rw[zQ c1 (.inr j)];exact K,g3,λJ=>g4 (k2 J),by rw[k1];exact g5,g6.mono (λb h=>m.gain.im b (by rw[m.im];exact h)) (λb h=>m.gain.keep b (by rw[m.im];exact h))⟩)
   obtain⟨O,K⟩:=m.heap C.inv c1 (.inr j) X;refine .inr ⟨x,vs,T,by rw[zQ c1 (.inr j)];exact X,e2,λJ=>e3 (K J),by rw[O];exact e4,λrow G=>?_,by rw[f];exact e6,by rw[f];exact e7,
    λQ=>⟨(P Q).1,λr o c n=>?_⟩,λr o c n=>?_⟩
   . have:row.length∈A.map List.length:=by rw[g.1];exact List.mem_map_of_mem G
     obtain⟨R,m1,m2⟩:=List.mem_map.1 this;rw[<- m2];exact e5 _ m1
   . obtain⟨y,s,i⟩:=g.2.1 r o c n;have:=(P Q).2 r o y s;rcases i with rfl|⟨rfl,_⟩
     . rfl
     . exact this
   . obtain⟨y,s,i⟩:=g.2.1 r o c n;obtain⟨u,H,t⟩:=e9 r o y s;refine⟨u,H,?_⟩;rcases i with rfl|⟨rfl,i⟩
     . exact t.one
     . exact Sh.keep m C.inv c1 (λk' I=>.inr ⟨_,_,qz q s,I⟩) i t
end
end
end Ab
end Go.Proofs.YtnnhdcidgfjfpaaGreatDoor

/-
  The interpreter of the model's code over values, and its soundness: part 3 of 5. No claim stands here.
-/
import Derived.Test.YtjnefcbeemkkeaaGreatLibBq
set_option linter.all false
namespace Go.Proofs.YtjnefcbeemkkeaaGreat
namespace Ab
section
variable [Glob]
theorem qge {cx G w F F' a o s t x}(ho:o.op=.convert s t x)(h:RelF G w F a.tmps)(e:loud cx F o=some F'):Ran cx G w a o F':=by
 obtain⟨dst,op,ty,pos,after,guard⟩:=o;change op=_ at ho;subst ho;unfold loud at e;simp only at e;split at e
 .
  rename_i el b hs ht hx;split at e
  .
   rename_i hel;simp only[aa]at e;subst e;have hv:a.eval x=.string b:=yc (qx h x) hx;have run:(execOp a.eval ⟨dst,.convert s t x,ty,pos,after,guard⟩).run cx.P w=.ok (.value (.slice (some ⟨w.heap.size,0,none⟩) b.size (grownCap w b.size 0 el))) (Lib.bytesWorld w el b):=by simp only[execOp,hv,aL,Lib.run_convert_string_bytes w s t el b hs ht hel,ay];rfl
   have old:∀ k,k<w.heap.size->(Lib.bytesWorld w el b).heap[k]? = w.heap[k]?:=Lib.bytesWorld_at_old w el b;have hsz:=Lib.bytesWorld_size w el b;have r1:RelF G (Lib.bytesWorld w el b) F a.tmps:=h.same ⟨by omega,fun k hk=>old k (h.inv.imlt k hk),fun k y hk=>old _ (h.inv.lt k y hk)⟩;have r2:=r1.freeze (fun k=>G.im k\/k=w.heap.size) (fun _ hk=>.inl hk) (fun k hk=>by
    rcases hk with hk|rfl
    . exact r1.inv.imlt k hk
    . omega) (fun k y hk _ hi=>by
    rcases hi with hi|hi
    . exact hi
    . have:=h.inv.lt k y hk;omega)
   have out:Out w (Lib.bytesWorld w el b):=⟨rfl,rfl⟩
   have hg:Gain G w { G with im:=fun k=>G.im k\/k=w.heap.size } (Lib.bytesWorld w el b):=
    ⟨by omega,fun _ hk=>.inl hk,fun k hk=>old k (h.inv.imlt k hk),fun k hk _=>⟨old k hk,fun hi=>by
     rcases hi with hi|hi
     . exact hi
     . omega⟩,fun k y hk=>.inl ⟨k,y,hk,rfl⟩,fun _=>rfl,out,fun _ hd=>⟨hd,rfl⟩⟩
   have hlen:(yH b).length=b.size:=by unfold yH;rw[List.length_map,Array.length_toList];rfl
   have ri:RelI (fun k=>G.im k\/k=w.heap.size) (Lib.bytesWorld w el b) (.imm (yH b)) (.slice (some ⟨w.heap.size,0,none⟩) b.size (grownCap w b.size 0 el)):=by
    have hcap:b.size<=grownCap w b.size 0 el:=grownCap_ge w b.size 0 el;have hat:∀ r o c,cellAt (yH b) r o=some c->∃ y,b.data.toList[r]? = some y/\o=0/\c=.val (.int .u8 y.toNat):=by
     intro r o c hc;obtain⟨row,k1,k2⟩:=qc.1 hc;simp only[yH,aI]at k1;cases hy:b.data.toList[r]? with
     |none=>simp[hy]at k1
     |some y=>
      simp only[hy,av,aa]at k1;subst k1;cases o with
      |zero=>simp at k2;exact⟨y,rfl,rfl,k2.symm⟩
      |succ o=>simp at k2
    have:=RelI.imm (im:=fun k=>G.im k\/k=w.heap.size) (w:=Lib.bytesWorld w el b) (yH b) w.heap.size 0 (grownCap w b.size 0 el) 1 (Lib.bytesCells w el b) el
     ((Lib.bytesCells w el b).size,(Lib.bytesCells w el b).size+1) (fun r _=>.int .u8 ((b.data.toList.getD r 0).toNat)) (Lib.bytesWorld_at_new w el b) (.inr rfl) (by rw[hlen];exact hcap)
     (fun row hr=>by simp only[yH,List.mem_map]at hr;obtain⟨y,_,rfl⟩:=hr;rfl)
     (fun r o c hc=>by
      obtain⟨y,hy,rfl,rfl⟩:=hat r o c hc;have hr:r<b.data.size:=by have:=(az.1 hy).1;simpa using this
      have hr2:r<b.size:=hr;have e2:b.data.toList.getD r 0=y:=by simp[List.getD,hy]
      rw[e2];unfold Lib.bytesCells;rw[Array.getElem?_append_left (by simp;omega)];rw[aR]at hy;simp[hy])
     (fun r o c hc=>by
      obtain⟨y,hy,rfl,rfl⟩:=hat r o c hc;have e2:b.data.toList.getD r 0=y:=by simp[List.getD,hy]
      rw[e2];exact .val _ rfl)
    rw[hlen]at this;exact this
   have hrv:RelV { G with im:=fun k=>G.im k\/k=w.heap.size } (Lib.bytesWorld w el b) (.c (.imm (yH b))) (.slice (some ⟨w.heap.size,0,none⟩) b.size (grownCap w b.size 0 el)):=RelV.c (.inr ⟨⟨by intros;simp,by intros;simp⟩,fun _=>ri⟩);exact⟨_,_,_,_,run,.inl rfl,putO r2 hrv,hg⟩
  . cases e
 . cases e
end
section
variable [Glob]
theorem qgi {cx G w F F' a o}(h:RelF G w F a.tmps)(e:loud cx F o=some F'):Ran cx G w a o F':=by
 cases ho:o.op with
 |assign x=>exact qdp ho h e
 |alloc t=>exact qeI ho h e
 |box t x=>exact qhH ho h e
 |store t y x=>exact qeW ho h e
 |build t parts=>exact qet ho h e
 |buildSlice t n parts=>exact qas ho h e
 |makeSlice t x y=>exact qby ho h e
 |convert s t x=>exact qge ho h e
 |makeMap t r=>
  cases r with
  |none=>exact qcE ho h e
  |some r=>simp[loud,ho]at e
 |mapUpdate t m k x=>exact Yn (.inl ho) h e
 |insert t m k x=>exact Yn (.inr ho) h e
 |slice t x lo hi mx=>
  cases mx with
  |none=>exact qem ho h e
  |some r=>simp[loud,ho]at e
 |call c=>
  obtain⟨callee,args,argTypes⟩:=c;cases callee with
  |builtin b=>
   cases b with
   |append=>exact qdu ho h e
   |_=>simp[loud,ho]at e
  |_=>simp[loud,ho]at e
 |_=>simp[loud,ho]at e
end
section
variable [Glob]
def qcJ (G:Gh)(w:World)(F:Fr):Option Pl->Cell->Value->Prop
 |none,c,v=>Seen c/\(∀ q,c≠.ref q)/\(∀ q,c≠.ptr q)/\(∀ f a b,c≠.clo f a b)/\(c=.dead/\oneC v=true\/∀ p,Sh G w p c v)
 |some s,c,v=>¬ Seen c/\Sh G w s c v/\Tree G w s c/\∀ π,¬ Uses F (s.under π)
theorem qcJ.still {G w F c v}(h:qcJ G w F none c v)(K Y)(p):c=.dead\/Sh (G.mv K Y) w p c v:=by
 obtain⟨h1,h3,h4,h5,h6⟩:=h;rcases h6 with⟨h6,_⟩|h6
 . exact .inl h6
 right;have hs:=h6 p;cases c with
 |own zz rows=>exact absurd rfl (h1.1 _ rows)
 |mp es=>exact absurd rfl (h1.2 es)
 |ref q=>exact absurd rfl (h3 q)
 |ptr q=>exact absurd rfl (h4 q)
 |clo f fs cs=>exact absurd rfl (h5 f fs cs)
 |_=>exact hs
theorem qbR {G w F ts}(h:RelF G w F ts){d v V}(X)(hs:QO v.tag (v.rows.map List.length) V)(hc:∀ r o c,cellAt v.rows r o=some c->∃ u,qX v.tag V r o=some u/\∃ x,X r o=some x/\qcJ G w F x c u)(hinj:Inj (zg v.rows X)):
  ∃ G',RelF G' w (F.putS (some d) v) (ts.setIfInBounds d V)/\Gain G w G' w:=by
 unfold Fr.putS;simp only;by_cases ha:(v.rows.any (·.any qy))=true
 .
  rw[aF ha];have h1:=h.mapC (qP (.slot d))
  let vd:AV:=⟨v.tag,v.rows.map (·.map fun _=>.dead)⟩
  have vdc:∀ r o c,cellAt vd.rows r o=some c->c=.dead/\∃ c0,cellAt v.rows r o=some c0:=fun r o c e=>by obtain⟨c0,hc0,e⟩:=zH e;exact⟨e,c0,hc0⟩
  have h2:RelF G w ((F.killR (.slot d)).put (some d) vd) (ts.setIfInBounds d V):=by
   refine h1.put_flat ⟨by rw[Zn];exact hs,fun r o c e=>?_⟩ (fun r o c zz rs e=>by rw[(vdc r o c e).1];simp)
   obtain⟨rfl,c0,hc0⟩:=vdc r o c e;obtain⟨u,hu,_⟩:=hc r o c0 hc0;exact⟨u,hu,.inl rfl⟩
  have hsrc:∀ r o s,zg v.rows X r o=some (some s)->∃ c u,cellAt v.rows r o=some c/\qX v.tag V r o=some u/\qcJ G w F (some s) c u:=by
   intro r o s e;unfold zg at e;cases hcell:cellAt v.rows r o with
   |none=>simp[hcell]at e
   |some c=>
    simp only[hcell]at e;split at e
    . rename_i ho;obtain⟨u,hu,x,hx,hh⟩:=hc r o c hcell;rw[hx]at e;cases e;exact⟨c,u,rfl,hu,hh⟩
    . cases e
  have fre:∀ π,π≠[]->¬ Uses ((F.killR (.slot d)).put (some d) vd) ⟨.slot d,π⟩:=fun π hπ=>vQ h hπ (fun r o c zz rs es e=>by rw[(vdc r o c e).1];simp) (fun r o c e k hk=>by rw[(vdc r o c e).1]at hk;simp[deps]at hk);have h3:=h2.mv ⟨.slot d,[]⟩ hinj (fun r o π _=>fre _ (by simp)) (fun r o s π e hu=>by obtain⟨c,u,_,_,hh⟩:=hsrc r o s e;have hu1:=Uses.put (fun r o c zz rs e=>by rw[(vdc r o c e).1];simp) (fun r o c e=>by rw[(vdc r o c e).1];simp[deps]) hu;exact hh.2.2.2 π ((Weak.mapC (qP (.slot d)) F).uses hu1));have qwI:∀ r o c,cellAt v.rows r o=some c->∃ u,qX v.tag V r o=some u/\(c=.dead\/Sh (G.mv ⟨.slot d,[]⟩ (zg v.rows X)) w ⟨⟨.slot d,[]⟩,r,o⟩ c u):=by
   intro r o c e;obtain⟨u,hu,x,hx,hh⟩:=hc r o c e;refine⟨u,hu,?_⟩;cases x with
   |none=>exact hh.still _ _ _
   |some s=>
    right;have hsr:zg v.rows X r o=some (some s):=by
     unfold zg;simp only[e];rw[aF,hx];cases hoc:qy c with
     |true=>rfl
     |false=>exact absurd (qvc.2 hoc) hh.1
    exact hh.2.1.mv hsr hh.1
  refine⟨_,?_,Gain.mv ⟨.slot d,[]⟩ (zg v.rows X)⟩;have h4:=h3.put (d:=d) (v:=v) (V:=V) ⟨hs,qwI⟩ (fun π rows hπ e=>?_)
  . rw[qc9]at h4;simpa using h4
  .
   cases π with
   |nil=>exact absurd rfl hπ
   |cons y π=>
    obtain⟨r,o⟩:=y;simp only[getR]at e;cases hcell:cellAt v.rows r o with
    |none=>simp[hcell]at e
    |some c=>
     cases c with
     |own zz rs=>
      simp only[hcell]at e;obtain⟨u,hu,x,hx,hh⟩:=hc r o _ hcell;cases x with
      |none=>exact absurd rfl (hh.1.1 _ rs)
      |some s=>
       have hsr:zg v.rows X r o=some (some s):=by unfold zg;simp only[hcell];have:qy (.own zz rs)=true:=rfl;rw[aF this,hx]
       exact(hh.2.2.1.mv hsr) π rows e
     |_=>simp[hcell]at e
 .
  have ha':(v.rows.any (·.any qy))=false:=by simpa using ha
  rw[aG ha];refine⟨G,h.put_flat ⟨hs,fun r o c e=>?_⟩ (fun r o c zz rs e hco=>?_),Gain.refl G w⟩
  .
   obtain⟨u,hu,x,hx,hh⟩:=hc r o c e;refine⟨u,hu,?_⟩;cases x with
   |none=>
    rcases hh.2.2.2.2 with hd|hh
    . exact .inl hd.1
    . exact .inr (hh _)
   |some s=>exact absurd (qvc.2 (qea ha' e)) hh.1
  . have:=qea ha' e;rw[hco]at this;simp[qy]at this
theorem qgS {G w F F' ts p c}(h:RelF G w F ts)(hp:p.key.inHeap)(e:mvC F p=some (c,F')):
  ∃ u y vs T,G.γ p.key=some y/\w.heap[y.b]? = some (.cells vs T (0,0))/\vs[p.r*y.sz+p.o]? = some u/\RelF G w F' ts/\(∀ k,Uses F' k->Uses F k) /\
   qcJ G w F' (if qy c then some p else none) c u:=by
 unfold mvC at e;cases hg:F.get p with
 |none=>simp[hg]at e
 |some c0=>
  simp only[hg]at e;by_cases hpu:qw c0=true
  case neg=>rw[aG hpu]at e;cases e
  rw[aF hpu]at e;have hnb:∀ es,c0≠.mpb es:=by rintro es rfl;simp[qw]at hpu
  obtain⟨u,hv,hsh⟩:=h.val hg hnb;have hsh':Sh G w p c0 u:=hsh.resolve_left fun hx=>hx.2 hp;obtain⟨y,vs,T,e1,e2,e3⟩:∃ y vs T,G.γ p.key=some y/\w.heap[y.b]? = some (.cells vs T (0,0))/\vs[p.r*y.sz+p.o]? = some u:=by
   rcases hv with⟨_,y,vs,T,e1,e2,e3⟩|⟨hn,_⟩
   . exact⟨y,vs,T,e1,e2,e3⟩
   . exact absurd hp hn
  by_cases ho:qy c0=true
  .
   rw[aF ho]at e;cases hset:F.set p .dead with
   |none=>simp[hset]at e
   |some F1=>
    simp only[hset,av,aa,ai]at e;obtain⟨rfl,rfl⟩:=e;have st:=Fr.setTo hset;have r1:=h.empty st (by intro es he;rw[hg]at he;cases he;exact hnb es rfl);rw[aF ho];exact⟨u,y,vs,T,e1,e2,e3,r1.mapC (qM p),fun k hu=>st.uses rfl (fun _=>rfl) ((Weak.mapC (qM p) F1).uses hu),
     (fun hs=>by rw[qvc.1 hs]at ho;cases ho),hsh',h.tree hg,fun π=>vH r1 st.new π⟩
  .
   rw[aG ho]at e;simp only[aa,ai]at e;obtain⟨rfl,rfl⟩:=e;rw[aG ho];refine⟨u,y,vs,T,e1,e2,e3,h,fun _ h=>h,qvc.2 (by simpa using ho),?_,?_,?_,?_⟩
   . intro q hq;subst hq;simp[qw]at hpu
   . intro q hq;subst hq;simp[qw]at hpu
   . intro f a b hq;subst hq;simp[qw]at hpu
   .
    cases c0 with
    |dead=>exact .inl ⟨rfl,hsh'⟩
    |own zz rows=>simp[qy]at ho
    |mp es=>simp[qw]at hpu
    |ref q=>simp[qw]at hpu
    |ptr q=>simp[qw]at hpu
    |clo f a b=>simp[qw]at hpu
    |cptr row o=>simp[qw]at hpu
    |_=>exact .inr fun q=>hsh'
theorem qcJ.shr {G w F F'}(hs:∀ k,Uses F' k->Uses F k){x c v}(h:qcJ G w F x c v):qcJ G w F' x c v:=by
 cases x with
 |none=>exact h
 |some s=>exact⟨h.1,h.2.1,h.2.2.1,fun π hu=>h.2.2.2 π (hs _ hu)⟩
theorem qeb {G w ts K r}(hK:K.inHeap){y}(hy:G.γ K=some y):∀ (n o:Nat) (F F':Fr) (l:List Cell),RelF G w F ts->mvL F K r o n=some (l,F') ->
  ∃ us:List Value,us.length=n/\l.length=n/\RelF G w F' ts/\(∀ k,Uses F' k->Uses F k)/\(∀ (j:Nat) u,us[j]? = some u->w.cell? ⟨y.b,r*y.sz+o+j,none⟩=some u) /\
   ∀ (j:Nat) c,l[j]? = some c->∃ u,us[j]? = some u/\qcJ G w F' (if qy c then some ⟨K,r,o+j⟩else none) c u
 |0,o,F,F',l,h,e=>by simp only[mvL,aa,ai]at e;obtain⟨rfl,rfl⟩:=e;exact⟨[],rfl,rfl,h,fun _ h=>h,by simp,by simp⟩
 |n+1,o,F,F',l,h,e=>by
  simp only[mvL]at e;cases h1:mvC F ⟨K,r,o⟩with
  |none=>simp[h1]at e
  |some z=>
   obtain⟨c,F1⟩:=z;simp only[h1]at e;cases h2:mvL F1 K r (o+1) n with
   |none=>simp[h2]at e
   |some z2=>
    obtain⟨l2,F2⟩:=z2;simp only[h2,aa,ai]at e;obtain⟨rfl,rfl⟩:=e;obtain⟨u,y',vs,T,e1,e2,e3,r1,r2,r3⟩:=qgS h hK h1;have:y'=y:=by rw[hy]at e1;exact(aS e1).symm
    subst this;obtain⟨us,a1,a2,a3,a4,a5,a6⟩:=qeb hK hy n (o+1) F1 F2 l2 r1 h2;refine⟨u::us,by simp[a1],by simp[a2],a3,fun k hk=>r2 k (a4 k hk),fun j v hv=>?_,fun j c' hc=>?_⟩
    . cases j with
      |zero=>simp only[aJ,aa]at hv;subst hv;unfold World.cell?;simp only[Nat.add_zero,e2];simpa using e3
      |succ j=>have:=a5 j v (by simpa using hv);rw[show r*y'.sz+o+(j+1)=r*y'.sz+(o+1)+j by omega];exact this
    . cases j with
      |zero=>simp only[aJ,aa]at hc;subst hc;exact⟨u,rfl,r3.shr a4⟩
      |succ j=>obtain⟨u',hu',hh⟩:=a6 j c' (by simpa using hc);rw[show o+1+j=o+(j+1)by omega]at hh;exact⟨u',by simpa using hu',hh⟩
theorem qgo {cx G w F F' a o}(h:RelF G w F a.tmps)(e:mvop cx F o=some F'):Ran cx G w a o F':=by
 obtain⟨dst,op,ty,pos,after,guard⟩:=o;unfold mvop at e;split at e
 . cases e
 split at e
 .
  rename_i t x d hop hd;simp only at hop hd;subst hop;subst hd;split at e
  .
   split at e
   .
    rename_i p n g hc hn hg;split at e
    . cases e
    rename_i hheap;have hheap:p.key.heap=true/\p.isM=false:=by simpa using hheap
    obtain⟨hheap,hnm⟩:=hheap;split at e
    .
     rename_i l F1 hl;simp only[aH]at e;obtain⟨v,hv,rfl⟩:=e;obtain⟨_,hs⟩:=qp h hc (by simp);obtain⟨hok,y,hy,hm,hV⟩:=hs ⟨⟨.res,[]⟩,0,0⟩;have hym:y.isMap=false:=by
      cases hx:y.isMap with
      |false=>rfl
      |true=>rw[hm hx]at hnm;cases hnm
     rw[Hd.adr_of hym]at hV;obtain⟨us,a1,a2,a3,a4,a5,a6⟩:=qeb (qcn.1 hheap) hy n p.o F F1 l h hl;have hcell:∀ (j:Nat) u,us[j]? = some u->w.cell? ((⟨y.b,p.r*y.sz+p.o,none⟩:Addr).add j)=some u:=fun j u hu=>by rw[zb];exact a5 j u hu
     have hagg:=vK hg w
     let X:Nat->Nat->Option (Option Pl):=fun r j=>match cellAt [l] r j with
      |some c=>some (if qy c then some ⟨p.key,p.r,p.o+j⟩else none)
      |none=>none
     have hX:∀ r j c,cellAt [l] r j=some c->r=0/\l[j]? = some c/\X r j=some (if qy c then some ⟨p.key,p.r,p.o+j⟩else none):=fun r j c hcj=>by obtain⟨rfl,hj⟩:=zI hcj;exact⟨rfl,hj,by simp only[X,hcj]⟩
     have hinj:∀ {v:AV},v.rows=[l]->Inj (zg v.rows X):=by
      intro v hv r o r' o' x x' π π' h1 h2 he;rw[hv]at h1 h2;have key:∀ r o x,zg [l] X r o=some (some x)->r=0/\x=⟨p.key,p.r,p.o+o⟩:=by
       intro r o x hx;unfold zg at hx;cases hcc:cellAt [l] r o with
       |none=>simp[hcc]at hx
       |some c=>
        simp only[hcc]at hx;split at hx
        . rename_i hoc;obtain⟨q1,q2,q3⟩:=hX r o c hcc;rw[q3,aF hoc]at hx;cases hx;exact⟨q1,rfl⟩
        . cases hx
      obtain⟨rfl,rfl⟩:=key _ _ _ h1;obtain⟨rfl,rfl⟩:=key _ _ _ h2;simp only[Pl.under,Key.mk.injEq,true_and,List.append_cancel_left_eq,List.cons.injEq,ai]at he;exact⟨rfl,by omega,he.2⟩
     unfold mkAV at hv;cases g with
     |true=>simp only[if_true,aa]at hv;subst hv;obtain⟨G',b1,b2⟩:=qbR (d:=d) (v:=.ag l) (V:=.agg us.toArray) a3 X ⟨us.toArray,rfl,by simp[AV.ag,a1,a2]⟩ (fun r o c hcc=>by obtain⟨rfl,hj,hx⟩:=hX r o c hcc;obtain⟨u,hu,hh⟩:=a6 o c hj;exact⟨u,by simpa [qX,AV.ag]using hu,_,hx,hh⟩) (hinj rfl);refine⟨_,.agg us.toArray,G',w,?_,.inl rfl,b1,b2⟩;have hlc:=run_loadCells_list (P:=cx.P) w _ us hcell;rw[a1]at hlc;simp only[execOp,Instr.loadAt,Instr.sureAddr,hV,pure_bind,aL,loadVar,hagg,ay,if_true,qK hn,hlc,aV]
     |false=>
      simp only[aU,if_false]at hv;split at hv
      .
       rename_i c;simp only[aa]at hv;subst hv;obtain⟨u,rfl⟩:∃ u,us=[u]:=by
        simp only[List.length_singleton]at a2;cases us with
        |nil=>simp at a1;omega
        |cons u us=>
         cases us with
         |nil=>exact⟨u,rfl⟩
         |cons _ _=>simp at a1;omega
       obtain⟨G',b1,b2⟩:=qbR (d:=d) (v:=.c c) (V:=u) a3 X trivial (fun r o c' hcc=>by
        obtain⟨rfl,hj,hx⟩:=hX r o c' hcc;obtain⟨u',hu,hh⟩:=a6 o c' hj;cases o with
        |zero=>exact⟨u',by simpa [qX,AV.c]using hu,_,hx,hh⟩
        |succ o=>simp at hj) (hinj rfl)
       refine⟨_,u,G',w,?_,.inl rfl,b1,b2⟩;have h0:=hcell 0 u rfl;have:(⟨y.b,p.r*y.sz+p.o,none⟩:Addr).add 0=⟨y.b,p.r*y.sz+p.o,none⟩:=by simp[Addr.add]
       rw[this]at h0;simp only[execOp,Instr.loadAt,Instr.sureAddr,hV,pure_bind,aL,loadVar,hagg,ay,aU,if_false,run_load,h0,aV]
      . cases hv
    . cases e
   . cases e
  . cases e
 . cases e
end
section
variable [Glob]
def RenP (W:Root->Option Root)(q1 q:Pl):Prop:=W q.key.root=some q1.key.root/\q.key.path=q1.key.path/\q.r=q1.r/\q.o=q1.o
def RenX (W:Root->Option Root):Cell->Cell->Prop
 |.ptr q1,.ptr q=>RenP W q1 q
 |.val u,.val v=>u=v
 |.ptr _,_=>False
 |.val _,_=>False
 |a,b=>a=b
def qev (W:Root->Option Root):List Cell->List Cell->Prop
 |[],[]=>True
 |a::l,b::m=>RenX W a b/\qev W l m
 |_,_=>False
def RenC (W:Root->Option Root):Cell->Cell->Prop
 |.ptr q1,.ptr q=>RenP W q1 q
 |.ref q1,.ref q=>RenP W q1 q
 |.clo f fs cs,.clo g fs' cs'=>f=g/\qev W fs fs'/\qev W cs cs'
 |.val u,.val v=>u=v
 |.nil,.nil=>True
 |.imm a,.imm b=>a=b
 |.own z a,.own z' b=>z=z'/\a=b
 |.mp a,.mp b=>a=b
 |.mpb a,.mpb b=>a=b
 |.cptr a o,.cptr b o'=>a=b/\o=o'
 |_,_=>False
def yS (W:Root->Option Root)(a b:List (List Cell)):Prop:=a.map List.length=b.map List.length /\
 (∀ r o c,cellAt b r o=some c->∃ c1,cellAt a r o=some c1/\(c=.dead\/RenC W c1 c))/\∀ r o es,cellAt a r o=some (.mpb es)->cellAt b r o=some (.mpb es)
def qeH (W:Root->Option Root)(q:Pl):Prop:=W q.key.root=none\/(q.key.path=[]/\q.key.root.boxed=true)
def qdX (W:Root->Option Root):Cell->Prop
 |.ptr q=>qeH W q
 |.ref q=>W q.key.root=none
 |.clo _ fs cs=>∀ q,.ptr q∈fs++cs->qeH W q
 |_=>True
def yJ (W:Root->Option Root)(a b:List (List Cell)):Prop:=a.map List.length=b.map List.length /\
 (∀ r o c,cellAt b r o=some c->∃ c1,cellAt a r o=some c1/\(c=.dead\/(c=c1/\qdX W c)))/\∀ r o es,cellAt a r o=some (.mpb es)->cellAt b r o=some (.mpb es)
structure Spliced (W:Root->Option Root) (F1 F2 F:Fr) (ts1 ts2 ts:Array Value):Prop where
 len:F.slots.length=ts.size
 slot:∀ k v,F.slots[k]? = some v->∃ V,ts[k]? = some V /\
  ((∃ k1 v1,W (.slot k)=some (.slot k1)/\F1.slots[k1]? = some v1/\ts1[k1]? = some V/\v.tag=v1.tag/\yS W v1.rows v.rows) \/
  (W (.slot k)=none/\∃ v2,F2.slots[k]? = some v2/\ts2[k]? = some V/\v.tag=v2.tag/\yJ W v2.rows v.rows)\/v=.deadv)
 box:∀ r l,F.boxes.lookup r=some l ->
  (∃ r1 l1,W r=some r1/\F1.boxes.lookup r1=some l1/\yS W [l1] [l])\/(W r=none/\∃ l2,F2.boxes.lookup r=some l2/\yJ W [l2] [l])
structure Part (W:Root->Option Root) (G2 GR G1:Gh) (w w':World) (F2 F:Fr):Prop where
 gain:Gain GR w G1 w'
 inj:∀ r r' a,W r=some a->W r'=some a->r=r'
 bx:∀ r a,W r=some a->r.boxed=a.boxed
 im:GR.im=G2.im
 src:∀ k1 h,GR.γ k1=some h->∃ k,G2.γ k=some h/\((W k.root).isSome=true\/(k.path≠[]/\¬ Uses F2 k))
 par:∀ i a,W (.par i)=some a->G1.γ ⟨a,[]⟩=G2.γ ⟨.par i,[]⟩
 loc:∀ d a,W (.loc d)=some a->G2.lv d->G1.γ ⟨a,[]⟩=G2.γ ⟨.loc d,[]⟩/\G1.ok a
 comp:∀ d a,W (.loc d)=some a->G1.ok a->(F.boxes.lookup (.loc d)).isSome=true
 rest:∀ d,W (.loc d)=none->G2.lv d->(F.boxes.lookup (.loc d)).isSome=true
open Classical in
noncomputable def Gh.splice (W:Root->Option Root)(G2 G1:Gh)(F2:Fr):Gh where
 γ k:=match W k.root with
  |some a=>G1.γ ⟨a,k.path⟩
  |none=>if k.path=[]\/Uses F2 k then G2.γ k else none
 im:=G1.im
 lv d:=match W (.loc d)with
  |some a=>G1.ok a
  |none=>G2.lv d
theorem zh {W G2 G1 F2 k a}(h:W k.root=some a):(Gh.splice W G2 G1 F2).γ k=G1.γ ⟨a,k.path⟩:=by simp only[Gh.splice,h]
theorem zQ {W G2 G1 F2 k}(h:W k.root=none)(hk:k.path=[]\/Uses F2 k):(Gh.splice W G2 G1 F2).γ k=G2.γ k:=by simp only[Gh.splice,h,aF hk]
theorem vM {W G2 G1 F2 k x}(e:(Gh.splice W G2 G1 F2).γ k=some x):
  (∃ a,W k.root=some a/\G1.γ ⟨a,k.path⟩=some x)\/(W k.root=none/\(k.path=[]\/Uses F2 k)/\G2.γ k=some x):=by
 cases hw:W k.root with
 |some a=>exact .inl ⟨a,rfl,by rw[zh hw]at e;exact e⟩
 |none=>
  simp only[Gh.splice,hw]at e;split at e
  . rename_i hc;exact .inr ⟨rfl,hc,e⟩
  . cases e
section
variable {W:Root->Option Root} {G2 GR G1:Gh} {w w':World} {F1 F2 F:Fr} {ts1 ts2 ts:Array Value}
theorem Part.apart (hp:Part W G2 GR G1 w w' F2 F)(h2:GInv G2 w){k x}(hw:W k.root=none)(hk:k.path=[]\/Uses F2 k)(e:G2.γ k=some x):
  ∀ k1 y,GR.γ k1=some y->y.b≠x.b:=by
 intro k1 y e1 hb;obtain⟨k',e',hc⟩:=hp.src _ _ e1;have:k'=k:=h2.inj _ _ _ _ e' e hb;subst this;rcases hc with hc|⟨h1,h3⟩
 . rw[hw]at hc;cases hc
 .
  rcases hk with hk|hk
  . exact h1 hk
  . exact h3 hk
theorem Part.heap (hp:Part W G2 GR G1 w w' F2 F)(h2:GInv G2 w){k x}(hw:W k.root=none)(hk:k.path=[]\/Uses F2 k)(e:G2.γ k=some x):
  w'.heap[x.b]? = w.heap[x.b]?/\(G1.im x.b->G2.im x.b):=by
 have:=hp.gain.rest x.b (h2.lt _ _ e) (hp.apart h2 hw hk e);exact⟨this.1,fun h=>by rw[<- hp.im];exact this.2 h⟩
theorem qep (hp:Part W G2 GR G1 w w' F2 F)(h2:GInv G2 w)(h1:GInv G1 w'):GInv (Gh.splice W G2 G1 F2) w' where
 inj k k' x x' e e' hb:=by
  have mix:∀ {k k':Key} {x x':Hd} {a:Root},W k.root=some a->G1.γ ⟨a,k.path⟩=some x->W k'.root=none->(k'.path=[]\/Uses F2 k')->G2.γ k'=some x'->x.b=x'.b->False:=by
   intro k k' x x' a ha e hn hu e' hb;rcases hp.gain.own _ _ e with⟨k0,x0,e0,hb0⟩|hge
   . exact hp.apart h2 hn hu e' _ _ e0 (hb0.trans hb)
   . have:=h2.lt _ _ e';omega
  rcases vM e with⟨a,ha,e⟩|⟨hn,hu,e⟩
  . rcases vM e' with⟨a',ha',e'⟩|⟨hn',hu',e'⟩
    . have:=h1.inj _ _ _ _ e e' hb;simp only[Key.mk.injEq]at this;obtain⟨rfl,hπ⟩:=this;have:=hp.inj _ _ _ ha ha';cases k;cases k';simp_all
    . exact(mix ha e hn' hu' e' hb).elim
  . rcases vM e' with⟨a',ha',e'⟩|⟨hn',hu',e'⟩
    . exact(mix ha' e' hn hu e hb.symm).elim
    . exact h2.inj _ _ _ _ e e' hb
 lt k x e:=by
  rcases vM e with⟨a,ha,e⟩|⟨hn,hu,e⟩
  . exact h1.lt _ _ e
  . exact Nat.lt_of_lt_of_le (h2.lt _ _ e) hp.gain.size
 imlt b h:=h1.imlt b h
 glob b h:=h1.glob b h
theorem qb1 (hp:Part W G2 GR G1 w w' F2 F){d}(hd:G2.lv d):(Gh.splice W G2 G1 F2).lv d/\(Gh.splice W G2 G1 F2).γ ⟨.loc d,[]⟩=G2.γ ⟨.loc d,[]⟩:=by
 cases hw:W (.loc d)with
 |some a=>obtain⟨e1,e2⟩:=hp.loc d a hw hd;refine⟨?_,by rw[zh hw];exact e1⟩;simp only[Gh.splice,hw];exact e2
 |none=>refine⟨?_,zQ hw (.inl rfl)⟩;simp only[Gh.splice,hw];exact hd
theorem qeE (hp:Part W G2 GR G1 w w' F2 F):Gain G2 w (Gh.splice W G2 G1 F2) w' where
 out:=hp.gain.out
 size:=hp.gain.size
 im b h:=hp.gain.im b (by rw[hp.im];exact h)
 keep b h:=hp.gain.keep b (by rw[hp.im];exact h)
 rest b hb hn:=by
  have:=hp.gain.rest b hb fun k1 h1 e1=>by obtain⟨k,e,_⟩:=hp.src _ _ e1;exact hn _ _ e
  exact⟨this.1,fun h=>by rw[<- hp.im];exact this.2 h⟩
 own k x e:=by
  rcases vM e with⟨a,ha,e⟩|⟨hn,hu,e⟩
  . rcases hp.gain.own _ _ e with⟨k0,x0,e0,hb0⟩|hge
    . obtain⟨k',e',_⟩:=hp.src _ _ e0;exact .inl ⟨k',x0,e',hb0⟩
    . exact .inr hge
  . exact .inl ⟨k,x,e,rfl⟩
 par i:=by
  cases hw:W (.par i)with
  |some a=>rw[zh hw];exact hp.par i a hw
  |none=>exact zQ hw (.inl rfl)
 loc d hd:=qb1 hp hd
theorem XW {r a}(hw:W r=some a)(hb:r.boxed=a.boxed)(h:G1.ok a):(Gh.splice W G2 G1 F2).ok r:=by
 cases r with
 |loc d=>show(Gh.splice W G2 G1 F2).lv d;simp only[Gh.splice,hw];exact h
 |_=>trivial
theorem Qy {r}(hw:W r=none)(h:G2.ok r):(Gh.splice W G2 G1 F2).ok r:=by
 cases r with
 |loc d=>show(Gh.splice W G2 G1 F2).lv d;simp only[Gh.splice,hw];exact h
 |_=>trivial
theorem qY.ren (hp:Part W G2 GR G1 w w' F2 F):∀ {l m:List Cell} {vs:List Value},qev W l m->qY G1 l vs->qY (Gh.splice W G2 G1 F2) m vs
 |[],[],vs,_,h=>by cases vs<;>exact h
 |a::l,b::m,[],_,h=>h.elim
 |a::l,b::m,v::vs,⟨h1,h2⟩,⟨h3,h4⟩=>by
  refine⟨?_,qY.ren hp h2 h4⟩;cases a with
  |ptr q1=>
   cases b with
   |ptr q=>obtain⟨e1,e2,e3,e4⟩:=h1;obtain⟨f0,f1,x,f2,f3,f4⟩:=h3;refine⟨XW e1 (hp.bx _ _ e1) f0,by rw[e2];exact f1,x,?_,f3,by rw[e3,e4];exact f4⟩;rw[zh e1,e2];exact f2
   |_=>exact h1.elim
  |val u=>
   cases b with
   |val v'=>cases h1;exact h3
   |_=>exact h1.elim
  |_=>exact h3.elim
 |[],_::_,_,h,_=>h.elim
 |_::_,[],_,h,_=>h.elim
theorem Sh.ren (hp:Part W G2 GR G1 w w' F2 F){k a}(ha:W k.root=some a){r o c1 c u}(hr:RenC W c1 c)(h:Sh G1 w' ⟨⟨a,k.path⟩,r,o⟩ c1 u):Sh (Gh.splice W G2 G1 F2) w' ⟨k,r,o⟩ c u:=by
 have key:(Gh.splice W G2 G1 F2).γ (⟨k,r,o⟩:Pl).toKey=G1.γ (⟨⟨a,k.path⟩,r,o⟩:Pl).toKey:=zh (by exact ha);cases c1 with
 |val u'=>
  cases c with
  |val v'=>cases hr;exact h
  |_=>exact hr.elim
 |nil=>
  cases c with
  |nil=>exact h
  |_=>exact hr.elim
 |imm rows=>
  cases c with
  |imm b=>cases hr;exact h
  |_=>exact hr.elim
 |own zz rows=>
  cases c with
  |own zz' rows'=>obtain⟨rfl,rfl⟩:=hr;unfold Sh;rw[key];exact h
  |_=>exact hr.elim
 |mp es=>
  cases c with
  |mp es'=>cases hr;obtain⟨x,ents,clock,e1,e2,e3,e4⟩:=h;exact⟨x,ents,clock,by rw[key];exact e1,e2,e3,e4⟩
  |_=>exact hr.elim
 |ptr q1=>
  cases c with
  |ptr q=>obtain⟨e1,e2,e3,e4⟩:=hr;obtain⟨f0,x,f2,f3,f4⟩:=h;refine⟨XW e1 (hp.bx _ _ e1) f0,x,?_,fun hb=>by rw[qAB e2 e3];exact f3 hb,by rw[e3,e4];exact f4⟩;rw[zh e1,e2];exact f2
  |_=>exact hr.elim
 |mpb es=>exact h.elim
 |cptr row o'=>
  cases c with
  |cptr row' o''=>obtain⟨rfl,rfl⟩:=hr;exact h
  |_=>exact hr.elim
 |ref q1=>
  cases c with
  |ref q=>
   obtain⟨e1,e2,e3,e4⟩:=hr;refine⟨XW e1 (hp.bx _ _ e1) h.1,?_⟩;have:q.toKey=⟨q.key.root,q1.toKey.path⟩:=by simp[Pl.toKey,e2,e3,e4]
   rw[this,zh (k:=⟨q.key.root,q1.toKey.path⟩) e1];exact h.2
  |_=>exact hr.elim
 |clo f fs cs=>
  cases c with
  |clo g fs' cs'=>obtain⟨rfl,h1,h2⟩:=hr;obtain⟨vs,us,e1,e2,e3⟩:=h;exact⟨vs,us,e1,e2.ren hp h1,e3.ren hp h2⟩
  |_=>exact hr.elim
 |dead=>cases c<;>exact hr.elim
theorem qb5 (hp:Part W G2 GR G1 w w' F2 F){q}(hg:qeH W q)(ho:G2.ok q.key.root)(hu:Uses F2 q.key):
  (Gh.splice W G2 G1 F2).ok q.key.root/\(Gh.splice W G2 G1 F2).γ q.key=G2.γ q.key:=by
 cases hw:W q.key.root with
 |none=>exact⟨Qy hw ho,zQ hw (.inr hu)⟩
 |some a=>
  rcases hg with hg|⟨h1,h2⟩
  . rw[hw]at hg;cases hg
  .
   obtain⟨⟨r,π⟩,i,j⟩:=q;simp only at *;subst h1;cases r with
   |slot k=>cases h2
   |res=>cases h2
   |par i=>exact⟨trivial,by rw[zh hw];exact hp.par i a hw⟩
   |loc d=>exact qb1 hp ho
theorem qY.keep (hp:Part W G2 GR G1 w w' F2 F):∀ {l:List Cell} {vs:List Value},(∀ q,.ptr q∈l->qeH W q/\Uses F2 q.key)->qY G2 l vs->qY (Gh.splice W G2 G1 F2) l vs
 |[],vs,_,h=>by cases vs<;>exact h
 |a::l,[],_,h=>h.elim
 |a::l,v::vs,hq,⟨h3,h4⟩=>by
  refine⟨?_,qY.keep hp (fun q hm=>hq q (aB _ hm)) h4⟩;cases a with
  |ptr q=>obtain⟨f0,f1,x,f2,f3,f4⟩:=h3;obtain⟨g1,g2⟩:=hq q au;obtain⟨k1,k2⟩:=qb5 hp g1 f0 g2;exact⟨k1,f1,x,by rw[k2];exact f2,f3,f4⟩
  |val u=>exact h3
  |_=>exact h3.elim
theorem Sh.keep (hp:Part W G2 GR G1 w w' F2 F)(h2:GInv G2 w){p}(hw:W p.key.root=none){c u}(hu:∀ k∈deps p c,Uses F2 k)(hg:qdX W c)(h:Sh G2 w p c u):Sh (Gh.splice W G2 G1 F2) w' p c u:=by
 have him:∀ b,G2.im b->G1.im b:=fun b h=>hp.gain.im b (by rw[hp.im];exact h);have hkeep:∀ b,G2.im b->w'.heap[b]? = w.heap[b]?:=fun b h=>hp.gain.keep b (by rw[hp.im];exact h);cases c with
 |val v=>exact h
 |nil=>exact h
 |imm rows=>exact RelI.mono him hkeep h
 |own zz rows=>unfold Sh;rw[zQ (k:=p.toKey) hw (.inr (hu _ (by simp[deps])))];exact h
 |mp es=>obtain⟨x,ents,clock,e1,e2,e3,e4,e5,e6⟩:=h;have huse:=hu p.toKey (by simp[deps]);obtain⟨g1,g2⟩:=hp.heap h2 (k:=p.toKey) hw (.inr huse) e1;exact⟨x,ents,clock,by rw[zQ (k:=p.toKey) hw (.inr huse)];exact e1,e2,e3,fun hi=>e4 (g2 hi),by rw[g1];exact e5,e6.mono him hkeep⟩
 |ptr q=>obtain⟨e0,x,e1,e2,e3⟩:=h;obtain⟨k1,k2⟩:=qb5 hp hg e0 (hu q.key (by simp[deps]));exact⟨k1,x,by rw[k2];exact e1,e2,e3⟩
 |mpb es=>exact h.elim
 |cptr row o=>obtain⟨b,base,vs,T,fr,e1,e2,e3,e4⟩:=h;exact⟨b,base,vs,T,fr,him _ e1,e2,by rw[hkeep _ e1];exact e3,fun j c e=>let ⟨u,hu,hr⟩:=e4 j c e;⟨u,hu,hr.mono him hkeep⟩⟩
 |ref q=>exact⟨Qy hg h.1,by rw[zQ (k:=q.toKey) hg (.inr (hu _ (by simp[deps])))];exact h.2⟩
 |clo f fs cs=>
  obtain⟨vs,us,e1,e2,e3⟩:=h;have hm:∀ q,.ptr q∈fs++cs->qeH W q/\Uses F2 q.key:=fun q hq=>⟨hg q hq,hu _ (by simp only[deps,List.mem_filterMap];exact⟨.ptr q,hq,rfl⟩)⟩
  exact⟨vs,us,e1,e2.keep hp (fun q hq=>hm q (aM _ hq)),e3.keep hp (fun q hq=>hm q (aT _ hq))⟩
 |dead=>exact h
theorem yS.getR {a b}(h:yS W a b){x π rows}(e:Ab.getR b (x::π)=some rows):
  Ab.getR a (x::π)=some rows:=by
 obtain⟨r,o⟩:=x;simp only[Ab.getR]at *;cases hb:cellAt b r o with
 |none=>simp[hb]at e
 |some c=>
  rw[hb]at e;obtain⟨c1,h1,h2⟩:=h.2.1 r o c hb;rw[h1];cases c with
  |own z rs=>
   rcases h2 with h2|h2
   . cases h2
   . cases c1 with
     |own z' rs'=>obtain⟨_,rfl⟩:=h2;exact e
     |_=>exact h2.elim
  |_=>simp at e
theorem yJ.getR {a b}(h:yJ W a b){x π rows}(e:Ab.getR b (x::π)=some rows):
  Ab.getR a (x::π)=some rows:=by
 obtain⟨r,o⟩:=x;simp only[Ab.getR]at *;cases hb:cellAt b r o with
 |none=>simp[hb]at e
 |some c=>
  rw[hb]at e;obtain⟨c1,h1,h2⟩:=h.2.1 r o c hb;rw[h1];cases c with
  |own z rs=>
   rcases h2 with h2|⟨h2,_⟩
   . cases h2
   . subst h2;exact e
  |_=>simp at e
theorem yS.pure {rows}(h:∀ r o c,cellAt rows r o=some c->qw c=true):yS W rows rows:=⟨rfl,fun r o c e=>⟨c,e,by have:=h r o c e;cases c<;>simp_all[qw,RenC]⟩,fun _ _ _ e=>e⟩
theorem yJ.pure {rows}(h:∀ r o c,cellAt rows r o=some c->qw c=true):yJ W rows rows:=⟨rfl,fun r o c e=>⟨c,e,.inr ⟨rfl,by have:=h r o c e;cases c<;>simp_all[qw,qdX]⟩⟩,fun _ _ _ e=>e⟩
theorem qeo (h2:RelF G2 w F2 ts2)(h1:RelF G1 w' F1 ts1)(sp:Spliced W F1 F2 F ts1 ts2 ts){k rows}(e:F.rowsAt k=some rows)(hi:k.inHeap):
  (∃ a rows1,W k.root=some a/\F1.rowsAt ⟨a,k.path⟩=some rows1/\yS W rows1 rows/\(⟨a,k.path⟩:Key).inHeap)\/(W k.root=none/\∃ rows2,F2.rowsAt k=some rows2/\yJ W rows2 rows):=by
 obtain⟨r,π⟩:=k;have p1:∀ {k:Key} {rows:List (List Cell)},k.path≠[]->F1.rowsAt k=some rows->yS W rows rows:=fun hk e=>.pure fun r o c hc=>(h1.cont _ _ e (.inl hk)).pure hk hc;have p2:∀ {k:Key} {rows:List (List Cell)},k.path≠[]->F2.rowsAt k=some rows->yJ W rows rows:=fun hk e=>.pure fun r o c hc=>(h2.cont _ _ e (.inl hk)).pure hk hc;by_cases hs:∃ j,r=.slot j
 .
  obtain⟨j,rfl⟩:=hs;have hπ:π≠[]:=by
   rcases hi with hi|hi
   . exact hi
   . simp[Root.boxed]at hi
  cases π with
  |nil=>exact absurd rfl hπ
  |cons x π=>
   unfold Fr.rowsAt at e;simp only[Fr.rows]at e;cases hj:F.slots[j]? with
   |none=>simp[hj]at e
   |some v=>
    simp only[hj,av,ae]at e;obtain⟨V,_,hc⟩:=sp.slot j v hj;rcases hc with⟨k1,v1,c1,c2,c3,c4,c5⟩|⟨c1,v2,c2,c3,c4,c5⟩|rfl
    . have e1:F1.rowsAt ⟨.slot k1,x::π⟩=some rows:=by simp only[Fr.rowsAt,Fr.rows,c2,av,ae];exact c5.getR e
      exact .inl ⟨_,rows,c1,e1,p1 (by simp) e1,.inl (by simp)⟩
    . have e1:F2.rowsAt ⟨.slot j,x::π⟩=some rows:=by simp only[Fr.rowsAt,Fr.rows,c2,av,ae];exact c5.getR e
      exact .inr ⟨c1,rows,e1,p2 (by simp) e1⟩
    . rw[qbT (by simp)]at e;cases e
 .
  have hs':∀ k,r≠.slot k:=fun k e=>hs ⟨k,e⟩;unfold Fr.rowsAt at e;simp only at e;rw[Fr.rows_ns _ hs']at e;cases hb:F.boxes.lookup r with
  |none=>simp[hb]at e
  |some l=>
   simp only[hb,av,ae]at e;rcases sp.box r l hb with⟨r1,l1,c1,c2,c3⟩|⟨c1,l2,c2,c3⟩
   .
    have hb1:=(h1.boxes r1 l1 c2).1;have hs1:∀ k,r1≠.slot k:=fun k e=>by subst e;simp[Root.boxed]at hb1
    cases π with
    |nil=>simp only[Ab.getR,aa]at e;subst e;refine .inl ⟨r1,[l1],c1,?_,c3,.inr hb1⟩;simp only[Fr.rowsAt,F1.rows_ns hs1,c2,av,ae,Ab.getR]
    |cons x π=>
     have e1:F1.rowsAt ⟨r1,x::π⟩=some rows:=by simp only[Fr.rowsAt,F1.rows_ns hs1,c2,av,ae];exact c3.getR e
     exact .inl ⟨r1,rows,c1,e1,p1 (by simp) e1,.inl (by simp)⟩
   .
    cases π with
    |nil=>simp only[Ab.getR,aa]at e;subst e;refine .inr ⟨c1,[l2],?_,c3⟩;simp only[Fr.rowsAt,F2.rows_ns hs',c2,av,ae,Ab.getR]
    |cons x π=>
     have e1:F2.rowsAt ⟨r,x::π⟩=some rows:=by simp only[Fr.rowsAt,F2.rows_ns hs',c2,av,ae];exact c3.getR e
     exact .inr ⟨c1,rows,e1,p2 (by simp) e1⟩
theorem qap (h2:RelF G2 w F2 ts2)(h1:RelF G1 w' F1 ts1)(sp:Spliced W F1 F2 F ts1 ts2 ts)(hp:Part W G2 GR G1 w w' F2 F):
  RelF (Gh.splice W G2 G1 F2) w' F ts/\Gain G2 w (Gh.splice W G2 G1 F2) w':=by
 refine⟨⟨qep hp h2.inv h1.inv,sp.len,fun k v e=>?_,fun r l e=>?_,fun d hd=>?_,fun k rows e hi=>?_⟩,qeE hp⟩
 .
  obtain⟨V,hV,hc⟩:=sp.slot k v e;refine⟨V,hV,?_⟩;rcases hc with⟨k1,v1,c1,c2,c3,c4,c5⟩|⟨c1,v2,c2,c3,c4,c5⟩|rfl
  .
   obtain⟨V',hV',hs,hr⟩:=h1.slots k1 v1 c2;have:V'=V:=by rw[hV']at c3;exact aS c3
   subst this;refine⟨by rw[c4,<- c5.1];exact hs,fun r o c hc=>?_⟩;obtain⟨cc,d1,d2⟩:=c5.2.1 r o c hc;obtain⟨u,hu,hh⟩:=hr r o cc d1;refine⟨u,by rw[c4];exact hu,?_⟩;rcases d2 with rfl|d2
   . exact .inl rfl
   . rcases hh with rfl|hh
     . cases c<;>exact d2.elim
     . exact .inr (Sh.ren hp (k:=⟨.slot k,[]⟩) c1 d2 hh)
  .
   obtain⟨V',hV',hs,hr⟩:=h2.slots k v2 c2;have:V'=V:=by rw[hV']at c3;exact aS c3
   subst this;refine⟨by rw[c4,<- c5.1];exact hs,fun r o c hc=>?_⟩;obtain⟨cc,d1,d2⟩:=c5.2.1 r o c hc;obtain⟨u,hu,hh⟩:=hr r o cc d1;refine⟨u,by rw[c4];exact hu,?_⟩;rcases d2 with rfl|⟨rfl,d2⟩
   . exact .inl rfl
   . rcases hh with rfl|hh
     . exact .inl rfl
     . exact .inr (Sh.keep hp h2.inv (p:=⟨⟨.slot k,[]⟩,r,o⟩) c1 (fun k' hk'=>.inr ⟨_,_,qz (zR c2) d1,hk'⟩) d2 hh)
  . refine⟨trivial,fun r o c hc=>?_⟩;obtain⟨rfl,rfl,rfl⟩:=one_cell hc;exact⟨V,rfl,.inl rfl⟩
 .
  rcases sp.box r l e with⟨r1,l1,c1,c2,c3⟩|⟨c1,l2,c2,c3⟩
  . have:=h1.boxes r1 l1 c2;exact⟨by rw[hp.bx _ _ c1];exact this.1,XW c1 (hp.bx _ _ c1) this.2⟩
  . have:=h2.boxes r l2 c2;exact⟨this.1,Qy c1 this.2⟩
 .
  cases hw:W (.loc d)with
  |some a=>refine hp.comp d a hw ?_;simp only[Gh.splice,hw]at hd;exact hd
  |none=>refine hp.rest d hw ?_;simp only[Gh.splice,hw]at hd;exact hd
 .
  rcases qeo h2 h1 sp e hi with⟨a,rows1,c1,c2,c3,c4⟩|⟨c1,rows2,c2,c3⟩
  .
   have hlen:rows.length=rows1.length:=by simpa using (congrArg List.length c3.1).symm
   rcases h1.cont _ _ c2 c4 with(⟨n1,n2,n3⟩|⟨x,es,ents,clock,rfl,g1,g2,g3,g4,g5,g6⟩)|⟨x,vs,T,e1,e2,e3,e4,e5,e6,e7,e8,e9⟩
   . subst n2;exact .inl (.inl ⟨by rw[zh c1];exact n1,List.eq_nil_of_length_eq_zero hlen,n3⟩)
   . obtain rfl:=qxV c3.1 (c3.2.2 0 0 es rfl);exact .inl (.inr ⟨x,es,ents,clock,rfl,g1,by rw[zh c1];exact g2,g3,g4,g5,g6⟩)
   refine .inr ⟨x,vs,T,by rw[zh c1];exact e1,e2,e3,e4,fun row hr=>?_,by rw[hlen];exact e6,by rw[hlen];exact e7,fun hk=>⟨(e8 hk).1,fun r o c hc=>?_⟩,fun r o c hc=>?_⟩
   . have:row.length∈rows1.map List.length:=by rw[c3.1];exact List.mem_map_of_mem hr
     obtain⟨row1,m1,m2⟩:=List.mem_map.1 this;rw[<- m2];exact e5 _ m1
   . obtain⟨cc,d1,d2⟩:=c3.2.1 r o c hc;have:=(e8 hk).2 r o cc d1;rcases d2 with rfl|d2
     . rfl
     . cases cc<;>cases c<;>simp_all[qw,RenC]
   . obtain⟨cc,d1,d2⟩:=c3.2.1 r o c hc;obtain⟨u,hu,hh⟩:=e9 r o cc d1;refine⟨u,hu,?_⟩;rcases d2 with rfl|d2
     . exact hh.one
     . exact Sh.ren hp c1 d2 hh
  .
   have huse:Uses F2 k:=.inl ⟨by rw[c2];rfl,hi⟩;have hlen:rows.length=rows2.length:=by simpa using (congrArg List.length c3.1).symm
   rcases h2.cont _ _ c2 hi with(⟨n1,n2,n3⟩|⟨x,es,ents,clock,rfl,g1,g2,g3,g4,g5,g6⟩)|⟨x,vs,T,e1,e2,e3,e4,e5,e6,e7,e8,e9⟩
   . subst n2;exact .inl (.inl ⟨by rw[zQ c1 (.inr huse)];exact n1,List.eq_nil_of_length_eq_zero hlen,n3⟩)
   . obtain rfl:=qxV c3.1 (c3.2.2 0 0 es rfl);obtain⟨k1,k2⟩:=hp.heap h2.inv c1 (.inr huse) g2;exact .inl (.inr ⟨x,es,ents,clock,rfl,g1,by rw[zQ c1 (.inr huse)];exact g2,g3,fun hi'=>g4 (k2 hi'),by rw[k1];exact g5,g6.mono (fun b h=>hp.gain.im b (by rw[hp.im];exact h)) (fun b h=>hp.gain.keep b (by rw[hp.im];exact h))⟩)
   obtain⟨g1,g2⟩:=hp.heap h2.inv c1 (.inr huse) e1;refine .inr ⟨x,vs,T,by rw[zQ c1 (.inr huse)];exact e1,e2,fun hi'=>e3 (g2 hi'),by rw[g1];exact e4,fun row hr=>?_,by rw[hlen];exact e6,by rw[hlen];exact e7,
    fun hk=>⟨(e8 hk).1,fun r o c hc=>?_⟩,fun r o c hc=>?_⟩
   . have:row.length∈rows2.map List.length:=by rw[c3.1];exact List.mem_map_of_mem hr
     obtain⟨row1,m1,m2⟩:=List.mem_map.1 this;rw[<- m2];exact e5 _ m1
   . obtain⟨cc,d1,d2⟩:=c3.2.1 r o c hc;have:=(e8 hk).2 r o cc d1;rcases d2 with rfl|⟨rfl,_⟩
     . rfl
     . exact this
   . obtain⟨cc,d1,d2⟩:=c3.2.1 r o c hc;obtain⟨u,hu,hh⟩:=e9 r o cc d1;refine⟨u,hu,?_⟩;rcases d2 with rfl|⟨rfl,d2⟩
     . exact hh.one
     . exact Sh.keep hp h2.inv c1 (fun k' hk'=>.inr ⟨_,_,qz c2 d1,hk'⟩) d2 hh
end
end
section
variable [Glob]
def qcq (G:Gh)(w:World)(F:Fr)(xs:List (Option Pl))(v:AV)(V:Value):Prop:=∃ l us,qva G w F xs l us/\((v=.ag l/\V=.agg us.toArray)\/(∃ c,v=.c c/\l=[c]/\us=[V]))
theorem qcq.shr {G G' F F' w}(hs:Shr G F G' F')(inv:GInv G w){xs v V}(h:qcq G w F xs v V):qcq G' w F' xs v V:=by obtain⟨l,us,h1,h2⟩:=h;exact⟨l,us,h1.shr hs inv,h2⟩
def Args (G:Gh)(w:World)(F:Fr)(held:Nat->Bool):Nat->List (List (Option Pl))->List AV->List Value->Prop
 |_,[],[],[]=>True
 |j,xs::xss,v::vs,V::Vs=>(if held j then qcq G w F xs v V else xs=[]/\RelV G w v V)/\Args G w F held (j+1) xss vs Vs
 |_,_,_,_=>False
theorem Args.shr {G G' F F' w}(hs:Shr G F G' F')(inv:GInv G w){held}:∀ {j:Nat} {xss:List (List (Option Pl))} {vs:List AV} {Vs:List Value},
  Args G w F held j xss vs Vs->Args G' w F' held j xss vs Vs
 |_,[],[],[],_=>trivial
 |j,xs::xss,v::vs,V::Vs,⟨h1,h2⟩=>by
  refine⟨?_,h2.shr hs inv⟩;by_cases hj:held j=true
  . rw[aF hj]at *;exact h1.shr hs inv
  . rw[aG hj]at *;exact⟨h1.1,h1.2.shr hs⟩
 |_,[],[],_::_,h=>h.elim
 |_,[],_::_,_,h=>h.elim
 |_,_::_,[],_,h=>h.elim
 |_,_::_,_::_,[],h=>h.elim
theorem qdn {cx G w F F' ts}(h:RelF G w F ts){v v' V}(hv:RelV G w v V)(e:Qb cx F v=some (v',F')):
  ∃ im' xs,RelF { G with im:=im' } w F' ts/\Gain G w { G with im:=im' } w/\Shr G F { G with im:=im' } F'/\qcq { G with im:=im' } w F' xs v' V/\Dis xs /\
   ∀ s,some s∈xs->Uses F s.toKey:=by
 obtain⟨tag,rows⟩:=v;unfold Qb at e;split at e
 . rename_i x ht hr;simp only at ht hr;subst ht;subst hr;simp only[aH,Prod.exists,ai]at e;obtain⟨c',F1,e1,rfl,rfl⟩:=e;have e2:QB cx F [x]=some ([c'],F1):=by simp[QB,e1]
   obtain⟨u,hu,hx⟩:=hv.2 0 0 x rfl;simp only[qX,aa]at hu;subst hu;obtain⟨im',xs,a1,a2,a3,a4,a5,a6⟩:=Zl [x] [c'] [V] G F F1 h ⟨hx,trivial⟩ e2;exact⟨im',xs,a1,a2,a3,⟨[c'],[V],a4,.inr ⟨c',rfl,rfl,rfl⟩⟩,a5,a6⟩
 . rename_i l ht hr;simp only at ht hr;subst ht;subst hr;simp only[aH,Prod.exists,ai]at e;obtain⟨l',F1,e1,rfl,rfl⟩:=e;obtain⟨vs,rfl,e2,e3⟩:=hv.agg_inv;obtain⟨im',xs,a1,a2,a3,a4,a5,a6⟩:=Zl l l' vs.toList G F F1 h (vz.of_get (by simpa using e2) (fun o c ho=>by obtain⟨u,hu,hx⟩:=e3 o c ho;exact⟨u,by simpa using hu,hx⟩)) e1;exact⟨im',xs,a1,a2,a3,⟨l',vs.toList,a4,.inl ⟨rfl,by simp⟩⟩,a5,a6⟩
 . cases e
theorem qcq.nouse {G w F xs v V}(h:qcq G w F xs v V){s}(hm:some s∈xs):¬ Uses F s.toKey:=by obtain⟨l,us,h1,_⟩:=h;exact h1.nouse hm
theorem vX {cx f w ts}:∀ (vs:List AV) (Vs:List Value) (j:Nat) (vs':List AV) (G:Gh) (F F':Fr),RelF G w F ts ->
  vs.length=Vs.length->(∀ (j:Nat) v V,vs[j]? = some v->Vs[j]? = some V->RelV G w v V)->yT cx f F j vs=some (vs',F') ->
  ∃ im' xss,RelF { G with im:=im' } w F' ts/\Gain G w { G with im:=im' } w/\Shr G F { G with im:=im' } F'/\Args { G with im:=im' } w F' (cx.hand f) j xss vs' Vs/\Nod xss.flatten /\
   ∀ s,some s∈xss.flatten->Uses F s.toKey
 |[],[],j,vs',G,F,F',h,_,_,e=>by simp only[yT,aa,ai]at e;obtain⟨rfl,rfl⟩:=e;exact⟨G.im,[],h,Gain.refl G w,Shr.refl G F,trivial,List.nodup_nil,by intro s hs;simp at hs⟩
 |v::vs,V::Vs,j,vs',G,F,F',h,hl,hr,e=>by
  simp only[yT]at e;have hv:=hr 0 v V rfl rfl;by_cases hj:cx.hand f j=true
  .
   rw[aF hj]at e;cases h1:Qb cx F v with
   |none=>simp[h1]at e
   |some y=>
    obtain⟨v1,F1⟩:=y;simp only[h1]at e;cases h2:yT cx f F1 (j+1) vs with
    |none=>simp[h2]at e
    |some z=>
     obtain⟨vs1,F2⟩:=z;simp only[h2,aa,ai]at e;obtain⟨rfl,rfl⟩:=e;obtain⟨im1,xs,a1,a2,a3,a4,a5,a6⟩:=qdn h hv h1;obtain⟨im2,xss,b1,b2,b3,b4,b5,b6⟩:=vX vs Vs (j+1) vs1 { G with im:=im1 } F1 F2 a1 (by simpa using hl) (fun j x X hx hX=>(hr (j+1) x X (by simpa using hx) (by simpa using hX)).shr a3) h2;refine⟨im2,xs::xss,b1,a2.trans b2,a3.trans b3,⟨by rw[aF hj];exact a4.shr b3 a1.inv,b4⟩,?_,fun s hs=>?_⟩
     . unfold Nod;rw[List.flatten_cons,List.filterMap_append,List.nodup_append];refine⟨ZN.1 a5,b5,?_⟩;intro s hs s' hs' he;subst he;simp only[List.mem_filterMap,id,exists_eq_right]at hs hs';exact a4.nouse hs (b6 s hs')
     . rw[List.flatten_cons,List.mem_append]at hs;rcases hs with hs|hs
       . exact a6 s hs
       . exact a3.uses _ (b6 s hs)
  . rw[aG hj]at e;cases h2:yT cx f F (j+1) vs with
    |none=>simp[h2]at e
    |some z=>obtain⟨vs1,F2⟩:=z;simp only[h2,aa,ai]at e;obtain⟨rfl,rfl⟩:=e;obtain⟨im2,xss,b1,b2,b3,b4,b5,b6⟩:=vX vs Vs (j+1) vs1 G F F2 h (by simpa using hl) (fun j x X hx hX=>hr (j+1) x X (by simpa using hx) (by simpa using hX)) h2;refine⟨im2,[]::xss,b1,b2,b3,⟨by rw[aG hj];exact⟨rfl,hv.shr b3⟩,b4⟩,by simpa using b5,fun s hs=>b6 s (by simpa using hs)⟩
 |[],_::_,_,_,_,_,_,_,hl,_,_=>by simp at hl
 |_::_,[],_,_,_,_,_,_,hl,_,_=>by simp at hl
theorem qdq {F:Fr}{p rest rows}(h:F.rowsAt (p.under rest)=some rows):∃ zz rs,F.get p=some (.own zz rs):=by
 unfold Fr.rowsAt Pl.under at h;simp only at h;cases hr:F.rows p.key.root with
 |none=>simp[hr]at h
 |some rs=>
  simp only[hr,ae]at h;rw[qba]at h;cases hg:getR rs p.key.path with
  |none=>simp[hg]at h
  |some rs'=>
   simp only[hg,ae,getR]at h;cases hc:cellAt rs' p.r p.o with
   |none=>simp[hc]at h
   |some c=>
    rw[hc]at h;cases c with
    |own zz rows'=>exact⟨zz,rows',by simp[Fr.get,Fr.rowsAt,hr,hg,hc]⟩
    |_=>simp at h
theorem qi0 {F F':Fr}{p c}(h:F.set p c=some F'){r}(hr:r≠p.key.root):F'.rows r=F.rows r:=by
 unfold Fr.set at h;cases hx:F.rows p.key.root with
 |none=>simp[hx]at h
 |some rows=>
  simp only[hx]at h;cases hu:updR (putAt p.r p.o c) rows p.key.path with
  |none=>simp[hu]at h
  |some rows'=>
   simp only[hu,aa]at h;subst h;have hl:rows.map List.length=rows'.map List.length:=by have:=qe2 c p.r p.o p.key.path rows rows' hu;exact this.2.1
   rw[qao hx hl,aG hr]
def Froz (G:Gh)(F:Fr)(p:Pl)(im:Nat->Prop):Prop:=∀ rest rows h,F.rowsAt (p.under rest)=some rows->G.γ (p.under rest)=some h->im h.b
theorem xE {w ts}:∀ (ps:List Pl) (G:Gh) (F F':Fr),RelF G w F ts->zG F ps=some F' ->
  ∃ im',RelF { G with im:=im' } w F' ts/\Gain G w { G with im:=im' } w/\Shr G F { G with im:=im' } F' /\
   (∀ p∈ps,∀ zz rows,F.get p=some (.own zz rows)->Froz G F p im')/\∀ r,(∀ p∈ps,r≠p.key.root)->F'.rows r=F.rows r
 |[],G,F,F',h,e=>by simp only[zG,aa]at e;subst e;exact⟨G.im,h,Gain.refl G w,Shr.refl G F,by simp,by simp⟩
 |p::ps,G,F,F',h,e=>by
  have skip:zG F ps=some F'->(∀ zz rows,F.get p≠some (.own zz rows))->∃ im',RelF { G with im:=im' } w F' ts/\Gain G w { G with im:=im' } w/\Shr G F { G with im:=im' } F' /\
    (∀ q∈p::ps,∀ zz rows,F.get q=some (.own zz rows)->Froz G F q im')/\∀ r,(∀ q∈p::ps,r≠q.key.root)->F'.rows r=F.rows r:=by
   intro e hn;obtain⟨im',a1,a2,a3,a4,a5⟩:=xE ps G F F' h e;refine⟨im',a1,a2,a3,fun q hq zz rows hg=>?_,fun r hr=>a5 r fun q hq=>hr q (aB _ hq)⟩;rcases List.mem_cons.1 hq with rfl|hq
   . exact absurd hg (hn zz rows)
   . exact a4 q hq zz rows hg
  simp only[zG]at e;split at e
  .
   rename_i zz rows hg;cases hs:F.set p (.imm (qG rows))with
   |none=>simp[hs]at e
   |some F1=>
    simp only[hs]at e;have st:=Fr.setTo hs;obtain⟨b1,b2,b3,b4⟩:=h.freezeAt hg st;obtain⟨im',a1,a2,a3,a4,a5⟩:=xE ps _ F1 F' b1 e;refine⟨im',a1,b2.trans a2,b3.trans a3,fun q hq zz' rows' hg'=>?_,fun r hr=>?_⟩
    .
     have hp:Froz G F p im':=fun rest rs x hx hy=>a3.im _ (.inr ⟨rest,rs,x,by rw[qoN hg]at hx;exact hx,hy,rfl⟩);rcases List.mem_cons.1 hq with rfl|hq
     . exact hp
     . intro rest rs x hx hy;by_cases hu:∃ π,q.under rest=p.under π
       . obtain⟨π,hu⟩:=hu;rw[hu]at hx hy;exact hp π rs x hx hy
       . rcases st.other (q.under rest) (fun π e=>hu ⟨π,e⟩)with⟨h1,_⟩|⟨a,b,h1,h2,_⟩
         . rw[h1]at hx;cases hx
         . obtain⟨z2,r2,hq2⟩:=qdq h2;exact a4 q hq z2 r2 hq2 rest b x h2 hy
    . rw[a5 r fun q hq=>hr q (aB _ hq)];exact qi0 hs (hr p au)
  . rename_i hn;exact skip e (fun zz rows hg=>hn zz rows hg)
theorem qbt {G w F Ff ts im'}(h:RelF G w F ts)(hs:Shr G F { G with im:=im' } Ff){c c' ps V}(hc:c=.dead\/(Seen c/\∀ p,Sh G w p c V))(e:Yb F c=some (c',ps))(hf:∀ p∈ps,∀ zz rows,F.get p=some (.own zz rows)->Froz G F p im'):
  Hold { G with im:=im' } w Ff none c' V:=by
 rcases hc with rfl|⟨hc,hV⟩
 . simp[Yb]at e
 .
  have up:∀ {c:Cell},(∀ es,c≠.mp es)->(∀ p,Sh G w p c V)->∀ p,Sh { G with im:=im' } w p c V:=fun hm h p=>(h p).shr hs hm;cases c with
  |ref p=>
   simp only[Yb]at e;cases hg:F.get p with
   |none=>simp[hg]at e
   |some x=>
    rw[hg]at e;cases x with
    |own zz rows=>simp only[aa,ai]at e;obtain⟨rfl,rfl⟩:=e;have hn:¬ Seen (.own zz rows):=fun h=>h.1 zz rows rfl;obtain⟨o1,_⟩:=yD h hV hg hn;have fz:=hf p (by simp) zz rows hg;have:RelI im' w (immC (.own zz rows)) V:=Tree.relI hs.im (.own zz rows) p V rfl o1 (h.tree hg) (fun rest rs x hx hy=>fz rest rs x (by rw[qoN hg];exact hx) hy);exact⟨⟨by simp,by simp⟩,by simp,by simp,by simp,fun _=>this⟩
    |_=>simp at e
  |nil=>simp only[Yb,aa,ai]at e;obtain⟨rfl,rfl⟩:=e;have:V=.slice none 0 0:=hV ⟨⟨.res,[]⟩,0,0⟩;subst this;exact⟨⟨by simp,by simp⟩,by simp,by simp,by simp,fun _=>.immE none 0⟩
  |dead=>simp[Yb]at e
  |mpb es=>exact(hV ⟨⟨.res,[]⟩,0,0⟩).elim
  |ptr q=>
   simp only[Yb]at e;split at e
   . rename_i hq;simp only[aa,ai]at e;obtain⟨rfl,rfl⟩:=e;exact⟨⟨by simp,by simp⟩,by simp,by simp,fun q' h'=>by cases h';simpa using hq,up (by simp) hV⟩
   . cases e
  |val u=>simp only[Yb,aa,ai]at e;obtain⟨rfl,rfl⟩:=e;exact⟨⟨by simp,by simp⟩,by simp,by simp,by simp,up (by simp) hV⟩
  |imm rows=>simp only[Yb,aa,ai]at e;obtain⟨rfl,rfl⟩:=e;exact⟨⟨by simp,by simp⟩,by simp,by simp,by simp,up (by simp) hV⟩
  |cptr row o=>simp only[Yb,aa,ai]at e;obtain⟨rfl,rfl⟩:=e;exact⟨⟨by simp,by simp⟩,by simp,by simp,by simp,up (by simp) hV⟩
  |clo f fs cs=>simp only[Yb,aa,ai]at e;obtain⟨rfl,rfl⟩:=e;exact⟨⟨by simp,by simp⟩,by simp,by simp,by simp,up (by simp) hV⟩
  |own zz rows=>exact absurd rfl (hc.1 zz rows)
  |mp es=>exact absurd rfl (hc.2 es)
theorem qbo {G w F Ff ts im'}(h:RelF G w F ts)(hs:Shr G F { G with im:=im' } Ff):∀ {l l':List Cell} {ps:List Pl} {us:List Value},
  vz G w l us->qci F l=some (l',ps)->(∀ p∈ps,∀ zz rows,F.get p=some (.own zz rows)->Froz G F p im')->qva { G with im:=im' } w Ff (List.replicate l.length none) l' us
 |[],l',ps,[],_,e,_=>by simp only[qci,aa,ai]at e;obtain⟨rfl,rfl⟩:=e;trivial
 |c::l,l',ps,u::us,⟨h1,h2⟩,e,hf=>by
  simp only[qci]at e;cases e1:Yb F c with
  |none=>simp[e1]at e
  |some y=>
   obtain⟨c',qs⟩:=y;simp only[e1]at e;cases e2:qci F l with
   |none=>simp[e2]at e
   |some z=>obtain⟨l1,qs'⟩:=z;simp only[e2,aa,ai]at e;obtain⟨rfl,rfl⟩:=e;exact⟨qbt h hs h1 e1 (fun p hp=>hf p (aM _ hp)),qbo h hs h2 e2 (fun p hp=>hf p (aT _ hp))⟩
 |[],_,_,_::_,h,_,_=>h.elim
 |_::_,_,_,[],h,_,_=>h.elim
theorem qen {G w F Ff ts im'}(h:RelF G w F ts)(hs:Shr G F { G with im:=im' } Ff){v v' ps V}(hv:RelV G w v V)(e:qgH F v=some (v',ps))(hf:∀ p∈ps,∀ zz rows,F.get p=some (.own zz rows)->Froz G F p im'):∃ n,qcq { G with im:=im' } w Ff (List.replicate n none) v' V:=by
 obtain⟨tag,rows⟩:=v;unfold qgH at e;split at e
 .
  rename_i x ht hr;simp only at ht hr;subst ht;subst hr;cases e1:Yb F x with
  |none=>simp[e1]at e
  |some y=>obtain⟨c',qs⟩:=y;simp only[e1,aa,ai]at e;obtain⟨rfl,rfl⟩:=e;obtain⟨u,hu,hx⟩:=hv.2 0 0 x rfl;simp only[qX,aa]at hu;subst hu;exact⟨1,[c'],[V],⟨qbt h hs hx e1 hf,trivial⟩,.inr ⟨c',rfl,rfl,rfl⟩⟩
 .
  rename_i l ht hr;simp only at ht hr;subst ht;subst hr;cases e1:qci F l with
  |none=>simp[e1]at e
  |some y=>obtain⟨l',qs⟩:=y;simp only[e1,aa,ai]at e;obtain⟨rfl,rfl⟩:=e;obtain⟨vs,rfl,e2,e3⟩:=hv.agg_inv;exact⟨l.length,l',vs.toList,qbo h hs (vz.of_get (by simpa using e2) (fun o c ho=>by obtain⟨u,hu,hx⟩:=e3 o c ho;exact⟨u,by simpa using hu,hx⟩)) e1 hf,.inl ⟨rfl,by simp⟩⟩
 . cases e
theorem qg5 (n)(xss:List (List (Option Pl))):((List.replicate n none++xss.flatten).filterMap id)=xss.flatten.filterMap id:=by
 rw[List.filterMap_append];have:(List.replicate n (none:Option Pl)).filterMap id=[]:=by rw[List.filterMap_eq_nil_iff];intro x hx;rw[(List.mem_replicate.1 hx).2];rfl
 rw[this];rfl
theorem Xx {cx f G w F Ff ts im'}(h:RelF G w F ts)(hs:Shr G F { G with im:=im' } Ff):
  ∀ {j:Nat} {xss:List (List (Option Pl))} {vs vs':List AV} {ps:List Pl} {Vs:List Value},Args G w F (cx.hand f) j xss vs Vs->vg cx f F j vs=some (vs',ps) ->
  (∀ p∈ps,∀ zz rows,F.get p=some (.own zz rows)->Froz G F p im') ->
  ∃ xss',Args { G with im:=im' } w Ff (fun _=>true) j xss' vs' Vs/\xss'.flatten.filterMap id=xss.flatten.filterMap id
 |j,[],[],vs',ps,[],_,e,_=>by simp only[vg,aa,ai]at e;obtain⟨rfl,rfl⟩:=e;exact⟨[],trivial,rfl⟩
 |j,xs::xss,v::vs,vs',ps,V::Vs,⟨h1,h2⟩,e,hf=>by
  simp only[vg]at e;cases e1:(if cx.hand f j then some (v,[])else qgH F v)with
  |none=>simp only[e1]at e;cases e
  |some y=>
   obtain⟨v1,qs⟩:=y;simp only[e1]at e;cases e2:vg cx f F (j+1) vs with
   |none=>simp[e2]at e
   |some z=>
    obtain⟨vs1,qs'⟩:=z;simp only[e2,aa,ai]at e;obtain⟨rfl,rfl⟩:=e;obtain⟨xss',a1,a2⟩:=Xx h hs h2 e2 (fun p hp=>hf p (aT _ hp));by_cases hj:cx.hand f j=true
    . rw[aF hj]at h1 e1;simp only[aa,ai]at e1;obtain⟨rfl,rfl⟩:=e1;refine⟨xs::xss',⟨by rw[aF rfl];exact h1.shr hs h.inv,a1⟩,?_⟩;rw[List.flatten_cons,List.flatten_cons,List.filterMap_append,List.filterMap_append,a2]
    . rw[aG hj]at h1 e1;obtain⟨rfl,h1⟩:=h1;obtain⟨n,b1⟩:=qen h hs h1 e1 (fun p hp=>hf p (aM _ hp));refine⟨List.replicate n none::xss',⟨by rw[aF rfl];exact b1,a1⟩,?_⟩;rw[List.flatten_cons,List.flatten_cons,qg5,a2];rfl
 |_,[],[],_,_,_::_,h,_,_=>h.elim
 |_,[],_::_,_,_,_,h,_,_=>h.elim
 |_,_::_,[],_,_,_,h,_,_=>h.elim
 |_,_::_,_::_,_,_,[],h,_,_=>h.elim
end
section
variable [Glob]
theorem zM {α β f}:∀ {l:List α} {l':List β},mapO f l=some l'->l'.length=l.length/\∀ (i:Nat) y,l'[i]? = some y->∃ x,l[i]? = some x/\f x=some y
 |[],l',e=>by simp only[mapO,aa]at e;subst e;simp
 |x::l,l',e=>by
  simp only[mapO]at e;cases h1:f x with
  |none=>simp[h1]at e
  |some y=>
   cases h2:mapO f l with
   |none=>simp[h1,h2]at e
   |some ys=>
    simp only[h1,h2,aa]at e;subst e;obtain⟨g1,g2⟩:=zM h2;refine⟨by simp[g1],fun i z hz=>?_⟩;cases i with
    |zero=>simp only[aJ,aa]at hz;subst hz;exact⟨x,rfl,h1⟩
    |succ i=>simpa using g2 i z (by simpa using hz)
theorem xu {l r r'}(h:idxOf l r=some r'):∃ i,r'=.par i/\l[i]? = some r:=by unfold idxOf at h;simp only[aH]at h;obtain⟨i,h1,rfl⟩:=h;refine⟨i,rfl,?_⟩;unfold List.idxOf? at h1;rw[List.findIdx?_eq_some_iff_getElem]at h1;obtain⟨h2,h3,_⟩:=h1;rw[ax h2];simpa using h3
theorem qb9:∀ {l:List Root},nodupB l=true->l.Nodup
 |[],_=>List.nodup_nil
 |r::l,h=>by simp only[nodupB,aD,Bool.not_eq_true',List.contains_eq_mem,decide_eq_false_iff_not]at h;exact List.nodup_cons.2 ⟨h.1,qb9 h.2⟩
theorem qdD {α:Type}{l:List α}(h:l.Nodup){i j:Nat}{x}(hi:l[i]? = some x)(hj:l[j]? = some x):i=j:=by obtain⟨h1,e1⟩:=az.1 hi;obtain⟨h2,e2⟩:=az.1 hj;exact(List.getElem_inj h).1 (e1.trans e2.symm)
theorem qiG {l}(hn:l.Nodup){i r}(h:l[i]? = some r):idxOf l r=some (.par i):=by
 unfold idxOf;cases hx:l.idxOf? r with
 |none=>have hm:r∈l:=aN h;unfold List.idxOf? at hx;rw[List.findIdx?_eq_none_iff]at hx;have:=hx r hm;simp at this
 |some k=>
  have:idxOf l r=some (.par k):=by unfold idxOf;rw[hx];rfl
  obtain⟨k',e1,e2⟩:=xu this;cases e1;rw[qdD hn h e2];rfl
theorem qji {f W}(hW:∀ r r',f r=some r'->W r'=some r){c1 c}(e:renF f c1=some c):RenX W c1 c:=by
 cases c1 with
 |ptr q=>simp only[renF,renP,Option.map_map,aH]at e;obtain⟨r',h1,rfl⟩:=e;exact⟨hW _ _ h1,rfl,rfl,rfl⟩
 |val v=>simp only[renF,aa]at e;subst e;rfl
 |_=>simp[renF]at e
theorem qbs {f W}(hW:∀ r r',f r=some r'->W r'=some r):∀ {l m:List Cell},mapO (renF f) l=some m->qev W l m
 |[],m,e=>by simp only[mapO,aa]at e;subst e;trivial
 |c::l,m,e=>by
  simp only[mapO]at e;cases h1:renF f c with
  |none=>simp[h1]at e
  |some y=>
   cases h2:mapO (renF f) l with
   |none=>simp[h1,h2]at e
   |some ys=>simp only[h1,h2,aa]at e;subst e;exact⟨qji hW h1,qbs hW h2⟩
theorem qfI {f W}(hW:∀ r r',f r=some r'->W r'=some r){c1 c}(e:renC f c1=some c):c=.dead\/RenC W c1 c:=by
 cases c1 with
 |ptr q=>simp only[renC,renP,Option.map_map,aH]at e;obtain⟨r',h1,rfl⟩:=e;exact .inr ⟨hW _ _ h1,rfl,rfl,rfl⟩
 |clo g fs cs=>
  simp only[renC]at e;cases h1:mapO (renF f) fs with
  |none=>simp[h1]at e
  |some fs'=>
   cases h2:mapO (renF f) cs with
   |none=>simp[h1,h2]at e
   |some cs'=>simp only[h1,h2,aa]at e;subst e;exact .inr ⟨rfl,qbs hW h1,qbs hW h2⟩
 |ref q=>simp[renC]at e
 |dead=>simp only[renC,aa]at e;exact .inl e.symm
 |own z rows=>simp only[renC,aa]at e;subst e;exact .inr ⟨rfl,rfl⟩
 |cptr z rows=>simp only[renC,aa]at e;subst e;exact .inr ⟨rfl,rfl⟩
 |nil=>simp only[renC,aa]at e;subst e;exact .inr trivial
 |_=>simp only[renC,aa]at e;subst e;exact .inr rfl
theorem qzt {f l l'}(e:mapO (renC f) l=some l'){o:Nat}{es}(h:l[o]? = some (.mpb es)):l'[o]? = some (.mpb es):=by
 obtain⟨g1,g2⟩:=zM e;cases hl:l'[o]? with
 |none=>rw[List.getElem?_eq_none_iff]at hl;rw[List.getElem?_eq_none (by omega)]at h;cases h
 |some c=>obtain⟨x,h1,h2⟩:=g2 o c hl;rw[h]at h1;cases h1;simp only[renC,aa]at h2;rw[h2]
theorem qbh {f W}(hW:∀ r r',f r=some r'->W r'=some r){l l'}(e:mapO (renC f) l=some l'):yS W [l] [l']:=by
 obtain⟨g1,g2⟩:=zM e;refine⟨by simp[g1],fun r o c hc=>?_,fun r o es hc=>?_⟩
 . obtain⟨rfl,ho⟩:=zI hc;obtain⟨x,h1,h2⟩:=g2 o c ho;exact⟨x,by simp[cellAt,h1],qfI hW h2⟩
 . obtain⟨rfl,ho⟩:=zI hc;simp[cellAt,qzt e ho]
theorem Qf {f W}(hW:∀ r r',f r=some r'->W r'=some r){l l'}(e:mapO (mapO (renC f)) l=some l'):yS W l l':=by
 obtain⟨g1,g2⟩:=zM e;refine⟨?_,fun r o c hc=>?_,fun r o es hc=>?_⟩
 .
  apply List.ext_getElem?;intro i;rw[aI,aI];cases h:l'[i]? with
  |none=>
   have:l[i]? = none:=by rw[List.getElem?_eq_none_iff]at *;omega
   rw[this]
  |some y=>obtain⟨x,h1,h2⟩:=g2 i y h;rw[h1];simp[(zM h2).1]
 . obtain⟨row,h1,h2⟩:=qc.1 hc;obtain⟨x,h3,h4⟩:=g2 r row h1;obtain⟨y,h5,h6⟩:=(zM h4).2 o c h2;exact⟨y,by simp[cellAt,h3,h5],qfI hW h6⟩
 .
  obtain⟨row,h1,h2⟩:=qc.1 hc;cases hl:l'[r]? with
  |none=>rw[List.getElem?_eq_none_iff]at hl;rw[List.getElem?_eq_none (by omega)]at h1;cases h1
  |some row'=>obtain⟨x,h3,h4⟩:=g2 r row' hl;rw[h1]at h3;cases h3;simp[cellAt,hl,qzt h4 h2]
section
variable {W:Root->Option Root} {G1 Gc:Gh} {w:World}
theorem qY.ren2 (hok:∀ r a,W r=some a->G1.ok a->Gc.ok r)(hγ:∀ r a π,W r=some a->Gc.γ ⟨r,π⟩=G1.γ ⟨a,π⟩):∀ {l m:List Cell} {vs:List Value},qev W l m->qY G1 l vs->qY Gc m vs
 |[],[],vs,_,h=>by cases vs<;>exact h
 |a::l,b::m,[],_,h=>h.elim
 |a::l,b::m,v::vs,⟨h1,h2⟩,⟨h3,h4⟩=>by
  refine⟨?_,qY.ren2 hok hγ h2 h4⟩;cases a with
  |ptr q1=>
   cases b with
   |ptr q=>obtain⟨e1,e2,e3,e4⟩:=h1;obtain⟨f0,f1,x,f2,f3,f4⟩:=h3;refine⟨hok _ _ e1 f0,by rw[e2];exact f1,x,?_,f3,by rw[e3,e4];exact f4⟩;have:=hγ _ _ q.key.path e1;rw[show q.key=⟨q.key.root,q.key.path⟩from rfl,this,e2];exact f2
   |_=>exact h1.elim
  |val u=>
   cases b with
   |val v'=>cases h1;exact h3
   |_=>exact h1.elim
  |_=>exact h3.elim
 |[],_::_,_,h,_=>h.elim
 |_::_,[],_,h,_=>h.elim
theorem Sh.ren2 (hok:∀ r a,W r=some a->G1.ok a->Gc.ok r)(hγ:∀ r a π,W r=some a->Gc.γ ⟨r,π⟩=G1.γ ⟨a,π⟩)(him:Gc.im=G1.im){p1 p c1 c u}(hr:RenC W c1 c)(hkey:¬ Seen c1->Gc.γ p.toKey=G1.γ p1.toKey)(h:Sh G1 w p1 c1 u):Sh Gc w p c u:=by
 cases c1 with
 |val u'=>
  cases c with
  |val v'=>cases hr;exact h
  |_=>exact hr.elim
 |nil=>
  cases c with
  |nil=>exact h
  |_=>exact hr.elim
 |imm rows=>
  cases c with
  |imm b=>cases hr;unfold Sh;rw[him];exact h
  |_=>exact hr.elim
 |own zz rows=>
  cases c with
  |own zz' rows'=>obtain⟨rfl,rfl⟩:=hr;unfold Sh;rw[hkey (fun h=>h.1 zz rows rfl)];exact h
  |_=>exact hr.elim
 |mp es=>
  cases c with
  |mp es'=>cases hr;obtain⟨x,ents,clock,e1,e2,e3,e4,e5,e6⟩:=h;exact⟨x,ents,clock,by rw[hkey (fun h=>h.2 es rfl)];exact e1,e2,e3,by rw[him];exact e4,e5,by rw[him];exact e6⟩
  |_=>exact hr.elim
 |ptr q1=>
  cases c with
  |ptr q=>obtain⟨e1,e2,e3,e4⟩:=hr;obtain⟨f0,x,f2,f3,f4⟩:=h;refine⟨hok _ _ e1 f0,x,?_,fun hb=>by rw[qAB e2 e3];exact f3 hb,by rw[e3,e4];exact f4⟩;have:=hγ _ _ q.key.path e1;rw[show q.key=⟨q.key.root,q.key.path⟩from rfl,this,e2];exact f2
  |_=>exact hr.elim
 |mpb es=>exact h.elim
 |cptr row o'=>
  cases c with
  |cptr row' o''=>obtain⟨rfl,rfl⟩:=hr;obtain⟨b,base,vs,T,fr,e1,e2,e3,e4⟩:=h;exact⟨b,base,vs,T,fr,by rw[him];exact e1,e2,e3,by rw[him];exact e4⟩
  |_=>exact hr.elim
 |ref q1=>
  cases c with
  |ref q=>
   obtain⟨e1,e2,e3,e4⟩:=hr;refine⟨hok _ _ e1 h.1,?_⟩;have:q.toKey=⟨q.key.root,q1.toKey.path⟩:=by simp[Pl.toKey,e2,e3,e4]
   rw[this,hγ _ _ _ e1];exact h.2
  |_=>exact hr.elim
 |clo f fs cs=>
  cases c with
  |clo g fs' cs'=>obtain⟨rfl,h1,h2⟩:=hr;obtain⟨vs,us,e1,e2,e3⟩:=h;exact⟨vs,us,e1,e2.ren2 hok hγ h1,e3.ren2 hok hγ h2⟩
  |_=>exact hr.elim
 |dead=>cases c<;>exact hr.elim
theorem qU.ren2 (hok:∀ r a,W r=some a->G1.ok a->Gc.ok r)(hγ:∀ r a π,W r=some a->Gc.γ ⟨r,π⟩=G1.γ ⟨a,π⟩)(him:Gc.im=G1.im){k1 k rows1 rows}(hr:yS W rows1 rows)(hp:k.path≠[]↔k1.path≠[])(hk:Gc.γ k=G1.γ k1)(hsub:∀ r o,Gc.γ (⟨k,r,o⟩:Pl).toKey=G1.γ (⟨k1,r,o⟩:Pl).toKey)(h:qU G1 w k1 rows1):qU Gc w k rows:=by
 have hlen:rows.length=rows1.length:=by simpa using (congrArg List.length hr.1).symm
 rcases h with(⟨n1,n2,n3⟩|⟨x,es,ents,clock,rfl,g1,g2,g3,g4,g5,g6⟩)|⟨x,vs,T,e1,e2,e3,e4,e5,e6,e7,e8,e9⟩
 . subst n2;exact .inl (.inl ⟨by rw[hk];exact n1,List.eq_nil_of_length_eq_zero hlen,hp.2 n3⟩)
 . obtain rfl:=qxV hr.1 (hr.2.2 0 0 es rfl);exact .inl (.inr ⟨x,es,ents,clock,rfl,Decidable.byContradiction fun hn=>hp.1 hn g1,by rw[hk];exact g2,g3,by rw[him];exact g4,g5,by rw[him];exact g6⟩)
 refine .inr ⟨x,vs,T,by rw[hk];exact e1,e2,by rw[him];exact e3,e4,fun row hrow=>?_,by rw[hlen];exact e6,by rw[hlen];exact e7,fun hk=>⟨(e8 (hp.1 hk)).1,fun r o c hc=>?_⟩,fun r o c hc=>?_⟩
 . have:row.length∈rows1.map List.length:=by rw[hr.1];exact List.mem_map_of_mem hrow
   obtain⟨row1,m1,m2⟩:=List.mem_map.1 this;rw[<- m2];exact e5 _ m1
 .
  obtain⟨cc,d1,d2⟩:=hr.2.1 r o c hc;have:=(e8 (hp.1 hk)).2 r o cc d1;rcases d2 with rfl|d2
  . rfl
  . cases cc<;>cases c<;>simp_all[qw,RenC]
 .
  obtain⟨cc,d1,d2⟩:=hr.2.1 r o c hc;obtain⟨u,hu,hh⟩:=e9 r o cc d1;refine⟨u,hu,?_⟩;rcases d2 with rfl|d2
  . exact hh.one
  . exact Sh.ren2 hok hγ him d2 (fun _=>hsub r o) hh
end
theorem za:∀ (bx:List (List Cell)) (n:Nat) (r:Root) (l:List Cell),(qd n bx).lookup r=some l->∃ i,r=.par (n+i)/\bx[i]? = some l
 |[],n,r,l,e=>by simp[qd]at e
 |b::bx,n,r,l,e=>by
  simp only[qd,List.lookup_cons]at e;by_cases h:r=.par n
  . subst h;simp only[beq_self_eq_true,aa]at e;subst e;exact⟨0,rfl,rfl⟩
  . have:(r==Root.par n)=false:=by simp[h]
    rw[this]at e;obtain⟨i,h1,h2⟩:=za bx (n+1) r l e;exact⟨i+1,by rw[h1];congr 1;omega,by simpa using h2⟩
theorem qbj:∀ (bx:List (List Cell)) (n i:Nat),(qd n bx).lookup (.par (n+i))=bx[i]?
 |[],n,i=>by simp[qd]
 |b::bx,n,0=>by simp[qd]
 |b::bx,n,i+1=>by
  have:(Root.par (n+(i+1))==Root.par n)=false:=by simp
  simp only[qd,List.lookup_cons,this];have:=qbj bx (n+1) i;rw[show n+1+i=n+(i+1)by omega]at this;rw[this];simp
def qo0 (xss:List (List (Option Pl)))(j o:Nat):Option Pl:=match xss[j]? with
 |some xs=>match xs[o]? with
  |some (some s)=>some s
  |_=>none
 |none=>none
theorem ZH {xss j o s}(h:qo0 xss j o=some s):∃ xs,xss[j]? = some xs/\xs[o]? = some (some s):=by
 unfold qo0 at h;split at h
 .
  rename_i xs hx;split at h
  . rename_i s' hs;cases h;exact⟨xs,hx,hs⟩
  . cases h
 . cases h
theorem qaP:∀ {xss:List (List (Option Pl))},(xss.flatten.filterMap id).Nodup->∀ {j o j' o':Nat} {s:Pl},qo0 xss j o=some s->qo0 xss j' o'=some s->j=j'/\o=o'
 |[],_,j,o,j',o',s,h,_=>by simp[qo0]at h
 |xs::xss,hn,j,o,j',o',s,h,h'=>by
  rw[List.flatten_cons,List.filterMap_append,List.nodup_append]at hn;obtain⟨n1,n2,n3⟩:=hn;have inhd:∀ {o},qo0 (xs::xss) 0 o=some s->xs[o]? = some (some s):=fun e=>by obtain⟨ys,e1,e2⟩:=ZH e;simp only[aJ,aa]at e1;subst e1;exact e2
  have shift:∀ {j o},qo0 (xs::xss) (j+1) o=qo0 xss j o:=fun {j o}=>by simp[qo0]
  have inm:∀ {j o},qo0 xss j o=some s->s∈xss.flatten.filterMap id:=fun e=>by obtain⟨ys,e1,e2⟩:=ZH e;simp only[List.mem_filterMap,id,exists_eq_right,List.mem_flatten];exact⟨ys,aN e1,aN e2⟩
  have inm0:∀ {o},xs[o]? = some (some s)->s∈xs.filterMap id:=fun e=>by simp only[List.mem_filterMap,id,exists_eq_right];exact aN e
  cases j with
  |zero=>
   cases j' with
   |zero=>exact⟨rfl,ZN.2 n1 _ _ _ (inhd h) (inhd h')⟩
   |succ j'=>exact absurd rfl (n3 s (inm0 (inhd h)) s (inm (by rw[shift]at h';exact h')))
  |succ j=>
   cases j' with
   |zero=>exact absurd rfl (n3 s (inm0 (inhd h')) s (inm (by rw[shift]at h;exact h)))
   |succ j'=>rw[shift]at h h';obtain⟨rfl,rfl⟩:=qaP n2 h h';exact⟨rfl,rfl⟩
theorem Args.get {G w F}:∀ {j0:Nat} {xss:List (List (Option Pl))} {vs:List AV} {Vs:List Value},Args G w F (fun _=>true) j0 xss vs Vs->vs.length=Vs.length /\
  ∀ (j:Nat) v,vs[j]? = some v->∃ xs V,xss[j]? = some xs/\Vs[j]? = some V/\qcq G w F xs v V
 |_,[],[],[],_=>⟨rfl,by simp⟩
 |j0,xs::xss,v::vs,V::Vs,⟨h1,h2⟩=>by
  obtain⟨g1,g2⟩:=h2.get;rw[aF rfl]at h1;refine⟨by simp[g1],fun j v' e=>?_⟩;cases j with
  |zero=>simp only[aJ,aa]at e;subst e;exact⟨xs,V,rfl,rfl,h1⟩
  |succ j=>simpa using g2 j v' (by simpa using e)
 |_,[],[],_::_,h=>h.elim
 |_,[],_::_,_,h=>h.elim
 |_,_::_,[],_,h=>h.elim
 |_,_::_,_::_,[],h=>h.elim
def Gh.enter (G:Gh)(roots:List Root)(xss:List (List (Option Pl))):Gh where
 γ k:=match k.root with
  |.par i=>match roots[i]? with
   |some r=>G.γ ⟨r,k.path⟩
   |none=>none
  |.slot j=>match k.path with
   |(0,o)::π=>match qo0 xss j o with
    |some s=>G.γ (s.under π)
    |none=>none
   |_=>none
  |_=>none
 im:=G.im
 lv _:=False
theorem vL {G:Gh}{roots xss k x}(e:(G.enter roots xss).γ k=some x):
  (∃ i r,k.root=.par i/\roots[i]? = some r/\G.γ ⟨r,k.path⟩=some x)\/(∃ j o π s,k=⟨.slot j,(0,o)::π⟩/\qo0 xss j o=some s/\G.γ (s.under π)=some x):=by
 obtain⟨r,path⟩:=k;unfold Gh.enter at e;simp only at e;cases r with
 |par i=>
  simp only at e;cases h:roots[i]? with
  |none=>simp[h]at e
  |some r=>rw[h]at e;exact .inl ⟨i,r,rfl,h,e⟩
 |slot j=>
  simp only at e;split at e
  . rename_i o π;split at e
    . rename_i s hs;exact .inr ⟨j,o,π,s,rfl,hs,e⟩
    . cases e
  . cases e
 |_=>simp at e
theorem qio {G w F ts}(h:RelF G w F ts){xss args Vs}(ha:Args G w F (fun _=>true) 0 xss args Vs)(hd:(xss.flatten.filterMap id).Nodup){roots}(hr:roots.Nodup){args' bx}(e1:mapO (renV (idxOf roots)) args=some args')(e2:mapO (qbl F (idxOf roots)) roots=some bx):
  RelF (G.enter roots xss) w ⟨args',qd 0 bx⟩ Vs.toArray /\
   (∀ k1 x,(G.enter roots xss).γ k1=some x->∃ k,G.γ k=some x/\((∃ i:Nat,roots[i]? = some k.root)\/(k.path≠[]/\¬ Uses F k))) /\
   (∀ (i:Nat) r,roots[i]? = some r->r.boxed=true/\∃ l,F.boxes.lookup r=some l):=by
 obtain⟨a1,a2⟩:=ha.get;obtain⟨m1,m2⟩:=zM e1;obtain⟨n1,n2⟩:=zM e2;have hroot:∀ (i:Nat) r,roots[i]? = some r->∃ l l',r.boxed=true/\F.boxes.lookup r=some l/\mapO (renC (idxOf roots)) l=some l'/\bx[i]? = some l':=by
  intro i r hi;have hlt:i<bx.length:=by rw[n1];exact(az.1 hi).1
  obtain⟨r',h1,h2⟩:=n2 i _ (ax hlt);rw[hi]at h1;cases h1;unfold qbl at h2;split at h2
  . rename_i hb;simp only[Option.bind_eq_some_iff]at h2;obtain⟨l,h3,h4⟩:=h2;exact⟨l,_,hb,h3,h4,ax hlt⟩
  . cases h2
 have src:∀ {j o s},qo0 xss j o=some s->(∃ k a b,s=⟨⟨.slot k,[]⟩,a,b⟩)/\∀ π,¬ Uses F (s.under π):=by
  intro j o s e;obtain⟨xs,f1,f2⟩:=ZH e;have hlt:j<xss.length:=(az.1 f1).1;have:∃ v,args[j]? = some v:=by
   have hl:xss.length=args.length:=by
    clear m1 m2 hroot n1 n2 e1 e2 e f1 f2 hlt a1 a2 hd;generalize (0:Nat)=z at ha
    induction xss generalizing z args Vs with
    |nil=>cases args<;>cases Vs<;>first|rfl|exact ha.elim
    |cons x xss ih=>cases args<;>cases Vs<;>first|exact ha.elim|(simp[ih _ ha.2])
   exact⟨_,ax (by omega)⟩
  obtain⟨v,hv⟩:=this;obtain⟨xs',V,g1,g2,l,us,g3,_⟩:=a2 j v hv;rw[f1]at g1;cases g1;have ho:o<l.length:=by rw[<- g3.len.1];exact(az.1 f2).1
  obtain⟨x,u,i1,i2,i3⟩:=g3.get (ax ho);rw[f2]at i1;cases i1;exact⟨i3.1,i3.2.2.2.2⟩
 have hW:∀ r r',idxOf roots r=some r'->yP roots r'=some r:=fun r r' e=>by obtain⟨i,rfl,h2⟩:=xu e;exact h2
 have hγ:∀ r a π,yP roots r=some a->(G.enter roots xss).γ ⟨r,π⟩=G.γ ⟨a,π⟩:=by
  intro r a π e;cases r with
  |par i=>simp only[yP]at e;simp only[Gh.enter,e]
  |_=>simp[yP]at e
 have hok:∀ r a,yP roots r=some a->G.ok a->(G.enter roots xss).ok r:=by
  intro r a e _;cases r with
  |par i=>trivial
  |_=>simp[yP]at e
 refine⟨⟨⟨fun k k' x x' e e' hb=>?_,fun k x e=>?_,h.inv.imlt,h.inv.glob⟩,by simp[m1,a1],fun j v' e=>?_,fun r l e=>?_,fun d hd=>hd.elim,fun k rows e hi=>?_⟩,fun k1 x e=>?_,fun i r hi=>?_⟩
 .
  rcases vL e with⟨i,r,f1,f2,f3⟩|⟨j,o,π,s,rfl,f2,f3⟩
  . rcases vL e' with⟨i',r',f1',f2',f3'⟩|⟨j',o',π',s',rfl,f2',f3'⟩
    . have:=h.inv.inj _ _ _ _ f3 f3' hb;simp only[Key.mk.injEq]at this;obtain⟨rfl,hp⟩:=this;have:=qdD hr f2 f2';subst this;cases k;cases k';simp_all
    . have:=h.inv.inj _ _ _ _ f3 f3' hb;obtain⟨⟨k0,a,b,rfl⟩,_⟩:=src f2';obtain⟨_,_,hb,_⟩:=hroot i r f2;simp only[Pl.under,Key.mk.injEq]at this;rw[this.1]at hb;simp[Root.boxed]at hb
  . rcases vL e' with⟨i',r',f1',f2',f3'⟩|⟨j',o',π',s',rfl,f2',f3'⟩
    . have:=h.inv.inj _ _ _ _ f3 f3' hb;obtain⟨⟨k0,a,b,rfl⟩,_⟩:=src f2;obtain⟨_,_,hb,_⟩:=hroot i' r' f2';simp only[Pl.under,Key.mk.injEq]at this;rw[<- this.1]at hb;simp[Root.boxed]at hb
    . have:=h.inv.inj _ _ _ _ f3 f3' hb;obtain⟨⟨k0,a,b,rfl⟩,_⟩:=src f2;obtain⟨⟨k0',a',b',rfl⟩,_⟩:=src f2';simp only[Pl.under,Key.mk.injEq,Root.slot.injEq,List.nil_append,List.cons.injEq,ai]at this;obtain⟨rfl,⟨rfl,rfl⟩,rfl⟩:=this;obtain⟨rfl,rfl⟩:=qaP hd f2 f2';rfl
 .
  rcases vL e with⟨i,r,f1,f2,f3⟩|⟨j,o,π,s,rfl,f2,f3⟩
  . exact h.inv.lt _ _ f3
  . exact h.inv.lt _ _ f3
 .
  obtain⟨v,f1,f2⟩:=m2 j v' e;obtain⟨xs,V,g1,g2,l,us,g3,g4⟩:=a2 j v f1;refine⟨V,by simpa using g2,?_⟩;have hrows:v.rows=[l]:=by rcases g4 with⟨rfl,_⟩|⟨c,rfl,rfl,_⟩<;>rfl
  unfold renV at f2;cases hm:mapO (mapO (renC (idxOf roots))) v.rows with
  |none=>simp[hm]at f2
  |some rows'=>
   simp only[hm,aa]at f2;subst f2;have rr:=Qf hW hm;rw[hrows]at rr;refine⟨?_,fun r o c hc=>?_⟩
   . simp only[<- rr.1];rcases g4 with⟨rfl,rfl⟩|⟨c,rfl,rfl,rfl⟩
     . exact⟨_,rfl,by simp[g3.len.2]⟩
     . trivial
   .
    obtain⟨c1,d1,d2⟩:=rr.2.1 r o c hc;obtain⟨rfl,d3⟩:=zI d1;obtain⟨x,u,i1,i2,i3⟩:=g3.get d3;refine⟨u,?_,?_⟩
    .
     rcases g4 with⟨rfl,rfl⟩|⟨c,rfl,rfl,rfl⟩
     . simpa [qX,AV.ag]using i2
     . cases o with
       |zero=>simpa [qX,AV.c]using i2
       |succ o=>simp at d3
    .
     rcases d2 with rfl|d2
     . exact .inl rfl
     . right;cases x with
       |none=>exact Sh.ren2 hok hγ rfl d2 (fun hn=>absurd i3.1 hn) (i3.2.2.2.2 ⟨⟨.res,[]⟩,0,0⟩)
       |some s=>
        refine Sh.ren2 hok hγ rfl d2 (fun _=>?_) i3.2.2.1;have:qo0 xss j o=some s:=by simp[qo0,g1,i1]
        simp only[Gh.enter,Pl.toKey,List.nil_append,this];rfl
 . obtain⟨i,h1,h2⟩:=za _ _ _ _ e;rw[h1];exact⟨rfl,trivial⟩
 .
  obtain⟨r,path⟩:=k;cases r with
  |slot j=>
   have hπ:path≠[]:=by
    rcases hi with hi|hi
    . exact hi
    . simp[Root.boxed]at hi
   cases path with
   |nil=>exact absurd rfl hπ
   |cons y π=>
    obtain⟨r,o⟩:=y;unfold Fr.rowsAt at e;simp only[Fr.rows]at e;cases hj:args'[j]? with
    |none=>simp[hj]at e
    |some v'=>
     simp only[hj,av,ae]at e;obtain⟨v,f1,f2⟩:=m2 j v' hj;obtain⟨xs,V,g1,g2,l,us,g3,g4⟩:=a2 j v f1;have hrows:v.rows=[l]:=by rcases g4 with⟨rfl,_⟩|⟨c,rfl,rfl,_⟩<;>rfl
     unfold renV at f2;cases hm:mapO (mapO (renC (idxOf roots))) v.rows with
     |none=>simp[hm]at f2
     |some rows'=>
      simp only[hm,aa]at f2;subst f2;have rr:=Qf hW hm;rw[hrows]at rr;have e':=rr.getR e;simp only[getR]at e';cases hc:cellAt [l] r o with
      |none=>simp[hc]at e'
      |some c=>
       rw[hc]at e';obtain⟨rfl,d3⟩:=zI hc;obtain⟨x,u,i1,i2,i3⟩:=g3.get d3;cases x with
       |none=>
        cases c with
        |own zz rs=>exact absurd rfl (i3.1.1 zz rs)
        |_=>simp at e'
       |some s=>
        have hs:qo0 xss j o=some s:=by simp[qo0,g1,i1]
        have hc':subR c π=some rows:=by cases c<;>first|exact e'|simp at e'
        have tr:=i3.2.2.2.1 π rows hc';have hp:=fun r o c (e:cellAt _ r o=some c)=>tr.pure (by simp[Pl.under]) e;refine qU.ren2 (W:=yP roots) hok hγ rfl (.pure hp) (by simp[Pl.under]) ?_ (fun r' o'=>?_) tr
        . simp only[Gh.enter,hs]
        . simp only[Gh.enter,Pl.toKey,List.cons_append,hs,Pl.under,List.append_assoc]
  |par i=>
   unfold Fr.rowsAt at e;have hns:∀ k,Root.par i≠.slot k:=by simp
   simp only at e;rw[Fr.rows_ns _ hns]at e;cases hb:(qd 0 bx).lookup (.par i)with
   |none=>simp[hb]at e
   |some l'=>
    simp only[hb,av,ae]at e;obtain⟨i',h1,h2⟩:=za _ _ _ _ hb;have:i'=i:=by simpa using h1.symm
    subst this;have hlt:i'<roots.length:=by rw[<- n1];exact(az.1 h2).1
    obtain⟨l,l'',q1,q2,q3,q4⟩:=hroot i' _ (ax hlt);rw[h2]at q4;cases q4;have rr:=qbh hW q3;have hW':yP roots (.par i')=some roots[i']:=by simp[yP,hlt]
    have hns':∀ k,roots[i']≠.slot k:=fun k e=>by rw[e]at q1;simp[Root.boxed]at q1
    cases path with
    |nil=>simp only[getR,aa]at e;subst e;refine qU.ren2 (W:=yP roots) (k1:=⟨roots[i'],[]⟩) hok hγ rfl rr (by simp) (hγ _ _ _ hW') (fun r' o'=>hγ _ _ _ hW') (h.cont _ _ ?_ (.inr q1));simp only[Fr.rowsAt,F.rows_ns hns',q2,av,ae,getR]
    |cons y π=>
     have hF:F.rowsAt ⟨roots[i'],y::π⟩=some rows:=by simp only[Fr.rowsAt,F.rows_ns hns',q2,av,ae];exact rr.getR e
     have tr:=h.cont _ _ hF (.inl (by simp));exact qU.ren2 (W:=yP roots) hok hγ rfl (.pure fun r o c e=>tr.pure (by simp) e) (by simp) (hγ _ _ _ hW') (fun r' o'=>hγ _ _ _ hW') tr
  |loc d=>
   exfalso;unfold Fr.rowsAt at e;have hns:∀ k,Root.loc d≠.slot k:=by simp
   simp only at e;rw[Fr.rows_ns _ hns]at e;cases hb:(qd 0 bx).lookup (.loc d)with
   |none=>simp[hb]at e
   |some l'=>obtain⟨i',h1,h2⟩:=za _ _ _ _ hb;cases h1
  |res=>
   exfalso;unfold Fr.rowsAt at e;have hns:∀ k,Root.res≠.slot k:=by simp
   simp only at e;rw[Fr.rows_ns _ hns]at e;cases hb:(qd 0 bx).lookup .res with
   |none=>simp[hb]at e
   |some l'=>obtain⟨i',h1,h2⟩:=za _ _ _ _ hb;cases h1
 .
  rcases vL e with⟨i,r,f1,f2,f3⟩|⟨j,o,π,s,rfl,f2,f3⟩
  . exact⟨_,f3,.inl ⟨i,f2⟩⟩
  . exact⟨_,f3,.inr ⟨by simp[Pl.under],(src f2).2 π⟩⟩
 . obtain⟨l,l',q1,q2,_⟩:=hroot i r hi;exact⟨q1,l,q2⟩
end
section
variable [Glob]
def yA (roots:List Root)(c:Cell):Cell:=roots.foldl (fun c r=>yz r c) c
theorem qdl (roots):yA roots .dead=.dead:=by
 induction roots with
 |nil=>rfl
 |cons r l ih=>exact ih
theorem qck (roots)(c):yA roots c=.dead\/(yA roots c=c/\∀ r∈roots,yz r c=c):=by
 induction roots with
 |nil=>exact .inr ⟨rfl,by simp⟩
 |cons r l ih=>
  show yA l (yz r c)=.dead\/_;rcases qP r c with h|h
  .
   rcases ih with ih|⟨i1,i2⟩
   . left;rw[h];exact ih
   . right;refine⟨by show yA l (yz r c)=c;rw[h];exact i1,fun r' hr=>?_⟩;rcases List.mem_cons.1 hr with rfl|hr
     . exact h
     . exact i2 r' hr
  . left;rw[h];exact qdl l
theorem qdH (f g):∀ bs:List (Root×List Cell),mapB g (mapB f bs)=mapB (fun c=>g (f c)) bs
 |[]=>rfl
 |(r,l)::bs=>by simp[mapB,qdH f g bs,Function.comp_def]
theorem qgZ:∀ bs:List (Root×List Cell),mapB (fun c=>c) bs=bs
 |[]=>rfl
 |(r,l)::bs=>by simp[mapB,qgZ bs]
theorem qgX (F:Fr)(f g):(F.mapC f).mapC g=F.mapC (fun c=>g (f c)):=by unfold Fr.mapC;simp only[qdH,List.map_map];congr 1;apply List.map_congr_left;intro v _;simp[AV.mapC,Function.comp_def]
theorem vT:∀ (roots:List Root) (F:Fr),yj F roots=F.mapC (yA roots)
 |[],F=>by
  show F=F.mapC (fun c=>c);unfold Fr.mapC;rw[qgZ];have:F.slots.map (fun v=>v.mapC fun c=>c)=F.slots:=by
   conv=>rhs;rw[<- List.map_id F.slots]
   apply List.map_congr_left;intro v _;simp[AV.mapC]
  rw[this]
 |r::l,F=>by show yj (F.killR r) l=_;rw[vT l,Fr.killR,qgX];rfl
theorem yE:∀ (roots:List Root) (ls:List (List Cell)) (F:Fr),(qu0 F roots ls).slots=F.slots
 |[],_,F=>by simp[qu0]
 |_::_,[],F=>by simp[qu0]
 |r::roots,l::ls,F=>by show(qu0 { F with boxes:=YQ r l F.boxes } roots ls).slots=_;rw[yE]
theorem vB:∀ (roots:List Root) (ls:List (List Cell)) (F:Fr) (r:Root),r∉roots->(qu0 F roots ls).boxes.lookup r=F.boxes.lookup r
 |[],_,F,r,_=>by simp[qu0]
 |_::_,[],F,r,_=>by simp[qu0]
 |r0::roots,l::ls,F,r,h=>by simp only[List.mem_cons,not_or]at h;show(qu0 { F with boxes:=YQ r0 l F.boxes } roots ls).boxes.lookup r=_;rw[vB roots ls _ r h.2,yu,aG h.1]
theorem qbr:∀ (roots:List Root) (ls:List (List Cell)) (F:Fr),roots.Nodup->roots.length=ls.length->(∀ r∈roots,(F.boxes.lookup r).isSome=true) ->
  ∀ (i:Nat) r,roots[i]? = some r->(qu0 F roots ls).boxes.lookup r=ls[i]?
 |[],_,F,_,_,_,i,r,h=>by simp at h
 |_::_,[],F,_,hl,_,i,r,h=>by simp at hl
 |r0::roots,l::ls,F,hn,hl,hs,i,r,h=>by
  obtain⟨n1,n2⟩:=List.nodup_cons.1 hn;show(qu0 { F with boxes:=YQ r0 l F.boxes } roots ls).boxes.lookup r=_;cases i with
  |zero=>simp only[aJ,aa]at h;subst h;rw[vB roots ls _ _ n1,yu,aF rfl,aF (hs _ au)];rfl
  |succ i=>
   refine qbr roots ls _ n2 (by simpa using hl) (fun r' hr'=>?_) i r (by simpa using h);simp only;rw[yu];split
   . rw[aF (hs _ au)];rfl
   . exact hs r' (aB _ hr')
def retW (dst:Option Nat)(roots:List Root)(r:Root):Option Root:=if dst.map Root.slot=some r then some (.slot 0)else idxOf roots r
def qdQ (dst:Option Nat)(roots:List Root)(c:Cell):Cell:=match dst with
 |some d=>zn (.slot d) (yA roots c)
 |none=>yA roots c
theorem qf2 {dst roots}(hb:∀ r∈roots,r.boxed=true)(c)(hclo:∀ f fs cs q,c=.clo f fs cs->.ptr q∈fs++cs->q.key.path=[]):
  qdQ dst roots c=.dead\/(qdQ dst roots c=c/\qdX (retW dst roots) c):=by
 have hW:∀ r,r∉roots->(∀ d,dst=some d->r≠.slot d)->retW dst roots r=none:=by
  intro r hr hd;unfold retW;rw[aG]
  . cases hx:idxOf roots r with
    |none=>rfl
    |some a=>obtain⟨i,_,h2⟩:=xu hx;exact absurd (aN h2) hr
  . cases dst with
    |none=>simp
    |some d=>simpa using fun e=>hd d rfl e.symm
 have fin:∀ q:Pl,(q.key.root∈roots->q.key.path=[])->(∀ d,dst=some d->q.key.root≠.slot d)->qeH (retW dst roots) q:=by
  intro q h1 h2;by_cases hm:q.key.root∈roots
  . exact .inr ⟨h1 hm,hb _ hm⟩
  . exact .inl (hW _ hm h2)
 have hk:∀ c',yA roots c=c'->c'=.dead\/(c'=c/\∀ r∈roots,yz r c=c):=fun c' e=>by
  rcases qck roots c with h|⟨h1,h2⟩
  . exact .inl (by rw[<- e,h])
  . exact .inr ⟨by rw[<- e,h1],h2⟩
 have good:(∀ r∈roots,yz r c=c)->(∀ d,dst=some d->zn (.slot d) c=c)->qdX (retW dst roots) c:=by
  intro h1 h2;cases c with
  |ptr q=>
   refine fin q (fun hm=>?_) (fun d hd e=>?_)
   . have:=h1 _ hm;simp only[yz,decide_true,Bool.true_and]at this;cases hp:q.key.path with
     |nil=>rfl
     |cons x l=>simp[hp]at this
   . have:=h2 d hd;simp[zn,e]at this
  |ref q=>
   show retW dst roots q.key.root=none;refine hW _ (fun hm=>?_) (fun d hd e=>?_)
   . have:=h1 _ hm;simp[yz]at this
   . have:=h2 d hd;simp[zn,e]at this
  |clo f fs cs=>
   intro q hq;refine fin q (fun _=>hclo f fs cs q rfl hq) (fun d hd e=>?_);have:=h2 d hd;simp only[zn]at this;split at this
   . cases this
   . rename_i hn;apply hn;rw[List.any_eq_true];exact⟨.ptr q,hq,by simpa using e⟩
  |_=>trivial
 cases dst with
 |none=>
  rcases hk _ rfl with h|⟨h,h'⟩
  . exact .inl h
  . exact .inr ⟨h,good h' (by simp)⟩
 |some d=>
  show zn (.slot d) (yA roots c)=.dead\/_;rcases hk _ rfl with h|⟨h,h'⟩
  . left;rw[h];rfl
  . rcases yN (.slot d) c with hc|hc
    . right;refine⟨by show zn (.slot d) (yA roots c)=c;rw[h,hc],good h' (fun d' e=>by cases e;exact hc)⟩
    . left;rw[h,hc]
theorem qfU {W f rows}(hf:∀ r o c,cellAt rows r o=some c->f c=.dead\/(f c=c/\qdX W c))(hm:∀ es,f (.mpb es)=.mpb es):yJ W rows (rows.map (·.map f)):=by
 refine⟨by rw[Zn],fun r o c' hc=>?_,fun r o es h=>?_⟩
 .
  obtain⟨c,h1,rfl⟩:=zH hc;refine⟨c,h1,?_⟩;rcases hf r o c h1 with h|⟨h2,h3⟩
  . exact .inl h
  . right;rw[h2];exact⟨rfl,h3⟩
 . rw[qvL,h,av,hm]
theorem qwm (es):∀ roots:List Root,yA roots (.mpb es)=.mpb es
 |[]=>rfl
 |_::l=>qwm es l
theorem qx9 (dst roots)(es):qdQ dst roots (.mpb es)=.mpb es:=by
 unfold qdQ;cases dst with
 |none=>exact qwm es roots
 |some d=>simp only[qwm];rfl
theorem RelF.clo_ptr {G w F ts}(h:RelF G w F ts){x c}(e:F.get x=some c):∀ f fs cs q,c=.clo f fs cs->.ptr q∈fs++cs->q.key.path=[]:=by intro f fs cs q hc hq;subst hc;exact h.clo_path e (by simp only[deps,List.mem_filterMap];exact⟨.ptr q,hq,rfl⟩)
theorem Qg {G2 GR G1 w w' B ts ts1}(h2:RelF G2 w B ts){roots}(hn:roots.Nodup)(hroot:∀ (i:Nat) r,roots[i]? = some r->r.boxed=true/\∃ l,B.boxes.lookup r=some l)(hg:Gain GR w G1 w')(him:GR.im=G2.im)(hsrc:∀ k1 x,GR.γ k1=some x->∃ k,G2.γ k=some x/\((∃ i:Nat,roots[i]? = some k.root)\/(k.path≠[]/\¬ Uses B k)))(hpar:∀ (i:Nat) r,roots[i]? = some r->GR.γ ⟨.par i,[]⟩=G2.γ ⟨r,[]⟩){sl bx' bx''}(h1:RelF G1 w' ⟨sl,qd 0 bx'⟩ ts1)(eb:mapO (mapO (renC (yP roots))) bx'=some bx'')(hlen:bx'.length=roots.length){dst v' V}{a:Act}(hts:ts=a.tmps)(hv:∀ d,dst=some d->∃ v,sl[0]? = some v/\ts1[0]? = some V/\renV (yP roots) v=some v'):
  ∃ G',RelF G' w' ((qu0 (yj B roots) roots bx'').putK dst v') (a.put dst V).tmps/\Gain G2 w G' w':=by
 subst hts;have hb:∀ r∈roots,r.boxed=true:=fun r hr=>by obtain⟨i,hi⟩:=List.getElem?_of_mem hr;exact(hroot i r hi).1
 have hsome:∀ r∈roots,((yj B roots).boxes.lookup r).isSome=true:=fun r hr=>by obtain⟨i,hi⟩:=List.getElem?_of_mem hr;obtain⟨_,l,hl⟩:=hroot i r hi;rw[vT];simp[Fr.mapC,qH,hl]
 obtain⟨m1,m2⟩:=zM eb;have hl2:roots.length=bx''.length:=by rw[m1,hlen]
 have hU:∀ r r',yP roots r=some r'->retW dst roots r'=some r:=by
  intro r r' e;cases r with
  |par i=>
   simp only[yP]at e;unfold retW;rw[aG,qiG hn e];intro hd;have:=hb r' (aN e);cases dst with
   |none=>cases hd
   |some d=>simp only[av,aa]at hd;subst hd;simp[Root.boxed]at this
  |_=>simp[yP]at e
 let F:=(qu0 (yj B roots) roots bx'').putK dst v'
 -- the slots of the frame
 have slots:∀ k v,F.slots[k]? = some v->(dst=some k/\v=v'/\k<B.slots.length)\/(dst≠some k/\∃ v0,B.slots[k]? = some v0/\v=v0.mapC (qdQ dst roots)):=by
  intro k v e;have base:(qu0 (yj B roots) roots bx'').slots=B.slots.map (·.mapC (yA roots)):=by rw[yE,vT];rfl
  cases dst with
  |none=>right;refine⟨by simp,?_⟩;have e':(qu0 (yj B roots) roots bx'').slots[k]? = some v:=e;rw[base,aI]at e';simp only[aH]at e';obtain⟨v0,e1,rfl⟩:=e';exact⟨v0,e1,rfl⟩
  |some d=>
   have e':((((qu0 (yj B roots) roots bx'').slots.map (·.mapC (zn (.slot d)))).set d v')[k]?)=some v:=e;rw[base,List.getElem?_set]at e';by_cases hk:d=k
   . subst hk;simp only[if_true,List.length_map]at e';split at e'
     . rename_i hlt;simp only[aa]at e';exact .inl ⟨rfl,e'.symm,hlt⟩
     . cases e'
   . rw[aG hk]at e';right;refine⟨by simpa using hk,?_⟩;rw[aI,aI]at e';simp only[aH]at e';obtain⟨v1,⟨v0,e1,rfl⟩,rfl⟩:=e';refine⟨v0,e1,?_⟩;simp[AV.mapC,qdQ,Function.comp_def]
 have boxes:∀ r,(∀ (i:Nat),roots[i]? = some r->∃ l'',bx''[i]? = some l''/\∃ f:Cell->Cell,((∀ c,f c=c\/f c=.dead)/\∀ es,f (.mpb es)=.mpb es)/\F.boxes.lookup r=some (l''.map f)) /\
   (r∉roots->F.boxes.lookup r=(B.boxes.lookup r).map (·.map (qdQ dst roots))):=by
  intro r;constructor
  .
   intro i hi;have hx:=qbr roots bx'' (yj B roots) hn hl2 hsome i r hi;have hlt:i<bx''.length:=by rw[<- hl2];exact(az.1 hi).1
   refine⟨_,ax hlt,?_⟩;rw[ax hlt]at hx;cases dst with
   |none=>exact⟨fun c=>c,⟨fun c=>.inl rfl,fun _=>rfl⟩,by rw[List.map_id'];exact hx⟩
   |some d=>refine⟨zn (.slot d),⟨yN _,fun _=>rfl⟩,?_⟩;show(mapB (zn (.slot d)) (qu0 (yj B roots) roots bx'').boxes).lookup r=_;rw[qH,hx];rfl
  .
   intro hr;have hx:=vB roots bx'' (yj B roots) r hr;have hy:(yj B roots).boxes.lookup r=(B.boxes.lookup r).map (·.map (yA roots)):=by rw[vT];exact qH _ _ _
   rw[hy]at hx;cases dst with
   |none=>exact hx
   |some d=>show(mapB (zn (.slot d)) (qu0 (yj B roots) roots bx'').boxes).lookup r=_;rw[qH,hx];simp only[Option.map_map,Function.comp_def,List.map_map];rfl
 have isSome:∀ r,(F.boxes.lookup r).isSome=(B.boxes.lookup r).isSome:=by
  intro r;by_cases hr:r∈roots
  . obtain⟨i,hi⟩:=List.getElem?_of_mem hr;obtain⟨l'',_,f,_,hf⟩:=(boxes r).1 i hi;obtain⟨_,l,hl⟩:=hroot i r hi;rw[hf,hl];rfl
  . rw[(boxes r).2 hr];simp
 have len:F.slots.length=(a.put dst V).tmps.size:=by
  have h0:F.slots.length=B.slots.length:=by
   show((qu0 (yj B roots) roots bx'').putK dst v').slots.length=_;cases dst with
   |none=>show(qu0 (yj B roots) roots bx'').slots.length=_;rw[yE,vT];simp[Fr.mapC]
   |some d=>simp only[Fr.putK,Fr.put,List.length_set,Fr.mapC,List.length_map];rw[yE,vT];simp[Fr.mapC]
  rw[h0,h2.size];cases dst<;>simp[Act.put]
 have tsk:∀ k,dst≠some k->(a.put dst V).tmps[k]? = a.tmps[k]?:=by
  intro k hk;cases dst with
  |none=>rfl
  |some d=>
   have:d≠k:=by simpa using hk
   simp only[Act.put];rw[aX,aG this]
 have keepc:∀ {x:Pl} {c:Cell},B.get x=some c->qdQ dst roots c=.dead\/(qdQ dst roots c=c/\qdX (retW dst roots) c):=fun e=>qf2 hb _ (h2.clo_ptr e);have sp:Spliced (retW dst roots) ⟨sl,qd 0 bx'⟩ B F ts1 a.tmps (a.put dst V).tmps:=by
  refine⟨len,fun k v e=>?_,fun r l e=>?_⟩
  .
   rcases slots k v e with⟨rfl,rfl,hlt⟩|⟨hk,v0,e0,rfl⟩
   . obtain⟨v1,f1,f2,f3⟩:=hv k rfl;have hV:(a.put (some k) V).tmps[k]? = some V:=by simp only[Act.put];rw[aX,aF rfl,aF (by rw[<- h2.size];exact hlt)]
     refine⟨V,hV,.inl ⟨0,v1,by simp[retW],f1,f2,?_⟩⟩;unfold renV at f3;cases hm:mapO (mapO (renC (yP roots))) v1.rows with
     |none=>simp[hm]at f3
     |some rows'=>simp only[hm,aa]at f3;subst f3;exact⟨rfl,Qf hU hm⟩
   .
    obtain⟨V0,g1,_⟩:=h2.slots k v0 e0;by_cases hW:retW dst roots (.slot k)=none
    . refine⟨V0,by rw[tsk k hk];exact g1,.inr (.inl ⟨hW,v0,e0,g1,rfl,qfU (fun r o c hc=>keepc (qz (zR e0) hc)) (qx9 _ _)⟩)⟩
    .
     exfalso;apply hW;unfold retW;rw[aG]
     . cases hx:idxOf roots (.slot k)with
       |none=>rfl
       |some a'=>obtain⟨i,_,hi⟩:=xu hx;have:=(hroot i _ hi).1;simp[Root.boxed]at this
     . cases dst with
       |none=>simp
       |some d=>simpa using hk
  .
   by_cases hr:r∈roots
   .
    obtain⟨i,hi⟩:=List.getElem?_of_mem hr;obtain⟨l'',q1,f,q2,q3⟩:=(boxes r).1 i hi;rw[q3]at e;cases e;obtain⟨l',q4,q5⟩:=m2 i l'' q1;left;refine⟨.par i,l',hU (.par i) r hi,by have:=qbj bx' 0 i;rw[Nat.zero_add]at this;rw[this];exact q4,?_⟩;have rr:=qbh hU q5;refine⟨by rw[rr.1];simp,fun r' o c hc=>?_,fun r' o es hc=>?_⟩
    . obtain⟨rfl,ho⟩:=zI hc;rw[aI]at ho;simp only[aH]at ho;obtain⟨c0,ho,rfl⟩:=ho;obtain⟨c1,d1,d2⟩:=rr.2.1 0 o c0 (by simp[cellAt,ho]);refine⟨c1,d1,?_⟩;rcases q2.1 c0 with h|h
      . rw[h];exact d2
      . exact .inl h
    . have h0:=rr.2.2 r' o es hc;have:=qvL f [l''] r' o;rw[h0,av,q2.2]at this;exact this
   .
    rw[(boxes r).2 hr]at e;simp only[aH]at e;obtain⟨l0,e0,rfl⟩:=e;right;have hns:∀ k,r≠.slot k:=fun k e=>by have:=(h2.boxes r l0 e0).1;rw[e]at this;simp[Root.boxed]at this
    refine⟨?_,l0,e0,?_⟩
    .
     unfold retW;rw[aG]
     . cases hx:idxOf roots r with
       |none=>rfl
       |some a'=>obtain⟨i,_,hi⟩:=xu hx;exact absurd (aN hi) hr
     . cases dst with
       |none=>simp
       |some d=>simpa using fun e=>hns d e.symm
    . have:=qfU (W:=retW dst roots) (f:=qdQ dst roots) (rows:=[l0]) (fun r' o c hc=>keepc (x:=⟨⟨r,[]⟩,r',o⟩) (qz (by simp only[Fr.rowsAt,B.rows_ns hns,e0,av,ae,getR]) hc)) (qx9 _ _);exact this
 have hidx:∀ r a',retW dst roots r=some a'->(∃ i,a'=.par i/\roots[i]? = some r)\/(dst.map Root.slot=some r/\a'=.slot 0):=by
  intro r a' e;unfold retW at e;split at e
  . rename_i hd;simp only[aa]at e;exact .inr ⟨hd,e.symm⟩
  . obtain⟨i,h1,h2⟩:=xu e;exact .inl ⟨i,h1,h2⟩
 have part:Part (retW dst roots) G2 GR G1 w w' B F:=by
  refine⟨hg,fun r r' a' e e'=>?_,fun r a' e=>?_,him,fun k1 x e=>?_,fun i a' e=>?_,fun d a' e hd=>?_,fun d a' e ho=>?_,fun d e hd=>by rw[isSome];exact h2.live d hd⟩
  .
   rcases hidx _ _ e with⟨i,rfl,hi⟩|⟨hd,rfl⟩
   . rcases hidx _ _ e' with⟨i',h',hi'⟩|⟨hd',h'⟩
     . cases h';rw[hi]at hi';exact aS hi'
     . cases h'
   . rcases hidx _ _ e' with⟨i',h',hi'⟩|⟨hd',h'⟩
     . cases h'
     . rw[hd]at hd';exact aS hd'
  .
   rcases hidx _ _ e with⟨i,rfl,hi⟩|⟨hd,rfl⟩
   . rw[(hroot i r hi).1];rfl
   . cases dst with
     |none=>cases hd
     |some d=>simp only[av,aa]at hd;subst hd;rfl
  . obtain⟨k,e1,e2⟩:=hsrc k1 x e;refine⟨k,e1,e2.imp (fun ⟨i,hi⟩=>?_) (fun h=>h)⟩;rw[hU (.par i) k.root hi];rfl
  . rcases hidx _ _ e with⟨j,rfl,hj⟩|⟨hd,rfl⟩
    . rw[hg.par j];exact hpar j _ hj
    . cases dst<;>simp at hd
  . rcases hidx _ _ e with⟨j,rfl,hj⟩|⟨hd',rfl⟩
    . exact⟨by rw[hg.par j];exact hpar j _ hj,trivial⟩
    . cases dst<;>simp at hd'
  . rcases hidx _ _ e with⟨j,rfl,hj⟩|⟨hd',rfl⟩
    . obtain⟨_,l,hl⟩:=hroot j _ hj;rw[isSome,hl];rfl
    . cases dst<;>simp at hd'
 exact⟨_,qap h2 h1 sp part⟩
end
section
variable [Glob]
theorem qiz {f c1 c}(e:renC f c1=some c):Xg c=Xg c1:=by
 cases c1 with
 |ptr q=>simp only[renC,renP,Option.map_map,aH]at e;obtain⟨r',h1,rfl⟩:=e;rfl
 |clo g fs cs=>
  simp only[renC]at e;split at e
  . simp only[aa]at e;subst e;rfl
  . cases e
 |ref q=>simp[renC]at e
 |_=>simp only[renC,aa]at e;subst e;rfl
theorem RelF.thaw {G w v ts}(h:RelF G w ⟨[v],[]⟩ ts){im0}(him:∀ b,im0 b->G.im b)(hgl:∀ b,b<Glob.n->im0 b)(hn:∀ r o c,cellAt v.rows r o=some c->Xg c=true):RelF { G with im:=im0 } w ⟨[v],[]⟩ ts where
 inv:=⟨h.inv.inj,h.inv.lt,fun b hb=>h.inv.imlt b (him b hb),fun b hb=>⟨hgl b hb,(h.inv.glob b hb).2⟩⟩
 size:=h.size
 slots k v' e:=by
  obtain⟨V,hV,hs,hr⟩:=h.slots k v' e;refine⟨V,hV,hs,fun r o c hc=>?_⟩;obtain⟨u,hu,hh⟩:=hr r o c hc;refine⟨u,hu,hh.imp (fun h=>h) fun hh=>?_⟩;have hv:v'=v:=by
   cases k with
   |zero=>simpa using e.symm
   |succ k=>simp at e
  subst hv;have:=hn r o c hc;cases c with
  |imm rows=>simp[Xg]at this
  |mp es=>simp[Xg]at this
  |cptr row o=>simp[Xg]at this
  |clo f fs cs=>obtain⟨vs,us,e1,e2,e3⟩:=hh;exact⟨vs,us,e1,qY.lv (G:=G) (G':={ G with im:=im0 }) rfl rfl e2,qY.lv (G:=G) (G':={ G with im:=im0 }) rfl rfl e3⟩
  |_=>exact hh
 boxes r l e:=by simp at e
 live d hd:=by have:=h.live d hd;simp at this
 cont k rows e hi:=by
  rcases h.cont k rows e hi with(hnl|⟨_,_,_,_,_,g1,_⟩)|⟨x,vs,T,e1,e2,e3,e4,e5,e6,e7,e8,e9⟩
  . exact .inl (.inl hnl)
  . exfalso;have hb:=hi.resolve_left (fun hn=>hn g1);unfold Fr.rowsAt at e;cases hr:k.root<;>rw[hr]at hb e<;>simp[Root.boxed,Fr.rows]at hb e
  refine .inr ⟨x,vs,T,e1,e2,fun hb=>e3 (him _ hb),e4,e5,e6,e7,e8,fun r o c hc=>?_⟩;obtain⟨u,hu,hs⟩:=e9 r o c hc;refine⟨u,hu,?_⟩;have hval:∃ u',c=.val u':=by
   obtain⟨root,path⟩:=k;cases root with
   |slot j=>
    cases path with
    |nil=>rcases hi with hi|hi<;>simp[Root.boxed]at hi
    |cons y π=>
     obtain⟨r',o'⟩:=y;cases j with
     |succ j=>simp[Fr.rowsAt,Fr.rows]at e
     |zero=>
      simp only[Fr.rowsAt,Fr.rows,aJ,av,ae,getR]at e;cases hx:cellAt v.rows r' o' with
      |none=>simp[hx]at e
      |some c'=>
       have hc':=hn r' o' c' hx;rw[hx]at e;cases c' with
       |own zz rs=>
        simp only[Xg,List.all_eq_true]at hc';have leaf:∀ {a b:Nat} {y:Cell},cellAt rs a b=some y->∃ u',y=.val u':=by
         intro a b y hy;obtain⟨row,q1,q2⟩:=qc.1 hy;have:=hc' row (aN q1) y (aN q2);cases y with
         |val u'=>exact⟨u',rfl⟩
         |_=>simp at this
        cases π with
        |nil=>simp only[getR,aa]at e;subst e;exact leaf hc
        |cons z π=>
         obtain⟨a,b⟩:=z;simp only[getR]at e;cases hy:cellAt rs a b with
         |none=>simp[hy]at e
         |some y=>obtain⟨u',rfl⟩:=leaf hy;simp[hy]at e
       |_=>simp at e
   |_=>simp[Fr.rowsAt,Fr.rows]at e
  obtain⟨u',rfl⟩:=hval;exact hs
theorem Gain.thaw {G G' w w'}(h:Gain G w G' w'){im0}(him:∀ b,im0 b->G.im b):Gain { G with im:=im0 } w { G' with im:=im0 } w' where
 out:=h.out
 size:=h.size
 im b hb:=hb
 keep b hb:=h.keep b (him b hb)
 rest b hb hn:=⟨(h.rest b hb hn).1,fun h=>h⟩
 own:=h.own
 par:=h.par
 loc:=h.loc
theorem qva.src {G w F}:∀ {xs:List (Option Pl)} {l:List Cell} {us:List Value},qva G w F xs l us->∀ s,some s∈xs->∀ π,¬ Uses F (s.under π)
 |x::xs,c::l,u::us,⟨h1,h2⟩,s,hm=>by
  rcases List.mem_cons.1 hm with rfl|hm
  . exact h1.2.2.2.2
  . exact h2.src s hm
 |[],[],[],_,s,hm=>by simp at hm
 |[],[],_::_,h,_,_=>h.elim
 |[],_::_,_,h,_,_=>h.elim
 |_::_,[],_,h,_,_=>h.elim
 |_::_,_::_,[],h,_,_=>h.elim
theorem Args.src {G w F held}:∀ {j:Nat} {xss:List (List (Option Pl))} {vs:List AV} {Vs:List Value},Args G w F held j xss vs Vs ->
  ∀ s,some s∈xss.flatten->∀ π,¬ Uses F (s.under π)
 |_,[],[],[],_,s,hm=>by simp at hm
 |j,xs::xss,v::vs,V::Vs,⟨h1,h2⟩,s,hm=>by
  rw[List.flatten_cons,List.mem_append]at hm;rcases hm with hm|hm
  . by_cases hj:held j=true
    . rw[aF hj]at h1;obtain⟨l,us,h3,_⟩:=h1;exact h3.src s hm
    . rw[aG hj]at h1;rw[h1.1]at hm;simp at hm
  . exact h2.src s hm
 |_,[],[],_::_,h,_,_=>h.elim
 |_,[],_::_,_,h,_,_=>h.elim
 |_,_::_,[],_,h,_,_=>h.elim
 |_,_::_,_::_,[],h,_,_=>h.elim
def Went (G:Gh)(w:World)(res:ARes)(bx':List (List Cell))(e:Ending)(w':World):Prop:=∃ G',Gain G w G' w'/\match res with
 |.ret v=>∃ V,e=.returned V/\RelF G' w' ⟨[v],qd 0 bx'⟩ #[V]
 |.panic v=>e=.panicked [{ v,recovered:=false }]/\RelF G' w' ⟨[],qd 0 bx'⟩ #[]
def RecSound (P:Program)(rec:Oracle):Prop:=∀ f args bx res bx',rec f args bx=some (res,bx')->∀ G w (Vs:Array Value),RelF G w ⟨args,qd 0 bx⟩ Vs->Calls P f Vs w (Went G w res bx')
def Back (G:Gh)(w:World)(a:Act)(dst:Option Nat)(F':Fr)(r:Option Value)(e:Ending)(w':World):Prop:=∃ G',Gain G w G' w'/\match r with
 |none=>∃ V,e=.returned V/\RelF G' w' F' (a.put dst V).tmps
 |some v=>e=.panicked [{ v,recovered:=false }]/\RelF G' w' F' a.tmps
theorem qaX {cx rec}{C:Nat->Array Value->World->(Ending->World->Prop)->Prop}(hmono:∀ f Vs w R R',C f Vs w R->(∀ e w',R e w'->R' e w')->C f Vs w R')(hrec:∀ f args bx res bx',rec f args bx=some (res,bx')->∀ G w (Vs:Array Value),RelF G w ⟨args,qd 0 bx⟩ Vs->C f Vs w (Went G w res bx')){G w F F' a}(h:RelF G w F a.tmps){dst f vs}{Vs:List Value}(hl:vs.length=Vs.length)(hv:∀ (j:Nat) v V,vs[j]? = some v->Vs[j]? = some V->RelV G w v V){r}(e:vZ cx rec F dst f vs=some (F',r)):
  C f Vs.toArray w (Back G w a dst F' r):=by
 unfold vZ at e;cases e1:yT cx f F 0 vs with
 |none=>simp[e1]at e
 |some y=>
  obtain⟨vs1,F1⟩:=y;simp only[e1]at e;cases e2:vg cx f F1 0 vs1 with
  |none=>simp[e2]at e
  |some z=>
   obtain⟨args,lent⟩:=z;simp only[e2]at e;generalize hroots:yl F1 3 (zm [] (args.flatMap fun v=>v.rows.flatMap fun l=>l.flatMap Xz))=roots at e;cases e3:mapO (renV (idxOf roots)) args with
   |none=>simp[e3]at e
   |some args'=>
    cases e4:mapO (qbl F1 (idxOf roots)) roots with
    |none=>simp[e3,e4]at e
    |some bx=>
     simp only[e3,e4]at e;cases e5:rec f args' bx with
     |none=>simp[e5]at e
     |some q=>
      obtain⟨res,bx'⟩:=q;simp only[e5]at e;cases e6:mapO (mapO (renC (yP roots))) bx' with
      |none=>simp[e6]at e
      |some bx''=>
       simp only[e6]at e;split at e
       .
        rename_i hc;simp only[aD,beq_iff_eq,List.all_eq_true,Bool.not_eq_true',List.contains_eq_mem,decide_eq_false_iff_not]at hc;obtain⟨⟨⟨c1,c2⟩,c3⟩,c4⟩:=hc;cases e7:zG F1 lent with
        |none=>simp[e7]at e
        |some Ff=>
         simp only[e7]at e;obtain⟨im1,xss,a1,a2,a3,a4,a5,_⟩:=vX vs Vs 0 vs1 G F F1 h hl hv e1;obtain⟨im2,b1,b2,b3,b4,b5⟩:=xE lent _ F1 Ff a1 e7;obtain⟨xss',d1,d2⟩:=Xx a1 b3 a4 e2 b4;have hn:=qb9 c4;have lk:∀ r∈roots,r.boxed=true->Ff.boxes.lookup r=F1.boxes.lookup r:=fun r hr hb=>by
          have:=b5 r (fun p hp hpr=>c1 p hp (hpr▸hr));have hns:∀ k,r≠.slot k:=fun k e=>by rw[e]at hb;simp[Root.boxed]at hb
          rw[Fr.rows_ns _ hns,Fr.rows_ns _ hns]at this;cases hx:F1.boxes.lookup r<;>cases hy:Ff.boxes.lookup r<;>simp_all
         have e4':mapO (qbl Ff (idxOf roots)) roots=some bx:=by
          have:∀ l:List Root,(∀ r∈l,r∈roots)->mapO (qbl Ff (idxOf roots)) l=mapO (qbl F1 (idxOf roots)) l:=by
           intro l
           induction l with
           |nil=>intro _;rfl
           |cons r l ih=>
            intro hm;have hb:qbl Ff (idxOf roots) r=qbl F1 (idxOf roots) r:=by
             unfold qbl;by_cases hb:r.boxed=true
             . rw[aF hb,aF hb,lk r (hm r au) hb]
             . rw[aG hb,aG hb]
            simp only[mapO,hb,ih (fun r' hr'=>hm r' (aB _ hr'))]
          rw[this roots (fun r h=>h)];exact e4
         obtain⟨g1,g2,g3⟩:=qio b1 d1 (by rw[d2];exact a5) hn e3 e4';have hpar:∀ (i:Nat) r,roots[i]? = some r->(Gh.enter { G with im:=im2 } roots xss').γ ⟨.par i,[]⟩=G.γ ⟨r,[]⟩:=fun i r hi=>by simp only[Gh.enter,hi]
         refine hmono _ _ _ _ _ (hrec f args' bx res bx' e5 _ w _ g1) fun en w' hw=>?_;obtain⟨G1,k1,k2⟩:=hw;cases res with
         |panic v=>simp only[aa,ai]at e;obtain⟨rfl,rfl⟩:=e;obtain⟨rfl,k3⟩:=k2;obtain⟨G',l1,l2⟩:=Qg (dst:=none) (v':=.undef) (V:=Go.undef) (a:=a) b1 hn g3 k1 rfl g2 hpar k3 e6 c2 rfl (by simp);exact⟨G',a2.trans (b2.trans l2),rfl,l1⟩
         |ret v=>
          obtain⟨V,rfl,k3⟩:=k2;simp only at e;cases e8:renV (yP roots) v with
          |none=>simp[e8]at e
          |some v'=>
           simp only[e8,aa,ai]at e;obtain⟨rfl,rfl⟩:=e;by_cases ht:(roots.isEmpty&&v'.rows.all (fun (l:List Cell)=>l.all Xg))=true
           .
            rw[aF ht];simp only[aD,List.isEmpty_iff,List.all_eq_true]at ht;obtain⟨rfl,ht⟩:=ht;have hb0:bx'=[]:=by cases bx'<;>first|rfl|simp at c2
            subst hb0;have hno:∀ r o c,cellAt v.rows r o=some c->Xg c=true:=by
             intro r o c hc;unfold renV at e8;cases hm:mapO (mapO (renC (yP []))) v.rows with
             |none=>simp[hm]at e8
             |some rows'=>
              simp only[hm,aa]at e8;subst e8;obtain⟨row,q1,q2⟩:=qc.1 hc;obtain⟨m1,m2⟩:=zM hm;have hlt:r<rows'.length:=by rw[m1];exact(az.1 q1).1
              obtain⟨row0,q3,q4⟩:=m2 r _ (ax hlt);rw[q1]at q3;cases q3;obtain⟨n1,n2⟩:=zM q4;have hlo:o<(rows'[r]).length:=by rw[n1];exact(az.1 q2).1
              obtain⟨c0,q5,q6⟩:=n2 o _ (ax hlo);rw[q2]at q5;cases q5;rw[<- qiz q6];exact ht _ (List.getElem_mem hlt) _ (List.getElem_mem hlo)
            have him12:∀ b,im1 b->im2 b:=b3.im;have k3':=k3.thaw (im0:=im1) (fun b hb=>k1.im b (him12 b hb)) (fun b hb=>(a1.inv.glob b hb).1) hno;have k1':=k1.thaw (im0:=im1) him12;obtain⟨G',l1,l2⟩:=Qg (dst:=dst) (v':=v') (V:=V) (a:=a) (bx':=[]) (bx'':=bx'') a1 hn (by simp) k1' rfl (fun k x e=>by
             rcases vL (G:={ G with im:=im2 }) (k:=k) (x:=x) (roots:=[]) (xss:=xss') e with⟨i,r,f1,f2,f3⟩|⟨j,o,π,s,rfl,f2,f3⟩
             . simp at f2
             . refine⟨_,f3,.inr ⟨by simp[Pl.under],?_⟩⟩;obtain⟨xs,p1,p2⟩:=ZH f2;have:s∈xss'.flatten.filterMap id:=by simp only[List.mem_filterMap,id,exists_eq_right,List.mem_flatten];exact⟨xs,aN p1,aN p2⟩
               rw[d2]at this;simp only[List.mem_filterMap,id,exists_eq_right]at this;exact a4.src s this π) (by simp) k3' e6 rfl rfl (fun d hd=>⟨v,rfl,rfl,e8⟩)
            exact⟨G',a2.trans l2,V,rfl,l1⟩
           . rw[aG ht];obtain⟨G',l1,l2⟩:=Qg (dst:=dst) (v':=v') (V:=V) (a:=a) b1 hn g3 k1 rfl g2 hpar k3 e6 c2 rfl (fun d hd=>⟨v,rfl,rfl,e8⟩);exact⟨G',a2.trans (b2.trans l2),V,rfl,l1⟩
       . cases e
theorem qeP {cx rec}(hrec:RecSound cx.P rec){G w F F' a}(h:RelF G w F a.tmps){dst f vs}{Vs:List Value}(hl:vs.length=Vs.length)(hv:∀ (j:Nat) v V,vs[j]? = some v->Vs[j]? = some V->RelV G w v V){r}(e:vZ cx rec F dst f vs=some (F',r)):
  Calls cx.P f Vs.toArray w (Back G w a dst F' r):=qaX (C:=fun f Vs w R=>Calls cx.P f Vs w R) (fun _ _ _ _ _ h hm=>h.mono hm) hrec h hl hv e
end
section
variable [Glob]
def Qo (G:Gh)(w:World)(F:Fr):Option Pl->Cell->Value->Prop
 |none,c,v=>c=.dead\/(Seen c/\(∀ q,c≠.ref q)/\(∀ q,c=.ptr q->∃ i,q.key.root=.par i)/\(∀ f fs cs,c≠.clo f fs cs)/\∀ p,Sh G w p c v)
 |some s,c,v=>((∀ i,s.key.root≠.par i)/\s.key.path=[])/\¬ Seen c/\Sh G w s c v/\Tree G w s c/\∀ π,¬ Uses F (s.under π)
theorem Qo.shr {G G' F F' w}(hs:Shr G F G' F')(inv:GInv G w){x c v}(h:Qo G w F x c v):Qo G' w F' x c v:=by
 cases x with
 |none=>
  rcases h with h|⟨h1,h2,h3,h4,h5⟩
  . exact .inl h
  . exact .inr ⟨h1,h2,h3,h4,fun p=>(h5 p).shr hs h1.2⟩
 |some s=>
  obtain⟨h1,h2,h3,h4,h5⟩:=h;have h4':=h4.shr hs inv h5;refine⟨h1,h2,?_,h4',fun π hu=>h5 π (hs.uses _ hu)⟩;cases c with
  |own zz rows=>exact h3.shr hs (by simp)
  |mp es=>
   obtain⟨y,ents,clock,e1,e2,e3,e4,e5,e6⟩:=h3;refine⟨y,ents,clock,by rw[hs.γ];exact e1,e2,e3,fun hi=>?_,e5,e6.mono hs.im (fun _ _=>rfl)⟩;rcases hs.new _ hi with hi|⟨k,z,hk,hz,hb⟩
   . exact e4 hi
   . have:=inv.inj _ _ _ _ hz e1 hb;subst this;exact h5 [] (by rw[Pl.under_nil];exact hk)
  |_=>exact absurd (by constructor<;>intros<;>simp) h2
theorem qgE {G w F F' ts c c' v}(h:RelF G w F ts)(hc:c=.dead\/(Seen c/\∀ p,Sh G w p c v))(e:resC F c=some (c',F')):
  ∃ im' x,RelF { G with im:=im' } w F' ts/\Gain G w { G with im:=im' } w/\Shr G F { G with im:=im' } F'/\Qo { G with im:=im' } w F' x c' v /\
   ∀ s,x=some s->Uses F s.toKey:=by
 rcases hc with rfl|⟨hc,hs⟩
 . simp only[resC,aa,ai]at e;obtain⟨rfl,rfl⟩:=e;exact⟨G.im,none,h,Gain.refl G w,Shr.refl G F,.inl rfl,by intros;simp_all⟩
 have same:c'=c->F'=F->(∀ q,c≠.ref q)->(∀ q,c=.ptr q->∃ i,q.key.root=.par i)->(∀ f fs cs,c≠.clo f fs cs) ->
   ∃ im' x,RelF { G with im:=im' } w F' ts/\Gain G w { G with im:=im' } w/\Shr G F { G with im:=im' } F'/\Qo { G with im:=im' } w F' x c' v/\∀ s,x=some s->Uses F s.toKey:=by
  rintro rfl rfl hr hp hf
  exact⟨G.im,none,h,Gain.refl G w,Shr.refl G F',.inr ⟨hc,hr,hp,hf,hs⟩,by intros;simp_all⟩
 have moved:∀ p c0 F1,F.get p=some c0->¬ Seen c0->((∀ i,p.key.root≠.par i)/\p.key.path=[])->c=.ref p->F.set p .dead=some F1->c'=c0->F'=F1.kill p ->
   ∃ im' x,RelF { G with im:=im' } w F' ts/\Gain G w { G with im:=im' } w/\Shr G F { G with im:=im' } F'/\Qo { G with im:=im' } w F' x c' v/\∀ s,x=some s->Uses F s.toKey:=by
  rintro p c0 F1 hg hns hk rfl hset rfl rfl
  have st:=Fr.setTo hset;have r1:=h.empty st (by intro es he;rw[hg]at he;cases he;exact hns ⟨by simp,by simp⟩);have hsv:=(yD h hs hg hns).1;refine⟨G.im,some p,r1.mapC (qM p),Gain.refl G w,⟨rfl,rfl,fun _ h=>h,fun _ h=>.inl h,fun k hu=>?_⟩,⟨hk,hns,hsv,h.tree hg,fun π=>vH r1 st.new π⟩,fun s e=>?_⟩
  . exact st.uses rfl (fun _=>rfl) ((Weak.mapC (qM p) F1).uses hu)
  . cases e;exact .inr ⟨p,c',hg,qa2 hns⟩
 cases c with
 |ref p=>
  simp only[resC]at e;cases hg:F.get p with
  |none=>simp[hg]at e
  |some c0=>
   have fr:∀ zz rows,c0=.own zz rows->(F.set p (.imm (qG rows))).map (fun F'=>(Cell.imm (qG rows),F'))=some (c',F') ->
     ∃ im' x,RelF { G with im:=im' } w F' ts/\Gain G w { G with im:=im' } w/\Shr G F { G with im:=im' } F'/\Qo { G with im:=im' } w F' x c' v/\∀ s,x=some s->Uses F s.toKey:=by
    rintro zz rows rfl e
    cases hset:F.set p (.imm (qG rows))with
    |none=>simp[hset]at e
    |some F1=>simp only[hset,av,aa,ai]at e;obtain⟨rfl,rfl⟩:=e;obtain⟨a1,a2,a3,a4⟩:=h.freezeAt hg (Fr.setTo hset);have hsv:=(yD h hs hg (fun hn=>hn.1 _ rows rfl)).1;exact⟨_,none,a1,a2,a3,.inr ⟨⟨by intros;simp,by intros;simp⟩,by intros;simp,by intros;simp_all,by intros;simp,fun p=>a4 v hsv⟩,by intros;simp_all⟩
   have mv:((∀ i,p.key.root≠.par i)/\p.key.path=[])->¬ Seen c0->(F.set p .dead).map (fun F'=>(c0,F'.kill p))=some (c',F') ->
     ∃ im' x,RelF { G with im:=im' } w F' ts/\Gain G w { G with im:=im' } w/\Shr G F { G with im:=im' } F'/\Qo { G with im:=im' } w F' x c' v/\∀ s,x=some s->Uses F s.toKey:=by
    intro hk hns e;cases hset:F.set p .dead with
    |none=>simp[hset]at e
    |some F1=>simp only[hset,av,aa,ai]at e;exact moved p _ F1 hg hns hk rfl hset e.1.symm e.2.symm
   have mvb:movable p=true->(∀ i,p.key.root≠.par i)/\p.key.path=[]:=by
    intro hm;unfold movable at hm;split at hm
    . rename_i k hr;exact⟨by simp[hr],by simpa using hm⟩
    . rename_i k hr;exact⟨by simp[hr],by simpa using hm⟩
    . cases hm
   cases c0 with
   |own zz rows=>
    rw[hg]at e;simp only at e;split at e
    . rename_i hm;exact mv (mvb hm) (fun hn=>hn.1 _ rows rfl) e
    . exact fr zz rows rfl e
   |mp es=>
    rw[hg]at e;simp only at e;split at e
    . rename_i hm;exact mv (mvb hm) (fun hn=>hn.2 es rfl) e
    . cases e
   |_=>simp[hg]at e
 |ptr q=>
  simp only[resC]at e;cases hr:q.key.root with
  |par i=>rw[hr]at e;simp only[aa,ai]at e;exact same e.1.symm e.2.symm (by intros;simp) (fun q' hq'=>by cases hq';exact⟨i,hr⟩) (by intros;simp)
  |_=>rw[hr]at e;simp at e
 |clo f fs cs=>simp[resC]at e
 |_=>simp only[resC,aa,ai]at e;exact same e.1.symm e.2.symm (fun _ h=>by cases h) (fun _ h=>by cases h) (fun _ _ _ h=>by cases h)
def vV (G:Gh)(w:World)(F:Fr):List (Option Pl)->List Cell->List Value->Prop
 |[],[],[]=>True
 |x::xs,c::l,u::us=>Qo G w F x c u/\vV G w F xs l us
 |_,_,_=>False
theorem vV.shr {G G' F F' w}(hs:Shr G F G' F')(inv:GInv G w):∀ {xs:List (Option Pl)} {l:List Cell} {us:List Value},vV G w F xs l us->vV G' w F' xs l us
 |[],[],[],_=>trivial
 |_::_,_::_,_::_,⟨h1,h2⟩=>⟨h1.shr hs inv,h2.shr hs inv⟩
 |[],[],_::_,h=>h.elim
 |[],_::_,_,h=>h.elim
 |_::_,[],_,h=>h.elim
 |_::_,_::_,[],h=>h.elim
theorem vV.len {G w F}:∀ {xs:List (Option Pl)} {l:List Cell} {us:List Value},vV G w F xs l us->xs.length=l.length/\us.length=l.length
 |[],[],[],_=>⟨rfl,rfl⟩
 |_::_,_::_,_::_,⟨_,h2⟩=>by have:=h2.len;simp[this.1,this.2]
 |[],[],_::_,h=>h.elim
 |[],_::_,_,h=>h.elim
 |_::_,[],_,h=>h.elim
 |_::_,_::_,[],h=>h.elim
theorem vV.get {G w F}:∀ {xs:List (Option Pl)} {l:List Cell} {us:List Value},vV G w F xs l us->∀ {o:Nat} {c:Cell},l[o]? = some c ->
  ∃ x u,xs[o]? = some x/\us[o]? = some u/\Qo G w F x c u
 |x::xs,c::l,u::us,⟨h1,h2⟩,0,c',e=>by cases e;exact⟨x,u,rfl,rfl,h1⟩
 |x::xs,c::l,u::us,⟨h1,h2⟩,o+1,c',e=>by simpa using h2.get (by simpa using e)
 |[],[],[],_,o,c,e=>by simp at e
 |[],[],_::_,h,_,_,_=>h.elim
 |[],_::_,_,h,_,_,_=>h.elim
 |_::_,[],_,h,_,_,_=>h.elim
 |_::_,_::_,[],h,_,_,_=>h.elim
theorem vV.nouse {G w F}:∀ {xs:List (Option Pl)} {l:List Cell} {us:List Value},vV G w F xs l us->∀ {s:Pl},some s∈xs->((∀ i,s.key.root≠.par i)/\s.key.path=[])/\∀ π,¬ Uses F (s.under π)
 |x::xs,c::l,u::us,⟨h1,h2⟩,s,hm=>by
  rcases List.mem_cons.1 hm with rfl|hm
  . exact⟨h1.1,h1.2.2.2.2⟩
  . exact h2.nouse hm
 |[],[],[],_,s,hm=>by simp at hm
 |[],[],_::_,h,_,_=>h.elim
 |[],_::_,_,h,_,_=>h.elim
 |_::_,[],_,h,_,_=>h.elim
 |_::_,_::_,[],h,_,_=>h.elim
theorem qbS {w ts}:∀ (l l':List Cell) (us:List Value) (G:Gh) (F F':Fr),RelF G w F ts->vz G w l us->resL F l=some (l',F') ->
  ∃ im' xs,RelF { G with im:=im' } w F' ts/\Gain G w { G with im:=im' } w/\Shr G F { G with im:=im' } F'/\vV { G with im:=im' } w F' xs l' us/\Nod xs /\
   ∀ s,some s∈xs->Uses F s.toKey
 |[],l',[],G,F,F',h,_,e=>by simp only[resL,aa,ai]at e;obtain⟨rfl,rfl⟩:=e;exact⟨G.im,[],h,Gain.refl G w,Shr.refl G F,trivial,List.nodup_nil,by simp⟩
 |c::l,l',u::us,G,F,F',h,⟨h1,h2⟩,e=>by
  simp only[resL]at e;cases e1:resC F c with
  |none=>simp[e1]at e
  |some y=>
   obtain⟨c1,F1⟩:=y;simp only[e1]at e;cases e2:resL F1 l with
   |none=>simp[e2]at e
   |some z=>
    obtain⟨l1,F2⟩:=z;simp only[e2,aa,ai]at e;obtain⟨rfl,rfl⟩:=e;obtain⟨im1,x,a1,a2,a3,a4,a5⟩:=qgE h h1 e1;obtain⟨im2,xs,b1,b2,b3,b4,b5,b6⟩:=qbS l l1 us { G with im:=im1 } F1 F2 a1 (h2.shr a3) e2;refine⟨im2,x::xs,b1,a2.trans b2,a3.trans b3,⟨a4.shr b3 a1.inv,b4⟩,?_,fun s hs=>?_⟩
    . unfold Nod;cases x with
      |none=>exact b5
      |some s=>simp only[List.filterMap_cons,id];refine List.nodup_cons.2 ⟨fun hm=>?_,b5⟩;simp only[List.mem_filterMap,id,exists_eq_right]at hm;exact a4.2.2.2.2 [] (by rw[Pl.under_nil];exact b6 s hm)
    . rcases List.mem_cons.1 hs with rfl|hs
      . exact a5 s rfl
      . exact a3.uses _ (b6 s hs)
 |[],_,_::_,_,_,_,_,h,_=>h.elim
 |_::_,_,[],_,_,_,_,h,_=>h.elim
def ResV (g:Bool)(l:List Cell)(us:List Value)(U:Value):Prop:=us.length=l.length/\if g then U=.agg us.toArray else ∃ c u,l=[c]/\us=[u]/\U=u
theorem ResV.re {g l l1 us U}(h:ResV g l us U)(hl:us.length=l1.length):ResV g l1 us U:=by
 refine⟨hl,?_⟩;have hh:=h.2;cases g with
 |true=>exact hh
 |false=>
  simp only[aU,if_false]at *;obtain⟨c,u,h1,h2,h3⟩:=hh;have:l1.length=1:=by rw[<- hl,h2];rfl
  obtain⟨c1,hc1⟩:=List.length_eq_one_iff.1 this;exact⟨c1,u,hc1,h2,h3⟩
def XH (G:Gh)(w:World)(F:Fr):List (List (Option Pl))->List (Bool×List Cell)->List Value->Prop
 |[],[],[]=>True
 |xs::xss,(g,l)::vs,U::Us=>(∃ us,vV G w F xs l us/\ResV g l us U)/\XH G w F xss vs Us
 |_,_,_=>False
theorem XH.get {G w F}:∀ {xss:List (List (Option Pl))} {vs:List (Bool×List Cell)} {Us:List Value},XH G w F xss vs Us->Us.length=vs.length /\
  ∀ (r:Nat) g l,vs[r]? = some (g,l)->∃ xs U us,xss[r]? = some xs/\Us[r]? = some U/\vV G w F xs l us/\ResV g l us U
 |[],[],[],_=>⟨rfl,by simp⟩
 |xs::xss,(g,l)::vs,U::Us,⟨⟨us,h1,h1'⟩,h2⟩=>by
  obtain⟨i1,i2⟩:=h2.get;refine⟨by simp[i1],fun r g' l' e=>?_⟩;cases r with
  |zero=>simp only[aJ,aa,ai]at e;obtain⟨rfl,rfl⟩:=e;exact⟨xs,U,us,rfl,rfl,h1,h1'⟩
  |succ r=>simpa using i2 r g' l' (by simpa using e)
 |[],[],_::_,h=>h.elim
 |[],_::_,_,h=>h.elim
 |_::_,[],_,h=>h.elim
 |_::_,_::_,[],h=>h.elim
theorem qjF {P G w F}{a:Act}(h:RelF G w F a.tmps){x v}(e:resV P F x=some v):
  ∃ U,(match x with
   |.tmp t=>pure (a.tmps.getD t Go.undef)
   |.cell b t=>do loadVar t (<- asAddr (a.tmps.getD b Go.undef)):Sem Value).run P w=.ok U w/\RelV G w v U:=by
 cases x with
 |tmp t=>simp only[resV,aa]at e;subst e;exact⟨_,rfl,qx h (.tmp t)⟩
 |cell b t=>
  simp only[resV]at e;split at e
  .
   rename_i c n g hc hn hg;cases hl:F.loadL n c with
   |none=>simp[hl]at e
   |some l=>
    simp only[hl,ae]at e;have hd:c≠.dead:=by rintro rfl;simp[Fr.loadL]at hl
    obtain⟨_,hs⟩:=qp h hc hd;obtain⟨ad,us,hV,hlen,hll,hcell,hrel⟩:=qa6 h hs hl;obtain⟨U,hU,hr⟩:∃ U,(loadVar t ad).run P w=.ok U w/\RelV G w v U:=by
     have hagg:=vK hg;cases g with
     |true=>
      have hlc:=run_loadCells_list (P:=P) w ad us hcell;rw[hlen]at hlc;simp only[mkAV,if_true,aa]at e;subst e;refine⟨.agg us.toArray,?_,RelV.ag (by simp[hlen,hll]) fun o c ho=>?_⟩
      . simp only[loadVar,aL,hagg,ay,if_true,qK hn,hlc,aV]
      . obtain⟨u,hu,hx⟩:=hrel o c ho;exact⟨u,by simpa using hu,hx⟩
     |false=>
      unfold mkAV at e;simp only[aU,if_false]at e;split at e
      . rename_i x;simp only[aa]at e;subst e;obtain⟨u,hu,hx⟩:=hrel 0 x rfl;have h0:=hcell 0 u hu;have:ad.add 0=ad:=rfl;rw[this]at h0;refine⟨u,?_,RelV.c hx⟩;simp only[loadVar,aL,hagg,ay,aU,if_false,run_load,h0]
      . cases e
    refine⟨U,?_,hr⟩;have hV':a.tmps.getD b Go.undef=.pointer (some ad):=hV;simp only[hV',asAddr,aL,aV,ay];exact hU
  . cases e
theorem XH.shr {G G' F F' w}(hs:Shr G F G' F')(inv:GInv G w):∀ {xss:List (List (Option Pl))} {vs:List (Bool×List Cell)} {Us:List Value},
  XH G w F xss vs Us->XH G' w F' xss vs Us
 |[],[],[],_=>trivial
 |_::_,(_,_)::_,_::_,⟨⟨us,h1,h1'⟩,h2⟩=>⟨⟨us,h1.shr hs inv,h1'⟩,h2.shr hs inv⟩
 |[],[],_::_,h=>h.elim
 |[],_::_,_,h=>h.elim
 |_::_,[],_,h=>h.elim
 |_::_,_::_,[],h=>h.elim
theorem QE {P w}{a:Act}:∀ (rs:List ResultVar) (vs:List (Bool×List Cell)) (G:Gh) (F F':Fr),RelF G w F a.tmps->QS P F rs=some (vs,F') ->
  ∃ im' xss Us,(rs.mapM (fun x=>(match x with
    |.tmp t=>pure (a.tmps.getD t Go.undef)
    |.cell b t=>do loadVar t (<- asAddr (a.tmps.getD b Go.undef)):Sem Value))).run P w=.ok Us w /\
   RelF { G with im:=im' } w F' a.tmps/\Gain G w { G with im:=im' } w/\Shr G F { G with im:=im' } F'/\XH { G with im:=im' } w F' xss vs Us/\Nod xss.flatten /\
   ∀ s,some s∈xss.flatten->Uses F s.toKey
 |[],vs,G,F,F',h,e=>by simp only[QS,aa,ai]at e;obtain⟨rfl,rfl⟩:=e;exact⟨G.im,[],[],rfl,h,Gain.refl G w,Shr.refl G F,trivial,List.nodup_nil,by simp⟩
 |x::rs,vs,G,F,F',h,e=>by
  simp only[QS]at e;cases e0:resV P F x with
  |none=>simp[e0]at e
  |some v=>
   simp only[e0]at e;obtain⟨U,hU,hr⟩:=qjF h e0;have key:∃ l,v.cells=some l/\(match resL F l with
     |some (l',F')=>(match QS P F' rs with
      |some (vs,F'')=>some (((match v.tag with|.agg=>true|_=>false),l')::vs,F'')
      |none=>none)
     |none=>none)=some (vs,F'):=by
    cases ht:v.cells with
    |none=>rw[ht]at e;cases hg:v.tag<;>simp[hg]at e
    |some l=>refine⟨l,rfl,?_⟩;rw[ht]at e;cases hg:v.tag<;>rw[hg]at e<;>first|exact e|cases e
   clear e;obtain⟨l,ht,e⟩:=key
   .
    skip
    cases e1:resL F l with
    |none=>simp[e1]at e
    |some y=>
     obtain⟨l1,F1⟩:=y;simp only[e1]at e;cases e2:QS P F1 rs with
     |none=>simp[e2]at e
     |some z=>
      obtain⟨vs1,F2⟩:=z;simp only[e2,aa,ai]at e;obtain⟨rfl,rfl⟩:=e
      -- the cells as values
      have cells:∃ us,vz G w l us/\ResV (match v.tag with|.agg=>true|_=>false) l us U:=by
       rcases Xf ht with⟨hag,hv⟩|⟨hag,c,hv,hl⟩
       . rw[hv]at hr;obtain⟨vs0,rfl,e3,e4⟩:=hr.agg_inv;refine⟨vs0.toList,vz.of_get (by simpa using e3) (fun o c ho=>by obtain⟨u,hu,hx⟩:=e4 o c ho;exact⟨u,by simpa using hu,hx⟩),by simpa using e3,?_⟩;rw[hag];simp
       . subst hl;rw[hv]at hr;obtain⟨u,hu,hx⟩:=hr.2 0 0 c rfl;simp only[AV.c,qX,aa]at hu;subst hu;refine⟨[U],⟨hx,trivial⟩,rfl,?_⟩;rw[hag];exact⟨c,U,rfl,rfl,rfl⟩
      obtain⟨us,hus,hres⟩:=cells;obtain⟨im1,xs,a1,a2,a3,a4,a5,a6⟩:=qbS l l1 us G F F1 h hus e1;obtain⟨im2,xss,Us,b0,b1,b2,b3,b4,b5,b6⟩:=QE rs vs1 { G with im:=im1 } F1 F2 a1 e2;refine⟨im2,xs::xss,U::Us,?_,b1,a2.trans b2,a3.trans b3,⟨⟨us,a4.shr b3 a1.inv,?_⟩,b4⟩,?_,fun s hs=>?_⟩
      . rw[List.mapM_cons,aL,hU,ay,aL,b0,ay];rfl
      . exact hres.re a4.len.2
      . unfold Nod;rw[List.flatten_cons,List.filterMap_append,List.nodup_append];refine⟨a5,b5,?_⟩;intro s hs s' hs' he;subst he;simp only[List.mem_filterMap,id,exists_eq_right]at hs hs';exact(a4.nouse hs).2 [] (by rw[Pl.under_nil];exact b6 s hs')
      . rw[List.flatten_cons,List.mem_append]at hs;rcases hs with hs|hs
        . exact a6 s hs
        . exact a3.uses _ (b6 s hs)
end
section
variable [Glob]
def Gh.leave (G:Gh)(xss:List (List (Option Pl))):Gh where
 γ k:=match k.root with
  |.par _=>G.γ k
  |.slot 0=>match k.path with
   |(r,o)::π=>match qo0 xss r o with
    |some s=>G.γ (s.under π)
    |none=>none
   |_=>none
  |_=>none
 im:=G.im
 lv _:=False
theorem ZX {G:Gh}{xss k x}(e:(G.leave xss).γ k=some x):
  (∃ i,k.root=.par i/\G.γ k=some x)\/(∃ r o π s,k=⟨.slot 0,(r,o)::π⟩/\qo0 xss r o=some s/\G.γ (s.under π)=some x):=by
 obtain⟨r,path⟩:=k;unfold Gh.leave at e;simp only at e;split at e
 . rename_i i;exact .inl ⟨i,rfl,e⟩
 .
  split at e
  . rename_i r o π;split at e
    . rename_i s hs;exact .inr ⟨r,o,π,s,rfl,hs,e⟩
    . cases e
  . cases e
 . cases e
def parW:Root->Option Root
 |.par i=>some (.par i)
 |_=>none
theorem qhL (r r')(h:qcR r=some r'):parW r'=some r:=by
 cases r with
 |par i=>simp only[qcR,aa]at h;subst h;rfl
 |_=>simp[qcR]at h
def qbe (Us:Array Value):Value:=if h:Us.size=1 then Us[0]else .tuple Us
theorem qii {G w F xss vs Us}(hh:XH G w F xss vs Us){v}(e:qjr vs=some v):
  QO v.tag (v.rows.map List.length) (qbe Us.toArray)/\∀ r o c,cellAt v.rows r o=some c->∃ xs us u,xss[r]? = some xs/\qX v.tag (qbe Us.toArray) r o=some u/\xs[o]? = some us/\Qo G w F us c u:=by
 obtain⟨g1,g2⟩:=hh.get;unfold qjr at e;split at e
 .
  rename_i g l;obtain⟨xs,U,us,h1,h2,h3,h4⟩:=g2 0 g l rfl;have hU:qbe Us.toArray=U:=by
   have:Us=[U]:=by
    cases Us with
    |nil=>simp at g1
    |cons a l=>cases l with
     |nil=>simpa using h2
     |cons b l=>simp at g1
   subst this;rfl
  rw[hU];cases g with
  |true=>simp only[mkAV,if_true,aa]at e;subst e;have hU':U=.agg us.toArray:=h4.2;subst hU';refine⟨⟨_,rfl,by simp[h4.1]⟩,fun r o c hc=>?_⟩;obtain⟨rfl,ho⟩:=zI hc;obtain⟨x,u,i1,i2,i3⟩:=h3.get ho;exact⟨xs,x,u,h1,by simpa [qX,AV.ag]using i2,i1,i3⟩
  |false=>
   unfold mkAV at e;simp only[aU,if_false]at e;split at e
   . rename_i x;simp only[aa]at e;subst e;have hh:=h4.2;simp only[aU,if_false]at hh;obtain⟨c0,u0,q1,q2,rfl⟩:=hh;refine⟨trivial,fun r o c hc=>?_⟩;obtain⟨rfl,rfl,rfl⟩:=one_cell hc;obtain⟨x,u,i1,i2,i3⟩:=h3.get (o:=0) rfl;rw[q2]at i2;simp only[aJ,aa]at i2;subst i2;exact⟨xs,x,U,h1,rfl,i1,i3⟩
   . cases e
 .
  rename_i hne;simp only[aa]at e;subst e;have hsz:Us.toArray.size≠1:=by
   intro hs;have:vs.length=1:=by rw[<- g1];simpa using hs
   obtain⟨y,hy⟩:=List.length_eq_one_iff.1 this;exact hne y.1 y.2 hy
  have hV:qbe Us.toArray=.tuple Us.toArray:=by unfold qbe;rw[dif_neg hsz]
  rw[hV];refine⟨⟨_,rfl,by simp,by simp[g1],fun i g n hg hn=>?_⟩,fun r o c hc=>?_⟩
  .
   rw[aI]at hg;rw[aI,aI]at hn;cases hv:vs[i]? with
   |none=>simp[hv]at hg
   |some y=>
    obtain⟨g',l'⟩:=y;simp only[hv,av,aa]at hg hn;subst hg;subst hn;obtain⟨xs,U,us,h1,h2,h3,h4⟩:=g2 i g' l' hv;refine⟨U,by simpa using h2,?_⟩;have hh:=h4.2;split
    . rename_i hg;rw[aF hg]at hh;exact⟨_,hh,by simp[h4.1]⟩
    . rename_i hg;rw[aG hg]at hh;obtain⟨c0,u0,q1,q2,_⟩:=hh;rw[q1];rfl
  .
   obtain⟨row,q1,q2⟩:=qc.1 hc;rw[aI]at q1;cases hv:vs[r]? with
   |none=>simp[hv]at q1
   |some y=>
    obtain⟨g',l'⟩:=y;simp only[hv,av,aa]at q1;subst q1;obtain⟨xs,U,us,h1,h2,h3,h4⟩:=g2 r g' l' hv;obtain⟨x,u,i1,i2,i3⟩:=h3.get q2;refine⟨xs,x,u,h1,?_,i1,i3⟩;have hu:Us.toArray[r]? = some U:=by simpa using h2
    simp only[qX,aI,hv,av,hu];have hh:=h4.2;cases g' with
    |true=>have hU':U=.agg us.toArray:=hh;subst hU';simpa using i2
    |false=>
     simp only[aU,if_false]at hh;obtain⟨c0,u0,p1,p2,rfl⟩:=hh;rw[p1]at q2;cases o with
     |zero=>rw[p2]at i2;simpa using i2
     |succ o=>simp at q2
theorem qdA {G w F ts}(h:RelF G w F ts){xss n bx'}(hn:Nod xss.flatten)(eb:zD F n=some bx'){sl ts1}(hsl:sl.length=ts1.size)(hs:∀ k v,sl[k]? = some v->k=0/\∃ V,ts1[k]? = some V/\QO v.tag (v.rows.map List.length) V/\∀ r o c,cellAt v.rows r o=some c->∃ xs us u,xss[r]? = some xs/\qX v.tag V r o=some u/\xs[o]? = some us/\Qo G w F us c u)(hsrc:∀ s,some s∈xss.flatten->((∀ i,s.key.root≠.par i)/\s.key.path=[])/\∀ π,¬ Uses F (s.under π)):
  RelF (G.leave xss) w ⟨sl,qd 0 bx'⟩ ts1/\zS G w (G.leave xss) w:=by
 obtain⟨n1,n2⟩:=zM eb;have src:∀ {r o s},qo0 xss r o=some s->some s∈xss.flatten:=fun e=>by obtain⟨xs,p1,p2⟩:=ZH e;exact List.mem_flatten.2 ⟨xs,aN p1,aN p2⟩
 have hγ:∀ r a π,parW r=some a->(G.leave xss).γ ⟨r,π⟩=G.γ ⟨a,π⟩:=by
  intro r a π e;cases r with
  |par i=>simp only[parW,aa]at e;subst e;rfl
  |_=>simp[parW]at e
 have hok:∀ r a,parW r=some a->G.ok a->(G.leave xss).ok r:=by
  intro r a e _;cases r with
  |par i=>trivial
  |_=>simp[parW]at e
 have cell:∀ {k:Key} {r o:Nat} {c:Cell} {us:Option Pl} {u:Value},k=⟨.slot 0,[]⟩->∀ xs,xss[r]? = some xs->xs[o]? = some us->Qo G w F us c u->c=.dead\/Sh (G.leave xss) w ⟨k,r,o⟩ c u:=by
  intro k r o c us u hk xs q1 q2 hh;subst hk;cases us with
  |none=>
   rcases hh with rfl|⟨h1,h2,h3,h4,h5⟩
   . exact .inl rfl
   .
    by_cases hcd:c=.dead
    . exact .inl hcd
    right;refine Sh.ren2 (W:=parW) hok hγ rfl (c1:=c) ?_ (fun hn=>absurd h1 hn) (h5 ⟨⟨.res,[]⟩,0,0⟩);cases c with
    |ptr q=>obtain⟨i,hi⟩:=h3 q rfl;exact⟨by rw[hi];rfl,rfl,rfl,rfl⟩
    |ref q=>exact absurd rfl (h2 q)
    |clo f fs cs=>exact absurd rfl (h4 f fs cs)
    |dead=>exact absurd rfl hcd
    |own zz rows=>exact⟨rfl,rfl⟩
    |cptr a b=>exact⟨rfl,rfl⟩
    |nil=>trivial
    |_=>exact rfl
  |some s=>
   right;obtain⟨h1,h2,h3,h4,h5⟩:=hh;have hs':qo0 xss r o=some s:=by simp[qo0,q1,q2]
   have key:(G.leave xss).γ (⟨⟨.slot 0,[]⟩,r,o⟩:Pl).toKey=G.γ s.toKey:=by simp only[Gh.leave,Pl.toKey,List.nil_append,hs'];rfl
   cases c with
   |own zz rows=>unfold Sh;rw[key];exact h3
   |mp es=>obtain⟨x,ents,clock,e1,e2⟩:=h3;exact⟨x,ents,clock,by rw[key];exact e1,e2⟩
   |_=>exact absurd (by constructor<;>intros<;>simp) h2
 refine⟨⟨⟨fun k k' x x' e e' hb=>?_,fun k x e=>?_,h.inv.imlt,h.inv.glob⟩,hsl,fun k v e=>?_,fun r l e=>?_,fun d hd=>hd.elim,fun k rows e hi=>?_⟩,
  ⟨Nat.le_refl _,fun _ h=>h,fun _ _=>rfl,fun _ _ _=>⟨rfl,fun h=>h⟩,fun k x e=>?_,fun _=>rfl,.refl w⟩⟩
 .
  rcases ZX e with⟨i,f1,f2⟩|⟨r,o,π,s,rfl,f2,f3⟩
  . rcases ZX e' with⟨i',f1',f2'⟩|⟨r',o',π',s',rfl,f2',f3'⟩
    . exact h.inv.inj _ _ _ _ f2 f2' hb
    . have:=h.inv.inj _ _ _ _ f2 f3' hb;have hr:=((hsrc s' (src f2')).1).1 i;rw[this]at f1;exact absurd f1 hr
  . rcases ZX e' with⟨i',f1',f2'⟩|⟨r',o',π',s',rfl,f2',f3'⟩
    . have:=h.inv.inj _ _ _ _ f3 f2' hb;have hr:=((hsrc s (src f2)).1).1 i';rw[<- this]at f1';exact absurd f1' hr
    . have:=h.inv.inj _ _ _ _ f3 f3' hb;have p1:=((hsrc s (src f2)).1).2;have p2:=((hsrc s' (src f2')).1).2;obtain⟨⟨k1,π1⟩,a,b⟩:=s;obtain⟨⟨k2,π2⟩,a',b'⟩:=s';simp only at p1 p2;subst p1;subst p2;simp only[Pl.under,List.nil_append,Key.mk.injEq,List.cons.injEq,ai]at this;obtain⟨rfl,⟨rfl,rfl⟩,rfl⟩:=this;obtain⟨rfl,rfl⟩:=qaP hn f2 f2';rfl
 .
  rcases ZX e with⟨i,f1,f2⟩|⟨r,o,π,s,rfl,f2,f3⟩
  . exact h.inv.lt _ _ f2
  . exact h.inv.lt _ _ f3
 . obtain⟨rfl,V,g1,g2,g3⟩:=hs k v e;refine⟨V,g1,g2,fun r o c hc=>?_⟩;obtain⟨xs,us,u,q1,q2,q3,q4⟩:=g3 r o c hc;exact⟨u,q2,cell rfl xs q1 q3 q4⟩
 . obtain⟨i,h1,h2⟩:=za _ _ _ _ e;rw[h1];exact⟨rfl,trivial⟩
 .
  obtain⟨root,path⟩:=k;cases root with
  |slot j=>
   have hπ:path≠[]:=by
    rcases hi with hi|hi
    . exact hi
    . simp[Root.boxed]at hi
   cases path with
   |nil=>exact absurd rfl hπ
   |cons y π=>
    obtain⟨r,o⟩:=y;simp only[Fr.rowsAt,Fr.rows]at e;cases hj:sl[j]? with
    |none=>simp[hj]at e
    |some v=>
     simp only[hj,av,ae,getR]at e;obtain⟨rfl,V,g1,g2,g3⟩:=hs j v hj;cases hc:cellAt v.rows r o with
     |none=>simp[hc]at e
     |some c=>
      obtain⟨xs,us,u,q1,q2,q3,q4⟩:=g3 r o c hc;rw[hc]at e;cases us with
      |none=>
       exfalso;rcases q4 with rfl|⟨h1,_⟩
       . simp at e
       . cases c with
         |own zz rs=>exact h1.1 zz rs rfl
         |_=>simp at e
      |some s=>
       have hs':qo0 xss r o=some s:=by simp[qo0,q1,q3]
       have hc':subR c π=some rows:=by cases c<;>first|exact e|simp at e
       have tr:=q4.2.2.2.1 π rows hc';have hp:=fun r o c (e:cellAt _ r o=some c)=>tr.pure (by simp[Pl.under]) e;refine qU.ren2 (W:=parW) hok hγ rfl (.pure hp) (by simp[Pl.under]) ?_ (fun r' o'=>?_) tr
       . simp only[Gh.leave,hs']
       . simp only[Gh.leave,Pl.toKey,List.cons_append,hs',Pl.under,List.append_assoc]
  |par i=>
   unfold Fr.rowsAt at e;have hns:∀ k,Root.par i≠.slot k:=by simp
   simp only at e;rw[Fr.rows_ns _ hns]at e;cases hb:(qd 0 bx').lookup (.par i)with
   |none=>simp[hb]at e
   |some l'=>
    simp only[hb,av,ae]at e;obtain⟨i',h1,h2⟩:=za _ _ _ _ hb;have:i'=i:=by simpa using h1.symm
    subst this;obtain⟨j,h3,h4⟩:=n2 i' l' h2;have hj:j=i':=by rw[List.getElem?_range (by have:=(az.1 h3).1;simpa using this)]at h3;exact(aS h3).symm
    subst hj;simp only[Option.bind_eq_some_iff]at h4;obtain⟨l,h5,h6⟩:=h4;have rr:=qbh qhL h6;cases path with
    |nil=>simp only[getR,aa]at e;subst e;refine qU.ren2 (W:=parW) (k1:=⟨.par j,[]⟩) hok hγ rfl rr (by simp) rfl (fun r' o'=>rfl) (h.cont _ _ ?_ (.inr rfl));simp only[Fr.rowsAt,F.rows_ns hns,h5,av,ae,getR]
    |cons y π=>
     have hF:F.rowsAt ⟨.par j,y::π⟩=some rows:=by simp only[Fr.rowsAt,F.rows_ns hns,h5,av,ae];exact rr.getR e
     have tr:=h.cont _ _ hF (.inl (by simp));exact qU.ren2 (W:=parW) hok hγ rfl (.pure fun r o c e=>tr.pure (by simp) e) (by simp) rfl (fun r' o'=>rfl) tr
  |loc d=>
   exfalso;unfold Fr.rowsAt at e;have hns:∀ k,Root.loc d≠.slot k:=by simp
   simp only at e;rw[Fr.rows_ns _ hns]at e;cases hb:(qd 0 bx').lookup (.loc d)with
   |none=>simp[hb]at e
   |some l'=>obtain⟨i',h1,h2⟩:=za _ _ _ _ hb;cases h1
  |res=>
   exfalso;unfold Fr.rowsAt at e;have hns:∀ k,Root.res≠.slot k:=by simp
   simp only at e;rw[Fr.rows_ns _ hns]at e;cases hb:(qd 0 bx').lookup .res with
   |none=>simp[hb]at e
   |some l'=>obtain⟨i',h1,h2⟩:=za _ _ _ _ hb;cases h1
 .
  rcases ZX e with⟨i,f1,f2⟩|⟨r,o,π,s,rfl,f2,f3⟩
  . exact .inl ⟨k,x,f2,rfl⟩
  . exact .inl ⟨_,x,f3,rfl⟩
theorem qei {P fn tmps w Us}(h:(fn.results.toList.mapM (fun x=>(match x with
    |.tmp t=>pure (tmps.getD t Go.undef)
    |.cell b t=>do loadVar t (<- asAddr (tmps.getD b Go.undef)):Sem Value))).run P w=.ok Us w):(results fn tmps).run P w=.ok (qbe Us.toArray) w:=by
 unfold results;rw[Array.mapM_eq_mapM_toList];simp only[aL,Sem.run_map];exact congrArg (fun r:Result (List Value)=>(r.andThen fun a w'=>Result.ok a.toArray w').andThen fun a w'=>Sem.run P (pure (if h:a.size=1 then a[0]else Value.tuple a)) w') h
theorem qbc (ks ls):∀ (l:List AV) (i k:Nat),(YS ks ls i l)[k]? = (l[k]?).map fun v=>if ks.contains (i+k)then .deadv else v.mapC (yV ks ls)
 |[],i,k=>by simp[YS]
 |v::l,i,0=>by simp[YS]
 |v::l,i,k+1=>by simp only[YS,List.getElem?_cons_succ];rw[qbc ks ls l (i+1) k,show i+1+k=i+(k+1)by omega]
theorem yO (ks ls):∀ (bs:List (Root×List Cell)) (r:Root),(qcZ ks ls bs).lookup r=if gone ks ls r then none else(bs.lookup r).map (·.map (yV ks ls))
 |[],r=>by simp[qcZ]
 |(r0,l)::bs,r=>by
  simp only[qcZ];by_cases h0:gone ks ls r0=true
  .
   rw[aF h0,yO ks ls bs r];by_cases h:r=r0
   . subst h;rw[aF h0,aF h0]
   . have:(r==r0)=false:=by simpa using h
     simp[List.lookup_cons,this]
  .
   rw[aG h0,List.lookup_cons,List.lookup_cons];by_cases h:r=r0
   . subst h;simp[h0]
   . have:(r==r0)=false:=by simpa using h
     rw[this,yO ks ls bs r]
theorem qax {G w F ts}(h:RelF G w F ts)(ks ls):∃ G',RelF G' w (F.norm ks ls) ts/\zS G w G' w:=by
 have hw:Weak F (F.norm ks ls):=by
  refine⟨?_,fun k v' e=>?_,fun r l' e=>?_⟩
  .
   apply Nat.le_antisymm
   .
    have:∀ (l:List AV) i,(YS ks ls i l).length=l.length:=by
     intro l;induction l with
     |nil=>intro i;rfl
     |cons v l ih=>intro i;simp[YS,ih]
    exact Nat.le_of_eq (this _ _)
   .
    have:∀ (l:List AV) i,(YS ks ls i l).length=l.length:=by
     intro l;induction l with
     |nil=>intro i;rfl
     |cons v l ih=>intro i;simp[YS,ih]
    exact Nat.le_of_eq (this _ _).symm
  . have e':(YS ks ls 0 F.slots)[k]? = some v':=e;rw[qbc]at e';simp only[aH]at e';obtain⟨v,e1,e2⟩:=e';split at e2
    . exact .inl e2.symm
    . subst e2;exact .inr ⟨v,e1,rfl,zy.map (ZZ ks ls) _⟩
  . have e':(qcZ ks ls F.boxes).lookup r=some l':=e;rw[yO]at e';split at e'
    . cases e'
    . simp only[aH]at e';obtain⟨l,e1,rfl⟩:=e';exact⟨l,e1,by have:=zy.map (ZZ ks ls) [l];exact this⟩
 have lk:∀ d,((F.norm ks ls).boxes.lookup (.loc d)).isSome=true↔gone ks ls (.loc d)=false/\(F.boxes.lookup (.loc d)).isSome=true:=by intro d;show((qcZ ks ls F.boxes).lookup (.loc d)).isSome=true↔_;rw[yO];split<;>simp_all
 have pg:∀ x c,(F.norm ks ls).get x=some c->c=.dead\/(F.get x=some c/\(x.key.path=[]->yV ks ls c=c)):=by
  intro x c e;rcases hw.get e with h'|h'
  . exact .inl h'
  .
   by_cases hp:x.key.path=[]
   .
    by_cases hc:yV ks ls c=c
    . exact .inr ⟨h',fun _=>hc⟩
    .
     left;obtain⟨⟨r,π⟩,a,b⟩:=x;simp only at hp;subst hp;have hd:yV ks ls c=.dead:=(ZZ ks ls c).resolve_left hc;by_cases hs:∃ k,r=.slot k
     . obtain⟨k,rfl⟩:=hs;simp only[Fr.get,Fr.rowsAt,Fr.rows,Fr.norm,qbc,Nat.zero_add,Option.map_map,Option.bind_eq_bind]at e h';cases hk:F.slots[k]? with
       |none=>simp[hk]at h'
       |some v=>
        simp only[hk,av,ae,getR,Function.comp_def]at e h';split at e
        . obtain⟨_,_,rfl⟩:=one_cell e;rfl
        . obtain⟨c0,e1,e2⟩:=zH (f:=yV ks ls) e;rw[h']at e1;cases e1;rw[hd]at e2;exact e2
     . have hns:∀ k,r≠.slot k:=fun k e=>hs ⟨k,e⟩;simp only[Fr.get,Fr.rowsAt,Fr.rows_ns _ hns,Fr.norm,yO]at e h';cases hk:F.boxes.lookup r with
       |none=>simp[hk]at h'
       |some l=>
        simp only[hk,av,ae,getR]at e h';split at e
        . simp at e
        . simp only[av,ae,getR]at e;obtain⟨c0,e1,e2⟩:=zH (f:=yV ks ls) (rows:=[l]) e;rw[h']at e1;cases e1;rw[hd]at e2;exact e2
   . exact .inr ⟨h',fun h=>absurd h hp⟩
 refine⟨_,h.weak hw (fun d=>((F.norm ks ls).boxes.lookup (.loc d)).isSome=true) (fun d hd=>⟨?_,hd⟩) (fun d hd=>hd) (fun x c e=>?_),Gain.lv _⟩
 . obtain⟨l,hl⟩:=Option.isSome_iff_exists.1 ((lk d).1 hd).2;exact(h.boxes (.loc d) l hl).2
 .
  rcases pg x c e with rfl|⟨e',hp⟩
  . exact⟨by simp,by simp⟩
  .
   have hok:=h.okPtr e';have fin:∀ r,G.ok r->gone ks ls r=false->Gh.ok { G with lv:=fun d=>((F.norm ks ls).boxes.lookup (.loc d)).isSome=true } r:=by
    intro r h1 h2;cases r with
    |loc d=>exact(lk d).2 ⟨h2,h.live d h1⟩
    |_=>trivial
   by_cases hx:x.key.path=[]
   .
    have hpc:=hp hx;refine⟨fun q hq=>?_,fun f fs cs q hq hm=>?_⟩
    .
     refine fin _ (hok.1 q hq) ?_;rcases hq with rfl|rfl
     . simp only[yV]at hpc;split at hpc
       . cases hpc
       . simp_all
     . simp only[yV]at hpc;split at hpc
       . cases hpc
       . simp_all
    . subst hq;refine fin _ (hok.2 f fs cs q rfl hm) ?_;simp only[yV]at hpc;split at hpc
      . cases hpc
      . rename_i hn;rw[Bool.not_eq_true,List.any_eq_false]at hn;simpa using hn _ hm
   . have:=h.pure e' hx;refine⟨fun q hq=>?_,fun f fs cs q hq hm=>?_⟩
     . rcases hq with rfl|rfl<;>simp[qw]at this
     . subst hq;simp[qw]at this
end
section
variable [Glob]
def ZA (P:Program)(rec:Oracle):Prop:=∀ f args bx r,rec f args bx=some r->∃ fn,P.funcs[f]? = some fn/\fn.body.isSome=true/\(fn.name == "runtime.NumGoroutine")=false
theorem qft {cx rec F dst f vs r}(e:vZ cx rec F dst f vs=some r):∃ args bx q,rec f args bx=some q:=by
 unfold vZ at e;split at e
 .
  split at e
  .
   simp only at e;split at e
   . split at e
     . rename_i h;exact⟨_,_,_,h⟩
     . cases e
   . cases e
  . cases e
 . cases e
theorem Yh {P}{f:Nat}{fn}(h:P.funcs[f]? = some fn)(hb:fn.body.isSome=true)(hn:(fn.name == "runtime.NumGoroutine")=false)(args)(w):
  (callFunc f args).run P w=.ok (.enter f args) w:=by
 have hb':fn.body.isNone=false:=by cases hx:fn.body<;>simp_all
 simp only[callFunc,program,bind,Sem.bind,Sem.run,h,hn,hb',aU,if_false];rfl
theorem xM {G}:∀ {l:List Cell} {vs:List Value},qY G l vs->l.length=vs.length
 |[],[],_=>rfl
 |_::_,_::_,⟨_,h⟩=>by simp[xM h]
 |[],_::_,h=>h.elim
 |_::_,[],h=>h.elim
theorem Yd {G w}:∀ {l:List Cell} {vs:List Value},qY G l vs->∀ (j:Nat) c V,l[j]? = some c->vs[j]? = some V->RelV G w (.c c) V
 |[],[],_,j,c,V,h,_=>by simp at h
 |a::l,b::vs,⟨h1,h2⟩,j,c,V,h,h'=>by
  cases j with
  |zero=>
   simp only[aJ,aa]at h h';subst h;subst h';refine RelV.c (.inr ?_);cases a with
   |val u=>exact⟨⟨by intros;simp,by intros;simp⟩,fun p=>h1⟩
   |ptr q=>obtain⟨e0,e1,x,e2,e3,e4⟩:=h1;exact⟨⟨by intros;simp,by intros;simp⟩,fun p=>⟨e0,x,e2,fun hb=>(by rw[e3]at hb;cases hb),by rw[Hd.adr_of e3];exact e4⟩⟩
   |_=>exact h1.elim
  |succ j=>exact Yd h2 j c V (by simpa using h) (by simpa using h')
 |[],_::_,h,_,_,_,_,_=>h.elim
 |_::_,[],h,_,_,_,_,_=>h.elim
theorem XI {cx rec}(hrec:RecSound cx.P rec)(hfn:ZA cx.P rec){G w F F' a o}(h:RelF G w F a.tmps){r}(e:aop cx rec F o=some (F',r)){next Q}(hnext:r=none->∀ V G' w',RelF G' w' F' (a.put o.dst V).tmps->Gain G w G' w'->next (a.put o.dst V) w')(hpanic:∀ v,r=some v->∀ G' w',RelF G' w' F' a.tmps->Gain G w G' w'->Q (.panic [{ v,recovered:=false }]) a w'):o.wp cx.P a w next Q:=by
 unfold aop at e;unfold Oper.wp;cases hm:mvop cx F o with
 |some F1=>
  simp only[hm,aa,ai]at e;obtain⟨rfl,rfl⟩:=e;obtain⟨n,V,G',w',hV,hn,hr,hg⟩:=qgo h hm;rw[hV];rcases hn with rfl|⟨rfl,rfl⟩
  . exact hnext rfl V G' w' hr hg
  . exact hnext rfl Go.undef G' w' hr hg
 |none=>
 simp only[hm]at e;unfold aop0 at e;cases hq:quiet cx F o with
 |some v=>simp only[hq,aa,ai]at e;obtain⟨rfl,rfl⟩:=e;obtain⟨V,hV,hr⟩:=qaS h hq;rw[hV];exact hnext rfl V G w (putO h hr) (Gain.refl G w)
 |none=>
  simp only[hq]at e;cases hl:loud cx F o with
  |some F1=>
   simp only[hl,aa,ai]at e;obtain⟨rfl,rfl⟩:=e;obtain⟨n,V,G',w',hV,hn,hr,hg⟩:=qgi h hl;rw[hV];rcases hn with rfl|⟨rfl,rfl⟩
   . exact hnext rfl V G' w' hr hg
   . exact hnext rfl Go.undef G' w' hr hg
  |none=>
   simp only[hl]at e;obtain⟨dst,op,ty,pos,after,guard⟩:=o;simp only at *;split at e
   .
    rename_i x;split at e
    . rename_i t v hc;simp only[aa,ai]at e;obtain⟨rfl,rfl⟩:=e;have hx:a.eval x=.iface t v:=yc (qx h x) hc;have:(execOp a.eval ⟨dst,.panic x,ty,pos,after,guard⟩).run cx.P w=.halt (.panic (.iface t v)) w:=by simp only[execOp,Instr.panic,hx];rfl
      rw[this];exact hpanic _ rfl G w h (Gain.refl G w)
    . cases e
   .
    rename_i g args argTypes;split at e
    .
     rename_i f first caps hc
     obtain⟨args0,bx0,q0,hq0⟩:=qft e;obtain⟨fn,h1,h2,h3⟩:=hfn _ _ _ _ hq0;have hd:(Cell.clo f first caps)≠.dead:=by simp
     obtain⟨_,hs⟩:=qp h hc hd;obtain⟨vs,us,e1,e2,e3⟩:=hs ⟨⟨.res,[]⟩,0,0⟩;have run:(execOp a.eval ⟨dst,.call { callee:=.value g,args,argTypes },ty,pos,after,guard⟩).run cx.P w=.ok (.enter f (vs++args.map a.eval++us)) w:=by have:=Yh (P:=cx.P) h1 h2 h3 (vs++args.map a.eval++us) w;simp only[execOp,resolve,e1,Deferred.ofValue,invoke,pure_bind];exact this
     rw[run];have hcall:=qeP (Vs:=(vs++args.map a.eval++us).toList) hrec h (by simp[xM e2,xM e3]) (fun j v V hv hV=>by
      have l1:=xM e2;simp only[Array.toList_append,Array.toList_map]at hV;rw[List.append_assoc]at hv hV;by_cases hj:j<first.length
      . rw[aZ (by simpa using hj),aI]at hv;rw[aZ (by rw[<- l1];exact hj)]at hV;simp only[aH]at hv;obtain⟨c,hc,rfl⟩:=hv;exact Yd e2 j c V hc hV
      . rw[bg (by simpa using hj)]at hv;rw[bg (by rw[<- l1];omega)]at hV;rw[<- l1]at hV;simp only[List.length_map]at hv;by_cases hj2:j-first.length<args.toList.length
        . rw[aZ (by simpa using hj2),aI]at hv hV;simp only[aH]at hv hV;obtain⟨x,hx,rfl⟩:=hv;obtain⟨x',hx',rfl⟩:=hV;rw[hx]at hx';cases hx';exact qx h x
        . rw[bg (by simpa using hj2)]at hv hV;simp only[List.length_map]at hv hV;rw[aI]at hv;simp only[aH]at hv;obtain⟨c,hc,rfl⟩:=hv;exact Yd e3 _ c V hc hV) e
     rw[Oper.upon_enter];rw[Array.toArray_toList]at hcall;refine Calls.mono hcall fun en w' hb=>?_;obtain⟨G',hg,hb⟩:=hb;cases r with
     |none=>obtain⟨V,rfl,hr⟩:=hb;exact hnext rfl V G' w' hr hg
     |some v=>obtain⟨rfl,hr⟩:=hb;exact hpanic v rfl G' w' hr hg
    . cases e
   . cases e
theorem xh {ops G w F}{a:Act}(h:RelF G w F a.tmps){o b}(e:zi ops.toList F o=some b):
  Region.wanted o (yielded ops a.tmps)=b:=by
 unfold zi at e;unfold Region.wanted;split at e
 . rename_i hg;simp only[hg];exact aS e
 .
  rename_i j want hg;simp only[hg];split at e
  .
   rename_i oj hj;split at e
   .
    rename_i d hd;have hj':ops[j]? = some oj:=by rw[<- aR];exact hj
    have hy:∀ V,a.tmps[d]? = some V->yielded ops a.tmps j=(match V with|.bool b=>some b|_=>none):=by intro V hV;simp only[yielded,hj',ae,hd,hV];cases V<;>rfl
    split at e
    . rename_i b' hs;obtain⟨V,hV,hsh,hr⟩:=h.slots d _ hs;obtain⟨u,hu,hx⟩:=hr 0 0 (.val (.bool b')) rfl;simp only[qX,aa]at hu;subst hu;rcases hx with hx|hx
      . cases hx
      . have:V=.bool b':=hx.1;subst this;rw[hy _ hV];simp only[aa]at e;subst e;cases b'<;>cases want<;>rfl
    . rename_i hs;obtain⟨V,hV,hsh,hr⟩:=h.slots d _ hs;simp only[aa]at e;subst e;obtain⟨Vs,rfl,_⟩:=hsh;rw[hy _ hV];rfl
    . cases e
   . cases e
  . cases e
def Stands (D:Act->Prop)(G:Gh)(w:World)(F':Fr)(a':Act)(w':World):Prop:=D a'/\∃ G',zS G w G' w'/\RelF G' w' F' a'.tmps
def D0 (a:Act):Prop:=a.defers=[]
theorem put_defers (a:Act)(d:Option Nat)(V):(a.put d V).defers=a.defers:=by cases d<;>rfl
theorem QH (a)(d:Option Nat)(V)(h:D0 a):D0 (a.put d V):=(put_defers a d V).trans h
theorem Xt (G)(w):RelV G w .undef Go.undef:=⟨⟨#[],rfl,rfl,rfl,by intro i g n h;simp at h⟩,by intro r o c h;simp[AV.undef,cellAt]at h⟩
theorem vN {cx rec}(hrec:∀ d,RecSound cx.P (rec d))(hfn:∀ d,ZA cx.P (rec d)){ops G0 w0 Q D more}:
  ∀ (rest:List Oper) (i:Nat) (G:Gh) (w:World) (F:Fr) (a:Act) (F':Fr) (r:Option Value),(∀ k,k<rest.length->rest[k]? = ops[i+k]?)->(∀ o∈rest,∀ a V,D a->D (a.put o.dst V))->RelF G w F a.tmps->zS G0 w0 G w->D a ->
   aops cx rec ops.toList rest F=some (F',r) ->
   (r=none->∀ a' w',Stands D G0 w0 F' a' w'->wpOps cx.P ops Q more a' w')->(∀ v,r=some v->∀ a' w',Stands D G0 w0 F' a' w'->Q (.panic [{ v,recovered:=false }]) a' w') ->
   wpOps cx.P ops Q (List.range' i rest.length++more) a w
 |[],i,G,w,F,a,F',r,_,_,h,hg,hd,e,hn,_=>by simp only[aops,aa,ai]at e;obtain⟨rfl,rfl⟩:=e;exact hn rfl a w ⟨hd,G,hg,h⟩
 |o::rest,i,G,w,F,a,F',r,hi,hD,h,hg,hd,e,hn,hp=>by
  have hD1:=hD o au;have hD2:∀ o∈rest,∀ a V,D a->D (a.put o.dst V):=fun o' hm=>hD o' (aB _ hm);have ho:ops[i]? = some o:=by have:=hi 0 (by simp);simpa using this.symm
  have hi':∀ k,k<rest.length->rest[k]? = ops[i+1+k]?:=fun k hk=>by have:=hi (k+1) (by simpa using hk);rw[show i+(k+1)=i+1+k by omega]at this;simpa using this
  simp only[aops]at e;show wpOps cx.P ops Q (i::(List.range' (i+1) rest.length++more)) a w;simp only[wpOps,ho];cases hw:zi ops.toList F o with
  |none=>simp[hw]at e
  |some b=>
   have hb:=xh h hw;cases b with
   |true=>
    rw[aF hb];left;simp only[hw]at e;cases h1:aop cx (rec o.dst) F o with
    |none=>simp[h1]at e
    |some y=>
     obtain⟨F1,r1⟩:=y;simp only[h1]at e;refine XI (hrec _) (hfn _) h h1 (fun hr V G' w' hr' hg'=>?_) (fun v hr G' w' hr' hg'=>?_)
     . subst hr;exact vN hrec hfn rest (i+1) G' w' F1 _ F' r hi' hD2 hr' (hg.trans hg'.w) (hD1 _ _ hd) e hn hp
     . subst hr;simp only[aa,ai]at e;obtain⟨rfl,rfl⟩:=e;exact hp v rfl a w' ⟨hd,G',hg.trans hg'.w,hr'⟩
   |false=>rw[aG (by rw[hb];simp)];simp only[hw]at e;exact vN hrec hfn rest (i+1) G w _ _ F' r hi' hD2 (putO h (Xt G w)) hg (hD1 _ _ hd) e hn hp
theorem qbV {cx rec}(hrec:∀ d,RecSound cx.P (rec d))(hfn:∀ d,ZA cx.P (rec d)){ops G0 w0 Q D}(rest i G w F a F' r)(hi:∀ k,rest[k]? = ops[i+k]?)(hD:∀ o∈rest,∀ a V,D a->D (a.put o.dst V))(h:RelF G w F a.tmps)(hg:zS G0 w0 G w)(hd:D a)(e:aops cx rec ops.toList rest F=some (F',r))(hn:r=none->∀ a' w',Stands D G0 w0 F' a' w'->Q .normal a' w')(hp:∀ v,r=some v->∀ a' w',Stands D G0 w0 F' a' w'->Q (.panic [{ v,recovered:=false }]) a' w'):
  wpOps cx.P ops Q (List.range' i rest.length) a w:=by
 have:=vN hrec hfn (more:=[]) rest i G w F a F' r (fun k _=>hi k) hD h hg hd e hn hp;rwa [List.append_nil]at this
end
section
variable [Glob]
theorem qgR (F:Fr)(r):F.rows r=(F.at r).map (·.rows):=by cases r<;>simp[Fr.rows,Fr.at,AV.ag,Function.comp_def]
theorem QN {F G:Fr}{k}(h:G.at k.root=F.at k.root):G.rowsAt k=F.rowsAt k:=by unfold Fr.rowsAt;rw[qgR,qgR,h]
theorem XC {F G:Fr}{p}(h:G.at p.key.root=F.at p.key.root):G.get p=F.get p:=by unfold Fr.get;rw[QN h]
theorem qaZ {o t}(h:.tmp t∈o.op.operands):t∈readsOf o:=by unfold readsOf;simp only[List.mem_filterMap];exact⟨.tmp t,by simpa using h,rfl⟩
theorem qcX {F G:Fr}{x}(h:∀ t,x=.tmp t->G.slots[t]? = F.slots[t]?):G.ev x=F.ev x:=by
 cases x with
 |tmp t=>simp only[Fr.ev,h t rfl]
 |_=>rfl
theorem qhJ {v:AV}{c}(h:v.cell=some c):v.rows=[[c]]:=by
 unfold AV.cell at h;split at h
 . rename_i x ht hr;simp only[aa]at h;subst h;exact hr
 . cases h
theorem qim {F o x}(hx:x∈o.op.operands){c}(h:(F.ev x).cell=some c){r}(hr:r∈qJ c)(hf:∀ f,x≠.func f):r∈qR F o:=by
 cases x with
 |tmp t=>unfold qR;simp only[List.mem_flatMap];refine⟨t,qaZ hx,?_⟩;unfold AV.rootsBy;rw[qhJ h];simpa using hr
 |const v=>
  exfalso;have h':(yR v).cell=some c:=h;have:c=qm v:=by cases v<;>simp only[yR,AV.cell,AV.c,AV.ag,AV.deadv,aa]at h'<;>first|exact h'.symm|(simp[qm,oneC];exact h'.symm)|cases h'
  subst this;unfold qm at hr;split at hr
  . simp[qJ]at hr
  . split at hr<;>simp[qJ]at hr
 |global g=>exfalso;simp only[Fr.ev,AV.cell,AV.c,aa]at h;subst h;simp[qJ]at hr
 |func f=>exact absurd rfl (hf f)
theorem yC {cx F G o}(ho:Hangs o)(h:∀ x∈o.op.operands,G.ev x=F.ev x):yg cx G o=yg cx F o:=by
 unfold yg;have e1:(o.op.operands.toList.all fun x=>(G.ev x).con.isSome)=(o.op.operands.toList.all fun x=>(F.ev x).con.isSome):=by rw[Bool.eq_iff_iff,List.all_eq_true,List.all_eq_true];exact⟨fun hh x hx=>by rw[<- h x (by simpa using hx)];exact hh x hx,fun hh x hx=>by rw[h x (by simpa using hx)];exact hh x hx⟩
 rw[e1,ho (fun x=>((G.ev x).con).getD Go.undef) (fun x=>((F.ev x).con).getD Go.undef) (fun x hx=>by rw[h x (by simpa using hx)])]
theorem qeA {F G:Fr}{n c}(h:∀ r∈qJ c,G.at r=F.at r):G.loadL n c=F.loadL n c:=by
 cases c with
 |ptr p=>simp only[Fr.loadL];rw[QN (h _ (by simp[qJ]))]
 |_=>rfl
theorem qbX {F G:Fr}{c}(h:∀ r∈qJ c,G.at r=F.at r):G.look c=F.look c:=by
 cases c with
 |ref p=>simp only[Fr.look];rw[XC (h _ (by simp[qJ]))]
 |_=>rfl
theorem qbw {cx F G o}(hs:∀ t∈readsOf o,G.slots[t]? = F.slots[t]?)(hv:Xl o.op=true->∀ r∈qR F o,G.at r=F.at r):quiet cx G o=quiet cx F o:=by
 have ev:∀ x∈o.op.operands,G.ev x=F.ev x:=fun x hx=>qcX fun t ht=>hs t (qaZ (ht▸hx));have rt:Xl o.op=true->∀ x∈o.op.operands,∀ c,(F.ev x).cell=some c->∀ r∈qJ c,G.at r=F.at r:=by
  intro hl x hx c hc r hr;by_cases hf:∃ f,x=.func f
  . obtain⟨f,rfl⟩:=hf;exfalso;simp only[Fr.ev,AV.cell,AV.c,aa]at hc;subst hc;simp[qJ]at hr
  . exact hv hl r (qim hx hc hr fun f e=>hf ⟨f,e⟩)
 obtain⟨dst,op,ty,pos,after,guard⟩:=o;simp only at *;unfold quiet;cases op with
 |move x=>simp only;rw[ev x (by simp[Op.operands])]
 |pick c a b=>simp only;rw[ev c (by simp[Op.operands]),ev a (by simp[Op.operands]),ev b (by simp[Op.operands])]
 |binOp op t x y u=>have hc:=yC (cx:=cx) (o:=⟨dst,.binOp op t x y u,ty,pos,after,guard⟩) (F:=F) (G:=G) qbq ev;simp only;rw[ev x (by simp[Op.operands]),ev y (by simp[Op.operands]),hc]
 |unOp op t x=>exact yC qb8 ev
 |convert s t x=>
  have hc:=yC (cx:=cx) (o:=⟨dst,.convert s t x,ty,pos,after,guard⟩) (F:=F) (G:=G) XO ev;simp only;unfold XU;rw[ev x (by simp[Op.operands]),hc];have:=rt rfl x (by simp[Op.operands]);cases hcl:(F.ev x).cell with
  |none=>
   generalize cx.P.underlying s=U;generalize cx.P.underlying t=U';cases U with
   |none=>rfl
   |some d=>cases d<;>first|rfl|(cases U' with
    |none=>rfl
    |some d'=>cases d'<;>rfl)
  |some c=>
   have hk:=qbX (this c hcl);generalize cx.P.underlying s=U;generalize cx.P.underlying t=U';cases U with
   |none=>rfl
   |some d=>cases d<;>first|rfl|(cases U' with
    |none=>rfl
    |some d'=>cases d'<;>first|rfl|simp only[hk])
 |makeInterface t x=>exact yC xH ev
 |typeAssert x xt t ok=>simp only[qbz];rw[ev x (by simp[Op.operands])]
 |load t a=>
  simp only;have hx:=ev a (by simp[Op.operands]);rw[hx];have:=rt rfl a (by simp[Op.operands]);cases hc:(F.ev a).cell with
  |none=>rfl
  |some c=>
   cases qQ cx.P t with
   |none=>rfl
   |some n=>
    cases zW cx.P t with
    |none=>rfl
    |some g=>simp only[qeA (this c hc)]
 |nilCheck x=>simp only;rw[ev x (by simp[Op.operands])]
 |fieldAddr s x f=>simp only;rw[ev x (by simp[Op.operands])]
 |indexAddr t x i=>
  simp only;rw[ev x (by simp[Op.operands]),ev i (by simp[Op.operands])];have:=rt rfl x (by simp[Op.operands]);generalize asInt (F.ev i)=N;generalize cx.P.underlying t=U;cases hc:(F.ev x).cell with
  |none=>cases U with
   |none=>rfl
   |some d=>cases d<;>cases N<;>rfl
  |some c=>
   cases c with
   |ref p=>
    have hg:=XC (this _ hc p.key.root (by simp[qJ]));cases U with
    |none=>rfl
    |some d=>cases d<;>cases N<;>first|rfl|simp only[hg]
   |_=>cases U with
    |none=>rfl
    |some d=>cases d<;>cases N<;>rfl
 |index t x i=>exact yC qaW ev
 |field s x f=>simp only;rw[ev x (by simp[Op.operands])]
 |extract x i=>simp only;rw[ev x (by simp[Op.operands])]
 |lookup t x k ok=>
  simp only;rw[ev x (by simp[Op.operands]),ev k (by simp[Op.operands])];have:=rt rfl x (by simp[Op.operands]);generalize (F.ev k).con=N;generalize cx.P.underlying t=U;cases hc:(F.ev x).cell with
  |none=>cases U with
   |none=>rfl
   |some d=>cases d<;>cases N<;>rfl
  |some c=>
   have hm:qwv G c=qwv F c:=by
    cases c with
    |ref p=>have hg:=XC (this _ hc p.key.root (by simp[qJ]));simp only[qwv,hg]
    |ptr p=>have hg:G.get ⟨p.key,0,0⟩=F.get ⟨p.key,0,0⟩:=XC (this _ hc p.key.root (by simp[qJ]));simp only[qwv,hg]
    |_=>rfl
   cases U with
   |none=>rfl
   |some d=>cases d<;>cases N<;>first|rfl|simp only[hm]
 |makeFunc f first caps=>
  cases f with
  |func f=>
   simp only;have e1:(first.toList.map fun x=>(G.ev x).cell)=first.toList.map fun x=>(F.ev x).cell:=by apply List.map_congr_left;intro x hx;rw[ev x (by simp[Op.operands];left;simpa using hx)]
   have e2:(caps.toList.map fun x=>(G.ev x).cell)=caps.toList.map fun x=>(F.ev x).cell:=by apply List.map_congr_left;intro x hx;rw[ev x (by simp[Op.operands];right;simpa using hx)]
   rw[e1,e2]
  |_=>rfl
 |call c=>
  obtain⟨callee,args,argTypes⟩:=c;cases callee with
  |builtin b=>
   have hc:=yC (cx:=cx) (o:=⟨dst,.call { callee:=.builtin b,args,argTypes },ty,pos,after,guard⟩) (F:=F) (G:=G) qoY ev;cases b with
   |len=>
    simp only;rw[hc];cases h0:args[0]? with
    |none=>rfl
    |some x=>
     cases h1:argTypes[0]? with
     |none=>rfl
     |some t=>
      simp only;have hm:x∈(Op.call { callee:=.builtin .len,args,argTypes }).operands:=by simp[Op.operands,Call.operands];exact Array.mem_of_getElem? h0
      rw[ev x hm];have:=rt rfl x hm;generalize cx.P.underlying t=U;cases hc:(F.ev x).cell with
      |none=>cases U with
       |none=>rfl
       |some d=>cases d<;>rfl
      |some c=>
       have hk:=qbX (this c hc);cases c with
       |ref p=>
        have hg:=XC (this _ hc p.key.root (by simp[qJ]));cases U with
        |none=>rfl
        |some d=>cases d<;>first|rfl|simp only[hg,hk]
       |_=>cases U with
        |none=>rfl
        |some d=>cases d<;>first|rfl|simp only[hk]
   |max=>exact hc
   |min=>exact hc
   |_=>rfl
  |_=>rfl
 |_=>rfl
theorem qjJ {F G:Fr}(hl:G.slots.length=F.slots.length)(h:∀ k,G.at (.slot k)=F.at (.slot k)):G.slots=F.slots:=by apply List.ext_getElem?;exact h
theorem qmG {F:Fr}{d v r}(h:r≠.slot d):(F.put (some d) v).at r=F.at r:=by
 cases r with
 |slot k=>have:d≠k:=fun e=>h (by rw[e]);simp only[Fr.at,Fr.put,List.getElem?_set,aG this]
 |_=>rfl
theorem qeG {F G:Fr}{d v}(hl:G.slots.length=F.slots.length):(G.put (some d) v).at (.slot d)=(F.put (some d) v).at (.slot d):=by simp only[Fr.at,Fr.put,List.getElem?_set,if_true,hl]
theorem qbN (W)(l1):∀ (l:List AV) (k j:Nat),(mslots W l1 k l)[j]? = (l[j]?).map fun v=>if W.contains (.slot (k+j))then((l1[k+j]?).getD .deadv).mapC (cutC W)else v
 |[],k,j=>by simp[mslots]
 |v::l,k,0=>by simp[mslots]
 |v::l,k,j+1=>by simp only[mslots,List.getElem?_cons_succ];rw[qbN W l1 l (k+1) j,show k+1+j=k+(j+1)by omega]
theorem vO (W)(ts):∀ (l:List AV) (k j:Nat),(lslots W ts k l)[j]? = (l[j]?).map fun v=>
  if W.contains (.slot (k+j))then v.mapC (cutC W)else if ts.contains (k+j)then v.mapC (fun c=>if qy c then .dead else cutC W c)else .deadv
 |[],k,j=>by simp[lslots]
 |v::l,k,0=>by simp[lslots]
 |v::l,k,j+1=>by simp only[lslots,List.getElem?_cons_succ];rw[vO W ts l (k+1) j,show k+1+j=k+(j+1)by omega]
theorem zT (F)(W):∀ (l:List Root) (r:Root),(lboxes F W l).lookup r=if r∈l/\r.boxed=true then(F.boxes.lookup r).map (·.map (cutC W))else none
 |[],r=>by simp[lboxes]
 |x::l,r=>by
  simp only[lboxes];have ih:=zT F W l r;by_cases hx:x.boxed=true
  .
   rw[aF hx];cases hb:F.boxes.lookup x with
   |none=>
    simp only;rw[ih];by_cases h:r=x
    . subst h;simp[hb]
    . simp[h]
   |some b=>
    simp only[List.lookup_cons];by_cases h:r=x
    . subst h;simp[hx,hb]
    . have:(r==x)=false:=by simpa using h
      rw[this,ih];simp[h]
  . rw[aG hx];simp only;rw[ih];by_cases h:r=x
    . subst h;simp[hx]
    . simp[h]
theorem qc7 {α β:Type}[BEq α](l m:List (α×β))(r):(l++m).lookup r=(l.lookup r).or (m.lookup r):=by
 induction l with
 |nil=>simp
 |cons x l ih=>obtain⟨a,b⟩:=x;simp only[List.cons_append,List.lookup_cons];split<;>simp[ih]
theorem YK (M:List (Root×List Cell)):∀ (l:List (Root×List Cell)) (r:Root),(l.filter (fun x=>(M.lookup x.1).isNone)).lookup r=if (M.lookup r).isNone=true then l.lookup r else none
 |[],r=>by simp
 |(a,b)::l,r=>by
  have ih:=YK M l r;by_cases ha:(M.lookup a).isNone=true
  .
   rw[List.filter_cons_of_pos (by simpa using ha),List.lookup_cons,List.lookup_cons,ih];by_cases h:r=a
   . subst h;simp[ha]
   . have:(r==a)=false:=by simpa using h
     simp only[this]
  .
   rw[List.filter_cons_of_neg (by simpa using ha),ih];by_cases h:r=a
   . subst h;rw[aG ha,aG ha]
   . have:(r==a)=false:=by simpa using h
     simp only[List.lookup_cons,this]
theorem XX (F1)(W):∀ (l:List (Root×List Cell)) (r:Root),(mboxes F1 W l).lookup r =
  if W.contains r=true then(if (l.lookup r).isSome=true then(if r.boxed then(F1.boxes.lookup r).map (·.map (cutC W))else none)else none)else l.lookup r
 |[],r=>by simp[mboxes]
 |(a,b)::l,r=>by
  have ih:=XX F1 W l r;simp only[mboxes];by_cases ha:W.contains a=true
  .
   rw[aF ha];by_cases h:r=a
   .
    subst h;rw[aF ha]at ih |-;have hs:(List.lookup r ((r,b)::l)).isSome=true:=by simp
    rw[aF hs];by_cases hb:r.boxed=true
    . rw[aF hb]at ih |-;rw[aF hb];cases hl:F1.boxes.lookup r with
      |none=>simp only[hl,Option.map_none,ite_self]at ih |-;exact ih
      |some b'=>simp
    . rw[aG hb]at ih |-;rw[aG hb];simp only[ite_self]at ih;exact ih
   .
    have hne:(r==a)=false:=by simpa using h
    have hk:List.lookup r ((a,b)::l)=List.lookup r l:=by simp only[List.lookup_cons,hne]
    rw[hk];split
    . rw[List.lookup_cons,hne];exact ih
    . exact ih
  .
   rw[aG ha];by_cases h:r=a
   . subst h;rw[aG ha];simp
   . have hne:(r==a)=false:=by simpa using h
     rw[List.lookup_cons,List.lookup_cons,hne];exact ih
theorem Xd (F F1:Fr)(W)(r):(F.merge F1 W).boxes.lookup r=if r∈W then(if r.boxed then(F1.boxes.lookup r).map (·.map (cutC W))else none)else F.boxes.lookup r:=by
 simp only[Fr.merge];rw[qc7,YK,XX,zT];by_cases h:r∈W
 .
  have hc:W.contains r=true:=by simpa using h
  cases hF:F.boxes.lookup r with
  |none=>
   by_cases hb:r.boxed=true
   . simp[h,hb]
   . simp[h,hb]
  |some l=>simp[h]
 .
  have hc:¬ W.contains r=true:=by simpa using h
  cases hF:F.boxes.lookup r with
  |none=>simp[h]
  |some l=>simp[h]
def qiy (n:Nat)(F1:Fr)(W:List Root):Root->Option AV
 |.slot k=>if k<n then some (((F1.slots[k]?).getD .deadv).mapC (cutC W))else none
 |r=>if r.boxed then(F1.boxes.lookup r).map (fun b=>AV.ag (b.map (cutC W)))else none
theorem qaz (F F1:Fr)(W)(r):(F.merge F1 W).at r=if r∈W then qiy F.slots.length F1 W r else F.at r:=by
 have bx:∀ r:Root,(∀ k,r≠.slot k)->((F.merge F1 W).boxes.lookup r).map AV.ag=if r∈W then(if r.boxed then(F1.boxes.lookup r).map (fun b=>AV.ag (b.map (cutC W)))else none)else(F.boxes.lookup r).map AV.ag:=by
  intro r _;rw[Xd];by_cases h:r∈W
  . rw[aF h,aF h];by_cases hb:r.boxed=true
    . rw[aF hb,aF hb];cases F1.boxes.lookup r<;>rfl
    . rw[aG hb,aG hb];rfl
  . rw[aG h,aG h]
 cases r with
 |slot k=>
  simp only[Fr.at,Fr.merge];rw[qbN];simp only[Nat.zero_add];by_cases h:Root.slot k∈W
  .
   have hc:W.contains (.slot k)=true:=by simpa using h
   rw[aF h];simp only[hc,if_true,qiy];by_cases hk:k<F.slots.length
   . rw[ax hk,aF hk];rfl
   . rw[show F.slots[k]? = none from List.getElem?_eq_none (by omega),aG hk];rfl
  . have hc:W.contains (.slot k)=false:=by simpa using h
    rw[aG h];simp only[hc,aU,if_false];cases F.slots[k]?<;>rfl
 |par i=>exact bx (.par i) (by simp)
 |loc i=>exact bx (.loc i) (by simp)
 |res=>exact bx .res (by simp)
theorem qd2 (F F1:Fr)(W):(F.merge F1 W).slots.length=F.slots.length:=by
 have:∀ (l:List AV) k,(mslots W F1.slots k l).length=l.length:=by
  intro l
  induction l with
  |nil=>intro k;rfl
  |cons v l ih=>intro k;simp[mslots,ih]
 exact this _ _
theorem qgL (F:Fr)(d)(v):(F.put d v).slots.length=F.slots.length:=by cases d<;>simp[Fr.put]
theorem yh (l m):∀ r,r∈l\/r∈m->r∈zm l m:=by
 induction m generalizing l with
 |nil=>intro r h;simpa [zm]using h
 |cons x m ih=>
  intro r h;show r∈zm (if l.contains x then l else l++[x]) m;apply ih;rcases h with h|h
  . left;split<;>simp[h]
  .
   rcases List.mem_cons.1 h with rfl|h
   . left;split
     . rename_i hc;simpa using hc
     . simp
   . exact .inr h
theorem Yx (F):∀ (n:Nat) (l:List Root) r,r∈l->r∈YL F n l
 |0,l,r,h=>h
 |n+1,l,r,h=>Yx F n _ r (yh _ _ r (.inl h))
theorem qbB {F G r}(h:G.at r=F.at r):xX G r=xX F r:=by
 unfold xX;cases r with
 |par i=>simp only[Fr.at]at h;cases hx:F.boxes.lookup (.par i)<;>cases hy:G.boxes.lookup (.par i)<;>simp_all[AV.ag]
 |loc i=>simp only[Fr.at]at h;cases hx:F.boxes.lookup (.loc i)<;>cases hy:G.boxes.lookup (.loc i)<;>simp_all[AV.ag]
 |_=>rfl
theorem qar {F G}:∀ (n:Nat) (l:List Root),(∀ r∈YL F n l,G.at r=F.at r)->YL G n l=YL F n l
 |0,_,_=>rfl
 |n+1,l,h=>by
  have e:l.flatMap (xX G)=l.flatMap (xX F):=by
   have:∀ m:List Root,(∀ r∈m,r∈l)->m.flatMap (xX G)=m.flatMap (xX F):=by
    intro m
    induction m with
    |nil=>intro _;rfl
    |cons x m ih=>intro hm;simp only[List.flatMap_cons];rw[ih (fun r hr=>hm r (aB _ hr)),qbB (h x (Yx F (n+1) l x (hm x au)))]
   exact this l (fun r h=>h)
  simp only[YL,e];exact qar n _ (by simpa [YL]using h)
theorem zU {F G W r}(h:G.at r=F.at r):qu2 G W r=qu2 F W r:=by unfold qu2;rw[h]
theorem qia {l m}:inter l m=true↔∃ r,r∈l/\r∈m:=by simp[inter]
theorem Xj {l m}:inter l m=false↔∀ r,r∈l->r∉m:=by rw[<- Bool.not_eq_true,qia];exact⟨fun h r h1 h2=>h ⟨r,h1,h2⟩,fun h ⟨r,h1,h2⟩=>h r h1 h2⟩
theorem qak {F W W'}(hw:∀ r∈W,r∈W'){r}(h:qu2 F W' r=false):qu2 F W r=false:=by
 unfold qu2 at *;split
 . rename_i v hv;rw[hv]at h;simp only[Xj]at *;exact fun x h1 h2=>h x h1 (hw x h2)
 . rfl
theorem qa8 {F W}:xG F W=true↔∀ r,r∉W->(∀ k,r=.slot k->True)->qu2 F W r=false\/(∃ k,r=.slot k/\F.at r=none)\/F.at r=none:=by
 unfold xG;simp only[List.all_eq_true,Bool.or_eq_true,List.contains_eq_mem,aY,Bool.not_eq_true'];constructor
 .
  intro h r hr _;by_cases hm:r∈qcg F
  . rcases h r hm with h|h
    . exact absurd h hr
    . exact .inl h
  . right;right;unfold qcg at hm;simp only[List.mem_append,List.mem_map,List.mem_range,not_or,not_exists,not_and]at hm;cases r with
    |slot k=>simp only[Fr.at];rw[List.getElem?_eq_none];have:=hm.1 k;simp only[not_true_eq_false,imp_false]at this;omega
    |_=>simp only[Fr.at,Option.map_eq_none_iff];rw[List.lookup_eq_none_iff];intro p hp;have:=hm.2 p hp;exact bne_iff_ne.2 fun e=>this e.symm
 .
  intro h r hm;by_cases hr:r∈W
  . exact .inl hr
  .
   right;rcases h r hr (fun _ _=>trivial)with h|⟨k,rfl,h⟩|h
   . exact h
   . unfold qu2;rw[h]
   . unfold qu2;rw[h]
theorem yB {F W}(h:xG F W=true){r}(hr:r∉W):qu2 F W r=false:=by
 rcases qa8.1 h r hr (fun _ _=>trivial)with h|⟨k,rfl,h⟩|h
 . exact h
 . unfold qu2;rw[h]
 . unfold qu2;rw[h]
theorem XT {F G f l}(h:∀ r∈l,G.at r=F.at r):yt G f l=yt F f l:=by
 unfold yt
 induction l with
 |nil=>rfl
 |cons x l ih=>simp only[List.flatMap_cons];rw[h x au,ih (fun r hr=>h r (aB _ hr))]
theorem Yc {F F' G G' W Rd cl}(h:∀ r∈W++Rd,G.at r=F.at r)(h':∀ r∈W,G'.at r=F'.at r):zJ G G' W Rd cl=zJ F F' W Rd cl:=by unfold zJ;rw[XT h,XT h']
theorem vW {ops F G o}(h:∀ r∈xW ops o,G.at r=F.at r):zi ops G o=zi ops F o:=by
 unfold zi;unfold xW at h;cases hg:o.guard with
 |none=>rfl
 |some y=>
  obtain⟨j,want⟩:=y;simp only[hg]at h |-;cases hj:ops[j]? with
  |none=>rfl
  |some oj=>
   simp only[hj,ae]at h |-;cases hd:oj.dst with
   |none=>rfl
   |some d=>simp only[hd]at h |-;have:G.slots[d]? = F.slots[d]?:=h (.slot d) (by simp);rw[this]
theorem qf0 {F G:Fr}{W ts}(hl:G.slots.length=F.slots.length)(hW:∀ r∈W,G.at r=F.at r)(hts:∀ t∈ts,G.slots[t]? = F.slots[t]?):G.part W ts=F.part W ts:=by
 unfold Fr.part;congr 1
 .
  apply List.ext_getElem?;intro j;rw[vO,vO];simp only[Nat.zero_add];by_cases h1:W.contains (.slot j)=true
  . have:G.slots[j]? = F.slots[j]?:=hW (.slot j) (by simpa using h1);rw[this]
  .
   by_cases h2:ts.contains j=true
   . rw[hts j (by simpa using h2)]
   . simp only[h1,h2];by_cases hj:j<F.slots.length
     . rw[ax hj,ax (by omega)];rfl
     . rw[List.getElem?_eq_none (by omega),List.getElem?_eq_none (by omega)]
 .
  have:∀ l:List Root,(∀ r∈l,r∈W)->lboxes G W l=lboxes F W l:=by
   intro l
   induction l with
   |nil=>intro _;rfl
   |cons x l ih=>
    intro hm;simp only[lboxes];rw[ih (fun r hr=>hm r (aB _ hr))];by_cases hx:x.boxed=true
    .
     have hat:=hW x (hm x au);have:G.boxes.lookup x=F.boxes.lookup x:=by
      cases x with
      |par i=>
       simp only[Fr.at]at hat
       cases hx:F.boxes.lookup (.par i)<;>cases hy:G.boxes.lookup (.par i)<;>simp_all[AV.ag]
      |loc i=>
       simp only[Fr.at]at hat
       cases hx:F.boxes.lookup (.loc i)<;>cases hy:G.boxes.lookup (.loc i)<;>simp_all[AV.ag]
      |_=>simp[Root.boxed]at hx
     rw[aF hx,aF hx,this]
    . rw[aG hx,aG hx]
  exact this W (fun r h=>h)
theorem qed {F G o}(hl:G.slots.length=F.slots.length)(hs:∀ t∈readsOf o,G.slots[t]? = F.slots[t]?)(hW:∀ r∈qC F o,G.at r=F.at r)(hc:∀ r,r∉qC F o->qu2 G (qC F o) r=qu2 F (qC F o) r)(hcl:xG F (qC F o)=true):qC G o=qC F o:=by
 have hv:qR G o=qR F o:=by
  unfold qR;have:∀ l:List Nat,(∀ t∈l,t∈readsOf o)->(l.flatMap fun t=>(G.ev (.tmp t)).rootsBy qJ)=l.flatMap fun t=>(F.ev (.tmp t)).rootsBy qJ:=by
   intro l
   induction l with
   |nil=>intro _;rfl
   |cons t l ih=>intro hm;simp only[List.flatMap_cons];rw[ih (fun r hr=>hm r (aB _ hr)),qcX (F:=F) (G:=G) (x:=.tmp t) (fun t' ht=>by cases ht;exact hs t (hm t au))]
  exact this _ (fun t h=>h)
 let W0:=YL F 3 (zm (locR o) (qR F o))
 have sub:∀ r∈W0,r∈qC F o:=fun r hr=>yh _ _ r (.inl hr);have e0:YL G 3 (zm (locR o) (qR G o))=W0:=by rw[hv];exact qar 3 _ (fun r hr=>hW r (sub r hr))
 unfold qC;simp only;rw[e0];congr 1;unfold holders;rw[hl];apply List.filter_congr;intro r _;show qu2 G W0 r=qu2 F W0 r;by_cases hr:r∈qC F o
 . exact zU (hW r hr)
 . have h1:=yB hcl hr;have h2:qu2 G (qC F o) r=false:=by rw[hc r hr,h1]
   rw[qak sub h1,qak sub h2]
theorem Qi:∀ {l:List Root} {r:Root},r∈l->(Ym l).testBit (qld r)=true
 |[],r,h=>by simp at h
 |x::l,r,h=>by
  simp only[Ym,Nat.testBit_or,Bool.or_eq_true];rcases List.mem_cons.1 h with rfl|h
  . left;exact Nat.testBit_two_pow_self
  . exact .inr (Qi h)
theorem qa3 {l m}(h:(Ym l &&& Ym m==0)=true):∀ r,r∈l->r∉m:=by
 intro r h1 h2;have:(Ym l &&& Ym m).testBit (qld r)=true:=by rw[Nat.testBit_and,Qi h1,Qi h2];rfl
 rw[eq_of_beq h]at this;simp at this
theorem qaw {cx rec ops F F' o I}(e:dop cx rec ops F o=some (F',I)):I.mW=Ym I.W/\I.mS=Ym I.S:=by
 unfold dop at e;split at e
 . cases e
 . simp only[aa,ai]at e;obtain⟨_,rfl⟩:=e;exact⟨rfl,rfl⟩
 .
  split at e
  . simp only[aa,ai]at e;obtain⟨_,rfl⟩:=e;exact⟨rfl,rfl⟩
  .
   split at e
   . split at e
     . simp only[aa,ai]at e;obtain⟨_,rfl⟩:=e;exact⟨rfl,rfl⟩
     . cases e
   . cases e
theorem yL {cx rec ops F F' o I}(e:dop cx rec ops F o=some (F',I)):
  F'.slots.length=F.slots.length/\(∀ r,r∉I.W->F'.at r=F.at r)/\I.S=I.W++I.Rd++yt F qvC (I.W++I.Rd)++yt F' qvC I.W /\
   (I.cl=true->∀ r,r∉I.W->qu2 F I.W r=false)/\((∀ r l,F.boxes.lookup r=some l->r.boxed=true)->∀ r l,F'.boxes.lookup r=some l->r.boxed=true) /\
   ∀ G:Fr,G.slots.length=F.slots.length->(∀ r∈I.W++I.Rd,G.at r=F.at r)->(I.cl=true->∀ r,r∉I.W++I.Rd->qu2 G I.W r=false) ->
    ∃ G',dop cx rec ops G o=some (G',I)/\∀ r∈I.W,G'.at r=F'.at r:=by
 unfold dop at e;cases hw:zi ops F o with
 |none=>simp[hw]at e
 |some b=>
  have putat:∀ v r,r∉dstR o->(F.put o.dst v).at r=F.at r:=by
   intro v r hr;cases hd:o.dst with
   |none=>rfl
   |some d=>exact qmG (fun e=>hr (by simp[dstR,hd,e]))
  have putat':∀ v (G:Fr),G.slots.length=F.slots.length->∀ r∈dstR o,(G.put o.dst v).at r=(F.put o.dst v).at r:=by
   intro v G hl r hr;cases hd:o.dst with
   |none=>simp[dstR,hd]at hr
   |some d=>simp only[dstR,hd,aW]at hr;subst hr;exact qeG hl
  cases b with
  |false=>
   simp only[hw,aa,ai]at e;obtain⟨rfl,rfl⟩:=e;refine⟨qgL _ _ _,fun r hr=>putat _ r hr,rfl,by simp[zJ],fun h r l hl=>h r l (by cases hd:o.dst<;>simpa [Fr.put,hd]using hl),fun G hl h _=>?_⟩;have hw':zi ops G o=some false:=by rw[vW (fun r hr=>h r (by simp[zJ,hr]))];exact hw
   refine⟨G.put o.dst .undef,?_,putat' _ G hl⟩;simp only[dop,hw',aa,ai,true_and];exact Yc h (putat' _ G hl)
  |true=>
   simp only[hw]at e;cases hq:quiet cx F o with
   |some v=>
    simp only[hq,aa,ai]at e;obtain⟨rfl,rfl⟩:=e;refine⟨qgL _ _ _,fun r hr=>putat _ r hr,rfl,by simp[zJ],fun h r l hl=>h r l (by cases hd:o.dst<;>simpa [Fr.put,hd]using hl),fun G hl h _=>?_⟩;have hw':zi ops G o=some true:=by rw[vW (fun r hr=>h r (by simp[zJ,hr]))];exact hw
    have hs:∀ t∈readsOf o,G.slots[t]? = F.slots[t]?:=fun t ht=>h (.slot t) (by simp[zJ,slotsOf,ht]);have hq':quiet cx G o=some v:=by rw[qbw hs (fun hl r hr=>h r (by simp[zJ,hl,hr]))];exact hq
    have hv:(if Xl o.op then qR G o else [])=if Xl o.op then qR F o else []:=by
     split
     . unfold qR;have:∀ l:List Nat,(∀ t∈l,t∈readsOf o)->(l.flatMap fun t=>(G.ev (.tmp t)).rootsBy qJ)=l.flatMap fun t=>(F.ev (.tmp t)).rootsBy qJ:=by
        intro l
        induction l with
        |nil=>intro _;rfl
        |cons t l ih=>intro hm;simp only[List.flatMap_cons];rw[ih (fun r hr=>hm r (aB _ hr)),qcX (F:=F) (G:=G) (x:=.tmp t) (fun t' ht=>by cases ht;exact hs t (hm t au))]
       exact this _ (fun t h=>h)
     . rfl
    refine⟨G.put o.dst v,?_,putat' _ G hl⟩;simp only[dop,hw',hq',hv,aa,ai,true_and];exact Yc h (putat' _ G hl)
   |none=>
    simp only[hq]at e;split at e
    .
     rename_i hcl;split at e
     .
      rename_i F1 ha;simp only[aa,ai]at e;obtain⟨rfl,rfl⟩:=e;refine⟨qd2 _ _ _,fun r hr=>by rw[qaz];exact aG hr,rfl,fun _ r hr=>yB hcl hr,fun h r l hl=>?_,fun G hl h hc=>?_⟩
      . rw[Xd]at hl;split at hl
        . split at hl
          . rename_i hb;exact hb
          . cases hl
        . exact h r l hl
      .
       have hw':zi ops G o=some true:=by rw[vW (fun r hr=>h r (by simp[zJ,hr]))];exact hw
       have hs:∀ t∈readsOf o,G.slots[t]? = F.slots[t]?:=fun t ht=>h (.slot t) (by simp[zJ,slotsOf,ht]);have hW:∀ r∈qC F o,G.at r=F.at r:=fun r hr=>h r (by simp[zJ,hr]);have hh:∀ r,r∉qC F o->qu2 G (qC F o) r=false:=by
        intro r hr;by_cases hm:r∈(zJ F (F.merge F1 (qC F o)) (qC F o) (xW ops o++slotsOf o) true).W++(zJ F (F.merge F1 (qC F o)) (qC F o) (xW ops o++slotsOf o) true).Rd
        . rw[zU (h r hm)];exact yB hcl hr
        . exact hc rfl r hm
       have hp:qC G o=qC F o:=qed hl hs hW (fun r hr=>by rw[hh r hr,yB hcl hr]) hcl;have hcl':xG G (qC F o)=true:=qa8.2 fun r hr _=>.inl (hh r hr);have hpart:G.part (qC F o) (readsOf o)=F.part (qC F o) (readsOf o):=qf0 hl hW hs;have hat:∀ r∈qC F o,(G.merge F1 (qC F o)).at r=(F.merge F1 (qC F o)).at r:=fun r hr=>by rw[qaz,qaz,aF hr,aF hr,hl]
       have hq':quiet cx G o=none:=by
        rw[qbw hs (fun hl r hr=>?_)]
        . exact hq
        . exact hW r (yh _ _ r (.inl (Yx F 3 _ r (yh _ _ r (.inr hr)))))
       refine⟨G.merge F1 (qC F o),?_,hat⟩;simp only[dop,hw',hq',hp,hcl',if_true,hpart,ha,aa,ai,true_and];exact Yc h hat
     . cases e
    . cases e
end
section
variable [Glob]
def AtEq (F G:Fr):Prop:=G.slots.length=F.slots.length/\∀ r,G.at r=F.at r
theorem AtEq.refl (F):AtEq F F:=⟨rfl,fun _=>rfl⟩
theorem AtEq.trans {F G H}(h1:AtEq F G)(h2:AtEq G H):AtEq F H:=⟨h2.1.trans h1.1,fun r=>(h2.2 r).trans (h1.2 r)⟩
theorem AtEq.symm {F G}(h:AtEq F G):AtEq G F:=⟨h.1.symm,fun r=>(h.2 r).symm⟩
def RunL (cx:Cx)(rec:Orac)(ops:List Oper)(info:Nat->Info):List Nat->Fr->Fr->Prop
 |[],F,F'=>AtEq F F'
 |i::l,F,F'=>∃ o F1,ops[i]? = some o/\dop cx rec ops F o=some (F1,info i)/\RunL cx rec ops info l F1 F'
section
variable {cx:Cx} {rec:Orac} {ops:List Oper} {info:Nat->Info}
theorem qiV {F F' G o I}(e:dop cx rec ops F o=some (F',I))(h:AtEq F G):∃ G',dop cx rec ops G o=some (G',I)/\AtEq F' G':=by
 obtain⟨h1,h2,_,h4,_,h6⟩:=yL e;obtain⟨G',g1,g2⟩:=h6 G h.1 (fun r _=>h.2 r) (fun hc r hr=>by rw[zU (h.2 r)];exact h4 hc r (fun hm=>hr (by simp[hm])));obtain⟨k1,k2,_⟩:=yL g1;refine⟨G',g1,by rw[k1,h.1,h1],fun r=>?_⟩;by_cases hr:r∈I.W
 . exact g2 r hr
 . rw[k2 r hr,h.2 r,h2 r hr]
theorem RunL.ateq:∀ {l:List Nat} {F F' G:Fr},RunL cx rec ops info l F F'->AtEq F G->RunL cx rec ops info l G F'
 |[],F,F',G,h,e=>e.symm.trans h
 |i::l,F,F',G,⟨o,F1,h1,h2,h3⟩,e=>by obtain⟨G1,g1,g2⟩:=qiV h2 e;exact⟨o,G1,h1,g1,h3.ateq g2⟩
theorem qex {F f l r x}(hr:r∈l){v}(hv:F.at r=some v)(hx:x∈v.rootsBy f):x∈yt F f l:=by unfold yt;rw[List.mem_flatMap];exact⟨r,hr,by rw[hv];exact hx⟩
theorem YI {F}{W l S:List Root}{r}(hr:r∈l)(hS:∀ x∈yt F qvC l,x∈S)(hd:∀ x∈S,x∉W):qu2 F W r=false:=by
 unfold qu2;split
 . rename_i v hv;exact Xj.2 fun x hx hw=>hd x (hS x (qex hr hv hx)) hw
 . rfl
theorem qny {F F1 F2 oi oj Ii Ij}(ei:dop cx rec ops F oi=some (F1,Ii))(ej:dop cx rec ops F1 oj=some (F2,Ij))(hd:vY Ii Ij=true):
  ∃ G1 G2,dop cx rec ops F oj=some (G1,Ij)/\dop cx rec ops G1 oi=some (G2,Ii)/\AtEq G2 F2:=by
 obtain⟨i1,i2,i3,i4,_,i6⟩:=yL ei;obtain⟨j1,j2,j3,j4,_,j6⟩:=yL ej;unfold vY at hd;rw[(qaw ei).1,(qaw ei).2,(qaw ej).1,(qaw ej).2]at hd;simp only[aD]at hd;have d1:∀ x∈Ii.W,x∉Ij.S:=qa3 hd.1;have d2:∀ x∈Ij.W,x∉Ii.S:=qa3 hd.2;have si:∀ r∈Ii.W++Ii.Rd,r∈Ii.S:=fun r hr=>by rw[i3];exact aM _ (aM _ hr)
 have sj:∀ r∈Ij.W++Ij.Rd,r∈Ij.S:=fun r hr=>by rw[j3];exact aM _ (aM _ hr)
 have siF:∀ x∈yt F qvC (Ii.W++Ii.Rd),x∈Ii.S:=fun x hx=>by rw[i3];exact aM _ (aT _ hx)
 have sjF:∀ x∈yt F2 qvC Ij.W,x∈Ij.S:=fun x hx=>by rw[j3];exact aT _ hx
 obtain⟨G1,g1,g2⟩:=j6 F i1.symm (fun r hr=>(i2 r (fun hw=>d1 r hw (sj r hr))).symm) (fun hc r hr=>by
  by_cases hw:r∈Ii.W
  . exact YI (l:=Ii.W++Ii.Rd) (by simp[hw]) siF (fun x hx hw'=>d2 x hw' hx)
  . rw[<- zU (i2 r hw)];exact j4 hc r (fun hm=>hr (by simp[hm])))
 obtain⟨k1,k2,_⟩:=yL g1;obtain⟨G2,l1,l2⟩:=i6 G1 k1 (fun r hr=>k2 r (fun hw=>d2 r hw (si r hr))) (fun hc r hr=>by
  by_cases hw:r∈Ij.W
  . rw[zU (g2 r hw)];exact YI (l:=Ij.W) hw sjF (fun x hx hw'=>d1 x hw' hx)
  . rw[zU (k2 r hw)];exact i4 hc r (fun hm=>hr (by simp[hm])))
 obtain⟨m1,m2,_⟩:=yL l1;refine⟨G1,G2,g1,l1,by rw[j1,i1,m1,k1],fun r=>?_⟩;by_cases hi:r∈Ii.W
 . have hj:r∉Ij.W:=fun hj=>d1 r hi (sj r (by simp[hj]));rw[j2 r hj,l2 r hi]
 .
  by_cases hj:r∈Ij.W
  . rw[m2 r hi,g2 r hj]
  . rw[j2 r hj,i2 r hi,m2 r hi,k2 r hj]
theorem RunL.front:∀ {pre:List Nat} {x:Nat} {post:List Nat} {F F':Fr},RunL cx rec ops info (pre++x::post) F F'->(∀ y∈pre,vY (info y) (info x)=true) ->
  RunL cx rec ops info (x::(pre++post)) F F'
 |[],_,_,_,_,h,_=>h
 |y::pre,x,post,F,F',⟨o,F1,h1,h2,h3⟩,hd=>by obtain⟨ox,F2,k1,k2,k3⟩:=RunL.front h3 (fun z hz=>hd z (aB _ hz));obtain⟨G1,G2,g1,g2,g3⟩:=qny h2 k2 (hd y au);exact⟨ox,G1,k1,g1,o,G2,h1,g2,k3.ateq g3.symm⟩
theorem qfV:∀ {rest:List Oper} {i:Nat} {F F':Fr} {is all:List Info},(∀ k,rest[k]? = ops[i+k]?)->drun cx rec ops rest F=some (F',is)->(∀ (k:Nat) x,is[k]? = some x->info (i+k)=x) ->
  RunL cx rec ops info (List.range' i rest.length) F F'/\is.length=rest.length
 |[],i,F,F',is,all,_,e,_=>by simp only[drun,aa,ai]at e;obtain⟨rfl,rfl⟩:=e;exact⟨AtEq.refl _,rfl⟩
 |o::rest,i,F,F',is,all,hi,e,hinfo=>by
  simp only[drun]at e;cases h1:dop cx rec ops F o with
  |none=>simp[h1]at e
  |some y=>
   obtain⟨F1,I⟩:=y;simp only[h1]at e;cases h2:drun cx rec ops rest F1 with
   |none=>simp[h2]at e
   |some z=>
    obtain⟨F2,is2⟩:=z;simp only[h2,aa,ai]at e;obtain⟨rfl,rfl⟩:=e;have hi':∀ k,rest[k]? = ops[i+1+k]?:=fun k=>by have:=hi (k+1);rw[show i+(k+1)=i+1+k by omega]at this;simpa using this
    obtain⟨r1,r2⟩:=qfV (all:=all) hi' h2 (fun k x hx=>by rw[show i+1+k=i+(k+1)by omega];exact hinfo (k+1) x (by simpa using hx));refine⟨⟨o,F1,by have:=hi 0;simpa using this.symm,?_,r1⟩,by simp[r2]⟩;have:info i=I:=by have:=hinfo 0 I rfl;simpa using this
    rw[this];exact h1
end
def Down (ops:List Oper)(S:Nat->Prop):Prop:=∀ (j:Nat) o,ops[j]? = some o->S j->∀ e∈o.after,Region.binds .any e=true->S e.on
theorem Qh {acc i}:∀ {l:List Edge},(befE acc l).testBit i=true->∃ e∈l,Region.binds .any e=true/\(e.on=i\/((acc[e.on]?).getD 0).testBit i=true)
 |[],h=>by simp[befE]at h
 |e::l,h=>by
  simp only[befE]at h;split at h
  .
   rename_i hb;simp only[Nat.testBit_or,Bool.or_eq_true]at h;rcases h with h|h|h
   . refine⟨e,au,hb,.inl ?_⟩;rw[Nat.testBit_two_pow]at h;simpa using h
   . exact⟨e,au,hb,.inr h⟩
   . obtain⟨e',h1,h2⟩:=Qh h;exact⟨e',aB _ h1,h2⟩
  . obtain⟨e',h1,h2⟩:=Qh h;exact⟨e',aB _ h1,h2⟩
theorem YD {all}:∀ (rest:List Oper) (acc:List Nat),(∀ k,rest[k]? = all[acc.length+k]?)->(∀ (j:Nat) m,acc[j]? = some m->∀ i,m.testBit i=true->∀ S,Down all S->S j->S i) ->
  ∀ (j:Nat) m,(befL rest acc)[j]? = some m->∀ i,m.testBit i=true->∀ S,Down all S->S j->S i
 |[],acc,_,h,j,l,e=>h j l e
 |o::rest,acc,hr,h,j,m,e=>by
  refine YD rest _ (fun k=>?_) (fun j m e i hi S hS hj=>?_) j m e
  . have:=hr (k+1);simp only[List.length_append,List.length_singleton];rw[show acc.length+1+k=acc.length+(k+1)by omega];simpa using this
  .
   by_cases hlt:j<acc.length
   . rw[aZ hlt]at e;exact h j m e i hi S hS hj
   .
    rw[bg (by omega)]at e;have hj0:j=acc.length:=by have:=(az.1 e).1;simp at this;omega
    subst hj0;simp only[Nat.sub_self,aJ,aa]at e;subst e;obtain⟨ed,hm,hb,hi⟩:=Qh hi;have ho:all[acc.length]? = some o:=by have:=hr 0;simpa using this.symm
    have h1:=hS _ o ho hj ed (by simpa using hm) hb;rcases hi with rfl|hi
    . exact h1
    . cases ha:acc[ed.on]? with
      |none=>simp[ha]at hi
      |some m'=>simp only[ha,Option.getD_some]at hi;exact h ed.on m' ha i hi S hS h1
theorem YP {bj ij}:∀ {l:List Info} {i:Nat},qaB bj ij i l=true->∀ (k:Nat) x,l[k]? = some x->bj.testBit (i+k)=true\/vY x ij=true
 |[],i,_,k,x,e=>by simp at e
 |y::l,i,h,k,x,e=>by
  simp only[qaB,aD,Bool.or_eq_true]at h;cases k with
  |zero=>simp only[aJ,aa]at e;subst e;exact h.1
  |succ k=>rw[show i+(k+1)=i+1+k by omega];exact YP h.2 k x (by simpa using e)
theorem Yg {befs all}:∀ {l:List Info} {j:Nat},(∀ k,l[k]? = all[j+k]?)->vS befs all j l=true ->
  ∀ (a b:Nat) x y,a<b->j<=b->all[a]? = some x->all[b]? = some y->((befs[b]?).getD 0).testBit a=true\/vY x y=true
 |[],j,hl,_,a,b,x,y,hab,hjb,ha,hb=>by have:=hl (b-j);rw[show j+(b-j)=b by omega,hb]at this;simp at this
 |z::l,j,hl,h,a,b,x,y,hab,hjb,ha,hb=>by
  simp only[vS,aD]at h;by_cases hj:j=b
  . subst hj;have hz:z=y:=by have:=hl 0;rw[Nat.add_zero,hb]at this;simpa using this
    subst hz;have:=YP h.1 a x (by rw[List.getElem?_take];rw[aF hab];exact ha);simpa using this
  . exact Yg (fun k=>by have:=hl (k+1);rw[show j+(k+1)=j+1+k by omega]at this;simpa using this) h.2 a b x y hab (by omega) ha hb
theorem xn:∀ {l:List Oper} {j:Nat},vw j l=true->∀ (k:Nat) o,l[k]? = some o->∀ e∈o.after,Region.binds .any e=true->e.on<j+k
 |[],j,_,k,o,h=>by simp at h
 |x::l,j,h,k,o,ho=>by
  simp only[vw,aD,List.all_eq_true,Bool.or_eq_true,Bool.not_eq_true',aY]at h;intro e he hb;cases k with
  |zero=>
   simp only[aJ,aa]at ho;subst ho;rcases h.1 e (by simpa using he)with h'|h'
   . rw[h']at hb;cases hb
   . exact h'
  |succ k=>have:=xn h.2 k o (by simpa using ho) e he hb;omega
theorem Yy (W)(c):cutC W c=c\/cutC W c=.dead:=by unfold cutC;split<;>simp
theorem qha (F W)(ts):Weak F (F.part W ts):=by
 have len:∀ (l:List AV) k,(lslots W ts k l).length=l.length:=by
  intro l
  induction l with
  |nil=>intro k;rfl
  |cons v l ih=>intro k;simp[lslots,ih]
 refine⟨len _ _,fun k v' e=>?_,fun r l' e=>?_⟩
 .
  have e':(lslots W ts 0 F.slots)[k]? = some v':=e;rw[vO]at e';simp only[aH,Nat.zero_add]at e';obtain⟨v,e1,e2⟩:=e';split at e2
  . subst e2;exact .inr ⟨v,e1,rfl,zy.map (Yy W) _⟩
  .
   split at e2
   . subst e2;exact .inr ⟨v,e1,rfl,zy.map (fun c=>by
      by_cases h:qy c=true
      . right;rw[aF h]
      . rw[aG h];exact Yy W c) _⟩
   . exact .inl e2.symm
 .
  have e':(lboxes F W W).lookup r=some l':=e;rw[zT]at e';split at e'
  . simp only[aH]at e';obtain⟨l,e1,rfl⟩:=e';exact⟨l,e1,by have:=zy.map (Yy W) [l];exact this⟩
  . cases e'
theorem qaI {F:Fr}{W ts x c}(hx:x.key.path=[])(e:(F.part W ts).get x=some c):(∀ r∈qJ c,r∈W)/\(qy c=true->x.key.root∈W):=by
 have cut:∀ c0,cutC W c0=c->∀ r∈qJ c,r∈W:=by
  intro c0 h r hr;subst h;unfold cutC at hr;split at hr
  . rename_i h;simp only[List.all_eq_true,List.contains_eq_mem,aY]at h;exact h r hr
  . simp[qJ]at hr
 obtain⟨⟨r,π⟩,a,b⟩:=x;simp only at hx;subst hx;by_cases hs:∃ k,r=.slot k
 .
  obtain⟨k,rfl⟩:=hs;simp only[Fr.get,Fr.rowsAt,Fr.rows,Fr.part,vO,Nat.zero_add,Option.map_map]at e;cases hk:F.slots[k]? with
  |none=>simp[hk]at e
  |some v=>
   simp only[hk,av,ae,getR,Function.comp_def]at e;split at e
   . rename_i hW;obtain⟨c0,_,e2⟩:=zH (f:=cutC W) e;exact⟨cut c0 e2.symm,fun _=>by simpa using hW⟩
   .
    split at e
    .
     obtain⟨c0,_,e2⟩:=zH (f:=fun c=>if qy c then .dead else cutC W c) e;by_cases h:qy c0=true
     . rw[aF h]at e2;subst e2;exact⟨by simp[qJ],by simp[qy]⟩
     . rw[aG h]at e2;refine⟨cut c0 e2.symm,fun ho=>?_⟩;exfalso;rcases Yy W c0 with h'|h'
       . rw[h']at e2;subst e2;exact h ho
       . rw[h']at e2;subst e2;simp[qy]at ho
    . obtain⟨_,_,rfl⟩:=one_cell e;exact⟨by simp[qJ],by simp[qy]⟩
 .
  have hns:∀ k,r≠.slot k:=fun k e=>hs ⟨k,e⟩;simp only[Fr.get,Fr.rowsAt,Fr.rows_ns _ hns,Fr.part,zT]at e;split at e
  . rename_i hW;cases hk:F.boxes.lookup r with
    |none=>simp[hk]at e
    |some l=>simp only[hk,av,ae,getR]at e;obtain⟨c0,_,e2⟩:=zH (f:=cutC W) (rows:=[l]) e;exact⟨cut c0 e2.symm,fun _=>hW.1⟩
  . simp at e
theorem Zg {F:Fr}{k rows}(e:F.rowsAt k=some rows)(hk:k.path≠[]):∃ r o zz rs,F.get ⟨⟨k.root,[]⟩,r,o⟩=some (.own zz rs):=by
 obtain⟨root,path⟩:=k;cases path with
 |nil=>exact absurd rfl hk
 |cons y π=>
  obtain⟨r,o⟩:=y;unfold Fr.rowsAt at e;simp only at e;cases hr:F.rows root with
  |none=>simp[hr]at e
  |some rows0=>
   simp only[hr,ae,getR]at e;cases hc:cellAt rows0 r o with
   |none=>simp[hc]at e
   |some c=>
    rw[hc]at e;cases c with
    |own zz rs=>exact⟨r,o,zz,rs,by simp[Fr.get,Fr.rowsAt,hr,getR,hc]⟩
    |_=>simp at e
theorem qfo {G w F ts0}(h:RelF G w F ts0)(W)(ts):
  RelF { γ:=fun k=>if k.root∈W then G.γ k else none,im:=G.im,lv:=fun d=>((F.part W ts).boxes.lookup (.loc d)).isSome=true } w (F.part W ts) ts0:=by
 have lk:∀ r,((F.part W ts).boxes.lookup r).isSome=true↔(r∈W/\r.boxed=true)/\(F.boxes.lookup r).isSome=true:=by intro r;show((lboxes F W W).lookup r).isSome=true↔_;rw[zT];split<;>simp_all
 have hw:=qha F W ts;have get0:∀ x c,(F.part W ts).get x=some c->c=.dead\/(F.get x=some c/\∀ r∈qJ c,r∈W):=by
  intro x c e;rcases hw.get e with h'|h'
  . exact .inl h'
  . by_cases hp:x.key.path=[]
    . exact .inr ⟨h',(qaI hp e).1⟩
    . have:=h.pure h' hp;right;refine⟨h',fun r hr=>?_⟩;cases c<;>simp[qw,qJ]at *
 have r1:=h.weak hw (fun d=>((F.part W ts).boxes.lookup (.loc d)).isSome=true) (fun d hd=>⟨?_,hd⟩) (fun d hd=>hd) (fun x c e=>?_)
 .
  refine r1.ghost ⟨fun k k' x x' e e' hb=>?_,fun k x e=>?_,h.inv.imlt,h.inv.glob⟩ rfl rfl (fun k hu=>?_)
  .
   simp only at e e';split at e
   . split at e'
     . exact h.inv.inj _ _ _ _ e e' hb
     . cases e'
   . cases e
  . simp only at e;split at e
    . exact h.inv.lt _ _ e
    . cases e
  .
   show(if k.root∈W then G.γ k else none)=G.γ k;rw[aF];rcases hu with⟨hr,hi⟩|⟨x,c,hg,hk⟩
   .
    obtain⟨rows,hrows⟩:=Option.isSome_iff_exists.1 hr;by_cases hp:k.path=[]
    .
     rcases hi with hi|hi
     . exact absurd hp hi
     . obtain⟨root,path⟩:=k;simp only at hp hi;subst hp;have hns:∀ k,root≠.slot k:=fun k e=>by rw[e]at hi;simp[Root.boxed]at hi
       simp only[Fr.rowsAt,Fr.rows_ns _ hns]at hrows;have:((F.part W ts).boxes.lookup root).isSome=true:=by
        cases hx:(F.part W ts).boxes.lookup root with
        |none=>simp[hx]at hrows
        |some l=>rfl
       exact((lk root).1 this).1.1
    . obtain⟨r,o,zz,rs,hg⟩:=Zg hrows hp;exact(qaI (x:=⟨⟨k.root,[]⟩,r,o⟩) rfl hg).2 rfl
   .
    by_cases hp:x.key.path=[]
    .
     obtain⟨g1,g2⟩:=qaI hp hg;cases c with
     |own zz rows=>simp only[deps,aW]at hk;subst hk;exact g2 rfl
     |mp es=>simp only[deps,aW]at hk;subst hk;exact g2 rfl
     |ref q=>simp only[deps,aW]at hk;subst hk;exact g1 _ (by simp[qJ,Pl.toKey])
     |ptr q=>simp only[deps,aW]at hk;subst hk;exact g1 _ (by simp[qJ])
     |clo f fs cs=>
      simp only[deps,List.mem_filterMap]at hk;obtain⟨y,hy,hk⟩:=hk;cases y with
      |ptr q=>simp only[aa]at hk;subst hk;refine g1 _ ?_;simp only[qJ,List.mem_filterMap];exact⟨.ptr q,hy,rfl⟩
      |_=>simp at hk
     |_=>simp[deps]at hk
    .
     have hpure:=r1.pure hg hp;cases c with
     |own zz rows=>
      simp only[deps,aW]at hk;subst hk;have:∃ rows,(F.part W ts).rowsAt x.key=some rows:=by
       unfold Fr.get at hg;cases hx:(F.part W ts).rowsAt x.key with
       |none=>simp[hx]at hg
       |some rows=>exact⟨rows,rfl⟩
      obtain⟨rows',hrows⟩:=this;obtain⟨r,o,zz',rs,hg'⟩:=Zg hrows hp;exact(qaI (x:=⟨⟨x.key.root,[]⟩,r,o⟩) rfl hg').2 rfl
     |_=>simp[qw,deps]at hpure hk
 . obtain⟨l,hl⟩:=Option.isSome_iff_exists.1 ((lk (.loc d)).1 hd).2;exact(h.boxes (.loc d) l hl).2
 .
  rcases get0 x c e with rfl|⟨e',hr⟩
  . exact⟨by simp,by simp⟩
  .
   have hok:=h.okPtr e';have fin:∀ r,G.ok r->r∈W->Gh.ok { G with lv:=fun d=>((F.part W ts).boxes.lookup (.loc d)).isSome=true } r:=by
    intro r h1 h2;cases r with
    |loc d=>exact(lk (.loc d)).2 ⟨⟨h2,rfl⟩,h.live d h1⟩
    |_=>trivial
   refine⟨fun q hq=>fin _ (hok.1 q hq) (hr _ ?_),fun f fs cs q hq hm=>fin _ (hok.2 f fs cs q hq hm) (hr _ ?_)⟩
   . rcases hq with rfl|rfl<;>simp[qJ]
   . subst hq;simp only[qJ,List.mem_filterMap];exact⟨.ptr q,hm,rfl⟩
def inW (W:List Root)(r:Root):Option Root:=if r∈W then some r else none
theorem qkT (W)(c0):cutC W c0=.dead\/RenC (inW W) c0 (cutC W c0):=by
 by_cases hc:(qJ c0).all W.contains=true
 .
  have e:cutC W c0=c0:=by unfold cutC;rw[aF hc]
  rw[e];simp only[List.all_eq_true,List.contains_eq_mem,aY]at hc;cases c0 with
  |ptr q=>exact .inr ⟨by unfold inW;rw[aF (hc _ (by simp[qJ]))],rfl,rfl,rfl⟩
  |ref q=>exact .inr ⟨by unfold inW;rw[aF (hc _ (by simp[qJ]))],rfl,rfl,rfl⟩
  |clo f fs cs=>
   right;have go:∀ l:List Cell,(∀ c∈l,c∈fs++cs)->qev (inW W) l l:=by
    intro l
    induction l with
    |nil=>intro _;trivial
    |cons x l ih=>
     intro hm;refine⟨?_,ih fun c hc=>hm c (aB _ hc)⟩;have hx:=hm x au;cases x with
     |ptr q=>refine⟨?_,rfl,rfl,rfl⟩;unfold inW;rw[aF (hc _ _)];simp only[qJ,List.mem_filterMap];exact⟨.ptr q,hx,rfl⟩
     |_=>exact rfl
   exact⟨rfl,go fs (fun c hc=>aM _ hc),go cs (fun c hc=>aT _ hc)⟩
  |dead=>exact .inl rfl
  |own z rows=>exact .inr ⟨rfl,rfl⟩
  |cptr z rows=>exact .inr ⟨rfl,rfl⟩
  |nil=>exact .inr trivial
  |val u=>exact .inr rfl
  |imm u=>exact .inr rfl
  |mp u=>exact .inr rfl
  |mpb u=>exact .inr rfl
 . left;unfold cutC;rw[aG hc]
end
end Ab
end Go.Proofs.YtjnefcbeemkkeaaGreat

/-
  What code tells: the document's answer. No claim stands here.
-/
import Derived.Test.YtjnefcbeemkkeaaGreatW3q
import Derived.Test.YtjnefcbeemkkeaaGreatW5q
set_option linter.all false
namespace Go.Proofs.YtjnefcbeemkkeaaGreat
namespace Ab
variable [Glob]
def qyn (L:List Ins4)(slot:Bool)(r:Int)(i:Nat):Int:=match qwa L slot r i with
 |none=>-1
 |some j=>(j:Int)
theorem qDa {c:quY}{slot:Bool}{r:Int}{es:Es}(hL:c.L.length<1073741824):∀ i:Nat,i<=c.L.length->Goes qkj (.h0 slot r ((i:Int)-1) c.regs c.slots c.Ir c.Cr c.Lr es) (qyn c.L slot r i,c.Ir,c.Cr,c.Lr,es)
 |0,_=>Goes.fin fun k=>rfl
 |i+1,hi=>by
  obtain⟨x,hx⟩:∃ x,c.L[i]? = some x:=⟨_,ax (by omega)⟩
  have h1:Goes qkj (.h1 slot r (i:Int) (wrote slot r x) c.regs c.slots c.Ir c.Cr c.Lr es) (qyn c.L slot r (i+1),c.Ir,c.Cr,c.Lr,es):=by
   simp only[qyn,qwa,hx];cases hw:wrote slot r x with
   |true=>exact Goes.fin fun k=>by simp[qkj]
   |false=>refine(qDa hL i (by omega)).go fun k=>?_;simp only[qkj,nt,af];rw[wrapN (by omega) (by omega)]
  refine h1.go fun k=>?_;simp only[qkj,nt,xe,show(((i+1:Nat):Int)-1)=(i:Int)by omega];rw[aF (by omega),Yi (qwc hx),qvs];cases slot
  .
   simp only[af,qvM,wrote];by_cases h53:x.op=53
   . rw[aF h53];simp[h53]
   . rw[aG h53];by_cases h52:x.op=52
     . rw[aF h52];simp[h52]
     . rw[aG h52,qxO];simp[h53,h52]
  . simp only[ah,zt,wrote,if_true];by_cases h53:x.op=53
    . rw[aF h53];by_cases ha:x.a=r<;>simp[h53,ha]
    . rw[aG h53];simp[h53]
theorem qxa {c:quY}{slot:Bool}{r:Int}{es:Es}(hL:c.L.length<1073741824){i:Nat}(hi:i<=c.L.length):Tot (fun k=>g23 k slot r (i:Int) c.regs c.slots c.Ir c.Cr c.Lr es) (qyn c.L slot r i,c.Ir,c.Cr,c.Lr,es):=by refine(qDa hL i hi).go (s:=S23.e ..) fun k=>?_;simp only[qkj,nt];rw[wrapN (by omega) (by omega)]
def qwT (c:quY)(es:Es):Prop:=OkE es/\∀ k row,lk es k=some row->∃ i:Nat,k=i/\row=[ic (xw c i).size]
theorem qwT.put {c:quY}{es:Es}(h:qwT c es)(i:Nat):∃ es',xL Tryz.prog 3 (.int .i64 (i:Int)) [ic (xw c i).size] es=some es'/\qwT c es':=by
 obtain⟨es',h1,h2,h3⟩:=qzD (k:=(i:Int)) (l:=[ic (xw c i).size]) h.1;refine⟨es',h1,h2,fun k row hk=>?_⟩;rw[h3]at hk;split at hk
 . rename_i e;cases hk;exact⟨i,e,rfl⟩
 . exact h.2 k row hk
theorem qzA (op:Int)(l:List Sn):(opr op l).size=sumF l 1:=by
 unfold opr;split
 . rename_i h;exact h.symm
 . rfl
theorem qvP {c:quY}{slot:Bool}{r:Int}{i:Nat}(h:isW c.L slot i r=true):∃ j,qwa c.L slot r i=some j/\j<i/\qyn c.L slot r i=(j:Int):=by obtain⟨j,hj⟩:=Option.isSome_iff_exists.1 h;exact⟨j,hj,(qv6 hj).1,by simp[qyn,hj]⟩
section
variable {c:quY} (hL:c.L.length<1073741824) (hg:Gd c)
include hL hg
theorem qBR {i:Nat}(hi:i+1<c.L.length)(ih:∀ j,j<i->∀ es,qwT c es->∃ es',qwT c es'/\Goes qj6 (.e (j:Int) c.regs c.slots c.Ir c.Cr c.Lr es) ((xw c j).size,c.Ir,c.Cr,c.Lr,es'))(R:List Int)(hR:R.length<100)(hW:∀ r∈R,isW c.L false i r=true):
  ∀ (m j:Nat) (n:Int) (es:Es),j+m=R.length->0<=n->n<=1025->qwT c es->sumF ((R.drop j).map fun r=>((stAt c i).r r).getD zSn) n=(xw c i).size ->
  ∃ es',qwT c es'/\Goes qj6 (.h3 (i:Int) n (R.map oneR) (R.length:Int) (j:Int) c.regs c.slots c.Ir c.Cr c.Lr es) ((xw c i).size,c.Ir,c.Cr,c.Lr,es')
 |0,j,n,es,hj,h0,h1,hs,hn=>by
  rw[List.drop_eq_nil_of_le (by omega)]at hn;have hn:n=(xw c i).size:=hn;subst hn;obtain⟨es',p1,p2⟩:=hs.put i;have h1':Goes qj6 (.h1 (i:Int) (xw c i).size c.regs c.slots c.Ir c.Cr c.Lr es) ((xw c i).size,c.Ir,c.Cr,c.Lr,es'):=Goes.fin fun k=>by simp only[qj6,p1,ae]
  refine⟨es',p2,h1'.go fun k=>?_⟩;simp only[qj6,xe];rw[aG (by omega)]
 |m+1,j,n,es,hj,h0,h1,hs,hn=>by
  have hlt:j<R.length:=by omega
  have hx:R[j]? = some R[j]:=ax hlt;rw[List.drop_eq_getElem_cons hlt,List.map_cons]at hn;obtain⟨q,q1,q2,q3⟩:=qvP (hW R[j] (List.getElem_mem hlt));have hv:(stAt c i).r R[j]=some (xw c q):=by rw[qvJ,q1];rfl
  rw[hv,Option.getD_some]at hn;have hn:sumF ((R.drop (j+1)).map fun r=>((stAt c i).r r).getD zSn) (min 1025 (n+(xw c q).size))=(xw c i).size:=hn;obtain⟨w1,w2,w3⟩:=qxM hg q (by omega);obtain⟨es1,t1,t2⟩:=ih q q2 es hs;obtain⟨es2,u1,u2⟩:=qBR hi ih R hR hW m (j+1) (min 1025 (n+(xw c q).size)) es1 (by omega) (by omega) (by omega) t1 hn;refine⟨es2,u1,Goes.of3 (qxa hL (slot:=false) (r:=R[j]) (es:=es) (i:=i) (by omega)) t2 u2 fun k e1 e2 e3=>?_⟩;simp only[qj6,xe];rw[aF (by omega),Yi (rwAt hx),qyC,e1];simp only[ae,tup5,q3,e2];rw[zq (by omega),wrapN (by omega) (by omega),<- e3];congr 2;split<;>omega
theorem qDb:∀ (i:Nat),i+1<c.L.length->∀ es,qwT c es->∃ es',qwT c es'/\Goes qj6 (.e (i:Int) c.regs c.slots c.Ir c.Cr c.Lr es) ((xw c i).size,c.Ir,c.Cr,c.Lr,es'):=by
 intro i
 induction i using Nat.strongRecOn with
 |ind i ih=>
  intro hi es hs;have ih:=fun j (hj:j<i)=>ih j hj (by omega);obtain⟨x,hx⟩:∃ x,c.L[i]? = some x:=⟨_,ax (by omega)⟩
  have h52:=hg.no52 hx hi;cases hf:lk es (i:Int)with
  |some row=>
   obtain⟨j,e1,e2⟩:=hs.2 _ _ hf;obtain rfl:i=j:=by omega
   subst e2;have h0:Goes qj6 (.h0 (i:Int) (xw c i).size true c.regs c.slots c.Ir c.Cr c.Lr es) ((xw c i).size,c.Ir,c.Cr,c.Lr,es):=Goes.fin fun k=>rfl;refine⟨es,hs,h0.go fun k=>?_⟩;simp only[qj6,find_ok hs.1,hf,ae,optC,un_i]
  |none=>
   have ev:xw c i=valOf c (stAt c i) x:=by simp only[xw,hx]
   have one:∀ (j:Nat) (es1:Es),qwT c es1->(xw c j).size=(xw c i).size->∃ es',qwT c es'/\Goes qj6 (.h1 (i:Int) (xw c j).size c.regs c.slots c.Ir c.Cr c.Lr es1) ((xw c i).size,c.Ir,c.Cr,c.Lr,es'):=by intro j es1 hs1 e;obtain⟨es',p1,p2⟩:=hs1.put i;rw[e];exact⟨es',p2,Goes.fin fun k=>by simp only[qj6,p1,ae]⟩
   have main:∃ es',qwT c es'/\Goes qj6 (.h0 (i:Int) 0 false c.regs c.slots c.Ir c.Cr c.Lr es) ((xw c i).size,c.Ir,c.Cr,c.Lr,es'):=by
    by_cases h53:x.op=53
    .
     have hq:isW c.L false i x.b=true:=by
      rcases qvQ (hg.ok i x hx) h52 with⟨q,_⟩|⟨q,_⟩|⟨q,hq⟩|⟨q,_⟩|⟨_,_,q,_⟩
      . omega
      . omega
      . exact hq
      . omega
      . omega
     obtain⟨j,q1,q2,q3⟩:=qvP hq;have e:xw c i=xw c j:=by rw[ev];simp[valOf,h53,qvJ,q1]
     obtain⟨es1,t1,t2⟩:=ih j q2 es hs;obtain⟨es2,u1,u2⟩:=one j es1 t1 (by rw[e]);refine⟨es2,u1,Goes.of3 (qxa hL (slot:=false) (r:=x.b) (es:=es) (i:=i) (by omega)) t2 u2 fun k e1 e2 e3=>?_⟩;simp only[qj6,af];rw[Yi (qwc hx),qvs];simp only[zt,aF h53,e1,ae,tup5,q3,e2,e3]
    by_cases h54:x.op=54
    .
     have hq:isW c.L true i x.a=true:=by
      rcases qvQ (hg.ok i x hx) h52 with⟨q,_⟩|⟨q,_⟩|⟨q,_⟩|⟨q,hq⟩|⟨_,_,_,q,_⟩
      . omega
      . omega
      . omega
      . exact hq
      . omega
     obtain⟨j,q1,q2,q3⟩:=qvP hq;have e:xw c i=xw c j:=by rw[ev];simp[valOf,h54,qxK,q1]
     obtain⟨es1,t1,t2⟩:=ih j q2 es hs;obtain⟨es2,u1,u2⟩:=one j es1 t1 (by rw[e]);refine⟨es2,u1,Goes.of3 (qxa hL (slot:=true) (r:=x.a) (es:=es) (i:=i) (by omega)) t2 u2 fun k e1 e2 e3=>?_⟩;simp only[qj6,af];rw[Yi (qwc hx),qvs];simp only[zt,aG h53,aF h54,e1,ae,tup5,q3,e2,e3]
    have hW:∀ r∈reads x,isW c.L false i r=true:=by
     rcases qvQ (hg.ok i x hx) h52 with⟨q,_⟩|⟨q,_⟩|⟨q,_⟩|⟨q,_⟩|⟨_,_,_,_,_,q⟩
     . intro r hr;simp[reads,q,nOps]at hr
     . intro r hr;simp[reads,q,nOps]at hr
     . omega
     . omega
     . exact q
    have hsz:sumF (((reads x).drop 0).map fun r=>((stAt c i).r r).getD zSn) 1=(xw c i).size:=by
     rw[List.drop_zero,ev];rcases qvQ (hg.ok i x hx) h52 with⟨q,_⟩|⟨q,_⟩|⟨q,_⟩|⟨q,_⟩|⟨q1,q2,q3,q4,_⟩
     . simp[reads,valOf,q,nOps,sumF]
     . simp[reads,valOf,q,nOps,sumF]
     . omega
     . omega
     . simp only[valOf,aG q1,aG q2,aG q3,aG q4];rw[qzA]
    obtain⟨es2,u1,u2⟩:=qBR hL hg hi ih (reads x) (qxo hL x) hW (reads x).length 0 1 es (by omega) (by omega) (by omega) hs hsz;refine⟨es2,u1,Goes.of2 (qiE x) u2 fun k e1 e2=>?_⟩;simp only[qj6,af];rw[Yi (qwc hx),qvs];simp only[zt,aG h53,aG h54,e1,ae,qxH,aG h52,altC,List.length_map];exact e2
   obtain⟨es2,u1,u2⟩:=main;refine⟨es2,u1,u2.go fun k=>?_⟩;simp only[qj6,find_ok hs.1,hf,ae,optC]
def ndS (n:Nd)(c:quY)(es:Es):R25:=(n.op,n.kind,xk n.args,n.vk,n.vb,n.pos,n.attr,c.Ir,c.Cr,c.Lr,es)
omit hL hg in
theorem qzJ:∀ (l:List Sn),(∀ s∈l,s.wf)->sumF l 1025=1025
 |[],_=>rfl
 |t::l,h=>by have:=(h t au).1;show sumF l (min 1025 (1025+t.size))=1025;rw[show min 1025 (1025+t.size)=1025 by omega];exact qzJ l fun u hu=>h u (aB _ hu)
omit hL hg in
theorem qA5:∀ (l:List Sn) (n:Int),0<=n->n<=1025->(∀ s∈l,s.wf)->sumF l n≠1025->∀ s∈l,s.size<1025
 |[],_,_,_,_,_,s,hs=>by cases hs
 |t::l,n,h0,h1,hw,hn,s,hs=>by
  have ht:=hw t au;have hw':∀ s∈l,s.wf:=fun u hu=>hw u (aB _ hu);have hn:sumF l (min 1025 (n+t.size))≠1025:=hn;have h2:min 1025 (n+t.size)≠1025:=fun e=>hn (by rw[e];exact qzJ l hw');obtain⟨a1,a2,a3⟩:=ht;rcases List.mem_cons.1 hs with rfl|hs
  . omega
  . exact qA5 l _ (by omega) (by omega) hw' hn s hs
theorem qBS {i:Nat}{x:Ins4}(hi:i+1<c.L.length){es:Es}(R:List Int)(hR:R.length=1\/R.length=2)(hW:∀ r∈R,isW c.L false i r=true)(ih:∀ r∈R,∀ j,qwa c.L false r i=some j->Goes qjZ (.e (j:Int) c.regs c.slots c.Ir c.Cr c.Lr es) (ndS (xw c j).n c es)):
  ∀ (m j:Nat),j+m=R.length ->
  Goes qjZ (.h5 (i:Int) ((R.take j).map fun r=>oneR (((stAt c i).r r).getD zSn).n.kind) (R.map oneR) (R.length:Int) (j:Int) x.op 0 ((R.take j).map fun r=>qvo (((stAt c i).r r).getD zSn).n) 0 0 0 0 x.op x.dst x.a x.b 0 0 0 0 0 0 c.regs c.slots c.Ir c.Cr c.Lr es)
   (x.op,resF x.op (R.map fun r=>(((stAt c i).r r).getD zSn).n.kind),xk (R.map fun r=>(((stAt c i).r r).getD zSn).n),0,0,0,0,c.Ir,c.Cr,c.Lr,es)
 |0,j,hj=>by
  have h7:Goes qjZ (.h7 x.op (resF x.op (R.map fun r=>(((stAt c i).r r).getD zSn).n.kind)) (xk (R.map fun r=>(((stAt c i).r r).getD zSn).n)) 0 0 0 0 c.regs c.slots c.Ir c.Cr c.Lr es) (x.op,resF x.op (R.map fun r=>(((stAt c i).r r).getD zSn).n.kind),xk (R.map fun r=>(((stAt c i).r r).getD zSn).n),0,0,0,0,c.Ir,c.Cr,c.Lr,es):=Goes.fin fun k=>rfl;have h6:Goes qjZ (.h6 ((R.take j).map fun r=>oneR (((stAt c i).r r).getD zSn).n.kind) x.op 0 ((R.take j).map fun r=>qvo (((stAt c i).r r).getD zSn).n) 0 0 0 0 x.op x.dst x.a x.b 0 0 0 0 0 0 c.regs c.slots c.Ir c.Cr c.Lr es) (x.op,resF x.op (R.map fun r=>(((stAt c i).r r).getD zSn).n.kind),xk (R.map fun r=>(((stAt c i).r r).getD zSn).n),0,0,0,0,c.Ir,c.Cr,c.Lr,es):=by
   refine Goes.of2 (qtx x.op (R.map fun r=>(((stAt c i).r r).getD zSn).n.kind) (by simpa using hR)) h7 fun k q1 q2=>?_;simp only[qjZ,nt];rw[List.take_of_length_le (by omega)];have e1:qG (R.map fun r=>oneR (((stAt c i).r r).getD zSn).n.kind)=(R.map fun r=>(((stAt c i).r r).getD zSn).n.kind).map oneR:=by rw[<- qxS,List.map_map];rfl
   have e2:qG (R.map fun r=>qvo (((stAt c i).r r).getD zSn).n)=xk (R.map fun r=>(((stAt c i).r r).getD zSn).n):=by rw[qvk,<- qv5,List.map_map];rfl
   rw[e1,q1,ae,e2];exact q2
  refine h6.go fun k=>?_;simp only[qjZ,nt,xe];rw[aG (by omega)]
 |m+1,j,hj=>by
  have hlt:j<R.length:=by omega
  have hx:R[j]? = some R[j]:=ax hlt;have hmem:=List.getElem_mem hlt;have ihm:=qBS (x:=x) hi R hR hW ih m (j+1) (by omega);rw[List.take_succ_eq_append_getElem hlt,List.map_append,List.map_append]at ihm;obtain⟨q,q1,q2,q3⟩:=qvP (hW R[j] hmem);have hv:((stAt c i).r R[j]).getD zSn=xw c q:=by rw[qvJ,q1];rfl
  simp only[List.map_cons,List.map_nil,hv]at ihm;refine Goes.of3 (qxa hL (slot:=false) (r:=R[j]) (es:=es) (i:=i) (by omega)) (ih R[j] hmem q q1) ihm fun k e1 e2 e3=>?_;simp only[qjZ,nt,xe];rw[aF (by omega),Yi (rwAt hx),qyC,e1];simp only[ae,tup5,q3,e2,qoG,ndS,qzv];have o1:apOk 72 7 ((R.take j).map fun r=>qvo (((stAt c i).r r).getD zSn).n) [qvo (xw c q).n]=true:=by simp[apOk,lim,qxg];omega
  have o2:apOk 8 1 ((R.take j).map fun r=>oneR (((stAt c i).r r).getD zSn).n.kind) [[ic (xw c q).n.kind]]=true:=by simp[apOk,lim];omega
  rw[o1,o2,zq (by omega)];exact e3
theorem qDc:∀ (i:Nat),i+1<c.L.length->(xw c i).size<1025->∀ es,Goes qjZ (.e (i:Int) c.regs c.slots c.Ir c.Cr c.Lr es) (ndS (xw c i).n c es):=by
 intro i
 induction i using Nat.strongRecOn with
 |ind i ih=>
  intro hi hsz es;obtain⟨x,hx⟩:∃ x,c.L[i]? = some x:=⟨_,ax (by omega)⟩
  have h52:=hg.no52 hx hi;have ev:xw c i=valOf c (stAt c i) x:=by simp only[xw,hx]
  rcases qvQ (hg.ok i x hx) h52 with⟨q,y,h0,hy⟩|⟨q,y,h0,hy⟩|⟨q,hq⟩|⟨q,hq⟩|⟨p1,p2,p3,p4,p5,p6⟩
  .
   have e:xw c i=⟨inN y,1⟩:=by rw[ev];simp[valOf,q,hy]
   obtain⟨a,ha⟩:∃ a:Nat,x.a=a:=⟨x.a.toNat,by omega⟩
   replace hy:c.I[a]? = some y:=by rw[ha,Int.toNat_natCast]at hy;exact hy
   have h0:Goes qjZ (.h0 y.op y.kind [] 0 0 y.pos y.attr c.regs c.slots c.Ir c.Cr c.Lr es) (ndS (xw c i).n c es):=by rw[e];exact Goes.fin fun k=>rfl
   refine h0.go fun k=>?_;simp only[qjZ,nt];rw[Yi (qwc hx),qvs,zt,aF q,ha,Yi (qBe hy),qBE]
  .
   have e:xw c i=⟨vlN y,1⟩:=by rw[ev];simp[valOf,q,hy]
   obtain⟨a,ha⟩:∃ a:Nat,x.a=a:=⟨x.a.toNat,by omega⟩
   replace hy:c.C[a]? = some y:=by rw[ha,Int.toNat_natCast]at hy;exact hy
   have h0:Goes qjZ (.h1 40 y.kind [] y.kind y.bits 0 0 c.regs c.slots c.Ir c.Cr c.Lr es) (ndS (xw c i).n c es):=by rw[e];exact Goes.fin fun k=>rfl
   refine h0.go fun k=>?_;simp only[qjZ,nt];rw[Yi (qwc hx),qvs,zt,aG (by omega),zt,aF q,ha,Yi (qBd hy),qBG]
  . obtain⟨j,q1,q2,q3⟩:=qvP hq;have e:xw c i=xw c j:=by rw[ev];simp[valOf,q,qvJ,q1]
    have hj:=ih j q2 (by omega) (by rw[<- e];exact hsz) es;rw[<- e]at hj;have h2:Goes qjZ (.h2 (xw c i).n.op (xw c i).n.kind (xk (xw c i).n.args) (xw c i).n.vk (xw c i).n.vb (xw c i).n.pos (xw c i).n.attr c.regs c.slots c.Ir c.Cr c.Lr es) (ndS (xw c i).n c es):=Goes.fin fun k=>rfl;refine Goes.of3 (qxa hL (slot:=false) (r:=x.b) (es:=es) (i:=i) (by omega)) hj h2 fun k e1 e2 e3=>?_;simp only[qjZ,nt];rw[Yi (qwc hx),qvs];simp only[zt,aG (show x.op≠50 by omega),aG (show x.op≠51 by omega),aF q,e1,ae,tup5,q3,e2,qoG,ndS];exact e3
  . obtain⟨j,q1,q2,q3⟩:=qvP hq;have e:xw c i=xw c j:=by rw[ev];simp[valOf,q,qxK,q1]
    have hj:=ih j q2 (by omega) (by rw[<- e];exact hsz) es;rw[<- e]at hj;have h2:Goes qjZ (.h3 (xw c i).n.op (xw c i).n.kind (xk (xw c i).n.args) (xw c i).n.vk (xw c i).n.vb (xw c i).n.pos (xw c i).n.attr c.regs c.slots c.Ir c.Cr c.Lr es) (ndS (xw c i).n c es):=Goes.fin fun k=>rfl;refine Goes.of3 (qxa hL (slot:=true) (r:=x.a) (es:=es) (i:=i) (by omega)) hj h2 fun k e1 e2 e3=>?_;simp only[qjZ,nt];rw[Yi (qwc hx),qvs];simp only[zt,aG (show x.op≠50 by omega),aG (show x.op≠51 by omega),aG (show x.op≠53 by omega),aF q,e1,ae,tup5,q3,e2,qoG,ndS];exact e3
  .
   have e:xw c i=opr x.op ((reads x).map fun r=>((stAt c i).r r).getD zSn):=by rw[ev];simp[valOf,p1,p2,p3,p4]
   have hs:sumF ((reads x).map fun r=>((stAt c i).r r).getD zSn) 1≠1025:=by rw[e,qzA]at hsz;omega
   have hrl:(reads x).length=1\/(reads x).length=2:=by
    rcases p5 with p5|p5
    . exact .inl (by simp[reads,p5])
    . exact .inr (by simp[reads,p5,h52])
   have hwf:∀ s∈(reads x).map fun r=>((stAt c i).r r).getD zSn,s.wf:=by intro s hs;rw[List.mem_map]at hs;obtain⟨r,hr,rfl⟩:=hs;obtain⟨j,q1,q2,q3⟩:=qvP (p6 r hr);rw[qvJ,q1];exact qxM hg j (by omega)
   have hlt:=qA5 _ 1 (by omega) (by omega) hwf hs;have loop:=qBS hL hg (x:=x) hi (es:=es) (reads x) hrl p6 (fun r hr j hj=>by have hjl:=(qv6 hj).1;refine ih j hjl (by omega) ?_ es;have:=hlt (((stAt c i).r r).getD zSn) (List.mem_map.2 ⟨r,hr,rfl⟩);rw[qvJ,hj]at this;exact this) (reads x).length 0 (by omega);have en:(xw c i).n=.mk x.op (resF x.op ((reads x).map fun r=>(((stAt c i).r r).getD zSn).n.kind)) ((reads x).map fun r=>(((stAt c i).r r).getD zSn).n) 0 0 0 0:=by rw[e];unfold opr;rw[aG hs,List.map_map,List.map_map];rfl
   rw[en];refine Goes.of2 (qiE x) loop fun k e1 e2=>?_;simp only[qjZ,nt];rw[Yi (qwc hx),qvs];simp only[zt,aG p1,aG p2,aG p3,aG p4,e1,ae,qxH,aG h52,altC,List.length_map];exact e2
end
theorem qEl {c:quY}(hL:c.L.length<1073741824)(hC:∀ v∈c.C,0<=v.bits/\v.bits<18446744073709551616)(hc:c.C.length<1073741824)(hI:c.I.length<1073741824):Tot (fun k=>g8 k c.regs c.slots c.Ir c.Cr c.Lr) (qvr c):=by
 by_cases hgood:qwV c=true
 .
  have hg:=Gd.of hgood;have hl:=hg.len;obtain⟨x,j,hx,h52,hj,ht,hjl⟩:=qxs hg;have hli:qyn c.L false x.a (c.L.length-1)=(j:Int):=by simp[qyn,hj]
  have hwf:(told c).wf:=by rw[ht];exact qxM hg j hjl
  obtain⟨w1,w2,w3⟩:=hwf;obtain⟨es,s1,s2⟩:=qDb hL hg j hjl [] ⟨fun p hp=>(by cases hp),fun k row h=>(by cases h)⟩;rw[<- ht]at s2;have ll:(c.Lr.length:Int)=c.L.length:=by simp[quY.Lr]
  have hw:IntKind.i64.wrap ((c.Lr.length:Int)-1)=((c.L.length-1:Nat):Int):=by rw[ll,wrapN (by omega) (by omega)];omega
  have h23:=qxa hL (slot:=false) (r:=x.a) (es:=[]) (i:=c.L.length-1) (c:=c) (by omega);by_cases hs:(told c).size=1025
  . have h1:Goes qbD (.h1 false 0 0 [] 0 0 0 0) (qvr c):=by rw[show qvr c=(0,0,[],0,0,0,0,false)by simp[qvr,hs]];exact Goes.fin fun k=>rfl
    refine Goes.alw (s:=S8.e ..) ((qtv hL hC hc hI).and (h23.and (s2.and h1))) fun k q=>?_;obtain⟨q1,q2,q3,q4⟩:=q;replace q2:g23 k false x.a ((c.L.length-1:Nat):Int) c.regs c.slots c.Ir c.Cr c.Lr []=_:=q2;have q3:g24 k (j:Int) c.regs c.slots c.Ir c.Cr c.Lr []=_:=q3;simp only[qbD,nt,q1,ae,hgood,aj,af,hw];rw[Yi (qwc hx),qvs,q2];simp only[ae,tup5,hli,q3,xe];rw[aF (by omega)];exact q4
  . have h2:Goes qbD (.h2 true (told c).n.op (told c).n.kind (xk (told c).n.args) (told c).n.vk (told c).n.vb (told c).n.pos (told c).n.attr) (qvr c):=by rw[show qvr c=((told c).n.op,(told c).n.kind,xk (told c).n.args,(told c).n.vk,(told c).n.vb,(told c).n.pos,(told c).n.attr,true)by simp[qvr,hs,hgood]];exact Goes.fin fun k=>rfl
    have h25:=qDc hL hg j hjl (by rw[<- ht];omega) es;rw[<- ht]at h25;refine Goes.alw (s:=S8.e ..) ((qtv hL hC hc hI).and (h23.and (s2.and (h25.and h2)))) fun k q=>?_;obtain⟨q1,q2,q3,q4,q5⟩:=q;replace q2:g23 k false x.a ((c.L.length-1:Nat):Int) c.regs c.slots c.Ir c.Cr c.Lr []=_:=q2;have q3:g24 k (j:Int) c.regs c.slots c.Ir c.Cr c.Lr []=_:=q3;have q4:g25 k (j:Int) c.regs c.slots c.Ir c.Cr c.Lr es=_:=q4;simp only[qbD,nt,q1,ae,hgood,aj,af,hw];rw[Yi (qwc hx),qvs,q2];simp only[ae,tup5,hli,q3,xe];rw[aG (by omega),q4];simp only[ae,qoG,ndS];exact q5
 . have h0:Goes qbD (.h0 false 0 0 [] 0 0 0 0) (qvr c):=by rw[show qvr c=(0,0,[],0,0,0,0,false)by simp[qvr,hgood]];exact Goes.fin fun k=>rfl
   refine Goes.of2 (s:=S8.e ..) (qtv hL hC hc hI) h0 fun k q1 q2=>?_;simp only[qbD,nt,q1,ae,show qwV c=false by simpa using hgood,Bool.not_false,ah];exact q2
theorem qBT:∀ (N:Nat) (l:List Nd),cnts l<=N->cnts l<1000000->Goes qsr (.e (xk l) (xk l)) true
 |N,l,hN,hb=>by
  have len:∀ l:List Nd,l.length<=cnts l:=by
   intro l
   induction l with
   |nil=>simp[cnts]
   |cons b l ih=>cases b;simp only[cnts,cnt,List.length_cons];omega
  have hll:=len l;have loop:∀ (m i:Nat),i+m=l.length->Goes qsr (.h0 (xk l) (xk l) (l.length:Int) (i:Int)) true:=by
   intro m
   induction m with
   |zero=>intro i hi;refine Goes.fin fun k=>?_;simp only[qsr,nt,xe];rw[aG (by omega)]
   |succ m ihm=>
    intro i hi;have hlt:i<l.length:=by omega
    have hx:(xk l)[i]? = some (qvo l[i]):=by rw[qvk];exact rwAt (ax hlt)
    have hc:cnts l[i].args<cnts l:=by
     have:∀ (l:List Nd) (i:Nat) (a:Nd),l[i]? = some a->cnts a.args<cnts l:=by
      intro l
      induction l with
      |nil=>intro i a h;simp at h
      |cons b l ih=>
       intro i a h;cases i with
       |zero=>simp at h;subst h;cases b;simp only[cnts,cnt,Nd.args];omega
       |succ i=>have:=ih i a (by simpa using h);simp only[cnts];omega
     exact this l i l[i] (ax hlt)
    have ih:=ihm (i+1) (by omega);have h1:Goes qsr (.h1 (xk l) (xk l) (l.length:Int) (i:Int) false) true:=by refine ih.go fun k=>?_;simp only[qsr,nt,af];rw[zq (by omega)]
    match N,hN with
    |0,hN=>exact absurd hc (by omega)
    |N+1,hN=>refine Goes.of2 (qBT N l[i].args (by omega) (by omega)) h1 fun k e1 e2=>?_;simp only[qsr,nt,xe];rw[aF (by omega),Yi hx,qCO,Yi hx,qCO];simp only[bne_self_eq_false,beq_self_eq_true,Bool.and_self,aj,af,e1,ae];exact e2
  refine(loop l.length 0 (by omega)).go fun k=>?_;have hlen:(xk l).length=l.length:=by rw[qvk,List.length_map]
  simp only[qsr,nt,hlen,bne_self_eq_false,af];rfl
termination_by N l=>N
theorem qEm (n:Nd)(h:cnt n<100000):Tot (fun k=>g9 k n.op n.kind (xk n.args) n.vk n.vb n.pos n.attr n.op n.kind (xk n.args) n.vk n.vb n.pos n.attr) true:=by refine Goes.of1 (s:=S9.e ..) (f:=fun k=>g26 k (xk [n]) (xk [n])) (qBT (cnts [n]) [n] (Nat.le_refl _) (by simp[cnts];omega)) fun k h=>?_;simp only[qn6,nt,qzv];rw[show([qvo n]:Rs)=xk [n]from rfl,h];rfl
theorem qEj {c:quY}(hL:c.L.length<1073741824)(hC:∀ v∈c.C,0<=v.bits/\v.bits<18446744073709551616)(hc:c.C.length<1073741824)(hI:c.I.length<1073741824):Tot (fun k=>g3 k c.regs c.slots c.Ir c.Cr c.Lr) true:=by
 have key:∃ n b,cnt n<100000/\qvr c=(n.op,n.kind,xk n.args,n.vk,n.vb,n.pos,n.attr,b):=by
  unfold qvr;split
  . rename_i h;have hg:=Gd.of h.1;obtain⟨x,j,_,_,_,ht,hjl⟩:=qxs hg;have:=qxM hg j hjl;rw[<- ht]at this;obtain⟨w1,w2,w3⟩:=this;exact⟨(told c).n,true,by omega,rfl⟩
  . exact⟨.mk 0 0 [] 0 0 0 0,false,by simp[cnt,cnts],rfl⟩
 obtain⟨n,b,h1,h2⟩:=key;have h7:=qEk hL hC hc hI;have h8:=qEl hL hC hc hI;rw[h2]at h7 h8;refine Goes.of3 (s:=S3.e ..) h7 h8 (qEm n h1) fun k q1 q2 q3=>?_;simp only[qon,xe];split
 . rfl
 . simp only[q1,q2,ae,tup8,beq_self_eq_true,ah,q3]
end Ab
end Go.Proofs.YtjnefcbeemkkeaaGreat

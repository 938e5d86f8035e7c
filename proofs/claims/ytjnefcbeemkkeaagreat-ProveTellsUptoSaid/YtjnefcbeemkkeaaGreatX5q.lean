/-
  What code tells: the program. No claim stands here.
-/
import Derived.Test.YtjnefcbeemkkeaaGreatX4q
set_option linter.all false
namespace Go.Proofs.YtjnefcbeemkkeaaGreat
namespace Ab
variable [Glob]
def Nd.op:Nd->Int|.mk o ..=>o
def Nd.args:Nd->List Nd|.mk _ _ a ..=>a
def Nd.vk:Nd->Int|.mk _ _ _ v _ _ _=>v
def Nd.vb:Nd->Int|.mk _ _ _ _ v _ _=>v
def Nd.pos:Nd->Int|.mk _ _ _ _ _ v _=>v
def Nd.attr:Nd->Int|.mk _ _ _ _ _ _ v=>v
theorem qzh {α:Type}(s:Sn)(k:Int->Int->Rs->Int->Int->Int->Int->Int->Option α):qu7 (snR s) k=k s.n.op s.n.kind (xk s.n.args) s.n.vk s.n.vb s.n.pos s.n.attr s.size:=by obtain⟨⟨⟩,_⟩:=s;rfl
theorem qEy {α:Type}(s:Sn)(z:Int->Int->Int->Int->Int->Int->Int->Option α)(k:Int->Int->Rs->Int->Int->Int->Int->Int->Option α):qu9 (snR s) z k=k s.n.op s.n.kind (xk s.n.args) s.n.vk s.n.vb s.n.pos s.n.attr s.size:=by obtain⟨⟨⟩,_⟩:=s;rfl
theorem qCO {α:Type}(n:Nd)(k:Int->Int->Rs->Int->Int->Int->Int->Option α):qvv (qvo n) k=k n.op n.kind (xk n.args) n.vk n.vb n.pos n.attr:=by cases n;rfl
theorem qxJ (s:Sn):[ic s.n.op,ic s.n.kind,.imm (xk s.n.args),ic s.n.vk,.val (.int .u64 s.n.vb),ic s.n.pos,ic s.n.attr,ic s.size]=snR s:=by obtain⟨⟨⟩,_⟩:=s;rfl
theorem qzv (n:Nd):[ic n.op,ic n.kind,.imm (xk n.args),ic n.vk,.val (.int .u64 n.vb),ic n.pos,ic n.attr]=qvo n:=by cases n;rfl
theorem qCF (s:Sn):(snR s).length=8:=by obtain⟨⟨⟩,_⟩:=s;rfl
theorem qxg (n:Nd):(qvo n).length=7:=by cases n;rfl
structure RgM (l:Es) (r:Int->Option Sn):Prop where
 ok:OkE l
 at_:∀ k,lk l k=(r k).map snR
 wf:∀ k s,r k=some s->s.wf
theorem RgM.get {l:Es}{r:Int->Option Sn}(h:RgM l r){k:Int}{s:Sn}(hk:r k=some s):yU Tryz.prog 3 (.int .i64 k) l=some (some (snR s)):=by rw[find_ok h.ok,h.at_,hk];rfl
theorem RgM.put {l:Es}{r:Int->Option Sn}(h:RgM l r)(k:Int){s:Sn}(hs:s.wf):∃ l',xL Tryz.prog 3 (.int .i64 k) (snR s) l=some l'/\RgM l' fun j=>if j=k then some s else r j:=by
 obtain⟨l',h1,h2,h3⟩:=qzD (k:=k) (l:=snR s) h.ok;refine⟨l',h1,h2,fun j=>?_,fun j t ht=>?_⟩
 . rw[h3,h.at_];by_cases hj:j=k<;>simp[hj]
 .
  by_cases hj:j=k
  . rw[aF hj]at ht;cases ht;exact hs
  . rw[aG hj]at ht;exact h.wf j t ht
theorem RgM.eq {l:Es}{r q:Int->Option Sn}(h:RgM l r)(e:r=q):RgM l q:=e▸h
theorem RgM.none:RgM [] fun _=>none:=⟨fun p hp=>(by cases hp),fun k=>rfl,fun k s h=>(by cases h)⟩
theorem qAs (l:List Sn)(hw:∀ s∈l,s.wf)(hl:l.length<100):∀ (m i:Nat) (n:Int),i+m=l.length->0<=n->n<=1025->Goes qwL (.h0 n (l.map snR) (l.length:Int) (i:Int)) (sumF (l.drop i) n)
 |0,i,n,hi,h0,h1=>Goes.fin fun k=>by rw[List.drop_eq_nil_of_le (by omega)];simp only[qwL,nt,xe];rw[aG (by omega)];rfl
 |m+1,i,n,hi,h0,h1=>by
  have hlt:i<l.length:=by omega
  have hx:l[i]? = some l[i]:=ax hlt;have hs:=hw _ (List.getElem_mem hlt);obtain⟨a1,a2,a3⟩:=hs;rw[List.drop_eq_getElem_cons hlt];refine(qAs l hw hl m (i+1) (min 1025 (n+l[i].size)) (by omega) (by omega) (by omega)).go fun k=>?_;simp only[qwL,nt,xe];rw[aF (by omega),Yi (rwAt hx),qzh,zq (by omega),wrapN (by omega) (by omega)];congr 2;split<;>omega
theorem qAt (l:List Sn)(hw:∀ s∈l,s.wf)(hl:l.length<100):Tot (fun k=>g105 k (l.map snR)) (sumF l 1):=by refine(qAs l hw hl l.length 0 1 (by omega) (by omega) (by omega)).go (s:=S105.e ..) fun k=>?_;simp only[qwL,nt,List.length_map];rfl
def oprR (v:Sn)(I C L:Rs)(l m:Es):R58:=(v.n.op,v.n.kind,xk v.n.args,v.n.vk,v.n.vb,v.n.pos,v.n.attr,v.size,I,C,L,l,m)
section
variable {op d a b rg sl:Int} {I C L:Rs} {l m:Es} (vs:List Sn) (hw:∀ s∈vs,s.wf) (hn:vs.length=1\/vs.length=2)
include hw hn
theorem qDj (z:Int):∀ (q i:Nat),i+q=vs.length->Goes qvp (.h3 (vs.map snR) ((vs.take i).map fun s=>oneR s.n.kind) (vs.length:Int) (i:Int) op 0 ((vs.take i).map fun s=>qvo s.n) 0 0 0 0 z 0 0 0 0 0 0 0 op d a b rg sl I C L l m)
   (op,resF op (vs.map (·.n.kind)),xk (vs.map (·.n)),0,0,0,0,z,I,C,L,l,m)
 |0,i,hi=>by
  have h5:Goes qvp (.h5 op (resF op (vs.map (·.n.kind))) (xk (vs.map (·.n))) 0 0 0 0 z rg sl I C L l m) (op,resF op (vs.map (·.n.kind)),xk (vs.map (·.n)),0,0,0,0,z,I,C,L,l,m):=Goes.fin fun k=>rfl;refine Goes.of2 (qCe op (vs.map (·.n.kind)) (by simpa using hn)) h5 fun k q1 q2=>?_;simp only[qvp,xe];rw[aG (by omega),List.take_of_length_le (by omega)];have e1:qG (vs.map fun s=>oneR s.n.kind)=(vs.map (·.n.kind)).map oneR:=by rw[<- qxS,List.map_map];rfl
  have e2:qG (vs.map fun s=>qvo s.n)=xk (vs.map (·.n)):=by rw[qvk,<- qv5,List.map_map];rfl
  rw[e1,q1,ae,e2];exact q2
 |q+1,i,hi=>by
  have hlt:i<vs.length:=by omega
  have hx:vs[i]? = some vs[i]:=ax hlt;have ih:=qDj z q (i+1) (by omega);rw[List.take_succ_eq_append_getElem hlt,List.map_append,List.map_append]at ih;have h4:Goes qvp (.h4 (vs.map snR) ((vs.take i).map (fun s=>oneR s.n.kind)++[oneR vs[i].n.kind]) (vs.length:Int) (i:Int) op 0 ((vs.take i).map (fun s=>qvo s.n)++[qvo vs[i].n]) 0 0 0 0 z 0 0 0 0 0 0 0 op d a b rg sl I C L l m) (op,resF op (vs.map (·.n.kind)),xk (vs.map (·.n)),0,0,0,0,z,I,C,L,l,m):=by refine ih.go fun k=>?_;simp only[qvp];rw[zq (by omega)];rfl
  refine h4.go fun k=>?_;simp only[qvp,xe];rw[aF (by omega),Yi (rwAt hx),qEy,qzv];have o1:apOk 72 7 ((vs.take i).map fun s=>qvo s.n) [qvo vs[i].n]=true:=by simp[apOk,lim,qxg];omega
  have o2:apOk 8 1 ((vs.take i).map fun s=>oneR s.n.kind) [[ic vs[i].n.kind]]=true:=by simp[apOk,lim];omega
  rw[o1,o2];rfl
theorem qDi:Goes qvp (.h1 (vs.map snR) 0 0 0 0 0 0 0 op d a b rg sl I C L l m) (oprR (opr op vs) I C L l m):=by
 by_cases hs:sumF vs 1=1025
 . have h2:Goes qvp (.h2 op 0 [] 0 0 0 0 1025 rg sl I C L l m) (oprR (opr op vs) I C L l m):=by rw[show opr op vs=⟨.mk op 0 [] 0 0 0 0,1025⟩by simp[opr,hs]];exact Goes.fin fun k=>rfl
   refine Goes.of2 (qAt vs hw (by omega)) h2 fun k q1 q2=>?_;simp only[qvp,qxT,q1,ae,hs,beq_self_eq_true,ah];exact q2
 . have h3:=qDj (op:=op) (d:=d) (a:=a) (b:=b) (rg:=rg) (sl:=sl) (I:=I) (C:=C) (L:=L) (l:=l) (m:=m) vs hw hn (sumF vs 1) vs.length 0 (by omega);rw[show opr op vs=⟨.mk op (resF op (vs.map (·.n.kind))) (vs.map (·.n)) 0 0 0 0,sumF vs 1⟩by simp[opr,hs]];refine Goes.of2 (qAt vs hw (by omega)) h3 fun k q1 q2=>?_;simp only[qvp,qxT,q1,ae,zt,aG hs,List.length_map];exact q2
end
theorem qDk {c:quY}{st:St}{x:Ins4}{l m:Es}(hl:RgM l st.r)(hn:nOps x.op=1\/nOps x.op=2)(h52:x.op≠52)(hr:∀ r∈reads x,(st.r r).isSome=true):
  Tot (fun k=>g58 k x.op x.dst x.a x.b c.regs c.slots c.Ir c.Cr c.Lr l m) (oprR (opr x.op ((reads x).map fun r=>(st.r r).getD zSn)) c.Ir c.Cr c.Lr l m):=by
 have hw:∀ s∈(reads x).map fun r=>(st.r r).getD zSn,s.wf:=by intro s hs;rw[List.mem_map]at hs;obtain⟨r,h1,rfl⟩:=hs;exact qCV (hl.wf r) (hr r h1)
 rcases hn with hn|hn
 .
  have er:reads x=[x.a]:=by simp[reads,hn]
  rw[er]at hr hw |-;obtain⟨s,hs⟩:=Option.isSome_iff_exists.1 (hr x.a (by simp));simp only[List.map_cons,List.map_nil,hs,Option.getD_some]at hw |-;have h1:=qDi (op:=x.op) (d:=x.dst) (a:=x.a) (b:=x.b) (rg:=c.regs) (sl:=c.slots) (I:=c.Ir) (C:=c.Cr) (L:=c.Lr) (l:=l) (m:=m) [s] hw (.inl rfl);have h0:Goes qvp (.h0 [snR s] false 0 0 0 0 0 0 0 x.op x.dst x.a x.b c.regs c.slots c.Ir c.Cr c.Lr l m) (oprR (opr x.op [s]) c.Ir c.Cr c.Lr l m):=h1.go fun k=>rfl;refine h0.go (s:=S58.e ..) fun k=>?_;simp only[qvp,hl.get hs,ae,optC,qzh,qxJ,qvM];by_cases h6:x.op=6
  . rw[aF h6]
  .
   rw[aG h6];have:decide (x.op<15)=false:=by
    unfold nOps at hn;split at hn
    . simp;omega
    . split at hn<;>omega
   rw[this]
 .
  have er:reads x=[x.a,x.b]:=by simp[reads,hn,h52]
  rw[er]at hr hw |-;obtain⟨s,hs⟩:=Option.isSome_iff_exists.1 (hr x.a (by simp));obtain⟨t,ht⟩:=Option.isSome_iff_exists.1 (hr x.b (by simp));simp only[List.map_cons,List.map_nil,hs,ht,Option.getD_some]at hw |-;have h1:=qDi (op:=x.op) (d:=x.dst) (a:=x.a) (b:=x.b) (rg:=c.regs) (sl:=c.slots) (I:=c.Ir) (C:=c.Cr) (L:=c.Lr) (l:=l) (m:=m) [s,t] hw (.inr rfl);have h0:Goes qvp (.h0 [snR s] true 0 0 0 0 0 0 0 x.op x.dst x.a x.b c.regs c.slots c.Ir c.Cr c.Lr l m) (oprR (opr x.op [s,t]) c.Ir c.Cr c.Lr l m):=by
   refine h1.go fun k=>?_;simp only[qvp,ah,hl.get ht,ae,optC,qzh,qxJ];have o1:apOk 80 8 [snR s] [snR t]=true:=by simp[apOk,lim,qCF]
   rw[o1];rfl
  refine h0.go (s:=S58.e ..) fun k=>?_;simp only[qvp,hl.get hs,ae,optC,qzh,qxJ,qvM];have h6:x.op≠6/\x.op<15:=by
   unfold nOps at hn;split at hn
   . omega
   . split at hn<;>omega
  rw[aG h6.1,aQ h6.2]
theorem qx7 {x:Ins4}(h53:x.op≠53)(h52:x.op≠52)(st:St)(v:Sn):(fun k=>if wrote false k x=true then some v else st.r k)=fun j=>if j=x.dst then some v else st.r j:=by funext k;simp[wrote,h53,h52,eq_comm]
theorem qx8 {x:Ins4}(h53:x.op≠53)(st:St)(v:Sn):(fun k=>if wrote true k x=true then some v else st.s k)=st.s:=by funext k;simp[wrote,h53]
theorem qCT {x:Ins4}(h53:x.op=53)(st:St)(v:Sn):(fun k=>if wrote true k x=true then some v else st.s k)=fun j=>if j=x.a then some v else st.s j:=by funext k;simp[wrote,h53,eq_comm]
theorem qCU {x:Ins4}(h53:x.op=53)(st:St)(v:Sn):(fun k=>if wrote false k x=true then some v else st.r k)=st.r:=by funext k;simp[wrote,h53]
theorem qDq {c:quY}{i:Nat}{k:Int}(h:isW c.L false i k=true):∃ s,(stAt c i).r k=some s:=by obtain⟨j,hj⟩:=Option.isSome_iff_exists.1 h;exact⟨_,by rw[qvJ,hj];rfl⟩
theorem qEn {c:quY}{i:Nat}{k:Int}(h:isW c.L true i k=true):∃ s,(stAt c i).s k=some s:=by obtain⟨j,hj⟩:=Option.isSome_iff_exists.1 h;exact⟨_,by rw[qxK,hj];rfl⟩
theorem qmi {c:quY}{i:Nat}{x:Ins4}{l m:Es}(hg:Gd c)(hx:c.L[i]? = some x)(hi:i+1<c.L.length)(hl:RgM l (stAt c i).r)(hm:RgM m (stAt c i).s):
  ∃ l' m',Tot (fun k=>g20 k x.op x.dst x.a x.b c.regs c.slots c.Ir c.Cr c.Lr l m) (c.Ir,c.Cr,c.Lr,l',m')/\RgM l' (stAt c (i+1)).r/\RgM m' (stAt c (i+1)).s:=by
 have h52:=hg.no52 hx hi;have hv:=qxM hg i hi;have est:stAt c (i+1)=upd c (stAt c i) x:=by simp only[stAt,hx]
 have ev:xw c i=valOf c (stAt c i) x:=by simp only[xw,hx]
 rw[est];rw[ev]at hv;obtain⟨l',p1,p2⟩:=hl.put x.dst hv;obtain⟨m',r1,r2⟩:=hm.put x.a hv;rcases qvQ (hg.ok i x hx) h52 with⟨q,y,h0,hy⟩|⟨q,y,h0,hy⟩|⟨q,hq⟩|⟨q,hq⟩|⟨q1,q2,q3,q4,q5,q6⟩
 .
  refine⟨l',m,Goes.fin (s:=S20.e ..) fun k=>?_,p2.eq (qx7 (by omega) h52 _ _).symm,hm.eq (qx8 (by omega) _ _).symm⟩;have e:valOf c (stAt c i) x=⟨inN y,1⟩:=by simp[valOf,q,hy]
  rw[e]at p1;obtain⟨a,ha⟩:∃ a:Nat,x.a=a:=⟨x.a.toNat,by omega⟩
  replace hy:c.I[a]? = some y:=by rw[ha,Int.toNat_natCast]at hy;exact hy
  rw[ha];simp only[yY,zt,aF q];rw[Yi (qBe hy),qBE];exact congrArg (fun z:Option Es=>z.bind fun u=>some (c.Ir,c.Cr,c.Lr,u,m)) p1
 .
  refine⟨l',m,Goes.fin (s:=S20.e ..) fun k=>?_,p2.eq (qx7 (by omega) h52 _ _).symm,hm.eq (qx8 (by omega) _ _).symm⟩;have e:valOf c (stAt c i) x=⟨vlN y,1⟩:=by simp[valOf,q,hy]
  rw[e]at p1;obtain⟨a,ha⟩:∃ a:Nat,x.a=a:=⟨x.a.toNat,by omega⟩
  replace hy:c.C[a]? = some y:=by rw[ha,Int.toNat_natCast]at hy;exact hy
  rw[ha];simp only[yY,zt,aG (show x.op≠50 by omega),aF q];rw[Yi (qBd hy),qBG];exact congrArg (fun z:Option Es=>z.bind fun u=>some (c.Ir,c.Cr,c.Lr,u,m)) p1
 . refine⟨l,m',Goes.fin (s:=S20.e ..) fun k=>?_,hl.eq (qCU q _ _).symm,r2.eq (qCT q _ _).symm⟩;obtain⟨s,hs⟩:=qDq hq;have e:valOf c (stAt c i) x=s:=by simp[valOf,q,hs]
   rw[e]at r1;simp only[yY,zt,aG (show x.op≠50 by omega),aG (show x.op≠51 by omega),aF q,hl.get hs,ae,optC,qzh,qxJ,r1]
 . refine⟨l',m,Goes.fin (s:=S20.e ..) fun k=>?_,p2.eq (qx7 (by omega) h52 _ _).symm,hm.eq (qx8 (by omega) _ _).symm⟩;obtain⟨s,hs⟩:=qEn hq;have e:valOf c (stAt c i) x=s:=by simp[valOf,q,hs]
   rw[e]at p1;simp only[yY,zt,aG (show x.op≠50 by omega),aG (show x.op≠51 by omega),aG (show x.op≠53 by omega),aF q,hm.get hs,ae,optC,qzh,qxJ,p1]
 . have e:valOf c (stAt c i) x=opr x.op ((reads x).map fun r=>((stAt c i).r r).getD zSn):=by simp[valOf,q1,q2,q3,q4]
   have h58:=qDk (c:=c) (m:=m) hl q5 h52 (fun r hr=>by obtain⟨s,hs⟩:=qDq (q6 r hr);rw[hs];rfl);rw[<- e]at h58;refine⟨l',m,Goes.of1 (s:=S20.e ..) h58 fun k h=>?_,p2.eq (qx7 (by omega) h52 _ _).symm,hm.eq (qx8 (by omega) _ _).symm⟩;simp only[yY,zt,aG q1,aG q2,aG q3,aG q4,h,ae,oprR,qCM,qxJ,p1]
theorem qB7 {n a:Nd}{i:Nat}(h:n.args[i]? = some a):cnt a<cnt n:=by
 cases n with
 |mk op kind args vk vb pos attr=>
  have:∀ (l:List Nd) (i:Nat),l[i]? = some a->cnt a<=cnts l:=by
   intro l
   induction l with
   |nil=>intro i h;simp at h
   |cons b l ih=>
    intro i h;cases i with
    |zero=>simp at h;subst h;simp[cnts]
    |succ i=>have:=ih i (by simpa using h);simp only[cnts];omega
  have:=this args i h;simp only[cnt];omega
theorem qBf (n:Nd):n.args.length<cnt n:=by
 cases n with
 |mk op kind args vk vb pos attr=>
  have:∀ l:List Nd,l.length<=cnts l:=by
   intro l
   induction l with
   |nil=>simp[cnts]
   |cons b l ih=>cases b;simp only[cnts,cnt,List.length_cons];omega
  have:=this args;simp only[cnt,Nd.args];omega
def ndT (n:Nd):R21:=(n.op,n.kind,xk n.args,n.vk,n.vb,n.pos,n.attr)
theorem qr9:∀ (N:Nat) (n:Nd),cnt n<=N->cnt n<100000->Goes qq0 (.e n.op n.kind (xk n.args) n.vk n.vb n.pos n.attr) (ndT n)
 |0,n,h,_=>by cases n;simp[cnt]at h
 |N+1,n,h,h1=>by
  have al:=qBf n;have loop:∀ (m i:Nat),i+m=n.args.length->Goes qq0 (.h0 ((n.args.take i).map qvo) (n.args.map qvo) (n.args.length:Int) (i:Int) 0 0 0 0 0 0 n.op n.kind (xk n.args) n.vk n.vb n.pos n.attr) (ndT n):=by
   intro m
   induction m with
   |zero=>intro i hi;refine Goes.fin fun k=>?_;simp only[qq0,nt,xe];rw[aG (by omega),List.take_of_length_le (by omega),qv5,<- qvk];rfl
   |succ m ihm=>
    intro i hi;have hlt:i<n.args.length:=by omega
    have hx:n.args[i]? = some n.args[i]:=ax hlt;have hc:=qB7 hx;have ih:=ihm (i+1) (by omega);rw[List.take_succ_eq_append_getElem hlt,List.map_append]at ih;refine Goes.of2 (qr9 N n.args[i] (by omega) (by omega)) ih fun k e1 e2=>?_;simp only[qq0,nt,xe];rw[aF (by omega),Yi (rwAt hx),qCO];have e1:itS qq0 k (.e n.args[i].op n.args[i].kind (xk n.args[i].args) n.args[i].vk n.args[i].vb n.args[i].pos n.args[i].attr)=some (ndT n.args[i]):=e1;rw[e1];simp only[ae,tup7,ndT,qzv];have o1:apOk 72 7 ((n.args.take i).map qvo) [qvo n.args[i]]=true:=by simp[apOk,lim,qxg];omega
    rw[o1,zq (by omega)];exact e2
  refine(loop n.args.length 0 (by omega)).go fun k=>?_;simp only[qq0,nt,qvk,List.length_map];rfl
def qvr (c:quY):R7:=if qwV c=true/\(told c).size≠1025 then((told c).n.op,(told c).n.kind,xk (told c).n.args,(told c).n.vk,(told c).n.vb,(told c).n.pos,(told c).n.attr,true)else(0,0,[],0,0,0,0,false)
theorem qEk {c:quY}(hL:c.L.length<1073741824)(hC:∀ v∈c.C,0<=v.bits/\v.bits<18446744073709551616)(hc:c.C.length<1073741824)(hI:c.I.length<1073741824):Tot (fun k=>g7 k c.regs c.slots c.Ir c.Cr c.Lr) (qvr c):=by
 by_cases hgood:qwV c=true
 .
  have hg:=Gd.of hgood;have hl:=hg.len;obtain⟨x,j,hx,h52,hj,ht,hjl⟩:=qxs hg;have hrx:(stAt c (c.L.length-1)).r x.a=some (told c):=by rw[qvJ,hj,av,ht]
  have hwf:(told c).wf:=by rw[ht];exact qxM hg j hjl
  have hend:∀ (n o p q t u:Int) {l m:Es},RgM m (stAt c (c.L.length-1)).r->∀ (V:Rs),Goes qm4 (.h1 ((c.L.length-1:Nat):Int) V ((c.L.length-1:Nat):Int) ((c.L.length-1:Nat):Int) c.regs c.slots c.Ir c.Cr c.Lr l m n o p q t u c.regs c.slots c.Ir c.Cr c.Lr) (qvr c):=by
   intro n o p q t u l m hm V;have h2:Goes qm4 (.h2 ((told c).size==1025) (told c).n.op (told c).n.kind (xk (told c).n.args) (told c).n.vk (told c).n.vb (told c).n.pos (told c).n.attr (told c).size n o p q t u) (qvr c):=by
    by_cases hs:(told c).size=1025
    . have h3:Goes qm4 (.h3 false 0 0 [] 0 0 0 0) (qvr c):=by rw[show qvr c=(0,0,[],0,0,0,0,false)by simp[qvr,hs]];exact Goes.fin fun k=>rfl
      refine h3.go fun k=>?_;simp only[qm4,zt,aF hs]
    . have h4:Goes qm4 (.h4 true (told c).n.op (told c).n.kind (xk (told c).n.args) (told c).n.vk (told c).n.vb (told c).n.pos (told c).n.attr) (qvr c):=by rw[show qvr c=((told c).n.op,(told c).n.kind,xk (told c).n.args,(told c).n.vk,(told c).n.vb,(told c).n.pos,(told c).n.attr,true)by simp[qvr,hs,hgood]];exact Goes.fin fun k=>rfl
      obtain⟨w1,w2,w3⟩:=hwf;refine Goes.of2 (f:=fun k=>g21 k (told c).n.op (told c).n.kind (xk (told c).n.args) (told c).n.vk (told c).n.vb (told c).n.pos (told c).n.attr) (qr9 (cnt (told c).n) (told c).n (Nat.le_refl _) (by omega)) h4 fun k q1 q2=>?_;simp only[qm4,zt,aG hs,q1,ae,tup7,ndT];exact q2
   refine h2.go fun k=>?_;simp only[qm4,xe];rw[aG (by omega),Yi (qwc hx),qvs,hm.get hrx];simp only[ae,optC,qzh]
  have loop:∀ (m i:Nat) {l r:Es},i+m=c.L.length-1->RgM r (stAt c i).r->RgM l (stAt c i).s ->
    Goes qm4 (.h1 ((c.L.length-1:Nat):Int) ((c.L.take (c.L.length-1)).map insR) ((c.L.length-1:Nat):Int) (i:Int) c.regs c.slots c.Ir c.Cr c.Lr l r 0 0 0 0 0 0 c.regs c.slots c.Ir c.Cr c.Lr) (qvr c):=by
   intro m
   induction m with
   |zero=>
    intro i l r hi hr hs;obtain rfl:i=c.L.length-1:=by omega
    exact hend 0 0 0 0 0 0 hr _
   |succ m ih=>
    intro i l r hi hr hs;have hlt:i<c.L.length-1:=by omega
    obtain⟨y,hy⟩:∃ y,c.L[i]? = some y:=⟨_,ax (by omega)⟩
    obtain⟨l',m',h1,h2,h3⟩:=qmi hg hy (by omega) hr hs;refine Goes.of2 h1 (ih (i+1) (by omega) h2 h3) fun k q1 q2=>?_;simp only[qm4,xe];have hyV:(c.L.take (c.L.length-1))[i]? = some y:=by rw[List.getElem?_take_of_lt hlt];exact hy
    rw[aF (by omega),Yi (rwAt hyV),qvs,q1];simp only[ae,tup5];rw[zq (by omega)];exact q2
  have h1:=loop (c.L.length-1) 0 (l:=[]) (r:=[]) (by omega) RgM.none RgM.none;refine Goes.of2 (s:=S7.e ..) (qBO hL hC hc hI) h1 fun k q1 q2=>?_;have ll:(c.Lr.length:Int)=c.L.length:=by simp[quY.Lr]
  have hw:IntKind.i64.wrap ((c.Lr.length:Int)-1)=((c.L.length-1:Nat):Int):=by rw[ll,wrapN (by omega) (by omega)];omega
  have hV:List.drop (Int.toNat 0) (List.take (Int.toNat ((c.L.length-1:Nat):Int)) c.Lr)=(c.L.take (c.L.length-1)).map insR:=by simp[quY.Lr,List.map_take]
  have ho:slOk 0 ((c.L.length-1:Nat):Int) c.Lr 4=true:=by
   unfold slOk;rw[aY];refine⟨by omega,by omega,by rw[ll];omega,?_⟩;cases hh:c.L with
   |nil=>simp[quY.Lr,hh]
   |cons y t=>simp[quY.Lr,hh,insR]
  simp only[qm4,q1,ae,hgood,aj,af,hw,hV,ho];have lt:(((c.L.take (c.L.length-1)).map insR).length:Int)=((c.L.length-1:Nat):Int):=by simp
  rw[lt];exact q2
 . have h0:Goes qm4 (.h0 false 0 0 [] 0 0 0 0) (qvr c):=by rw[show qvr c=(0,0,[],0,0,0,0,false)by simp[qvr,hgood]];exact Goes.fin fun k=>rfl
   refine Goes.of2 (s:=S7.e ..) (qBO hL hC hc hI) h0 fun k q1 q2=>?_;simp only[qm4,q1,ae,show qwV c=false by simpa using hgood,Bool.not_false,ah];exact q2
end Ab
end Go.Proofs.YtjnefcbeemkkeaaGreat

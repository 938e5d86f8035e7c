/-
  Code tells, in every look, what its meaning is. No claim stands here.
-/
import Derived.Test.YtjnefcbeemkkeaaGreatX8q
import Derived.Test.YtjnefcbeemkkeaaGreatFQTcq
set_option linter.all false
namespace Go.Proofs.YtjnefcbeemkkeaaGreat
namespace Ab
noncomputable section
variable [Glob]
def qEF (op:Int):Prop:=op=41\/op=42\/(25<=op/\op<=31)
instance (op:Int):Decidable (qEF op):=by unfold qEF;infer_instance
structure qEA where
 E:List Ev4
 B:List (List Int)
 cur:Int
def qFe (l:List Int):List Cell:=[.imm (l.map oneR)]
def qEA.Er (k:qEA):Rs:=k.E.map qEO
def qEA.Br (k:qEA):Rs:=k.B.map qFe
structure LkOk (k:qEA):Prop where
 ev:ScOk k.E
 b:∀ l∈k.B,l.length<1073741823
theorem qF4 {α:Type}(l:List Int)(k:Rs->Option α):un_m (qFe l) k=k (l.map oneR):=rfl
def toV (p:Int×Int):Vl:=⟨p.1,p.2⟩
open Classical in
def qE1 (op:Int)(l:List Vl):Int×Int:=if h:Has (fun k=>g48 k op (l.map vlR)) Cl then h.choose else(0,0)
open Classical in
def apV (op:Int)(l:List Vl):Int×Int:=if h:Has (fun k=>g45 k op (l.map vlR)) Cl then h.choose else(0,0)
theorem qFh {op:Int}{l:List Vl}(hb:l.length<1073741824)(hc:∀ v∈l,Clv v):Cl (qE1 op l)/\Tot (fun k=>g48 k op (l.map vlR)) (qE1 op l):=by have h:=qFF (op:=op) hb hc;unfold qE1;rw[dif_pos h];exact h.choose_spec
theorem qFP {op:Int}{l:List Vl}(hl:l.length=1\/l.length=2)(hb:∀ v∈l,U64 v.bits):Cl (apV op l)/\Tot (fun k=>g45 k op (l.map vlR)) (apV op l):=by have h:=qER (op:=op) hl hb;unfold apV;rw[dif_pos h];exact h.choose_spec
def qEA.at_ (k:qEA)(pos:Int):List Int:=if 0<=pos then(k.B[pos.toNat]?).getD []else []
def qEA.vals (k:qEA)(P:List Int)(attr:Int):List Vl:=P.map fun n=>toV (qEG k.E n attr)
def qEI (k:qEA)(op pos attr:Int):Int×Int:=if op=41 then qEG k.E k.cur attr else qE1 op (k.vals (k.at_ pos) attr)
theorem qFA {k:qEA}(hk:LkOk k)(P:List Int)(attr:Int):∀ v∈k.vals P attr,Clv v:=by intro v hv;simp only[qEA.vals,List.mem_map]at hv;obtain⟨n,_,rfl⟩:=hv;exact qFd hk.ev n attr
theorem at_len {k:qEA}(hk:LkOk k)(pos:Int):(k.at_ pos).length<1073741823:=by
 unfold qEA.at_;split
 .
  cases h:k.B[pos.toNat]? with
  |none=>simp
  |some l=>exact hk.b l (aN h)
 . simp
theorem qFg {k:qEA}(hk:LkOk k)(op pos attr:Int):Cl (qEI k op pos attr):=by
 unfold qEI;split
 . exact qFd hk.ev _ _
 . exact(qFh (by have:=at_len hk pos;simp only[qEA.vals,List.length_map];omega) (qFA hk _ _)).1
theorem qFf {k:qEA}(hk:LkOk k){op:Int}(ho:qEF op)(kind:Int)(args:Rs)(vk vb pos attr:Int):Goes ZT (.e op kind args vk vb pos attr k.Er k.Br k.cur) (qEI k op pos attr):=by
 by_cases h41:op=41
 . rw[show qEI k op pos attr=qEG k.E k.cur attr by simp[qEI,h41]];refine Goes.of1 (qFQ hk.ev k.cur attr) fun n q=>?_;have q:g47 n k.Er k.cur attr=_:=q;simp only[ZT,nt,zt,aG (show op≠40 by omega),aF h41,q,ae,tup2]
 have h4:∀ P x y,P.length<1073741823->Goes ZT (.h4 ((k.vals P attr).map vlR) x y op kind args vk vb pos attr) (qE1 op (k.vals P attr)):=fun P x y hP=>by refine Goes.of1 (qFh (op:=op) (l:=k.vals P attr) (by simp only[qEA.vals,List.length_map];omega) (qFA hk _ _)).2 fun n q=>?_;simp only[ZT,nt,qEW,q,ae,tup2]
 have h3:∀ P x y,P.length<1073741823->∀ (m i:Nat),i+m=P.length->Goes ZT (.h3 k.Er ((k.vals (P.take i) attr).map vlR) (P.map oneR) (P.length:Int) (i:Int) x y op kind args vk vb pos attr) (qE1 op (k.vals P attr)):=by
  intro P x y hP m
  induction m with
  |zero=>intro i hi;refine(h4 P x y hP).go fun n=>?_;simp only[ZT,nt,xe];rw[aG (by omega),List.take_of_length_le (by omega)]
  |succ m ih=>
   intro i hi;have hlt:i<P.length:=by omega
   have hx:P[i]? = some P[i]:=ax hlt;have ih:=ih (i+1) (by omega);rw[List.take_succ_eq_append_getElem hlt,qEA.vals,List.map_append,List.map_append]at ih;refine Goes.of2 (qFQ hk.ev P[i] attr) ih fun n q q2=>?_;have q:g47 n k.Er P[i] attr=_:=q;simp only[ZT,nt,xe];rw[aF (by omega),Yi (rwAt hx),qyC,q];simp only[ae,tup2];have o1:apOk 16 2 ((k.vals (P.take i) attr).map vlR) [[ic (qEG k.E P[i] attr).1,.val (.int .u64 (qEG k.E P[i] attr).2)]]=true:=by simp only[apOk,lim,qEA.vals,List.length_map,List.length_take,List.length_singleton,List.head?_cons,Option.all_some,List.length_cons,List.length_nil];simp;omega
   rw[o1,zq (by omega)];exact q2
 have hl:qEI k op pos attr=qE1 op (k.vals (k.at_ pos) attr):=by simp[qEI,h41]
 rw[hl];have h1:∀ x y,Goes ZT (.h1 k.Er k.Br (decide (0<=pos/\pos<(k.B.length:Int))) x y op kind args vk vb pos attr) (qE1 op (k.vals (k.at_ pos) attr)):=fun x y=>by
  by_cases hp:0<=pos/\pos<(k.B.length:Int)
  . obtain⟨j,rfl⟩:∃ j:Nat,pos=j:=⟨pos.toNat,by omega⟩
    have hx:k.B[j]? = some (k.B[j]'(by omega)):=ax (by omega);have e:k.at_ (j:Int)=k.B[j]'(by omega):=by simp[qEA.at_,hx]
    have hlen:=at_len hk (j:Int);rw[e]at hlen |-;refine(h3 (k.B[j]'(by omega)) x y hlen (k.B[j]'(by omega)).length 0 (by omega)).go fun n=>?_;simp only[ZT,nt,aQ hp,ah];have hx':k.Br[j]? = some (qFe (k.B[j]'(by omega))):=rwAt hx;rw[Yi hx',qF4,List.length_map];rfl
  .
   have e:k.at_ pos=[]:=by
    unfold qEA.at_;split
    . have:k.B[pos.toNat]? = none:=List.getElem?_eq_none (by omega);rw[this];rfl
    . rfl
   rw[e];refine(h4 [] x y (by simp)).go fun n=>?_;simp only[ZT,nt,aO hp,af];rfl
 have h0:∀ x y,Goes ZT (.h0 k.Er k.Br k.cur true x y op kind args vk vb pos attr) (qE1 op (k.vals (k.at_ pos) attr)):=fun x y=>by
  refine(h1 x y).go fun n=>?_;have lb:(k.Br.length:Int)=k.B.length:=by simp[qEA.Br]
  simp only[ZT,nt,ah,xe,lb];by_cases hp:pos>=0
  . rw[aF hp,show decide (0<=pos/\pos<(k.B.length:Int))=decide (pos<(k.B.length:Int))by simp only[show(0<=pos)from hp,true_and]]
  . rw[aG hp,aO (by omega)]
 refine(h0 0 0).go fun n=>?_;simp only[ZT,nt,zt,xe,aG (show op≠40 by unfold qEF at ho;omega),aG h41];by_cases h42:op=42
 . rw[aF h42]
 . unfold qEF at ho;rw[aG h42,aF (by omega),aQ (by omega)]
mutual
def evN (k:qEA):Nd->Int×Int
 |.mk op kind args vk vb pos attr=>if op=40 then clB ⟨vk,vb⟩else if qEF op then qEI k op pos attr else apV op (evNs k args)
def evNs (k:qEA):List Nd->List Vl
 |[]=>[]
 |n::l=>toV (evN k n)::evNs k l
end
theorem qEN (k:qEA):∀ l:List Nd,evNs k l=l.map fun n=>toV (evN k n)
 |[]=>by rw[evNs];rfl
 |n::l=>by rw[evNs,qEN k l];rfl
inductive NdOk:Nd->Prop
 |const (kind:Int) (args:List Nd) (vk vb pos attr:Int) (h:U64 vb):NdOk (.mk 40 kind args vk vb pos attr)
 |leaf (op kind:Int) (args:List Nd) (vk vb pos attr:Int) (h:qEF op):NdOk (.mk op kind args vk vb pos attr)
 |op (op kind:Int) (args:List Nd) (vk vb pos attr:Int) (h0:op≠40) (h1:¬ qEF op) (h2:args.length=1\/args.length=2) (h3:∀ a∈args,NdOk a):NdOk (.mk op kind args vk vb pos attr)
theorem qnb {k:qEA}(hk:LkOk k):∀ n,NdOk n->Cl (evN k n)/\Goes ZT (.e n.op n.kind (xk n.args) n.vk n.vb n.pos n.attr k.Er k.Br k.cur) (evN k n):=by
 intro n h
 induction h with
 |const kind args vk vb pos attr h=>rw[evN,aF rfl];refine⟨qE3 (x:=⟨vk,vb⟩) h,Goes.of1 (zK ⟨vk,vb⟩ h.1 h.2) fun n q=>?_⟩;simp only[ZT,nt,Nd.op,Nd.vk,Nd.vb,beq_self_eq_true,ah,q,ae,tup2]
 |leaf op kind args vk vb pos attr h=>rw[evN,aG (by unfold qEF at h;omega),aF h];exact⟨qFg hk _ _ _,qFf hk h _ _ _ _ _ _⟩
 |op op kind args vk vb pos attr h0 h1 h2 h3 ih=>
  rw[evN,aG h0,aG h1];have hcl:∀ v∈evNs k args,Clv v:=by intro v hv;rw[qEN,List.mem_map]at hv;obtain⟨a,ha,rfl⟩:=hv;exact(ih a ha).1
  have hlen:(evNs k args).length=args.length:=by rw[qEN,List.length_map]
  obtain⟨a1,a2⟩:=qFP (op:=op) (l:=evNs k args) (by rw[hlen];exact h2) (fun v hv=>(hcl v hv).1);refine⟨a1,?_⟩;have loop:∀ (x y:Int) (m i:Nat),i+m=args.length->Goes ZT (.h2 k.Er k.Br k.cur (((evNs k args).take i).map vlR) (args.length:Int) (i:Int) x y op kind (xk args) vk vb pos attr) (apV op (evNs k args)):=by
   intro x y m
   induction m with
   |zero=>intro i hi;refine Goes.of1 a2 fun n q=>?_;simp only[ZT,nt,xe];rw[aG (by omega),List.take_of_length_le (by omega),qEW,q];rfl
   |succ m ihm=>
    intro i hi;have hlt:i<args.length:=by omega
    have hx:(xk args)[i]? = some (qvo args[i]):=by rw[qvk];exact rwAt (ax hlt)
    have hi2:=ihm (i+1) (by omega);have hge:(evNs k args)[i]'(by omega)=toV (evN k args[i]):=by simp[qEN]
    rw[List.take_succ_eq_append_getElem (by omega),List.map_append,hge]at hi2;refine Goes.of2 (ih args[i] (List.getElem_mem hlt)).2 hi2 fun n q q2=>?_;have q:itS ZT n (.e args[i].op args[i].kind (xk args[i].args) args[i].vk args[i].vb args[i].pos args[i].attr k.Er k.Br k.cur)=_:=q;simp only[ZT,nt,xe];rw[aF (by omega),Yi hx,qCO,q];simp only[ae,tup2];have o1:apOk 16 2 (((evNs k args).take i).map vlR) [[ic (evN k args[i]).1,.val (.int .u64 (evN k args[i]).2)]]=true:=by simp only[apOk,lim,List.length_map,List.length_take,List.length_singleton,List.head?_cons,Option.all_some,List.length_cons,List.length_nil];simp;omega
    rw[o1,zq (by omega)];exact q2
  have hh:∀ x y,Goes ZT (.h0 k.Er k.Br k.cur false x y op kind (xk args) vk vb pos attr) (apV op (evNs k args)):=fun x y=>by refine(loop x y args.length 0 (by omega)).go fun n=>?_;simp only[ZT,nt,af,qvk,List.length_map];rfl
  refine Goes.go (s:=.e op kind (xk args) vk vb pos attr k.Er k.Br k.cur) (hh 0 0) fun n=>?_;unfold qEF at h1;simp only[ZT,nt,zt,xe,aG h0,aG (show op≠41 by omega),aG (show op≠42 by omega)];by_cases h25:op>=25
  . rw[aF h25,aO (by omega)]
  . rw[aG h25]
theorem qlY {c:quY}{k:qEA}(hk:LkOk k)(hI:c.I.length<1073741823)(hl:∀ x∈c.I,qEF x.op):Tot (fun n=>g15 n c.regs c.slots c.Ir c.Cr c.Lr k.Er k.Br k.cur) (c.I.map fun x=>vlR (toV (qEI k x.op x.pos x.attr))):=by
 have loop:∀ (m i:Nat),i+m=c.I.length->Goes Zu (.h0 k.Er k.Br k.cur ((c.I.take i).map fun x=>vlR (toV (qEI k x.op x.pos x.attr))) c.Ir (c.I.length:Int) (i:Int)) (c.I.map fun x=>vlR (toV (qEI k x.op x.pos x.attr))):=by
  intro m
  induction m with
  |zero=>intro i hi;refine Goes.fin fun n=>?_;simp only[Zu,nt,xe];rw[aG (by omega),List.take_of_length_le (by omega)]
  |succ m ih=>
   intro i hi;have hlt:i<c.I.length:=by omega
   have hx:c.I[i]? = some c.I[i]:=ax hlt;have ih:=ih (i+1) (by omega);rw[List.take_succ_eq_append_getElem hlt,List.map_append]at ih;refine Goes.of2 (qFf hk (hl _ (List.getElem_mem hlt)) 0 [] 0 0 c.I[i].pos c.I[i].attr) ih fun n q q2=>?_;have q:g16 n c.I[i].op 0 [] 0 0 c.I[i].pos c.I[i].attr k.Er k.Br k.cur=_:=q;simp only[Zu,nt,xe];rw[aF (by omega),Yi (qBe hx),qBE,q];simp only[ae,tup2];have o1:apOk 16 2 ((c.I.take i).map fun x=>vlR (toV (qEI k x.op x.pos x.attr))) [[ic (qEI k c.I[i].op c.I[i].pos c.I[i].attr).1,.val (.int .u64 (qEI k c.I[i].op c.I[i].pos c.I[i].attr).2)]]=true:=by simp only[apOk,lim,List.length_map,List.length_take,List.length_singleton,List.head?_cons,Option.all_some,List.length_cons,List.length_nil];simp;omega
   rw[o1,zq (by omega)];exact q2
 refine(loop c.I.length 0 (by omega)).go (s:=S15.e ..) fun n=>?_;simp only[Zu,nt];simp[quY.Ir]
theorem qzJ:∀ (l:List Sn),(∀ s∈l,s.wf)->sumF l 1025=1025
 |[],_=>rfl
 |t::l,h=>by have:=(h t au).1;show sumF l (min 1025 (1025+t.size))=1025;rw[show min 1025 (1025+t.size)=1025 by omega];exact qzJ l fun u hu=>h u (aB _ hu)
theorem qA5:∀ (l:List Sn) (n:Int),0<=n->n<=1025->(∀ s∈l,s.wf)->sumF l n≠1025->∀ s∈l,s.size<1025
 |[],_,_,_,_,_,s,hs=>by cases hs
 |t::l,n,h0,h1,hw,hn,s,hs=>by
  have ht:=hw t au;have hw':∀ s∈l,s.wf:=fun u hu=>hw u (aB _ hu);have hn:sumF l (min 1025 (n+t.size))≠1025:=hn;have h2:min 1025 (n+t.size)≠1025:=fun e=>hn (by rw[e];exact qzJ l hw');obtain⟨a1,a2,a3⟩:=ht;rcases List.mem_cons.1 hs with rfl|hs
  . omega
  . exact qA5 l _ (by omega) (by omega) hw' hn s hs
structure VrM (k:qEA) (l:Es) (r:Int->Option Sn):Prop where
 ok:OkE l
 row:∀ j row,lk l j=some row->∃ v,row=vlR v/\Clv v
 at_:∀ j s,r j=some s->∃ v,lk l j=some (vlR v)/\Clv v/\(s.size<1025->v=toV (evN k s.n))
theorem VrM.put {k:qEA}{l:Es}{r:Int->Option Sn}(h:VrM k l r)(j:Int){s:Sn}{v:Vl}(hv:Clv v)(hs:s.size<1025->v=toV (evN k s.n)):∃ l',xL Tryz.prog 3 (.int .i64 j) (vlR v) l=some l'/\VrM k l' fun i=>if i=j then some s else r i:=by
 obtain⟨l',h1,h2,h3⟩:=qzD (k:=j) (l:=vlR v) h.ok;refine⟨l',h1,h2,fun i row hr=>?_,fun i t ht=>?_⟩
 .
  rw[h3]at hr;split at hr
  . cases hr;exact⟨v,rfl,hv⟩
  . exact h.row i row hr
 .
  by_cases hi:i=j
  . rw[aF hi]at ht;cases ht;exact⟨v,by rw[h3,aF hi],hv,hs⟩
  . rw[aG hi]at ht;obtain⟨u,u1,u2⟩:=h.at_ i t ht;exact⟨u,by rw[h3,aG hi];exact u1,u2⟩
theorem VrM.eq {k:qEA}{l:Es}{r q:Int->Option Sn}(h:VrM k l r)(e:r=q):VrM k l q:=e▸h
theorem qj9 {a b c d:Int}{e e':Es}(h0:0<=a)(h1:a<b)(hp:xL Tryz.prog 3 (.int .i64 a) [ic c,.val (.int .u64 d)] e=some e'):Tot (fun k=>g43 k a b c d e) e':=by
 have h:Goes Zo (.h0 a true c d e) e':=Goes.fin fun k=>by simp only[Zo,ah,hp,ae]
 exact h.go (s:=S43.e ..) fun k=>by simp only[Zo,xe,aF h0,aQ h1]
theorem qoX {L:List Vl}{i:Nat}{v:Vl}(hx:L[i]? = some v)(hv:Clv v):Tot (fun k=>g44 k (L.map vlR) (i:Int)) (v.kind,v.bits):=by
 have hi:=(az.1 hx).1;have h:Goes qq1 (.h0 (L.map vlR) (i:Int) false 0 0) (v.kind,v.bits):=by refine Goes.of1 (zK v hv.1.1 hv.1.2) fun k q=>?_;simp only[qq1,nt,af];rw[Yi (rwAt hx),qBG,q];have:=hv.2;simp only[ae,tup2,this]
 exact h.go (s:=S44.e ..) fun k=>by simp only[qq1,nt,xe,List.length_map];rw[aG (by omega),aO (by omega)]
section
variable {c:quY} {k:qEA} (hk:LkOk k) (hg:Gd c) (hgood:qwV c=true) (hC:∀ v∈c.C,0<=v.bits/\v.bits<18446744073709551616)
include hk hg hgood hC
theorem qE9:∀ x∈c.I,qEF x.op:=by intro x hx;simp only[qwV,aD,List.all_eq_true]at hgood;have:=hgood.2.1 x hx;simp only[inB,aY]at this;unfold qEF;omega
theorem qFV:∀ v∈c.C,Clv v:=by intro v hv;simp only[qwV,aD,List.all_eq_true,aY]at hgood;exact⟨hC v hv,hgood.2.2.1 v hv⟩
theorem qFw {op:Int}(h:nOps op=1\/nOps op=2):op≠40/\¬ qEF op/\op≠52:=by
 unfold nOps at h;unfold qEF;split at h
 . omega
 . split at h<;>omega
theorem qF5:∀ (i:Nat),i+1<c.L.length->(xw c i).size<1025->NdOk (xw c i).n:=by
 intro i
 induction i using Nat.strongRecOn with
 |ind i ih=>
  intro hi hsz;obtain⟨x,hx⟩:∃ x,c.L[i]? = some x:=⟨_,ax (by omega)⟩
  have h52:=hg.no52 hx hi;have ev:xw c i=valOf c (stAt c i) x:=by simp only[xw,hx]
  rw[ev]at hsz |-;rcases qvQ (hg.ok i x hx) h52 with⟨q,y,_,hy⟩|⟨q,y,_,hy⟩|⟨q,hq⟩|⟨q,hq⟩|⟨q1,q2,q3,q4,q5,q6⟩
  . simp only[valOf,aF q,hy,av,Option.getD_some];exact .leaf _ _ _ _ _ _ _ (qE9 hk hg hgood hC y (aN hy))
  . simp only[valOf,aG (show x.op≠50 by omega),aF q,hy,av,Option.getD_some];exact .const _ _ _ _ _ _ (hC y (aN hy))
  . obtain⟨j,hj⟩:=Option.isSome_iff_exists.1 hq;have e:valOf c (stAt c i) x=xw c j:=by simp[valOf,q,qvJ,hj]
    rw[e]at hsz |-;have:=(qv6 hj).1;exact ih j this (by omega) hsz
  . obtain⟨j,hj⟩:=Option.isSome_iff_exists.1 hq;have e:valOf c (stAt c i) x=xw c j:=by simp[valOf,q,qxK,hj]
    rw[e]at hsz |-;have:=(qv6 hj).1;exact ih j this (by omega) hsz
  .
   have e:valOf c (stAt c i) x=opr x.op ((reads x).map fun r=>((stAt c i).r r).getD zSn):=by simp[valOf,q1,q2,q3,q4]
   rw[e]at hsz |-;have hw:∀ s∈(reads x).map fun r=>((stAt c i).r r).getD zSn,s.wf:=by intro s hs;rw[List.mem_map]at hs;obtain⟨r,hr,rfl⟩:=hs;obtain⟨j,hj⟩:=Option.isSome_iff_exists.1 (q6 r hr);have:=(qv6 hj).1;rw[qvJ,hj];exact qxM hg j (by omega)
   have hne:sumF ((reads x).map fun r=>((stAt c i).r r).getD zSn) 1≠1025:=fun h=>by unfold opr at hsz;rw[aF h]at hsz;have:(1025:Int)<1025:=hsz;omega
   have hlt:=qA5 _ 1 (by omega) (by omega) hw hne;obtain⟨n1,n2,n3⟩:=qFw hk hg hgood hC q5;unfold opr;rw[aG hne];refine .op _ _ _ _ _ _ _ n1 n2 ?_ fun a ha=>?_
   . rcases q5 with q5|q5
     . exact .inl (by simp[reads,q5])
     . exact .inr (by simp[reads,q5,h52])
   . rw[List.mem_map]at ha;obtain⟨s,hs,rfl⟩:=ha;have hss:=hlt s hs;rw[List.mem_map]at hs;obtain⟨r,hr,rfl⟩:=hs;obtain⟨j,hj⟩:=Option.isSome_iff_exists.1 (q6 r hr);have:=(qv6 hj).1;rw[qvJ,hj]at hss |-;exact ih j this (by omega) hss
def asked (c:quY)(k:qEA):List Vl:=c.I.map fun x=>toV (qEI k x.op x.pos x.attr)
omit hk hg hgood hC in
theorem qFj (c:quY)(k:qEA):(c.I.map fun x=>vlR (toV (qEI k x.op x.pos x.attr)))=(asked c k).map vlR:=by simp[asked]
theorem qFE {i:Nat}{x:Ins4}{l m:Es}{a b:Int}(hx:c.L[i]? = some x)(hi:i+1<c.L.length)(hl:VrM k l (stAt c i).r)(hm:VrM k m (stAt c i).s)(hL:c.L.length<1073741824):
  ∃ l' m',VrM k l' (stAt c (i+1)).r/\VrM k m' (stAt c (i+1)).s/\∀ v,Goes qkA (.h1 ((asked c k).map vlR) c.regs c.slots c.Lr (c.L.length:Int) (i:Int) m' l' a b c.regs c.slots c.Ir c.Cr c.Lr) v ->
   Goes qkA (.h0 ((asked c k).map vlR) c.regs c.slots c.Lr (c.L.length:Int) (i:Int) m l a b c.regs c.slots c.Ir c.Cr c.Lr) v:=by
 have h52:=hg.no52 hx hi;have est:stAt c (i+1)=upd c (stAt c i) x:=by simp only[stAt,hx]
 have hok:=hg.ok i x hx;rw[est];have hdst:x.op≠53->0<=x.dst/\x.dst<c.regs:=by
  intro h53;simp only[okB,aD]at hok;have h:=hok.1;unfold qvB at h;by_cases h50:x.op=50
  . rw[aF h50]at h;simp only[aD,aY]at h;exact h.1
  by_cases h51:x.op=51
  . rw[aG h50,aF h51]at h;simp only[aD,aY]at h;exact h.1
  by_cases h54:x.op=54
  . rw[aG h50,aG h51,aG h53,aF h54]at h;simp only[aD,aY]at h;exact h.1
  rw[aG h50,aG h51,aG h53,aG h54,aG h52]at h;by_cases h1:nOps x.op=1
  . rw[aF h1]at h;simp only[aD,aY]at h;exact h.1
  . rw[aG h1]at h;simp only[aD,aY]at h;exact h.2.1
 have pre:∀ n,qkA n (itS qkA n) (.h0 ((asked c k).map vlR) c.regs c.slots c.Lr (c.L.length:Int) (i:Int) m l a b c.regs c.slots c.Ir c.Cr c.Lr)=qkA n (itS qkA n) (.h0 ((asked c k).map vlR) c.regs c.slots c.Lr (c.L.length:Int) (i:Int) m l a b c.regs c.slots c.Ir c.Cr c.Lr):=fun n=>rfl;rcases qvQ hok h52 with⟨q,y,y0,hy⟩|⟨q,y,y0,hy⟩|⟨q,hq⟩|⟨q,hq⟩|⟨q1,q2,q3,q4,q5,q6⟩
 .
  obtain⟨p,hp⟩:∃ p:Nat,x.a=p:=⟨x.a.toNat,by omega⟩
  rw[hp,Int.toNat_natCast]at hy;have ha:(asked c k)[p]? = some (toV (qEI k y.op y.pos y.attr)):=by unfold asked;rw[aI,hy];rfl
  have hcl:=qFg hk y.op y.pos y.attr;have hlf:=qE9 hk hg hgood hC y (aN hy);have e:valOf c (stAt c i) x=⟨inN y,1⟩:=by simp[valOf,q,hp,hy]
  obtain⟨l',p1,p2⟩:=hl.put x.dst (s:=⟨inN y,1⟩) (v:=toV (qEI k y.op y.pos y.attr)) hcl (fun _=>by show _=toV (evN k (inN y));rw[inN,evN,aG (by unfold qEF at hlf;omega),aF hlf]);have hd:=hdst (by omega);refine⟨l',m,(p2.eq ((by rw[<- e];exact(qx7 (by omega) h52 _ _).symm))),hm.eq (qx8 (by omega) _ _).symm,fun v hv=>?_⟩;refine Goes.alw ((qm6 x.op).and ((qoX ha hcl).and ((qj9 (b:=c.regs) hd.1 hd.2 p1).and hv))) fun n z=>?_;dsimp only at z;obtain⟨z1,z2,z3,z4⟩:=z;simp only[qkA,xe];rw[aF (by omega),Yi (qwc hx),qvs,z1];simp only[ae,zt,aG h52,aF q,hp,z2,tup2,z3];exact z4
 .
  obtain⟨p,hp⟩:∃ p:Nat,x.a=p:=⟨x.a.toNat,by omega⟩
  rw[hp,Int.toNat_natCast]at hy;have hcl:=qFV hk hg hgood hC y (aN hy);have e:valOf c (stAt c i) x=⟨vlN y,1⟩:=by simp[valOf,q,hp,hy]
  obtain⟨l',p1,p2⟩:=hl.put x.dst (s:=⟨vlN y,1⟩) (v:=y) hcl (fun _=>by show _=toV (evN k (vlN y));rw[vlN,evN,aF rfl,hcl.2];rfl);have hd:=hdst (by omega);refine⟨l',m,(p2.eq ((by rw[<- e];exact(qx7 (by omega) h52 _ _).symm))),hm.eq (qx8 (by omega) _ _).symm,fun v hv=>?_⟩;refine Goes.alw ((qm6 x.op).and ((qoX hy hcl).and ((qj9 (b:=c.regs) hd.1 hd.2 p1).and hv))) fun n z=>?_;dsimp only at z;obtain⟨z1,z2,z3,z4⟩:=z;have z2:g44 n c.Cr (p:Int)=_:=z2;simp only[qkA,xe];rw[aF (by omega),Yi (qwc hx),qvs,z1];simp only[ae,zt,aG h52,aG (show x.op≠50 by omega),aF q,hp,z2,tup2,z3];exact z4
 .
  obtain⟨s,hs⟩:=qDq hq;have e:valOf c (stAt c i) x=s:=by simp[valOf,q,hs]
  obtain⟨u,u1,u2,u3⟩:=hl.at_ _ _ hs;have hss:0<=x.a/\x.a<c.slots:=by simp only[okB,qvB,q,aD]at hok;simp at hok;exact hok.1.1.2
  obtain⟨m',p1,p2⟩:=hm.put x.a (s:=s) (v:=u) u2 u3;refine⟨l,m',hl.eq (qCU q _ _).symm,(p2.eq ((by rw[<- e];exact(qCT q _ _).symm))),fun v hv=>?_⟩;refine Goes.alw ((qm6 x.op).and ((qj9 (b:=c.slots) hss.1 hss.2 p1).and hv)) fun n z=>?_;dsimp only at z;obtain⟨z1,z3,z4⟩:=z;simp only[qkA,xe];rw[aF (by omega),Yi (qwc hx),qvs,z1];simp only[ae,zt,aG h52,aG (show x.op≠50 by omega),aG (show x.op≠51 by omega),aF q,find_ok hl.ok,u1,optC,qBG,z3];exact z4
 . obtain⟨s,hs⟩:=qEn hq;have e:valOf c (stAt c i) x=s:=by simp[valOf,q,hs]
   obtain⟨u,u1,u2,u3⟩:=hm.at_ _ _ hs;obtain⟨l',p1,p2⟩:=hl.put x.dst (s:=s) (v:=u) u2 u3;have hd:=hdst (by omega);refine⟨l',m,(p2.eq ((by rw[<- e];exact(qx7 (by omega) h52 _ _).symm))),hm.eq (qx8 (by omega) _ _).symm,fun v hv=>?_⟩;refine Goes.alw ((qm6 x.op).and ((qj9 (b:=c.regs) hd.1 hd.2 p1).and hv)) fun n z=>?_;dsimp only at z;obtain⟨z1,z3,z4⟩:=z;simp only[qkA,xe];rw[aF (by omega),Yi (qwc hx),qvs,z1];simp only[ae,zt,aG h52,aG (show x.op≠50 by omega),aG (show x.op≠51 by omega),aG (show x.op≠53 by omega),aF q,find_ok hm.ok,u1,optC,qBG,z3];exact z4
 .
  obtain⟨n1,n2,n3⟩:=qFw hk hg hgood hC q5;have e:valOf c (stAt c i) x=opr x.op ((reads x).map fun r=>((stAt c i).r r).getD zSn):=by simp[valOf,q1,q2,q3,q4]
  have hd:=hdst q3;have hval:∀ r∈reads x,∃ s u,(stAt c i).r r=some s/\lk l r=some (vlR u)/\Clv u/\(s.size<1025->u=toV (evN k s.n))/\s.wf:=fun r hr=>by
   obtain⟨j,hj⟩:=Option.isSome_iff_exists.1 (q6 r hr);have hs:(stAt c i).r r=some (xw c j):=by rw[qvJ,hj];rfl
   obtain⟨u,u1,u2,u3⟩:=hl.at_ _ _ hs;have:=(qv6 hj).1;exact⟨_,u,hs,u1,u2,u3,qxM hg j (by omega)⟩
  -- the operands' values
  have main:∀ us:List Vl,us.length=(reads x).length->(∀ v∈us,Clv v)->((opr x.op ((reads x).map fun r=>((stAt c i).r r).getD zSn)).size<1025->us=(reads x).map fun r=>toV (evN k (((stAt c i).r r).getD zSn).n)) ->
    ∃ l',VrM k l' (upd c (stAt c i) x).r/\Tot (fun n=>g43 n x.dst c.regs (apV x.op us).1 (apV x.op us).2 l) l'/\Tot (fun n=>g45 n x.op (us.map vlR)) (apV x.op us):=by
   intro us hlen hcl heq;have hl12:us.length=1\/us.length=2:=by
    rw[hlen];rcases q5 with q5|q5
    . exact .inl (by simp[reads,q5])
    . exact .inr (by simp[reads,q5,h52])
   obtain⟨a1,a2⟩:=qFP (op:=x.op) hl12 (fun v hv=>(hcl v hv).1);obtain⟨l',p1,p2⟩:=hl.put x.dst (s:=opr x.op ((reads x).map fun r=>((stAt c i).r r).getD zSn)) (v:=toV (apV x.op us)) a1 (fun hsz=>by
    have hne:sumF ((reads x).map fun r=>((stAt c i).r r).getD zSn) 1≠1025:=fun h=>by unfold opr at hsz;rw[aF h]at hsz;have:(1025:Int)<1025:=hsz;omega
    have he:=heq hsz;unfold opr;rw[aG hne];show _=toV (evN k (.mk x.op _ _ 0 0 0 0));rw[evN,aG n1,aG n2,qEN,he,List.map_map,List.map_map];rfl)
   exact⟨l',p2.eq (by rw[<- e];exact(qx7 q3 h52 _ _).symm),qj9 hd.1 hd.2 p1,a2⟩
  have hlt:(opr x.op ((reads x).map fun r=>((stAt c i).r r).getD zSn)).size<1025->∀ r∈reads x,(((stAt c i).r r).getD zSn).size<1025:=fun hsz r hr=>by
   have hne:sumF ((reads x).map fun r=>((stAt c i).r r).getD zSn) 1≠1025:=fun h=>by unfold opr at hsz;rw[aF h]at hsz;have:(1025:Int)<1025:=hsz;omega
   refine qA5 _ 1 (by omega) (by omega) (fun s hs=>?_) hne _ (List.mem_map.2 ⟨r,hr,rfl⟩);rw[List.mem_map]at hs;obtain⟨r',hr',rfl⟩:=hs;obtain⟨s,u,h1,_,_,_,h5⟩:=hval r' hr';rw[h1];exact h5
  rcases q5 with q5|q5
  .
   have er:reads x=[x.a]:=by simp[reads,q5]
   rw[er]at hval main hlt;obtain⟨s,u,h1,h2,h3,h4,h5⟩:=hval x.a (by simp);obtain⟨l',w1,w2,w3⟩:=main [u] rfl (fun v hv=>by simp at hv;subst hv;exact h3) (fun hsz=>by have:=hlt hsz x.a (by simp);rw[h1]at this;simp only[List.map_cons,List.map_nil,h1,Option.getD_some];rw[h4 this]);refine⟨l',m,w1,hm.eq (qx8 q3 _ _).symm,fun v hv=>?_⟩;refine Goes.alw ((qm6 x.op).and (w2.and (w3.and hv))) fun n z=>?_;dsimp only at z;obtain⟨z1,z2,z3,z4⟩:=z;simp only[qkA,xe];rw[aF (by omega),Yi (qwc hx),qvs,z1];simp only[ae,zt,aG h52,aG q1,aG q2,aG q3,aG q4,q5,find_ok hl.ok,h2,optC,qBG];have z3:g45 n x.op [vlR u]=_:=z3;rw[aF (show(1:Int)>0 by omega)];cases hb:lk l x.b with
   |none=>have o1:slOk 0 1 [vlR u,[ic 0,.val (.int .u64 0)]] 2=true:=rfl;simp only[optC];have z3:g45 n x.op (List.drop (Int.toNat 0) (List.take (Int.toNat 1) [[ic u.kind,.val (.int .u64 u.bits)],[ic 0,.val (.int .u64 0)]]))=some (apV x.op [u]):=z3;rw[show slOk 0 1 [[ic u.kind,.val (.int .u64 u.bits)],[ic 0,.val (.int .u64 0)]] 2=true from o1,z3];simp only[gd,ah,ae,tup2,z2];exact z4
   |some row=>obtain⟨w,rfl,hw⟩:=hl.row _ _ hb;have o1:slOk 0 1 [vlR u,vlR w] 2=true:=rfl;simp only[optC,qBG];have z3:g45 n x.op (List.drop (Int.toNat 0) (List.take (Int.toNat 1) [[ic u.kind,.val (.int .u64 u.bits)],[ic w.kind,.val (.int .u64 w.bits)]]))=some (apV x.op [u]):=z3;rw[show slOk 0 1 [[ic u.kind,.val (.int .u64 u.bits)],[ic w.kind,.val (.int .u64 w.bits)]] 2=true from o1,z3];simp only[gd,ah,ae,tup2,z2];exact z4
  .
   have er:reads x=[x.a,x.b]:=by simp[reads,q5,h52]
   rw[er]at hval main hlt;obtain⟨s,u,h1,h2,h3,h4,h5⟩:=hval x.a (by simp);obtain⟨s',u',h1',h2',h3',h4',h5'⟩:=hval x.b (by simp);obtain⟨l',w1,w2,w3⟩:=main [u,u'] rfl (fun v hv=>by
     simp only[List.mem_cons,List.not_mem_nil,or_false]at hv;rcases hv with rfl|rfl
     . exact h3
     . exact h3') (fun hsz=>by
    have t1:=hlt hsz x.a (by simp);have t2:=hlt hsz x.b (by simp);rw[h1]at t1;rw[h1']at t2;simp only[List.map_cons,List.map_nil,h1,h1',Option.getD_some];rw[h4 t1,h4' t2])
   refine⟨l',m,w1,hm.eq (qx8 q3 _ _).symm,fun v hv=>?_⟩;refine Goes.alw ((qm6 x.op).and (w2.and (w3.and hv))) fun n z=>?_;dsimp only at z;obtain⟨z1,z2,z3,z4⟩:=z;simp only[qkA,xe];rw[aF (by omega),Yi (qwc hx),qvs,z1];simp only[ae,zt,aG h52,aG q1,aG q2,aG q3,aG q4,q5,find_ok hl.ok,h2,h2',optC,qBG];have o1:slOk 0 2 [vlR u,vlR u'] 2=true:=rfl;have z3:g45 n x.op (List.drop (Int.toNat 0) (List.take (Int.toNat 2) [[ic u.kind,.val (.int .u64 u.bits)],[ic u'.kind,.val (.int .u64 u'.bits)]]))=some (apV x.op [u,u']):=z3;rw[aF (show(2:Int)>0 by omega),show slOk 0 2 [[ic u.kind,.val (.int .u64 u.bits)],[ic u'.kind,.val (.int .u64 u'.bits)]] 2=true from o1,z3];simp only[gd,ah,ae,tup2,z2];exact z4
theorem qF3 (hL:c.L.length<1073741824)(hsz:(told c).size<1025):Tot (fun n=>g14 n c.regs c.slots c.Ir c.Cr c.Lr ((asked c k).map vlR)) (evN k (told c).n):=by
 have hl:=hg.len;obtain⟨x,j,hx,h52,hj,ht,hjl⟩:=qxs hg;have hrx:(stAt c (c.L.length-1)).r x.a=some (told c):=by rw[qvJ,hj,av,ht]
 have loop:∀ (d i:Nat) {l m:Es} (a b:Int),i+d=c.L.length-1->VrM k l (stAt c i).r->VrM k m (stAt c i).s ->
   Goes qkA (.h0 ((asked c k).map vlR) c.regs c.slots c.Lr (c.L.length:Int) (i:Int) m l a b c.regs c.slots c.Ir c.Cr c.Lr) (evN k (told c).n):=by
  intro d
  induction d with
  |zero=>
   intro i l m a b hi hr hs;obtain rfl:i=c.L.length-1:=by omega
   obtain⟨u,u1,u2,u3⟩:=hr.at_ _ _ hrx;have u3:=u3 hsz;refine Goes.of1 (qm6 x.op) fun n q=>?_;simp only[qkA,xe];rw[aF (by omega),Yi (qwc hx),qvs,q];simp only[ae,zt,aF h52,find_ok hr.ok,u1,optC,qBG];rw[u3];rfl
  |succ d ih=>
   intro i l m a b hi hr hs;obtain⟨y,hy⟩:∃ y,c.L[i]? = some y:=⟨_,ax (by omega)⟩
   obtain⟨l',m',h1,h2,h3⟩:=qFE hk hg hgood hC (a:=a) (b:=b) hy (by omega) hr hs hL;refine h3 _ ((ih (i+1) a b (by omega) h1 h2).go fun n=>?_);simp only[qkA];rw[zq (by omega)]
 have hv:VrM k [] fun _=>none:=⟨fun p hp=>(by cases hp),fun j row h=>(by cases h),fun j s h=>(by cases h)⟩
 refine(loop (c.L.length-1) 0 0 0 (by omega) hv hv).go (s:=S14.e ..) fun n=>?_;have hb:c.regs<=1024/\c.slots<=256:=by simp only[qwV,aD,aY]at hgood;omega
 have ll:(c.Lr.length:Int)=c.L.length:=by simp[quY.Lr]
 simp only[qkA,ll];rw[aG (by omega),aG (by omega)];rfl
end
theorem qF7 {c:quY}{k:qEA}(hk:LkOk k)(hL:c.L.length<1073741824)(hC:∀ v∈c.C,0<=v.bits/\v.bits<18446744073709551616)(hc:c.C.length<1073741824)(hI:c.I.length<1073741823):
  Tot (fun n=>g5 n c.regs c.slots c.Ir c.Cr c.Lr k.Er k.Br k.cur) true:=by
 have h7:=qEk hL hC hc (by omega);by_cases hm:qwV c=true/\(told c).size≠1025
 .
  have hg:=Gd.of hm.1;obtain⟨x,j,_,_,_,ht,hjl⟩:=qxs hg;have hwf:(told c).wf:=by rw[ht];exact qxM hg j hjl
  have hsz:(told c).size<1025:=by have:=hwf.2.1;omega
  have hnd:NdOk (told c).n:=by have:=qF5 hk hg hm.1 hC j hjl (by rw[<- ht];exact hsz);rw[<- ht]at this;exact this
  have e7:qvr c=((told c).n.op,(told c).n.kind,xk (told c).n.args,(told c).n.vk,(told c).n.vb,(told c).n.pos,(told c).n.attr,true):=by unfold qvr;rw[aF hm]
  rw[e7]at h7;have h13:=qdP hk.ev;have h15:=qlY (c:=c) hk hI (qE9 hk hg hm.1 hC);rw[qFj]at h15;have h14:=qF3 hk hg hm.1 hC hL hsz;have h16:=(qnb hk _ hnd).2;have h0:∀ f,Goes Qq (.h0 k.Er (told c).n.op (told c).n.kind (xk (told c).n.args) (told c).n.vk (told c).n.vb (told c).n.pos (told c).n.attr f k.Br k.cur c.regs c.slots c.Ir c.Cr c.Lr) true:=fun f=>by refine Goes.of3 h15 h14 h16 fun n q1 q2 q3=>?_;have q3:g16 n (told c).n.op (told c).n.kind (xk (told c).n.args) (told c).n.vk (told c).n.vb (told c).n.pos (told c).n.attr k.Er k.Br k.cur=_:=q3;simp only[Qq,q1,ae,qEW,q2,tup2,q3,beq_self_eq_true,Bool.and_self]
  refine Goes.of3 (s:=S5.e ..) h7 h13 (h0 k.Er) fun n q1 q2 q3=>?_;have q2:g13 n k.Er=some k.Er:=q2;simp only[Qq,q1,ae,tup8,aj,af,q2];rw[show qG k.Er=k.Er from qFu k.E];exact q3
 . have e7:qvr c=(0,0,[],0,0,0,0,false):=by unfold qvr;rw[aG hm]
   rw[e7]at h7;refine Goes.of1 (s:=S5.e ..) h7 fun n q1=>?_;simp only[Qq,q1,ae,tup8,Bool.not_false,ah]
end
end Ab
end Go.Proofs.YtjnefcbeemkkeaaGreat

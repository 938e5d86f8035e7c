/-
  The interpreter is sound: regions whose order is drawn. No claim stands here.
-/
import Derived.Test.YtjnefcbeemkkeaaGreatECq
set_option linter.all false
namespace Go.Proofs.YtjnefcbeemkkeaaGreat
namespace E
section
variable {P:Program} {dp nt:Nat}
noncomputable def evv (P:Program)(dp:Nat)(F:T Value)(x:Operand):Value:=(ev P dp x).f F id
theorem qvA {β}(x F)(c:Value->β):(ev P dp x).f F c=c (evv P dp F x):=by
 unfold evv;cases x with
 |tmp t=>
  by_cases h:t<4 ^ dp
  . simp[ev,h,Nat.blt_eq]
  . simp[ev,h,Nat.blt_eq]
 |const v=>by_cases h:flat v=true<;>simp[ev,h]
 |global g=>rfl
 |func f=>rfl
def Agr (P:Program)(dp:Nat)(F G:T Value)(l:List Operand):Prop:=∀ x∈l,evv P dp F x=evv P dp G x
variable {F G:T Value}
theorem qwu {β}:∀ (l:List Operand) (c:List Value->β),Agr P dp F G l->evs P dp l F c=evs P dp l G c
 |[],c,_=>rfl
 |x::l,c,h=>by simp only[evs,qvA];rw[h x List.mem_cons_self];exact qwu l _ fun y hy=>h y (List.mem_cons_of_mem _ hy)
theorem qvN (place):∀ (ps:List (Nat×Operand)) (l:List Value) (c:List Value->QV),(∀ p∈ps,evv P dp F p.2=evv P dp G p.2)->(qwU P dp place ps).f F l c=(qwU P dp place ps).f G l c
 |[],l,c,_=>rfl
 |(i,x)::r,l,c,h=>by
  unfold qwU;split
  .
   simp only[qvA];rw[h (i,x) List.mem_cons_self];simp only[cellsF_eq,lenF_eq,bi_eq,layF_eq];split
   .
    split
    . split
      . exact qvN place r _ c fun p hp=>h p (List.mem_cons_of_mem _ hp)
      . rfl
    . rfl
   . rfl
  . rfl
theorem qw3 (b z c)(h:Agr P dp F G b.toList):(bound P dp b).f F z c=(bound P dp b).f G z c:=by
 cases b with
 |none=>rfl
 |some x=>simp only[bound,qvA];rw[h x (by simp)]
theorem qbw {op}(m)(h:Agr P dp F G op.operands.toList):(quiet P dp op).f F m=(quiet P dp op).f G m:=by
 unfold quiet;split
 all_goals simp only[Op.operands,Call.operands,Agr,Array.toList_append,List.mem_append,List.mem_cons,List.not_mem_nil,or_false,forall_eq_or_imp,forall_eq,or_imp,forall_and,Option.toList_toArray]at h
 case h_4 t ps=>
  unfold qya;split
  . rfl
  .
   have hp:∀ p∈ps.toList,evv P dp F p.2=evv P dp G p.2:=fun p hp=>h p.2 (by simp;exact⟨p.1,by simpa using hp⟩);split
   . simp only[bi_eq];split
     . exact qvN _ _ _ _ hp
     . rfl
   . simp only[bi_eq];split
     . exact qvN _ _ _ _ hp
     . rfl
   . rfl
 all_goals try (simp only[qvA];simp only[h];done)
 case h_11 f a b=>have h1:∀ (β:Type) (c:List Value->β),evs P dp a.toList F c=evs P dp a.toList G c:=fun β c=>qwu _ _ h.1;have h2:∀ (β:Type) (c:List Value->β),evs P dp b.toList F c=evs P dp b.toList G c:=fun β c=>qwu _ _ h.2;simp only[h1,h2]
 case h_12 t x lo hi=>
  have h1:∀ (z:Nat) (c:Nat->QV),(bound P dp lo).f F z c=(bound P dp lo).f G z c:=fun z c=>qw3 _ _ _ h.1.1.2;have h2:∀ (z:Nat) (c:Nat->QV),(bound P dp hi).f F z c=(bound P dp hi).f G z c:=fun z c=>qw3 _ _ _ h.1.2;have h0:=h.1.1.1;unfold qzH
  repeat' first|rfl|(simp only[qvA,h0,h1,h2];done)|(rw[bi_eq];split)|split
 all_goals (try unfold qBi);(try unfold ixQ);(try unfold qyl);(try unfold lenQ)
 all_goals repeat' first|rfl|(simp only[qvA,h];done)|(rw[bi_eq];split)|split
theorem qzV {op}(m)(h:Agr P dp F G op.operands.toList):(loud P dp op).f F m=(loud P dp op).f G m:=by
 unfold loud;split
 all_goals simp only[Op.operands,Call.operands,Agr,Array.toList_append,List.mem_append,List.mem_cons,List.not_mem_nil,or_false,false_or,forall_eq_or_imp,forall_eq,or_imp,forall_and,Option.toList_toArray]at h
 case h_3 t n ps=>
  have hp:∀ p∈ps.toList,evv P dp F p.2=evv P dp G p.2:=fun p hp=>h p.2 (by simp;exact⟨p.1,by simpa using hp⟩);split
  .
   rename_i e _;unfold bslQ;split
   . rfl
   . rw[bi_eq];split
     . rfl
     . have h1:∀ (pl:Nat->Option (Nat×Nat)) (l:List Value) (c:List Value->QV),(qwU P dp pl ps.toList).f F l c=(qwU P dp pl ps.toList).f G l c:=fun pl l c=>qvN pl _ _ _ hp;simp only[h1]
  . rfl
 all_goals repeat' first|rfl|(simp only[qvA,h];done)|(rw[bi_eq];split)|split
theorem qz1 {op}(rec m)(h:Agr P dp F G op.operands.toList):(recR P dp op).f rec F m=(recR P dp op).f rec G m:=by
 unfold recR;split
 .
  rename_i c;unfold qwr;split
  . rename_i g hg;have hc:Agr P dp F G c.args.toList:=fun x hx=>h x (by simp[Op.operands,Call.operands];exact .inr (by simpa using hx));have hgg:evv P dp F g=evv P dp G g:=h g (by simp[Op.operands,Call.operands,hg]);have h1:∀ (β:Type) (k:List Value->β),evs P dp c.args.toList F k=evs P dp c.args.toList G k:=fun β k=>qwu _ _ hc;simp only[qvA,hgg,h1]
  . rfl
 . rename_i x;have hx:evv P dp F x=evv P dp G x:=h x (by simp[Op.operands]);simp only[qvA,hx]
 . rfl
theorem qAN {op}(h:noM op=true)(m m'):(quiet P dp op).f F m=(quiet P dp op).f F m':=by
 unfold noM at h;split at h
 all_goals try cases h
 all_goals unfold quiet
 all_goals simp only
 all_goals (try unfold qya);(try unfold ixQ);(try unfold qyl)
 all_goals repeat' first|rfl|contradiction|(rw[bi_eq];split)|split
noncomputable def effB (P:Program)(dp:Nat)(rec:Rec)(o:Oper)(F:T Value)(m:M):Option (Value×M):=
 if isQ P o.op=true then(match (quiet P dp o.op).f F m with|.val v=>some (v,m)|.no _=>none)
 else if isR o.op=true then(match (recR P dp o.op).f rec F m with|.ret v m'=>some (v,m')|_=>none)
 else(match (loud P dp o.op).f F m with|.ret v m'=>some (v,m')|_=>none)
noncomputable def gVal (P:Program)(dp:Nat)(ops:List Oper)(F:T Value)(g:Nat×Bool):Value:=match (ops[g.1]?).bind (·.dst)with
 |some d=>evv P dp F (.tmp d)
 |none=>unk
noncomputable def eff (P:Program)(dp:Nat)(rec:Rec)(ops:List Oper)(o:Oper)(F:T Value)(m:M):Option (Value×M):=match o.guard with
 |none=>effB P dp rec o F m
 |some g=>match gVal P dp ops F g with
  |.bool t=>if t=g.2 then effB P dp rec o F m else some (undef,m)
  |.tuple _=>some (undef,m)
  |_=>none
def pF (dp nt:Nat)(d:Option Tmp)(v:Value)(F:T Value):T Value:=match d with
 |none=>F
 |some d=>if d<nt then T.put dp d v F else F
theorem qvy {β}(d v)(c:T Value->β):(putD dp nt d).f v F c=c (pF dp nt d v F):=by
 cases d with
 |none=>rfl
 |some d=>by_cases h:d<nt<;>simp[putD,pF,Nat.blt_eq,h]
variable {rec:Rec} {ops:List Oper} {o:Oper} {m m':M}
theorem qxl {v}(h:effB P dp rec o F m=some (v,m'))(k):(oper P dp nt o).f rec k F m=k (pF dp nt o.dst v F) m':=by
 unfold effB at h;unfold oper;rw[bi_eq];split at h
 .
  rename_i hq;rw[if_pos hq];simp only[qxj,qvy];split at h
  . rename_i v' hv;cases h;simp only[hv]
  . cases h
 .
  rename_i hq;rw[if_neg hq,bi_eq];split at h
  . rename_i hr;rw[if_pos hr];simp only[qvw,qvy];split at h
    . rename_i v' m1 hv;cases h;simp only[hv]
    . cases h
  . rename_i hr;rw[if_neg hr];simp only[qvw,qvy];split at h
    . rename_i v' m1 hv;cases h;simp only[hv]
    . cases h
theorem qyt (h:effB P dp rec o F m=none)(k F')(m'):(oper P dp nt o).f rec k F m≠.go .norm F' m':=by
 unfold effB at h;unfold oper;rw[bi_eq];split at h
 .
  rename_i hq;rw[if_pos hq];simp only[qxj,qvy];split at h
  . cases h
  . rename_i hv;simp[hv]
 .
  rename_i hq;rw[if_neg hq,bi_eq];split at h
  .
   rename_i hr;rw[if_pos hr];simp only[qvw,qvy];cases hc:(recR P dp o.op).f rec F m with
   |ret v m1=>simp[hc]at h
   |pan v m1=>simp
   |no w=>simp
  .
   rename_i hr;rw[if_neg hr];simp only[qvw,qvy];cases hc:(loud P dp o.op).f F m with
   |ret v m1=>simp[hc]at h
   |pan v m1=>simp
   |no w=>simp
theorem qvX (g)(c):(guardOf P dp ops g).f F c=c (gVal P dp ops F g):=by
 unfold guardOf gVal;cases hd:(ops[g.1]?).bind (·.dst)with
 |none=>rfl
 |some d=>exact qvA _ _ _
theorem qwA {v}(h:eff P dp rec ops o F m=some (v,m'))(k):(one1 P dp nt ops o).f rec k F m=k (pF dp nt o.dst v F) m':=by
 unfold eff at h;unfold one1;split at h
 . rename_i hg;simp only[hg];exact qxl h k
 .
  rename_i g hg;simp only[hg,qvX,qyX,qvy];split at h
  . rename_i t ht;simp only[ht];split at h
    . rename_i htg;rw[if_pos htg];exact qxl h k
    . rename_i htg;rw[if_neg htg];cases h;rfl
  . rename_i l ht;simp only[ht];cases h;rfl
  . cases h
theorem qwz (h:eff P dp rec ops o F m=none)(k F')(m'):(one1 P dp nt ops o).f rec k F m≠.go .norm F' m':=by
 unfold eff at h;unfold one1;split at h
 . rename_i hg;simp only[hg];exact qyt h k F' m'
 .
  rename_i g hg;simp only[hg,qvX,qyX,qvy];cases hv:gVal P dp ops F g with
  |bool t=>
   simp only[hv]at h;split at h
   . rename_i htg;simp only;rw[if_pos htg];exact qyt h k F' m'
   . cases h
  |tuple l=>simp[hv]at h
  |_=>simp
theorem qxL:∀ (l:List Operand) (t:Nat),.tmp t∈l->t∈tmpsOf l
 |[],t,h=>by cases h
 |x::l,t,h=>by
  rcases List.mem_cons.1 h with rfl|h2
  . exact List.mem_cons_self
  . have h3:=qxL l t h2;cases x with
    |tmp s=>exact List.mem_cons_of_mem _ h3
    |_=>exact h3
theorem qAp (t:Nat):evv P dp F (.tmp t)=if t<4 ^ dp then T.look undef dp t F else unk:=by unfold evv;by_cases h:t<4 ^ dp<;>simp[ev,h,Nat.blt_eq]
theorem qCZ (h:∀ t∈readsOf ops o,t<4 ^ dp->T.look undef dp t F=T.look undef dp t G):Agr P dp F G o.op.operands.toList/\∀ g,o.guard=some g->gVal P dp ops F g=gVal P dp ops G g:=by
 have tm:∀ t∈readsOf ops o,evv P dp F (.tmp t)=evv P dp G (.tmp t):=fun t ht=>by
  rw[qAp,qAp];split
  . rename_i hlt;exact h t ht hlt
  . rfl
 have sub:∀ t∈tmpsOf o.op.operands.toList,t∈readsOf ops o:=fun t ht=>by
  unfold readsOf;split
  . exact ht
  . split
    . exact List.mem_cons_of_mem _ ht
    . exact ht
 refine⟨fun x hx=>?_,fun g hg=>?_⟩
 .
  cases x with
  |tmp t=>exact tm t (sub t (qxL _ t hx))
  |const v=>unfold evv;by_cases h:flat v=true<;>simp[ev,h]
  |global g=>rfl
  |func f=>rfl
 .
  unfold gVal;split
  . rename_i d hd;refine tm d ?_;unfold readsOf;rw[hg];simp only[hd];exact List.mem_cons_self
  . rfl
theorem qvG (h:∀ t∈readsOf ops o,t<4 ^ dp->T.look undef dp t F=T.look undef dp t G)(m):eff P dp rec ops o F m=eff P dp rec ops o G m:=by
 obtain⟨h1,h2⟩:=qCZ (P:=P) h;have hb:effB P dp rec o F m=effB P dp rec o G m:=by unfold effB;rw[qbw m h1,qzV m h1,qz1 rec m h1]
 unfold eff;split
 . exact hb
 . rename_i g hg;rw[h2 g hg,hb]
end
end E
end Go.Proofs.YtjnefcbeemkkeaaGreat
namespace Go.Proofs.YtjnefcbeemkkeaaGreat
namespace E
section
variable {P:Program} {μ:Mu} {dp nt:Nat} {F:T Value} {a:Act} {w w':World} {m m':M}
theorem qAu {ops:Array Oper}{g v0}(h:∀ c:Value->Out,(guardOf P dp ops.toList g).f F c=c v0):gVal P dp ops.toList F g=v0:=by have h1:=h fun v=>.go (.pan v) F (.mk 0 .e);rw[qvX]at h1;cases h1;rfl
theorem qvu {D ro rec}(hrec:RecSound P rec){ops o}(h:St D P dp nt μ m w F m a w μ){v}(e:eff P dp rec ops.toList o F m=some (v,m')){K Q}(hK:∀ a1 w1 μ1,St D P dp nt μ m w (pF dp nt o.dst v F) m' a1 w1 μ1->a1=a.put o.dst (a1.tmps.getD (o.dst.getD 0) Go.undef)\/True->K a1 w1):
  if Region.wanted o (yielded ops a.tmps)then o.wpIn (FW ro) 0 P a w K Q else K (a.put o.dst Go.undef) w:=by
 have run:∀ e:effB P dp rec o F m=some (v,m'),o.wpIn (FW ro) 0 P a w K Q:=fun e=>qxF (k:=fun F m=>.go .norm F m) (x:=.norm) (F':=pF dp nt o.dst v F) (m':=m') hrec (qxl e _) h (fun F1 m1 a1 w1 μ1 h1 e1=>by cases e1;exact hK a1 w1 μ1 h1 (.inr trivial)) (fun e a' w' hx=>absurd rfl hx);have skip:∀ e:some (undef,m)=some (v,m'),K (a.put o.dst Go.undef) w:=fun e=>by cases e;obtain⟨F1,h1,h2⟩:=qxu h o.dst fun F=>F;rw[qvy]at h1;subst h1;exact hK _ w μ h2 (.inr trivial)
 unfold eff at e;split at e
 . rename_i hg;have hw:Region.wanted o (yielded ops a.tmps)=true:=by simp only[Region.wanted,hg]
   rw[if_pos hw];exact run e
 .
  rename_i g hg;obtain⟨v0,hv,hw⟩:=qwk (ops:=ops) (g:=g) h;obtain⟨hw1,hw2⟩:=hw o hg;rw[qAu hv]at e;split at e
  . rename_i t;have:=hw1 t rfl;split at e
    . rename_i htw;rw[if_pos (by rw[this,htw];simp)];exact run e
    . rename_i htw;rw[if_neg (by rw[this];simpa using htw)];exact skip e
  . rename_i l;rw[if_neg (by rw[hw2 l rfl];simp)];exact skip e
  . cases e
def AF (P:Program)(μ:Mu)(w:World)(s:Sem Next)(m:M)(v:Value)(m':M):Prop:=
 ∃ (ob:O) (f:Nat->Value),m.next<hdN/\v=f m.next/\m'=m.push ob/\∃ V w' x,s.run P w=.ok (.value V) w'/\x.b=w.heap.size/\w'.heap.size=w.heap.size+1/\(∀ b,b<w.heap.size->w'.heap[b]? = w.heap[b]?) /\
  (w'.os=w.os/\w'.output=w.output)/\(qxx P ob=true->x.o=0)/\∀ (id:Nat) (μ':Mu),Ext μ μ'->μ' id=some x->OR μ' w' id ob/\R μ' (f id) V
theorem AF.cells {s t l vs V}{f:Nat->Value}(hn:m.next<hdN)(run:s.run P w=.ok (.value V) (w.alloc (.cells vs t (0,0))))(hl:l.length<=vs.size)(h1:ones l)(hr:∀ (j:Nat) (v:Value),l[j]? = some v->∃ u,vs[j]? = some u/\R μ v u)(hV:∀ (id:Nat) (μ':Mu),μ' id=some ⟨w.heap.size,0,vs.size⟩->R μ' (f id) V):AF P μ w s m (f m.next) (m.push (.cells 0 t l)):=by refine⟨.cells 0 t l,f,hn,rfl,rfl,V,_,⟨w.heap.size,0,vs.size⟩,run,rfl,size_alloc _ _,fun b hb=>by rw[heap_alloc,if_neg (by omega)],⟨rfl,rfl⟩,fun _=>rfl,fun id μ' he hid=>⟨?_,hV id μ' hid⟩⟩;refine⟨⟨w.heap.size,0,vs.size⟩,vs,(0,0),hid,by rw[heap_alloc,if_pos rfl],.inl rfl,rfl,by simpa using hl,h1,fun j v e=>?_⟩;obtain⟨u,a1,a2⟩:=hr j v e;exact⟨u,by simpa using a1,a2.mono he⟩
theorem qw4 (hF:RF μ dp nt F a.tmps)(hG:Gl P μ){t n ps v}(e:(loud P dp (.buildSlice t n ps)).f F m=.ret v m')(dst ty pos after)(guard):
  AF P μ w (execOp a.eval ⟨dst,.buildSlice t n ps,ty,pos,after,guard⟩) m v m':=by
 unfold loud at e;simp only at e;split at e
 .
  rename_i el hel;have hu:P.underlying t=some (.slice el)/\okT P el=true:=by
   unfold qyh at hel;split at hel
   . rename_i e' hu;simp only[bi_eq]at hel;split at hel
     . rename_i hok;cases hel;exact⟨hu,hok⟩
     . cases hel
   . cases hel
  unfold bslQ at e;split at e
  . cases e
  rename_i z hz;obtain⟨z1,z2,_,zz,z3,z4⟩:=qyD hz;simp only[bi_eq,ve]at e;split at e
  . cases e
  rename_i hroom;have hroom:n*szT P el<=1048576:=by simpa [room]using hroom
  simp only[qwG]at e;split at e
  .
   rename_i v0 hv0;obtain⟨f1,f2⟩:=qwY (μ:=μ) z1 n;obtain⟨l',L',g1,g2,g3,g4,g5⟩:=qv4 hF hG ps.toList _ _ hv0 f1 f2;cases g4;simp only[qwx,natF_eq]at e;obtain⟨hn,rfl,rfl⟩:=qvf e;have hlen:l'.length=n*szT P el:=by rw[g5,List.length_flatten];simp[z2]
   have g2':RL μ l' (⟨L'⟩:Array Value).toList:=g2;refine AF.cells (f:=slV n (szT P el)) (V:=.slice (some ⟨w.heap.size,0,none⟩) n n) (vs:=⟨L'⟩) hn ?_ (by rw[g2'.size];exact Nat.le_refl _) g3 g2'.cell ?_
   .
    have h24:¬ (n*szT P el>2 ^ 24):=by omega
    have hf2:Instr.fill (fun i=>some (i*szT P el,szT P el)) ⟨(List.replicate n z).flatten⟩ (ps.toList.map fun x=>(x.1,a.eval x.2))=some ⟨L'⟩:=g1;have hps:(ps.map fun x=>(x.1,a.eval x.2)).toList=ps.toList.map fun x=>(x.1,a.eval x.2):=Array.toList_map;by_cases h0:n*szT P el=0
    . have hcells:(Array.range (n*szT P el)).map (fun i=>(#[]:Array Value)[i % (#[]:Array Value).size]!)=⟨(List.replicate n z).flatten⟩:=by
       apply Array.ext';have:(List.replicate n z).flatten=[]:=by apply List.length_eq_zero_iff.1;rw[List.length_flatten];simp[z2,h0]
       rw[this,h0];simp
      simp only[execOp,Instr.buildSlice,Sem.run_bind,run_underlying hu.1,Result.andThen_ok,run_sizeOf (quZ hu.2),h24,if_false,h0,if_true,Sem.run_pure,pure_bind];rw[h0]at hcells;rw[hcells,hps,hf2];simp[newRow]
    . have hcells:(Array.range (n*szT P el)).map (fun i=>zz.cells[i % zz.cells.size]!)=⟨(List.replicate n z).flatten⟩:=by
       apply Array.ext';have hsz:zz.cells.size=szT P el:=by rw[<- z2,<- z3];simp
       have hpos:0<szT P el:=Nat.pos_of_ne_zero fun h=>h0 (by rw[h];simp);rw[qf9 zz.cells (szT P el) n hsz hpos,z3]
      simp only[execOp,Instr.buildSlice,Sem.run_bind,run_underlying hu.1,Result.andThen_ok,run_sizeOf (quZ hu.2),h24,if_false,h0,z4,Sem.run_pure];rw[hcells,hps,hf2];simp[newRow]
   . intro id μ' hid;refine .sl id 0 n (szT P el) ⟨w.heap.size,0,L'.length⟩ n hid (Nat.le_refl _) ?_;have:=g2.1;simp;omega
  . cases e
 . cases e
theorem qCW (hF:RF μ dp nt F a.tmps)(hG:Gl P μ){op}(hA:isA op=true){v}(e:(loud P dp op).f F m=.ret v m')(dst ty pos after)(guard):
  AF P μ w (execOp a.eval ⟨dst,op,ty,pos,after,guard⟩) m v m':=by
 have e0:=e;unfold isA at hA;split at hA
 .
  rename_i t;unfold loud at e;simp only at e;split at e
  . rename_i z hz;obtain⟨z1,z2,_,zz,z3,z4⟩:=qyD hz;simp only[appF_eq,List.append_nil]at e;obtain⟨hn,rfl,rfl⟩:=qvf e;refine AF.cells (f:=ptV) (V:=.pointer (some ⟨w.heap.size,0,none⟩)) (vs:=zz.cells) hn ?_ (by rw[<- z3];simp) (qwE z1) (RL.cell (by rw[z3];exact qv8 z1)) fun id μ' hid=>.ptr id 0 ⟨w.heap.size,0,zz.cells.size⟩ hid;simp[execOp,Instr.alloc,z4,newVar,newRow]
  . cases e
 .
  rename_i t x;unfold loud at e;obtain⟨u,hu,hr⟩:=zf hF hG x;simp only[hu,cellsF_eq]at e;split at e
  . rename_i hok;obtain⟨hc,ho⟩:=hr.cells hok;obtain⟨hn,rfl,rfl⟩:=qvf e;refine AF.cells (f:=ptV) (V:=.pointer (some ⟨w.heap.size,0,none⟩)) (vs:=(a.eval x).cells) hn ?_ (by rw[hc.size];exact Nat.le_refl _) ho hc.cell fun id μ' hid=>.ptr id 0 ⟨w.heap.size,0,(a.eval x).cells.size⟩ hid;simp[execOp,Instr.box,newVar,newRow]
  . cases e
 . exact qw4 hF hG e0 ..
 . rename_i t;unfold loud at e;simp only at e;obtain⟨hn,rfl,rfl⟩:=qvf e;refine⟨.map [] 0,fun j=>.map (some j),hn,rfl,rfl,.map (some w.heap.size),w.alloc (.map #[] 0),⟨w.heap.size,0,0⟩,by simp[execOp,Instr.makeMap],rfl,size_alloc _ _,fun b hb=>by rw[heap_alloc,if_neg (by omega)],⟨rfl,rfl⟩,fun hr=>(by cases hr),fun id μ' he hid=>⟨?_,.map _ _ hid⟩⟩;exact⟨_,#[],hid,by rw[heap_alloc,if_pos rfl],rfl,by simp⟩
 . cases hA
theorem qCX {op}(hA:isA op=true){v}(e:(loud P dp op).f F m=.ret v m'):m.next<hdN/\∃ ob,m'=m.push ob:=by
 unfold isA at hA;split at hA
 .
  unfold loud at e;simp only at e;split at e
  . simp only[appF_eq,List.append_nil]at e;obtain⟨hn,_,rfl⟩:=qvf e;exact⟨hn,_,rfl⟩
  . cases e
 .
  unfold loud at e;simp only[qvA,cellsF_eq]at e;split at e
  . obtain⟨hn,_,rfl⟩:=qvf e;exact⟨hn,_,rfl⟩
  . cases e
 .
  unfold loud bslQ at e;simp only at e;split at e
  .
   split at e
   . cases e
   .
    rw[bi_eq]at e;split at e
    . cases e
    .
     simp only[qwG]at e;split at e
     . simp only[qwx,natF_eq]at e;split at e
       . obtain⟨hn,_,rfl⟩:=qvf e;exact⟨hn,_,rfl⟩
       . cases e
     . cases e
  . cases e
 . unfold loud at e;simp only at e;obtain⟨hn,_,rfl⟩:=qvf e;exact⟨hn,_,rfl⟩
 . cases hA
inductive Pu:M->M->Prop
 |refl (x:M):Pu x x
 |step (x y:M) (o:O) (h:Pu x y) (hn:y.next<hdN):Pu x (y.push o)
theorem Pu.trans {a b c}(h:Pu a b)(k:Pu b c):Pu a c:=by
 induction k with
 |refl=>exact h
 |step y o h' hn ih=>exact .step _ _ _ ih hn
theorem Hp.ghost (h:Hp P μ m w)(hn:m.next<hdN)(o):Hp P μ (m.push o) w/\Gn μ m w μ (m.push o) w:=by
 have at_:∀ i x,μ i=some x->(m.push o).at i=m.at i:=fun i x e=>by have:=h.idlt e;exact M.at_push_other m i o (Nat.lt_trans hn qwl) (h.idroom e) (by omega)
 refine⟨⟨fun i x e=>by rw[at_ i x e];exact h.obj i x e,fun i hi=>h.fresh i (by simp at hi;omega),by simp;omega,fun i x e hr=>by rw[at_ i x e]at hr;exact h.root i x e hr,h.lt,fun i j x y hne hi hj ei ej=>?_⟩,
  ⟨.refl μ,by simp,Nat.le_refl _,fun _ _ _=>rfl,fun i x hw e=>?_,⟨rfl,rfl⟩,fun _ _=>rfl⟩⟩
 . rw[at_ i x ei]at hi;rw[at_ j y ej]at hj;exact h.inj i j x y hne hi hj ei ej
 . rw[at_ i x e]at hw;exact .inl ⟨i,x,hw,e,rfl⟩
theorem Hp.ghosts (h:Hp P μ m w)(hp:Pu m m'):Hp P μ m' w/\Gn μ m w μ m' w:=by
 induction hp with
 |refl=>exact⟨h,.refl _ _ _⟩
 |step m' o _ hn ih=>obtain⟨h1,g1⟩:=ih;obtain⟨h2,g2⟩:=h1.ghost hn o;exact⟨h2,g1.trans g2⟩
theorem Hp.late (h:Hp P μ m w){i x ob}(hi:i<m.next)(hno:μ i=none)(hob:m.at i=ob)(hx:x.b=w.heap.size)(hsz:w'.heap.size=w.heap.size+1)(heap:∀ b,b<w.heap.size->w'.heap[b]? = w.heap[b]?)(ho:OR (μ.set i x) w' i ob)(out:w'.os=w.os/\w'.output=w.output)(hroot:qxx P ob=true->x.o=0):
  Hp P (μ.set i x) m w'/\Ext μ (μ.set i x)/\(∀ q,q≠i->(μ.set i x) q=μ q)/\w.heap.size<=w'.heap.size/\(∀ b,b<w.heap.size->w'.heap[b]? = w.heap[b]?):=by
 have hext:=Mu.set_ext x hno;refine⟨⟨fun q y e=>?_,fun q hq=>by rw[Mu.set_other μ x (by omega)];exact h.fresh q hq,h.room,fun q y e hr=>?_,fun q y e=>?_,fun p q y z hne hp hq ep eq=>?_⟩,hext,fun q hq=>Mu.set_other μ x hq,by omega,heap⟩
 .
  by_cases hq:q=i
  . subst hq;rw[hob];exact ho
  . rw[Mu.set_other μ x hq]at e;exact(h.obj q y e).mono hext fun z ez=>by rw[e]at ez;cases ez;exact heap y.b (h.lt q y e)
 .
  by_cases hq:q=i
  . subst hq;rw[Mu.set_same]at e;cases e;rw[hob]at hr;exact hroot hr
  . rw[Mu.set_other μ x hq]at e;exact h.root q y e hr
 .
  by_cases hq:q=i
  . subst hq;rw[Mu.set_same]at e;cases e;omega
  . rw[Mu.set_other μ x hq]at e;have:=h.lt q y e;omega
 .
  by_cases hpi:p=i
  . subst hpi;rw[Mu.set_same]at ep;cases ep;rw[Mu.set_other μ x (fun e=>hne e.symm)]at eq;have:=h.lt q z eq;omega
  . rw[Mu.set_other μ x hpi]at ep;by_cases hqi:q=i
    . subst hqi;rw[Mu.set_same]at eq;cases eq;have:=h.lt p y ep;omega
    . rw[Mu.set_other μ x hqi]at eq;exact h.inj p q y z hne hp hq ep eq
end
end E
end Go.Proofs.YtjnefcbeemkkeaaGreat
namespace Go.Proofs.YtjnefcbeemkkeaaGreat
namespace E
section
variable {P:Program} {dp nt:Nat} {rec:Rec} {ops:List Oper} {is:List Info}
def Tr (P:Program)(dp nt:Nat)(rec:Rec)(ops:List Oper)(is:List Info):List Nat->T Value->M->T Value->M->List M->List M->List (Nat×Nat×O)->Prop
 |[],F,m,Fn,mn,as,bs,ob=>Fn=F/\mn=m/\as=[]/\bs=[m]/\ob=[]
 | i::l,F,m,Fn,mn,as,bs,ob=>∃ o v m1 as' bs' ob',ops[i]? = some o/\eff P dp rec ops o F m=some (v,m1)/\Tr P dp nt rec ops is l (pF dp nt o.dst v F) m1 Fn mn as' bs' ob' /\
   ((at_ is i).k=3->as=m1::as'/\bs=m::bs')/\((at_ is i).k≠3->as=as'/\bs=bs')/\((at_ is i).k=2/\m.next≠m1.next->ob=(i,m.next,m1.at m.next)::ob')/\(¬ ((at_ is i).k=2/\m.next≠m1.next)->ob=ob')
theorem qxp:∀ (l:List Nat) (F:T Value) (m:M) (k:T Value->M->List M->List M->List (Nat×Nat×O)->Out) (F':T Value) (m':M),(runD P dp nt ops is l).f rec F m k=.go .norm F' m' ->
  ∃ Fn mn as bs ob,Tr P dp nt rec ops is l F m Fn mn as bs ob/\k Fn mn as bs ob=.go .norm F' m'
 |[],F,m,k,F',m',e=>⟨F,m,[],[m],[],⟨rfl,rfl,rfl,rfl,rfl⟩,e⟩
 |i::l,F,m,k,F',m',e=>by
  unfold runD at e;split at e
  . cases e
  .
   rename_i o ho;cases he:eff P dp rec ops o F m with
   |none=>
    exfalso;rw[bi_eq]at e;split at e
    . exact qwz he _ _ _ e
    . rw[bi_eq]at e;split at e
      . exact qwz he _ _ _ e
      . exact qwz he _ _ _ e
   |some y=>
    obtain⟨v,m1⟩:=y;rw[bi_eq]at e;split at e
    . rename_i h3;have h3:(at_ is i).k=3:=Nat.eq_of_beq_eq_true h3;simp only[qwA he]at e;obtain⟨Fn,mn,as,bs,ob,h1,h2⟩:=qxp l _ _ _ _ _ e;exact⟨Fn,mn,m1::as,m::bs,ob,⟨o,v,m1,as,bs,ob,ho,he,h1,fun _=>⟨rfl,rfl⟩,fun h=>absurd h3 h,fun h=>(by omega),fun _=>rfl⟩,h2⟩
    .
     rename_i h3;have h3:(at_ is i).k≠3:=fun h=>h3 (by rw[h];rfl);rw[bi_eq]at e;split at e
     . rename_i h4;have h4:(at_ is i).k=2:=Nat.eq_of_beq_eq_true h4;simp only[qwA he,bi_eq]at e;split at e
       . rename_i hn;have hn:m.next=m1.next:=Nat.eq_of_beq_eq_true hn;obtain⟨Fn,mn,as,bs,ob,h1,h2⟩:=qxp l _ _ _ _ _ e;exact⟨Fn,mn,as,bs,ob,⟨o,v,m1,as,bs,ob,ho,he,h1,fun h=>absurd h h3,fun _=>⟨rfl,rfl⟩,fun h=>absurd hn h.2,fun _=>rfl⟩,h2⟩
       . rename_i hn;have hn:m.next≠m1.next:=fun h=>hn (by rw[h];exact Nat.beq_refl _);simp only[M.get_eq,natF_eq]at e;obtain⟨Fn,mn,as,bs,ob,h1,h2⟩:=qxp l _ _ _ _ _ e;exact⟨Fn,mn,as,bs,(i,m.next,m1.at m.next)::ob,⟨o,v,m1,as,bs,ob,ho,he,h1,fun h=>absurd h h3,fun _=>⟨rfl,rfl⟩,fun _=>rfl,fun h=>absurd ⟨h4,hn⟩ h⟩,h2⟩
     . rename_i h4;have h4:(at_ is i).k≠2:=fun h=>h4 (by rw[h];rfl);simp only[qwA he]at e;obtain⟨Fn,mn,as,bs,ob,h1,h2⟩:=qxp l _ _ _ _ _ e;exact⟨Fn,mn,as,bs,ob,⟨o,v,m1,as,bs,ob,ho,he,h1,fun h=>absurd h h3,fun _=>⟨rfl,rfl⟩,fun h=>absurd h.1 h4,fun _=>rfl⟩,h2⟩
theorem at_eq (his:is=ops.map (QT P ops)){i o}(ho:ops[i]? = some o):at_ is i=QT P ops o:=by subst his;simp[at_,ho]
theorem qw0 {op}(h:kindOf P op<2):isQ P op=true:=by
 unfold kindOf at h;rw[bi_eq]at h;split at h
 . assumption
 . rw[bi_eq]at h;split at h<;>omega
theorem qBV {op}(h:kindOf P op=0):noM op=true:=by
 unfold kindOf at h;rw[bi_eq]at h;split at h
 .
  rw[bi_eq]at h;split at h
  . assumption
  . omega
 . rw[bi_eq]at h;split at h<;>omega
theorem qBW {op}(h:kindOf P op=2):isA op=true/\isQ P op≠true/\isR op≠true:=by
 unfold kindOf at h;rw[bi_eq]at h;split at h
 . rw[bi_eq]at h;split at h<;>omega
 .
  rename_i hq;rw[bi_eq]at h;split at h
  . rename_i hA;refine⟨hA,hq,fun hr=>?_⟩;cases op<;>first|(cases hr;done)|(cases hA;done)
  . omega
theorem qyg {o F m m1 v}(hq:isQ P o.op=true)(e:eff P dp rec ops o F m=some (v,m1)):m1=m:=by
 have hb:∀ {v m1},effB P dp rec o F m=some (v,m1)->m1=m:=by
  intro v m1 e;unfold effB at e;rw[if_pos hq]at e;split at e
  . cases e;rfl
  . cases e
 unfold eff at e;split at e
 . exact hb e
 .
  split at e
  . split at e
    . exact hb e
    . cases e;rfl
  . cases e;rfl
  . cases e
theorem qzl {o F m m1 v}(hq:isQ P o.op=true)(hn:noM o.op=true)(e:effB P dp rec o F m=some (v,m1))(m2):effB P dp rec o F m2=some (v,m2):=by
 unfold effB at e |-;rw[if_pos hq]at e |-;rw[qAN hn m2 m];cases hv:(quiet P dp o.op).f F m with
 |val u=>rw[hv]at e;cases e;rfl
 |no k=>rw[hv]at e;cases e
theorem qAm {o F m m1 v}(hq:isQ P o.op=true)(hn:noM o.op=true)(e:eff P dp rec ops o F m=some (v,m1))(m2):eff P dp rec ops o F m2=some (v,m2):=by
 unfold eff at e |-;cases hg:o.guard with
 |none=>rw[hg]at e;exact qzl hq hn e m2
 |some g=>
  rw[hg]at e;simp only at e |-;cases hv:gVal P dp ops F g with
  |bool t=>
   rw[hv]at e;simp only at e |-;split at e
   . rename_i htg;rw[if_pos htg];exact qzl hq hn e m2
   . rename_i htg;rw[if_neg htg];cases e;rfl
  |tuple l=>rw[hv]at e;cases e;rfl
  |_=>rw[hv]at e;cases e
theorem qAa {a b:Nat}(h:a≠b):Nat.beq a b=false:=by
 cases h1:Nat.beq a b with
 |false=>rfl
 |true=>exact absurd (Nat.eq_of_beq_eq_true h1) h
theorem qEe {o F m m1 v}(hA:isA o.op=true)(hq:isQ P o.op≠true)(hr:isR o.op≠true)(e:eff P dp rec ops o F m=some (v,m1)):m1=m\/(m.next<hdN/\∃ ob,m1=m.push ob):=by
 have hb:effB P dp rec o F m=some (v,m1)->(m.next<hdN/\∃ ob,m1=m.push ob):=by
  intro e;unfold effB at e;rw[if_neg hq,if_neg hr]at e;split at e
  . rename_i h;cases e;exact qCX hA h
  . cases e
 unfold eff at e;split at e
 . exact .inr (hb e)
 .
  split at e
  . split at e
    . exact .inr (hb e)
    . cases e;exact .inl rfl
  . cases e;exact .inl rfl
  . cases e
theorem Tr.pu1 {i}(his:is=ops.map (QT P ops)){o}(ho:ops[i]? = some o)(hk:(at_ is i).k≠3){F m m1 v}(e:eff P dp rec ops o F m=some (v,m1)):Pu m m1:=by
 rw[at_eq his ho]at hk;have hk:kindOf P o.op≠3:=hk;by_cases h2:kindOf P o.op=2
 .
  obtain⟨h3,h4,h5⟩:=qBW h2;rcases qEe h3 h4 h5 e with rfl|⟨hn,ob,rfl⟩
  . exact .refl _
  . exact .step _ _ _ (.refl _) hn
 .
  have:kindOf P o.op<2:=by
   have:kindOf P o.op<=3:=by unfold kindOf;simp only[bi_eq];split<;>split<;>omega
   omega
  rw[qyg (qw0 this) e];exact .refl _
theorem Tr.mem (his:is=ops.map (QT P ops)):∀ (l:List Nat) (F:T Value) (m:M) (Fn:T Value) (mn:M) (as bs:List M) (ob:List (Nat×Nat×O)),Tr P dp nt rec ops is l F m Fn mn as bs ob ->
  as.length=(louds is l).length/\bs.length=(louds is l).length+1/\bs[(louds is l).length]? = some mn/\(∃ m2,bs[0]? = some m2/\Pu m m2)/\∀ d ma,as[d]? = some ma->∃ mb,bs[d+1]? = some mb/\Pu ma mb
 |[],F,m,Fn,mn,as,bs,ob,h=>by obtain⟨rfl,rfl,rfl,rfl,rfl⟩:=h;exact⟨rfl,rfl,rfl,⟨_,rfl,.refl _⟩,fun d ma h=>by simp at h⟩
 |i::l,F,m,Fn,mn,as,bs,ob,h=>by
  obtain⟨o,v,m1,as',bs',ob',ho,he,ht,h3,hn3,_,_⟩:=h;obtain⟨t1,t2,t3,⟨m2,t4,t5⟩,t6⟩:=Tr.mem his l _ _ _ _ _ _ _ ht;by_cases hk:(at_ is i).k=3
  .
   obtain⟨rfl,rfl⟩:=h3 hk;have hl:(louds is (i::l)).length=(louds is l).length+1:=by simp[louds,hk]
   rw[hl];refine⟨by simp[t1],by simp[t2],by simpa using t3,⟨m,rfl,.refl _⟩,fun d ma h=>?_⟩;cases d with
   |zero=>simp at h;subst h;exact⟨m2,by simpa using t4,t5⟩
   |succ d=>obtain⟨mb,q1,q2⟩:=t6 d ma (by simpa using h);exact⟨mb,by simpa using q1,q2⟩
  . obtain⟨rfl,rfl⟩:=hn3 hk;have hl:(louds is (i::l)).length=(louds is l).length:=by have:(Nat.beq (at_ is i).k 3)=false:=qAa hk;simp[louds,this]
    rw[hl];exact⟨t1,t2,t3,⟨m2,t4,(Tr.pu1 his ho hk he).trans t5⟩,t6⟩
def Wrt (is:List Info)(nt i t:Nat):Prop:=(at_ is i).dst=some t/\t<nt
theorem qxY (hle:nt<=4 ^ dp){d:Option Tmp}{v F}{t:Nat}(ht:t<4 ^ dp)(h:¬ (d=some t/\t<nt)):T.look undef dp t (pF dp nt d v F)=T.look undef dp t F:=by
 cases d with
 |none=>rfl
 |some d=>
  unfold pF;simp only;split
  . rename_i hd;have hd4:=Nat.lt_of_lt_of_le hd hle;exact T.look_put_other _ _ _ _ _ _ ht hd4 fun e=>h ⟨by rw[e],by rw[e];exact hd⟩
  . rfl
theorem qy0 {d v F}(hd:d<nt):T.look undef dp d (pF dp nt (some d) v F)=v:=by unfold pF;simp only;rw[if_pos hd];exact T.look_put_same _ _ _ _ _
theorem Tr.look (hle:nt<=4 ^ dp)(his:is=ops.map (QT P ops)){t}(ht:t<4 ^ dp):∀ (l:List Nat) (F:T Value) (m:M) (Fn:T Value) (mn:M) (as bs:List M) (ob:List (Nat×Nat×O)),Tr P dp nt rec ops is l F m Fn mn as bs ob ->
  (∀ x∈l,¬ Wrt is nt x t)->T.look undef dp t Fn=T.look undef dp t F
 |[],F,m,Fn,mn,as,bs,ob,h,_=>by rw[h.1]
 |i::l,F,m,Fn,mn,as,bs,ob,h,hw=>by obtain⟨o,v,m1,as',bs',ob',ho,he,htr,_⟩:=h;rw[Tr.look hle his ht l _ _ _ _ _ _ _ htr fun x hx=>hw x (List.mem_cons_of_mem _ hx)];refine qxY hle ht fun h=>hw i List.mem_cons_self ?_;unfold Wrt;rw[at_eq his ho];exact h
theorem Tr.split (hle:nt<=4 ^ dp)(his:is=ops.map (QT P ops)){i s}:∀ (p:List Nat) (F:T Value) (m:M) (Fn:T Value) (mn:M) (as bs:List M) (ob:List (Nat×Nat×O)),Tr P dp nt rec ops is (p++i::s) F m Fn mn as bs ob ->
  ∃ o Fi mi v m1,ops[i]? = some o/\eff P dp rec ops o Fi mi=some (v,m1)/\(∀ t,t<4 ^ dp->(∀ x∈p,¬ Wrt is nt x t)->T.look undef dp t Fi=T.look undef dp t F) /\
   (∀ t,t<4 ^ dp->(∀ x∈i::s,¬ Wrt is nt x t)->T.look undef dp t Fn=T.look undef dp t Fi) /\
   (∀ d,o.dst=some d->d<nt->(∀ x∈s,¬ Wrt is nt x d)->T.look undef dp d Fn=v) /\
   ((at_ is i).k=3->bs[(louds is p).length]? = some mi/\as[(louds is p).length]? = some m1)/\((at_ is i).k=2->mi.next≠m1.next->(i,mi.next,m1.at mi.next)∈ob)
 |[],F,m,Fn,mn,as,bs,ob,h=>by
  obtain⟨o,v,m1,as',bs',ob',ho,he,htr,h3,_,h4,_⟩:=h;refine⟨o,F,m,v,m1,ho,he,fun _ _ _=>rfl,fun t ht hw=>?_,fun d hd hdn hw=>?_,fun hk=>?_,fun hk hn=>?_⟩
  . exact Tr.look hle his ht (i::s) F m Fn mn as bs ob ⟨o,v,m1,as',bs',ob',ho,he,htr,h3,by assumption,h4,by assumption⟩ hw
  . rw[Tr.look hle his (Nat.lt_of_lt_of_le hdn hle) s _ _ _ _ _ _ _ htr hw,hd];exact qy0 hdn
  . obtain⟨rfl,rfl⟩:=h3 hk;exact⟨rfl,rfl⟩
  . rw[h4 ⟨hk,hn⟩];exact List.mem_cons_self
 |x::p,F,m,Fn,mn,as,bs,ob,h=>by
  obtain⟨o,v,m1,as',bs',ob',ho,he,htr,h3,hn3,h4,hn4⟩:=h;obtain⟨o2,Fi,mi,v2,m2,a1,a2,a3,a4,a5,a6,a7⟩:=Tr.split hle his p _ _ _ _ _ _ _ htr;refine⟨o2,Fi,mi,v2,m2,a1,a2,fun t ht hw=>?_,a4,a5,fun hk=>?_,fun hk hn=>?_⟩
  . rw[a3 t ht fun y hy=>hw y (List.mem_cons_of_mem _ hy)];refine qxY hle ht fun h=>hw x List.mem_cons_self ?_;unfold Wrt;rw[at_eq his ho];exact h
  .
   obtain⟨b1,b2⟩:=a6 hk;by_cases hx:(at_ is x).k=3
   . obtain⟨rfl,rfl⟩:=h3 hx;have hl:(louds is (x::p)).length=(louds is p).length+1:=by simp[louds,hx]
     rw[hl];exact⟨by simpa using b1,by simpa using b2⟩
   . obtain⟨rfl,rfl⟩:=hn3 hx;have hl:(louds is (x::p)).length=(louds is p).length:=by have:(Nat.beq (at_ is x).k 3)=false:=qAa hx;simp[louds,this]
     rw[hl];exact⟨b1,b2⟩
  . have:=a7 hk hn;by_cases hx:(at_ is x).k=2/\m.next≠m1.next
    . rw[h4 hx];exact List.mem_cons_of_mem _ this
    . rw[hn4 hx];exact this
end
end E
end Go.Proofs.YtjnefcbeemkkeaaGreat
namespace Go.Proofs.YtjnefcbeemkkeaaGreat
namespace E
section
variable {P:Program} {dp nt:Nat} {rec:Rec} {ops:List Oper} {is:List Info} {befs:List Nat}
theorem qyS {n}:∀ {l:List Nat},inL n l=true↔n∈l
 |[]=>by simp[inL]
 |x::l=>by
  unfold inL;rw[bi_eq];by_cases h:x=n
  . subst h;simp
  . rw[qAa h];simp only[Bool.false_eq_true,if_false,qyS,List.mem_cons];exact⟨.inr,fun h1=>h1.resolve_left fun e=>h e.symm⟩
theorem qxd {d l}:inD d l=true↔∃ t,d=some t/\t∈l:=by
 cases d with
 |none=>simp[inD]
 |some d=>simp[inD,qyS]
theorem qu6 {x y}(h:qyu befs is x y=true):x≠y/\(∀ t,(at_ is x).dst=some t->(at_ is y).dst≠some t)/\(∀ t,(at_ is y).dst=some t->t∈(at_ is x).rd->bef befs y x=true/\(at_ is x).k≠1) /\
  (bef befs y x=true\/((∀ t,(at_ is x).dst=some t->t∉(at_ is y).rd)/\¬ ((at_ is x).k=3/\2<=(at_ is y).k))):=by
 unfold qyu at h;simp only[qu1,qxm,ve,Bool.and_eq_true,Bool.or_eq_true,Bool.not_eq_true']at h;obtain⟨h1,h2,h3,h4⟩:=h;refine⟨fun e=>?_,fun t hx hy=>?_,fun t hy ht=>?_,h4.imp id fun h4=>?_⟩
 . subst e;simp at h1
 . rw[hx,hy]at h2;simp[eqD]at h2
 .
  rcases h3 with h3|⟨h3,h3'⟩
  . have:inD (at_ is y).dst (at_ is x).rd=true:=qxd.2 ⟨t,hy,ht⟩;rw[this]at h3;cases h3
  . exact⟨h3,fun e=>by rw[e]at h3';cases h3'⟩
 .
  rw[Bool.or_eq_false_iff]at h4;refine⟨fun t hx ht=>?_,fun hk=>?_⟩
  . have:inD (at_ is x).dst (at_ is y).rd=true:=qxd.2 ⟨t,hx,ht⟩;rw[this]at h4;cases h4.1
  . have:(Nat.beq (at_ is x).k 3&&Nat.ble 2 (at_ is y).k)=true:=by simp[Nat.ble_eq,hk]
    rw[this]at h4;cases h4.2
theorem qzB {n}:∀ {l:List Nat},qAQ befs is n l=true->(∀ x∈l,x<n/\(∀ t,(at_ is x).dst=some t->t∈(at_ is x).rd->(at_ is x).k≠1))/\l.Pairwise fun x y=>qyu befs is x y=true
 |[],_=>⟨by simp,.nil⟩
 |x::l,h=>by
  unfold qAQ at h;simp only[qu1,ve,Bool.and_eq_true,Bool.not_eq_true',List.all_eq_true]at h;obtain⟨h1,h2,h3,h4⟩:=h;obtain⟨i1,i2⟩:=qzB h4;refine⟨fun y hy=>?_,.cons h3 i2⟩;rcases List.mem_cons.1 hy with rfl|hy
  . refine⟨by simpa [Nat.blt_eq]using h1,fun t hd ht hk=>?_⟩;have:(inD (at_ is y).dst (at_ is y).rd&&Nat.beq (at_ is y).k 1)=true:=by rw[qxd.2 ⟨t,hd,ht⟩,hk];rfl
    rw[this]at h2;cases h2
  . exact i1 y hy
theorem xn:∀ {l:List Oper} {j:Nat},vw j l=true->∀ (k:Nat) o,l[k]? = some o->∀ e∈o.after,Region.binds .any e=true->e.on<j+k
 |[],j,_,k,o,h=>by simp at h
 |x::l,j,h,k,o,ho=>by
  simp only[vw,qu1,qxm,ve,Bool.and_eq_true,List.all_eq_true,Bool.or_eq_true,Bool.not_eq_true']at h;intro e he hb;cases k with
  |zero=>
   simp only[List.getElem?_cons_zero,Option.some.injEq]at ho;subst ho;rcases h.1 e (by simpa using he)with h'|h'
   . rw[h']at hb;cases hb
   . simpa [Nat.blt_eq]using h'
  |succ k=>have:=xn h.2 k o (by simpa using ho) e he hb;omega
def Down (ops:List Oper)(S:Nat->Prop):Prop:=∀ (j:Nat) o,ops[j]? = some o->S j->∀ e∈o.after,Region.binds .any e=true->S e.on
theorem Qh {acc i}:∀ {l:List Edge},(befE acc l).testBit i=true->∃ e∈l,Region.binds .any e=true/\(e.on=i\/((acc[e.on]?).getD 0).testBit i=true)
 |[],h=>by simp[befE]at h
 |e::l,h=>by
  simp only[befE,bi_eq]at h;split at h
  .
   rename_i hb;have h:(2 ^ e.on ||| (((acc[e.on]?).getD 0) ||| befE acc l)).testBit i=true:=h;simp only[Nat.testBit_or,Bool.or_eq_true]at h;rcases h with h|h|h
   . refine⟨e,List.mem_cons_self,hb,.inl ?_⟩;rw[Nat.testBit_two_pow]at h;simpa using h
   . exact⟨e,List.mem_cons_self,hb,.inr h⟩
   . obtain⟨e',h1,h2⟩:=Qh h;exact⟨e',List.mem_cons_of_mem _ h1,h2⟩
  . obtain⟨e',h1,h2⟩:=Qh h;exact⟨e',List.mem_cons_of_mem _ h1,h2⟩
def Fed (ops:List Oper)(S:Nat->Prop)(j:Nat):Prop:=∀ o,ops[j]? = some o->∀ e∈o.after,Region.binds .any e=true->S e.on
theorem YD {all}:∀ (rest:List Oper) (acc:List Nat),(∀ k,rest[k]? = all[acc.length+k]?)->(∀ (j:Nat) m,acc[j]? = some m->∀ i,m.testBit i=true->∀ S,Down all S->Fed all S j->S i) ->
  ∀ (j:Nat) m,(befL rest acc)[j]? = some m->∀ i,m.testBit i=true->∀ S,Down all S->Fed all S j->S i
 |[],acc,_,h,j,l,e=>h j l e
 |o::rest,acc,hr,h,j,m,e=>by
  refine YD rest _ (fun k=>?_) (fun j m e i hi S hS hj=>?_) j m e
  . have:=hr (k+1);simp only[List.length_append,List.length_singleton];rw[show acc.length+1+k=acc.length+(k+1)by omega];simpa using this
  .
   by_cases hlt:j<acc.length
   . rw[List.getElem?_append_left hlt]at e;exact h j m e i hi S hS hj
   .
    rw[List.getElem?_append_right (by omega)]at e;have hj0:j=acc.length:=by have:=(List.getElem?_eq_some_iff.1 e).1;simp at this;omega
    subst hj0;simp only[Nat.sub_self,List.getElem?_cons_zero,Option.some.injEq]at e;subst e;obtain⟨ed,hm,hb,hi⟩:=Qh hi;have ho:all[acc.length]? = some o:=by have:=hr 0;simpa using this.symm
    have h1:=hj o ho ed (by simpa using hm) hb;rcases hi with rfl|hi
    . exact h1
    . cases ha:acc[ed.on]? with
      |none=>simp[ha]at hi
      |some m'=>simp only[ha,Option.getD_some]at hi;exact h ed.on m' ha i hi S hS fun o ho=>hS _ o ho h1
theorem qwg (hb:befs=befL ops []){i j}(h:bef befs j i=true):∀ S,Down ops S->Fed ops S j->S i:=by
 unfold bef at h;subst hb;cases hl:(befL ops [])[j]? with
 |none=>simp[hl]at h
 |some l=>simp only[hl,Option.getD_some]at h;exact fun S hS hSj=>YD ops [] (fun k=>by simp) (fun j l e=>by simp at e) j l hl i h S hS hSj
theorem qwq (hb:befs=befL ops []){i j}(h:bef befs j i=true):∀ S,Down ops S->S j->S i:=fun S hS hj=>qwg hb h S hS fun o ho=>hS j o ho hj
def Dn (ops:List Oper)(X:Option (Nat×Nat))(S:Nat->Prop):Prop:=Down ops S/\∀ p q,X=some (p,q)->S q->S p
structure qzN (ops:List Oper) (X:Option (Nat×Nat)) (befs:List Nat):Prop where
 snd:∀ {i j},bef befs j i=true->∀ S,Dn ops X S->S j->S i
 fed:∀ {i j},bef befs j i=true->∀ S,Down ops S->Fed ops S j->(∀ p,X=some (p,j)->S p)->S i
theorem qzN.plain (hb:befs=befL ops []):qzN ops none befs:=⟨fun h S hS hj=>qwq hb h S hS.1 hj,fun h S hS hf _=>qwg hb h S hS hf⟩
theorem qwf {p q j i}(h:bef (augB befs p q) j i=true):bef befs j i=true\/(j=q/\i=p):=by
 unfold bef augB at h;rw[List.getElem?_set]at h;split at h
 .
  rename_i hq;subst hq;split at h
  . simp only[Option.getD_some]at h;have h:(((befs[q]?).getD 0) ||| 2 ^ p).testBit i=true:=h;rw[Nat.testBit_or,Bool.or_eq_true]at h;rcases h with h|h
    . exact .inl h
    . rw[Nat.testBit_two_pow]at h;exact .inr ⟨rfl,by simpa using (of_decide_eq_true h).symm⟩
  . simp at h
 . exact .inl h
theorem qzN.aug {p q}(hb:befs=befL ops []):qzN ops (some (p,q)) (augB befs p q):=by
 refine⟨fun h S hS hj=>?_,fun h S hS hf hx=>?_⟩
 .
  rcases qwf h with h|⟨rfl,rfl⟩
  . exact qwq hb h S hS.1 hj
  . exact hS.2 _ _ rfl hj
 .
  rcases qwf h with h|⟨rfl,rfl⟩
  . exact qwg hb h S hS hf
  . exact hx _ rfl
theorem qBH (hb:befs=befL ops [])(he:vw 0 ops=true){i j}(h:bef befs j i=true):i<j:=
 qwg hb h (fun k=>k<j) (fun k o ho hk e hm hbd=>by
  have:=xn he k o ho e hm hbd;omega) fun o ho e hm hbd=>by
  have:=xn he j o ho e hm hbd;omega
theorem qwH {f}(hf:∀ a b,f a b=true->a=b):∀ {l m:List Value},allV f l m=true->l=m
 |[],[],_=>rfl
 |a::l,b::m,h=>by
  unfold allV at h;rw[bi_eq]at h;split at h
  . rename_i h1;rw[hf a b h1,qwH hf h]
  . cases h
 |[],_::_,h=>by cases h
 |_::_,[],h=>by cases h
theorem qA9:∀ {n:Nat} {a b:Value},veq n a b=true->a=b
 |0,a,b,h=>by cases h
 |n+1,a,b,h=>by
  have ih:∀ a b,veq n a b=true->a=b:=fun a b h=>qA9 h;unfold veq at h;split at h
  all_goals try simp only[bi_eq,ve]at h
  . rename_i a b;cases a<;>cases b<;>simp_all
  . split at h
    . rename_i hk;rw[qzm]at h;rw[qwP (Nat.eq_of_beq_eq_true hk),eq_of_beq h]
    . cases h
  . rename_i a b;rw[qyi]at h;have h1:=eq_of_beq h;have h2:a.data=b.data:=Array.toList_inj.1 h1;rw[show a=b from ByteArray.ext h2]
  . rfl
  . split at h
    . rename_i hk;rw[Nat.eq_of_beq_eq_true hk,Nat.eq_of_beq_eq_true h]
    . cases h
  . split at h
    . rename_i hk;rw[Nat.eq_of_beq_eq_true hk,Nat.eq_of_beq_eq_true h]
    . cases h
  .
   split at h
   .
    rename_i h1;split at h
    . rename_i h2;split at h
      . rename_i h3;rw[Nat.eq_of_beq_eq_true h1,Nat.eq_of_beq_eq_true h2,Nat.eq_of_beq_eq_true h3,Nat.eq_of_beq_eq_true h]
      . cases h
    . cases h
   . cases h
  . rfl
  . rw[Nat.eq_of_beq_eq_true h]
  . rfl
  . rfl
  .
   split at h
   . rename_i h1;split at h
     . rename_i h2;rw[Nat.eq_of_beq_eq_true h1,qwH ih h2,qwH ih h]
     . cases h
   . cases h
  . split at h
    . rename_i h1;rw[Nat.eq_of_beq_eq_true h1,ih _ _ h]
    . cases h
  . rw[qwH ih h]
  . rw[qwH ih h]
  . cases h
theorem qDv {a b}(h:oeq a b=true):a=b:=by
 unfold oeq at h;split at h
 .
  rename_i r t l r' t' l';simp only[bi_eq,qu1]at h;split at h
  . rename_i h1;rw[Bool.and_eq_true]at h1;split at h
    . rename_i h2;have:r=r':=(Nat.eq_of_beq_eq_true h1.1).trans (Nat.eq_of_beq_eq_true h1.2).symm;rw[this,Nat.eq_of_beq_eq_true h2,qwH (fun a b h=>qA9 h) h]
    . cases h
  . cases h
 . rw[Nat.eq_of_beq_eq_true h]
 . cases h
theorem qzE {a x}:∀ {l:List M},qAX a x l=true->∀ m∈l,a<m.next/\m.at a=x
 |[],_,m,hm=>by cases hm
 |y::l,h,m,hm=>by
  unfold qAX at h;simp only[bi_eq,M.get_eq]at h;split at h
  .
   rename_i h1;split at h
   . rename_i h2;rcases List.mem_cons.1 hm with rfl|hm
     . exact⟨by simpa [Nat.blt_eq]using h1,(qDv h2).symm⟩
     . exact qzE h m hm
   . cases h
  . cases h
theorem qzG {o F}:∀ {l:List M},qAY P dp nt ops o F rec l=true->∀ m∈l,∃ v m1,eff P dp rec ops o F m=some (v,m1)/\∀ d,o.dst=some d->d<nt->T.look undef dp d F=T.look undef dp d (pF dp nt o.dst v F)
 |[],_,m,hm=>by cases hm
 |y::l,h,m,hm=>by
  unfold qAY at h;rw[bi_eq]at h;have both:∀ c x:Bool,(if c=true then x else false)=true->c=true/\x=true:=by intro c x;cases c<;>simp
  obtain⟨h1,h2⟩:=both _ _ h;rcases List.mem_cons.1 hm with rfl|hm
  .
   cases he:eff P dp rec ops o F m with
   |none=>
    exfalso;cases hx:(one1 P dp nt ops o).f rec (fun F' m'=>Out.go .norm F' m') F m with
    |no w=>rw[hx]at h1;cases h1
    |go x F' m'=>
     rw[hx,qvd]at h1;cases x with
     |norm=>exact qwz he _ _ _ hx
     |_=>cases h1
   |some r=>
    obtain⟨v,m1⟩:=r;refine⟨v,m1,rfl,fun d hd hdn=>?_⟩;rw[qwA he,qvd]at h1;simp only[qxE,hd,bi_eq,T.get_eq]at h1;have hb:Nat.blt d nt=true:=by simpa [Nat.blt_eq]using hdn
    rw[if_pos hb]at h1;rw[hd];exact qA9 h1
  . exact qzG h2 m hm
theorem qzC {α lo hi j l}{x:α}(h:l[j]? = some x)(h1:lo<=j)(h2:j<=hi):x∈qzZ lo hi l:=by unfold qzZ;refine List.mem_of_getElem? (i:=j-lo) ?_;rw[List.getElem?_take,if_pos (by omega),List.getElem?_drop,show lo+(j-lo)=j by omega,h]
theorem qAj {p}:∀ {cs:List Nat} {j:Nat},(∀ d c,cs[d]? = some c->p c=true->d<j)->cnt p cs<=j
 |[],j,_=>Nat.zero_le _
 |x::l,j,h=>by
  unfold cnt;rw[bi_eq];have ih:=qAj (p:=p) (cs:=l) (j:=j-1) fun d c hc hp=>by have:=h (d+1) c (by simpa using hc) hp;omega
  split
  . rename_i hx;have:=h 0 x rfl hx;omega
  . omega
theorem qAi {p}:∀ {cs:List Nat} {j:Nat},j<=cs.length->(∀ d c,d<j->cs[d]? = some c->p c=true)->j<=cnt p cs
 |[],j,h,_=>h
 |x::l,j,hl,h=>by
  cases j with
  |zero=>exact Nat.zero_le _
  |succ j=>unfold cnt;rw[bi_eq,if_pos (h 0 x (by omega) rfl)];have:=qAi (p:=p) (cs:=l) (j:=j) (by simpa using hl) fun d c hd hc=>h (d+1) c (by omega) (by simpa using hc);omega
theorem qye {cs F bs}:∀ {l:List Nat},qyd P dp nt ops befs is cs rec F bs l=true->∀ i∈l,(at_ is i).k=1->∀ o,ops[i]? = some o->qAY P dp nt ops o F rec (qzZ (loOf befs cs i) (hiOf befs cs i) bs)=true
 |[],_,i,hi=>by cases hi
 |x::l,h,i,hi=>by
  unfold qyd at h;rw[qu1,Bool.and_eq_true,bi_eq]at h;rcases List.mem_cons.1 hi with rfl|hi
  . intro hk o ho;have h1:=h.1;rw[if_pos (by rw[hk];rfl)]at h1;simpa only[ho]using h1
  . exact qye h.2 i hi
theorem qws {cs as bs}:∀ {l:List (Nat×Nat×O)},qyf befs cs as bs l=true->∀ i a x,(i,a,x)∈l->∃ m,as[loOf befs cs i]? = some m/\m.next<=a/\qAX a x (qzZ (loOf befs cs i) (hiOf befs cs i) bs)=true
 |[],_,i,a,x,hi=>by cases hi
 |(i',a',x')::l,h,i,a,x,hi=>by
  unfold qyf at h;rw[qu1,Bool.and_eq_true]at h;rcases List.mem_cons.1 hi with he|hi
  . cases he;have h1:=h.1;split at h1
    . rename_i m hm;rw[qu1,Bool.and_eq_true]at h1;exact⟨m,hm,Nat.le_of_ble_eq_true h1.1,h1.2⟩
    . cases h1
  . exact qws h.2 i a x hi
theorem qxh {n}:∀ {l:List (Nat×Nat×O)},qyp n l=true->(∀ r∈l,n<=r.2.1)/\∀ r∈l,∀ r'∈l,r≠r'->r.2.1≠r'.2.1
 |[],_=>⟨by simp,by simp⟩
 |(i,a,x)::l,h=>by
  unfold qyp at h;simp only[qu1,ve,Bool.and_eq_true,List.all_eq_true,Bool.not_eq_true']at h;obtain⟨h1,h2,h3⟩:=h;obtain⟨i1,i2⟩:=qxh h3;refine⟨fun r hr=>?_,fun r hr r' hr' hne=>?_⟩
  . rcases List.mem_cons.1 hr with rfl|hr
    . exact Nat.le_of_ble_eq_true h1
    . exact i1 r hr
  .
   have no:∀ q∈l,a≠q.2.1:=fun q hq e=>by have:=h2 q hq;rw[e]at this;simp at this
   rcases List.mem_cons.1 hr with rfl|hr
   . rcases List.mem_cons.1 hr' with rfl|hr'
     . exact absurd rfl hne
     . exact no r' hr'
   . rcases List.mem_cons.1 hr' with rfl|hr'
     . exact fun e=>no r hr e.symm
     . exact i2 r hr r' hr' hne
end
end E
end Go.Proofs.YtjnefcbeemkkeaaGreat
namespace Go.Proofs.YtjnefcbeemkkeaaGreat
namespace E
section
variable {X:Option (Nat×Nat)} {D:List Deferred} {ro:Option Nat} {P:Program} {dp nt:Nat} {rec:Rec} {ops:Array Oper} {is:List Info} {befs ord:List Nat} {F0 Fn:T Value} {mr mn:M} {as bs:List M} {ob:List (Nat×Nat×O)} {μr:Mu} {wr:World}
structure Fac (X:Option (Nat×Nat)) (P:Program) (dp nt:Nat) (rec:Rec) (ops:Array Oper) (is:List Info) (befs ord:List Nat) (F0 Fn:T Value) (mr mn:M) (as bs:List M) (ob:List (Nat×Nat×O)):Prop where
 his:is=ops.toList.map (QT P ops.toList)
 hbef:qzN ops.toList X befs
 hle:nt<=4 ^ dp
 hlt:∀ x∈ord,x<ops.toList.length/\(∀ t,(at_ is x).dst=some t->t∈(at_ is x).rd->(at_ is x).k≠1)
 hpw:ord.Pairwise fun x y=>qyu befs is x y=true
 hall:∀ i,i<ops.size->i∈ord
 tr:Tr P dp nt rec ops.toList is ord F0 mr Fn mn as bs ob
 ids:qyp mr.next ob=true
 chkO:qyf befs (louds is ord) (mr::as) bs ob=true
 chkA:qyd P dp nt ops.toList befs is (louds is ord) rec Fn bs ord=true
structure Inv (D:List Deferred) (P:Program) (dp nt:Nat) (is:List Info) (befs ord:List Nat) (F0 Fn:T Value) (mr:M) (bs:List M) (ob:List (Nat×Nat×O)) (μr:Mu) (wr:World) (n:Nat) (S:Nat->Prop) (j:Nat) (F:T Value) (m:M) (a:Act) (w:World) (μ:Mu):Prop where
 inS:∀ x,S x->x<n
 jcs:∀ d c,(louds is ord)[d]? = some c->(S c↔d<j)
 mem:bs[j]? = some m
 lk1:∀ t,t<4 ^ dp->∀ i,S i->Wrt is nt i t->T.look undef dp t F=T.look undef dp t Fn
 lk0:∀ t,t<4 ^ dp->(∀ i,S i->¬ Wrt is nt i t)->T.look undef dp t F=T.look undef dp t F0
 gh:∀ i b x,(i,b,x)∈ob->¬ S i->loOf befs (louds is ord) i<=j->μ b=none
 hp:Hp P μ m w
 gn:Gn μr mr wr μ m w
 gl:Gl P μ
 rf:RF μ dp nt F a.tmps
 df:a.defers=D
structure Lk (dp nt:Nat) (is:List Info) (F0 Fn:T Value) (n:Nat) (S:Nat->Prop) (F:T Value):Prop where
 inS:∀ x,S x->x<n
 lk1:∀ t,t<4 ^ dp->∀ i,S i->Wrt is nt i t->T.look undef dp t F=T.look undef dp t Fn
 lk0:∀ t,t<4 ^ dp->(∀ i,S i->¬ Wrt is nt i t)->T.look undef dp t F=T.look undef dp t F0
theorem Inv.lk {n S j F m a w μ}(inv:Inv D P dp nt is befs ord F0 Fn mr bs ob μr wr n S j F m a w μ):Lk dp nt is F0 Fn n S F:=⟨inv.inS,inv.lk1,inv.lk0⟩
theorem Gn.late {μ m w w'}(h:Gn μr mr wr μ m w){i x}(hi:mr.next<=i)(hno:μ i=none)(hx:x.b=w.heap.size)(hsz:w'.heap.size=w.heap.size+1)(heap:∀ b,b<w.heap.size->w'.heap[b]? = w.heap[b]?)(out:w'.os=w.os/\w'.output=w.output):Gn μr mr wr (μ.set i x) m w' where
 ext:=h.ext.trans (Mu.set_ext x hno)
 next:=h.next
 size:=by have:=h.size;omega
 rest b hb hn:=by rw[heap b (Nat.lt_of_lt_of_le hb h.size)];exact h.rest b hb hn
 own q y hw e:=by
  by_cases hq:q=i
  . subst hq;rw[Mu.set_same]at e;cases e;have:=h.size;exact .inr (by omega)
  . rw[Mu.set_other μ x hq]at e;exact h.own q y hw e
 out:=⟨out.1.trans h.out.1,out.2.trans h.out.2⟩
 old q hq:=by rw[Mu.set_other μ x (by omega)];exact h.old q hq
section
variable (fac:Fac X P dp nt rec ops is befs ord F0 Fn mr mn as bs ob)
include fac
theorem Fac.dst_ne {p s i}(hsp:ord=p++i::s){x t}(hx:x∈ord)(hne:x≠i)(h:(at_ is i).dst=some t):(at_ is x).dst≠some t:=by
 have hpw:=fac.hpw;rw[hsp]at hpw hx;rcases List.mem_append.1 hx with hx|hx
 . intro hd;exact(qu6 ((List.pairwise_append.1 hpw).2.2 x hx i List.mem_cons_self)).2.1 t hd h
 .
  rcases List.mem_cons.1 hx with rfl|hx
  . exact absurd rfl hne
  . exact(qu6 ((List.pairwise_cons.1 (List.pairwise_append.1 hpw).2.1).1 x hx)).2.1 t h
theorem Fac.louds_len:bs.length=(louds is ord).length+1:=(Tr.mem fac.his _ _ _ _ _ _ _ _ fac.tr).2.1
variable {S:Nat->Prop} {j:Nat} {F:T Value} {m:M} {a:Act} {w:World} {μ:Mu}
theorem Fac.j_le (inv:Inv D P dp nt is befs ord F0 Fn mr bs ob μr wr ops.size S j F m a w μ):j<=(louds is ord).length:=by have h1:=(List.getElem?_eq_some_iff.1 inv.mem).1;have:=fac.louds_len;omega
theorem Fac.obj (inv:Inv D P dp nt is befs ord F0 Fn mr bs ob μr wr ops.size S j F m a w μ)(hdown:Dn ops.toList X S){i b x}(hm:(i,b,x)∈ob)(hnS:¬ S i)(hlo:loOf befs (louds is ord) i<=j):b<m.next/\m.at b=x:=by
 obtain⟨m0,_,_,h3⟩:=qws fac.chkO i b x hm;refine qzE h3 m (qzC inv.mem hlo (qAi (fac.j_le inv) fun d c hd hc=>?_));rw[ve];cases hb:bef befs c i with
 |false=>rfl
 |true=>exact absurd (fac.hbef.snd hb S hdown ((inv.jcs d c hc).2 hd)) hnS
theorem Fac.agree (inv:Lk dp nt is F0 Fn ops.size S F){p s i}(hsp:ord=p++i::s)(hnS:¬ S i)(hdn:∀ y,bef befs i y=true->(at_ is y).dst≠none->S y)(hup:∀ y,bef befs y i=true->(at_ is y).dst≠none->¬ S y){Fi}(a3:∀ t,t<4 ^ dp->(∀ x∈p,¬ Wrt is nt x t)->T.look undef dp t Fi=T.look undef dp t F0)(a4:∀ t,t<4 ^ dp->(∀ x∈i::s,¬ Wrt is nt x t)->T.look undef dp t Fn=T.look undef dp t Fi):
  ∀ t∈(at_ is i).rd,t<4 ^ dp->T.look undef dp t Fi=T.look undef dp t F:=by
 intro t ht ht4;have hpw:=fac.hpw;rw[hsp]at hpw;obtain⟨_,hp2,hp3⟩:=List.pairwise_append.1 hpw;have hp2':=(List.pairwise_cons.1 hp2).1;by_cases hy:∃ y,y∈p/\Wrt is nt y t
 . obtain⟨y,hyp,hw⟩:=hy;have hpair:=qu6 (hp3 y hyp i List.mem_cons_self);have hb:bef befs i y=true:=hpair.2.2.2.resolve_right fun h=>h.1 t hw.1 ht;rw[inv.lk1 t ht4 y (hdn y hb (by rw[hw.1];simp)) hw];refine(a4 t ht4 fun x hx hwx=>?_).symm;exact(qu6 (hp3 y hyp x hx)).2.1 t hw.1 hwx.1
 .
  have hyp:∀ x∈p,¬ Wrt is nt x t:=fun x hx hw=>hy ⟨x,hx,hw⟩;rw[a3 t ht4 hyp];refine(inv.lk0 t ht4 fun y hS hw=>?_).symm;have hyo:y∈ord:=fac.hall y (inv.inS y hS);rw[hsp]at hyo;rcases List.mem_append.1 hyo with h|h
  . exact hyp y h hw
  . rcases List.mem_cons.1 h with rfl|h
    . exact hnS hS
    . exact hup y ((qu6 (hp2' y h)).2.2.1 t hw.1 ht).1 (by rw[hw.1];simp) hS
theorem Fac.frame (inv:Lk dp nt is F0 Fn ops.size S F){p s i}(hsp:ord=p++i::s)(hnS:¬ S i){o}(ho:ops.toList[i]? = some o){v}(a5:∀ d,o.dst=some d->d<nt->(∀ x∈s,¬ Wrt is nt x d)->T.look undef dp d Fn=v):
  (∀ t,t<4 ^ dp->∀ x,(S x\/x=i)->Wrt is nt x t->T.look undef dp t (pF dp nt o.dst v F)=T.look undef dp t Fn) /\
  (∀ t,t<4 ^ dp->(∀ x,(S x\/x=i)->¬ Wrt is nt x t)->T.look undef dp t (pF dp nt o.dst v F)=T.look undef dp t F0):=by
 have hdst:(at_ is i).dst=o.dst:=by rw[at_eq fac.his ho];rfl
 refine⟨fun t ht x hx hw=>?_,fun t ht hw=>?_⟩
 .
  rcases hx with hx|rfl
  . rw[qxY fac.hle ht fun h=>?_]
    . exact inv.lk1 t ht x hx hw
    . exact fac.dst_ne hsp (fac.hall x (inv.inS x hx)) (fun e=>hnS (e▸hx)) (by rw[hdst];exact h.1) hw.1
  . have hd:o.dst=some t:=by rw[<- hdst];exact hw.1
    rw[hd,qy0 hw.2];refine(a5 t hd hw.2 fun y hy hwy=>?_).symm;have hpw:=fac.hpw;rw[hsp]at hpw;exact(qu6 ((List.pairwise_cons.1 (List.pairwise_append.1 hpw).2.1).1 y hy)).2.1 t hw.1 hwy.1
 . rw[qxY fac.hle ht fun h=>hw i (.inr rfl) ⟨by rw[hdst];exact h.1,h.2⟩];exact inv.lk0 t ht fun x hx=>hw x (.inl hx)
theorem Fac.step (hrec:RecSound P rec)(inv:Inv D P dp nt is befs ord F0 Fn mr bs ob μr wr ops.size S j F m a w μ)(hdown:Dn ops.toList X S){i o}(ho:ops[i]? = some o)(hnS:¬ S i)(hdn:∀ y,bef befs i y=true->S y){K Q}(hK:∀ j1 F1 m1 a1 w1 μ1,Inv D P dp nt is befs ord F0 Fn mr bs ob μr wr ops.size (fun x=>S x\/x=i) j1 F1 m1 a1 w1 μ1->K a1 w1):
  if Region.wanted o (yielded ops a.tmps)then o.wpIn (FW ro) 0 P a w K Q else K (a.put o.dst Go.undef) w:=by
 have hi:i<ops.size:=(Array.getElem?_eq_some_iff.1 ho).1;have ho':ops.toList[i]? = some o:=by rw[Array.getElem?_toList];exact ho
 have hup:∀ y,bef befs y i=true->¬ S y:=fun y hb hS=>hnS (fac.hbef.snd hb S hdown hS);obtain⟨p,s,hsp⟩:=List.append_of_mem (fac.hall i hi);have htr:=fac.tr;rw[hsp]at htr;obtain⟨o2,Fi,mi,v,m1,b1,b2,b3,b4,b5,b6,b7⟩:=Tr.split fac.hle fac.his p _ _ _ _ _ _ _ htr;rw[ho']at b1;cases b1;have hag:=fac.agree inv.lk hsp hnS (fun y h _=>hdn y h) (fun y h _=>hup y h) b3 b4;have hrd:(at_ is i).rd=readsOf ops.toList o:=by rw[at_eq fac.his ho'];rfl
 have hk:(at_ is i).k=kindOf P o.op:=by rw[at_eq fac.his ho'];rfl
 have hag':∀ t∈readsOf ops.toList o,t<4 ^ dp->T.look undef dp t Fi=T.look undef dp t F:=by rw[<- hrd];exact hag
 have eF:eff P dp rec ops.toList o F mi=some (v,m1):=by rw[<- qvG hag' mi];exact b2
 obtain⟨f1,f0⟩:=fac.frame inv.lk hsp hnS ho' b5;have inS':∀ x,(S x\/x=i)->x<ops.size:=fun x hx=>hx.elim (inv.inS x) fun e=>e▸hi;have mem3:∀ d c,(louds is ord)[d]? = some c->(at_ is c).k=3:=fun d c h=>by have:=List.mem_of_getElem? h;simp only[louds,List.mem_filter]at this;exact Nat.eq_of_beq_eq_true this.2
 have hk3:kindOf P o.op<=3:=by unfold kindOf;simp only[bi_eq];split<;>split<;>omega
 have st0:St D P dp nt μ m w F m a w μ:=⟨inv.hp,.refl _ _ _,inv.gl,inv.rf,inv.df⟩
 -- those that leave memory as it is
 have quietly:kindOf P o.op<2->eff P dp rec ops.toList o F m=some (v,m)->if Region.wanted o (yielded ops a.tmps)then o.wpIn (FW ro) 0 P a w K Q else K (a.put o.dst Go.undef) w:=by
  intro hk2 e;refine qvu hrec st0 e fun a1 w1 μ1 h1 _=>hK j _ m a1 w1 μ1 ⟨inS',fun d c hc=>?_,inv.mem,f1,f0,fun i' b' x' hm' hS' hlo=>?_,h1.hp,inv.gn.trans h1.gn,h1.gl,h1.rf,h1.df⟩
  . rw[<- inv.jcs d c hc];refine⟨fun h=>h.resolve_right fun e=>?_,.inl⟩;have:=mem3 d c hc;rw[e,hk]at this;omega
  . have hS2:¬ S i':=fun h=>hS' (.inl h);rw[h1.gn.old b' (fac.obj inv hdown hm' hS2 hlo).1];exact inv.gh i' b' x' hm' hS2 hlo
 rcases(by omega:kindOf P o.op=0\/kindOf P o.op=1\/kindOf P o.op=2\/kindOf P o.op=3)with h0|h0|h0|h0
 . have hq:=qw0 (P:=P) (op:=o.op) (by omega);exact quietly (by omega) (qAm hq (qBV h0) eF m)
 .
  -- it reads memory
  have hq:=qw0 (P:=P) (op:=o.op) (by omega);have hio:i∈ord:=fac.hall i hi;have hlo:loOf befs (louds is ord) i<=j:=qAj fun d c hc hb=>(inv.jcs d c hc).1 (hdn c hb);have hhi:j<=hiOf befs (louds is ord) i:=qAi (fac.j_le inv) fun d c hd hc=>by
   rw[ve];cases hb:bef befs c i with
   |false=>rfl
   |true=>exact absurd ((inv.jcs d c hc).2 hd) (hup c hb)
  obtain⟨v',m',c1,c2⟩:=qzG (qye fac.chkA i hio (by rw[hk];exact h0) o ho') m (qzC inv.mem hlo hhi);have hagn:∀ t∈readsOf ops.toList o,t<4 ^ dp->T.look undef dp t Fn=T.look undef dp t F:=by
   intro t ht ht4;rw[b4 t ht4 fun x hx hw=>?_,hag' t ht ht4];rw[<- hrd]at ht;rcases List.mem_cons.1 hx with rfl|hx
   . exact(fac.hlt x hio).2 t hw.1 ht (by rw[hk];exact h0)
   . have hpw:=fac.hpw;rw[hsp]at hpw;exact((qu6 ((List.pairwise_cons.1 (List.pairwise_append.1 hpw).2.1).1 x hx)).2.2.1 t hw.1 ht).2 (by rw[hk];exact h0)
  have c3:eff P dp rec ops.toList o F m=some (v',m'):=by rw[<- qvG hagn m];exact c1
  have c4:=qyg hq c3;subst c4;have c5:pF dp nt o.dst v' F=pF dp nt o.dst v F:=by
   cases hd:o.dst with
   |none=>rfl
   |some d=>
    unfold pF;simp only;by_cases hdn:d<nt
    . have h1:=c2 d hd hdn;rw[hd,qy0 hdn]at h1;have h2:=b5 d hd hdn fun y hy hwy=>by have hpw:=fac.hpw;rw[hsp]at hpw;exact(qu6 ((List.pairwise_cons.1 (List.pairwise_append.1 hpw).2.1).1 y hy)).2.1 d (by rw[at_eq fac.his ho'];exact hd) hwy.1
      rw[<- h1,h2]
    . rw[if_neg hdn,if_neg hdn]
  refine qvu hrec st0 c3 fun a1 w1 μ1 h1 _=>hK j _ m' a1 w1 μ1 ⟨inS',fun d c hc=>?_,inv.mem,by rw[c5];exact f1,by rw[c5];exact f0,fun i' b' x' hm' hS' hlo=>?_,h1.hp,inv.gn.trans h1.gn,h1.gl,h1.rf,h1.df⟩
  . rw[<- inv.jcs d c hc];refine⟨fun h=>h.resolve_right fun e=>?_,.inl⟩;have:=mem3 d c hc;rw[e,hk]at this;omega
  . have hS2:¬ S i':=fun h=>hS' (.inl h);rw[h1.gn.old b' (fac.obj inv hdown hm' hS2 hlo).1];exact inv.gh i' b' x' hm' hS2 hlo
 .
  -- an object is made
  obtain⟨hA,hq,hr⟩:=qBW h0;have hlo:loOf befs (louds is ord) i<=j:=qAj fun d c hc hb=>(inv.jcs d c hc).1 (hdn c hb);have jcs':∀ d c,(louds is ord)[d]? = some c->((S c\/c=i)↔d<j):=fun d c hc=>by rw[<- inv.jcs d c hc];refine⟨fun h=>h.resolve_right fun e=>?_,.inl⟩;have:=mem3 d c hc;rw[e,hk]at this;omega
  have skip:some (undef,mi)=some (v,m1)->K (a.put o.dst Go.undef) w:=by intro e;cases e;obtain⟨F1,h1,h2⟩:=qxu st0 o.dst fun F=>F;rw[qvy]at h1;subst h1;exact hK j _ m _ w μ ⟨inS',jcs',inv.mem,f1,f0,fun i' b' x' hm' hS' hlo=>inv.gh i' b' x' hm' (fun h=>hS' (.inl h)) hlo,inv.hp,inv.gn,inv.gl,h2.rf,h2.df⟩
  have run:effB P dp rec o F mi=some (v,m1)->o.wpIn (FW ro) 0 P a w K Q:=by
   intro e;unfold effB at e;rw[if_neg hq,if_neg hr]at e;split at e
   case h_2=>cases e
   rename_i v0 m0 hl;cases e;obtain⟨obj,f,hn,rfl,rfl,V,w',x,r1,x1,x2,x3,x4,x5,x6⟩:=qCW (w:=w) inv.rf inv.gl hA hl o.dst o.type o.pos o.after o.guard;refine⟨fun _ _=>trivial,?_⟩;rw[Oper.semAt_eq _ _ _ fun c hc=>by rw[hc]at hA;cases hA];have r1':(execOp a.eval o).run P w=.ok (.value V) w':=r1;rw[r1'];show K (a.put o.dst V) w';have hrec':=b7 (by rw[hk];exact h0) (by simp);rw[M.at_push_same]at hrec';obtain⟨g1,g2⟩:=fac.obj inv hdown hrec' hnS hlo;have g3:=inv.gh i _ _ hrec' hnS hlo;have g4:mr.next<=mi.next:=(qxh fac.ids).1 _ hrec';obtain⟨k1,k2⟩:=x6 mi.next (μ.set mi.next x) (Mu.set_ext x g3) (Mu.set_same _ _ _);obtain⟨l1,l2,l3,_⟩:=inv.hp.late g1 g3 g2 x1 x2 x3 k1 x4 x5;obtain⟨F1,h1,h2⟩:=(inv.rf.mono l2).put k2 o.dst fun F=>F;rw[qvy]at h1;subst h1;refine hK j _ m _ w' (μ.set mi.next x) ⟨inS',jcs',inv.mem,f1,f0,fun i' b' x' hm' hS' hlo'=>?_,l1,inv.gn.late g4 g3 x1 x2 x3 x4,inv.gl.mono l2,h2,by rw[put_defers];exact inv.df⟩;have hne:b'≠mi.next:=(qxh fac.ids).2 _ hm' _ hrec' fun e=>hS' (.inr (by cases e;rfl));rw[Mu.set_other μ x hne];exact inv.gh i' b' x' hm' (fun h=>hS' (.inl h)) hlo'
  unfold eff at eF;split at eF
  . rename_i hg;have hw:Region.wanted o (yielded ops a.tmps)=true:=by simp only[Region.wanted,hg]
    rw[if_pos hw];exact run eF
  .
   rename_i g hg;obtain⟨v0,hv,hw⟩:=qwk (ops:=ops) (g:=g) st0;obtain⟨hw1,hw2⟩:=hw o hg;rw[qAu hv]at eF;split at eF
   . rename_i t;have:=hw1 t rfl;split at eF
     . rename_i htw;rw[if_pos (by rw[this,htw];simp)];exact run eF
     . rename_i htw;rw[if_neg (by rw[this];simpa using htw)];exact skip eF
   . rename_i l;rw[if_neg (by rw[hw2 l rfl];simp)];exact skip eF
   . cases eF
 .
  -- it is loud
  have hlp:louds is ord=louds is p++i::louds is s:=by rw[hsp];simp[louds,hk,h0]
  obtain⟨d1,d2⟩:=b6 (by rw[hk];exact h0);have hpw:=fac.hpw;rw[hsp]at hpw;obtain⟨_,hp2,hp3⟩:=List.pairwise_append.1 hpw;have hj:j=(louds is p).length:=by
   have hci:(louds is ord)[(louds is p).length]? = some i:=by rw[hlp];simp
   have h1:¬ (louds is p).length<j:=fun h=>hnS ((inv.jcs _ _ hci).2 h);by_cases h2:j<(louds is p).length
   . exfalso;obtain⟨c,hc⟩:∃ c,(louds is p)[j]? = some c:=⟨_,List.getElem?_eq_getElem h2⟩
     have hc':(louds is ord)[j]? = some c:=by rw[hlp,List.getElem?_append_left h2];exact hc
     have hcp:c∈p:=(List.mem_filter.1 (List.mem_of_getElem? hc)).1;have hb:bef befs i c=true:=(qu6 (hp3 c hcp i List.mem_cons_self)).2.2.2.resolve_right fun h=>h.2 ⟨mem3 _ _ hc',by rw[hk];omega⟩;have:=(inv.jcs j c hc').1 (hdn c hb);omega
   . omega
  have hm:m=mi:=by have h1:=inv.mem;rw[hj,d1]at h1;exact(Option.some.inj h1).symm
  subst hm;obtain⟨mb,q1,q2⟩:=(Tr.mem fac.his _ _ _ _ _ _ _ _ fac.tr).2.2.2.2 _ _ d2;refine qvu hrec st0 eF fun a1 w1 μ1 h1 _=>?_;obtain⟨g1,g2⟩:=h1.hp.ghosts q2;refine hK (j+1) _ mb a1 w1 μ1 ⟨inS',fun d c hc=>?_,by rw[hj];exact q1,f1,f0,fun i' b' x' hm' hS' hlo=>?_,g1,(inv.gn.trans h1.gn).trans g2,h1.gl,h1.rf,h1.df⟩
  .
   have hi':=inv.jcs d c hc;constructor
   .
    rintro (h|rfl)
    . have:=hi'.1 h;omega
    .
     by_cases hd:d<(louds is p).length
     . rw[hlp,List.getElem?_append_left hd]at hc;have hcp:c∈p:=(List.mem_filter.1 (List.mem_of_getElem? hc)).1;exact absurd rfl (qu6 (hp3 c hcp c List.mem_cons_self)).1
     . rw[hlp,List.getElem?_append_right (by omega)]at hc;by_cases hd2:d-(louds is p).length=0
       . omega
       . obtain⟨e,he⟩:∃ e,d-(louds is p).length=e+1:=⟨_,(Nat.succ_pred hd2).symm⟩
         rw[he,List.getElem?_cons_succ]at hc;have hcs:c∈s:=(List.mem_filter.1 (List.mem_of_getElem? hc)).1;exact absurd rfl (qu6 ((List.pairwise_cons.1 hp2).1 c hcs)).1
   .
    intro hd;by_cases hd2:d<j
    . exact .inl (hi'.2 hd2)
    . have:d=(louds is p).length:=by omega
      subst this;rw[hlp]at hc;simp at hc;exact .inr hc.symm
  .
   have hS2:¬ S i':=fun h=>hS' (.inl h);by_cases hl2:loOf befs (louds is ord) i'<=j
   . rw[h1.gn.old b' (fac.obj inv hdown hm' hS2 hl2).1];exact inv.gh i' b' x' hm' hS2 hl2
   . obtain⟨m0,e1,e2,_⟩:=qws fac.chkO i' b' x' hm';have hlo2:loOf befs (louds is ord) i'=(louds is p).length+1:=by omega
     rw[hlo2,List.getElem?_cons_succ,d2]at e1;cases e1;exact h1.hp.fresh b' e2
end
theorem qyE {Q}{I:(Nat->Prop)->Act->World->Prop}(hed:∀ (k:Nat) o,ops[k]? = some o->∀ e∈o.after,Region.binds .any e=true->e.on<k)(hQ:∀ S a w,I S a w->(∀ i,i<ops.size->S i)->Q .normal a w)(hstep:∀ S a w i o,I S a w->Down ops.toList S->(∀ x,S x->x<ops.size)->ops[i]? = some o->¬ S i->(∀ e∈o.after,Region.binds .any e=true->S e.on)->∀ K:Act->World->Prop,(∀ a1 w1,I (fun x=>S x\/x=i) a1 w1->K a1 w1) ->
   if Region.wanted o (yielded ops a.tmps)then o.wpIn (FW ro) 0 P a w K Q else K (a.put o.dst Go.undef) w):
  ∀ (fuel:Nat) (listed:Array Bool) (c:List Nat) (a:Act) (w:World),c.length=fuel->(∀ i,i∈c↔i<ops.size/\listed.getD i true=false)->listed.size=ops.size ->
   c.Pairwise (· < ·)->Down ops.toList (fun i=>i<ops.size/\listed.getD i true=true)->I (fun i=>i<ops.size/\listed.getD i true=true) a w ->
   wpAnyIn (FW ro) 0 P .any ops Q fuel listed a w
 |0,listed,c,a,w,hl,hm,hs,_,_,inv=>by
  have hc:c=[]:=List.length_eq_zero_iff.1 hl;subst hc;have all:∀ i,i<ops.size->listed.getD i true=true:=fun i hi=>by have:=hm i;simp only[List.not_mem_nil,false_iff,not_and,Bool.not_eq_false]at this;exact this hi
  refine⟨?_,hQ _ _ _ inv fun i hi=>⟨hi,all i hi⟩⟩;unfold Region.ready;rw[List.filter_eq_nil_iff];intro i hi;rw[all i (by simpa using hi)];simp
 |fuel+1,listed,c,a,w,hl,hm,hs,hp,hdn,inv=>by
  have rdy:∀ i,i∈Region.ready .any ops listed↔i<ops.size/\listed.getD i true=false/\∃ o,ops[i]? = some o/\∀ e∈o.after,Region.binds .any e=true->listed.getD e.on false=true:=by
   intro i;unfold Region.ready;simp only[List.mem_filter,List.mem_range,Bool.and_eq_true,Bool.not_eq_true'];constructor
   . rintro ⟨h1,h2,h3⟩
     cases ho:ops[i]? with
     |none=>simp[ho]at h3
     |some o=>simp only[ho,Option.map_some,Option.getD_some,Array.all_eq_true_iff_forall_mem,Bool.or_eq_true,Bool.not_eq_true']at h3;exact⟨h1,h2,o,rfl,fun e he hb=>(h3 e he).resolve_left (by rw[hb];simp)⟩
   . rintro ⟨h1,h2,o,ho,h3⟩
     refine⟨h1,h2,?_⟩;simp only[ho,Option.map_some,Option.getD_some,Array.all_eq_true_iff_forall_mem,Bool.or_eq_true,Bool.not_eq_true'];intro e he;cases hb:Region.binds .any e with
     |false=>exact .inl rfl
     |true=>exact .inr (h3 e he hb)
  refine⟨fun hnil=>?_,fun i hi=>?_⟩
  .
   exfalso;cases c with
   |nil=>simp at hl
   |cons m c=>
    have hmm:=(hm m).1 List.mem_cons_self;have ho:ops[m]? = some (ops[m]'hmm.1):=Array.getElem?_eq_getElem hmm.1;have:m∈Region.ready .any ops listed:=(rdy m).2 ⟨hmm.1,hmm.2,_,ho,fun e he hb=>by
     have hlt:=hed m _ ho e he hb;have hnot:e.on∉m::c:=by
      intro hmem;rcases List.mem_cons.1 hmem with h'|h'
      . omega
      . have:=(List.pairwise_cons.1 hp).1 _ h';omega
     have hx:=mt (hm e.on).2 hnot;simp only[not_and,Bool.not_eq_false]at hx;have hlt':e.on<ops.size:=by omega
     have:=hx hlt';rw[Array.getD_eq_getD_getElem?]at this |-;rw[Array.getElem?_eq_getElem (by omega)]at this |-;simpa using this⟩
    rw[hnil]at this;simp at this
  .
   obtain⟨h1,h2,o,ho,h3⟩:=(rdy i).1 hi;have hic:i∈c:=(hm i).2 ⟨h1,h2⟩;obtain⟨pre,post,rfl⟩:=List.append_of_mem hic;have hlt:∀ y∈pre,y<i:=fun y hy=>(List.pairwise_append.1 hp).2.2 y hy i List.mem_cons_self;have gl:∀ {x:Nat},x<ops.size->listed.getD x false=listed.getD x true:=fun hx=>by rw[Array.getD_eq_getD_getElem?,Array.getD_eq_getD_getElem?,Array.getElem?_eq_getElem (by omega)];rfl
   have hnS:¬ (i<ops.size/\listed.getD i true=true):=fun h=>by rw[h2]at h;cases h.2
   have hfed:∀ e∈o.after,Region.binds .any e=true->e.on<ops.size/\listed.getD e.on true=true:=fun e he hb=>by
    have hx:=h3 e he hb;have hxl:e.on<ops.size:=by have:=hed i o ho e he hb;omega
    exact⟨hxl,by rw[<- gl hxl];exact hx⟩
   unfold wpOpIn;simp only[ho];have key:=hstep _ a w i o inv hdn (fun x hx=>hx.1) ho hnS hfed (wpAnyIn (FW ro) 0 P .any ops Q fuel (listed.setIfInBounds i true)) (fun a1 w1 inv1=>by
    have hset:∀ x,(x<ops.size/\(listed.setIfInBounds i true).getD x true=true)↔((x<ops.size/\listed.getD x true=true)\/x=i):=fun x=>by
     rw[Array.getD_eq_getD_getElem?,Array.getElem?_setIfInBounds];by_cases hxi:i=x
     . subst hxi;rw[if_pos rfl,if_pos (by omega)];simp[h1]
     . rw[if_neg hxi,<- Array.getD_eq_getD_getElem?];exact⟨.inl,fun h=>h.resolve_right fun e=>hxi e.symm⟩
    have hfun:(fun x=>x<ops.size/\(listed.setIfInBounds i true).getD x true=true)=(fun x=>(x<ops.size/\listed.getD x true=true)\/x=i):=funext fun x=>propext (hset x);refine qyE hed hQ hstep fuel _ (pre++post) a1 w1 ?_ (fun x=>?_) (by simp[hs]) ?_ ?_ (by rw[hfun];exact inv1)
    . simp at hl |-;omega
    .
     have hx:=hm x;simp only[List.mem_append,List.mem_cons]at hx |-;rw[Array.getD_eq_getD_getElem?,Array.getElem?_setIfInBounds];by_cases hxi:i=x
     . subst hxi;rw[if_pos rfl,if_pos (by omega)];simp only[Option.getD_some,Bool.true_eq_false,and_false,iff_false,not_or];refine⟨fun hy=>?_,fun hy=>?_⟩
       . have:=hlt i hy;omega
       . have:=(List.pairwise_cons.1 (List.pairwise_append.1 hp).2.1).1 i hy;omega
     .
      rw[if_neg hxi,<- Array.getD_eq_getD_getElem?,<- hx];constructor
      . rintro (h'|h')
        . exact .inl h'
        . exact .inr (.inr h')
      . rintro (h'|h'|h')
        . exact .inl h'
        . exact absurd h'.symm hxi
        . exact .inr h'
    . rw[List.pairwise_append]at hp |-;refine⟨hp.1,(List.pairwise_cons.1 hp.2.1).2,fun x hx y hy=>hp.2.2 x hx y (List.mem_cons_of_mem _ hy)⟩
    .
     rw[hfun];intro j oj hj hS e he hb;have hj':ops[j]? = some oj:=by rw[<- Array.getElem?_toList];exact hj
     have hlt':=hed j oj hj' e he hb;rcases hS with hS|rfl
     . exact .inl (hdn j oj hj hS e he hb)
     . rw[ho]at hj';cases hj';have hxl:e.on<ops.size:=by omega
       exact .inl ⟨hxl,by rw[<- gl hxl];exact h3 e he hb⟩)
   split
   . rename_i hw;rw[if_pos hw]at key;exact key
   . rename_i hw;rw[if_neg hw]at key;exact⟨fun _ _=>trivial,key⟩
theorem qd4 (fac:Fac none P dp nt rec ops is befs ord F0 Fn mr mn as bs ob)(hrec:RecSound P rec){Q}(hed:∀ (k:Nat) o,ops[k]? = some o->∀ e∈o.after,Region.binds .any e=true->e.on<k)(hQ:∀ S j F m a w μ,Inv D P dp nt is befs ord F0 Fn mr bs ob μr wr ops.size S j F m a w μ->(∀ i,i<ops.size->S i)->Q .normal a w)(fuel listed)(c:List Nat)(j F m a w μ)(h1:c.length=fuel)(h2:∀ i,i∈c↔i<ops.size/\listed.getD i true=false)(h3:listed.size=ops.size)(h4:c.Pairwise (· < ·))(h5:Down ops.toList (fun i=>i<ops.size/\listed.getD i true=true))(inv:Inv D P dp nt is befs ord F0 Fn mr bs ob μr wr ops.size (fun i=>i<ops.size/\listed.getD i true=true) j F m a w μ):
   wpAnyIn (FW ro) 0 P .any ops Q fuel listed a w:=by
 refine qyE (I:=fun S a w=>∃ j F m μ,Inv D P dp nt is befs ord F0 Fn mr bs ob μr wr ops.size S j F m a w μ) hed (fun S a w ⟨j,F,m,μ,inv⟩ h=>hQ S j F m a w μ inv h) (fun S a w i o hI hdn hlt ho hnS hf K hK=>?_) fuel listed c a w h1 h2 h3 h4 h5 ⟨j,F,m,μ,inv⟩;obtain⟨j,F,m,μ,inv⟩:=hI;have hD:Dn ops.toList none S:=⟨hdn,fun p q h=>by cases h⟩
 exact fac.step (ro:=ro) hrec inv hD ho hnS (fun y hy=>fac.hbef.fed hy S hdn (fun o' ho' e he hb=>by rw[Array.getElem?_toList,ho]at ho';cases ho';exact hf e he hb) (fun p h=>by cases h)) fun j1 F1 m1 a1 w1 μ1 inv1=>hK a1 w1 ⟨j1,F1,m1,μ1,inv1⟩
end
end E
end Go.Proofs.YtjnefcbeemkkeaaGreat
namespace Go.Proofs.YtjnefcbeemkkeaaGreat
namespace E
namespace T
variable {α:Type}
theorem qzu (g)(hg:g<4)(x y)(t:T α):mkK g x (mkK g y t)=mkK g x t:=by rcases four g hg with rfl|rfl|rfl|rfl<;>cases t<;>rfl
theorem qAJ (g h)(hg:g<4)(hh:h<4)(hne:g≠h)(x y)(t:T α):mkK g x (mkK h y t)=mkK h y (mkK g x t):=by rcases four g hg with rfl|rfl|rfl|rfl<;>rcases four h hh with rfl|rfl|rfl|rfl<;>first|exact absurd rfl hne|(cases t<;>rfl)
theorem put_comm (u v):∀ (dp j k:Nat) (t:T α),j<4 ^ dp->k<4 ^ dp->j≠k->put dp j u (put dp k v t)=put dp k v (put dp j u t)
 |0,j,k,t,hj,hk,hne=>absurd (show j=k by simp at hj hk;omega) hne
 |dp+1,j,k,t,hj,hk,hne=>by
  have h4:(4:Nat)>0:=by omega
  have hj':j / 4<4 ^ dp:=by rw[Nat.pow_succ]at hj;omega
  have hk':k / 4<4 ^ dp:=by rw[Nat.pow_succ]at hk;omega
  simp only[put];by_cases h:j % 4=k % 4
  . rw[h,qwZ _ (Nat.mod_lt k h4),qwZ _ (Nat.mod_lt k h4),qzu _ (Nat.mod_lt k h4),qzu _ (Nat.mod_lt k h4)];rw[put_comm u v dp (j / 4) (k / 4) _ hj' hk' (fun e=>hne (by omega))]
  . rw[qxe _ _ (Nat.mod_lt k h4) (Nat.mod_lt j h4) (fun e=>h e.symm),qxe _ _ (Nat.mod_lt j h4) (Nat.mod_lt k h4) h,qAJ _ _ (Nat.mod_lt j h4) (Nat.mod_lt k h4) h]
end T
theorem M.setA_comm (m:M){i j}(a b)(hi:i<4 ^ hd)(hj:j<4 ^ hd)(h:i≠j):(m.setA i a).setA j b=(m.setA j b).setA i a:=by show M.mk m.next (T.put hd j b (T.put hd i a m.tr))=M.mk m.next (T.put hd i a (T.put hd j b m.tr));rw[T.put_comm b a hd j i m.tr hj hi (fun e=>h e.symm)]
theorem qv9 {sz a v u m m'}(e:qvT sz a v m=.ret u m'):∃ (ad:Addr) (o:O),a=.pointer (some ad)/\u=undef/\m'=m.setA ad.block o/\∀ m0:M,m0.at ad.block=m.at ad.block->qvT sz a v m0=.ret undef (m0.setA ad.block o):=by
 have e0:=e;unfold qvT at e;simp only[qu5,M.cells_eq,bi_eq,cellsF_eq,lenF_eq,layF_eq,M.put_eq]at e;split at e
 case h_2=>cases e
 rename_i ad;split at e
 case h_2=>cases e
 rename_i ro t l hc;split at e
 . cases e
 rename_i h1;split at e
 case isFalse=>cases e
 rename_i h2;split at e
 case isFalse=>cases e
 rename_i h3;split at e
 case isFalse=>cases e
 rename_i h4;cases e;refine⟨ad,_,rfl,rfl,rfl,fun m0 hm=>?_⟩;unfold qvT;simp only[qu5,M.cells_eq,bi_eq,cellsF_eq,lenF_eq,layF_eq,M.put_eq];rw[hm,hc];simp only;rw[if_neg h1,if_pos h2,if_pos h3,if_pos h4]
theorem qz3 {s1 s2 a1 v1 u1 a2 v2 u2 m0 m1 m2}(e1:qvT s1 a1 v1 m0=.ret u1 m1)(e2:qvT s2 a2 v2 m1=.ret u2 m2)(h:∀ x1 x2:Addr,a1=.pointer (some x1)->a2=.pointer (some x2)->x1.block≠x2.block/\x1.block<4 ^ hd/\x2.block<4 ^ hd):∃ mA,qvT s2 a2 v2 m0=.ret undef mA/\qvT s1 a1 v1 mA=.ret undef m2:=by obtain⟨x1,o1,rfl,rfl,rfl,k1⟩:=qv9 e1;obtain⟨x2,o2,rfl,rfl,rfl,k2⟩:=qv9 e2;obtain⟨hne,h1,h2⟩:=h x1 x2 rfl rfl;refine⟨m0.setA x2.block o2,k2 m0 (M.at_setA_other m0 x1.block x2.block o1 h1 h2 (fun e=>hne e.symm)).symm,?_⟩;rw[k1 _ (M.at_setA_other m0 x2.block x1.block o2 h2 h1 hne),M.setA_comm m0 o2 o1 h2 h1 (fun e=>hne e.symm)]
section
variable {P:Program} {dp nt:Nat} {rec:Rec}
theorem qB4 {ops i a}(h:stA ops i=some a):∃ o t v,ops[i]? = some o/\o.op=.store t a v/\o.guard=none/\o.dst=none:=by
 unfold stA at h;split at h
 .
  rename_i o ho;split at h
  . rename_i t a' v h1 h2 h3;cases h;exact⟨o,t,v,ho,h1,h2,h3⟩
  . cases h
 . cases h
theorem qwt {ops o t a v}(ho:o.op=.store t a v)(hg:o.guard=none)(F)(m):
  eff P dp rec ops o F m=if okT P t=true then(match qvT (szT P t) (evv P dp F a) (evv P dp F v) m with|.ret v m'=>some (v,m')|_=>none)else none:=by
 unfold eff;simp only[hg];unfold effB;have h1:isQ P o.op≠true:=by rw[ho];simp[isQ]
 have h2:isR o.op≠true:=by rw[ho];simp[isR]
 rw[if_neg h1,if_neg h2,ho];simp only[loud,bi_eq,ve];by_cases hok:okT P t=true
 . simp[hok,qvA]<;>(cases qvT (szT P t) (evv P dp F a) (evv P dp F v) m<;>rfl)
 . simp[hok,noC]
theorem qzr:∀ {l:List Nat} {p q:Nat},last2 l=some (p,q)->∃ l0,l=l0++[p,q]
 |[],p,q,h=>by cases h
 |x::l,p,q,h=>by
  unfold last2 at h;split at h
  . cases h;exact⟨[],rfl⟩
  . obtain⟨l0,rfl⟩:=qzr h;exact⟨x::l0,rfl⟩
theorem qzw:∀ {l:List M},qAK l=true->∃ l0 a b c,l=l0++[a,b,c]/\a.next=b.next/\b.next=c.next
 |[],h=>by cases h
 |x::l,h=>by
  unfold qAK at h;split at h
  . rename_i b c;rw[qu1,Bool.and_eq_true]at h;exact⟨[],x,b,c,rfl,Nat.eq_of_beq_eq_true h.1,Nat.eq_of_beq_eq_true h.2⟩
  . obtain⟨l0,a,b,c,rfl,h1,h2⟩:=qzw h;exact⟨x::l0,a,b,c,rfl,h1,h2⟩
theorem Pu.next_le {m m'}(h:Pu m m'):m.next<=m'.next:=by
 induction h with
 |refl=>exact Nat.le_refl _
 |step m' o _ _ ih=>simp;omega
theorem Pu.same {m m'}(h:Pu m m')(hn:m.next=m'.next):m=m':=by
 cases h with
 |refl=>rfl
 |step m' o h1 _=>have:=h1.next_le;simp at hn;omega
theorem Tr.ob_mem {ops is}:∀ (l:List Nat) (F:T Value) (m:M) (Fn:T Value) (mn:M) (as bs:List M) (ob:List (Nat×Nat×O)),Tr P dp nt rec ops is l F m Fn mn as bs ob->∀ r∈ob,r.1∈l
 |[],F,m,Fn,mn,as,bs,ob,h,r,hr=>by obtain⟨_,_,_,_,rfl⟩:=h;cases hr
 |i::l,F,m,Fn,mn,as,bs,ob,h,r,hr=>by
  obtain⟨o,v,m1,as',bs',ob',_,_,ht,_,_,h4,h5⟩:=h;by_cases hk:(at_ is i).k=2/\m.next≠m1.next
  . rw[h4 hk]at hr;rcases List.mem_cons.1 hr with rfl|hr
    . exact List.mem_cons_self
    . exact List.mem_cons_of_mem _ (Tr.ob_mem l _ _ _ _ _ _ _ ht r hr)
  . rw[h5 hk]at hr;exact List.mem_cons_of_mem _ (Tr.ob_mem l _ _ _ _ _ _ _ ht r hr)
theorem Tr.ob_k {ops is}:∀ (l:List Nat) (F:T Value) (m:M) (Fn:T Value) (mn:M) (as bs:List M) (ob:List (Nat×Nat×O)),Tr P dp nt rec ops is l F m Fn mn as bs ob->∀ r∈ob,(at_ is r.1).k=2
 |[],F,m,Fn,mn,as,bs,ob,h,r,hr=>by obtain⟨_,_,_,_,rfl⟩:=h;cases hr
 |i::l,F,m,Fn,mn,as,bs,ob,h,r,hr=>by
  obtain⟨o,v,m1,as',bs',ob',_,_,ht,_,_,h4,h5⟩:=h;by_cases hk:(at_ is i).k=2/\m.next≠m1.next
  . rw[h4 hk]at hr;rcases List.mem_cons.1 hr with rfl|hr
    . exact hk.1
    . exact Tr.ob_k l _ _ _ _ _ _ _ ht r hr
  . rw[h5 hk]at hr;exact Tr.ob_k l _ _ _ _ _ _ _ ht r hr
theorem qA6 {befs is ord p q}(h:qzK befs is ord p q=true):p≠q/\(∀ i∈ord,i=p\/i=q\/(at_ is i).k=0\/bef befs q i=true) /\
  (∀ y∈ord,∀ t,(at_ is y).dst=some t->(t∈(at_ is p).rd->bef befs p y=true)/\(t∈(at_ is q).rd->bef befs q y=true)):=by
 unfold qzK at h;simp only[qu1,qxm,ve,Bool.and_eq_true,Bool.or_eq_true,Bool.not_eq_true',List.all_eq_true]at h;obtain⟨h1,h2,h3⟩:=h;refine⟨fun e=>?_,fun i hi=>?_,fun y hy t ht=>⟨fun hr=>?_,fun hr=>?_⟩⟩
 . subst e;simp at h1
 .
  rcases h2 i hi with h|h|h|h
  . exact .inl (Nat.eq_of_beq_eq_true h)
  . exact .inr (.inl (Nat.eq_of_beq_eq_true h))
  . exact .inr (.inr (.inl (Nat.eq_of_beq_eq_true h)))
  . exact .inr (.inr (.inr h))
 .
  rcases(h3 y hy).1 with h|h
  . rw[qxd.2 ⟨t,ht,hr⟩]at h;cases h
  . exact h
 .
  rcases(h3 y hy).2 with h|h
  . rw[qxd.2 ⟨t,ht,hr⟩]at h;cases h
  . exact h
variable {D:List Deferred} {ro:Option Nat} {ops:Array Oper} {is:List Info} {befs ord:List Nat} {F0 Fn:T Value} {mr mn:M} {as bs:List M} {ob:List (Nat×Nat×O)} {μr:Mu} {wr:World}
structure Alt (D:List Deferred) (P:Program) (dp nt:Nat) (is:List Info) (F0 Fn:T Value) (mr:M) (μr:Mu) (wr:World) (n p q:Nat) (mA:M) (S:Nat->Prop) (F:T Value) (a:Act) (w:World) (μ:Mu):Prop where
 lk:Lk dp nt is F0 Fn n S F
 hq:S q
 hnp:¬ S p
 all:∀ i,i<n->(at_ is i).k≠0->i≠p->S i
 hp:Hp P μ mA w
 gn:Gn μr mr wr μ mA w
 gl:Gl P μ
 rf:RF μ dp nt F a.tmps
 df:a.defers=D
theorem qz5 {p q}(fac:Fac (some (p,q)) P dp nt rec ops is befs ord F0 Fn mr mn as bs ob)(hrec:RecSound P rec){befs0}(hb0:befs0=befL ops.toList [])(hbefs:befs=augB befs0 p q)(hedges:vw 0 ops.toList=true)(hl:last2 (louds is ord)=some (p,q)){ap aq}(ha:stA ops.toList p=some ap)(hb:stA ops.toList q=some aq)(ht:qzK befs0 is ord p q=true)(hap:qz9 P dp ap aq Fn=true)(hnx:qAK bs=true){Q}(hed:∀ (k:Nat) o,ops[k]? = some o->∀ e∈o.after,Region.binds .any e=true->e.on<k)(hQ:∀ S j F m a w μ,Inv D P dp nt is befs ord F0 Fn mr bs ob μr wr ops.size S j F m a w μ->(∀ i,i<ops.size->S i)->Q .normal a w)(fuel listed)(c:List Nat)(j F m a w μ)(h1:c.length=fuel)(h2:∀ i,i∈c↔i<ops.size/\listed.getD i true=false)(h3:listed.size=ops.size)(h4:c.Pairwise (· < ·))(h5:Down ops.toList (fun i=>i<ops.size/\listed.getD i true=true))(inv:Inv D P dp nt is befs ord F0 Fn mr bs ob μr wr ops.size (fun i=>i<ops.size/\listed.getD i true=true) j F m a w μ)(hx0:¬ (q<ops.size/\listed.getD q true=true)):
   wpAnyIn (FW ro) 0 P .any ops Q fuel listed a w:=by
 obtain⟨hpq,ht1,ht2⟩:=qA6 ht;clear ht;obtain⟨l0,hcs⟩:=qzr hl;obtain⟨b0,x0,x1,x2,hbs,hn01,hn12⟩:=qzw hnx;obtain⟨op,tp,vp,hop,hop1,hop2,hop3⟩:=qB4 ha;obtain⟨oq,tq,vq,hoq,hoq1,hoq2,hoq3⟩:=qB4 hb;have hpl:p∈louds is ord:=by rw[hcs];simp
 have hql:q∈louds is ord:=by rw[hcs];simp
 have hpo:p∈ord:=(List.mem_filter.1 hpl).1;have hqo:q∈ord:=(List.mem_filter.1 hql).1;have kp:(at_ is p).k=3:=Nat.eq_of_beq_eq_true (List.mem_filter.1 hpl).2;have kq:(at_ is q).k=3:=Nat.eq_of_beq_eq_true (List.mem_filter.1 hql).2;have hpd:(at_ is p).dst=none:=by rw[at_eq fac.his hop];exact hop3
 have hqd:(at_ is q).dst=none:=by rw[at_eq fac.his hoq];exact hoq3
 have hps:p<ops.size:=by have:=(fac.hlt p hpo).1;simpa using this
 have hqs:q<ops.size:=by have:=(fac.hlt q hqo).1;simpa using this
 have hlen:bs.length=l0.length+3:=by rw[fac.louds_len,hcs];simp
 have hb0l:b0.length=l0.length:=by rw[hbs]at hlen;simpa using hlen
 have hbi0:bs[l0.length]? = some x0:=by rw[hbs,<- hb0l];simp
 have hbi1:bs[l0.length+1]? = some x1:=by rw[hbs,<- hb0l,List.getElem?_append_right (by omega)];simp
 have hbi2:bs[l0.length+2]? = some x2:=by rw[hbs,<- hb0l,List.getElem?_append_right (by omega)];simp
 have hnd:ord.Nodup:=fac.hpw.imp fun h=>(qu6 h).1;have hndl:(louds is ord).Nodup:=hnd.sublist List.filter_sublist
 -- where they stand
 have wh:∀ {i d:Nat},(louds is ord)[d]? = some i->(at_ is i).k=3->∀ {a b:List Nat},ord=a++i::b->(louds is a).length=d:=by
  intro i d hd hk a b hab;have hlp:louds is ord=louds is a++i::louds is b:=by rw[hab];simp[louds,hk]
  have h1:(louds is ord)[(louds is a).length]? = some i:=by rw[hlp];simp
  have hlt1:=(List.getElem?_eq_some_iff.1 hd).1;exact((List.getElem?_inj hlt1 hndl).1 (hd.trans h1.symm)).symm
 -- what they read stands at last as it stood
 have last:∀ i,(i=p\/i=q)->∀ {a b:List Nat},ord=a++i::b->∀ t∈(at_ is i).rd,∀ x∈i::b,¬ Wrt is nt x t:=by
  intro i hi a b hab t ht x hx hw;have hid:(at_ is i).dst=none:=by rcases hi with rfl|rfl<;>assumption
  rcases List.mem_cons.1 hx with rfl|hx
  . have:=hw.1;rw[hid]at this;cases this
  .
   have hxo:x∈ord:=by rw[hab];simp[hx]
   have hb1:bef befs0 i x=true:=by
    rcases hi with rfl|rfl
    . exact(ht2 x hxo t hw.1).1 ht
    . exact(ht2 x hxo t hw.1).2 ht
   have hpw:=fac.hpw;rw[hab]at hpw;have hb2:=((qu6 ((List.pairwise_cons.1 (List.pairwise_append.1 hpw).2.1).1 x hx)).2.2.1 t hw.1 ht).1;rw[hbefs]at hb2;have l1:=qBH hb0 hedges hb1;rcases qwf hb2 with hb2|⟨e1,e2⟩
   . have l2:=qBH hb0 hedges hb2;omega
   . have:=hw.1;rw[e1,hqd]at this;cases this
 have split:∀ i o,(i=p\/i=q)->ops.toList[i]? = some o->∃ a b Fi mi v m1,ord=a++i::b/\eff P dp rec ops.toList o Fi mi=some (v,m1)/\(∀ t,t<4 ^ dp->(∀ x∈a,¬ Wrt is nt x t)->T.look undef dp t Fi=T.look undef dp t F0)/\(∀ t,t<4 ^ dp->(∀ x∈i::b,¬ Wrt is nt x t)->T.look undef dp t Fn=T.look undef dp t Fi) /\
   bs[(louds is a).length]? = some mi/\as[(louds is a).length]? = some m1/\eff P dp rec ops.toList o Fn mi=some (v,m1):=by
  intro i o hi ho;have hio:i∈ord:=by rcases hi with rfl|rfl<;>assumption
  have hk:(at_ is i).k=3:=by rcases hi with rfl|rfl<;>assumption
  obtain⟨a,b,hab⟩:=List.append_of_mem hio;have htr:=fac.tr;rw[hab]at htr;obtain⟨o2,Fi,mi,v,m1,c1,c2,c3,c4,c5,c6,c7⟩:=Tr.split fac.hle fac.his a _ _ _ _ _ _ _ htr;rw[ho]at c1;cases c1;have hrd:(at_ is i).rd=readsOf ops.toList o:=by rw[at_eq fac.his ho];rfl
  refine⟨a,b,Fi,mi,v,m1,hab,c2,c3,c4,(c6 hk).1,(c6 hk).2,?_⟩;rw[qvG (F:=Fn) (G:=Fi) (fun t ht ht4=>c4 t ht4 (last i hi hab t (by rw[hrd];exact ht))) mi];exact c2
 obtain⟨apl,apr,Fp,mp,v1,m1,sp1,sp2,sp3,sp4,sp5,sp6,sp7⟩:=split p op (.inl rfl) hop;obtain⟨aql,aqr,Fq,mq,v2,m2,sq1,sq2,sq3,sq4,sq5,sq6,sq7⟩:=split q oq (.inr rfl) hoq;have wp_:(louds is apl).length=l0.length:=wh (by rw[hcs];simp) kp sp1;have wq_:(louds is aql).length=l0.length+1:=wh (by rw[hcs,List.getElem?_append_right (by omega)];simp) kq sq1;rw[wp_]at sp5 sp6;rw[wq_]at sq5 sq6;rw[hbi0]at sp5;cases sp5;rw[hbi1]at sq5;cases sq5;have hmem:=(Tr.mem fac.his _ _ _ _ _ _ _ _ fac.tr).2.2.2.2
 -- the two stores
 rw[qwt hop1 hop2]at sp7;rw[qwt hoq1 hoq2]at sq7;split at sp7
 case isFalse=>cases sp7
 rename_i okp;split at sp7
 case h_2=>cases sp7
 rename_i v1' m1' st1;cases sp7;split at sq7
 case isFalse=>cases sq7
 rename_i okq;split at sq7
 case h_2=>cases sq7
 rename_i v2' m2' st2;cases sq7;have e1:m1=x1:=by obtain⟨mb,k1,k2⟩:=hmem _ _ sp6;rw[hbi1]at k1;cases k1;refine k2.same ?_;obtain⟨ad,o,_,_,rfl,_⟩:=qv9 st1;rw[M.next_setA,hn01]
 have e2:m2=x2:=by obtain⟨mb,k1,k2⟩:=hmem _ _ sq6;rw[hbi2]at k1;cases k1;refine k2.same ?_;obtain⟨ad,o,_,_,rfl,_⟩:=qv9 st2;rw[M.next_setA,hn12]
 subst e1;subst e2;obtain⟨mA,cA,cB⟩:=qz3 st1 st2 (fun y1 y2 z1 z2=>by unfold qz9 at hap;rw[qvA,qvA,z1,z2]at hap;simp only[qu5,qu1,ve,Bool.and_eq_true,Bool.not_eq_true',Nat.blt_eq]at hap;exact⟨fun e=>by rw[e]at hap;simp at hap,Nat.lt_trans hap.2.1 qwl,Nat.lt_trans hap.2.2 qwl⟩);have effQ:eff P dp rec ops.toList oq Fn x0=some (undef,mA):=by rw[qwt hoq1 hoq2,if_pos okq,cA]
 have effP:eff P dp rec ops.toList op Fn mA=some (undef,m2):=by rw[qwt hop1 hop2,if_pos okp,cB]
 -- what a frame reads for them
 have reads:∀ i o,(i=p\/i=q)->ops.toList[i]? = some o->∀ {S:Nat->Prop} {F:T Value},Lk dp nt is F0 Fn ops.size S F->Down ops.toList S->¬ S i->Fed ops.toList S i->∀ t∈readsOf ops.toList o,t<4 ^ dp->T.look undef dp t F=T.look undef dp t Fn:=by
  intro i o hi ho S F lk hdn hnS hf t ht ht4;have hrd:(at_ is i).rd=readsOf ops.toList o:=by rw[at_eq fac.his ho];rfl
  obtain⟨a,b,Fi,mi,v,m1,s1,_,s3,s4,_,_,_⟩:=split i o hi ho;have hid:∀ x,(x=p\/x=q)->(at_ is x).dst=none:=by rintro x (rfl|rfl)<;>assumption
  have key:=fac.agree lk s1 hnS (fun y hy hyd=>by
   rw[hbefs]at hy;rcases qwf hy with hy|⟨_,e⟩
   . exact qwg hb0 hy S hdn hf
   . exact absurd (hid y (.inl e)) hyd) (fun y hy hyd hS=>by
   rw[hbefs]at hy;rcases qwf hy with hy|⟨e,e'⟩
   . exact hnS (qwq hb0 hy S hdn hS)
   . exact absurd (hid y (.inr e)) hyd) s3 s4
  rw[s4 t ht4 (last i hi s1 t (by rw[hrd];exact ht)),key t (by rw[hrd];exact ht) ht4]
 have gen:∀ S a w,((∃ j F m μ,Inv D P dp nt is befs ord F0 Fn mr bs ob μr wr ops.size S j F m a w μ/\(S q->S p))\/∃ F μ,Alt D P dp nt is F0 Fn mr μr wr ops.size p q mA S F a w μ)->True:=fun _ _ _ _=>trivial;refine qyE (I:=fun S a w=>(∃ j F m μ,Inv D P dp nt is befs ord F0 Fn mr bs ob μr wr ops.size S j F m a w μ/\(S q->S p))\/∃ F μ,Alt D P dp nt is F0 Fn mr μr wr ops.size p q mA S F a w μ) hed (fun S a w hI hall=>?_) (fun S a w i o hI hdn hlt ho hnS hf K hK=>?_) fuel listed c a w h1 h2 h3 h4 h5 (.inl ⟨j,F,m,μ,inv,fun h=>absurd h hx0⟩)
 .
  rcases hI with⟨j,F,m,μ,inv,_⟩|⟨F,μ,alt⟩
  . exact hQ S j F m a w μ inv hall
  . exact absurd (hall p hps) alt.hnp
 have hi:i<ops.size:=(Array.getElem?_eq_some_iff.1 ho).1;have ho':ops.toList[i]? = some o:=by rw[Array.getElem?_toList];exact ho
 have hfed:Fed ops.toList S i:=fun o2 ho2 e he hb=>by rw[ho']at ho2;cases ho2;exact hf e he hb
 have hk:(at_ is i).k=kindOf P o.op:=by rw[at_eq fac.his ho'];rfl
 rcases hI with⟨j,F,m,μ,inv,hx⟩|⟨F,μ,alt⟩
 .
  by_cases hc:i=q/\¬ S p
  .
   obtain⟨rfl,hnp⟩:=hc;rw[hoq]at ho';cases ho';have rest:∀ i',i'<ops.size->(at_ is i').k≠0->i'≠p->i'≠i->S i':=fun i' hi' hk' hnp' hni=>by
    rcases ht1 i' (fac.hall i' hi')with h|h|h|h
    . exact absurd h hnp'
    . exact absurd h hni
    . exact absurd h hk'
    . exact qwg hb0 h S hdn hfed
   have hj:j=l0.length:=by
    have c1:(louds is ord)[l0.length]? = some p:=by rw[hcs];simp
    have n1:¬ l0.length<j:=fun h=>hnp ((inv.jcs _ _ c1).2 h);by_cases n2:j<l0.length
    .
     exfalso;have c2:(louds is ord)[j]? = some l0[j]:=by rw[hcs,List.getElem?_append_left n2];exact List.getElem?_eq_getElem n2
     have hcl:l0[j]∈louds is ord:=by rw[hcs];exact List.mem_append_left _ (List.getElem_mem n2)
     have hco:l0[j]∈ord:=(List.mem_filter.1 hcl).1;have kc:(at_ is l0[j]).k=3:=Nat.eq_of_beq_eq_true (List.mem_filter.1 hcl).2;have hlt':l0[j]<ops.size:=by have:=(fac.hlt _ hco).1;simpa using this
     have ne1:l0[j]≠p:=fun e=>by have:=(List.getElem?_inj (List.getElem?_eq_some_iff.1 c2).1 hndl).1 (c2.trans (by rw[e];exact c1.symm));omega
     have c3:(louds is ord)[l0.length+1]? = some i:=by rw[hcs,List.getElem?_append_right (by omega)];simp
     have ne2:l0[j]≠i:=fun e=>by have:=(List.getElem?_inj (List.getElem?_eq_some_iff.1 c2).1 hndl).1 (c2.trans (by rw[e];exact c3.symm));omega
     have:=(inv.jcs j _ c2).1 (rest _ hlt' (by omega) ne1 ne2);omega
    . omega
   have hm:m=x0:=by have:=inv.mem;rw[hj,hbi0]at this;exact(Option.some.inj this).symm
   subst hm;have e0:eff P dp rec ops.toList oq F m=some (undef,mA):=by rw[qvG (reads i oq (.inr rfl) hoq inv.lk hdn hnS hfed) m];exact effQ
   refine qvu hrec ⟨inv.hp,.refl _ _ _,inv.gl,inv.rf,inv.df⟩ e0 fun a1 w1 μ1 g1 _=>hK a1 w1 (.inr ⟨F,μ1,⟨⟨fun x hx=>?_,fun t ht x hx hw=>?_,fun t ht hx=>?_⟩,.inr rfl,?_,fun i' hi' hk' hn'=>?_,g1.hp,inv.gn.trans g1.gn,g1.gl,?_,g1.df⟩⟩)
   . rcases hx with hx|rfl
     . exact inv.inS x hx
     . exact hqs
   . rcases hx with hx|rfl
     . exact inv.lk1 t ht x hx hw
     . have:=hw.1;rw[hqd]at this;cases this
   . exact inv.lk0 t ht fun x hS=>hx x (.inl hS)
   . rintro (h|h)
     . exact hnp h
     . exact hpq h
   . by_cases e:i'=i
     . exact .inr e
     . exact .inl (rest i' hi' hk' hn' e)
   . have:=g1.rf;rw[hoq3]at this;exact this
  .
   have hx':∀ p',some (p,q)=some (p',i)->S p':=by intro p' e;cases e;exact Classical.byContradiction fun h=>hc ⟨rfl,h⟩
   have hD:Dn ops.toList (some (p,q)) S:=⟨hdn,fun p' q' e=>by cases e;exact hx⟩
   refine fac.step (ro:=ro) hrec inv hD ho hnS (fun y hy=>fac.hbef.fed hy S hdn hfed hx') fun j1 F1 m1 a1 w1 μ1 inv1=>hK a1 w1 (.inl ⟨j1,F1,m1,μ1,inv1,fun h=>?_⟩);rcases h with h|h
   . exact .inl (hx h)
   . exact .inl (hx' p (by rw[h]))
 .
  by_cases hip:i=p
  .
   subst hip;rw[hop]at ho';cases ho';have e0:eff P dp rec ops.toList op F mA=some (undef,m2):=by rw[qvG (reads i op (.inl rfl) hop alt.lk hdn hnS hfed) mA];exact effP
   refine qvu hrec ⟨alt.hp,.refl _ _ _,alt.gl,alt.rf,alt.df⟩ e0 fun a1 w1 μ1 g1 _=>hK a1 w1 (.inl ⟨l0.length+2,F,m2,μ1,⟨fun x hx=>?_,fun d c hc=>⟨fun _=>?_,fun _=>?_⟩,hbi2,fun t ht x hx hw=>?_,fun t ht hx=>?_,fun i' b' x' hm' hS' _=>?_,g1.hp,alt.gn.trans g1.gn,g1.gl,?_,g1.df⟩,fun _=>.inr rfl⟩)
   . rcases hx with hx|rfl
     . exact alt.lk.inS x hx
     . exact hps
   . have:=(List.getElem?_eq_some_iff.1 hc).1;rw[hcs]at this;simpa using this
   . have hcl:=List.mem_of_getElem? hc;have hco:c∈ord:=(List.mem_filter.1 hcl).1;have kc:(at_ is c).k=3:=Nat.eq_of_beq_eq_true (List.mem_filter.1 hcl).2;by_cases e:c=i
     . exact .inr e
     . exact .inl (alt.all c (by have:=(fac.hlt _ hco).1;simpa using this) (by omega) e)
   . rcases hx with hx|rfl
     . exact alt.lk.lk1 t ht x hx hw
     . have:=hw.1;rw[hpd]at this;cases this
   . exact alt.lk.lk0 t ht fun x hS=>hx x (.inl hS)
   . have k2:(at_ is i').k=2:=Tr.ob_k _ _ _ _ _ _ _ _ fac.tr _ hm';exfalso;refine hS' (.inl (alt.all i' ?_ (by omega) (fun e=>by rw[e,kp]at k2;cases k2)));have:=(fac.hlt i' (Tr.ob_mem _ _ _ _ _ _ _ _ fac.tr _ hm')).1;simpa using this
   . have:=g1.rf;rw[hop3]at this;exact this
  .
   have k0:kindOf P o.op=0:=by rw[<- hk];exact Classical.byContradiction fun h=>hnS (alt.all i hi h hip)
   obtain⟨a',b',hsp⟩:=List.append_of_mem (fac.hall i hi);have htr:=fac.tr;rw[hsp]at htr;obtain⟨o2,Fi,mi,v,m1,c1,c2,c3,c4,c5,c6,c7⟩:=Tr.split fac.hle fac.his a' _ _ _ _ _ _ _ htr;rw[ho']at c1;cases c1;have hrd:(at_ is i).rd=readsOf ops.toList o:=by rw[at_eq fac.his ho'];rfl
   have hag:=fac.agree alt.lk hsp hnS (fun y hy hyd=>by
    rw[hbefs]at hy;rcases qwf hy with hy|⟨_,e⟩
    . exact qwg hb0 hy S hdn hfed
    . rw[e]at hyd;exact absurd hpd hyd) (fun y hy hyd hS=>by
    rw[hbefs]at hy;rcases qwf hy with hy|⟨_,e⟩
    . exact hnS (qwq hb0 hy S hdn hS)
    . exact hip e) c3 c4
   have e1:eff P dp rec ops.toList o F mi=some (v,m1):=by rw[<- qvG (fun t ht ht4=>hag t (by rw[hrd];exact ht) ht4) mi];exact c2
   have e0:=qAm (qw0 (P:=P) (op:=o.op) (by omega)) (qBV k0) e1 mA;obtain⟨f1,f0⟩:=fac.frame alt.lk hsp hnS ho' c5;exact qvu hrec ⟨alt.hp,.refl _ _ _,alt.gl,alt.rf,alt.df⟩ e0 fun a1 w1 μ1 g1 _=>hK a1 w1 (.inr ⟨_,μ1,⟨⟨fun x hx=>hx.elim (alt.lk.inS x) fun e=>e▸hi,f1,f0⟩,.inl alt.hq,fun h=>h.elim alt.hnp fun e=>hip e.symm,fun i' h1 h2 h3=>.inl (alt.all i' h1 h2 h3),g1.hp,alt.gn.trans g1.gn,g1.gl,g1.rf,g1.df⟩⟩)
end
end E
end Go.Proofs.YtjnefcbeemkkeaaGreat
namespace Go.Proofs.YtjnefcbeemkkeaaGreat
namespace E
section
variable {D:List Deferred} {ro:Option Nat} {P:Program} {dp nt:Nat} {μ0:Mu} {m0:M} {w0:World} {rec:Rec}
theorem Gn.drew (μ m)(w):Gn μ m w μ m { w with drawn:=w.drawn+1 }:=⟨.refl μ,Nat.le_refl _,Nat.le_refl _,fun _ _ _=>rfl,fun i x h e=>.inl ⟨i,x,h,e,rfl⟩,⟨rfl,rfl⟩,fun _ _=>rfl⟩
theorem qAU:∀ (n i k:Nat),k<n->i+k∈rng i n
 |0,i,k,h=>by omega
 |n+1,i,k,h=>by
  unfold rng;cases k with
  |zero=>exact List.mem_cons_self
  |succ k=>have:=qAU n (i+1) k (by omega);rw[show i+(k+1)=i+1+k by omega];exact List.mem_cons_of_mem _ this
theorem qw6 (hle:nt<=4 ^ dp)(hmix:P.follows .mixedOrders=true){X id ops is befs ord st chk F m a w μ x F' m' Q}(hi:ops.toList.map (QT P ops.toList)=is)(hbf:qzN ops.toList X befs)(h:St D P dp nt μ0 m0 w0 F m a w μ)(e:(qBj P dp nt ops.toList befs is ord st chk).f rec F m=.go x F' m')(hq:∀ e a' w',Stands D P dp nt μ0 m0 w0 x F' m' e a' w'->Q e a' w')(tail:∀ as bs ob,Fac X P dp nt rec ops is befs ord F F' m m' as bs ob->st=true->chk F' bs=true->vw 0 ops.toList=true->(∀ (k:Nat) o,ops[k]? = some o->∀ e∈o.after,Region.binds .any e=true->e.on<k) ->
   ∀ (wr:World),(∀ S j F2 m3 a w μ2,Inv D P dp nt is befs ord F F' m bs ob μ wr ops.size S j F2 m3 a w μ2->(∀ i,i<ops.size->S i)->Q .normal a w) ->
   ∀ (fuel:Nat) (listed:Array Bool) (c:List Nat) (j:Nat) (F2:T Value) (m2:M) (a:Act) (w:World) (μ2:Mu),c.length=fuel->(∀ i,i∈c↔i<ops.size/\listed.getD i true=false)->listed.size=ops.size ->
   c.Pairwise (· < ·)->Down ops.toList (fun i=>i<ops.size/\listed.getD i true=true)->Inv D P dp nt is befs ord F F' m bs ob μ wr ops.size (fun i=>i<ops.size/\listed.getD i true=true) j F2 m2 a w μ2->(∀ i,¬ (i<ops.size/\listed.getD i true=true)) ->
   wpAnyIn (FW ro) 0 P .any ops Q fuel listed a w):(Code.region id ops true).wpIn (FW ro) 0 P Q a w:=by
 unfold qBj at e;rw[bi_eq]at e;split at e
 case isFalse=>cases e
 rename_i hst;rw[qu1,qu1,qu1,Bool.and_eq_true,Bool.and_eq_true,Bool.and_eq_true,List.all_eq_true]at hst;obtain⟨hs1,hs2,hs3,hs4⟩:=hst;obtain⟨o1,o2⟩:=qzB hs3;simp only at e;rw[qvd]at e;split at e
 case h_2=>cases e
 rename_i x1 F1 m1 hrun;cases x1 with
 |norm=>
  have e:Out.go .norm F1 m1=.go x F' m':=e;cases e;obtain⟨Fn,mn,as,bs,ob,htr,hk⟩:=qxp ord F m _ _ _ hrun;rw[bi_eq]at hk;split at hk
  case isFalse=>cases hk
  rename_i hck;cases hk;rw[qu1,qu1,qu1,Bool.and_eq_true,Bool.and_eq_true,Bool.and_eq_true]at hck;obtain⟨c1,c2,c4,c3⟩:=hck;have fac:Fac X P dp nt rec ops is befs ord F F' m m' as bs ob:=⟨hi.symm,hbf,hle,o1,o2,fun i hi=>by have:=hs2 i (by have:=qAU ops.toList.length 0 i (by simpa using hi);simpa using this);exact qyS.1 this,htr,c1,c2,c3⟩
  obtain⟨_,_,t3,⟨m2,t4,t5⟩,_⟩:=Tr.mem hi.symm _ _ _ _ _ _ _ _ htr;have hp1:Hp P μ m { w with drawn:=w.drawn+1 }:=h.hp.drew;obtain⟨hp2,gn2⟩:=hp1.ghosts t5;have noS:∀ i,¬ (i<ops.size/\(Array.replicate ops.size false).getD i true=true):=fun i hS=>by obtain⟨h1,h2⟩:=hS;rw[Array.getD_eq_getD_getElem?,Array.getElem?_eq_getElem (by simpa using h1)]at h2;simp at h2
  refine wpIn_region_any hmix (tail as bs ob fac hs4 c4 hs1 (fun k o ho e he hb=>?_) { w with drawn:=w.drawn+1 } (fun S j F2 m3 a2 w2 μ2 inv hS=>?_) ops.size _ (List.range' 0 ops.size) 0 F m2 a _ μ (by simp) (fun i=>?_) (by simp) List.pairwise_lt_range' (fun j oj hj hS=>absurd hS (noS j))
   ⟨fun i hS=>hS.1,fun d c hc=>⟨fun hS=>absurd hS (noS c),fun hd=>by omega⟩,t4,fun t ht i hS=>absurd hS (noS i),fun t ht _=>rfl,fun i b x hm hS hlo=>?_,hp2,gn2,h.gl,h.rf,h.df⟩ noS)
  . have:=xn hs1 k o (by rw[Array.getElem?_toList];exact ho) e he hb;omega
  .
   have hj:j=(louds is ord).length:=by
    have h1:=fac.j_le inv;by_cases h2:j<(louds is ord).length
    . have hc:(louds is ord)[j]? = some (louds is ord)[j]:=List.getElem?_eq_getElem h2;have hmem:(louds is ord)[j]∈ord:=(List.mem_filter.1 (List.getElem_mem h2)).1;have:=(inv.jcs j _ hc).1 (hS _ (by have:=(o1 _ hmem).1;simpa using this));omega
    . omega
   have hm:m3=m':=by have h1:=inv.mem;rw[hj,t3]at h1;exact(Option.some.inj h1).symm
   subst hm;refine hq _ _ _ ⟨μ2,.norm,inv.hp,(h.gn.trans (Gn.drew μ m w)).trans inv.gn,inv.gl,⟨inv.rf.size,inv.rf.le,fun t ht=>?_⟩,inv.df⟩;have:T.look undef dp t F'=T.look undef dp t F2:=by
    by_cases hw:∃ i,i<ops.size/\Wrt is nt i t
    . obtain⟨i,hi,hw⟩:=hw;exact(inv.lk1 t ht i (hS i hi) hw).symm
    . rw[inv.lk0 t ht fun i hS hwi=>hw ⟨i,inv.inS i hS,hwi⟩];exact Tr.look hle hi.symm ht ord _ _ _ _ _ _ _ htr fun i hio hwi=>hw ⟨i,by have:=(o1 i hio).1;simpa using this,hwi⟩
   rw[this];exact inv.rf.at_ t ht
  . simp only[List.mem_range'_1,Nat.zero_le,true_and,Nat.zero_add];constructor
    . intro hi;refine⟨hi,?_⟩;rw[Array.getD_eq_getD_getElem?,Array.getElem?_eq_getElem (by simpa using hi)];simp
    . exact fun h=>h.1
  . obtain⟨m5,e1,e2,_⟩:=qws c2 i b x hm;have:loOf befs (louds is ord) i=0:=by omega
    rw[this]at e1;cases e1;exact hp1.fresh b e2
 |_=>cases e
theorem qzS (hle:nt<=4 ^ dp)(hrec:RecSound P rec)(hmix:P.follows .mixedOrders=true){id ops F m a w μ x F' m' Q}(h:St D P dp nt μ0 m0 w0 F m a w μ)(e:(qB9 P dp nt ops.toList).f rec F m=.go x F' m')(hq:∀ e a' w',Stands D P dp nt μ0 m0 w0 x F' m' e a' w'->Q e a' w'):(Code.region id ops true).wpIn (FW ro) 0 P Q a w:=by
 unfold qB9 qC0 at e;generalize hb:befL ops.toList []=befs at e;generalize hi:ops.toList.map (QT P ops.toList)=is at e;generalize (ordR befs is (rng 0 ops.toList.length) []).reverse=ord at e;rw[bi_eq]at e;split at e
 . exact qw6 (X:=none) hle hmix hi (.plain hb.symm) h e hq fun as bs ob fac _ _ _ hed wr hQ fuel listed c j F2 m2 a w μ2 g1 g2 g3 g4 g5 inv _=>qd4 fac hrec hed hQ fuel listed c j F2 m2 a w μ2 g1 g2 g3 g4 g5 inv
 .
  unfold qC1 at e;split at e
  case h_2=>cases e
  rename_i p q hl;split at e
  case h_2=>cases e
  rename_i ap aq ha hb';refine qw6 (X:=some (p,q)) hle hmix hi (.aug hb.symm) h e hq fun as bs ob fac hst hck hed0 hed wr hQ fuel listed c j F2 m2 a w μ2 g1 g2 g3 g4 g5 inv hno=>?_;rw[qu1,Bool.and_eq_true]at hck;exact qz5 fac hrec hb.symm rfl hed0 hl ha hb' hst hck.1 hck.2 hed hQ fuel listed c j F2 m2 a w μ2 g1 g2 g3 g4 g5 inv (hno q)
end
end E
end Go.Proofs.YtjnefcbeemkkeaaGreat

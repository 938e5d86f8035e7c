/-
  The interpreter is sound: regions whose order is drawn. No claim stands here.
-/
import Derived.Test.YtnnhdcidgfjfpaaGreatDoorECq
set_option linter.all false
namespace Go.Proofs.YtnnhdcidgfjfpaaGreatDoor
namespace E
section
variable {P:Program} {dp nt:Nat}
noncomputable def evv (P:Program)(dp:Nat)(F:T Value)(x:Operand):Value:=(ev P dp x).f F id
theorem qvL {β}(x F)(c:Value->β):(ev P dp x).f F c=c (evv P dp F x):=by
 unfold evv;cases x with
 |tmp t=>
  by_cases h:t<4 ^ dp
  . simp[ev,h,Nat.blt_eq]
  . simp[ev,h,Nat.blt_eq]
 |const v=>by_cases h:flat v=true<;>simp[ev,h]
 |global g=>rfl
 |func f=>rfl
def Agr (P:Program)(dp:Nat)(F G:T Value)(l:List Operand):Prop:=∀ x∈l,evv P dp F x=evv P dp G x
variable {F G:T Value}
theorem qwV {β}:∀ (l:List Operand) (c:List Value->β),Agr P dp F G l->evs P dp l F c=evs P dp l G c
 |[],c,_=>rfl
 |x::l,c,h=>by simp only[evs,qvL];rw[h x List.mem_cons_self];exact qwV l _ λy b=>h y (List.mem_cons_of_mem _ b)
theorem qv0 (b):∀ (d:List (Nat×Operand)) (l:List Value) (c:List Value->QV),(∀ p∈d,evv P dp F p.2=evv P dp G p.2)->(qxu P dp b d).f F l c=(qxu P dp b d).f G l c
 |[],l,c,_=>rfl
 |(i,x)::r,l,c,h=>by
  unfold qxu;split
  .
   simp only[qvL];rw[h (i,x) List.mem_cons_self];simp only[cellsF_eq,lenF_eq,bi_eq,layF_eq];split
   .
    split
    . split
      . exact qv0 b r _ c λp e=>h p (List.mem_cons_of_mem _ e)
      . rfl
    . rfl
   . rfl
  . rfl
theorem qxE (b z c)(h:Agr P dp F G b.toList):(bound P dp b).f F z c=(bound P dp b).f G z c:=by
 cases b with
 |none=>rfl
 |some x=>simp only[bound,qvL];rw[h x (by simp)]
theorem qbw {op}(m)(h:Agr P dp F G op.operands.toList):(quiet P dp op).f F m=(quiet P dp op).f G m:=by
 unfold quiet;split
 all_goals simp only[Op.operands,Call.operands,Agr,Array.toList_append,List.mem_append,List.mem_cons,List.not_mem_nil,or_false,forall_eq_or_imp,forall_eq,or_imp,forall_and,Option.toList_toArray]at h
 case h_4 t l=>
  unfold qy0;split
  . rfl
  .
   have d:∀ p∈l.toList,evv P dp F p.2=evv P dp G p.2:=λp d=>h p.2 (by grind);split
   . simp only[bi_eq];split
     . exact qv0 _ _ _ _ d
     . rfl
   . simp only[bi_eq];split
     . exact qv0 _ _ _ _ d
     . rfl
   . rfl
 all_goals try (simp only[qvL];simp only[h];done)
 case h_11 f a b=>
  have e:∀ (β:Type) (c:List Value->β),evs P dp a.toList F c=evs P dp a.toList G c:=λβ c=>qwV _ _ h.1;have g:∀ (β:Type) (c:List Value->β),evs P dp b.toList F c=evs P dp b.toList G c:=λβ c=>qwV _ _ h.2
  grind
 case h_12 t x i k=>
  have e:∀ (z:Nat) (c:Nat->QV),(bound P dp i).f F z c=(bound P dp i).f G z c:=λz c=>qxE _ _ _ h.1.1.2;have g:∀ (z:Nat) (c:Nat->QV),(bound P dp k).f F z c=(bound P dp k).f G z c:=λz c=>qxE _ _ _ h.1.2;have n:=h.1.1.1;unfold qAR
  repeat' first|rfl|(simp only[qvL,n,e,g];done)|(rw[bi_eq];split)|split
 all_goals (try unfold qCS);(try unfold ixQ);(try unfold qze);(try unfold lenQ)
 all_goals repeat' first|rfl|(simp only[qvL,h];done)|(rw[bi_eq];split)|split
theorem qA8 {op}(m)(h:Agr P dp F G op.operands.toList):(loud P dp op).f F m=(loud P dp op).f G m:=by
 unfold loud;split
 all_goals simp only[Op.operands,Call.operands,Agr,Array.toList_append,List.mem_append,List.mem_cons,List.not_mem_nil,or_false,false_or,forall_eq_or_imp,forall_eq,or_imp,forall_and,Option.toList_toArray]at h
 case h_3 t n d=>
  have f:∀ p∈d.toList,evv P dp F p.2=evv P dp G p.2:=λp f=>h p.2 (by grind);split
  .
   rename_i e _;unfold bslQ;split
   . rfl
   .
    rw[bi_eq];split
    . rfl
    . have g:∀ (b:Nat->Option (Nat×Nat)) (l:List Value) (c:List Value->QV),(qxu P dp b d.toList).f F l c=(qxu P dp b d.toList).f G l c:=λb l c=>qv0 b _ _ _ f
      grind
  . rfl
 all_goals repeat' first|rfl|(simp only[qvL,h];done)|(rw[bi_eq];split)|split
theorem qBf {op}(rec m)(h:Agr P dp F G op.operands.toList):(recR P dp op).f rec F m=(recR P dp op).f rec G m:=by
 unfold recR;split
 .
  rename_i c;unfold qwS;split
  . rename_i g e;have f:Agr P dp F G c.args.toList:=λx d=>h x (by simp[Op.operands,Call.operands];grind);have b:evv P dp F g=evv P dp G g:=h g (by simp[Op.operands,Call.operands,e]);have i:∀ (β:Type) (k:List Value->β),evs P dp c.args.toList F k=evs P dp c.args.toList G k:=λβ k=>qwV _ _ f;simp only[qvL,b,i]
  . rfl
 . rename_i x;have d:evv P dp F x=evv P dp G x:=h x (by simp[Op.operands]);simp only[qvL,d]
 . rfl
theorem qB5 {op}(h:noM op=true)(m m'):(quiet P dp op).f F m=(quiet P dp op).f F m':=by
 unfold noM at h;split at h
 all_goals try cases h
 all_goals unfold quiet
 all_goals simp only
 all_goals (try unfold qy0);(try unfold ixQ);(try unfold qze)
 all_goals repeat' first|rfl|contradiction|(rw[bi_eq];split)|split
noncomputable def effB (P:Program)(dp:Nat)(rec:Rec)(o:Oper)(F:T Value)(m:M):Option (Value×M):=
 if isQ P o.op=true then(match (quiet P dp o.op).f F m with|.val v=>some (v,m)|.no _=>none)
 else if isR o.op=true then(match (recR P dp o.op).f rec F m with|.ret v m'=>some (v,m')|_=>none)
 else(match (loud P dp o.op).f F m with|.ret v m'=>some (v,m')|_=>none)
noncomputable def gVal (P:Program)(dp:Nat)(ops:List Oper)(F:T Value)(g:Nat×Bool):Value:=match (ops[g.1]?).bind (·.dst)with
 |some d=>evv P dp F (.tmp d)
 |none=>unk
noncomputable def eff (P:Program)(dp:Nat)(rec:Rec)(ops:List Oper)(o:Oper)(F:T Value)(m:M):Option (Value×M):=match o.guard with
 |none=>effB P dp rec o F m
 |some g=>match gVal P dp ops F g with
  |.bool t=>if t=g.2 then effB P dp rec o F m else some (undef,m)
  |.tuple _=>some (undef,m)
  |_=>none
def pF (dp nt:Nat)(d:Option Tmp)(v:Value)(F:T Value):T Value:=match d with
 |none=>F
 |some d=>if d<nt then T.put dp d v F else F
theorem qvI {β}(d v)(c:T Value->β):(putD dp nt d).f v F c=c (pF dp nt d v F):=by
 cases d with
 |none=>rfl
 |some d=>by_cases h:d<nt<;>simp[putD,pF,Nat.blt_eq,h]
variable {rec:Rec} {ops:List Oper} {o:Oper} {m m':M}
theorem qx0 {v}(h:effB P dp rec o F m=some (v,m'))(k):(oper P dp nt o).f rec k F m=k (pF dp nt o.dst v F) m':=by
 unfold effB at h;unfold oper;rw[bi_eq];split at h
 . rename_i b;rw[if_pos b];simp only[qxY,qvI]
   grind
 .
  rename_i b;rw[if_neg b,bi_eq];split at h
  . rename_i c;rw[if_pos c];simp only[qvP,qvI]
    grind
  . rename_i c;rw[if_neg c];simp only[qvP,qvI]
    grind
theorem qzm (h:effB P dp rec o F m=none)(k F')(m'):(oper P dp nt o).f rec k F m≠.go .norm F' m':=by
 unfold effB at h;unfold oper;rw[bi_eq];split at h
 . rename_i b;rw[if_pos b];simp only[qxY,qvI]
   grind
 .
  rename_i b;rw[if_neg b,bi_eq];split at h
  . rename_i c;rw[if_pos c];simp only[qvP,qvI]
    grind
  . rename_i c;rw[if_neg c];simp only[qvP,qvI]
    grind
theorem qwh (g)(c):(guardOf P dp ops g).f F c=c (gVal P dp ops F g):=by
 unfold guardOf gVal;cases hd:(ops[g.1]?).bind (·.dst)with
 |none=>rfl
 |some d=>exact qvL _ _ _
theorem qw0 {v}(h:eff P dp rec ops o F m=some (v,m'))(k):(one1 P dp nt ops o).f rec k F m=k (pF dp nt o.dst v F) m':=by
 unfold eff at h;unfold one1;split at h
 . rename_i b;simp only[b];exact qx0 h k
 .
  rename_i g b;simp only[b,qwh,qzV,qvI];split at h
  . rename_i t d;simp only[d];split at h
    . rename_i c;rw[if_pos c];exact qx0 h k
    grind
  . grind
  grind
theorem qwZ (h:eff P dp rec ops o F m=none)(k F')(m'):(one1 P dp nt ops o).f rec k F m≠.go .norm F' m':=by
 unfold eff at h;unfold one1;split at h
 . rename_i b;simp only[b];exact qzm h k F' m'
 .
  rename_i g b;simp only[b,qwh,qzV,qvI];cases d:gVal P dp ops F g with
  |bool t=>
   simp only[d]at h;split at h
   . rename_i c;simp only;rw[if_pos c];exact qzm h k F' m'
   grind
  |tuple l=>grind
  |_=>simp
theorem qyB:∀ (l:List Operand) (t:Nat),.tmp t∈l->t∈tmpsOf l
 |[],t,h=>by cases h
 |x::l,t,h=>by
  rcases List.mem_cons.1 h with rfl|h2
  . exact List.mem_cons_self
  . have b:=qyB l t h2;cases x with
    |tmp s=>exact List.mem_cons_of_mem _ b
    |_=>exact b
theorem qBG (t:Nat):evv P dp F (.tmp t)=if t<4 ^ dp then T.look undef dp t F else unk:=by unfold evv;by_cases h:t<4 ^ dp<;>simp[ev,h,Nat.blt_eq]
theorem qEq (h:∀ t∈readsOf ops o,t<4 ^ dp->T.look undef dp t F=T.look undef dp t G):Agr P dp F G o.op.operands.toList/\∀ g,o.guard=some g->gVal P dp ops F g=gVal P dp ops G g:=by
 have c:∀ t∈readsOf ops o,evv P dp F (.tmp t)=evv P dp G (.tmp t):=λt e=>by
  rw[qBG,qBG]
  grind
 have b:∀ t∈tmpsOf o.op.operands.toList,t∈readsOf ops o:=λt e=>by
  unfold readsOf
  grind
 refine⟨λx i=>?_,λg k=>?_⟩
 .
  cases x with
  |tmp t=>exact c t (b t (qyB _ t i))
  |const v=>unfold evv;by_cases h:flat v=true<;>simp[ev,h]
  |global g=>rfl
  |func f=>rfl
 .
  unfold gVal;split
  . rename_i d hd;refine c d ?_;unfold readsOf
    grind
  . rfl
theorem qvS (h:∀ t∈readsOf ops o,t<4 ^ dp->T.look undef dp t F=T.look undef dp t G)(m):eff P dp rec ops o F m=eff P dp rec ops o G m:=by
 obtain⟨b,c⟩:=qEq (P:=P) h;have d:effB P dp rec o F m=effB P dp rec o G m:=by unfold effB;rw[qbw m b,qA8 m b,qBf rec m b]
 unfold eff
 grind
end
end E
end Go.Proofs.YtnnhdcidgfjfpaaGreatDoor
namespace Go.Proofs.YtnnhdcidgfjfpaaGreatDoor
namespace E
section
variable {P:Program} {μ:Mu} {dp nt:Nat} {F:T Value} {a:Act} {w w':World} {m m':M}
theorem qBL {ops:Array Oper}{g b}(h:∀ c:Value->Out,(guardOf P dp ops.toList g).f F c=c b):gVal P dp ops.toList F g=b:=by
 have d:=h λv=>.go (.pan v) F (.mk 0 .e);rw[qwh]at d
 grind
theorem qvF {D ro rec}(b:qN P rec){ops o}(h:St D P dp nt μ m w F m a w μ){v}(e:eff P dp rec ops.toList o F m=some (v,m')){K Q}(t:∀ c w1 d,St D P dp nt μ m w (pF dp nt o.dst v F) m' c w1 d->c=a.put o.dst (c.tmps.getD (o.dst.getD 0) Go.undef)\/True->K c w1):
  if Region.wanted o (yielded ops a.tmps)then o.wpIn (FW ro) 0 P a w K Q else K (a.put o.dst Go.undef) w:=by
 have run:∀ e:effB P dp rec o F m=some (v,m'),o.wpIn (FW ro) 0 P a w K Q:=λe=>qyp (k:=λF m=>.go .norm F m) (x:=.norm) (F':=pF dp nt o.dst v F) (m':=m') b (qx0 e _) h (λn u c w1 d i y=>by grind) (λe z w' p=>absurd rfl p);have skip:∀ e:some (undef,m)=some (v,m'),K (a.put o.dst Go.undef) w:=λe=>by
  cases e;obtain⟨n,i,A⟩:=qyd h o.dst λF=>F;rw[qvI]at i
  grind
 unfold eff at e;split at e
 . rename_i f;have l:Region.wanted o (yielded ops a.tmps)=true:=by simp only[Region.wanted,f]
   grind
 . rename_i g f;obtain⟨B,q,l⟩:=qwF (ops:=ops) (g:=g) h;obtain⟨r,s⟩:=l o f;rw[qBL q]at e
   grind
def AF (P:Program)(μ:Mu)(w:World)(s:Sem Next)(m:M)(v:Value)(m':M):Prop:=
 ∃ (ob:O) (f:Nat->Value),m.next<hdN/\v=f m.next/\m'=m.push ob/\∃ V w' x,s.run P w=.ok (.value V) w'/\x.b=w.heap.size/\w'.heap.size=w.heap.size+1/\(∀ b,b<w.heap.size->w'.heap[b]? = w.heap[b]?) /\
  (w'.os=w.os/\w'.output=w.output)/\(qyi P ob=true->x.o=0)/\∀ (id:Nat) (c:Mu),Ext μ c->c id=some x->OR c w' id ob/\R c (f id) V
theorem AF.cells {s t l vs V}{f:Nat->Value}(g:m.next<hdN)(run:s.run P w=.ok (.value V) (w.alloc (.cells vs t (0,0))))(q:l.length<=vs.size)(h:ones l)(i:∀ (j:Nat) (v:Value),l[j]? = some v->∃ u,vs[j]? = some u/\R μ v u)(k:∀ (id:Nat) (c:Mu),c id=some ⟨w.heap.size,0,vs.size⟩->R c (f id) V):AF P μ w s m (f m.next) (m.push (.cells 0 t l)):=by refine⟨.cells 0 t l,f,g,rfl,rfl,V,_,⟨w.heap.size,0,vs.size⟩,run,rfl,size_alloc _ _,λb r=>by rw[heap_alloc,if_neg (by omega)],⟨rfl,rfl⟩,λ_=>rfl,λid c n d=>⟨?_,k id c d⟩⟩;refine⟨⟨w.heap.size,0,vs.size⟩,vs,(0,0),d,by rw[heap_alloc,if_pos rfl],.inl rfl,rfl,by grind,h,λj v e=>?_⟩;obtain⟨u,x,p⟩:=i j v e;exact⟨u,by grind,p.mono n⟩
theorem qxF (L:RF μ dp nt F a.tmps)(N:Gl P μ){t n k v}(e:(loud P dp (.buildSlice t n k)).f F m=.ret v m')(dst ty pos after)(guard):
  AF P μ w (execOp a.eval ⟨dst,.buildSlice t n k,ty,pos,after,guard⟩) m v m':=by
 unfold loud at e;simp only at e;split at e
 .
  rename_i c g;have l:P.underlying t=some (.slice c)/\okT P c=true:=by
   unfold qza at g;split at g
   . rename_i e' l;simp only[bi_eq]at g
     grind
   grind
  unfold bslQ at e;split at e
  . cases e
  rename_i z Q;obtain⟨R,z2,_,y,U,z4⟩:=qzB Q;simp only[bi_eq,quZ]at e;split at e
  . cases e
  rename_i d;have d:n*szT P c<=1048576:=by simpa [room]using d
  simp only[qw8]at e;split at e
  .
   rename_i v0 C;obtain⟨W,Y⟩:=qxx (μ:=μ) R n;obtain⟨I,A,Z,J,g3,g4,g5⟩:=qwo L N k.toList _ _ C W Y;cases g4;simp only[qwX,natF_eq]at e;obtain⟨hn,rfl,rfl⟩:=qvs e;have K:I.length=n*szT P c:=by simp_all
   have p:RL μ I (⟨A⟩:Array Value).toList:=J;refine AF.cells (f:=slV n (szT P c)) (V:=.slice (some ⟨w.heap.size,0,none⟩) n n) (vs:=⟨A⟩) hn ?_ (by rw[p.size];omega) g3 p.cell ?_
   .
    have q:¬ (n*szT P c>2 ^ 24):=by omega
    have r:Instr.fill (λi=>some (i*szT P c,szT P c)) ⟨(List.replicate n z).flatten⟩ (k.toList.map λx=>(x.1,a.eval x.2))=some ⟨A⟩:=Z;have s:(k.map λx=>(x.1,a.eval x.2)).toList=k.toList.map λx=>(x.1,a.eval x.2):=Array.toList_map;by_cases B:n*szT P c=0
    . have b:(Array.range (n*szT P c)).map (λi=>(#[]:Array Value)[i % (#[]:Array Value).size]!)=⟨(List.replicate n z).flatten⟩:=by grind
      simp only[execOp,Instr.buildSlice,Sem.run_bind,run_underlying l.1,Result.andThen_ok,run_sizeOf (qu0 l.2),q,if_false,B,if_true,Sem.run_pure,pure_bind];rw[B]at b;rw[b,s,r];simp[newRow]
    . have b:(Array.range (n*szT P c)).map (λi=>y.cells[i % y.cells.size]!)=⟨(List.replicate n z).flatten⟩:=by
       apply Array.ext';have E:y.cells.size=szT P c:=by grind
       have u:0<szT P c:=Nat.pos_of_ne_zero λh=>B (by grind);rw[qf9 y.cells (szT P c) n E u,U]
      simp only[execOp,Instr.buildSlice,Sem.run_bind,run_underlying l.1,Result.andThen_ok,run_sizeOf (qu0 l.2),q,if_false,B,z4,Sem.run_pure];rw[b,s,r];simp[newRow]
   . intro id μ' H;refine .sl id 0 n (szT P c) ⟨w.heap.size,0,A.length⟩ n H (Nat.le_refl _) ?_;have:=J.1
     grind
  grind
 . cases e
theorem qEo (k:RF μ dp nt F a.tmps)(l:Gl P μ){op}(n:isA op=true){v}(e:(loud P dp op).f F m=.ret v m')(dst ty pos after)(guard):
  AF P μ w (execOp a.eval ⟨dst,op,ty,pos,after,guard⟩) m v m':=by
 have s:=e;unfold isA at n;split at n
 .
  rename_i t;unfold loud at e;simp only at e;split at e
  . rename_i z y;obtain⟨p,E,_,q,A,z4⟩:=qzB y;simp only[appF_eq,List.append_nil]at e;obtain⟨d,rfl,rfl⟩:=qvs e;refine AF.cells (f:=ptV) (V:=.pointer (some ⟨w.heap.size,0,none⟩)) (vs:=q.cells) d ?_ (by grind) (qw3 p) (RL.cell (by rw[A];exact qwp p)) λid g c=>.ptr id 0 ⟨w.heap.size,0,q.cells.size⟩ c;simp[execOp,Instr.alloc,z4,newVar,newRow]
  . cases e
 .
  rename_i t x;unfold loud at e;obtain⟨u,B,h⟩:=zt k l x;simp only[B,cellsF_eq]at e;split at e
  . rename_i i;obtain⟨r,C⟩:=h.cells i;obtain⟨d,rfl,rfl⟩:=qvs e;refine AF.cells (f:=ptV) (V:=.pointer (some ⟨w.heap.size,0,none⟩)) (vs:=(a.eval x).cells) d ?_ (by rw[r.size];omega) C r.cell λid g c=>.ptr id 0 ⟨w.heap.size,0,(a.eval x).cells.size⟩ c;simp[execOp,Instr.box,newVar,newRow]
  grind
 . exact qxF k l s ..
 . rename_i t;unfold loud at e;simp only at e;obtain⟨d,rfl,rfl⟩:=qvs e;refine⟨.map [] 0,λj=>.map (some j),d,rfl,rfl,.map (some w.heap.size),w.alloc (.map #[] 0),⟨w.heap.size,0,0⟩,by simp[execOp,Instr.makeMap],rfl,size_alloc _ _,λb H=>by rw[heap_alloc,if_neg (by omega)],⟨rfl,rfl⟩,λh=>(by cases h),λid g I c=>⟨?_,.map _ _ c⟩⟩;exact⟨_,#[],c,by rw[heap_alloc,if_pos rfl],rfl,by simp⟩
 grind
theorem qEp {op}(c:isA op=true){v}(e:(loud P dp op).f F m=.ret v m'):m.next<hdN/\∃ ob,m'=m.push ob:=by
 unfold isA at c;split at c
 .
  unfold loud at e;simp only at e;split at e
  . simp only[appF_eq,List.append_nil]at e;obtain⟨b,_,rfl⟩:=qvs e
    grind
  . cases e
 .
  unfold loud at e;simp only[qvL,cellsF_eq]at e;split at e
  . obtain⟨b,_,rfl⟩:=qvs e
    grind
  grind
 .
  unfold loud bslQ at e;simp only at e;split at e
  .
   split at e
   . cases e
   .
    rw[bi_eq]at e;split at e
    . cases e
    .
     simp only[qw8]at e;split at e
     . simp only[qwX,natF_eq]at e;split at e
       . obtain⟨b,_,rfl⟩:=qvs e
         grind
       grind
     grind
  . cases e
 . unfold loud at e;simp only at e;obtain⟨b,_,rfl⟩:=qvs e
   grind
 grind
inductive Pu:M->M->Prop
 |refl (x:M):Pu x x
 |step (x y:M) (o:O) (h:Pu x y) (hn:y.next<hdN):Pu x (y.push o)
theorem Pu.trans {a b c}(h:Pu a b)(k:Pu b c):Pu a c:=by
 induction k with
 |refl=>exact h
 |step y o f d e=>exact .step _ _ _ e d
theorem Hp.ghost (h:Hp P μ m w)(l:m.next<hdN)(o):Hp P μ (m.push o) w/\Gn μ m w μ (m.push o) w:=by
 have at_:∀ i x,μ i=some x->(m.push o).at i=m.at i:=λi x e=>by have:=h.idlt e;exact M.at_push_other m i o (Nat.lt_trans l qwG) (h.idroom e) (by omega)
 refine⟨⟨λi x e=>by rw[at_ i x e];exact h.obj i x e,λi b=>h.fresh i (by simp at b;omega),by simp;omega,λi x e d=>by rw[at_ i x e]at d;exact h.root i x e d,h.lt,λi j x y c b f g k=>?_⟩,
  ⟨.refl μ,by simp,Nat.le_refl _,λ_ _ _=>rfl,λi x n e=>?_,⟨rfl,rfl⟩,λ_ _=>rfl⟩⟩
 . rw[at_ i x g]at b;rw[at_ j y k]at f;exact h.inj i j x y c b f g k
 grind
theorem Hp.ghosts (h:Hp P μ m w)(b:Pu m m'):Hp P μ m' w/\Gn μ m w μ m' w:=by
 induction b with
 |refl=>exact⟨h,.refl _ _ _⟩
 |step m' o _ c d=>obtain⟨e,f⟩:=d;obtain⟨g,i⟩:=e.ghost c o;exact⟨g,f.trans i⟩
theorem Hp.late (h:Hp P μ m w){i x ob}(E:i<m.next)(r:μ i=none)(u:m.at i=ob)(H:x.b=w.heap.size)(v:w'.heap.size=w.heap.size+1)(heap:∀ b,b<w.heap.size->w'.heap[b]? = w.heap[b]?)(I:OR (μ.set i x) w' i ob)(A:w'.os=w.os/\w'.output=w.output)(s:qyi P ob=true->x.o=0):
  Hp P (μ.set i x) m w'/\Ext μ (μ.set i x)/\(∀ q,q≠i->(μ.set i x) q=μ q)/\w.heap.size<=w'.heap.size/\(∀ b,b<w.heap.size->w'.heap[b]? = w.heap[b]?):=by
 have d:=Mu.set_ext x r;refine⟨⟨λq y e=>?_,λq c=>by rw[Mu.set_other μ x (by omega)];exact h.fresh q c,h.room,λq y e B=>?_,λq y e=>?_,λp q y z g C c k f=>?_⟩,d,λq c=>Mu.set_other μ x c,by omega,heap⟩
 .
  by_cases c:q=i
  . grind
  . rw[Mu.set_other μ x c]at e;exact(h.obj q y e).mono d λz t=>by rw[e]at t;cases t;exact heap y.b (h.lt q y e)
 .
  by_cases c:q=i
  . subst c;rw[Mu.set_same]at e;grind
  . rw[Mu.set_other μ x c]at e;exact h.root q y e B
 .
  by_cases c:q=i
  . subst c;rw[Mu.set_same]at e;grind
  . rw[Mu.set_other μ x c]at e;have:=h.lt q y e;omega
 .
  by_cases l:p=i
  . subst l;rw[Mu.set_same]at k;cases k;rw[Mu.set_other μ x (λe=>g e.symm)]at f;have:=h.lt q z f;omega
  . rw[Mu.set_other μ x l]at k;by_cases n:q=i
    . subst n;rw[Mu.set_same]at f;cases f;have:=h.lt p y k;omega
    . rw[Mu.set_other μ x n]at f;exact h.inj p q y z g C c k f
end
end E
end Go.Proofs.YtnnhdcidgfjfpaaGreatDoor
namespace Go.Proofs.YtnnhdcidgfjfpaaGreatDoor
namespace E
section
variable {P:Program} {dp nt:Nat} {rec:Rec} {ops:List Oper} {is:List Info}
def Tr (P:Program)(dp nt:Nat)(rec:Rec)(ops:List Oper)(is:List Info):List Nat->T Value->M->T Value->M->List M->List M->List (Nat×Nat×O)->Prop
 |[],F,m,Fn,mn,as,bs,ob=>Fn=F/\mn=m/\as=[]/\bs=[m]/\ob=[]
 | i::l,F,m,Fn,mn,as,bs,ob=>∃ o v e b c d,ops[i]? = some o/\eff P dp rec ops o F m=some (v,e)/\Tr P dp nt rec ops is l (pF dp nt o.dst v F) e Fn mn b c d /\
   ((at_ is i).k=3->as=e::b/\bs=m::c)/\((at_ is i).k≠3->as=b/\bs=c)/\((at_ is i).k=2/\m.next≠e.next->ob=(i,m.next,e.at m.next)::d)/\(¬ ((at_ is i).k=2/\m.next≠e.next)->ob=d)
theorem qx3:∀ (l:List Nat) (F:T Value) (m:M) (k:T Value->M->List M->List M->List (Nat×Nat×O)->Out) (F':T Value) (m':M),(runD P dp nt ops is l).f rec F m k=.go .norm F' m' ->
  ∃ Fn mn as bs ob,Tr P dp nt rec ops is l F m Fn mn as bs ob/\k Fn mn as bs ob=.go .norm F' m'
 |[],F,m,k,F',m',e=>⟨F,m,[],[m],[],⟨rfl,rfl,rfl,rfl,rfl⟩,e⟩
 |i::l,F,m,k,F',m',e=>by
  unfold runD at e;split at e
  . cases e
  .
   rename_i o q;cases b:eff P dp rec ops o F m with
   |none=>
    exfalso;rw[bi_eq]at e;split at e
    . exact qwZ b _ _ _ e
    . rw[bi_eq]at e;split at e
      . exact qwZ b _ _ _ e
      . exact qwZ b _ _ _ e
   |some y=>
    obtain⟨v,d⟩:=y;rw[bi_eq]at e;split at e
    . rename_i c;have c:(at_ is i).k=3:=Nat.eq_of_beq_eq_true c;simp only[qw0 b]at e;obtain⟨Fn,mn,as,bs,ob,f,g⟩:=qx3 l _ _ _ _ _ e;exact⟨Fn,mn,d::as,m::bs,ob,⟨o,v,d,as,bs,ob,q,b,f,λ_=>⟨rfl,rfl⟩,λh=>absurd c h,λh=>(by omega),λ_=>rfl⟩,g⟩
    .
     rename_i c;have c:(at_ is i).k≠3:=λh=>c (by rw[h];rfl);rw[bi_eq]at e;split at e
     . rename_i n;have n:(at_ is i).k=2:=Nat.eq_of_beq_eq_true n;simp only[qw0 b,bi_eq]at e;split at e
       . rename_i p;have p:m.next=d.next:=Nat.eq_of_beq_eq_true p;obtain⟨Fn,mn,as,bs,ob,f,g⟩:=qx3 l _ _ _ _ _ e;exact⟨Fn,mn,as,bs,ob,⟨o,v,d,as,bs,ob,q,b,f,λh=>absurd h c,λ_=>⟨rfl,rfl⟩,λh=>absurd p h.2,λ_=>rfl⟩,g⟩
       . rename_i p;have p:m.next≠d.next:=λh=>p (by simp_all);simp only[M.get_eq,natF_eq]at e;obtain⟨Fn,mn,as,bs,ob,f,g⟩:=qx3 l _ _ _ _ _ e;exact⟨Fn,mn,as,bs,(i,m.next,d.at m.next)::ob,⟨o,v,d,as,bs,ob,q,b,f,λh=>absurd h c,λ_=>⟨rfl,rfl⟩,λ_=>rfl,λh=>absurd ⟨n,p⟩ h⟩,g⟩
     . rename_i n;have n:(at_ is i).k≠2:=λh=>n (by rw[h];rfl);simp only[qw0 b]at e;obtain⟨Fn,mn,as,bs,ob,f,g⟩:=qx3 l _ _ _ _ _ e;exact⟨Fn,mn,as,bs,ob,⟨o,v,d,as,bs,ob,q,b,f,λh=>absurd h c,λ_=>⟨rfl,rfl⟩,λh=>absurd h.1 n,λ_=>rfl⟩,g⟩
theorem at_eq (b:is=ops.map (QT P ops)){i o}(c:ops[i]? = some o):at_ is i=QT P ops o:=by subst b;simp[at_,c]
theorem qxz {op}(h:kindOf P op<2):isQ P op=true:=by
 unfold kindOf at h;rw[bi_eq]at h;split at h
 . omega
 . rw[bi_eq]at h;split at h<;>omega
theorem qDh {op}(h:kindOf P op=0):noM op=true:=by
 unfold kindOf at h;rw[bi_eq]at h;split at h
 . simp_all
 . rw[bi_eq]at h;split at h<;>omega
theorem qDi {op}(h:kindOf P op=2):isA op=true/\isQ P op≠true/\isR op≠true:=by
 unfold kindOf at h;rw[bi_eq]at h;split at h
 . rw[bi_eq]at h;split at h<;>omega
 .
  rename_i c;rw[bi_eq]at h;split at h
  . rename_i b;refine⟨b,c,λd=>?_⟩;cases op<;>first|(cases d;done)|(cases b;done)
  . omega
theorem qy9 {o F m b v}(c:isQ P o.op=true)(e:eff P dp rec ops o F m=some (v,b)):b=m:=by
 have d:∀ {v b},effB P dp rec o F m=some (v,b)->b=m:=by
  intro v b e;unfold effB at e
  grind
 unfold eff at e
 grind
theorem qAu {o F m c v}(d:isQ P o.op=true)(f:noM o.op=true)(e:effB P dp rec o F m=some (v,c))(b):effB P dp rec o F b=some (v,b):=by
 unfold effB at e |-;rw[if_pos d]at e |-;rw[qB5 f b m];cases g:(quiet P dp o.op).f F m with
 |val u=>grind
 |no k=>grind
theorem qBD {o F m i v}(d:isQ P o.op=true)(f:noM o.op=true)(e:eff P dp rec ops o F m=some (v,i))(b):eff P dp rec ops o F b=some (v,b):=by
 unfold eff at e |-;cases h:o.guard with
 |none=>rw[h]at e;exact qAu d f e b
 |some g=>
  rw[h]at e;simp only at e |-;cases k:gVal P dp ops F g with
  |bool t=>
   rw[k]at e;simp only at e |-;split at e
   . rename_i c;rw[if_pos c];exact qAu d f e b
   grind
  |tuple l=>grind
  |_=>grind
theorem qBo {a b:Nat}(h:a≠b):Nat.beq a b=false:=by
 cases c:Nat.beq a b with
 |false=>rfl
 |true=>simp_all
theorem qFO {o F m b v}(c:isA o.op=true)(d:isQ P o.op≠true)(f:isR o.op≠true)(e:eff P dp rec ops o F m=some (v,b)):b=m\/(m.next<hdN/\∃ ob,b=m.push ob):=by
 have g:effB P dp rec o F m=some (v,b)->(m.next<hdN/\∃ ob,b=m.push ob):=by
  intro e;unfold effB at e;rw[if_neg d,if_neg f]at e;split at e
  . rename_i h;cases e;exact qEp c h
  grind
 unfold eff at e
 grind
theorem Tr.pu1 {i}(b:is=ops.map (QT P ops)){o}(f:ops[i]? = some o)(c:(at_ is i).k≠3){F m d v}(e:eff P dp rec ops o F m=some (v,d)):Pu m d:=by
 rw[at_eq b f]at c;have c:kindOf P o.op≠3:=c;by_cases g:kindOf P o.op=2
 .
  obtain⟨h,k,l⟩:=qDi g;rcases qFO h k l e with rfl|⟨n,ob,rfl⟩
  . exact .refl _
  . exact .step _ _ _ (.refl _) n
 .
  have:kindOf P o.op<2:=by
   have:kindOf P o.op<=3:=by unfold kindOf;simp only[bi_eq];split<;>split<;>omega
   omega
  rw[qy9 (qxz this) e];exact .refl _
theorem Tr.mem (b:is=ops.map (QT P ops)):∀ (l:List Nat) (F:T Value) (m:M) (Fn:T Value) (mn:M) (as bs:List M) (ob:List (Nat×Nat×O)),Tr P dp nt rec ops is l F m Fn mn as bs ob ->
  as.length=(louds is l).length/\bs.length=(louds is l).length+1/\bs[(louds is l).length]? = some mn/\(∃ e,bs[0]? = some e/\Pu m e)/\∀ d f,as[d]? = some f->∃ n,bs[d+1]? = some n/\Pu f n
 |[],F,m,Fn,mn,as,bs,ob,h=>by obtain⟨rfl,rfl,rfl,rfl,rfl⟩:=h;exact⟨rfl,rfl,rfl,⟨_,rfl,.refl _⟩,λd f h=>by grind⟩
 |i::l,F,m,Fn,mn,as,bs,ob,h=>by
  obtain⟨o,v,y,p,q,r,s,t,u,x,g,_,_⟩:=h;obtain⟨t1,t2,t3,⟨e,t4,t5⟩,t6⟩:=Tr.mem b l _ _ _ _ _ _ _ u;by_cases c:(at_ is i).k=3
  . obtain⟨rfl,rfl⟩:=x c;have k:(louds is (i::l)).length=(louds is l).length+1:=by simp[louds,c]
    rw[k];refine⟨by grind,by grind,by grind,⟨m,rfl,.refl _⟩,λd f h=>?_⟩
    grind
  . obtain⟨rfl,rfl⟩:=g c;have k:(louds is (i::l)).length=(louds is l).length:=by have:(Nat.beq (at_ is i).k 3)=false:=qBo c;simp[louds,this]
    rw[k];exact⟨t1,t2,t3,⟨e,t4,(Tr.pu1 b s c t).trans t5⟩,t6⟩
def Wrt (is:List Info)(nt i t:Nat):Prop:=(at_ is i).dst=some t/\t<nt
theorem qyN (b:nt<=4 ^ dp){d:Option Tmp}{v F}{t:Nat}(f:t<4 ^ dp)(h:¬ (d=some t/\t<nt)):T.look undef dp t (pF dp nt d v F)=T.look undef dp t F:=by
 cases d with
 |none=>rfl
 |some d=>
  unfold pF;simp only;split
  . rename_i hd;have c:=Nat.lt_of_lt_of_le hd b;exact T.look_put_other _ _ _ _ _ _ f c λe=>h ⟨by rw[e],by grind⟩
  . rfl
theorem qzZ {d v F}(hd:d<nt):T.look undef dp d (pF dp nt (some d) v F)=v:=by unfold pF;simp only;rw[if_pos hd];exact T.look_put_same _ _ _ _ _
theorem Tr.look (b:nt<=4 ^ dp)(c:is=ops.map (QT P ops)){t}(e:t<4 ^ dp):∀ (l:List Nat) (F:T Value) (m:M) (Fn:T Value) (mn:M) (as bs:List M) (ob:List (Nat×Nat×O)),Tr P dp nt rec ops is l F m Fn mn as bs ob ->
  (∀ x∈l,¬ Wrt is nt x t)->T.look undef dp t Fn=T.look undef dp t F
 |[],F,m,Fn,mn,as,bs,ob,h,_=>by rw[h.1]
 |i::l,F,m,Fn,mn,as,bs,ob,h,f=>by obtain⟨o,v,r,g,k,n,p,s,d,_⟩:=h;rw[Tr.look b c e l _ _ _ _ _ _ _ d λx q=>f x (List.mem_cons_of_mem _ q)];refine qyN b e λh=>f i List.mem_cons_self ?_;unfold Wrt;rw[at_eq c p];exact h
theorem Tr.split (b:nt<=4 ^ dp)(c:is=ops.map (QT P ops)){i s}:∀ (p:List Nat) (F:T Value) (m:M) (Fn:T Value) (mn:M) (as bs:List M) (ob:List (Nat×Nat×O)),Tr P dp nt rec ops is (p++i::s) F m Fn mn as bs ob ->
  ∃ o l g v f,ops[i]? = some o/\eff P dp rec ops o l g=some (v,f)/\(∀ t,t<4 ^ dp->(∀ x∈p,¬ Wrt is nt x t)->T.look undef dp t l=T.look undef dp t F) /\
   (∀ t,t<4 ^ dp->(∀ x∈i::s,¬ Wrt is nt x t)->T.look undef dp t Fn=T.look undef dp t l) /\
   (∀ d,o.dst=some d->d<nt->(∀ x∈s,¬ Wrt is nt x d)->T.look undef dp d Fn=v) /\
   ((at_ is i).k=3->bs[(louds is p).length]? = some g/\as[(louds is p).length]? = some f)/\((at_ is i).k=2->g.next≠f.next->(i,g.next,f.at g.next)∈ob)
 |[],F,m,Fn,mn,as,bs,ob,h=>by
  obtain⟨o,v,f,n,q,r,A,H,e,B,_,J,_⟩:=h;refine⟨o,F,m,v,f,A,H,λ_ _ _=>rfl,λt C k=>?_,λd hd u k=>?_,λz=>?_,λz K=>?_⟩
  . exact Tr.look b c C (i::s) F m Fn mn as bs ob ⟨o,v,f,n,q,r,A,H,e,B,by omega,J,by omega⟩ k
  . rw[Tr.look b c (Nat.lt_of_lt_of_le u b) s _ _ _ _ _ _ _ e k,hd];exact qzZ u
  . obtain⟨rfl,rfl⟩:=B z;exact⟨rfl,rfl⟩
  grind
 |x::p,F,m,Fn,mn,as,bs,ob,h=>by
  obtain⟨o,v,f,n,q,r,A,H,e,B,I,J,L⟩:=h;obtain⟨N,l,g,Q,R,U,V,W,Y,Z,a6,a7⟩:=Tr.split b c p _ _ _ _ _ _ _ e;refine⟨N,l,g,Q,R,U,V,λt C k=>?_,Y,Z,λz=>?_,λz K=>?_⟩
  . rw[W t C λy hy=>k y (List.mem_cons_of_mem _ hy)];refine qyN b C λh=>k x List.mem_cons_self ?_;unfold Wrt;rw[at_eq c A];exact h
  .
   obtain⟨b1,b2⟩:=a6 z;by_cases E:(at_ is x).k=3
   . obtain⟨rfl,rfl⟩:=B E;have hl:(louds is (x::p)).length=(louds is p).length+1:=by simp[louds,E]
     grind
   . obtain⟨rfl,rfl⟩:=I E;have hl:(louds is (x::p)).length=(louds is p).length:=by have:(Nat.beq (at_ is x).k 3)=false:=qBo E;simp[louds,this]
     grind
  grind
end
end E
end Go.Proofs.YtnnhdcidgfjfpaaGreatDoor
namespace Go.Proofs.YtnnhdcidgfjfpaaGreatDoor
namespace E
section
variable {P:Program} {dp nt:Nat} {rec:Rec} {ops:List Oper} {is:List Info} {befs:List Nat}
theorem qzR {n}:∀ {l:List Nat},inL n l=true↔n∈l
 |[]=>by simp[inL]
 |x::l=>by
  unfold inL;rw[bi_eq];by_cases h:x=n
  . simp_all
  . rw[qBo h];simp only[Bool.false_eq_true,if_false,qzR,List.mem_cons]
    grind
theorem qxS {d l}:inD d l=true↔∃ t,d=some t/\t∈l:=by
 cases d with
 |none=>simp[inD]
 |some d=>simp[inD,qzR]
theorem qve {x y}(h:qzn befs is x y=true):x≠y/\(∀ t,(at_ is x).dst=some t->(at_ is y).dst≠some t)/\(∀ t,(at_ is y).dst=some t->t∈(at_ is x).rd->bef befs y x=true/\(at_ is x).k≠1) /\
  (bef befs y x=true\/((∀ t,(at_ is x).dst=some t->t∉(at_ is y).rd)/\¬ ((at_ is x).k=3/\2<=(at_ is y).k))):=by
 unfold qzn at h;simp only[qu6,qx1,quZ,Bool.and_eq_true,Bool.or_eq_true,Bool.not_eq_true']at h;obtain⟨n,i,b,c⟩:=h;refine⟨λe=>?_,λt d f=>?_,λt f g=>?_,c.imp id λc=>?_⟩
 . simp_all
 . rw[d,f]at i;simp[eqD]at i
 .
  rcases b with b|⟨b,k⟩
  . have:inD (at_ is y).dst (at_ is x).rd=true:=qxS.2 ⟨t,f,g⟩
    grind
  . exact⟨b,λe=>by simp_all⟩
 .
  rw[Bool.or_eq_false_iff]at c;refine⟨λt d g=>?_,λl=>?_⟩
  . have:inD (at_ is x).dst (at_ is y).rd=true:=qxS.2 ⟨t,d,g⟩
    grind
  . have:(Nat.beq (at_ is x).k 3&&Nat.ble 2 (at_ is y).k)=true:=by simp[Nat.ble_eq,l]
    grind
theorem qAJ {n}:∀ {l:List Nat},qB7 befs is n l=true->(∀ x∈l,x<n/\(∀ t,(at_ is x).dst=some t->t∈(at_ is x).rd->(at_ is x).k≠1))/\l.Pairwise λx y=>qzn befs is x y=true
 |[],_=>⟨by simp,.nil⟩
 |x::l,h=>by
  unfold qB7 at h;simp only[qu6,quZ,Bool.and_eq_true,Bool.not_eq_true',List.all_eq_true]at h;obtain⟨i,k,c,d⟩:=h;obtain⟨p,e⟩:=qAJ d;refine⟨λy b=>?_,.cons c e⟩;rcases List.mem_cons.1 b with rfl|b
  . refine⟨by simp_all,λt hd f g=>?_⟩;have:(inD (at_ is y).dst (at_ is y).rd&&Nat.beq (at_ is y).k 1)=true:=by rw[qxS.2 ⟨t,hd,f⟩,g];rfl
    grind
  grind
theorem xn:∀ {l:List Oper} {j:Nat},vw j l=true->∀ (k:Nat) o,l[k]? = some o->∀ e∈o.after,Region.binds .any e=true->e.on<j+k
 |[],j,_,k,o,h=>by grind
 |x::l,j,h,k,o,b=>by
  simp only[vw,qu6,qx1,quZ,Bool.and_eq_true,List.all_eq_true,Bool.or_eq_true,Bool.not_eq_true']at h;intro e c d;cases k with
  |zero=>
   simp only[List.getElem?_cons_zero,Option.some.injEq]at b;subst b;rcases h.1 e (by grind)with h'|h'
   . grind
   simp_all
  |succ k=>have:=xn h.2 k o (by grind) e c d;omega
def Down (ops:List Oper)(S:Nat->Prop):Prop:=∀ (j:Nat) o,ops[j]? = some o->S j->∀ e∈o.after,Region.binds .any e=true->S e.on
theorem Qh {b i}:∀ {l:List Edge},(befE b l).testBit i=true->∃ e∈l,Region.binds .any e=true/\(e.on=i\/((b[e.on]?).getD 0).testBit i=true)
 |[],h=>by simp[befE]at h
 |e::l,h=>by
  simp only[befE,bi_eq]at h;split at h
  .
   rename_i g;have h:(2 ^ e.on ||| (((b[e.on]?).getD 0) ||| befE b l)).testBit i=true:=h;simp only[Nat.testBit_or,Bool.or_eq_true]at h;rcases h with h|h|h
   . grind
   . grind
   . obtain⟨c,d,f⟩:=Qh h
     grind
  . obtain⟨c,d,f⟩:=Qh h
    grind
def Fed (ops:List Oper)(S:Nat->Prop)(j:Nat):Prop:=∀ o,ops[j]? = some o->∀ e∈o.after,Region.binds .any e=true->S e.on
theorem YD {all}:∀ (rest:List Oper) (b:List Nat),(∀ k,rest[k]? = all[b.length+k]?)->(∀ (j:Nat) m,b[j]? = some m->∀ i,m.testBit i=true->∀ S,Down all S->Fed all S j->S i) ->
  ∀ (j:Nat) m,(befL rest b)[j]? = some m->∀ i,m.testBit i=true->∀ S,Down all S->Fed all S j->S i
 |[],b,_,h,j,l,e=>h j l e
 |o::rest,b,g,h,j,m,e=>by
  refine YD rest _ (λk=>?_) (λj m e i hi S n r=>?_) j m e
  . have:=g (k+1)
    grind
  .
   by_cases s:j<b.length
   . grind
   .
    rw[List.getElem?_append_right (by omega)]at e;have c:j=b.length:=by grind
    subst c;simp only[Nat.sub_self,List.getElem?_cons_zero,Option.some.injEq]at e;subst e;obtain⟨d,u,t,hi⟩:=Qh hi;have f:all[b.length]? = some o:=by have:=g 0;grind
    have p:=r o f d (by grind) t;rcases hi with rfl|hi
    . exact p
    . cases q:b[d.on]? with
      |none=>grind
      |some m'=>simp only[q,Option.getD_some]at hi;exact h d.on m' q i hi S n λo f=>n _ o f p
theorem qwC (d:befs=befL ops []){i j}(h:bef befs j i=true):∀ S,Down ops S->Fed ops S j->S i:=by
 unfold bef at h;subst d;cases c:(befL ops [])[j]? with
 |none=>grind
 |some l=>simp only[c,Option.getD_some]at h;exact λS f b=>YD ops [] (λk=>by simp) (λj l e=>by grind) j l c i h S f b
theorem qwQ (c:befs=befL ops []){i j}(h:bef befs j i=true):∀ S,Down ops S->S j->S i:=λS b d=>qwC c h S b λo e=>b j o e d
def Dn (ops:List Oper)(X:Option (Nat×Nat))(S:Nat->Prop):Prop:=Down ops S/\∀ p q,X=some (p,q)->S q->S p
structure qAY (ops:List Oper) (X:Option (Nat×Nat)) (befs:List Nat):Prop where
 snd:∀ {i j},bef befs j i=true->∀ S,Dn ops X S->S j->S i
 fed:∀ {i j},bef befs j i=true->∀ S,Down ops S->Fed ops S j->(∀ p,X=some (p,j)->S p)->S i
theorem qAY.plain (c:befs=befL ops []):qAY ops none befs:=⟨λh S b d=>qwQ c h S b.1 d,λh S b e _=>qwC c h S b e⟩
theorem qwB {p q j i}(h:bef (augB befs p q) j i=true):bef befs j i=true\/(j=q/\i=p):=by
 unfold bef augB at h;rw[List.getElem?_set]at h;split at h
 .
  rename_i b;subst b;split at h
  . simp only[Option.getD_some]at h;have h:(((befs[q]?).getD 0) ||| 2 ^ p).testBit i=true:=h;rw[Nat.testBit_or,Bool.or_eq_true]at h;rcases h with h|h
    . exact .inl h
    grind
  grind
 . exact .inl h
theorem qAY.aug {p q}(c:befs=befL ops []):qAY ops (some (p,q)) (augB befs p q):=by
 refine⟨λh S b d=>?_,λh S b e f=>?_⟩
 .
  rcases qwB h with h|⟨rfl,rfl⟩
  . exact qwQ c h S b.1 d
  . exact b.2 _ _ rfl d
 .
  rcases qwB h with h|⟨rfl,rfl⟩
  . exact qwC c h S b e
  grind
theorem qC9 (g:befs=befL ops [])(f:vw 0 ops=true){i j}(h:bef befs j i=true):i<j:=
 qwC g h (λk=>k<j) (λk o c l e d b=>by
  have:=xn f k o c e d b;omega) λo c e d b=>by
  have:=xn f j o c e d b;omega
theorem qxc {f}(c:∀ a b,f a b=true->a=b):∀ {l m:List Value},allV f l m=true->l=m
 |[],[],_=>rfl
 |a::l,b::m,h=>by
  unfold allV at h;rw[bi_eq]at h;split at h
  . rename_i d;rw[c a b d,qxc c h]
  grind
 |[],_::_,h=>by cases h
 |_::_,[],h=>by cases h
theorem qCK:∀ {n:Nat} {a b:Value},veq n a b=true->a=b
 |0,a,b,h=>by cases h
 |n+1,a,b,h=>by
  have c:∀ a b,veq n a b=true->a=b:=λa b h=>qCK h;unfold veq at h;split at h
  all_goals try simp only[bi_eq,quZ]at h
  . grind
  . split at h
    . rename_i f;rw[qAv]at h;rw[qxm (Nat.eq_of_beq_eq_true f),eq_of_beq h]
    grind
  . rename_i a b;rw[qzb]at h;have d:=eq_of_beq h;have e:a.data=b.data:=Array.toList_inj.1 d;rw[show a=b from ByteArray.ext e]
  . rfl
  . simp_all
  . simp_all
  . simp_all
  . rfl
  . simp_all
  . rfl
  . rfl
  .
   split at h
   . rename_i d;split at h
     . rename_i e;rw[Nat.eq_of_beq_eq_true d,qxc c e,qxc c h]
     grind
   grind
  . split at h
    . rename_i d;rw[Nat.eq_of_beq_eq_true d,c _ _ h]
    grind
  . rw[qxc c h]
  . rw[qxc c h]
  grind
theorem qEZ {a b}(h:oeq a b=true):a=b:=by
 unfold oeq at h;split at h
 .
  rename_i r t l r' e f;simp only[bi_eq,qu6]at h;split at h
  . rename_i c;rw[Bool.and_eq_true]at c;split at h
    . rename_i d;have:r=r':=(Nat.eq_of_beq_eq_true c.1).trans (Nat.eq_of_beq_eq_true c.2).symm;rw[this,Nat.eq_of_beq_eq_true d,qxc (λa b h=>qCK h) h]
    grind
  grind
 . simp_all
 grind
theorem qAO {a x}:∀ {l:List M},qCl a x l=true->∀ m∈l,a<m.next/\m.at a=x
 |[],_,m,hm=>by cases hm
 |y::l,h,m,hm=>by
  unfold qCl at h;simp only[bi_eq,M.get_eq]at h;split at h
  .
   rename_i c;split at h
   . rename_i b;rcases List.mem_cons.1 hm with rfl|hm
     . exact⟨by simp_all,(qEZ b).symm⟩
     . exact qAO h m hm
   grind
  grind
theorem qAP {o F}:∀ {l:List M},qCm P dp nt ops o F rec l=true->∀ m∈l,∃ v f,eff P dp rec ops o F m=some (v,f)/\∀ d,o.dst=some d->d<nt->T.look undef dp d F=T.look undef dp d (pF dp nt o.dst v F)
 |[],_,m,hm=>by cases hm
 |y::l,h,m,hm=>by
  unfold qCm at h;rw[bi_eq]at h;have e:∀ c x:Bool,(if c=true then x else false)=true->c=true/\x=true:=by grind
  obtain⟨b,k⟩:=e _ _ h;rcases List.mem_cons.1 hm with rfl|hm
  .
   cases i:eff P dp rec ops o F m with
   |none=>
    exfalso;cases g:(one1 P dp nt ops o).f rec (λF' m'=>Out.go .norm F' m') F m with
    |no w=>rw[g]at b;cases b
    |go x F' m'=>
     rw[g,qvo]at b;cases x with
     |norm=>exact qwZ i _ _ _ g
     |_=>cases b
   |some r=>
    obtain⟨v,f⟩:=r;refine⟨v,f,rfl,λd hd n=>?_⟩;rw[qw0 i,qvo]at b;simp only[qyo,hd,bi_eq,T.get_eq]at b;have p:Nat.blt d nt=true:=by simp_all
    rw[if_pos p]at b;rw[hd];exact qCK b
  . exact qAP k m hm
theorem qAK {α b c j l}{x:α}(h:l[j]? = some x)(d:b<=j)(e:j<=c):x∈qBc b c l:=by
 unfold qBc;refine List.mem_of_getElem? (i:=j-b) ?_
 grind
theorem qBy {p}:∀ {cs:List Nat} {j:Nat},(∀ d c,cs[d]? = some c->p c=true->d<j)->cnt p cs<=j
 |[],j,_=>Nat.zero_le _
 |x::l,j,h=>by
  unfold cnt;rw[bi_eq];have f:=qBy (p:=p) (cs:=l) (j:=j-1) λd c g b=>by have:=h (d+1) c (by grind) b;omega
  split
  . rename_i e;have:=h 0 x rfl e;omega
  . omega
theorem qBx {p}:∀ {cs:List Nat} {j:Nat},j<=cs.length->(∀ d c,d<j->cs[d]? = some c->p c=true)->j<=cnt p cs
 |[],j,h,_=>h
 |x::l,j,b,h=>by
  cases j with
  |zero=>omega
  |succ j=>unfold cnt;rw[bi_eq,if_pos (h 0 x (by omega) rfl)];have:=qBx (p:=p) (cs:=l) (j:=j) (by grind) λd c hd e=>h (d+1) c (by omega) (by grind);omega
theorem qy5 {cs F bs}:∀ {l:List Nat},qy4 P dp nt ops befs is cs rec F bs l=true->∀ i∈l,(at_ is i).k=1->∀ o,ops[i]? = some o->qCm P dp nt ops o F rec (qBc (loOf befs cs i) (hiOf befs cs i) bs)=true
 |[],_,i,hi=>by cases hi
 |x::l,h,i,hi=>by
  unfold qy4 at h;rw[qu6,Bool.and_eq_true,bi_eq]at h;rcases List.mem_cons.1 hi with rfl|hi
  . intro b o c;simp_all
  . exact qy5 h.2 i hi
theorem qwT {cs as bs}:∀ {l:List (Nat×Nat×O)},qy6 befs cs as bs l=true->∀ i a x,(i,a,x)∈l->∃ m,as[loOf befs cs i]? = some m/\m.next<=a/\qCl a x (qBc (loOf befs cs i) (hiOf befs cs i) bs)=true
 |[],_,i,a,x,hi=>by cases hi
 |(d,e,x')::l,h,i,a,x,hi=>by
  unfold qy6 at h;rw[qu6,Bool.and_eq_true]at h;rcases List.mem_cons.1 hi with c|hi
  . cases c;have b:=h.1;split at b
    . rename_i m f;rw[qu6,Bool.and_eq_true]at b;simp_all
    grind
  . exact qwT h.2 i a x hi
theorem qxV {n}:∀ {l:List (Nat×Nat×O)},qzi n l=true->(∀ r∈l,n<=r.2.1)/\∀ r∈l,∀ r'∈l,r≠r'->r.2.1≠r'.2.1
 |[],_=>⟨by simp,by simp⟩
 |(i,a,x)::l,h=>by
  unfold qzi at h;simp only[qu6,quZ,Bool.and_eq_true,List.all_eq_true,Bool.not_eq_true']at h;obtain⟨k,b,c⟩:=h;obtain⟨p,s⟩:=qxV c;refine⟨λr hr=>?_,λr hr r' d f=>?_⟩
  . rcases List.mem_cons.1 hr with rfl|hr
    . simp_all
    grind
  . have no:∀ q∈l,a≠q.2.1:=λq g e=>by have:=b q g;simp_all
    grind
end
end E
end Go.Proofs.YtnnhdcidgfjfpaaGreatDoor
namespace Go.Proofs.YtnnhdcidgfjfpaaGreatDoor
namespace E
section
variable {X:Option (Nat×Nat)} {D:List Deferred} {ro:Option Nat} {P:Program} {dp nt:Nat} {rec:Rec} {ops:Array Oper} {is:List Info} {befs ord:List Nat} {F0 Fn:T Value} {mr mn:M} {as bs:List M} {ob:List (Nat×Nat×O)} {μr:Mu} {wr:World}
structure Fac (X:Option (Nat×Nat)) (P:Program) (dp nt:Nat) (rec:Rec) (ops:Array Oper) (is:List Info) (befs ord:List Nat) (F0 Fn:T Value) (mr mn:M) (as bs:List M) (ob:List (Nat×Nat×O)):Prop where
 his:is=ops.toList.map (QT P ops.toList)
 hbef:qAY ops.toList X befs
 hle:nt<=4 ^ dp
 hlt:∀ x∈ord,x<ops.toList.length/\(∀ t,(at_ is x).dst=some t->t∈(at_ is x).rd->(at_ is x).k≠1)
 hpw:ord.Pairwise λx y=>qzn befs is x y=true
 hall:∀ i,i<ops.size->i∈ord
 tr:Tr P dp nt rec ops.toList is ord F0 mr Fn mn as bs ob
 ids:qzi mr.next ob=true
 chkO:qy6 befs (louds is ord) (mr::as) bs ob=true
 chkA:qy4 P dp nt ops.toList befs is (louds is ord) rec Fn bs ord=true
structure Inv (D:List Deferred) (P:Program) (dp nt:Nat) (is:List Info) (befs ord:List Nat) (F0 Fn:T Value) (mr:M) (bs:List M) (ob:List (Nat×Nat×O)) (μr:Mu) (wr:World) (n:Nat) (S:Nat->Prop) (j:Nat) (F:T Value) (m:M) (a:Act) (w:World) (μ:Mu):Prop where
 inS:∀ x,S x->x<n
 jcs:∀ d c,(louds is ord)[d]? = some c->(S c↔d<j)
 mem:bs[j]? = some m
 lk1:∀ t,t<4 ^ dp->∀ i,S i->Wrt is nt i t->T.look undef dp t F=T.look undef dp t Fn
 lk0:∀ t,t<4 ^ dp->(∀ i,S i->¬ Wrt is nt i t)->T.look undef dp t F=T.look undef dp t F0
 gh:∀ i b x,(i,b,x)∈ob->¬ S i->loOf befs (louds is ord) i<=j->μ b=none
 hp:Hp P μ m w
 gn:Gn μr mr wr μ m w
 gl:Gl P μ
 rf:RF μ dp nt F a.tmps
 df:a.defers=D
structure Lk (dp nt:Nat) (is:List Info) (F0 Fn:T Value) (n:Nat) (S:Nat->Prop) (F:T Value):Prop where
 inS:∀ x,S x->x<n
 lk1:∀ t,t<4 ^ dp->∀ i,S i->Wrt is nt i t->T.look undef dp t F=T.look undef dp t Fn
 lk0:∀ t,t<4 ^ dp->(∀ i,S i->¬ Wrt is nt i t)->T.look undef dp t F=T.look undef dp t F0
theorem Inv.lk {n S j F m a w μ}(b:Inv D P dp nt is befs ord F0 Fn mr bs ob μr wr n S j F m a w μ):Lk dp nt is F0 Fn n S F:=⟨b.inS,b.lk1,b.lk0⟩
theorem Gn.late {μ m w w'}(h:Gn μr mr wr μ m w){i x}(n:mr.next<=i)(d:μ i=none)(p:x.b=w.heap.size)(g:w'.heap.size=w.heap.size+1)(heap:∀ b,b<w.heap.size->w'.heap[b]? = w.heap[b]?)(out:w'.os=w.os/\w'.output=w.output):Gn μr mr wr (μ.set i x) m w' where
 ext:=h.ext.trans (Mu.set_ext x d)
 next:=h.next
 size:=by have:=h.size;omega
 rest b f k:=by rw[heap b (Nat.lt_of_lt_of_le f h.size)];exact h.rest b f k
 own q y l e:=by
  by_cases c:q=i
  . subst c;rw[Mu.set_same]at e;cases e;have:=h.size;omega
  . rw[Mu.set_other μ x c]at e;exact h.own q y l e
 out:=⟨out.1.trans h.out.1,out.2.trans h.out.2⟩
 old q c:=by rw[Mu.set_other μ x (by omega)];exact h.old q c
section
variable (fac:Fac X P dp nt rec ops is befs ord F0 Fn mr mn as bs ob)
include fac
theorem Fac.dst_ne {p s i}(d:ord=p++i::s){x t}(b:x∈ord)(e:x≠i)(h:(at_ is i).dst=some t):(at_ is x).dst≠some t:=by
 have c:=fac.hpw;rw[d]at c b;rcases List.mem_append.1 b with b|b
 . intro hd;exact(qve ((List.pairwise_append.1 c).2.2 x b i List.mem_cons_self)).2.1 t hd h
 .
  rcases List.mem_cons.1 b with rfl|b
  . omega
  . exact(qve ((List.pairwise_cons.1 (List.pairwise_append.1 c).2.1).1 x b)).2.1 t h
theorem Fac.louds_len:bs.length=(louds is ord).length+1:=(Tr.mem fac.his _ _ _ _ _ _ _ _ fac.tr).2.1
variable {S:Nat->Prop} {j:Nat} {F:T Value} {m:M} {a:Act} {w:World} {μ:Mu}
theorem Fac.j_le (b:Inv D P dp nt is befs ord F0 Fn mr bs ob μr wr ops.size S j F m a w μ):j<=(louds is ord).length:=by have c:=(List.getElem?_eq_some_iff.1 b.mem).1;have:=fac.louds_len;omega
theorem Fac.obj (e:Inv D P dp nt is befs ord F0 Fn mr bs ob μr wr ops.size S j F m a w μ)(f:Dn ops.toList X S){i b x}(k:(i,b,x)∈ob)(g:¬ S i)(h:loOf befs (louds is ord) i<=j):b<m.next/\m.at b=x:=by
 obtain⟨m0,_,_,l⟩:=qwT fac.chkO i b x k;refine qAO l m (qAK e.mem h (qBx (fac.j_le e) λd c hd n=>?_));rw[quZ];cases p:bef befs c i with
 |false=>rfl
 |true=>exact absurd (fac.hbef.snd p S f ((e.jcs d c n).2 hd)) g
theorem Fac.agree (e:Lk dp nt is F0 Fn ops.size S F){p s i}(g:ord=p++i::s)(I:¬ S i)(r:∀ y,bef befs i y=true->(at_ is y).dst≠none->S y)(u:∀ y,bef befs y i=true->(at_ is y).dst≠none->¬ S y){v}(J:∀ t,t<4 ^ dp->(∀ x∈p,¬ Wrt is nt x t)->T.look undef dp t v=T.look undef dp t F0)(K:∀ t,t<4 ^ dp->(∀ x∈i::s,¬ Wrt is nt x t)->T.look undef dp t Fn=T.look undef dp t v):
  ∀ t∈(at_ is i).rd,t<4 ^ dp->T.look undef dp t v=T.look undef dp t F:=by
 intro t C b;have k:=fac.hpw;rw[g]at k;obtain⟨_,z,l⟩:=List.pairwise_append.1 k;have n:=(List.pairwise_cons.1 z).1;by_cases E:∃ y,y∈p/\Wrt is nt y t
 . obtain⟨y,c,d⟩:=E;have f:=qve (l y c i List.mem_cons_self);have L:bef befs i y=true:=f.2.2.2.resolve_right λh=>h.1 t d.1 C;rw[e.lk1 t b y (r y L (by rw[d.1];simp)) d];refine(K t b λx A B=>?_).symm;exact(qve (l y c x A)).2.1 t d.1 B.1
 .
  have c:∀ x∈p,¬ Wrt is nt x t:=λx A d=>E ⟨x,A,d⟩;rw[J t b c];refine(e.lk0 t b λy H d=>?_).symm;have q:y∈ord:=fac.hall y (e.inS y H);rw[g]at q;rcases List.mem_append.1 q with h|h
  . grind
  . rcases List.mem_cons.1 h with rfl|h
    . grind
    . exact u y ((qve (n y h)).2.2.1 t d.1 C).1 (by rw[d.1];simp) H
theorem Fac.frame (c:Lk dp nt is F0 Fn ops.size S F){p s i}(g:ord=p++i::s)(q:¬ S i){o}(u:ops.toList[i]? = some o){v}(z:∀ d,o.dst=some d->d<nt->(∀ x∈s,¬ Wrt is nt x d)->T.look undef dp d Fn=v):
  (∀ t,t<4 ^ dp->∀ x,(S x\/x=i)->Wrt is nt x t->T.look undef dp t (pF dp nt o.dst v F)=T.look undef dp t Fn) /\
  (∀ t,t<4 ^ dp->(∀ x,(S x\/x=i)->¬ Wrt is nt x t)->T.look undef dp t (pF dp nt o.dst v F)=T.look undef dp t F0):=by
 have k:(at_ is i).dst=o.dst:=by rw[at_eq fac.his u];rfl
 refine⟨λt l x f b=>?_,λt l b=>?_⟩
 .
  rcases f with f|rfl
  . rw[qyN fac.hle l λh=>?_]
    . exact c.lk1 t l x f b
    . exact fac.dst_ne g (fac.hall x (c.inS x f)) (λe=>q (e▸f)) (by grind) b.1
  . have hd:o.dst=some t:=by rw[<- k];exact b.1
    rw[hd,qzZ b.2];refine(z t hd b.2 λy A r=>?_).symm;have n:=fac.hpw;rw[g]at n;exact(qve ((List.pairwise_cons.1 (List.pairwise_append.1 n).2.1).1 y A)).2.1 t b.1 r.1
 . rw[qyN fac.hle l λh=>b i (.inr rfl) ⟨by grind,h.2⟩];exact c.lk0 t l λx f=>b x (.inl f)
theorem Fac.step (U:qN P rec)(b:Inv D P dp nt is befs ord F0 Fn mr bs ob μr wr ops.size S j F m a w μ)(q:Dn ops.toList X S){i o}(ho:ops[i]? = some o)(N:¬ S i)(A:∀ y,bef befs i y=true->S y){K Q}(hK:∀ j1 F1 m1 a1 w1 H,Inv D P dp nt is befs ord F0 Fn mr bs ob μr wr ops.size (λx=>S x\/x=i) j1 F1 m1 a1 w1 H->K a1 w1):
  if Region.wanted o (yielded ops a.tmps)then o.wpIn (FW ro) 0 P a w K Q else K (a.put o.dst Go.undef) w:=by
 have hi:i<ops.size:=(Array.getElem?_eq_some_iff.1 ho).1;have R:ops.toList[i]? = some o:=by grind
 have hup:∀ y,bef befs y i=true->¬ S y:=λy hb hS=>N (fac.hbef.snd hb S q hS);obtain⟨p,s,I⟩:=List.append_of_mem (fac.hall i hi);have htr:=fac.tr;rw[I]at htr;obtain⟨o2,Fi,Z,v,m1,b1,b2,b3,b4,b5,b6,b7⟩:=Tr.split fac.hle fac.his p _ _ _ _ _ _ _ htr;rw[R]at b1;cases b1;have hag:=fac.agree b.lk I N (λy h _=>A y h) (λy h _=>hup y h) b3 b4;have hrd:(at_ is i).rd=readsOf ops.toList o:=by rw[at_eq fac.his R];rfl
 have hk:(at_ is i).k=kindOf P o.op:=by rw[at_eq fac.his R];rfl
 have hag':∀ t∈readsOf ops.toList o,t<4 ^ dp->T.look undef dp t Fi=T.look undef dp t F:=by grind
 have eF:eff P dp rec ops.toList o F Z=some (v,m1):=by rw[<- qvS hag' Z];exact b2
 obtain⟨f1,f0⟩:=fac.frame b.lk I N R b5;have B:∀ x,(S x\/x=i)->x<ops.size:=λx hx=>hx.elim (b.inS x) λe=>e▸hi;have mem3:∀ d c,(louds is ord)[d]? = some c->(at_ is c).k=3:=λd c h=>by have:=List.mem_of_getElem? h;simp only[louds,List.mem_filter]at this;simp_all
 have hk3:kindOf P o.op<=3:=by unfold kindOf;simp only[bi_eq];split<;>split<;>omega
 have W:St D P dp nt μ m w F m a w μ:=⟨b.hp,.refl _ _ _,b.gl,b.rf,b.df⟩
 -- those that leave memory as it is
 have Y:kindOf P o.op<2->eff P dp rec ops.toList o F m=some (v,m)->if Region.wanted o (yielded ops a.tmps)then o.wpIn (FW ro) 0 P a w K Q else K (a.put o.dst Go.undef) w:=by
  intro hk2 e;refine qvF U W e λa1 w1 H k _=>hK j _ m a1 w1 H ⟨B,λd c z=>?_,b.mem,f1,f0,λJ L x' l u n=>?_,k.hp,b.gn.trans k.gn,k.gl,k.rf,k.df⟩
  . rw[<- b.jcs d c z]
    grind
  . have C:¬ S J:=λh=>u (.inl h);rw[k.gn.old L (fac.obj b q l C n).1];exact b.gh J L x' l C n
 rcases(by omega:kindOf P o.op=0\/kindOf P o.op=1\/kindOf P o.op=2\/kindOf P o.op=3)with h0|h0|h0|h0
 . have hq:=qxz (P:=P) (op:=o.op) (by omega);exact Y (by omega) (qBD hq (qDh h0) eF m)
 .
  -- it reads memory
  have hq:=qxz (P:=P) (op:=o.op) (by omega);have hio:i∈ord:=fac.hall i hi;have n:loOf befs (louds is ord) i<=j:=qBy λd c z hb=>(b.jcs d c z).1 (A c hb);have hhi:j<=hiOf befs (louds is ord) i:=qBx (fac.j_le b) λd c hd z=>by
   rw[quZ];cases hb:bef befs c i with
   |false=>rfl
   |true=>exact absurd ((b.jcs d c z).2 hd) (hup c hb)
  obtain⟨v',m',c1,c2⟩:=qAP (qy5 fac.chkA i hio (by omega) o R) m (qAK b.mem n hhi);have hagn:∀ t∈readsOf ops.toList o,t<4 ^ dp->T.look undef dp t Fn=T.look undef dp t F:=by
   intro t ht ht4;rw[b4 t ht4 λx hx hw=>?_,hag' t ht ht4];rw[<- hrd]at ht;rcases List.mem_cons.1 hx with rfl|hx
   . exact(fac.hlt x hio).2 t hw.1 ht (by omega)
   . have E:=fac.hpw;rw[I]at E;exact((qve ((List.pairwise_cons.1 (List.pairwise_append.1 E).2.1).1 x hx)).2.2.1 t hw.1 ht).2 (by omega)
  have c3:eff P dp rec ops.toList o F m=some (v',m'):=by rw[<- qvS hagn m];exact c1
  have c4:=qy9 hq c3;subst c4;have c5:pF dp nt o.dst v' F=pF dp nt o.dst v F:=by
   cases hd:o.dst with
   |none=>rfl
   |some d=>
    unfold pF;simp only;by_cases A:d<nt
    . have k:=c2 d hd A;rw[hd,qzZ A]at k;have h2:=b5 d hd A λy hy hwy=>by have E:=fac.hpw;rw[I]at E;exact(qve ((List.pairwise_cons.1 (List.pairwise_append.1 E).2.1).1 y hy)).2.1 d (by rw[at_eq fac.his R];exact hd) hwy.1
      grind
    grind
  refine qvF U W c3 λa1 w1 H k _=>hK j _ m' a1 w1 H ⟨B,λd c z=>?_,b.mem,by grind,by grind,λJ L x' l u n=>?_,k.hp,b.gn.trans k.gn,k.gl,k.rf,k.df⟩
  . rw[<- b.jcs d c z]
    grind
  . have C:¬ S J:=λh=>u (.inl h);rw[k.gn.old L (fac.obj b q l C n).1];exact b.gh J L x' l C n
 .
  -- an object is made
  obtain⟨hA,hq,hr⟩:=qDi h0;have n:loOf befs (louds is ord) i<=j:=qBy λd c z hb=>(b.jcs d c z).1 (A c hb);have jcs':∀ d c,(louds is ord)[d]? = some c->((S c\/c=i)↔d<j):=λd c z=>by
   rw[<- b.jcs d c z]
   grind
  have skip:some (undef,Z)=some (v,m1)->K (a.put o.dst Go.undef) w:=by intro e;cases e;obtain⟨F1,k,h2⟩:=qyd W o.dst λF=>F;rw[qvI]at k;subst k;exact hK j _ m _ w μ ⟨B,jcs',b.mem,f1,f0,λJ L x' l u n=>b.gh J L x' l (λh=>u (.inl h)) n,b.hp,b.gn,b.gl,h2.rf,h2.df⟩
  have run:effB P dp rec o F Z=some (v,m1)->o.wpIn (FW ro) 0 P a w K Q:=by
   intro e;unfold effB at e;rw[if_neg hq,if_neg hr]at e;split at e
   case h_2=>cases e
   rename_i v0 m0 hl;cases e;obtain⟨obj,f,hn,rfl,rfl,V,w',x,r1,x1,x2,x3,x4,x5,x6⟩:=qEo (w:=w) b.rf b.gl hA hl o.dst o.type o.pos o.after o.guard;refine⟨λ_ _=>trivial,?_⟩;rw[Oper.semAt_eq _ _ _ λc z=>by rw[z]at hA;cases hA];have r1':(execOp a.eval o).run P w=.ok (.value V) w':=r1;rw[r1'];show K (a.put o.dst V) w';have r:=b7 (by omega) (by simp);rw[M.at_push_same]at r;obtain⟨g1,g2⟩:=fac.obj b q r N n;have g3:=b.gh i _ _ r N n;have g4:mr.next<=Z.next:=(qxV fac.ids).1 _ r;obtain⟨k1,k2⟩:=x6 Z.next (μ.set Z.next x) (Mu.set_ext x g3) (Mu.set_same _ _ _);obtain⟨l1,l2,l3,_⟩:=b.hp.late g1 g3 g2 x1 x2 x3 k1 x4 x5;obtain⟨F1,k,h2⟩:=(b.rf.mono l2).put k2 o.dst λF=>F;rw[qvI]at k;subst k;refine hK j _ m _ w' (μ.set Z.next x) ⟨B,jcs',b.mem,f1,f0,λJ L x' l u hlo'=>?_,l1,b.gn.late g4 g3 x1 x2 x3 x4,b.gl.mono l2,h2,by rw[put_defers];exact b.df⟩;have hne:L≠Z.next:=(qxV fac.ids).2 _ l _ r λe=>u (.inr (by grind));rw[Mu.set_other μ x hne];exact b.gh J L x' l (λh=>u (.inl h)) hlo'
  unfold eff at eF;split at eF
  . rename_i hg;have hw:Region.wanted o (yielded ops a.tmps)=true:=by simp only[Region.wanted,hg]
    grind
  . rename_i g hg;obtain⟨v0,hv,hw⟩:=qwF (ops:=ops) (g:=g) W;obtain⟨hw1,hw2⟩:=hw o hg;rw[qBL hv]at eF
    grind
 .
  -- it is loud
  have hlp:louds is ord=louds is p++i::louds is s:=by rw[I];simp[louds,hk,h0]
  obtain⟨d1,d2⟩:=b6 (by omega);have E:=fac.hpw;rw[I]at E;obtain⟨_,hp2,hp3⟩:=List.pairwise_append.1 E;have hj:j=(louds is p).length:=by
   have hci:(louds is ord)[(louds is p).length]? = some i:=by grind
   have k:¬ (louds is p).length<j:=λh=>N ((b.jcs _ _ hci).2 h);by_cases h2:j<(louds is p).length
   . exfalso;obtain⟨c,z⟩:∃ c,(louds is p)[j]? = some c:=⟨_,List.getElem?_eq_getElem h2⟩
     have hc':(louds is ord)[j]? = some c:=by grind
     have hcp:c∈p:=(List.mem_filter.1 (List.mem_of_getElem? z)).1;have hb:bef befs i c=true:=(qve (hp3 c hcp i List.mem_cons_self)).2.2.2.resolve_right λh=>h.2 ⟨mem3 _ _ hc',by omega⟩;have:=(b.jcs j c hc').1 (A c hb);omega
   . omega
  have hm:m=Z:=by
   have k:=b.mem
   grind
  subst hm;obtain⟨mb,q1,q2⟩:=(Tr.mem fac.his _ _ _ _ _ _ _ _ fac.tr).2.2.2.2 _ _ d2;refine qvF U W eF λa1 w1 H k _=>?_;obtain⟨g1,g2⟩:=k.hp.ghosts q2;refine hK (j+1) _ mb a1 w1 H ⟨B,λd c z=>?_,by grind,f1,f0,λJ L x' l u n=>?_,g1,(b.gn.trans k.gn).trans g2,k.gl,k.rf,k.df⟩
  .
   have hi':=b.jcs d c z;constructor
   .
    rintro (h|rfl)
    . grind
    .
     by_cases hd:d<(louds is p).length
     . omega
     . rw[hlp,List.getElem?_append_right (by omega)]at z;by_cases hd2:d-(louds is p).length=0
       . omega
       . obtain⟨e,he⟩:∃ e,d-(louds is p).length=e+1:=⟨_,(Nat.succ_pred hd2).symm⟩
         rw[he,List.getElem?_cons_succ]at z;have hcs:c∈s:=(List.mem_filter.1 (List.mem_of_getElem? z)).1;exact absurd rfl (qve ((List.pairwise_cons.1 hp2).1 c hcs)).1
   grind
  .
   have C:¬ S J:=λh=>u (.inl h);by_cases hl2:loOf befs (louds is ord) J<=j
   . rw[k.gn.old L (fac.obj b q l C hl2).1];exact b.gh J L x' l C hl2
   . obtain⟨m0,e1,e2,_⟩:=qwT fac.chkO J L x' l;have hlo2:loOf befs (louds is ord) J=(louds is p).length+1:=by omega
     rw[hlo2,List.getElem?_cons_succ,d2]at e1;cases e1;exact k.hp.fresh L e2
end
theorem qzC {Q}{I:(Nat->Prop)->Act->World->Prop}(l:∀ (k:Nat) o,ops[k]? = some o->∀ e∈o.after,Region.binds .any e=true->e.on<k)(hQ:∀ S a w,I S a w->(∀ i,i<ops.size->S i)->Q .normal a w)(d:∀ S a w i o,I S a w->Down ops.toList S->(∀ x,S x->x<ops.size)->ops[i]? = some o->¬ S i->(∀ e∈o.after,Region.binds .any e=true->S e.on)->∀ K:Act->World->Prop,(∀ H w1,I (λx=>S x\/x=i) H w1->K H w1) ->
   if Region.wanted o (yielded ops a.tmps)then o.wpIn (FW ro) 0 P a w K Q else K (a.put o.dst Go.undef) w):
  ∀ (fuel:Nat) (b:Array Bool) (c:List Nat) (a:Act) (w:World),c.length=fuel->(∀ i,i∈c↔i<ops.size/\b.getD i true=false)->b.size=ops.size ->
   c.Pairwise (· < ·)->Down ops.toList (λi=>i<ops.size/\b.getD i true=true)->I (λi=>i<ops.size/\b.getD i true=true) a w ->
   wpAnyIn (FW ro) 0 P .any ops Q fuel b a w
 |0,b,c,a,w,hl,J,hs,_,_,n=>by
  have hc:c=[]:=List.length_eq_zero_iff.1 hl;subst hc;have all:∀ i,i<ops.size->b.getD i true=true:=λi q=>by grind
  refine⟨?_,hQ _ _ _ n λi q=>⟨q,all i q⟩⟩;unfold Region.ready;simp_all
 |fuel+1,b,c,a,w,hl,J,hs,N,r,n=>by
  have s:∀ i,i∈Region.ready .any ops b↔i<ops.size/\b.getD i true=false/\∃ o,ops[i]? = some o/\∀ e∈o.after,Region.binds .any e=true->b.getD e.on false=true:=by
   intro i;unfold Region.ready;simp only[List.mem_filter,List.mem_range,Bool.and_eq_true,Bool.not_eq_true'];constructor
   .
    rintro ⟨h1,h2,h3⟩
    cases p:ops[i]? with
    |none=>grind
    |some o=>
     simp only[p,Option.map_some,Option.getD_some,Array.all_eq_true_iff_forall_mem,Bool.or_eq_true,Bool.not_eq_true']at h3
     grind
   grind
  refine⟨λhnil=>?_,λi q=>?_⟩
  .
   exfalso;cases c with
   |nil=>grind
   |cons m c=>
    have f:=(J m).1 List.mem_cons_self;have p:ops[m]? = some (ops[m]'f.1):=Array.getElem?_eq_getElem f.1;have:m∈Region.ready .any ops b:=(s m).2 ⟨f.1,f.2,_,p,λe t u=>by
     have R:=l m _ p e t u;have hnot:e.on∉m::c:=by
      intro v;rcases List.mem_cons.1 v with h'|h'
      . omega
      . have:=(List.pairwise_cons.1 N).1 _ h';omega
     grind⟩
    grind
  .
   obtain⟨h1,h2,o,p,h3⟩:=(s i).1 q;have U:i∈c:=(J i).2 ⟨h1,h2⟩;obtain⟨pre,z,rfl⟩:=List.append_of_mem U;have R:∀ y∈pre,y<i:=λy L=>(List.pairwise_append.1 N).2.2 y L i List.mem_cons_self;have gl:∀ {x:Nat},x<ops.size->b.getD x false=b.getD x true:=λA=>by grind
   have V:¬ (i<ops.size/\b.getD i true=true):=λh=>by grind
   have B:∀ e∈o.after,Region.binds .any e=true->e.on<ops.size/\b.getD e.on true=true:=λe t u=>by grind
   unfold wpOpIn;simp only[p];have key:=d _ a w i o n r (λx A=>A.1) p V B (wpAnyIn (FW ro) 0 P .any ops Q fuel (b.setIfInBounds i true)) (λH w1 inv1=>by
    have C:∀ x,(x<ops.size/\(b.setIfInBounds i true).getD x true=true)↔((x<ops.size/\b.getD x true=true)\/x=i):=λx=>by
     rw[Array.getD_eq_getD_getElem?,Array.getElem?_setIfInBounds];by_cases g:i=x
     . grind
     . rw[if_neg g,<- Array.getD_eq_getD_getElem?]
       grind
    have E:(λx=>x<ops.size/\(b.setIfInBounds i true).getD x true=true)=(λx=>(x<ops.size/\b.getD x true=true)\/x=i):=funext λx=>propext (C x);refine qzC l hQ d fuel _ (pre++z) H w1 ?_ (λx=>?_) (by grind) ?_ ?_ (by grind)
    . grind
    .
     have A:=J x;simp only[List.mem_append,List.mem_cons]at A |-;rw[Array.getD_eq_getD_getElem?,Array.getElem?_setIfInBounds];by_cases g:i=x
     . subst g;rw[if_pos rfl,if_pos (by omega)];simp only[Option.getD_some,Bool.true_eq_false,and_false,iff_false,not_or];refine⟨λL=>?_,λL=>?_⟩
       . grind
       . have:=(List.pairwise_cons.1 (List.pairwise_append.1 N).2.1).1 i L;omega
     . rw[if_neg g,<- Array.getD_eq_getD_getElem?,<- A]
       grind
    . grind
    . rw[E];intro j W hj Y e t u;have Z:ops[j]? = some W:=by grind
      have hlt':=l j W Z e t u;rcases Y with Y|rfl
      . exact .inl (r j W hj Y e t u)
      grind)
   split
   . grind
   . rename_i hw;rw[if_neg hw]at key;exact⟨λ_ _=>trivial,key⟩
theorem qd4 (fac:Fac none P dp nt rec ops is befs ord F0 Fn mr mn as bs ob)(f:qN P rec){Q}(n:∀ (k:Nat) o,ops[k]? = some o->∀ e∈o.after,Region.binds .any e=true->e.on<k)(t:∀ S j F m a w μ,Inv D P dp nt is befs ord F0 Fn mr bs ob μr wr ops.size S j F m a w μ->(∀ i,i<ops.size->S i)->Q .normal a w)(fuel b)(c:List Nat)(j F m a w μ)(u:c.length=fuel)(v:∀ i,i∈c↔i<ops.size/\b.getD i true=false)(x:b.size=ops.size)(z:c.Pairwise (· < ·))(A:Down ops.toList (λi=>i<ops.size/\b.getD i true=true))(d:Inv D P dp nt is befs ord F0 Fn mr bs ob μr wr ops.size (λi=>i<ops.size/\b.getD i true=true) j F m a w μ):
   wpAnyIn (FW ro) 0 P .any ops Q fuel b a w:=by
 refine qzC (I:=λS a w=>∃ j F m μ,Inv D P dp nt is befs ord F0 Fn mr bs ob μr wr ops.size S j F m a w μ) n (λS a w ⟨j,F,m,μ,d⟩ h=>t S j F m a w μ d h) (λS a w i o B g C E r Y K H=>?_) fuel b c a w u v x z A ⟨j,F,m,μ,d⟩;obtain⟨j,F,m,μ,d⟩:=B;have J:Dn ops.toList none S:=⟨g,λp q h=>by cases h⟩
 exact fac.step (ro:=ro) f d J E r (λy L=>fac.hbef.fed L S g (λZ N e he hb=>by grind) (λp h=>by cases h)) λR U V W w1 s l=>H W w1 ⟨R,U,V,s,l⟩
end
end E
end Go.Proofs.YtnnhdcidgfjfpaaGreatDoor
namespace Go.Proofs.YtnnhdcidgfjfpaaGreatDoor
namespace E
namespace T
variable {α:Type}
theorem qAD (g)(b:g<4)(x y)(t:T α):mkK g x (mkK g y t)=mkK g x t:=by rcases four g b with rfl|rfl|rfl|rfl<;>cases t<;>rfl
theorem qB0 (g h)(c:g<4)(d:h<4)(b:g≠h)(x y)(t:T α):mkK g x (mkK h y t)=mkK h y (mkK g x t):=by rcases four g c with rfl|rfl|rfl|rfl<;>rcases four h d with rfl|rfl|rfl|rfl<;>first|exact absurd rfl b|(cases t<;>rfl)
theorem put_comm (u v):∀ (dp j k:Nat) (t:T α),j<4 ^ dp->k<4 ^ dp->j≠k->put dp j u (put dp k v t)=put dp k v (put dp j u t)
 |0,j,k,t,g,i,c=>absurd (show j=k by omega) c
 |dp+1,j,k,t,g,i,c=>by
  have b:(4:Nat)>0:=by omega
  have d:j / 4<4 ^ dp:=by omega
  have f:k / 4<4 ^ dp:=by omega
  simp only[put];by_cases h:j % 4=k % 4
  . rw[h,qxy _ (Nat.mod_lt k b),qxy _ (Nat.mod_lt k b),qAD _ (Nat.mod_lt k b),qAD _ (Nat.mod_lt k b)];rw[put_comm u v dp (j / 4) (k / 4) _ d f (λe=>c (by omega))]
  . rw[qxT _ _ (Nat.mod_lt k b) (Nat.mod_lt j b) (λe=>h e.symm),qxT _ _ (Nat.mod_lt j b) (Nat.mod_lt k b) h,qB0 _ _ (Nat.mod_lt j b) (Nat.mod_lt k b) h]
end T
theorem M.setA_comm (m:M){i j}(a b)(c:i<4 ^ hd)(d:j<4 ^ hd)(h:i≠j):(m.setA i a).setA j b=(m.setA j b).setA i a:=by show M.mk m.next (T.put hd j b (T.put hd i a m.tr))=M.mk m.next (T.put hd i a (T.put hd j b m.tr));rw[T.put_comm b a hd j i m.tr d c (λe=>h e.symm)]
theorem qwr {sz a v u m m'}(e:qwd sz a v m=.ret u m'):∃ (b:Addr) (o:O),a=.pointer (some b)/\u=undef/\m'=m.setA b.block o/\∀ m0:M,m0.at b.block=m.at b.block->qwd sz a v m0=.ret undef (m0.setA b.block o):=by
 have c:=e;unfold qwd at e;simp only[qu9,M.cells_eq,bi_eq,cellsF_eq,lenF_eq,layF_eq,M.put_eq]at e;split at e
 case h_2=>cases e
 rename_i b;split at e
 case h_2=>cases e
 rename_i ro t l d;split at e
 . cases e
 rename_i f;split at e
 case isFalse=>cases e
 rename_i g;split at e
 case isFalse=>cases e
 rename_i h;split at e
 case isFalse=>cases e
 rename_i i;cases e;refine⟨b,_,rfl,rfl,rfl,λm0 k=>?_⟩;unfold qwd;simp only[qu9,M.cells_eq,bi_eq,cellsF_eq,lenF_eq,layF_eq,M.put_eq]
 grind
theorem qBg {n p f q v g r x m0 s t}(y:qwd n f q m0=.ret v s)(z:qwd p g r s=.ret x t)(h:∀ c b:Addr,f=.pointer (some c)->g=.pointer (some b)->c.block≠b.block/\c.block<4 ^ hd/\b.block<4 ^ hd):∃ mA,qwd p g r m0=.ret undef mA/\qwd n f q mA=.ret undef t:=by obtain⟨c,u,rfl,rfl,rfl,k1⟩:=qwr y;obtain⟨b,i,rfl,rfl,rfl,A⟩:=qwr z;obtain⟨d,k,l⟩:=h c b rfl rfl;refine⟨m0.setA b.block i,A m0 (M.at_setA_other m0 c.block b.block u k l (λe=>d e.symm)).symm,?_⟩;rw[k1 _ (M.at_setA_other m0 b.block c.block i l k d),M.setA_comm m0 i u l k (λe=>d e.symm)]
section
variable {P:Program} {dp nt:Nat} {rec:Rec}
theorem qDx {ops i a}(h:stA ops i=some a):∃ o t v,ops[i]? = some o/\o.op=.store t a v/\o.guard=none/\o.dst=none:=by
 unfold stA at h
 grind
theorem qwU {ops o t a v}(c:o.op=.store t a v)(d:o.guard=none)(F)(m):
  eff P dp rec ops o F m=if okT P t=true then(match qwd (szT P t) (evv P dp F a) (evv P dp F v) m with|.ret v m'=>some (v,m')|_=>none)else none:=by
 unfold eff;simp only[d];unfold effB;have e:isQ P o.op≠true:=by rw[c];simp[isQ]
 have f:isR o.op≠true:=by rw[c];simp[isR]
 rw[if_neg e,if_neg f,c];simp only[loud,bi_eq,quZ];by_cases b:okT P t=true
 . simp[b,qvL]<;>(cases qwd (szT P t) (evv P dp F a) (evv P dp F v) m<;>rfl)
 . simp[b,noC]
theorem qAA:∀ {l:List Nat} {p q:Nat},last2 l=some (p,q)->∃ b,l=b++[p,q]
 |[],p,q,h=>by cases h
 |x::l,p,q,h=>by
  unfold last2 at h;split at h
  . simp_all
  . obtain⟨b,rfl⟩:=qAA h
    grind
theorem qAF:∀ {l:List M},qB2 l=true->∃ d a b c,l=d++[a,b,c]/\a.next=b.next/\b.next=c.next
 |[],h=>by cases h
 |x::l,h=>by
  unfold qB2 at h;split at h
  . rename_i b c;rw[qu6,Bool.and_eq_true]at h;exact⟨[],x,b,c,rfl,Nat.eq_of_beq_eq_true h.1,Nat.eq_of_beq_eq_true h.2⟩
  . obtain⟨d,a,b,c,rfl,e,f⟩:=qAF h
    grind
theorem Pu.next_le {m m'}(h:Pu m m'):m.next<=m'.next:=by
 induction h with
 |refl=>omega
 |step m' o _ _ b=>simp;omega
theorem Pu.same {m m'}(h:Pu m m')(b:m.next=m'.next):m=m':=by
 cases h with
 |refl=>rfl
 |step m' o c _=>have:=c.next_le;simp at b;omega
theorem Tr.ob_mem {ops is}:∀ (l:List Nat) (F:T Value) (m:M) (Fn:T Value) (mn:M) (as bs:List M) (ob:List (Nat×Nat×O)),Tr P dp nt rec ops is l F m Fn mn as bs ob->∀ r∈ob,r.1∈l
 |[],F,m,Fn,mn,as,bs,ob,h,r,hr=>by obtain⟨_,_,_,_,rfl⟩:=h;cases hr
 |i::l,F,m,Fn,mn,as,bs,ob,h,r,hr=>by
  obtain⟨o,v,d,e,f,g,_,_,b,_,_,k,n⟩:=h;by_cases c:(at_ is i).k=2/\m.next≠d.next
  . rw[k c]at hr;rcases List.mem_cons.1 hr with rfl|hr
    . grind
    . exact List.mem_cons_of_mem _ (Tr.ob_mem l _ _ _ _ _ _ _ b r hr)
  . rw[n c]at hr;exact List.mem_cons_of_mem _ (Tr.ob_mem l _ _ _ _ _ _ _ b r hr)
theorem Tr.ob_k {ops is}:∀ (l:List Nat) (F:T Value) (m:M) (Fn:T Value) (mn:M) (as bs:List M) (ob:List (Nat×Nat×O)),Tr P dp nt rec ops is l F m Fn mn as bs ob->∀ r∈ob,(at_ is r.1).k=2
 |[],F,m,Fn,mn,as,bs,ob,h,r,hr=>by obtain⟨_,_,_,_,rfl⟩:=h;cases hr
 |i::l,F,m,Fn,mn,as,bs,ob,h,r,hr=>by
  obtain⟨o,v,d,e,f,g,_,_,b,_,_,k,n⟩:=h;by_cases c:(at_ is i).k=2/\m.next≠d.next
  . rw[k c]at hr;rcases List.mem_cons.1 hr with rfl|hr
    . grind
    . exact Tr.ob_k l _ _ _ _ _ _ _ b r hr
  . rw[n c]at hr;exact Tr.ob_k l _ _ _ _ _ _ _ b r hr
theorem qCw {befs is ord p q}(h:qAU befs is ord p q=true):p≠q/\(∀ i∈ord,i=p\/i=q\/(at_ is i).k=0\/bef befs q i=true) /\
  (∀ y∈ord,∀ t,(at_ is y).dst=some t->(t∈(at_ is p).rd->bef befs p y=true)/\(t∈(at_ is q).rd->bef befs q y=true)):=by
 unfold qAU at h;simp only[qu6,qx1,quZ,Bool.and_eq_true,Bool.or_eq_true,Bool.not_eq_true',List.all_eq_true]at h;obtain⟨g,k,c⟩:=h;refine⟨λe=>?_,λi l=>?_,λy d t f=>⟨λb=>?_,λb=>?_⟩⟩
 . simp_all
 . simp_all
 .
  rcases(c y d).1 with h|h
  . rw[qxS.2 ⟨t,f,b⟩]at h;cases h
  omega
 .
  rcases(c y d).2 with h|h
  . rw[qxS.2 ⟨t,f,b⟩]at h;cases h
  omega
variable {D:List Deferred} {ro:Option Nat} {ops:Array Oper} {is:List Info} {befs ord:List Nat} {F0 Fn:T Value} {mr mn:M} {as bs:List M} {ob:List (Nat×Nat×O)} {μr:Mu} {wr:World}
structure Alt (D:List Deferred) (P:Program) (dp nt:Nat) (is:List Info) (F0 Fn:T Value) (mr:M) (μr:Mu) (wr:World) (n p q:Nat) (mA:M) (S:Nat->Prop) (F:T Value) (a:Act) (w:World) (μ:Mu):Prop where
 lk:Lk dp nt is F0 Fn n S F
 hq:S q
 hnp:¬ S p
 all:∀ i,i<n->(at_ is i).k≠0->i≠p->S i
 hp:Hp P μ mA w
 gn:Gn μr mr wr μ mA w
 gl:Gl P μ
 rf:RF μ dp nt F a.tmps
 df:a.defers=D
theorem qBh {p q}(fac:Fac (some (p,q)) P dp nt rec ops is befs ord F0 Fn mr mn as bs ob)(Z:qN P rec){C}(R:C=befL ops.toList [])(n:befs=augB C p q)(hedges:vw 0 ops.toList=true)(hl:last2 (louds is ord)=some (p,q)){ap aq}(ha:stA ops.toList p=some ap)(hb:stA ops.toList q=some aq)(r:qAU C is ord p q=true)(U:qBn P dp ap aq Fn=true)(hnx:qB2 bs=true){Q}(hed:∀ (k:Nat) o,ops[k]? = some o->∀ e∈o.after,Region.binds .any e=true->e.on<k)(hQ:∀ S j F m a w μ,Inv D P dp nt is befs ord F0 Fn mr bs ob μr wr ops.size S j F m a w μ->(∀ i,i<ops.size->S i)->Q .normal a w)(fuel f)(c:List Nat)(j F m a w μ)(h1:c.length=fuel)(h2:∀ i,i∈c↔i<ops.size/\f.getD i true=false)(h3:f.size=ops.size)(h4:c.Pairwise (· < ·))(h5:Down ops.toList (λi=>i<ops.size/\f.getD i true=true))(g:Inv D P dp nt is befs ord F0 Fn mr bs ob μr wr ops.size (λi=>i<ops.size/\f.getD i true=true) j F m a w μ)(hx0:¬ (q<ops.size/\f.getD q true=true)):
   wpAnyIn (FW ro) 0 P .any ops Q fuel f a w:=by
 obtain⟨hpq,ht1,ht2⟩:=qCw r;clear r;obtain⟨B,s⟩:=qAA hl;obtain⟨b0,x0,x1,x2,hbs,hn01,hn12⟩:=qAF hnx;obtain⟨op,tp,vp,hop,hop1,hop2,hop3⟩:=qDx ha;obtain⟨oq,tq,vq,hoq,hoq1,hoq2,hoq3⟩:=qDx hb;have hpl:p∈louds is ord:=by rw[s];simp
 have hql:q∈louds is ord:=by rw[s];simp
 have hpo:p∈ord:=(List.mem_filter.1 hpl).1;have hqo:q∈ord:=(List.mem_filter.1 hql).1;have kp:(at_ is p).k=3:=Nat.eq_of_beq_eq_true (List.mem_filter.1 hpl).2;have kq:(at_ is q).k=3:=Nat.eq_of_beq_eq_true (List.mem_filter.1 hql).2;have hpd:(at_ is p).dst=none:=by rw[at_eq fac.his hop];exact hop3
 have hqd:(at_ is q).dst=none:=by rw[at_eq fac.his hoq];exact hoq3
 have hps:p<ops.size:=by have:=(fac.hlt p hpo).1;simpa using this
 have hqs:q<ops.size:=by have:=(fac.hlt q hqo).1;simpa using this
 have hlen:bs.length=B.length+3:=by rw[fac.louds_len,s];simp
 have hb0l:b0.length=B.length:=by rw[hbs]at hlen;simpa using hlen
 have hbi0:bs[B.length]? = some x0:=by rw[hbs,<- hb0l];simp
 have hbi1:bs[B.length+1]? = some x1:=by rw[hbs,<- hb0l,List.getElem?_append_right (by omega)];simp
 have hbi2:bs[B.length+2]? = some x2:=by rw[hbs,<- hb0l,List.getElem?_append_right (by omega)];simp
 have hnd:ord.Nodup:=fac.hpw.imp λh=>(qve h).1;have hndl:(louds is ord).Nodup:=hnd.sublist List.filter_sublist
 -- where they stand
 have wh:∀ {i d:Nat},(louds is ord)[d]? = some i->(at_ is i).k=3->∀ {a b:List Nat},ord=a++i::b->(louds is a).length=d:=by
  intro i d hd hk a b H;have hlp:louds is ord=louds is a++i::louds is b:=by rw[H];simp[louds,hk]
  have h1:(louds is ord)[(louds is a).length]? = some i:=by rw[hlp];simp
  have hlt1:=(List.getElem?_eq_some_iff.1 hd).1;exact((List.getElem?_inj hlt1 hndl).1 (hd.trans h1.symm)).symm
 -- what they read stands at last as it stood
 have last:∀ i,(i=p\/i=q)->∀ {a b:List Nat},ord=a++i::b->∀ t∈(at_ is i).rd,∀ x∈i::b,¬ Wrt is nt x t:=by
  intro i hi a b H t r x l hw;have hid:(at_ is i).dst=none:=by rcases hi with rfl|rfl<;>assumption
  rcases List.mem_cons.1 l with rfl|l
  . have:=hw.1;rw[hid]at this;cases this
  .
   have hxo:x∈ord:=by rw[H];simp[l]
   have hb1:bef C i x=true:=by
    rcases hi with rfl|rfl
    . exact(ht2 x hxo t hw.1).1 r
    . exact(ht2 x hxo t hw.1).2 r
   have hpw:=fac.hpw;rw[H]at hpw;have hb2:=((qve ((List.pairwise_cons.1 (List.pairwise_append.1 hpw).2.1).1 x l)).2.2.1 t hw.1 r).1;rw[n]at hb2;have l1:=qC9 R hedges hb1;rcases qwB hb2 with hb2|⟨e1,e2⟩
   . have l2:=qC9 R hedges hb2;omega
   . have:=hw.1;rw[e1,hqd]at this;cases this
 have split:∀ i o,(i=p\/i=q)->ops.toList[i]? = some o->∃ a b Fi mi v m1,ord=a++i::b/\eff P dp rec ops.toList o Fi mi=some (v,m1)/\(∀ t,t<4 ^ dp->(∀ x∈a,¬ Wrt is nt x t)->T.look undef dp t Fi=T.look undef dp t F0)/\(∀ t,t<4 ^ dp->(∀ x∈i::b,¬ Wrt is nt x t)->T.look undef dp t Fn=T.look undef dp t Fi) /\
   bs[(louds is a).length]? = some mi/\as[(louds is a).length]? = some m1/\eff P dp rec ops.toList o Fn mi=some (v,m1):=by
  intro i o hi ho;have hio:i∈ord:=by rcases hi with rfl|rfl<;>assumption
  have hk:(at_ is i).k=3:=by rcases hi with rfl|rfl<;>assumption
  obtain⟨a,b,H⟩:=List.append_of_mem hio;have htr:=fac.tr;rw[H]at htr;obtain⟨o2,Fi,mi,v,m1,c1,c2,c3,c4,c5,c6,c7⟩:=Tr.split fac.hle fac.his a _ _ _ _ _ _ _ htr;rw[ho]at c1;cases c1;have hrd:(at_ is i).rd=readsOf ops.toList o:=by rw[at_eq fac.his ho];rfl
  refine⟨a,b,Fi,mi,v,m1,H,c2,c3,c4,(c6 hk).1,(c6 hk).2,?_⟩;rw[qvS (F:=Fn) (G:=Fi) (λt r ht4=>c4 t ht4 (last i hi H t (by rw[hrd];exact r))) mi];exact c2
 obtain⟨apl,apr,Fp,mp,v1,m1,sp1,sp2,sp3,sp4,sp5,sp6,sp7⟩:=split p op (.inl rfl) hop;obtain⟨aql,aqr,Fq,mq,v2,m2,sq1,sq2,sq3,sq4,sq5,sq6,sq7⟩:=split q oq (.inr rfl) hoq;have wp_:(louds is apl).length=B.length:=wh (by rw[s];simp) kp sp1;have wq_:(louds is aql).length=B.length+1:=wh (by rw[s,List.getElem?_append_right (by omega)];simp) kq sq1;rw[wp_]at sp5 sp6;rw[wq_]at sq5 sq6;rw[hbi0]at sp5;cases sp5;rw[hbi1]at sq5;cases sq5;have hmem:=(Tr.mem fac.his _ _ _ _ _ _ _ _ fac.tr).2.2.2.2
 -- the two stores
 rw[qwU hop1 hop2]at sp7;rw[qwU hoq1 hoq2]at sq7;split at sp7
 case isFalse=>cases sp7
 rename_i okp;split at sp7
 case h_2=>cases sp7
 rename_i v1' m1' st1;cases sp7;split at sq7
 case isFalse=>cases sq7
 rename_i okq;split at sq7
 case h_2=>cases sq7
 rename_i v2' m2' st2;cases sq7;have e1:m1=x1:=by obtain⟨mb,k1,k2⟩:=hmem _ _ sp6;rw[hbi1]at k1;cases k1;refine k2.same ?_;obtain⟨ad,o,_,_,rfl,_⟩:=qwr st1;rw[M.next_setA,hn01]
 have e2:m2=x2:=by obtain⟨mb,k1,k2⟩:=hmem _ _ sq6;rw[hbi2]at k1;cases k1;refine k2.same ?_;obtain⟨ad,o,_,_,rfl,_⟩:=qwr st2;rw[M.next_setA,hn12]
 subst e1;subst e2;obtain⟨mA,cA,cB⟩:=qBg st1 st2 (λy1 y2 z1 z2=>by unfold qBn at U;rw[qvL,qvL,z1,z2]at U;simp only[qu9,qu6,quZ,Bool.and_eq_true,Bool.not_eq_true',Nat.blt_eq]at U;exact⟨λe=>by rw[e]at U;simp at U,Nat.lt_trans U.2.1 qwG,Nat.lt_trans U.2.2 qwG⟩);have effQ:eff P dp rec ops.toList oq Fn x0=some (undef,mA):=by rw[qwU hoq1 hoq2,if_pos okq,cA]
 have effP:eff P dp rec ops.toList op Fn mA=some (undef,m2):=by rw[qwU hop1 hop2,if_pos okp,cB]
 -- what a frame V for them
 have V:∀ i o,(i=p\/i=q)->ops.toList[i]? = some o->∀ {S:Nat->Prop} {F:T Value},Lk dp nt is F0 Fn ops.size S F->Down ops.toList S->¬ S i->Fed ops.toList S i->∀ t∈readsOf ops.toList o,t<4 ^ dp->T.look undef dp t F=T.look undef dp t Fn:=by
  intro i o hi ho S F lk u z hf t r ht4;have hrd:(at_ is i).rd=readsOf ops.toList o:=by rw[at_eq fac.his ho];rfl
  obtain⟨a,b,Fi,mi,v,m1,s1,_,s3,s4,_,_,_⟩:=split i o hi ho;have hid:∀ x,(x=p\/x=q)->(at_ is x).dst=none:=by rintro x (rfl|rfl)<;>assumption
  have key:=fac.agree lk s1 z (λy A W=>by
   rw[n]at A;rcases qwB A with A|⟨_,e⟩
   . exact qwC R A S u hf
   . exact absurd (hid y (.inl e)) W) (λy A W hS=>by
   rw[n]at A;rcases qwB A with A|⟨e,e'⟩
   . exact z (qwQ R A S u hS)
   . exact absurd (hid y (.inr e)) W) s3 s4
  rw[s4 t ht4 (last i hi s1 t (by rw[hrd];exact r)),key t (by rw[hrd];exact r) ht4]
 have gen:∀ S a w,((∃ j F m μ,Inv D P dp nt is befs ord F0 Fn mr bs ob μr wr ops.size S j F m a w μ/\(S q->S p))\/∃ F μ,Alt D P dp nt is F0 Fn mr μr wr ops.size p q mA S F a w μ)->True:=λ_ _ _ _=>trivial;refine qzC (I:=λS a w=>(∃ j F m μ,Inv D P dp nt is befs ord F0 Fn mr bs ob μr wr ops.size S j F m a w μ/\(S q->S p))\/∃ F μ,Alt D P dp nt is F0 Fn mr μr wr ops.size p q mA S F a w μ) hed (λS a w hI hall=>?_) (λS a w i o hI u hlt ho z hf K hK=>?_) fuel f c a w h1 h2 h3 h4 h5 (.inl ⟨j,F,m,μ,g,λh=>absurd h hx0⟩)
 .
  rcases hI with⟨j,F,m,μ,g,_⟩|⟨F,μ,alt⟩
  . exact hQ S j F m a w μ g hall
  . exact absurd (hall p hps) alt.hnp
 have hi:i<ops.size:=(Array.getElem?_eq_some_iff.1 ho).1;have E:ops.toList[i]? = some o:=by rw[Array.getElem?_toList];exact ho
 have J:Fed ops.toList S i:=λo2 ho2 e he hb=>by rw[E]at ho2;cases ho2;exact hf e he hb
 have hk:(at_ is i).k=kindOf P o.op:=by rw[at_eq fac.his E];rfl
 rcases hI with⟨j,F,m,μ,g,l⟩|⟨F,μ,alt⟩
 .
  by_cases hc:i=q/\¬ S p
  .
   obtain⟨rfl,hnp⟩:=hc;rw[hoq]at E;cases E;have rest:∀ L,L<ops.size->(at_ is L).k≠0->L≠p->L≠i->S L:=λL hi' hk' hnp' hni=>by
    rcases ht1 L (fac.hall L hi')with h|h|h|h
    . exact absurd h hnp'
    . exact absurd h hni
    . exact absurd h hk'
    . exact qwC R h S u J
   have hj:j=B.length:=by
    have c1:(louds is ord)[B.length]? = some p:=by rw[s];simp
    have n1:¬ B.length<j:=λh=>hnp ((g.jcs _ _ c1).2 h);by_cases n2:j<B.length
    .
     exfalso;have c2:(louds is ord)[j]? = some B[j]:=by rw[s,List.getElem?_append_left n2];exact List.getElem?_eq_getElem n2
     have hcl:B[j]∈louds is ord:=by rw[s];exact List.mem_append_left _ (List.getElem_mem n2)
     have hco:B[j]∈ord:=(List.mem_filter.1 hcl).1;have kc:(at_ is B[j]).k=3:=Nat.eq_of_beq_eq_true (List.mem_filter.1 hcl).2;have hlt':B[j]<ops.size:=by have:=(fac.hlt _ hco).1;simpa using this
     have ne1:B[j]≠p:=λe=>by have:=(List.getElem?_inj (List.getElem?_eq_some_iff.1 c2).1 hndl).1 (c2.trans (by rw[e];exact c1.symm));omega
     have c3:(louds is ord)[B.length+1]? = some i:=by rw[s,List.getElem?_append_right (by omega)];simp
     have ne2:B[j]≠i:=λe=>by have:=(List.getElem?_inj (List.getElem?_eq_some_iff.1 c2).1 hndl).1 (c2.trans (by rw[e];exact c3.symm));omega
     have:=(g.jcs j _ c2).1 (rest _ hlt' (by omega) ne1 ne2);omega
    . omega
   have hm:m=x0:=by have:=g.mem;rw[hj,hbi0]at this;exact(Option.some.inj this).symm
   subst hm;have e0:eff P dp rec ops.toList oq F m=some (undef,mA):=by rw[qvS (V i oq (.inr rfl) hoq g.lk u z J) m];exact effQ
   refine qvF Z ⟨g.hp,.refl _ _ _,g.gl,g.rf,g.df⟩ e0 λa1 w1 Y N _=>hK a1 w1 (.inr ⟨F,Y,⟨⟨λx l=>?_,λt r x l hw=>?_,λt r l=>?_⟩,.inr rfl,?_,λL hi' hk' hn'=>?_,N.hp,g.gn.trans N.gn,N.gl,?_,N.df⟩⟩)
   . rcases l with l|rfl
     . exact g.inS x l
     . exact hqs
   . rcases l with l|rfl
     . exact g.lk1 t r x l hw
     . have:=hw.1;rw[hqd]at this;cases this
   . exact g.lk0 t r λx hS=>l x (.inl hS)
   . rintro (h|h)
     . exact hnp h
     . exact hpq h
   . by_cases e:L=i
     . exact .inr e
     . exact .inl (rest L hi' hk' hn' e)
   . have:=N.rf;rw[hoq3]at this;exact this
  .
   have hx':∀ p',some (p,q)=some (p',i)->S p':=by intro p' e;cases e;exact Classical.byContradiction λh=>hc ⟨rfl,h⟩
   have hD:Dn ops.toList (some (p,q)) S:=⟨u,λp' q' e=>by cases e;exact l⟩
   refine fac.step (ro:=ro) Z g hD ho z (λy A=>fac.hbef.fed A S u J hx') λj1 F1 m1 a1 w1 Y inv1=>hK a1 w1 (.inl ⟨j1,F1,m1,Y,inv1,λh=>?_⟩);rcases h with h|h
   . exact .inl (l h)
   . exact .inl (hx' p (by rw[h]))
 .
  by_cases hip:i=p
  .
   subst hip;rw[hop]at E;cases E;have e0:eff P dp rec ops.toList op F mA=some (undef,m2):=by rw[qvS (V i op (.inl rfl) hop alt.lk u z J) mA];exact effP
   refine qvF Z ⟨alt.hp,.refl _ _ _,alt.gl,alt.rf,alt.df⟩ e0 λa1 w1 Y N _=>hK a1 w1 (.inl ⟨B.length+2,F,m2,Y,⟨λx l=>?_,λd c hc=>⟨λ_=>?_,λ_=>?_⟩,hbi2,λt r x l hw=>?_,λt r l=>?_,λL b' x' hm' hS' _=>?_,N.hp,alt.gn.trans N.gn,N.gl,?_,N.df⟩,λ_=>.inr rfl⟩)
   . rcases l with l|rfl
     . exact alt.lk.inS x l
     . exact hps
   . have:=(List.getElem?_eq_some_iff.1 hc).1;rw[s]at this;simpa using this
   . have hcl:=List.mem_of_getElem? hc;have hco:c∈ord:=(List.mem_filter.1 hcl).1;have kc:(at_ is c).k=3:=Nat.eq_of_beq_eq_true (List.mem_filter.1 hcl).2;by_cases e:c=i
     . exact .inr e
     . exact .inl (alt.all c (by have:=(fac.hlt _ hco).1;simpa using this) (by omega) e)
   . rcases l with l|rfl
     . exact alt.lk.lk1 t r x l hw
     . have:=hw.1;rw[hpd]at this;cases this
   . exact alt.lk.lk0 t r λx hS=>l x (.inl hS)
   . have k2:(at_ is L).k=2:=Tr.ob_k _ _ _ _ _ _ _ _ fac.tr _ hm';exfalso;refine hS' (.inl (alt.all L ?_ (by omega) (λe=>by rw[e,kp]at k2;cases k2)));have:=(fac.hlt L (Tr.ob_mem _ _ _ _ _ _ _ _ fac.tr _ hm')).1;simpa using this
   . have:=N.rf;rw[hop3]at this;exact this
  .
   have k0:kindOf P o.op=0:=by rw[<- hk];exact Classical.byContradiction λh=>z (alt.all i hi h hip)
   obtain⟨a',b',hsp⟩:=List.append_of_mem (fac.hall i hi);have htr:=fac.tr;rw[hsp]at htr;obtain⟨o2,Fi,mi,v,m1,c1,c2,c3,c4,c5,c6,c7⟩:=Tr.split fac.hle fac.his a' _ _ _ _ _ _ _ htr;rw[E]at c1;cases c1;have hrd:(at_ is i).rd=readsOf ops.toList o:=by rw[at_eq fac.his E];rfl
   have hag:=fac.agree alt.lk hsp z (λy A W=>by
    rw[n]at A;rcases qwB A with A|⟨_,e⟩
    . exact qwC R A S u J
    . rw[e]at W;exact absurd hpd W) (λy A W hS=>by
    rw[n]at A;rcases qwB A with A|⟨_,e⟩
    . exact z (qwQ R A S u hS)
    . exact hip e) c3 c4
   have e1:eff P dp rec ops.toList o F mi=some (v,m1):=by rw[<- qvS (λt r ht4=>hag t (by rw[hrd];exact r) ht4) mi];exact c2
   have e0:=qBD (qxz (P:=P) (op:=o.op) (by omega)) (qDh k0) e1 mA;obtain⟨f1,f0⟩:=fac.frame alt.lk hsp z E c5;exact qvF Z ⟨alt.hp,.refl _ _ _,alt.gl,alt.rf,alt.df⟩ e0 λa1 w1 Y N _=>hK a1 w1 (.inr ⟨_,Y,⟨⟨λx l=>l.elim (alt.lk.inS x) λe=>e▸hi,f1,f0⟩,.inl alt.hq,λh=>h.elim alt.hnp λe=>hip e.symm,λL h1 h2 h3=>.inl (alt.all L h1 h2 h3),N.hp,alt.gn.trans N.gn,N.gl,N.rf,N.df⟩⟩)
end
end E
end Go.Proofs.YtnnhdcidgfjfpaaGreatDoor
namespace Go.Proofs.YtnnhdcidgfjfpaaGreatDoor
namespace E
section
variable {D:List Deferred} {ro:Option Nat} {P:Program} {dp nt:Nat} {μ0:Mu} {m0:M} {w0:World} {rec:Rec}
theorem Gn.drew (μ m)(w):Gn μ m w μ m { w with drawn:=w.drawn+1 }:=⟨.refl μ,Nat.le_refl _,Nat.le_refl _,λ_ _ _=>rfl,λi x h e=>.inl ⟨i,x,h,e,rfl⟩,⟨rfl,rfl⟩,λ_ _=>rfl⟩
theorem qCf:∀ (n i k:Nat),k<n->i+k∈rng i n
 |0,i,k,h=>by omega
 |n+1,i,k,h=>by
  unfold rng;cases k with
  |zero=>exact List.mem_cons_self
  |succ k=>have:=qCf n (i+1) k (by omega);rw[show i+(k+1)=i+1+k by omega];exact List.mem_cons_of_mem _ this
theorem qxK (v:nt<=4 ^ dp)(hmix:P.follows .mixedOrders=true){X id ops is befs ord st y F m a w μ x F' m' Q}(p:ops.toList.map (QT P ops.toList)=is)(R:qAY ops.toList X befs)(h:St D P dp nt μ0 m0 w0 F m a w μ)(e:(qCU P dp nt ops.toList befs is ord st y).f rec F m=.go x F' m')(hq:∀ e a' w',Stands D P dp nt μ0 m0 w0 x F' m' e a' w'->Q e a' w')(tail:∀ as bs ob,Fac X P dp nt rec ops is befs ord F F' m m' as bs ob->st=true->y F' bs=true->vw 0 ops.toList=true->(∀ (k:Nat) o,ops[k]? = some o->∀ e∈o.after,Region.binds .any e=true->e.on<k) ->
   ∀ (wr:World),(∀ S j z U a w n,Inv D P dp nt is befs ord F F' m bs ob μ wr ops.size S j z U a w n->(∀ i,i<ops.size->S i)->Q .normal a w) ->
   ∀ (fuel:Nat) (f:Array Bool) (c:List Nat) (j:Nat) (z:T Value) (V:M) (a:Act) (w:World) (n:Mu),c.length=fuel->(∀ i,i∈c↔i<ops.size/\f.getD i true=false)->f.size=ops.size ->
   c.Pairwise (· < ·)->Down ops.toList (λi=>i<ops.size/\f.getD i true=true)->Inv D P dp nt is befs ord F F' m bs ob μ wr ops.size (λi=>i<ops.size/\f.getD i true=true) j z V a w n->(∀ i,¬ (i<ops.size/\f.getD i true=true)) ->
   wpAnyIn (FW ro) 0 P .any ops Q fuel f a w):(Code.region id ops true).wpIn (FW ro) 0 P Q a w:=by
 unfold qCU at e;rw[bi_eq]at e;split at e
 case isFalse=>cases e
 rename_i A;rw[qu6,qu6,qu6,Bool.and_eq_true,Bool.and_eq_true,Bool.and_eq_true,List.all_eq_true]at A;obtain⟨B,W,Y,Z⟩:=A;obtain⟨o1,o2⟩:=qAJ Y;simp only at e;rw[qvo]at e;split at e
 case h_2=>cases e
 rename_i x1 F1 m1 C;cases x1 with
 |norm=>
  have e:Out.go .norm F1 m1=.go x F' m':=e;cases e;obtain⟨Fn,mn,as,bs,ob,r,N⟩:=qx3 ord F m _ _ _ C;rw[bi_eq]at N;split at N
  case isFalse=>cases N
  rename_i E;cases N;rw[qu6,qu6,qu6,Bool.and_eq_true,Bool.and_eq_true,Bool.and_eq_true]at E;obtain⟨c1,c2,c4,c3⟩:=E;have fac:Fac X P dp nt rec ops is befs ord F F' m m' as bs ob:=⟨p.symm,R,v,o1,o2,λi p=>by have:=W i (by have:=qCf ops.toList.length 0 i (by simpa using p);simpa using this);exact qzR.1 this,r,c1,c2,c3⟩
  obtain⟨_,_,t3,⟨V,t4,t5⟩,_⟩:=Tr.mem p.symm _ _ _ _ _ _ _ _ r;have H:Hp P μ m { w with drawn:=w.drawn+1 }:=h.hp.drew;obtain⟨hp2,gn2⟩:=H.ghosts t5;have q:∀ i,¬ (i<ops.size/\(Array.replicate ops.size false).getD i true=true):=λi l=>by obtain⟨I,J⟩:=l;rw[Array.getD_eq_getD_getElem?,Array.getElem?_eq_getElem (by simpa using I)]at J;simp at J
  refine wpIn_region_any hmix (tail as bs ob fac Z c4 B (λk o ho e he hb=>?_) { w with drawn:=w.drawn+1 } (λS j z U a2 w2 n g l=>?_) ops.size _ (List.range' 0 ops.size) 0 F V a _ μ (by simp) (λi=>?_) (by simp) List.pairwise_lt_range' (λj oj hj l=>absurd l (q j))
   ⟨λi l=>l.1,λd c hc=>⟨λl=>absurd l (q c),λhd=>by omega⟩,t4,λt u i l=>absurd l (q i),λt u _=>rfl,λi b x hm l hlo=>?_,hp2,gn2,h.gl,h.rf,h.df⟩ q)
  . have:=xn B k o (by rw[Array.getElem?_toList];exact ho) e he hb;omega
  .
   have hj:j=(louds is ord).length:=by
    have I:=fac.j_le g;by_cases J:j<(louds is ord).length
    . have hc:(louds is ord)[j]? = some (louds is ord)[j]:=List.getElem?_eq_getElem J;have K:(louds is ord)[j]∈ord:=(List.mem_filter.1 (List.getElem_mem J)).1;have:=(g.jcs j _ hc).1 (l _ (by have:=(o1 _ K).1;simpa using this));omega
    . omega
   have hm:U=m':=by have I:=g.mem;rw[hj,t3]at I;exact(Option.some.inj I).symm
   subst hm;refine hq _ _ _ ⟨n,.norm,g.hp,(h.gn.trans (Gn.drew μ m w)).trans g.gn,g.gl,⟨g.rf.size,g.rf.le,λt u=>?_⟩,g.df⟩;have:T.look undef dp t F'=T.look undef dp t z:=by
    by_cases L:∃ i,i<ops.size/\Wrt is nt i t
    . obtain⟨i,p,L⟩:=L;exact(g.lk1 t u i (l i p) L).symm
    . rw[g.lk0 t u λi l s=>L ⟨i,g.inS i l,s⟩];exact Tr.look v p.symm u ord _ _ _ _ _ _ _ r λi hio s=>L ⟨i,by have:=(o1 i hio).1;simpa using this,s⟩
   rw[this];exact g.rf.at_ t u
  . simp only[List.mem_range'_1,Nat.zero_le,true_and,Nat.zero_add];constructor
    . intro p;refine⟨p,?_⟩;rw[Array.getD_eq_getD_getElem?,Array.getElem?_eq_getElem (by simpa using p)];simp
    . exact λh=>h.1
  . obtain⟨m5,e1,e2,_⟩:=qwT c2 i b x hm;have:loOf befs (louds is ord) i=0:=by omega
    rw[this]at e1;cases e1;exact H.fresh b e2
 |_=>cases e
theorem qA5 (l:nt<=4 ^ dp)(d:qN P rec)(hmix:P.follows .mixedOrders=true){id ops F m a w μ x F' m' Q}(h:St D P dp nt μ0 m0 w0 F m a w μ)(e:(qDJ P dp nt ops.toList).f rec F m=.go x F' m')(I:∀ e J w',Stands D P dp nt μ0 m0 w0 x F' m' e J w'->Q e J w'):(Code.region id ops true).wpIn (FW ro) 0 P Q a w:=by
 unfold qDJ qEG at e;generalize r:befL ops.toList []=befs at e;generalize K:ops.toList.map (QT P ops.toList)=is at e;generalize (ordR befs is (rng 0 ops.toList.length) []).reverse=ord at e;rw[bi_eq]at e;split at e
 . exact qxK (X:=none) l hmix K (.plain r.symm) h e I λas bs ob fac _ _ _ f wr s fuel b c j t u a w g v y z A B i _=>qd4 fac d f s fuel b c j t u a w g v y z A B i
 .
  unfold qEH at e;split at e
  case h_2=>cases e
  rename_i p q L;split at e
  case h_2=>cases e
  rename_i R U N C;refine qxK (X:=some (p,q)) l hmix K (.aug r.symm) h e I λas bs ob fac E k n f wr s fuel b c j t u a w g v y z A B i H=>?_;rw[qu6,Bool.and_eq_true]at k;exact qBh fac d r.symm rfl n L N C E k.1 k.2 f s fuel b c j t u a w g v y z A B i (H q)
end
end E
end Go.Proofs.YtnnhdcidgfjfpaaGreatDoor

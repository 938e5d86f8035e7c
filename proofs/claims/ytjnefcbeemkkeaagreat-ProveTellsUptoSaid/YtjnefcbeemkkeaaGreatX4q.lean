/-
  What code tells, instruction by instruction, as plain words. No claim stands here.
-/
import Derived.Test.YtjnefcbeemkkeaaGreatX2q
set_option linter.all false
namespace Go.Proofs.YtjnefcbeemkkeaaGreat
namespace Ab
variable [Glob]
structure Sn where
 n:Nd
 size:Int
def snR (s:Sn):List Cell:=match s with
 |⟨.mk op kind args vk vb pos attr,size⟩=>[ic op,ic kind,.imm (xk args),ic vk,.val (.int .u64 vb),ic pos,ic attr,ic size]
theorem qCk (s:Sn):qfz (snR s)=snR s:=by obtain⟨⟨⟩,_⟩:=s;rfl
theorem qxT:∀ l:List Sn,qG (l.map snR)=l.map snR
 |[]=>rfl
 |n::l=>by rw[List.map_cons,qG,qCk,qxT l]
def Sn.wf (s:Sn):Prop:=0<=s.size/\s.size<=1025/\(cnt s.n:Int)<=s.size
def zSn:Sn:=⟨.mk 0 0 [] 0 0 0 0,0⟩
def sumF (l:List Sn)(n:Int):Int:=l.foldl (fun n s=>min 1025 (n+s.size)) n
def opr (op:Int)(l:List Sn):Sn:=if sumF l 1=1025 then⟨.mk op 0 [] 0 0 0 0,1025⟩else⟨.mk op (resF op (l.map (·.n.kind))) (l.map (·.n)) 0 0 0 0,sumF l 1⟩
structure St where
 r:Int->Option Sn
 s:Int->Option Sn
def inN (x:In4):Nd:=.mk x.op x.kind [] 0 0 x.pos x.attr
def vlN (x:Vl):Nd:=.mk 40 x.kind [] x.kind x.bits 0 0
def valOf (c:quY)(st:St)(x:Ins4):Sn:=
 if x.op=50 then⟨((c.I[x.a.toNat]?).map inN).getD zSn.n,1⟩
 else if x.op=51 then⟨((c.C[x.a.toNat]?).map vlN).getD zSn.n,1⟩
 else if x.op=53 then(st.r x.b).getD zSn
 else if x.op=54 then(st.s x.a).getD zSn
 else opr x.op ((reads x).map fun r=>(st.r r).getD zSn)
def upd (c:quY)(st:St)(x:Ins4):St:=⟨fun k=>if wrote false k x=true then some (valOf c st x)else st.r k,fun k=>if wrote true k x=true then some (valOf c st x)else st.s k⟩
def stAt (c:quY):Nat->St
 |0=>⟨fun _=>none,fun _=>none⟩
 |i+1=>match c.L[i]? with
  |some x=>upd c (stAt c i) x
  |none=>stAt c i
def xw (c:quY)(i:Nat):Sn:=match c.L[i]? with
 |some x=>valOf c (stAt c i) x
 |none=>zSn
theorem qvJ (c:quY):∀ (i:Nat) (k:Int),(stAt c i).r k=(qwa c.L false k i).map (xw c)
 |0,k=>rfl
 |i+1,k=>by
  simp only[stAt,qwa];cases hx:c.L[i]? with
  |none=>exact qvJ c i k
  |some x=>
   simp only[upd];by_cases h:wrote false k x=true
   . rw[aF h,aF h];simp[xw,hx]
   . rw[aG h,aG h];exact qvJ c i k
theorem qxK (c:quY):∀ (i:Nat) (k:Int),(stAt c i).s k=(qwa c.L true k i).map (xw c)
 |0,k=>rfl
 |i+1,k=>by
  simp only[stAt,qwa];cases hx:c.L[i]? with
  |none=>exact qxK c i k
  |some x=>
   simp only[upd];by_cases h:wrote true k x=true
   . rw[aF h,aF h];simp[xw,hx]
   . rw[aG h,aG h];exact qxK c i k
theorem qv6 {L:List Ins4}{slot:Bool}{r:Int}:∀ {i j:Nat},qwa L slot r i=some j->j<i/\∃ x,L[j]? = some x/\wrote slot r x=true
 |0,j,h=>by cases h
 |i+1,j,h=>by
  simp only[qwa]at h;split at h
  . rename_i x hx;split at h
    . rename_i hw;cases h;exact⟨by omega,x,hx,hw⟩
    . have:=qv6 h;exact⟨by omega,this.2⟩
  . have:=qv6 h;exact⟨by omega,this.2⟩
theorem qA4:∀ (l:List Sn) (n:Int),n<=1025->sumF l n<=1025
 |[],n,h=>h
 |s::l,n,h=>qA4 l _ (by show min 1025 (n+s.size)<=1025;omega)
theorem qA3:∀ (l:List Sn) (n:Int),n<=1025->(∀ s∈l,s.wf)->sumF l n=1025\/n+cnts (l.map (·.n))<=sumF l n
 |[],n,h,_=>.inr (by simp[sumF,cnts])
 |s::l,n,h,hw=>by
  have h1:=hw s au;obtain⟨a1,a2,a3⟩:=h1;have ih:=qA3 l (min 1025 (n+s.size)) (by omega) fun t ht=>hw t (aB _ ht);have e:sumF (s::l) n=sumF l (min 1025 (n+s.size)):=rfl;rw[e,List.map_cons,cnts];have top:min 1025 (n+s.size)=1025->sumF l (min 1025 (n+s.size))=1025:=fun q=>by
   rw[q];have:∀ (l:List Sn),(∀ s∈l,s.wf)->sumF l 1025=1025:=by
    intro l
    induction l with
    |nil=>intro _;rfl
    |cons t l ih=>intro h;have:=h t au;show sumF l (min 1025 (1025+t.size))=1025;rw[show min 1025 (1025+t.size)=1025 by have:=this.1;omega];exact ih fun u hu=>h u (aB _ hu)
   exact this l fun t ht=>hw t (aB _ ht)
  by_cases q:min 1025 (n+s.size)=1025
  . exact .inl (top q)
  . rcases ih with ih|ih
    . exact .inl ih
    . refine .inr ?_;push_cast;omega
theorem qDA {op:Int}{l:List Sn}(h:∀ s∈l,s.wf):(opr op l).wf:=by
 unfold opr;split
 . exact⟨by show(0:Int)<=1025;omega,by show(1025:Int)<=1025;omega,by simp[cnt,cnts]⟩
 .
  rename_i hn;have h1:=qA4 l 1 (by omega);rcases qA3 l 1 (by omega) h with h2|h2
  . exact absurd h2 hn
  . refine⟨by show 0<=sumF l 1;omega,h1,?_⟩;show((cnt (.mk op _ (l.map (·.n)) 0 0 0 0):Nat):Int)<=sumF l 1;rw[cnt];push_cast;omega
theorem qCV {o:Option Sn}(h:∀ s,o=some s->s.wf)(hs:o.isSome=true):(o.getD zSn).wf:=by
 cases o with
 |none=>cases hs
 |some s=>exact h s rfl
theorem qvQ {c:quY}{i:Nat}{x:Ins4}(h:okB c i x=true)(h52:x.op≠52):
  (x.op=50/\∃ y,0<=x.a/\c.I[x.a.toNat]? = some y)\/(x.op=51/\∃ y,0<=x.a/\c.C[x.a.toNat]? = some y)\/(x.op=53/\isW c.L false i x.b=true)\/(x.op=54/\isW c.L true i x.a=true) \/
  (x.op≠50/\x.op≠51/\x.op≠53/\x.op≠54/\(nOps x.op=1\/nOps x.op=2)/\∀ r∈reads x,isW c.L false i r=true):=by
 simp only[okB,aD]at h;have h:=h.1;unfold qvB at h;by_cases h50:x.op=50
 . rw[aF h50]at h;simp only[aD,aY]at h;exact .inl ⟨h50,_,h.2.2.1,ax (by omega)⟩
 rw[aG h50]at h;by_cases h51:x.op=51
 . rw[aF h51]at h;simp only[aD,aY]at h;exact .inr (.inl ⟨h51,_,h.2.2.1,ax (by omega)⟩)
 rw[aG h51]at h;by_cases h53:x.op=53
 . rw[aF h53]at h;simp only[aD]at h;exact .inr (.inr (.inl ⟨h53,h.2⟩))
 rw[aG h53]at h;by_cases h54:x.op=54
 . rw[aF h54]at h;simp only[aD]at h;exact .inr (.inr (.inr (.inl ⟨h54,h.2.2⟩)))
 rw[aG h54,aG h52]at h;refine .inr (.inr (.inr (.inr ⟨h50,h51,h53,h54,?_⟩)));by_cases h1:nOps x.op=1
 . rw[aF h1]at h;simp only[aD]at h;refine⟨.inl h1,fun r hr=>?_⟩;simp[reads,h1]at hr;subst hr;exact h.2.2
 .
  rw[aG h1]at h;simp only[aD,aY]at h;refine⟨.inr h.1,fun r hr=>?_⟩;simp[reads,h52,h.1]at hr;rcases hr with rfl|rfl
  . exact h.2.2.1
  . exact h.2.2.2
structure Gd (c:quY):Prop where
 len:1<=c.L.length/\c.L.length<=1024
 ok:∀ i x,c.L[i]? = some x->okB c i x=true
theorem qzj {c:quY}:∀ {m i:Nat},allB c i m=true->∀ j x,i<=j->j<i+m->c.L[j]? = some x->okB c j x=true
 |0,i,_,j,x,h1,h2,_=>absurd h2 (by omega)
 |m+1,i,h,j,x,h1,h2,hx=>by
  simp only[allB,aD]at h;by_cases hj:i=j
  . subst hj;rw[hx]at h;exact h.1
  . exact qzj h.2 j x (by omega) (by omega) hx
theorem Gd.of {c:quY}(h:qwV c=true):Gd c:=by simp only[qwV,aD,aY]at h;exact⟨⟨h.1.2.2.2.2.1,h.1.2.2.2.2.2⟩,fun i x hx=>qzj h.2.2.2 i x (by omega) (by have:=(az.1 hx).1;omega) hx⟩
theorem Gd.no52 {c:quY}(h:Gd c){i:Nat}{x:Ins4}(hx:c.L[i]? = some x)(hi:i+1<c.L.length):x.op≠52:=fun e=>by have:=h.ok i x hx;simp only[okB,aD,aY]at this;have:=this.2.1 e;omega
theorem qxM {c:quY}(h:Gd c):∀ (i:Nat),i+1<c.L.length->(xw c i).wf:=by
 intro i
 induction i using Nat.strongRecOn with
 |ind i ih=>
  intro hi;obtain⟨x,hx⟩:∃ x,c.L[i]? = some x:=⟨_,ax (by omega)⟩
  have h52:=h.no52 hx hi;have hr:∀ slot k,isW c.L slot i k=true->(((qwa c.L slot k i).map (xw c)).getD zSn).wf:=by intro slot k hk;unfold isW at hk;obtain⟨j,hj⟩:=Option.isSome_iff_exists.1 hk;rw[hj];have:=(qv6 hj).1;exact ih j this (by omega)
  simp only[xw,hx];rcases qvQ (h.ok i x hx) h52 with⟨q,y,_,hy⟩|⟨q,y,_,hy⟩|⟨q,hq⟩|⟨q,hq⟩|⟨q1,q2,q3,q4,q5,q6⟩
  . simp only[valOf,aF q,hy,av,Option.getD_some,inN];exact⟨by simp,by simp,by simp[cnt,cnts]⟩
  . simp only[valOf,aG (show x.op≠50 by omega),aF q,hy,av,Option.getD_some,vlN];exact⟨by simp,by simp,by simp[cnt,cnts]⟩
  . simp only[valOf,aG (show x.op≠50 by omega),aG (show x.op≠51 by omega),aF q,qvJ];exact hr _ _ hq
  . simp only[valOf,aG (show x.op≠50 by omega),aG (show x.op≠51 by omega),aG (show x.op≠53 by omega),aF q,qxK];exact hr _ _ hq
  . simp only[valOf,aG q1,aG q2,aG q3,aG q4,qvJ];refine qDA fun s hs=>?_;rw[List.mem_map]at hs;obtain⟨r,hr1,rfl⟩:=hs;exact hr _ _ (q6 r hr1)
def told (c:quY):Sn:=match c.L[c.L.length-1]? with
 |some x=>((stAt c (c.L.length-1)).r x.a).getD zSn
 |none=>zSn
theorem qxs {c:quY}(h:Gd c):∃ x j,c.L[c.L.length-1]? = some x/\x.op=52/\qwa c.L false x.a (c.L.length-1)=some j/\told c=xw c j/\j+1<c.L.length:=by
 have hl:=h.len;obtain⟨x,hx⟩:∃ x,c.L[c.L.length-1]? = some x:=⟨_,ax (by omega)⟩
 have h1:=h.ok _ x hx;have h52:x.op=52:=by simp only[okB,aD,aY]at h1;exact h1.2.2 (by omega)
 have h2:isW c.L false (c.L.length-1) x.a=true:=by simp[okB,qvB,h52]at h1;exact h1.1.2
 obtain⟨j,hj⟩:=Option.isSome_iff_exists.1 h2;have:=(qv6 hj).1;exact⟨x,j,hx,h52,hj,by simp only[told,hx,qvJ,hj,av,Option.getD_some],by omega⟩
end Ab
end Go.Proofs.YtjnefcbeemkkeaaGreat

/-
  Functions by steps, from some depth on; code, nodes and maps by numbers as data of their own. No claim stands here.
-/
import Derived.Test.YtjnefcbeemkkeaaGreatFQTbq
set_option linter.all false
namespace Go.Proofs.YtjnefcbeemkkeaaGreat
namespace Ab
def Alw (Q:Nat->Prop):Prop:=∃ N,∀ k,N<=k->Q k
theorem Alw.all {Q:Nat->Prop}(h:∀ k,Q k):Alw Q:=⟨0,fun k _=>h k⟩
theorem Alw.and {Q S:Nat->Prop}:Alw Q->Alw S->Alw fun k=>Q k/\S k
 |⟨N,h⟩,⟨M,g⟩=>⟨N+M,fun k hk=>⟨h k (by omega),g k (by omega)⟩⟩
def Tot {α:Type}(f:Nat->Option α)(r:α):Prop:=Alw fun k=>f k=some r
def Goes {S R:Type}(step:Nat->(S->Option R)->S->Option R)(s:S)(r:R):Prop:=Tot (fun k=>itS step k s) r
section
variable {S R A B C:Type} {step:Nat->(S->Option R)->S->Option R} {s s':S} {r:R}
theorem Goes.alw {Q:Nat->Prop}:Alw Q->(∀ k,Q k->step k (itS step k) s=some r)->Goes step s r
 |⟨N,h⟩,e=>⟨N+1,fun k hk=>by
  obtain⟨j,rfl⟩:∃ j,k=j+1:=⟨k-1,by omega⟩
  exact e j (h j (by omega))⟩
theorem Goes.fin (e:∀ k,step k (itS step k) s=some r):Goes step s r:=.alw (.all fun _=>trivial) fun k _=>e k
theorem Goes.of1 {f:Nat->Option A}{a:A}(h:Tot f a)(e:∀ k,f k=some a->step k (itS step k) s=some r):Goes step s r:=.alw h e
theorem Goes.of2 {f:Nat->Option A}{a:A}{g:Nat->Option B}{b:B}(h:Tot f a)(h2:Tot g b)(e:∀ k,f k=some a->g k=some b->step k (itS step k) s=some r):Goes step s r:=.alw (h.and h2) fun k x=>e k x.1 x.2
theorem Goes.of3 {f:Nat->Option A}{a:A}{g:Nat->Option B}{b:B}{f3:Nat->Option C}{c:C}(h:Tot f a)(h2:Tot g b)(h3:Tot f3 c)(e:∀ k,f k=some a->g k=some b->f3 k=some c->step k (itS step k) s=some r):Goes step s r:=.alw (h.and (h2.and h3)) fun k x=>e k x.1 x.2.1 x.2.2
theorem Goes.go (h:Goes step s' r)(e:∀ k,step k (itS step k) s=itS step k s'):Goes step s r:=.alw h fun k x=>(e k).trans x
theorem Goes.cast' {r':R}(h:Goes step s r)(e:r=r'):Goes step s r':=e▸h
end
theorem qjj {α:Type}{f:Nat->Option α}{r:α}(N:Nat)(h:∀ j,f (j+N)=some r):Tot f r:=⟨N,fun k hk=>by obtain⟨j,rfl⟩:∃ j,k=j+N:=⟨k-N,by omega⟩;exact h j⟩
theorem wrapN {x:Int}(h0 : -9223372036854775808<=x)(h1:x<9223372036854775808):IntKind.i64.wrap x=x:=by rw[IntKind.wrap_i64];omega
theorem zq {i:Nat}(h:i<4611686018427387904):IntKind.i64.wrap ((i:Int)+1)=((i+1:Nat):Int):=by rw[wrapN (by omega) (by omega)];omega
theorem Yi {α:Type}{rows:Rs}{i:Nat}{row:List Cell}(h:rows[i]? = some row)(k:List Cell->Option α):ixR rows (i:Int) k=k row:=by
 have:decide ((0:Int)<=(i:Int))=true:=by simp
 simp[ixR,h]
theorem rwAt {α:Type}{L:List α}{f:α->List Cell}{i:Nat}{x:α}(h:L[i]? = some x):(L.map f)[i]? = some (f x):=by rw[aI,h];rfl
def oneR (n:Int):List Cell:=[ic n]
structure Ins4 where
 op:Int
 dst:Int
 a:Int
 b:Int
structure In4 where
 op:Int
 kind:Int
 pos:Int
 attr:Int
structure Vl where
 kind:Int
 bits:Int
structure quY where
 regs:Int
 slots:Int
 I:List In4
 C:List Vl
 L:List Ins4
def insR (x:Ins4):List Cell:=[ic x.op,ic x.dst,ic x.a,ic x.b]
def inR (x:In4):List Cell:=[ic x.op,ic x.kind,ic x.pos,ic x.attr]
def vlR (x:Vl):List Cell:=[ic x.kind,.val (.int .u64 x.bits)]
theorem qvs {α:Type}(x:Ins4)(k:Int->Int->Int->Int->Option α):qvU (insR x) k=k x.op x.dst x.a x.b:=rfl
theorem qBE {α:Type}(x:In4)(k:Int->Int->Int->Int->Option α):qvU (inR x) k=k x.op x.kind x.pos x.attr:=rfl
theorem qBG {α:Type}(x:Vl)(k:Int->Int->Option α):qx5 (vlR x) k=k x.kind x.bits:=rfl
theorem qyC {α:Type}(x:Int)(k:Int->Option α):un_i (oneR x) k=k x:=rfl
inductive Nd where
 |mk (op kind:Int) (args:List Nd) (vk vb pos attr:Int)
def Nd.kind:Nd->Int|.mk _ k ..=>k
mutual
def qvo:Nd->List Cell
 |.mk op kind args vk vb pos attr=>[ic op,ic kind,.imm (xk args),ic vk,.val (.int .u64 vb),ic pos,ic attr]
def xk:List Nd->Rs
 |[]=>[]
 |n::l=>qvo n::xk l
end
theorem qvk:∀ l:List Nd,xk l=l.map qvo
 |[]=>rfl
 |n::l=>by rw[xk,qvk l];rfl
theorem qAz (n:Nd):qfz (qvo n)=qvo n:=by cases n;rfl
theorem qv5:∀ l:List Nd,qG (l.map qvo)=l.map qvo
 |[]=>rfl
 |n::l=>by rw[List.map_cons,qG,qAz,qv5 l]
theorem qxS:∀ l:List Int,qG (l.map oneR)=l.map oneR
 |[]=>rfl
 |n::l=>by rw[List.map_cons,qG,qxS l];rfl
mutual
def cnt:Nd->Nat
 |.mk _ _ args ..=>cnts args+1
def cnts:List Nd->Nat
 |[]=>0
 |n::l=>cnt n+cnts l
end
def ik (k:Int):Value:=.int .i64 k
def OkE (es:Es):Prop:=∀ p∈es,∃ i,p.1=ik i
def lk (es:Es)(k:Int):Option (List Cell):=match es with
 |[]=>none
 |p::es=>match p.1 with
  |.int .i64 i=>if i=k then some p.2 else lk es k
  |_=>lk es k
theorem qwJ (i k:Int)(l:List Cell)(es:Es):lk ((ik i,l)::es) k=if i=k then some l else lk es k:=rfl
theorem ut3:Tryz.prog.underlying 3=some (.int .i64):=by kernel_rfl
theorem qBU (a b:Int):qbk Tryz.prog 3 (ik a) (ik b)=some (a==b):=by unfold qbk ik;rw[ut3];simp
theorem find_ok {k:Int}:∀ {es:Es},OkE es->yU Tryz.prog 3 (.int .i64 k) es=some (lk es k)
 |[],_=>rfl
 |(p,l)::es,h=>by
  obtain⟨i,hi⟩:=h _ au;have hi:p=ik i:=hi;subst hi;have ih:=find_ok (k:=k) (es:=es) fun q hq=>h q (aB _ hq);unfold yU;rw[qwJ,show(.int .i64 k:Value)=ik k from rfl,qBU];by_cases hk:k=i
  . subst hk;simp
  . rw[show(k==i)=false by simpa using hk,aG fun e=>hk e.symm];exact ih
theorem qzD {k:Int}{l:List Cell}:∀ {es:Es},OkE es->∃ es',xL Tryz.prog 3 (.int .i64 k) l es=some es'/\OkE es'/\∀ j,lk es' j=if j=k then some l else lk es j
 | [],_=>⟨[(ik k,l)],rfl,fun p hp=>⟨k,by simp at hp;subst hp;rfl⟩,fun j=>by
   rw[qwJ];by_cases hj:j=k
   . rw[aF hj,aF hj.symm]
   . rw[aG hj,aG fun e=>hj e.symm]⟩
 |(p,l')::es,h=>by
  obtain⟨i,hi⟩:=h _ au;have hi:p=ik i:=hi;subst hi;have hes:OkE es:=fun q hq=>h q (aB _ hq);obtain⟨es',h1,h2,h3⟩:=qzD (k:=k) (l:=l) hes;unfold xL;rw[show(.int .i64 k:Value)=ik k from rfl,qBU];by_cases hk:k=i
  .
   subst hk;refine⟨(ik k,l)::es,?_,fun q hq=>?_,fun j=>?_⟩
   . simp only[beq_self_eq_true];rw[aF (by simp[Instr.sameBits,ik])]
   . rcases List.mem_cons.1 hq with rfl|hq
     . exact⟨k,rfl⟩
     . exact hes q hq
   . rw[qwJ,qwJ];by_cases hj:j=k
     . rw[aF hj,aF hj.symm]
     . rw[aG hj,aG fun e=>hj e.symm,aG fun e=>hj e.symm]
  .
   refine⟨(ik i,l')::es',?_,fun q hq=>?_,fun j=>?_⟩
   . rw[show(k==i)=false by simpa using hk];show(xL Tryz.prog 3 (.int .i64 k) l es).map _=_;rw[h1];rfl
   . rcases List.mem_cons.1 hq with rfl|hq
     . exact⟨i,rfl⟩
     . exact h2 q hq
   . rw[qwJ,qwJ];by_cases hj:i=j
     . rw[aF hj,aG fun e=>hk (by omega),aF hj]
     . rw[aG hj,aG hj];exact h3 j
end Ab
end Go.Proofs.YtjnefcbeemkkeaaGreat

/-
  Queries as data; Same, Nodes and Twin of both; QueryTells' law.
-/
import Derived.Test.YtgfbbmjoflehlaaGreatDoorEx1q
import Derived.Test.YtgfbbmjoflehlaaGreatDoorEx2q
set_option linter.all false
namespace Go.Proofs.YtgfbbmjoflehlaaGreatDoor
namespace Ab
structure It where
 form:Int
 typ:By
 nm:By
 pos:Int
def qzx (x:It):List Cell:=[ic x.form,sc x.typ,sc x.nm,ic x.pos]
def qu7 (l:List It):Rs:=l.map qzx
def qyQ (b:List It):List Cell:=[.imm (qu7 b)]
def qu0 (l:List (List It)):Rs:=l.map qyQ
structure Qu where
 br:List (List It)
 wh:List Ex
 st:Int
 wd:Int
 key:By
 ka:Int
structure Few (q:Qu):Prop where
 br:q.br.length<1000000000
 it:∀ l∈q.br,l.length<1000000000
 wh:cnts q.wh<1000000000
theorem Few.at {q:Qu}(h:Few q){i:Nat}{l:List It}(e:q.br[i]? = some l):l.length<1000000000:=h.it l (aM e)
theorem qvf (l:List It):(qu7 l).length=l.length:=by simp[qu7]
theorem qwx (l:List (List It)):(qu0 l).length=l.length:=by simp[qu0]
theorem qE6 {l:List It}{i:Nat}{x:It}(h:l[i]? = some x):(qu7 l)[i]? = some (qzx x):=by simp[qu7,h]
theorem qCU {l:List (List It)}{i:Nat}{x:List It}(h:l[i]? = some x):(qu0 l)[i]? = some (qyQ x):=by simp[qu0,h]
theorem qFW {α:Type}(x:It)(k:Int->By->By->Int->Option α):qvQ (qzx x) k=k x.form x.typ x.nm x.pos:=rfl
theorem qEL {α:Type}(x:List It)(k:Rs->Option α):un_m (qyQ x) k=k (qu7 x):=rfl
def qvh (q:Qu):Nat:=cnts q.wh+(q.wh.length-1)
section
variable [vo]
theorem qlY {a:Qu}(ha:Few a):Tot (fun k=>g15 k (qu0 a.br) (qg a.wh) a.st a.wd a.key a.ka) (qvh a:Int):=by
 have hlen:=qfm a.wh;have hf:=ha.wh;have loop:∀ (j i:Nat) (c:Nat),a.wh.length-i=j->c+cnts (a.wh.drop i)=qvh a->Goes Zu (.h0 (c:Int) (qg a.wh) (a.wh.length:Int) (i:Int)) (qvh a:Int):=by
  intro j
  induction j with
  |zero=>intro i c hi hs;rw[List.drop_eq_nil_of_le (by omega),cnts,Nat.add_zero]at hs;subst hs;refine .fin0 fun k rec=>?_;simp only[nt,Zu,ltF (show ¬ i<a.wh.length by omega),af]
  |succ j ih=>
   intro i c hi hs;have h1:i<a.wh.length:=by omega
   have e1:=ax h1;generalize a.wh[i]=x at e1;have hx:=qfF e1;have hd:=qhM e1;have hn:qvh a<2000000000:=by unfold qvh;omega
   have self:Tot (fun k=>g48 k x.op (qg x.args) x.n x.scale x.name x.attr x.pos) (cnt x:Int):=qA2 _ x (Nat.le_refl _) (by omega);refine Goes.call self (ih (i+1) (c+cnt x) (by omega) (by omega)) fun k rec e=>?_;simp only[nt,Zu,ltT h1,ah,Yi (qhi e1),qkU,e,ae,zq i (by omega),qk7 c (cnt x) (by omega)]
 have hm:(if IntKind.i64.wrap ((a.wh.length:Int)-1)>0 then IntKind.i64.wrap ((a.wh.length:Int)-1)else 0)=((a.wh.length-1:Nat):Int):=by rw[show IntKind.i64.wrap ((a.wh.length:Int)-1)=(a.wh.length:Int)-1 by unfold IntKind.wrap;simp[IntKind.signed,IntKind.bits];omega];split<;>omega
 refine Goes.rec0 (step:=Zu) (s:=.e (qu0 a.br) (qg a.wh) a.st a.wd a.key a.ka) (loop _ 0 (a.wh.length-1) rfl (by rw[List.drop_zero];unfold qvh;omega)) fun k rec=>?_;simp only[nt,Zu,Yt,hm];rfl
theorem qDF {a:Qu}(ha:Few a):Tot (fun k=>g23 k (qu0 a.br) (qg a.wh) a.st a.wd a.key a.ka) (qvh a:Int):=by
 have hlen:=qfm a.wh;have hf:=ha.wh;have loop:∀ (j i:Nat) (c:Nat),a.wh.length-i=j->c+cnts (a.wh.drop i)+(a.wh.length-1-(i-1))=qvh a->Goes qkj (.h0 (c:Int) (a.wh.length:Int) (i:Int) (qu0 a.br) (qg a.wh) a.st a.wd a.key a.ka) (qvh a:Int):=by
  intro j
  induction j with
  |zero=>
   intro i c hi hs;rw[List.drop_eq_nil_of_le (by omega),cnts,Nat.add_zero]at hs;have:c=qvh a:=by omega
   subst this;refine .fin0 fun k rec=>?_;simp only[nt,qkj,ltF (show ¬ i<a.wh.length by omega),af]
  |succ j ih=>
   intro i c hi hs;have h1:i<a.wh.length:=by omega
   have e1:=ax h1;generalize a.wh[i]=x at e1;have hx:=qfF e1;have hd:=qhM e1;have hn:qvh a<2000000000:=by unfold qvh;omega
   have hdl:=qxS a.wh i;have self:Tot (fun k=>g57 k x.op (qg x.args) x.n x.scale x.name x.attr x.pos) (cnt x:Int):=qA4 _ x (Nat.le_refl _) (by omega);by_cases h0:i=0
   . subst h0;have s1:Goes qkj (.h1 ((c+cnt x:Nat):Int) (a.wh.length:Int) ((0:Nat):Int) (qu0 a.br) (qg a.wh) a.st a.wd a.key a.ka) (qvh a:Int):=by refine Goes.rec0 (ih 1 (c+cnt x) (by omega) (by rw[hd]at hs;simp only[Nat.zero_add]at hs |-;omega)) fun k rec=>?_;simp only[nt,qkj];rfl
     refine Goes.call self s1 fun k rec e=>?_;simp only[nt,qkj,ltT h1,ah,Yi (qhi e1),qkU,e,ae,qk7 c (cnt x) (by omega)];rfl
   . have s1:Goes qkj (.h1 ((c+cnt x+1:Nat):Int) (a.wh.length:Int) (i:Int) (qu0 a.br) (qg a.wh) a.st a.wd a.key a.ka) (qvh a:Int):=by refine Goes.rec0 (ih (i+1) (c+cnt x+1) (by omega) (by omega)) fun k rec=>?_;simp only[nt,qkj,zq i (by omega)]
     refine Goes.call self s1 fun k rec e=>?_;have hp:decide ((i:Int)>0)=true:=aO (by omega);simp only[nt,qkj,ltT h1,ah,Yi (qhi e1),qkU,e,ae,qk7 c (cnt x) (by omega),hp,zq (c+cnt x) (by omega)]
 refine Goes.rec0 (step:=qkj) (s:=.e (qu0 a.br) (qg a.wh) a.st a.wd a.key a.ka) (loop _ 0 0 rfl (by rw[List.drop_zero];unfold qvh;omega)) fun k rec=>?_;simp only[nt,qkj,Yt];rfl
theorem qxg (l:List It):qG (qu7 l)=qu7 l:=by rw[Yr];simp only[qu7,List.map_map];rfl
end
end Ab
end Go.Proofs.YtgfbbmjoflehlaaGreatDoor

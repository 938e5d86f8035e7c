/-
  Queries as data; Same, Nodes and Twin of both; QueryTells' law.
-/
import Derived.Test.YtpdhhkfllkgahaaGreatDoorFQeq
import Derived.Test.YtpdhhkfllkgahaaGreatDoorEx2q
set_option linter.all false
namespace Go.Proofs.YtpdhhkfllkgahaaGreatDoor
namespace Ab
structure It where
 form:Int
 typ:By
 nm:By
 pos:Int
def qv7 (x:It):List Cell:=[ic x.form,sc x.typ,sc x.nm,ic x.pos]
def xe (l:List It):Rs:=l.map qv7
def qvJ (b:List It):List Cell:=[.imm (xe b)]
def zf (l:List (List It)):Rs:=l.map qvJ
structure Qu where
 br:List (List It)
 wh:List Ex
 st:Int
 wd:Int
 key:By
 ka:Int
structure Few (q:Qu):Prop where
 br:q.br.length<1000000000
 it:∀ l∈q.br,l.length<1000000000
 wh:cnts q.wh<1000000000
theorem Few.at {q:Qu}(h:Few q){i:Nat}{l:List It}(e:q.br[i]? = some l):l.length<1000000000:=h.it l (aM e)
theorem qu5 (l:List It):(xe l).length=l.length:=by simp[xe]
theorem qu0 (l:List (List It)):(zf l).length=l.length:=by simp[zf]
def qwb (x y:It):Bool:=x.form==y.form&&(x.typ.toList==y.typ.toList&&(x.nm.toList==y.nm.toList&&true))
def qva:List It→List It→Bool
 |a::l,b::m=>qwb a b&&qva l m
 |[],_=>true
 |_::_,[]=>true
def qu2 (q:Qu):Nat:=cnts q.wh+(q.wh.length-1)
section
variable [vo]
theorem qyS {a:Qu}(ha:Few a):Tot (fun k=>g12 k (zf a.br) (qg a.wh) a.st a.wd a.key a.ka) (qu2 a:Int):=by
 have hlen:=qfm a.wh;have hf:=ha.wh;have loop:∀ (j i:Nat) (c:Nat),a.wh.length-i=j→c+cnts (a.wh.drop i)=qu2 a→Goes qmH (.h0 (c:Int) (qg a.wh) (a.wh.length:Int) (i:Int)) (qu2 a:Int):=by
  intro j
  induction j with
  |zero=>intro i c hi hs;rw[List.drop_eq_nil_of_le (by omega),cnts,Nat.add_zero]at hs;subst hs;refine .fin0 fun k rec=>?_;simp only[qmH,ltF (show ¬ i<a.wh.length by omega),af]
  |succ j ih=>
   intro i c hi hs;have h1:i<a.wh.length:=by omega
   have e1:=ax h1;generalize a.wh[i]=x at e1;have hx:=qfF e1;have hd:=qhM e1;have hn:qu2 a<2000000000:=by unfold qu2;omega
   have self:Tot (fun k=>g17 k x.op (qg x.args) x.n x.scale x.name x.attr x.pos) (cnt x:Int):=qxp _ x (Nat.le_refl _) (by omega);refine Goes.call self (ih (i+1) (c+cnt x) (by omega) (by omega)) fun k rec e=>?_;simp only[qmH,ltT h1,ah,Yi (qhi e1),qkU,e,ae,zq i (by omega),qk7 c (cnt x) (by omega)]
 have hm:(if IntKind.i64.wrap ((a.wh.length:Int)-1)>0 then IntKind.i64.wrap ((a.wh.length:Int)-1)else 0)=((a.wh.length-1:Nat):Int):=by rw[show IntKind.i64.wrap ((a.wh.length:Int)-1)=(a.wh.length:Int)-1 by unfold IntKind.wrap;simp[IntKind.signed,IntKind.bits];omega];split<;>omega
 refine Goes.rec0 (step:=qmH) (s:=.e (zf a.br) (qg a.wh) a.st a.wd a.key a.ka) (loop _ 0 (a.wh.length-1) rfl (by rw[List.drop_zero];unfold qu2;omega)) fun k rec=>?_;simp only[qmH,Yt,hm];rfl
theorem qwr (l:List It):qG (xe l)=xe l:=by rw[Yr];simp only[xe,List.map_map];rfl
end
end Ab
end Go.Proofs.YtpdhhkfllkgahaaGreatDoor

/-
  Queries as data; Same, Nodes and Twin of both; QueryTells' law.
-/
import Derived.Test.YtpdhhkfllkgahaaGreatDoorFQeq
import Derived.Test.YtpdhhkfllkgahaaGreatDoorEx2q
set_option linter.all false
namespace Go.Proofs.YtpdhhkfllkgahaaGreatDoor
namespace Ab
structure It where
 form:Int
 typ:By
 nm:By
 pos:Int
def qv7 (x:It):List Cell:=[ic x.form,sc x.typ,sc x.nm,ic x.pos]
def xe (l:List It):Rs:=l.map qv7
def qvJ (b:List It):List Cell:=[.imm (xe b)]
def zf (l:List (List It)):Rs:=l.map qvJ
structure Qu where
 br:List (List It)
 wh:List Ex
 st:Int
 wd:Int
 key:By
 ka:Int
structure Few (q:Qu):Prop where
 br:q.br.length<1000000000
 it:∀ l∈q.br,l.length<1000000000
 wh:cnts q.wh<1000000000
theorem Few.at {q:Qu}(h:Few q){i:Nat}{l:List It}(e:q.br[i]? = some l):l.length<1000000000:=h.it l (aM e)
theorem qu5 (l:List It):(xe l).length=l.length:=by simp[xe]
theorem qu0 (l:List (List It)):(zf l).length=l.length:=by simp[zf]
theorem qwt {l:List It}{i:Nat}{x:It}(h:l[i]? = some x):(xe l)[i]? = some (qv7 x):=by simp[xe,h]
theorem qvx {l:List (List It)}{i:Nat}{x:List It}(h:l[i]? = some x):(zf l)[i]? = some (qvJ x):=by simp[zf,h]
theorem qx6 {α:Type}(x:It)(k:Int→By→By→Int→Option α):qu8 (qv7 x) k=k x.form x.typ x.nm x.pos:=rfl
theorem qv1 {α:Type}(x:List It)(k:Rs→Option α):un_m (qvJ x) k=k (xe x):=rfl
def qwb (x y:It):Bool:=x.form==y.form&&(x.typ.toList==y.typ.toList&&(x.nm.toList==y.nm.toList&&true))
def qva:List It→List It→Bool
 |a::l,b::m=>qwb a b&&qva l m
 |[],_=>true
 |_::_,[]=>true
def qvb:List (List It)→List (List It)→Bool
 |a::l,b::m=>!((a.length:Int)!=(b.length:Int))&&(qva a b&&qvb l m)
 |[],_=>true
 |_::_,[]=>true
def hdQ (a b:Qu):Bool:=a.st != b.st||(a.wd != b.wd||(!(a.key.toList==b.key.toList)||(((a.br.length:Int)!=(b.br.length:Int))||((a.wh.length:Int)!=(b.wh.length:Int)))))
def qvX (a b:Qu):Bool:=!(hdQ a b)&&(qvb a.br b.br&&Zp a.wh b.wh)
def qu2 (q:Qu):Nat:=cnts q.wh+(q.wh.length-1)
section
variable [vo]
abbrev qyV (a b:Qu)(i:Nat):S10:=.h1 (zf a.br) (a.br.length:Int) (i:Int) (zf b.br) (qg b.wh) b.st b.wd b.key b.ka (zf a.br) (qg a.wh) a.st a.wd a.key a.ka
abbrev qzm (a b:Qu)(l:List It)(i j:Nat):S10:=.h2 (i:Int) (zf a.br) (a.br.length:Int) (i:Int) (xe l) (l.length:Int) (j:Int) (zf b.br) (qg b.wh) b.st b.wd b.key b.ka (zf a.br) (qg a.wh) a.st a.wd a.key a.ka
abbrev qzo (a b:Qu)(i:Nat):S10:=.h3 (a.wh.length:Int) (i:Int) (zf b.br) (qg b.wh) b.st b.wd b.key b.ka (zf a.br) (qg a.wh) a.st a.wd a.key a.ka
theorem qyO {a b:Qu}(ha:Few a)(hl:a.wh.length=b.wh.length):∀ (j i:Nat),a.wh.length-i=j→Goes qaJ (qzo a b i) (Zp (a.wh.drop i) (b.wh.drop i)):=by
 have hwl:=qfm a.wh;have hf:=ha.wh;intro j
 induction j with
 |zero=>intro i hi;rw[List.drop_eq_nil_of_le (by omega)];refine .fin0 fun k rec=>?_;simp only[qaJ,ltF (show ¬ i<a.wh.length by omega),af,Zp]
 |succ j ih=>
  intro i hi;have h1:i<a.wh.length:=by omega
  have h2:i<b.wh.length:=by omega
  have e1:=ax h1;have e2:=ax h2;rw[List.drop_eq_getElem_cons h1,List.drop_eq_getElem_cons h2,Zp];generalize a.wh[i]=x at e1;generalize b.wh[i]=y at e2;have hx:=qfF e1;have self:Tot (fun k=>g22 k x.op (qg x.args) x.n x.scale x.name x.attr x.pos y.op (qg y.args) y.n y.scale y.name y.attr y.pos) (qbA x y):=qxq _ x y (Nat.le_refl _) (by omega);cases hv:qbA x y with
  |true=>rw[hv]at self;refine Goes.call self (ih (i+1) (by omega)) fun k rec e=>?_;simp only[qaJ,ltT h1,ah,Yi (qhi e1),Yi (qhi e2),qkU,e,ae,aj,af,zq i (by omega)]
  |false=>rw[hv]at self;refine Goes.done self fun k rec e=>?_;simp only[qaJ,ltT h1,ah,Yi (qhi e1),Yi (qhi e2),qkU,e,ae,ak,ah];rfl
theorem qyN {a b:Qu}{l m:List It}{i:Nat}(eb:b.br[i]? = some m)(hl:l.length=m.length)(hf:l.length<1000000000)(hi:i<1000000000){r:Bool}(next:Goes qaJ (qyV a b (i+1)) r):∀ (n j:Nat),l.length-j=n→Goes qaJ (qzm a b l i j) (qva (l.drop j) (m.drop j)&&r):=by
 intro n
 induction n with
 |zero=>
  intro j hj;rw[List.drop_eq_nil_of_le (by omega),qva,Bool.true_and];refine Goes.rec0 next fun k rec=>?_
  simp only[qaJ,ltF (show ¬ j<l.length by omega),af,zq i (by omega)]
 |succ n ih=>
  intro j hj;have h1:j<l.length:=by omega
  have h2:j<m.length:=by omega
  have e1:=ax h1;have e2:=ax h2;rw[List.drop_eq_getElem_cons h1,List.drop_eq_getElem_cons h2,qva];generalize l[j]=x at e1;generalize m[j]=y at e2;have hc:(x.form==y.form&&(x.typ.toList==y.typ.toList&&(x.nm.toList==y.nm.toList&&true)))=qwb x y:=rfl;cases hv:qwb x y with
  |true=>rw[Bool.true_and];refine Goes.rec0 (ih (j+1) (by omega)) fun k rec=>?_;simp only[qaJ,ltT h1,ah,Yi (qwt e1),Yi (qwt e2),Yi (qvx eb),qx6,qv1,hc,hv,aj,af,zq j (by omega)]
  |false=>rw[Bool.false_and,Bool.false_and];refine .fin0 fun k rec=>?_;simp only[qaJ,ltT h1,ah,Yi (qwt e1),Yi (qwt e2),Yi (qvx eb),qx6,qv1,hc,hv,ak,ah]
theorem qyM {a b:Qu}(ha:Few a)(hb:a.br.length=b.br.length)(hl:a.wh.length=b.wh.length):∀ (j i:Nat),a.br.length-i=j→Goes qaJ (qyV a b i) (qvb (a.br.drop i) (b.br.drop i)&&Zp a.wh b.wh):=by
 have hf:=ha.br;intro j
 induction j with
 |zero=>intro i hi;rw[List.drop_eq_nil_of_le (by omega),qvb,Bool.true_and];have:=qyO ha hl _ 0 rfl;rw[List.drop_zero,List.drop_zero]at this;refine Goes.rec0 this fun k rec=>?_;simp only[qaJ,ltF (show ¬ i<a.br.length by omega),af,Yt];rfl
 |succ j ih=>
  intro i hi;have h1:i<a.br.length:=by omega
  have h2:i<b.br.length:=by omega
  have e1:=ax h1;have e2:=ax h2;rw[List.drop_eq_getElem_cons h1,List.drop_eq_getElem_cons h2,qvb];generalize a.br[i]=x at e1;generalize b.br[i]=y at e2;have hx:=ha.at e1;cases hv:((x.length:Int)!=(y.length:Int))with
  |true=>rw[aj,Bool.false_and,Bool.false_and];refine .fin0 fun k rec=>?_;simp only[qaJ,ltT h1,ah,Yi (qvx e1),Yi (qvx e2),qv1,qu5,hv]
  |false=>
   have hxy:x.length=y.length:=by rw[bne_eq_false_iff_eq]at hv;omega
   have:=qyN (a:=a) e2 hxy hx (by omega) (ih (i+1) (by omega)) _ 0 rfl;rw[List.drop_zero,List.drop_zero]at this;rw[ak,Bool.true_and,Bool.and_assoc];refine Goes.rec0 this fun k rec=>?_;simp only[qaJ,ltT h1,ah,Yi (qvx e1),Yi (qvx e2),qv1,qu5,hv,af];rfl
theorem qtr {a:Qu}(b:Qu)(ha:Few a):Tot (fun k=>g10 k (zf a.br) (qg a.wh) a.st a.wd a.key a.ka (zf b.br) (qg b.wh) b.st b.wd b.key b.ka) (qvX a b):=by
 have h0:Goes qaJ (.h0 (hdQ a b) (zf b.br) (qg b.wh) b.st b.wd b.key b.ka (zf a.br) (qg a.wh) a.st a.wd a.key a.ka) (qvX a b):=by
  unfold qvX;cases hh:hdQ a b with
  |true=>exact .fin0 fun k rec=>rfl
  |false=>unfold hdQ at hh;simp only[Bool.or_eq_false_iff]at hh;have hb:=hh.2.2.2.1;have hw:=hh.2.2.2.2;rw[bne_eq_false_iff_eq]at hb hw;have:=qyM ha (by omega) (by omega) (b:=b) _ 0 rfl;rw[List.drop_zero,List.drop_zero]at this;rw[ak,Bool.true_and];refine Goes.rec0 this fun k rec=>?_;simp only[qaJ,af,qu0];rfl
 refine Goes.rec0 (step:=qaJ) (s:=.e (zf a.br) (qg a.wh) a.st a.wd a.key a.ka (zf b.br) (qg b.wh) b.st b.wd b.key b.ka) h0 fun k rec=>?_;simp only[qaJ,Yt,qu0,hdQ];cases (a.st != b.st)<;>cases (a.wd != b.wd)<;>cases (!(a.key.toList==b.key.toList))<;>cases ((a.br.length:Int)!=(b.br.length:Int))<;>rfl
theorem qyS {a:Qu}(ha:Few a):Tot (fun k=>g12 k (zf a.br) (qg a.wh) a.st a.wd a.key a.ka) (qu2 a:Int):=by
 have hlen:=qfm a.wh;have hf:=ha.wh;have loop:∀ (j i:Nat) (c:Nat),a.wh.length-i=j→c+cnts (a.wh.drop i)=qu2 a→Goes qmH (.h0 (c:Int) (qg a.wh) (a.wh.length:Int) (i:Int)) (qu2 a:Int):=by
  intro j
  induction j with
  |zero=>intro i c hi hs;rw[List.drop_eq_nil_of_le (by omega),cnts,Nat.add_zero]at hs;subst hs;refine .fin0 fun k rec=>?_;simp only[qmH,ltF (show ¬ i<a.wh.length by omega),af]
  |succ j ih=>
   intro i c hi hs;have h1:i<a.wh.length:=by omega
   have e1:=ax h1;generalize a.wh[i]=x at e1;have hx:=qfF e1;have hd:=qhM e1;have hn:qu2 a<2000000000:=by unfold qu2;omega
   have self:Tot (fun k=>g17 k x.op (qg x.args) x.n x.scale x.name x.attr x.pos) (cnt x:Int):=qxp _ x (Nat.le_refl _) (by omega);refine Goes.call self (ih (i+1) (c+cnt x) (by omega) (by omega)) fun k rec e=>?_;simp only[qmH,ltT h1,ah,Yi (qhi e1),qkU,e,ae,zq i (by omega),qk7 c (cnt x) (by omega)]
 have hm:(if IntKind.i64.wrap ((a.wh.length:Int)-1)>0 then IntKind.i64.wrap ((a.wh.length:Int)-1)else 0)=((a.wh.length-1:Nat):Int):=by rw[show IntKind.i64.wrap ((a.wh.length:Int)-1)=(a.wh.length:Int)-1 by unfold IntKind.wrap;simp[IntKind.signed,IntKind.bits];omega];split<;>omega
 refine Goes.rec0 (step:=qmH) (s:=.e (zf a.br) (qg a.wh) a.st a.wd a.key a.ka) (loop _ 0 (a.wh.length-1) rfl (by rw[List.drop_zero];unfold qu2;omega)) fun k rec=>?_;simp only[qmH,Yt,hm];rfl
theorem qwr (l:List It):qG (xe l)=xe l:=by rw[Yr];simp only[xe,List.map_map];rfl
end
end Ab
end Go.Proofs.YtpdhhkfllkgahaaGreatDoor

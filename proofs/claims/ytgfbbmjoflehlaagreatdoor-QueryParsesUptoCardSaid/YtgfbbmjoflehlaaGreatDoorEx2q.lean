/-
  Trees as data; Same, Nodes and Twin of both.
-/
import Derived.Test.YtgfbbmjoflehlaaGreatDoorKsq
set_option linter.all false
namespace Go.Proofs.YtgfbbmjoflehlaaGreatDoor
namespace Ab
theorem Goes.self {S R:Type}{step:Nat->(S->Option R)->S->Option R}{s s1 s':S}{r1 r:R}(h1:Goes step s1 r1)(h:Goes step s' r)(e:∀ k rec,rec s1=some r1->step k rec s=rec s'):Goes step s r:=by
 obtain⟨N,hN⟩:=h1;obtain⟨M,hM⟩:=h;refine⟨max N M+1,fun k hk=>?_⟩;obtain⟨j,rfl⟩:∃ j,k=j+1:=⟨k-1,by omega⟩
 show step j (itS step j) s=some r;rw[e j (itS step j) (hN j (by omega))];exact hM j (by omega)
inductive Ex where
 |mk (op:Int) (args:List Ex) (n scale:Int) (name attr:ByteArray) (pos:Int)
mutual
def Xe:Ex->List Cell
 |.mk op args n scale name attr pos=>[ic op,.imm (qg args),ic n,ic scale,sc name,sc attr,ic pos]
def qg:List Ex->Rs
 |[]=>[]
 |n::l=>Xe n::qg l
end
mutual
def cnt:Ex->Nat
 |.mk _ args _ _ _ _ _=>cnts args+1
def cnts:List Ex->Nat
 |[]=>0
 |n::l=>cnt n+cnts l
end
mutual
def qbA:Ex->Ex->Bool
 |.mk o gs n s nm am _,.mk o' gs' n' s' nm' am' _=>!(o != o'||(n != n'||(s != s'||(!(nm.toList==nm'.toList)||(!(am.toList==am'.toList)||((gs.length:Int)!=(gs'.length:Int)))))))&&Zp gs gs'
def Zp:List Ex->List Ex->Bool
 |a::l,b::m=>qbA a b&&Zp l m
 |[],_=>true
 |_::_,[]=>true
end
def Ex.op:Ex->Int
 |.mk x _ _ _ _ _ _=>x
def Ex.args:Ex->List Ex
 |.mk _ x _ _ _ _ _=>x
def Ex.n:Ex->Int
 |.mk _ _ x _ _ _ _=>x
def Ex.scale:Ex->Int
 |.mk _ _ _ x _ _ _=>x
def Ex.name:Ex->ByteArray
 |.mk _ _ _ _ x _ _=>x
def Ex.attr:Ex->ByteArray
 |.mk _ _ _ _ _ x _=>x
def Ex.pos:Ex->Int
 |.mk _ _ _ _ _ _ x=>x
theorem qjn (n:Ex):Xe n=[ic n.op,.imm (qg n.args),ic n.n,ic n.scale,sc n.name,sc n.attr,ic n.pos]:=by cases n;rfl
theorem Yt:∀ (l:List Ex),(qg l).length=l.length
 |[]=>rfl
 |n::l=>by simp[qg,Yt l]
theorem qce:∀ (l:List Ex) (i:Nat),(qg l)[i]? = (l[i]?).map Xe
 |[],i=>by simp[qg]
 |n::l,0=>rfl
 |n::l,i+1=>by simp[qg,qce l i]
theorem qhi {l:List Ex}{i:Nat}{n:Ex}(h:l[i]? = some n):(qg l)[i]? = some (Xe n):=by rw[qce,h];rfl
theorem qkU {α:Type}(n:Ex)(k:Int->Rs->Int->Int->ByteArray->ByteArray->Int->Option α):qE (Xe n) k=k n.op (qg n.args) n.n n.scale n.name n.attr n.pos:=by cases n;rfl
theorem XN (n:Ex):cnts n.args+1=cnt n:=by cases n;rfl
theorem qfF {l:List Ex}{i:Nat}{n:Ex}(h:l[i]? = some n):cnt n<=cnts l:=by
 induction l generalizing i with
 |nil=>simp at h
 |cons m l ih=>
  cases i with
  |zero=>simp at h;subst h;simp[cnts]
  |succ i=>have:=ih (by simpa using h);simp only[cnts];omega
theorem qfm (l:List Ex):l.length<=cnts l:=by
 induction l with
 |nil=>simp[cnts]
 |cons n l ih=>cases n;simp only[cnts,cnt,List.length_cons];omega
theorem qhM {l:List Ex}{i:Nat}{n:Ex}(h:l[i]? = some n):cnts (l.drop i)=cnt n+cnts (l.drop (i+1)):=by have hi:=(az.1 h).1;rw[List.drop_eq_getElem_cons hi];have:l[i]=n:=(az.1 h).2;rw[this,cnts]
theorem qxS (l:List Ex)(i:Nat):cnts (l.drop i)<=cnts l:=by
 induction l generalizing i with
 |nil=>simp
 |cons n l ih=>
  cases i with
  |zero=>simp
  |succ i=>have:=ih i;simp only[List.drop_succ_cons,cnts];omega
theorem qyW:∀ n:Ex,(Xe n).map immC=Xe n
 |.mk _ _ _ _ _ _ _=>rfl
theorem qvJ:∀ l:List Ex,qG (qg l)=qg l
 |[]=>rfl
 |n::l=>by have h1:=qyW n;have h2:=qvJ l;rw[Yr]at *;simp only[qg,List.map_cons,h1,h2]
theorem qxf (l m:List Ex):qg (l++m)=qg l++qg m:=by
 induction l with
 |nil=>rfl
 |cons a l ih=>simp only[List.cons_append,qg,ih]
mutual
theorem qgf:∀ a:Ex,qbA a a=true
 |.mk o gs n s nm am p=>by rw[qbA,qaU gs];simp
theorem qaU:∀ l:List Ex,Zp l l=true
 |[]=>by rw[Zp]
 |a::l=>by rw[Zp,qgf a,qaU l];rfl
end
section
variable [vo]
theorem qA2:∀ (m:Nat) (a:Ex),cnt a<=m->cnt a<4000000000->Goes qpX (.e a.op (qg a.args) a.n a.scale a.name a.attr a.pos) (cnt a:Int)
 |0,a,h,_=>by have:=XN a;omega
 |m+1,a,h,hc=>by
  have hca:=XN a;have hlen:=qfm a.args;have loop:∀ (j i:Nat) (c:Nat),a.args.length-i=j->c+cnts (a.args.drop i)=cnt a->Goes qpX (.h0 (c:Int) (qg a.args) (a.args.length:Int) (i:Int)) (cnt a:Int):=by
   intro j
   induction j with
   |zero=>intro i c hi hs;rw[List.drop_eq_nil_of_le (by omega),cnts,Nat.add_zero]at hs;subst hs;refine .fin0 fun k rec=>?_;simp only[nt,qpX,ltF (show ¬ i<a.args.length by omega),af]
   |succ j ih=>
    intro i c hi hs;have h1:i<a.args.length:=by omega
    have e1:=ax h1;generalize a.args[i]=x at e1;have hx:=qfF e1;have hd:=qhM e1;refine Goes.self (qA2 m x (by omega) (by omega)) (ih (i+1) (c+cnt x) (by omega) (by omega)) fun k rec e=>?_;simp only[nt,qpX,ltT h1,ah,Yi (qhi e1),qkU,e,ae,zq i (by omega),qk7 c (cnt x) (by omega)]
  refine Goes.rec0 (loop _ 0 1 rfl (by rw[List.drop_zero];omega)) fun k rec=>?_;simp only[nt,qpX,Yt];rfl
theorem qA4:∀ (m:Nat) (a:Ex),cnt a<=m->cnt a<4000000000->Goes qxb (.e a.op (qg a.args) a.n a.scale a.name a.attr a.pos) (cnt a:Int)
 |0,a,h,_=>by have:=XN a;omega
 |m+1,a,h,hc=>by
  have hca:=XN a;have hlen:=qfm a.args;have loop:∀ (j i:Nat) (c:Nat),a.args.length-i=j->c+cnts (a.args.drop i)=cnt a->Goes qxb (.h0 (c:Int) (a.args.length:Int) (i:Int) a.op (qg a.args) a.n a.scale a.name a.attr a.pos) (cnt a:Int):=by
   intro j
   induction j with
   |zero=>intro i c hi hs;rw[List.drop_eq_nil_of_le (by omega),cnts,Nat.add_zero]at hs;subst hs;refine .fin0 fun k rec=>?_;simp only[nt,qxb,ltF (show ¬ i<a.args.length by omega),af]
   |succ j ih=>
    intro i c hi hs;have h1:i<a.args.length:=by omega
    have e1:=ax h1;generalize a.args[i]=x at e1;have hx:=qfF e1;have hd:=qhM e1;refine Goes.self (qA4 m x (by omega) (by omega)) (ih (i+1) (c+cnt x) (by omega) (by omega)) fun k rec e=>?_;simp only[nt,qxb,ltT h1,ah,Yi (qhi e1),qkU,e,ae,zq i (by omega),qk7 c (cnt x) (by omega)]
  refine Goes.rec0 (loop _ 0 1 rfl (by rw[List.drop_zero];omega)) fun k rec=>?_;simp only[nt,qxb,Yt];rfl
theorem qCQ {acc:Rs}{row:List Cell}(h1:acc.length<4000000000)(h2:row.length=7):apOk 88 7 acc [row]=true:=by unfold apOk;simp[h2,lim];omega
end
end Ab
end Go.Proofs.YtgfbbmjoflehlaaGreatDoor

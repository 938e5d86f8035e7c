/-
  Trees as data; Same, Nodes and Twin of both.
-/
import Derived.Test.YtpdhhkfllkgahaaGreatDoorKsq
set_option linter.all false
namespace Go.Proofs.YtpdhhkfllkgahaaGreatDoor
namespace Ab
theorem Goes.self {S R:Type}{step:Nat→(S→Option R)→S→Option R}{s s1 s':S}{r1 r:R}(h1:Goes step s1 r1)(h:Goes step s' r)(e:∀ k rec,rec s1=some r1→step k rec s=rec s'):Goes step s r:=by
 obtain⟨N,hN⟩:=h1;obtain⟨M,hM⟩:=h;refine⟨max N M+1,fun k hk=>?_⟩;obtain⟨j,rfl⟩:∃ j,k=j+1:=⟨k-1,by omega⟩
 show step j (itS step j) s=some r;rw[e j (itS step j) (hN j (by omega))];exact hM j (by omega)
theorem Goes.selfFin {S R:Type}{step:Nat→(S→Option R)→S→Option R}{s s1:S}{r1 r:R}(h1:Goes step s1 r1)(e:∀ k rec,rec s1=some r1→step k rec s=some r):Goes step s r:=by
 obtain⟨N,hN⟩:=h1;refine⟨N+1,fun k hk=>?_⟩;obtain⟨j,rfl⟩:∃ j,k=j+1:=⟨k-1,by omega⟩
 exact e j (itS step j) (hN j (by omega))
inductive Ex where
 |mk (op:Int) (args:List Ex) (n scale:Int) (name attr:ByteArray) (pos:Int)
mutual
def Xe:Ex→List Cell
 |.mk op args n scale name attr pos=>[ic op,.imm (qg args),ic n,ic scale,sc name,sc attr,ic pos]
def qg:List Ex→Rs
 |[]=>[]
 |n::l=>Xe n::qg l
end
mutual
def cnt:Ex→Nat
 |.mk _ args _ _ _ _ _=>cnts args+1
def cnts:List Ex→Nat
 |[]=>0
 |n::l=>cnt n+cnts l
end
mutual
def qbA:Ex→Ex→Bool
 |.mk o gs n s nm am _,.mk o' gs' n' s' nm' am' _=>!(o != o'||(n != n'||(s != s'||(!(nm.toList==nm'.toList)||(!(am.toList==am'.toList)||((gs.length:Int)!=(gs'.length:Int)))))))&&Zp gs gs'
def Zp:List Ex→List Ex→Bool
 |a::l,b::m=>qbA a b&&Zp l m
 |[],_=>true
 |_::_,[]=>true
end
def Ex.op:Ex→Int
 |.mk x _ _ _ _ _ _=>x
def Ex.args:Ex→List Ex
 |.mk _ x _ _ _ _ _=>x
def Ex.n:Ex→Int
 |.mk _ _ x _ _ _ _=>x
def Ex.scale:Ex→Int
 |.mk _ _ _ x _ _ _=>x
def Ex.name:Ex→ByteArray
 |.mk _ _ _ _ x _ _=>x
def Ex.attr:Ex→ByteArray
 |.mk _ _ _ _ _ x _=>x
def Ex.pos:Ex→Int
 |.mk _ _ _ _ _ _ x=>x
def hdX (a b:Ex):Bool:=a.op != b.op||(a.n != b.n||(a.scale != b.scale||(!(a.name.toList==b.name.toList)||(!(a.attr.toList==b.attr.toList)||((a.args.length:Int)!=(b.args.length:Int))))))
theorem qi8 (a b:Ex):qbA a b=(!(hdX a b)&&Zp a.args b.args):=by cases a;cases b;rw[qbA];rfl
theorem qjn (n:Ex):Xe n=[ic n.op,.imm (qg n.args),ic n.n,ic n.scale,sc n.name,sc n.attr,ic n.pos]:=by cases n;rfl
theorem Yt:∀ (l:List Ex),(qg l).length=l.length
 |[]=>rfl
 |n::l=>by simp[qg,Yt l]
theorem qce:∀ (l:List Ex) (i:Nat),(qg l)[i]? = (l[i]?).map Xe
 |[],i=>by simp[qg]
 |n::l,0=>rfl
 |n::l,i+1=>by simp[qg,qce l i]
theorem qhi {l:List Ex}{i:Nat}{n:Ex}(h:l[i]? = some n):(qg l)[i]? = some (Xe n):=by rw[qce,h];rfl
theorem qkU {α:Type}(n:Ex)(k:Int→Rs→Int→Int→ByteArray→ByteArray→Int→Option α):qE (Xe n) k=k n.op (qg n.args) n.n n.scale n.name n.attr n.pos:=by cases n;rfl
theorem XN (n:Ex):cnts n.args+1=cnt n:=by cases n;rfl
theorem qfF {l:List Ex}{i:Nat}{n:Ex}(h:l[i]? = some n):cnt n≤cnts l:=by
 induction l generalizing i with
 |nil=>simp at h
 |cons m l ih=>
  cases i with
  |zero=>simp at h;subst h;simp[cnts]
  |succ i=>have:=ih (by simpa using h);simp only[cnts];omega
theorem qfm (l:List Ex):l.length≤cnts l:=by
 induction l with
 |nil=>simp[cnts]
 |cons n l ih=>cases n;simp only[cnts,cnt,List.length_cons];omega
theorem qhM {l:List Ex}{i:Nat}{n:Ex}(h:l[i]? = some n):cnts (l.drop i)=cnt n+cnts (l.drop (i+1)):=by have hi:=(az.1 h).1;rw[List.drop_eq_getElem_cons hi];have:l[i]=n:=(az.1 h).2;rw[this,cnts]
theorem qwq:∀ n:Ex,(Xe n).map immC=Xe n
 |.mk _ _ _ _ _ _ _=>rfl
theorem qvu:∀ l:List Ex,qG (qg l)=qg l
 |[]=>rfl
 |n::l=>by have h1:=qwq n;have h2:=qvu l;rw[Yr]at *;simp only[qg,List.map_cons,h1,h2]
theorem qvL (l m:List Ex):qg (l++m)=qg l++qg m:=by
 induction l with
 |nil=>rfl
 |cons a l ih=>simp only[List.cons_append,qg,ih]
mutual
theorem qgf:∀ a:Ex,qbA a a=true
 |.mk o gs n s nm am p=>by rw[qbA,qaU gs];simp
theorem qaU:∀ l:List Ex,Zp l l=true
 |[]=>by rw[Zp]
 |a::l=>by rw[Zp,qgf a,qaU l];rfl
end
section
variable [vo]
theorem qyU:∀ (m:Nat) (a b:Ex),cnt a≤m→cnt a<4000000000→Goes qn6 (.e a.op (qg a.args) a.n a.scale a.name a.attr a.pos b.op (qg b.args) b.n b.scale b.name b.attr b.pos false) (qbA a b)
 |0,a,b,h,_=>by have:=XN a;omega
 |m+1,a,b,h,hc=>by
  have hca:=XN a;have hlen:=qfm a.args;have loop:∀ (j i:Nat),a.args.length-i=j→a.args.length=b.args.length→Goes qn6 (.h1 false (a.args.length:Int) (i:Int) b.op (qg b.args) b.n b.scale b.name b.attr b.pos a.op (qg a.args) a.n a.scale a.name a.attr a.pos) (Zp (a.args.drop i) (b.args.drop i)):=by
   intro j
   induction j with
   |zero=>intro i hi hl;rw[List.drop_eq_nil_of_le (by omega)];refine .fin0 fun k rec=>?_;simp only[qn6,ltF (show ¬ i<a.args.length by omega),af,Zp]
   |succ j ih=>
    intro i hi hl;have h1:i<a.args.length:=by omega
    have h2:i<b.args.length:=by omega
    have e1:=ax h1;have e2:=ax h2;rw[List.drop_eq_getElem_cons h1,List.drop_eq_getElem_cons h2,Zp];generalize a.args[i]=x at e1;generalize b.args[i]=y at e2;have hx:=qfF e1;have self:=qyU m x y (by omega) (by omega);cases hv:qbA x y with
    |true=>rw[hv]at self;refine Goes.self self (ih (i+1) (by omega) hl) fun k rec e=>?_;simp only[qn6,ltT h1,ah,Yi (qhi e1),Yi (qhi e2),qkU,e,ae,aj,af,zq i (by omega)]
    |false=>rw[hv]at self;refine Goes.selfFin self fun k rec e=>?_;simp only[qn6,ltT h1,ah,Yi (qhi e1),Yi (qhi e2),qkU,e,ae,ak,ah];rfl
  have h0:Goes qn6 (.h0 false (hdX a b) b.op (qg b.args) b.n b.scale b.name b.attr b.pos a.op (qg a.args) a.n a.scale a.name a.attr a.pos) (qbA a b):=by
   rw[qi8];cases hh:hdX a b with
   |true=>exact .fin0 fun k rec=>rfl
   |false=>
    have hl:a.args.length=b.args.length:=by unfold hdX at hh;simp only[Bool.or_eq_false_iff]at hh;have:=hh.2.2.2.2.2;rw[bne_eq_false_iff_eq]at this;omega
    refine Goes.rec0 (loop _ 0 rfl hl) fun k rec=>?_;simp only[qn6,af,Yt];rfl
  refine Goes.rec0 h0 fun k rec=>?_;simp only[qn6,Yt,hdX];cases (a.op != b.op)<;>cases (a.n != b.n)<;>cases (a.scale != b.scale)<;>cases (!(a.name.toList==b.name.toList))<;>cases (!(a.attr.toList==b.attr.toList))<;>cases ((a.args.length:Int)!=(b.args.length:Int))<;>rfl
theorem qxp:∀ (m:Nat) (a:Ex),cnt a≤m→cnt a<4000000000→Goes qjR (.e a.op (qg a.args) a.n a.scale a.name a.attr a.pos) (cnt a:Int)
 |0,a,h,_=>by have:=XN a;omega
 |m+1,a,h,hc=>by
  have hca:=XN a;have hlen:=qfm a.args;have loop:∀ (j i:Nat) (c:Nat),a.args.length-i=j→c+cnts (a.args.drop i)=cnt a→Goes qjR (.h0 (c:Int) (qg a.args) (a.args.length:Int) (i:Int)) (cnt a:Int):=by
   intro j
   induction j with
   |zero=>intro i c hi hs;rw[List.drop_eq_nil_of_le (by omega),cnts,Nat.add_zero]at hs;subst hs;refine .fin0 fun k rec=>?_;simp only[qjR,ltF (show ¬ i<a.args.length by omega),af]
   |succ j ih=>
    intro i c hi hs;have h1:i<a.args.length:=by omega
    have e1:=ax h1;generalize a.args[i]=x at e1;have hx:=qfF e1;have hd:=qhM e1;refine Goes.self (qxp m x (by omega) (by omega)) (ih (i+1) (c+cnt x) (by omega) (by omega)) fun k rec e=>?_;simp only[qjR,ltT h1,ah,Yi (qhi e1),qkU,e,ae,zq i (by omega),qk7 c (cnt x) (by omega)]
  refine Goes.rec0 (loop _ 0 1 rfl (by rw[List.drop_zero];omega)) fun k rec=>?_;simp only[qjR,Yt];rfl
theorem qxj {acc:Rs}{row:List Cell}(h1:acc.length<4000000000)(h2:row.length=7):apOk 88 7 acc [row]=true:=by unfold apOk;simp[h2,lim];omega
end
end Ab
end Go.Proofs.YtpdhhkfllkgahaaGreatDoor

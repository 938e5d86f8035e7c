/-
  The functions that print a tree tell a right tree's text and nest.
-/
import Derived.Test.YtfekohpjaafnhaaGreatDoorBdq
set_option linter.all false
namespace Go.Proofs.YtfekohpjaafnhaaGreatDoor
namespace Ab
theorem qww {x:Ex}(h:Rg x):1≤x.op∧x.op≤17∨20≤x.op∧x.op≤31:=by
 cases h with
 |leaf h=>rcases h with⟨rfl,_⟩|⟨rfl,_⟩|⟨rfl,_⟩|⟨rfl,_⟩|⟨rfl,_⟩|⟨rfl,_⟩|⟨h1,h3,_⟩<;>(show 1≤(_:Int)∧(_:Int)≤17∨20≤(_:Int)∧(_:Int)≤31)<;>(simp only[lit,Ex.op];omega)
 |@una op x p h hx=>have:(una op x p).op=op:=rfl;omega
 |@two op x y p h hx hy=>have:(two op x y p).op=op:=rfl;omega
section
variable [vo]
theorem qxC {op:Int}(h:1≤op∧op≤17∨20≤op∧op≤31):Tot (fun k=>g53 k op) (((lev op:Nat):Int)+1,((lsL op:Nat):Int)+1,((lsR op:Nat):Int)+1):=by
 rcases(by omega:op=1∨op=2∨op=3∨op=4∨op=5∨op=6∨op=7∨op=8∨op=9∨op=10∨op=11∨op=12∨op=13∨op=14∨op=15∨op=16∨op=17∨op=20∨op=21∨op=22∨op=23∨op=24∨op=25∨op=26∨op=27∨op=28∨op=29∨op=30∨op=31)with rfl|rfl|rfl|rfl|rfl|rfl|rfl|rfl|rfl|rfl|rfl|rfl|rfl|rfl|rfl|rfl|rfl|rfl|rfl|rfl|rfl|rfl|rfl|rfl|rfl|rfl|rfl|rfl|rfl
 all_goals exact qjj 6 fun k=>by kernel_rfl
theorem qye {op:Int}(h:1≤op∧op≤17):Tot (fun k=>g55 k op) (sgA op):=by
 rcases(by omega:op=1∨op=2∨op=3∨op=4∨op=5∨op=6∨op=7∨op=8∨op=9∨op=10∨op=11∨op=12∨op=13∨op=14∨op=15∨op=16∨op=17)with rfl|rfl|rfl|rfl|rfl|rfl|rfl|rfl|rfl|rfl|rfl|rfl|rfl|rfl|rfl|rfl|rfl
 all_goals exact qjj 3 fun k=>by kernel_rfl
theorem qvd {t:Tk}{w:ByteArray}(h:Own t w):Spelt t w:=by obtain⟨s,p,h1,h2,h3,h4⟩:=h;have:=qve h1 h2 h3;rwa [h4]at this
theorem qwQ {n:Int}{w:ByteArray}(h:Spelt ⟨3,strB [],n,0⟩ w):0≤n:=by
 rcases h with⟨h1|h1|h1,_⟩|⟨h1,_⟩|⟨_,v,_,hn,_⟩|⟨h1,_⟩
 · cases h1
 · cases h1
 · cases h1
 · cases h1
 · simp only at hn;omega
 · cases h1
theorem qwy {n s:Int}{w:ByteArray}(h:Spelt ⟨4,strB [],n,s⟩ w):0≤n∧1≤s∧s≤14∧w.size≤16:=by
 rcases h with⟨h1|h1|h1,_⟩|⟨h1,_⟩|⟨h1,_⟩|⟨_,A,B,_,_,a1,b1,h15,_,hn,hs,hw⟩
 · cases h1
 · cases h1
 · cases h1
 · cases h1
 · cases h1
 · simp only at hn hs;have:w.size=A.size+1+B.size:=by rw[← hw,ByteArray.size_append,ByteArray.size_append,bsz1]
   omega
theorem gdT {α:Type}{a:Nat}(h:a≤1000000000)(x:Option α):gd (decide (a≤1000000000)) x=x:=by rw[aO h];rfl
theorem qys {op n s:Int}{a b:ByteArray}(h:LfOk op n s a b)(c:Rs)(p:Int):Tot (fun k=>g56 k op c n s a b p) (lfT op n s a b):=by
 show Goes qsv (.e op c n s a b p) _;rcases h with⟨rfl,h,rfl,rfl,rfl⟩|⟨rfl,h,rfl,rfl⟩|⟨rfl,h,rfl,rfl,rfl⟩|⟨rfl,h,h2,rfl,rfl,rfl⟩|⟨rfl,h,h2,rfl,rfl⟩|⟨rfl,h,rfl,rfl,rfl⟩|⟨h1,h3,h,h2,rfl,rfl⟩
 · have ho:=quZ h;rw[qvz];refine .of1 (qxo (qvd ho) ho.size.2 0) fun k e=>?_;simp only at e;simp only[qsv,show((20:Int)==20)=true from rfl,ah,e,ae]
 · have ho:=quZ h;rw[qvA];refine .of1 (qxo (qvd ho) ho.size.2 0) fun k e=>?_;simp only at e;simp only[qsv,show((21:Int)==20)=false from rfl,show((21:Int)==21)=true from rfl,ah,af,e,ae]
 ·
  rw[qvB];rcases h with rfl|rfl
  · exact .fin0 fun k rec=>rfl
  · exact .fin0 fun k rec=>rfl
 · rw[qvC];refine .fin0 fun k rec=>?_;have:=h2.pos;simp only[qsv,show((23:Int)==20)=false from rfl,show((23:Int)==21)=false from rfl,show((23:Int)==22)=false from rfl,show((23:Int)==23)=true from rfl,ah,af];rw[gdT (by rw[bsz1];omega),gdT (by simp only[ByteArray.size_append,bsz1];omega)]
 · rw[qvD];refine .fin0 fun k rec=>?_;have:=h.pos;have:=h2.sz;simp only[qsv,show((24:Int)==20)=false from rfl,show((24:Int)==21)=false from rfl,show((24:Int)==22)=false from rfl,show((24:Int)==23)=false from rfl,show((24:Int)==24)=true from rfl,ah,af];rw[gdT (by rw[bsz1];omega),gdT (by rw[ByteArray.size_append,bsz1];omega)]
 · have e:strB [67,79,85,78,84,40]=strB [67,79,85,78,84]++strB [40]:=qo2 (by rw[YO];rfl);rw[qvE,← e];refine .fin0 fun k rec=>?_;have:=h.pos;have e6:(strB [67,79,85,78,84,40]).size=6:=rfl;simp only[qsv,show((25:Int)==20)=false from rfl,show((25:Int)==21)=false from rfl,show((25:Int)==22)=false from rfl,show((25:Int)==23)=false from rfl,show((25:Int)==24)=false from rfl,show((25:Int)==25)=true from rfl,ah,af];rw[gdT (by rw[e6];omega),gdT (by rw[ByteArray.size_append,e6,bsz1];omega)]
 ·
  rw[qvF ⟨h1,h3⟩];refine .fin0 fun k rec=>?_;have:=h.pos;have:=h2.sz;obtain⟨q,hq,hw,e⟩:∃ q:Nat,[strB [70,73,82,83,84],strB [76,65,83,84],strB [83,85,77],strB [77,73,78],strB [77,65,88],strB [77,69,65,78]][q]? = some (agA op)∧IntKind.i64.wrap (op-26)=(q:Int)∧(agA op).size≤5:=by
   rcases(by omega:op=26∨op=27∨op=28∨op=29∨op=30∨op=31)with rfl|rfl|rfl|rfl|rfl|rfl
   · exact⟨0,rfl,rfl,by decide⟩
   · exact⟨1,rfl,rfl,by decide⟩
   · exact⟨2,rfl,rfl,by decide⟩
   · exact⟨3,rfl,rfl,by decide⟩
   · exact⟨4,rfl,rfl,by decide⟩
   · exact⟨5,rfl,rfl,by decide⟩
  simp only[qsv,show(op==20)=false from by simp;omega,show(op==21)=false from by simp;omega,show(op==22)=false from by simp;omega,show(op==23)=false from by simp;omega,show(op==24)=false from by simp;omega,show(op==25)=false from by simp;omega,af];rw[hw,ZJ hq,gdT (by rw[bsz1];omega),gdT (by rw[ByteArray.size_append,bsz1];omega),gdT (by simp only[ByteArray.size_append,bsz1];omega),gdT (by simp only[ByteArray.size_append,bsz1];omega),gdT (by simp only[ByteArray.size_append,bsz1];omega)]
theorem qvG {x:Ex}(h:Rg x):(pr x).2.1+1≤2*cnt x:=by
 have op1:∀ l (y:Int×Pr),(opr l y).2.1≤y.2.2.1+1:=fun l y=>by
  unfold opr;split
  · exact Nat.le_refl _
  · exact Nat.le_succ _
 induction h with
 |@leaf op n s a b p h=>
  rw[qu0];have e:cnt (lit op n s a b p)=1:=by simp[lit,cnt,cnts]
  show 0+1≤_;omega
 |@una op x p h hx ih=>
  rw[qk8];have h2:=op1 (lsL op) (x.op,pr x);have e:(pr (una op x p)).2.1=(opr (lsL op) (x.op,pr x)).2.1+1:=by rw[quY];split<;>rfl
  simp only at h2;omega
 |@two op x y p h hx hy ihx ihy=>
  rw[qiA];have h2:=op1 (lsL op) (x.op,pr x);have h3:=op1 (lsR op) (y.op,pr y);have e:(pr (two op x y p)).2.1=max (opr (lsL op) (x.op,pr x)).2.1 (opr (lsR op) (y.op,pr y)).2.1:=by rw[qu1];rfl
  simp only at h2 h3;omega
def G18 (x:Ex):Prop:=Goes qj8 (.e_27 x.op (qg x.args) x.n x.scale x.name x.attr x.pos) ((pr x).1,(((pr x).2.1:Nat):Int))
theorem wr1 {n:Nat}(h:n<1000):IntKind.i64.wrap ((n:Int)+1)=((n+1:Nat):Int):=by rw[IntKind.wrap_i64];omega
theorem qxN {x:Ex}(hr:Rg x)(hc:cnt x≤200)(ih:G18 x)(l:Nat):Goes qj8 (.e_54 x.op (qg x.args) x.n x.scale x.name x.attr x.pos ((l:Int)+1)) ((opr l (x.op,pr x)).1,(((opr l (x.op,pr x)).2.1:Nat):Int)):=by
 have hs:=qvZ hr;have hn:=qvG hr;refine .of2 ih (qxC (qww hr)) fun k b1 b2=>?_;have ed:decide (((lev x.op:Nat):Int)+1<(l:Int)+1)=decide (lev x.op<l):=by
  by_cases h:lev x.op<l
  · rw[aO h,aO (by omega)]
  · rw[aN h,aN (by omega)]
 simp only[qj8,b1,b2,ae,tup2,tup3,ed];unfold opr;by_cases h:lev x.op<l
 · rw[aD h,aO h,ah,gdT (by rw[bsz1];omega),gdT (by simp only[ByteArray.size_append,bsz1];omega),wr1 (by omega)]
 · rw[aF h,aN h,af]
theorem ix_1 {α:Type}(x:Ex)(f:List Cell→Option α):ixR (qg [x]) 0 f=f (Xe x):=rfl
theorem ix_2 {α:Type}(x y:Ex)(f:List Cell→Option α):ixR (qg [x,y]) 0 f=f (Xe x)∧ixR (qg [x,y]) 1 f=f (Xe y):=⟨rfl,rfl⟩
theorem qyp {x:Ex}(h:Rg x):cnt x≤200→G18 x:=by
 induction h with
 |@leaf op n s a b p h=>intro hc;have ho:=qww (Rg.leaf (p:=p) h);refine Goes.of2 (qxC ho) (qys h (qg []) p) fun k b1 b2=>?_;show qj8 k _ (.e_27 op (qg []) n s a b p)=_;have b1:g53 k op=_:=b1;simp only[qj8,b1,b2,ae,tup3,show(((qg []).length:Int)==1)=false from rfl,show(((qg []).length:Int)==2)=false from rfl,af,qu0];rfl
 |@una op x p h hx ih=>
  intro hc;rw[qk8]at hc;have hs:=qvZ hx;have hn:=qvG hx;have z:=qu4 (lsL op) (x.op,pr x);have hm:(opr (lsL op) (x.op,pr x)).2.1≤(pr x).2.1+1:=by
   unfold opr;split
   · exact Nat.le_refl _
   · exact Nat.le_succ _
  have sz:=qv2 (op:=op) (by omega);simp only at z;refine Goes.of3 (qxC (op:=op) (by omega)) (qxN hx (by omega) (ih (by omega)) (lsL op)) (qye (op:=op) (by omega)) fun k b1 b2 b3=>?_;show qj8 k _ (.e_27 op (qg [x]) 0 0 (strB []) (strB []) p)=_;simp only[qj8,b1,ae,tup3,show(((qg [x]).length:Int)==1)=true from rfl,ah,ix_1,qkU,b2,b3,tup2];rw[quY];generalize hO:opr (lsL op) (x.op,pr x)=O at *;have eo:o1 op x=O:=hO;rw[eo];rcases h with rfl|rfl|rfl|rfl
  · rw[aF (by decide),show((6:Int)==16)=false from rfl,show((6:Int)==17)=false from rfl,af,af,gdT (by omega),wr1 (by omega)]
  · rw[aF (by decide),show((15:Int)==16)=false from rfl,show((15:Int)==17)=false from rfl,af,af,gdT (by omega),wr1 (by omega)]
  · rw[aD (by decide),show((16:Int)==16)=true from rfl,ah,gdT (by rw[bsz1];omega),gdT (by simp only[ByteArray.size_append,bsz1];omega),gdT (by simp only[ByteArray.size_append,bsz1];omega),wr1 (by omega)]
  · rw[aD (by decide),show((17:Int)==16)=false from rfl,show((17:Int)==17)=true from rfl,af,ah,gdT (by rw[bsz1];omega),gdT (by simp only[ByteArray.size_append,bsz1];omega),gdT (by simp only[ByteArray.size_append,bsz1];omega),wr1 (by omega)]
 |@two op x y p h hx hy ihx ihy=>
  intro hc;rw[qiA]at hc;have hs:=qvZ hx;have hs2:=qvZ hy;have z:=qu4 (lsL op) (x.op,pr x);have z2:=qu4 (lsR op) (y.op,pr y);have sz:=qv2 (op:=op) (by omega);simp only at z z2;refine Goes.of4 (qxC (op:=op) (by omega)) (qxN hx (by omega) (ihx (by omega)) (lsL op)) (qxN hy (by omega) (ihy (by omega)) (lsR op)) (qye (op:=op) (by omega)) fun k b1 b2 b3 b4=>?_;show qj8 k _ (.e_27 op (qg [x,y]) 0 0 (strB []) (strB []) p)=_;simp only[qj8,b1,ae,tup3,show(((qg [x,y]).length:Int)==1)=false from rfl,show(((qg [x,y]).length:Int)==2)=true from rfl,ah,af,(ix_2 x y _).1,(ix_2 x y _).2,qkU,b2,b3,b4,tup2];rw[qu1];generalize hO:opr (lsL op) (x.op,pr x)=O at *;generalize hQ:opr (lsR op) (y.op,pr y)=Q at *;have eo:o1 op x=O:=hO;have eq:o2 op y=Q:=hQ;rw[eo,eq,gdT (by rw[bsz1];omega),gdT (by simp only[ByteArray.size_append,bsz1];omega),gdT (by simp only[ByteArray.size_append,bsz1];omega),gdT (by simp only[ByteArray.size_append,bsz1];omega)];refine congrArg some (Prod.ext rfl ?_);show(if ((Q.2.1:Nat):Int)>((O.2.1:Nat):Int)then((Q.2.1:Nat):Int)else((O.2.1:Nat):Int))=((max O.2.1 Q.2.1:Nat):Int)
  split<;>omega
end
end Ab
end Go.Proofs.YtfekohpjaafnhaaGreatDoor

/-
  The functions that print a tree tell a right tree's text and nest.
-/
import Derived.Test.YtpdhhkfllkgahaaGreatDoorBdq
set_option linter.all false
namespace Go.Proofs.YtpdhhkfllkgahaaGreatDoor
namespace Ab
theorem qDL {x:Ex}(h:Rg x):1≤x.op∧x.op≤17∨20≤x.op∧x.op≤31:=by
 cases h with
 |leaf h=>rcases h with⟨rfl,_⟩|⟨rfl,_⟩|⟨rfl,_⟩|⟨rfl,_⟩|⟨rfl,_⟩|⟨rfl,_⟩|⟨h1,h3,_⟩<;>(show 1≤(_:Int)∧(_:Int)≤17∨20≤(_:Int)∧(_:Int)≤31)<;>(simp only[lit,Ex.op];omega)
 |@una op x p h hx=>have:(una op x p).op=op:=rfl;omega
 |@two op x y p h hx hy=>have:(two op x y p).op=op:=rfl;omega
section
variable [vo]
theorem qlE {op:Int}(h:1≤op∧op≤17∨20≤op∧op≤31):Tot (fun k=>g35 k op) (((lev op:Nat):Int)+1,((lsL op:Nat):Int)+1,((lsR op:Nat):Int)+1):=by
 rcases(by omega:op=1∨op=2∨op=3∨op=4∨op=5∨op=6∨op=7∨op=8∨op=9∨op=10∨op=11∨op=12∨op=13∨op=14∨op=15∨op=16∨op=17∨op=20∨op=21∨op=22∨op=23∨op=24∨op=25∨op=26∨op=27∨op=28∨op=29∨op=30∨op=31)with rfl|rfl|rfl|rfl|rfl|rfl|rfl|rfl|rfl|rfl|rfl|rfl|rfl|rfl|rfl|rfl|rfl|rfl|rfl|rfl|rfl|rfl|rfl|rfl|rfl|rfl|rfl|rfl|rfl
 all_goals exact qjj 6 fun k=>by kernel_rfl
theorem yZ {op:Int}(h:1≤op∧op≤17):Tot (fun k=>g37 k op) (sgA op):=by
 rcases(by omega:op=1∨op=2∨op=3∨op=4∨op=5∨op=6∨op=7∨op=8∨op=9∨op=10∨op=11∨op=12∨op=13∨op=14∨op=15∨op=16∨op=17)with rfl|rfl|rfl|rfl|rfl|rfl|rfl|rfl|rfl|rfl|rfl|rfl|rfl|rfl|rfl|rfl|rfl
 all_goals exact qjj 3 fun k=>by kernel_rfl
theorem qAM {t:Tk}{w:ByteArray}(h:Own t w):Spelt t w:=by obtain⟨s,p,h1,h2,h3,h4⟩:=h;have:=qBd h1 h2 h3;rwa [h4]at this
theorem gdT {α:Type}{a:Nat}(h:a≤1000000000)(x:Option α):gd (decide (a≤1000000000)) x=x:=by rw[aO h];rfl
theorem qqM {op n s:Int}{a b:ByteArray}(h:LfOk op n s a b)(c:Rs)(p:Int):Tot (fun k=>g38 k op c n s a b p) (lfT op n s a b):=by
 show Goes qpb (.e op c n s a b p) _;rcases h with⟨rfl,h,rfl,rfl,rfl⟩|⟨rfl,h,rfl,rfl⟩|⟨rfl,h,rfl,rfl,rfl⟩|⟨rfl,h,h2,rfl,rfl,rfl⟩|⟨rfl,h,h2,rfl,rfl⟩|⟨rfl,h,rfl,rfl,rfl⟩|⟨h1,h3,h,h2,rfl,rfl⟩
 · have ho:=qAr h;rw[qCf];refine .of1 (qB4 (qAM ho) ho.size.2 0) fun k e=>?_;simp only at e;simp only[qpb,show((20:Int)==20)=true from rfl,ah,e,ae]
 · have ho:=qAr h;rw[qCg];refine .of1 (qB4 (qAM ho) ho.size.2 0) fun k e=>?_;simp only at e;simp only[qpb,show((21:Int)==20)=false from rfl,show((21:Int)==21)=true from rfl,ah,af,e,ae]
 ·
  rw[qCh];rcases h with rfl|rfl
  · exact .fin0 fun k rec=>rfl
  · exact .fin0 fun k rec=>rfl
 · rw[qCi];refine .fin0 fun k rec=>?_;have:=h2.pos;simp only[qpb,show((23:Int)==20)=false from rfl,show((23:Int)==21)=false from rfl,show((23:Int)==22)=false from rfl,show((23:Int)==23)=true from rfl,ah,af];rw[gdT (by rw[bsz1];omega),gdT (by simp only[ByteArray.size_append,bsz1];omega)]
 · rw[qCj];refine .fin0 fun k rec=>?_;have:=h.pos;have:=h2.sz;simp only[qpb,show((24:Int)==20)=false from rfl,show((24:Int)==21)=false from rfl,show((24:Int)==22)=false from rfl,show((24:Int)==23)=false from rfl,show((24:Int)==24)=true from rfl,ah,af];rw[gdT (by rw[bsz1];omega),gdT (by rw[ByteArray.size_append,bsz1];omega)]
 · have e:strB [67,79,85,78,84,40]=strB [67,79,85,78,84]++strB [40]:=qo2 (by rw[YO];rfl);rw[qCk,← e];refine .fin0 fun k rec=>?_;have:=h.pos;have e6:(strB [67,79,85,78,84,40]).size=6:=rfl;simp only[qpb,show((25:Int)==20)=false from rfl,show((25:Int)==21)=false from rfl,show((25:Int)==22)=false from rfl,show((25:Int)==23)=false from rfl,show((25:Int)==24)=false from rfl,show((25:Int)==25)=true from rfl,ah,af];rw[gdT (by rw[e6];omega),gdT (by rw[ByteArray.size_append,e6,bsz1];omega)]
 ·
  rw[qCl ⟨h1,h3⟩];refine .fin0 fun k rec=>?_;have:=h.pos;have:=h2.sz;obtain⟨q,hq,hw,e⟩:∃ q:Nat,[strB [70,73,82,83,84],strB [76,65,83,84],strB [83,85,77],strB [77,73,78],strB [77,65,88],strB [77,69,65,78]][q]? = some (agA op)∧IntKind.i64.wrap (op-26)=(q:Int)∧(agA op).size≤5:=by
   rcases(by omega:op=26∨op=27∨op=28∨op=29∨op=30∨op=31)with rfl|rfl|rfl|rfl|rfl|rfl
   · exact⟨0,rfl,rfl,by decide⟩
   · exact⟨1,rfl,rfl,by decide⟩
   · exact⟨2,rfl,rfl,by decide⟩
   · exact⟨3,rfl,rfl,by decide⟩
   · exact⟨4,rfl,rfl,by decide⟩
   · exact⟨5,rfl,rfl,by decide⟩
  simp only[qpb,show(op==20)=false from by simp;omega,show(op==21)=false from by simp;omega,show(op==22)=false from by simp;omega,show(op==23)=false from by simp;omega,show(op==24)=false from by simp;omega,show(op==25)=false from by simp;omega,af];rw[hw,ZJ hq,gdT (by rw[bsz1];omega),gdT (by rw[ByteArray.size_append,bsz1];omega),gdT (by simp only[ByteArray.size_append,bsz1];omega),gdT (by simp only[ByteArray.size_append,bsz1];omega),gdT (by simp only[ByteArray.size_append,bsz1];omega)]
theorem qCm {x:Ex}(h:Rg x):(pr x).2.1+1≤2*cnt x:=by
 have op1:∀ l (y:Int×Pr),(opr l y).2.1≤y.2.2.1+1:=fun l y=>by
  unfold opr;split
  · exact Nat.le_refl _
  · exact Nat.le_succ _
 induction h with
 |@leaf op n s a b p h=>
  rw[qAt];have e:cnt (lit op n s a b p)=1:=by simp[lit,cnt,cnts]
  show 0+1≤_;omega
 |@una op x p h hx ih=>
  rw[qk8];have h2:=op1 (lsL op) (x.op,pr x);have e:(pr (una op x p)).2.1=(opr (lsL op) (x.op,pr x)).2.1+1:=by rw[qAp];split<;>rfl
  simp only at h2;omega
 |@two op x y p h hx hy ihx ihy=>
  rw[qiA];have h2:=op1 (lsL op) (x.op,pr x);have h3:=op1 (lsR op) (y.op,pr y);have e:(pr (two op x y p)).2.1=max (opr (lsL op) (x.op,pr x)).2.1 (opr (lsR op) (y.op,pr y)).2.1:=by rw[qAj];rfl
  simp only at h2 h3;omega
def G18 (x:Ex):Prop:=Goes qj2 (.e_18 x.op (qg x.args) x.n x.scale x.name x.attr x.pos) ((pr x).1,(((pr x).2.1:Nat):Int))
theorem wr1 {n:Nat}(h:n<1000):IntKind.i64.wrap ((n:Int)+1)=((n+1:Nat):Int):=by rw[IntKind.wrap_i64];omega
theorem qBZ {x:Ex}(hr:Rg x)(hc:cnt x≤200)(ih:G18 x)(l:Nat):Goes qj2 (.e_36 x.op (qg x.args) x.n x.scale x.name x.attr x.pos ((l:Int)+1)) ((opr l (x.op,pr x)).1,(((opr l (x.op,pr x)).2.1:Nat):Int)):=by
 have hs:=qCL hr;have hn:=qCm hr;refine .of2 ih (qlE (qDL hr)) fun k b1 b2=>?_;have ed:decide (((lev x.op:Nat):Int)+1<(l:Int)+1)=decide (lev x.op<l):=by
  by_cases h:lev x.op<l
  · rw[aO h,aO (by omega)]
  · rw[aN h,aN (by omega)]
 simp only[qj2,b1,b2,ae,tup2,tup3,ed];unfold opr;by_cases h:lev x.op<l
 · rw[aD h,aO h,ah,gdT (by rw[bsz1];omega),gdT (by simp only[ByteArray.size_append,bsz1];omega),wr1 (by omega)]
 · rw[aF h,aN h,af]
theorem ix_1 {α:Type}(x:Ex)(f:List Cell→Option α):ixR (qg [x]) 0 f=f (Xe x):=rfl
theorem ix_2 {α:Type}(x y:Ex)(f:List Cell→Option α):ixR (qg [x,y]) 0 f=f (Xe x)∧ixR (qg [x,y]) 1 f=f (Xe y):=⟨rfl,rfl⟩
theorem qD0 {x:Ex}(h:Rg x):cnt x≤200→G18 x:=by
 induction h with
 |@leaf op n s a b p h=>intro hc;have ho:=qDL (Rg.leaf (p:=p) h);refine Goes.of2 (qlE ho) (qqM h (qg []) p) fun k b1 b2=>?_;show qj2 k _ (.e_18 op (qg []) n s a b p)=_;have b1:g35 k op=_:=b1;simp only[qj2,b1,b2,ae,tup3,show(((qg []).length:Int)==1)=false from rfl,show(((qg []).length:Int)==2)=false from rfl,af,qAt];rfl
 |@una op x p h hx ih=>
  intro hc;rw[qk8]at hc;have hs:=qCL hx;have hn:=qCm hx;have z:=qAL (lsL op) (x.op,pr x);have hm:(opr (lsL op) (x.op,pr x)).2.1≤(pr x).2.1+1:=by
   unfold opr;split
   · exact Nat.le_refl _
   · exact Nat.le_succ _
  have sz:=qCQ (op:=op) (by omega);simp only at z;refine Goes.of3 (qlE (op:=op) (by omega)) (qBZ hx (by omega) (ih (by omega)) (lsL op)) (yZ (op:=op) (by omega)) fun k b1 b2 b3=>?_;show qj2 k _ (.e_18 op (qg [x]) 0 0 (strB []) (strB []) p)=_;simp only[qj2,b1,ae,tup3,show(((qg [x]).length:Int)==1)=true from rfl,ah,ix_1,qkU,b2,b3,tup2];rw[qAp];generalize hO:opr (lsL op) (x.op,pr x)=O at *;have eo:o1 op x=O:=hO;rw[eo];rcases h with rfl|rfl|rfl|rfl
  · rw[aF (by decide),show((6:Int)==16)=false from rfl,show((6:Int)==17)=false from rfl,af,af,gdT (by omega),wr1 (by omega)]
  · rw[aF (by decide),show((15:Int)==16)=false from rfl,show((15:Int)==17)=false from rfl,af,af,gdT (by omega),wr1 (by omega)]
  · rw[aD (by decide),show((16:Int)==16)=true from rfl,ah,gdT (by rw[bsz1];omega),gdT (by simp only[ByteArray.size_append,bsz1];omega),gdT (by simp only[ByteArray.size_append,bsz1];omega),wr1 (by omega)]
  · rw[aD (by decide),show((17:Int)==16)=false from rfl,show((17:Int)==17)=true from rfl,af,ah,gdT (by rw[bsz1];omega),gdT (by simp only[ByteArray.size_append,bsz1];omega),gdT (by simp only[ByteArray.size_append,bsz1];omega),wr1 (by omega)]
 |@two op x y p h hx hy ihx ihy=>
  intro hc;rw[qiA]at hc;have hs:=qCL hx;have hs2:=qCL hy;have z:=qAL (lsL op) (x.op,pr x);have z2:=qAL (lsR op) (y.op,pr y);have sz:=qCQ (op:=op) (by omega);simp only at z z2;refine Goes.of4 (qlE (op:=op) (by omega)) (qBZ hx (by omega) (ihx (by omega)) (lsL op)) (qBZ hy (by omega) (ihy (by omega)) (lsR op)) (yZ (op:=op) (by omega)) fun k b1 b2 b3 b4=>?_;show qj2 k _ (.e_18 op (qg [x,y]) 0 0 (strB []) (strB []) p)=_;simp only[qj2,b1,ae,tup3,show(((qg [x,y]).length:Int)==1)=false from rfl,show(((qg [x,y]).length:Int)==2)=true from rfl,ah,af,(ix_2 x y _).1,(ix_2 x y _).2,qkU,b2,b3,b4,tup2];rw[qAj];generalize hO:opr (lsL op) (x.op,pr x)=O at *;generalize hQ:opr (lsR op) (y.op,pr y)=Q at *;have eo:o1 op x=O:=hO;have eq:o2 op y=Q:=hQ;rw[eo,eq,gdT (by rw[bsz1];omega),gdT (by simp only[ByteArray.size_append,bsz1];omega),gdT (by simp only[ByteArray.size_append,bsz1];omega),gdT (by simp only[ByteArray.size_append,bsz1];omega)];refine congrArg some (Prod.ext rfl ?_);show(if ((Q.2.1:Nat):Int)>((O.2.1:Nat):Int)then((Q.2.1:Nat):Int)else((O.2.1:Nat):Int))=((max O.2.1 Q.2.1:Nat):Int)
  split<;>omega
end
end Ab
end Go.Proofs.YtpdhhkfllkgahaaGreatDoor

/-
  A right tree's text, by the document.
-/
import Derived.Test.YtfekohpjaafnhaaGreatDoorQdq
set_option linter.all false
namespace Go.Proofs.YtfekohpjaafnhaaGreatDoor
namespace Ab
section
variable [vo]
theorem qxD {op:Int}(h:1≤op∧op≤17∨20≤op∧op≤31):Tot (fun k=>g58 k op) (((lev op:Nat):Int)+1):=by
 rcases(by omega:op=1∨op=2∨op=3∨op=4∨op=5∨op=6∨op=7∨op=8∨op=9∨op=10∨op=11∨op=12∨op=13∨op=14∨op=15∨op=16∨op=17∨op=20∨op=21∨op=22∨op=23∨op=24∨op=25∨op=26∨op=27∨op=28∨op=29∨op=30∨op=31)with rfl|rfl|rfl|rfl|rfl|rfl|rfl|rfl|rfl|rfl|rfl|rfl|rfl|rfl|rfl|rfl|rfl|rfl|rfl|rfl|rfl|rfl|rfl|rfl|rfl|rfl|rfl|rfl|rfl
 all_goals exact qjj 6 fun k=>by kernel_rfl
theorem qsb {op:Int}(h:1≤op∧op≤14∧op≠6):∃ (rows:Rs) (first:Int) (i:Nat),Tot (fun k=>g48 k (((lev op:Nat):Int)+1)) (rows,first)∧IntKind.i64.wrap (op-first)=(i:Int)∧rows[i]? = some [sc (sgA op)]:=by
 rcases(by omega:op=1∨op=2∨op=3∨op=4∨op=5∨op=7∨op=8∨op=9∨op=10∨op=11∨op=12∨op=13∨op=14)with rfl|rfl|rfl|rfl|rfl|rfl|rfl|rfl|rfl|rfl|rfl|rfl|rfl
 · exact⟨[[sc (strB [43])],[sc (strB [45])]],1,0,qjj 6 fun k=>by kernel_rfl,rfl,rfl⟩
 · exact⟨[[sc (strB [43])],[sc (strB [45])]],1,1,qjj 6 fun k=>by kernel_rfl,rfl,rfl⟩
 · exact⟨[[sc (strB [42])],[sc (strB [47])],[sc (strB [37])]],3,0,qjj 6 fun k=>by kernel_rfl,rfl,rfl⟩
 · exact⟨[[sc (strB [42])],[sc (strB [47])],[sc (strB [37])]],3,1,qjj 6 fun k=>by kernel_rfl,rfl,rfl⟩
 · exact⟨[[sc (strB [42])],[sc (strB [47])],[sc (strB [37])]],3,2,qjj 6 fun k=>by kernel_rfl,rfl,rfl⟩
 · exact⟨[[sc (strB [61])],[sc (strB [33,61])],[sc (strB [60])],[sc (strB [60,61])],[sc (strB [62])],[sc (strB [62,61])]],7,0,qjj 6 fun k=>by kernel_rfl,rfl,rfl⟩
 · exact⟨[[sc (strB [61])],[sc (strB [33,61])],[sc (strB [60])],[sc (strB [60,61])],[sc (strB [62])],[sc (strB [62,61])]],7,1,qjj 6 fun k=>by kernel_rfl,rfl,rfl⟩
 · exact⟨[[sc (strB [61])],[sc (strB [33,61])],[sc (strB [60])],[sc (strB [60,61])],[sc (strB [62])],[sc (strB [62,61])]],7,2,qjj 6 fun k=>by kernel_rfl,rfl,rfl⟩
 · exact⟨[[sc (strB [61])],[sc (strB [33,61])],[sc (strB [60])],[sc (strB [60,61])],[sc (strB [62])],[sc (strB [62,61])]],7,3,qjj 6 fun k=>by kernel_rfl,rfl,rfl⟩
 · exact⟨[[sc (strB [61])],[sc (strB [33,61])],[sc (strB [60])],[sc (strB [60,61])],[sc (strB [62])],[sc (strB [62,61])]],7,4,qjj 6 fun k=>by kernel_rfl,rfl,rfl⟩
 · exact⟨[[sc (strB [61])],[sc (strB [33,61])],[sc (strB [60])],[sc (strB [60,61])],[sc (strB [62])],[sc (strB [62,61])]],7,5,qjj 6 fun k=>by kernel_rfl,rfl,rfl⟩
 · exact⟨[[sc (strB [65,78,68])]],13,0,qjj 6 fun k=>by kernel_rfl,rfl,rfl⟩
 · exact⟨[[sc (strB [79,82])]],14,0,qjj 6 fun k=>by kernel_rfl,rfl,rfl⟩
theorem qyj {t:Tk}{w v:ByteArray}(h:Own t w)(h2:Own t v):w=v:=qxm (qxo (qvd h) h.size.2 0) (qxo (qvd h2) h2.size.2 0)
theorem qyt {op n s:Int}{a b:ByteArray}(h:LfOk op n s a b)(hn:i64 n)(c:Rs)(p:Int):Tot (fun k=>g59 k op c n s a b p) (lfT op n s a b):=by
 show Goes qxb (.e op c n s a b p) _;rcases h with⟨rfl,h,rfl,rfl,rfl⟩|⟨rfl,h,rfl,rfl⟩|⟨rfl,h,rfl,rfl,rfl⟩|⟨rfl,h,h2,rfl,rfl,rfl⟩|⟨rfl,h,h2,rfl,rfl⟩|⟨rfl,h,rfl,rfl,rfl⟩|⟨h1,h3,h,h2,rfl,rfl⟩
 · have ho:=quZ h;rw[qvz];have h0:=qwQ (qvd ho);obtain⟨u,rfl⟩:=Int.eq_ofNat_of_zero_le h0;have hu:u<2 ^ 63:=by have:=hn.2;omega
   rw[qyj ho (qxS hu)];refine .of1 (qxv hu) fun k e=>?_;have e:g74 k (u:Int)=some (decS u):=e;simp only[qxb,show((20:Int)==20)=true from rfl,ah,e,ae]
 · have ho:=quZ h;rw[qvA];have hr:=qwy (qvd ho);obtain⟨p1,p2,p3⟩:=qxf hr.1 hn.2 hr.2.1 hr.2.2.1;have e0:rlT n s=spW ⟨4,strB [],n,s⟩:=qxm (p2 (strB []) 0) (qxo (qvd ho) ho.size.2 0);rw[e0]at p1;refine .of1 p1 fun k e=>?_;have e:g57 k n s=some (spW ⟨4,strB [],n,s⟩):=e;simp only[qxb,show((21:Int)==20)=false from rfl,show((21:Int)==21)=true from rfl,ah,af,e,ae]
 ·
  rw[qvB];rcases h with rfl|rfl
  · exact .fin0 fun k rec=>rfl
  · exact .fin0 fun k rec=>rfl
 · rw[qvC];refine .fin0 fun k rec=>?_;have:=h2.pos;simp only[qxb,show((23:Int)==20)=false from rfl,show((23:Int)==21)=false from rfl,show((23:Int)==22)=false from rfl,show((23:Int)==23)=true from rfl,ah,af];rw[gdT (by rw[bsz1];omega),gdT (by simp only[ByteArray.size_append,bsz1];omega)]
 · rw[qvD];refine .fin0 fun k rec=>?_;have:=h.pos;have:=h2.sz;simp only[qxb,show((24:Int)==20)=false from rfl,show((24:Int)==21)=false from rfl,show((24:Int)==22)=false from rfl,show((24:Int)==23)=false from rfl,show((24:Int)==24)=true from rfl,ah,af];rw[gdT (by rw[bsz1];omega),gdT (by rw[ByteArray.size_append,bsz1];omega)]
 · have e:strB [67,79,85,78,84,40]=strB [67,79,85,78,84]++strB [40]:=qo2 (by rw[YO];rfl);rw[qvE,← e];refine .fin0 fun k rec=>?_;have:=h.pos;have e6:(strB [67,79,85,78,84,40]).size=6:=rfl;simp only[qxb,show((25:Int)==20)=false from rfl,show((25:Int)==21)=false from rfl,show((25:Int)==22)=false from rfl,show((25:Int)==23)=false from rfl,show((25:Int)==24)=false from rfl,show((25:Int)==25)=true from rfl,ah,af];rw[gdT (by rw[e6];omega),gdT (by rw[ByteArray.size_append,e6,bsz1];omega)]
 ·
  rw[qvF ⟨h1,h3⟩];have t75:Tot (fun k=>g75 k) [[sc (strB [67,79,85,78,84])],[sc (strB [70,73,82,83,84])],[sc (strB [76,65,83,84])],[sc (strB [83,85,77])],[sc (strB [77,73,78])],[sc (strB [77,65,88])],[sc (strB [77,69,65,78])]]:=qjj 2 fun k=>rfl;refine .of1 t75 fun k e0=>?_;have e0:g75 k=some _:=e0;have:=h.pos;have:=h2.sz;obtain⟨q,hq,hw,e⟩:∃ q:Nat,([[sc (strB [67,79,85,78,84])],[sc (strB [70,73,82,83,84])],[sc (strB [76,65,83,84])],[sc (strB [83,85,77])],[sc (strB [77,73,78])],[sc (strB [77,65,88])],[sc (strB [77,69,65,78])]]:Rs)[q]? = some [sc (agA op)]∧IntKind.i64.wrap (op-25)=(q:Int)∧(agA op).size≤5:=by
   rcases(by omega:op=26∨op=27∨op=28∨op=29∨op=30∨op=31)with rfl|rfl|rfl|rfl|rfl|rfl
   · exact⟨1,rfl,rfl,by decide⟩
   · exact⟨2,rfl,rfl,by decide⟩
   · exact⟨3,rfl,rfl,by decide⟩
   · exact⟨4,rfl,rfl,by decide⟩
   · exact⟨5,rfl,rfl,by decide⟩
   · exact⟨6,rfl,rfl,by decide⟩
  simp only[qxb,show(op==20)=false from by simp;omega,show(op==21)=false from by simp;omega,show(op==22)=false from by simp;omega,show(op==23)=false from by simp;omega,show(op==24)=false from by simp;omega,show(op==25)=false from by simp;omega,af,e0,ae];rw[hw,Yi hq,qqD,gdT (by rw[bsz1];omega),gdT (by rw[ByteArray.size_append,bsz1];omega),gdT (by simp only[ByteArray.size_append,bsz1];omega),gdT (by simp only[ByteArray.size_append,bsz1];omega),gdT (by simp only[ByteArray.size_append,bsz1];omega)]
def G29 (x:Ex):Prop:=Goes qfO (.e x.op (qg x.args) x.n x.scale x.name x.attr x.pos) ((pr x).1,(((pr x).2.1:Nat):Int))
theorem ap16 {ps:Rs}{d:ByteArray}(h:ps.length≤10):apOk 16 1 ps [[sc d]]=true:=by unfold apOk;simp only[aC,aX,List.length_singleton,List.head?_cons,Option.all_some,Bool.and_true,beq_self_eq_true,and_true];unfold lim;omega
def lstN (v i:Nat):Nat:=if v=3∨i=1 then v+2 else if v=7 then 1 else v+1
theorem qxs {op n s:Int}{args:List Ex}{a b:ByteArray}{p:Int}{x:Ex}{i l:Nat}{ps:Rs}{deep:Nat}{r:R29}(hx:Rg x)(hc:cnt x≤200)(ih:G29 x)(hi:args[i]? = some x)(hlen:args.length≤2)(hps:ps.length≤10)(hdeep:deep≤500)(hl:lstN (lev op) i=l+1)(hr:Goes qfO (.h0 ((lev op:Int)+1) (ps++[[sc (opr l (x.op,pr x)).1]]) ((max deep (opr l (x.op,pr x)).2.1:Nat):Int) (args.length:Int) (((i+1:Nat):Int)) op (qg args) n s a b p) r):
  Goes qfO (.h0 ((lev op:Int)+1) ps (deep:Int) (args.length:Int) (i:Int) op (qg args) n s a b p) r:=by
 have hil:=(az.1 hi).1;have hv:=qwc op;have hsz:=qvZ hx;have hn:=qvG hx;have s4:Goes qfO (.h4 ((lev op:Int)+1) ps (deep:Int) (opr l (x.op,pr x)).1 (((opr l (x.op,pr x)).2.1:Nat):Int) (args.length:Int) (i:Int) op (qg args) n s a b p) r:=by
  refine Goes.rec0 hr fun k rec=>?_;have em:(if (((opr l (x.op,pr x)).2.1:Nat):Int)>(deep:Int)then(((opr l (x.op,pr x)).2.1:Nat):Int)else(deep:Int))=((max deep (opr l (x.op,pr x)).2.1:Nat):Int):=by split<;>omega
  simp only[qfO,ap16 hps,ZW,em,zq i (by omega)]
 have s3:Goes qfO (.h3 ((lev op:Int)+1) ps (deep:Int) (i:Int) (pr x).1 (((pr x).2.1:Nat):Int) ((l:Int)+1) (args.length:Int) (i:Int) op (qg args) n s a b p) r:=by
  refine .of2 (qxD (qww hx)) s4 fun k e e2=>?_;have e:g58 k x.op=some (((lev x.op:Nat):Int)+1):=e;simp only[qfO,Yi (qhi hi),qkU,e,ae];by_cases h:lev x.op<l
  · have eo:opr l (x.op,pr x)=((strB [40]++(pr x).1)++strB [41],(pr x).2.1+1,lp::(pr x).2.2++[rp]):=aD h;rw[eo]at e2;rw[aO (show((lev x.op:Nat):Int)+1<(l:Int)+1 by omega),ah,gdT (by rw[bsz1];omega),gdT (by simp only[ByteArray.size_append,bsz1];omega),wr1 (by omega)];exact e2
  · have eo:opr l (x.op,pr x)=pr x:=aF h;rw[eo]at e2;rw[aN (show ¬ ((lev x.op:Nat):Int)+1<(l:Int)+1 by omega),af];exact e2
 have s1:Goes qfO (.h1 ((lev op:Int)+1) ps (deep:Int) (i:Int) (pr x).1 (((pr x).2.1:Nat):Int) (if lev op=7 then 1 else(lev op:Int)+1) (args.length:Int) (i:Int) op (qg args) n s a b p) r:=by
  have s2:Goes qfO (.h2 ((lev op:Int)+1) ps (deep:Int) (i:Int) (pr x).1 (((pr x).2.1:Nat):Int) (if lev op=7 then 1 else(lev op:Int)+1) (args.length:Int) (i:Int) (decide (lev op=3∨i=1)) op (qg args) n s a b p) r:=by
   refine Goes.rec0 s3 fun k rec=>?_;unfold lstN at hl;by_cases h:lev op=3∨i=1
   · rw[aD h]at hl;simp only[qfO,aO h,ah];have:IntKind.i64.wrap (((lev op:Nat):Int)+1+1)=(l:Int)+1:=by rw[IntKind.wrap_i64];omega
     rw[this]
   ·
    rw[aF h]at hl;simp only[qfO,aN h,af];have:(if lev op=7 then(1:Int)else(lev op:Int)+1)=(l:Int)+1:=by
     split at hl
     · rename_i h7;rw[aD h7];omega
     · rename_i h7;rw[aF h7];omega
    rw[this]
  refine Goes.rec0 s2 fun k rec=>?_;simp only[qfO];by_cases h3:lev op=3
  · rw[show(((lev op:Nat):Int)+1==4)=true by simp only[beq_iff_eq];omega,aO (.inl h3),ah]
  · rw[show(((lev op:Nat):Int)+1==4)=false by simp only[beq_eq_false_iff_ne];omega,af];congr 2;rw[Bool.eq_iff_iff];simp only[beq_iff_eq,aX];omega
 refine Goes.self ih s1 fun k rec e=>?_;simp only[qfO,show decide ((i:Int)<(args.length:Int))=true from aO (by omega),ah,Yi (qhi hi),qkU,e,ae,tup2];by_cases h7:lev op=7
 · rw[show(((lev op:Nat):Int)+1==8)=true by simp only[beq_iff_eq];omega,aD h7,ah]
 · rw[show(((lev op:Nat):Int)+1==8)=false by simp only[beq_eq_false_iff_ne];omega,aF h7,af]
theorem o_sz {x:Ex}(h:Rg x)(hc:cnt x≤200)(l:Nat):(opr l (x.op,pr x)).1.size≤820100∧(opr l (x.op,pr x)).2.1≤450:=by
 have h1:=qu4 l (x.op,pr x);have h2:=qvZ h;have h3:=qvG h;simp only at h1;refine⟨by omega,?_⟩;unfold opr;split
 · simp only;omega
 · simp only;omega
theorem qyq {x:Ex}(h:Rg x):nB x→cnt x≤200→G29 x:=by
 induction h with
 |@leaf op n s a b p h=>
  intro hn hc;have ho:=qww (Rg.leaf (p:=p) h);have ho':1≤op∧op≤17∨20≤op∧op≤31:=ho;have ho2:20≤op∧op≤31:=by rcases h with⟨rfl,_⟩|⟨rfl,_⟩|⟨rfl,_⟩|⟨rfl,_⟩|⟨rfl,_⟩|⟨rfl,_⟩|⟨h1,h3,_⟩<;>omega
  show Goes qfO (.e op (qg []) n s a b p) _;rw[qu0];have s0:Goes qfO (.h0 (((lev op:Nat):Int)+1) [] 0 (((qg []).length:Nat):Int) 0 op (qg []) n s a b p) (lfT op n s a b,0):=by refine .of1 (qyt h (qxd hn).1 (qg []) p) fun k e=>?_;have e:g59 k op (qg []) n s a b p=some (lfT op n s a b):=e;simp only[qfO,show decide ((0:Int)<(((qg []).length:Nat):Int))=false from rfl,af,show((([]:Rs).length:Int)==2)=false from rfl,show(op==6)=false from by simp;omega,show(op==15)=false from by simp;omega,show(op==16)=false from by simp;omega,show(op==17)=false from by simp;omega,e,ae]
  refine .of2 (qxD ho') s0 fun k e e2=>?_;have e:g58 k op=some (((lev op:Nat):Int)+1):=e;simp only[qfO,e,ae];exact e2
 |@una op x p h hx ih=>
  intro hn hc;rw[qk8]at hc;have hn2:nB x:=(qxd hn).2.1;have ih:=ih hn2 (by omega);have hl:lstN (lev op) 0=lsL op+1:=by rcases h with rfl|rfl|rfl|rfl<;>rfl
  have hz:=o_sz hx (by omega) (lsL op);have hl2:(o1 op x)=opr (lsL op) (x.op,pr x):=rfl;have fin:Goes qfO (.h0 (((lev op:Nat):Int)+1) ([]++[[sc (opr (lsL op) (x.op,pr x)).1]]) ((max 0 (opr (lsL op) (x.op,pr x)).2.1:Nat):Int) (([x].length:Nat):Int) (((0+1:Nat):Int)) op (qg [x]) 0 0 (strB []) (strB []) p) ((pr (una op x p)).1,(((pr (una op x p)).2.1:Nat):Int)):=by
   rw[quY,hl2];generalize (opr (lsL op) (x.op,pr x))=y at hz;have em:max 0 y.2.1=y.2.1:=by omega
   rw[em];refine .fin0 fun k rec=>?_;have w:=wr1 (n:=y.2.1) (by omega);rcases h with rfl|rfl|rfl|rfl
   · simp only[qfO,show decide (((0+1:Nat):Int)<(([x].length:Nat):Int))=false from rfl,af,show((([]++[[sc y.1]]:Rs).length:Int)==2)=false from rfl,show((6:Int)==6)=true from rfl,ah];rw[show ixR ([]++[[sc y.1]]) 0=fun f=>f [sc y.1]from rfl];simp only[qqD];rw[gdT (by rw[bsz1];omega),w];rfl
   · simp only[qfO,show decide (((0+1:Nat):Int)<(([x].length:Nat):Int))=false from rfl,af,show((([]++[[sc y.1]]:Rs).length:Int)==2)=false from rfl,show((15:Int)==6)=false from rfl,show((15:Int)==15)=true from rfl,ah];rw[show ixR ([]++[[sc y.1]]) 0=fun f=>f [sc y.1]from rfl];simp only[qqD];rw[gdT (by show 4+y.1.size≤_;omega),w];rfl
   · simp only[qfO,show decide (((0+1:Nat):Int)<(([x].length:Nat):Int))=false from rfl,af,show((([]++[[sc y.1]]:Rs).length:Int)==2)=false from rfl,show((16:Int)==6)=false from rfl,show((16:Int)==15)=false from rfl,show((16:Int)==16)=true from rfl,ah];rw[show ixR ([]++[[sc y.1]]) 0=fun f=>f [sc y.1]from rfl];simp only[qqD];rw[gdT (by show 5+y.1.size≤_;omega),gdT (by rw[ByteArray.size_append,bsz1];show 5+y.1.size+1≤_;omega),w,aD (by decide)];have e:(strB [82,69,65,76,40]++y.1)++strB [41]=sgA 16++((strB [40]++y.1)++strB [41]):=by rw[← qrd,← qrd];congr 2
     rw[e]
   · simp only[qfO,show decide (((0+1:Nat):Int)<(([x].length:Nat):Int))=false from rfl,af,show((([]++[[sc y.1]]:Rs).length:Int)==2)=false from rfl,show((17:Int)==6)=false from rfl,show((17:Int)==15)=false from rfl,show((17:Int)==16)=false from rfl,show((17:Int)==17)=true from rfl,ah];rw[show ixR ([]++[[sc y.1]]) 0=fun f=>f [sc y.1]from rfl];simp only[qqD];rw[gdT (by show 6+y.1.size≤_;omega),gdT (by rw[ByteArray.size_append,bsz1];show 6+y.1.size+1≤_;omega),w,aD (by decide)];have e:(strB [73,83,78,65,78,40]++y.1)++strB [41]=sgA 17++((strB [40]++y.1)++strB [41]):=by rw[← qrd,← qrd];congr 2
     rw[e]
  have s0:=qxs (op:=op) (n:=0) (s:=0) (args:=[x]) (a:=strB []) (b:=strB []) (p:=p) (i:=0) (ps:=[]) (deep:=0) hx (by omega) ih rfl (by simp) (by simp) (by omega) hl fin;show Goes qfO (.e op (qg [x]) 0 0 (strB []) (strB []) p) _;refine .of2 (qxD (op:=op) (by omega)) s0 fun k e e2=>?_;have e:g58 k op=some (((lev op:Nat):Int)+1):=e;simp only[qfO,e,ae];exact e2
 |@two op x y p h hx hy ihx ihy=>
  intro hn hc;rw[qiA]at hc;have hn2:=(qxd hn).2;have ihx:=ihx hn2.1 (by omega);have ihy:=ihy hn2.2.1 (by omega);have hl1:lstN (lev op) 0=lsL op+1:=by rcases(by omega:op=1∨op=2∨op=3∨op=4∨op=5∨op=7∨op=8∨op=9∨op=10∨op=11∨op=12∨op=13∨op=14)with rfl|rfl|rfl|rfl|rfl|rfl|rfl|rfl|rfl|rfl|rfl|rfl|rfl<;>rfl
  have hl2:lstN (lev op) 1=lsR op+1:=by rcases(by omega:op=1∨op=2∨op=3∨op=4∨op=5∨op=7∨op=8∨op=9∨op=10∨op=11∨op=12∨op=13∨op=14)with rfl|rfl|rfl|rfl|rfl|rfl|rfl|rfl|rfl|rfl|rfl|rfl|rfl<;>rfl
  have z1:=o_sz hx (by omega) (lsL op);have z2:=o_sz hy (by omega) (lsR op);have fin:Goes qfO (.h0 (((lev op:Nat):Int)+1) (([]++[[sc (opr (lsL op) (x.op,pr x)).1]])++[[sc (opr (lsR op) (y.op,pr y)).1]]) ((max (max 0 (opr (lsL op) (x.op,pr x)).2.1) (opr (lsR op) (y.op,pr y)).2.1:Nat):Int) (([x,y].length:Nat):Int) (((1+1:Nat):Int)) op (qg [x,y]) 0 0 (strB []) (strB []) p) ((pr (two op x y p)).1,(((pr (two op x y p)).2.1:Nat):Int)):=by
   rw[qu1];show Goes qfO _ ((((((opr (lsL op) (x.op,pr x)).1++strB [32])++sgA op)++strB [32])++(opr (lsR op) (y.op,pr y)).1),((max (opr (lsL op) (x.op,pr x)).2.1 (opr (lsR op) (y.op,pr y)).2.1:Nat):Int));generalize (opr (lsL op) (x.op,pr x))=u at z1;generalize (opr (lsR op) (y.op,pr y))=v at z2;have em:max (max 0 u.2.1) v.2.1=max u.2.1 v.2.1:=by omega
   rw[em];obtain⟨rows,first,q,h1,h2,h3⟩:=qsb h;have hs:=qv2 (op:=op) (by omega);refine .of1 h1 fun k e=>?_;have e:g48 k (((lev op:Nat):Int)+1)=some (rows,first):=e;simp only[qfO,show decide (((1+1:Nat):Int)<(([x,y].length:Nat):Int))=false from rfl,af,show((([]++[[sc u.1]]++[[sc v.1]]:Rs).length:Int)==2)=true from rfl,ah,e,ae,tup2];rw[show ixR ([]++[[sc u.1]]++[[sc v.1]]) 0=fun f=>f [sc u.1]from rfl,show ixR ([]++[[sc u.1]]++[[sc v.1]]) 1=fun f=>f [sc v.1]from rfl];simp only[qqD,h2,Yi h3];rw[gdT (by rw[bsz1];omega),gdT (by rw[ByteArray.size_append,bsz1];omega),gdT (by simp only[ByteArray.size_append,bsz1];omega),gdT (by simp only[ByteArray.size_append,bsz1];omega)]
  have s1:=qxs (op:=op) (n:=0) (s:=0) (args:=[x,y]) (a:=strB []) (b:=strB []) (p:=p) (i:=1) hy (by omega) ihy rfl (by simp) (by simp) (by omega) hl2 fin;have s0:=qxs (op:=op) (n:=0) (s:=0) (args:=[x,y]) (a:=strB []) (b:=strB []) (p:=p) (i:=0) (ps:=[]) (deep:=0) hx (by omega) ihx rfl (by simp) (by simp) (by omega) hl1 s1;show Goes qfO (.e op (qg [x,y]) 0 0 (strB []) (strB []) p) _;refine .of2 (qxD (op:=op) (by omega)) s0 fun k e e2=>?_;have e:g58 k op=some (((lev op:Nat):Int)+1):=e;simp only[qfO,e,ae];exact e2
end
end Ab
end Go.Proofs.YtfekohpjaafnhaaGreatDoor

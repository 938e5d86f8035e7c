/-
  Whether a tree is right: what both tell, of any tree.
-/
import Derived.Test.YtfekohpjaafnhaaGreatDoorQbq
import Derived.Test.YtfekohpjaafnhaaGreatDoorBeq
set_option linter.all false
namespace Go.Proofs.YtfekohpjaafnhaaGreatDoor
namespace Ab
def arB (op:Int):Int:=if op=6∨15≤op∧op≤17 then 1 else if 1≤op∧op≤14 then 2 else if 20≤op∧op≤31 then 0 else -1
def naB (op:Int)(a:ByteArray):Bool:=if 23≤op∧op≤31 then gnB a else decide (a.size=0)
def atB (op:Int)(b:ByteArray):Bool:=if op=24∨26≤op∧op≤31 then gnB b||b.toList==qvs.toList else decide (b.size=0)
section
variable [vo]
noncomputable def nuB (op n s:Int):Bool:=if op=20 then decide (0≤n)&&s==0 else if op=22 then decide (0≤n∧n≤1)&&s==0 else if op=21 then decide (0≤n∧1≤s∧s≤14)&&decide ((rlT n s).size≤16)else n==0&&s==0
noncomputable def fdB (op n s:Int)(a b:ByteArray):Bool:=naB op a&&atB op b&&nuB op n s
mutual
noncomputable def rtB:Ex→Bool
 |.mk op args n s a b _=>(arB op==(args.length:Int)&&fdB op n s a b)&&rtBs args
noncomputable def rtBs:List Ex→Bool
 |[]=>true
 |x::l=>rtB x&&rtBs l
end
theorem qxW:∀ l:List Ex,rtBs l=l.all rtB
 |[]=>rfl
 |x::l=>by rw[rtBs,qxW l];rfl
theorem qxV (x:Ex):rtB x=((arB x.op==(x.args.length:Int)&&fdB x.op x.n x.scale x.name x.attr)&&x.args.all rtB):=by cases x;rw[rtB,qxW];rfl
def i64 (n:Int):Prop:=-9223372036854775808≤n∧n≤9223372036854775807
mutual
def nB:Ex→Prop
 |.mk _ args n _ _ _ _=>i64 n∧nBs args
def nBs:List Ex→Prop
 |[]=>True
 |x::l=>nB x∧nBs l
end
theorem qxw:∀ {l:List Ex},nBs l→∀ x∈l,nB x
 |y::l,h,x,hx=>by
  rcases List.mem_cons.1 hx with rfl|hx
  · exact h.1
  · exact qxw h.2 x hx
theorem qxA {a:ByteArray}(h:a.size=0):gnB a=false∧(a.toList==(strB [84,73,77,69]).toList)=false:=by have e:a=strB []:=qo2 (by rw[List.length_eq_zero_iff.1 ((qD a).trans h)];rfl);rw[e];exact⟨by unfold gnB nmOk;rfl,by kernel_rfl⟩
theorem qyl {b:ByteArray}(h:(b.toList==qvs.toList)=true):gnB b=false:=by
 have e:b=qvs:=toList_inj (by simpa using h);rw[e];have:YH qvs=true:=by kernel_rfl
 unfold gnB nmOk;rw[this];simp
theorem qyr (op:Int):Tot (fun k=>g51 k op) (arB op):=by
 have h2:∀ b,Goes qss (.h2 b) (if b=true then(0:Int)else -1):=fun b=>.fin0 fun k rec=>by cases b<;>rfl
 have h1:Goes qss (.h1 op (decide (1≤op∧op≤14))) (if 1≤op∧op≤14 then 2 else if 20≤op∧op≤31 then 0 else -1):=by
  by_cases h:1≤op∧op≤14
  · rw[aO h,aD h];exact .fin0 fun k rec=>rfl
  ·
   rw[aN h,aF h];refine Goes.rec0 (s':=.h2 (decide (20≤op∧op≤31))) ?_ fun k rec=>?_
   · have:=h2 (decide (20≤op∧op≤31));simp only[aX]at this;exact this
   · simp only[qss,af];by_cases h20:op≥20
     · rw[aO h20,ah];congr 2;simp only[decide_eq_decide];omega
     · rw[aN h20,af,aN (by omega)]
 have h0:Goes qss (.h0 op (decide (op=6∨15≤op∧op≤17))) (arB op):=by
  unfold arB;by_cases h:op=6∨15≤op∧op≤17
  · rw[aO h,aD h];exact .fin0 fun k rec=>rfl
  · rw[aN h,aF h];refine Goes.rec0 h1 fun k rec=>?_;simp only[qss,af];by_cases hg:op≥1
    · rw[aO hg,ah];congr 2;simp only[decide_eq_decide];omega
    · rw[aN hg,af,aN (by omega)]
 refine Goes.rec0 (step:=qss) (s:=.e op) h0 fun k rec=>?_;simp only[qss];by_cases a:op=6
 · subst a;rfl
 ·
  rw[show(op==6)=false by simpa using a,af];by_cases b:op=15
  · subst b;rfl
  · rw[show(op==15)=false by simpa using b,af];by_cases c:op=16
    · subst c;rfl
    · rw[show(op==16)=false by simpa using c,af];congr 2;rw[Bool.eq_iff_iff];simp only[beq_iff_eq,aX];omega
theorem xN {op n s:Int}(a b:ByteArray)(hn:i64 n)(c:Rs)(p:Int):Tot (fun k=>g52 k op c n s a b p) (fdB op n s a b):=by
 have h0:∀ bad,Goes qfC (.h0 bad op c n s a b p) (!bad&&nuB op n s):=by
  intro bad;cases bad with
  |true=>exact .fin0 fun k rec=>rfl
  |false=>
   unfold nuB;by_cases a20:op=20
   · subst a20;refine .fin0 fun k rec=>?_;simp only[qfC,af,beq_self_eq_true,ah,if_true];by_cases h:n≥0
     · rw[aO h];rfl
     · rw[aN h];rfl
   ·
    rw[aF a20];have e20:(op==20)=false:=by simpa using a20
    by_cases a22:op=22
    ·
     subst a22;refine .fin0 fun k rec=>?_;simp only[qfC,af,e20,beq_self_eq_true,ah,if_true];by_cases h:n≥0
     · rw[aO h];by_cases h1:n≤1
       · rw[aO h1,aO (by omega)];rfl
       · rw[aN h1,aN (show ¬ (0≤n∧n≤1)by omega)];rfl
     · rw[aN h,aN (show ¬ (0≤n∧n≤1)by omega)];rfl
    ·
     rw[aF a22];have e22:(op==22)=false:=by simpa using a22
     by_cases a21:op=21
     ·
      subst a21;rw[aD rfl];by_cases h:0≤n∧1≤s∧s≤14
      · rw[aO h];have:=(qxf h.1 hn.2 h.2.1 h.2.2).2.1 (strB []) 0;refine .of1 this fun k e=>?_;have e:g73 k 4 (strB []) n s 0=some (rlT n s):=e;simp only[qfC,af,e20,e22,beq_self_eq_true,ah,show decide (n≥0)=true from aO h.1,show decide (s≥1)=true from aO h.2.1,show decide (s≤14)=true from aO h.2.2,e,ae,ak,Bool.true_and];congr 1;simp only[decide_eq_decide];omega
      · rw[aN h];refine .fin0 fun k rec=>?_;simp only[qfC,af,e20,e22,beq_self_eq_true,ah];by_cases h1:n≥0
        · rw[aO h1];by_cases h2:s≥1
          · rw[aO h2,aN (show ¬ s≤14 by omega)];rfl
          · rw[aN h2];rfl
        · rw[aN h1];rfl
     · rw[aF a21];refine .fin0 fun k rec=>?_;simp only[qfC,af,e20,e22,show(op==21)=false by simpa using a21];cases n==0<;>rfl
 have e:(fdB op n s a b)=(!(!(naB op a&&atB op b))&&nuB op n s):=by unfold fdB;rw[Bool.not_not]
 rw[e];refine Goes.rec0 (step:=qfC) (s:=.e op c n s a b p) (h0 _) fun k rec=>?_;have z1:=qid a;have z2:=qid b;have w1:decide (a.size=0)=true→gnB a=false:=fun h=>(qxA (of_decide_eq_true h)).1;have w2:decide (b.size=0)=true→gnB b=false∧(b.toList==(strB [84,73,77,69]).toList)=false:=fun h=>qxA (of_decide_eq_true h);have w3:(b.toList==(strB [84,73,77,69]).toList)=true→gnB b=false:=qyl;have eT:(b.toList==qvs.toList)=(b.toList==(strB [84,73,77,69]).toList):=rfl;simp only[qfC,qyA,ae,z1,z2];unfold naB atB;rw[eT];generalize gnB a=N at *;generalize gnB b=M at *;generalize decide (a.size=0)=Z at *;generalize decide (b.size=0)=Y at *;generalize (b.toList==(strB [84,73,77,69]).toList)=T at *;rcases(by omega:op<23∨op=23∨op=24∨op=25∨26≤op∧op≤31∨31<op)with h|rfl|rfl|rfl|h|h
 · rw[aN (show ¬ op≥23 by omega),aF (by omega),aF (by omega)];cases N<;>cases M<;>cases Z<;>cases Y<;>cases T<;>simp_all
 · cases N<;>cases M<;>cases Z<;>cases Y<;>cases T<;>simp_all
 · cases N<;>cases M<;>cases Z<;>cases Y<;>cases T<;>simp_all
 · cases N<;>cases M<;>cases Z<;>cases Y<;>cases T<;>simp_all
 · rw[aO (show op≥23 by omega),aO (show op≤31 by omega),aD (by omega),aD (by omega),show(op != 23)=true by simp;omega,show(op != 25)=true by simp;omega];cases N<;>cases M<;>cases Z<;>cases Y<;>cases T<;>simp_all
 · rw[aO (show op≥23 by omega),aN (show ¬ op≤31 by omega),aF (by omega),aF (by omega)];cases N<;>cases M<;>cases Z<;>cases Y<;>cases T<;>simp_all
theorem qyc {L:List Ex}(hL:L.length≤1048576)(ih:∀ x∈L,Goes qsr (.e x.op (qg x.args) x.n x.scale x.name x.attr x.pos) (rtB x)):∀ (m i:Nat),L.length-i=m→Goes qsr (.h1 (qg L) (L.length:Int) (i:Int)) ((L.drop i).all rtB)
 |0,i,h=>by rw[List.drop_eq_nil_of_le (by omega)];refine .fin0 fun k rec=>?_;simp only[qsr,show decide ((i:Int)<(L.length:Int))=false from aN (by omega),af];rfl
 |m+1,i,h=>by
  have hi:i<L.length:=by omega
  have hx:L[i]? = some L[i]:=ax hi;have h1:=ih L[i] (List.getElem_mem hi);rw[List.drop_eq_getElem_cons hi,List.all_cons];have st:∀ k rec b,rec (.e L[i].op (qg L[i].args) L[i].n L[i].scale L[i].name L[i].attr L[i].pos)=some b→qsr k rec (.h1 (qg L) (L.length:Int) (i:Int))=bif !b then some false else rec (.h1 (qg L) (L.length:Int) (((i+1:Nat):Int))):=fun k rec b e=>by simp only[qsr,show decide ((i:Int)<(L.length:Int))=true from aO (by omega),ah,Yi (qhi hx),qkU,e,ae,zq i (by omega)]
  cases hb:rtB L[i]with
  |false=>rw[hb]at h1;exact Goes.selfFin h1 fun k rec e=>by rw[st k rec false e];rfl
  |true=>rw[hb]at h1;rw[Bool.true_and];exact Goes.self h1 (qyc hL ih m (i+1) (by omega)) fun k rec e=>by rw[st k rec true e];rfl
theorem qxe {l:List Ex}{x:Ex}(h:x∈l):cnt x≤cnts l:=by obtain⟨i,hi⟩:=List.getElem?_of_mem h;exact qfF hi
theorem qxd {x:Ex}(h:nB x):i64 x.n∧nBs x.args:=by cases x;exact h
theorem qxM:∀ (m:Nat) (x:Ex),cnt x≤m→cnt x≤1048576→nB x→Goes qsr (.e x.op (qg x.args) x.n x.scale x.name x.attr x.pos) (rtB x)
 |0,x,h,_,_=>by have:=XN x;omega
 |m+1,x,h,hc,hn=>by
  have ha:=XN x;have hl:=qfm x.args;obtain⟨hn1,hn2⟩:=qxd hn;have lp:=qyc (L:=x.args) (by omega) (fun y hy=>qxM m y (by have:=qxe hy;omega) (by have:=qxe hy;omega) (qxw hn2 y hy)) _ 0 rfl;rw[List.drop_zero]at lp;have h0:∀ bad,Goes qsr (.h0 bad x.op (qg x.args) x.n x.scale x.name x.attr x.pos) (!bad&&x.args.all rtB):=by
   intro bad;cases bad with
   |true=>exact .fin0 fun k rec=>rfl
   |false=>refine Goes.rec0 lp fun k rec=>?_;simp only[qsr,af,Yt];rfl
  rw[qxV];refine .of3 (qyr x.op) (xN x.name x.attr hn1 (qg x.args) x.pos (op:=x.op) (s:=x.scale)) (h0 (!(arB x.op==(x.args.length:Int)&&fdB x.op x.n x.scale x.name x.attr))) fun k e1 e2 e3=>?_;have e1:g51 k x.op=some (arB x.op):=e1;have e2:g52 k x.op (qg x.args) x.n x.scale x.name x.attr x.pos=some (fdB x.op x.n x.scale x.name x.attr):=e2;simp only[qsr,e1,e2,ae,Yt];cases hb:arB x.op==(x.args.length:Int)with
  |false=>
   rw[hb]at e3;have:(arB x.op != (x.args.length:Int))=true:=by rw[bne,hb];rfl
   rw[this];simpa using e3
  |true=>
   rw[hb]at e3;have:(arB x.op != (x.args.length:Int))=false:=by rw[bne,hb];rfl
   rw[this];simpa using e3
end
end Ab
end Go.Proofs.YtfekohpjaafnhaaGreatDoor

/-
  Whether a tree is right; what Print tells of any tree.
-/
import Derived.Test.YtpdhhkfllkgahaaGreatDoorRaq
import Derived.Test.YtpdhhkfllkgahaaGreatDoorEx2q
set_option linter.all false
namespace Go.Proofs.YtpdhhkfllkgahaaGreatDoor
namespace Ab
def arB (op:Int):Int:=if op=6∨15≤op∧op≤17 then 1 else if 1≤op∧op≤14 then 2 else if 20≤op∧op≤31 then 0 else -1
def naB (op:Int)(a:ByteArray):Bool:=if 23≤op∧op≤31 then gnB a else decide (a.size=0)
def atB (op:Int)(b:ByteArray):Bool:=if op=24∨26≤op∧op≤31 then gnB b||b.toList==qBO.toList else decide (b.size=0)
section
variable [vo]
noncomputable def nuB (op n s:Int):Bool:=if op=20 then decide (0≤n)&&s==0 else if op=22 then decide (0≤n∧n≤1)&&s==0 else if op=21 then decide (0≤n∧1≤s∧s≤14)&&decide ((rlT n s).size≤16)else n==0&&s==0
noncomputable def fdB (op n s:Int)(a b:ByteArray):Bool:=naB op a&&atB op b&&nuB op n s
mutual
noncomputable def rtB:Ex→Bool
 |.mk op args n s a b _=>(arB op==(args.length:Int)&&fdB op n s a b)&&rtBs args
noncomputable def rtBs:List Ex→Bool
 |[]=>true
 |x::l=>rtB x&&rtBs l
end
theorem qFk:∀ l:List Ex,rtBs l=l.all rtB
 |[]=>rfl
 |x::l=>by rw[rtBs,qFk l];rfl
theorem qFy (x:Ex):rtB x=((arB x.op==(x.args.length:Int)&&fdB x.op x.n x.scale x.name x.attr)&&x.args.all rtB):=by cases x;rw[rtB,qFk];rfl
def i64 (n:Int):Prop:=-9223372036854775808≤n∧n≤9223372036854775807
mutual
def nB:Ex→Prop
 |.mk _ args n _ _ _ _=>i64 n∧nBs args
def nBs:List Ex→Prop
 |[]=>True
 |x::l=>nB x∧nBs l
end
theorem qFj:∀ {l:List Ex},nBs l→∀ x∈l,nB x
 |y::l,h,x,hx=>by
  rcases List.mem_cons.1 hx with rfl|hx
  · exact h.1
  · exact qFj h.2 x hx
theorem qE6 {a:ByteArray}(h:a.size=0):gnB a=false∧(a.toList==(strB [84,73,77,69]).toList)=false:=by have e:a=strB []:=qo2 (by rw[List.length_eq_zero_iff.1 ((qD a).trans h)];rfl);rw[e];exact⟨by unfold gnB nmOk;rfl,by kernel_rfl⟩
theorem qFF {b:ByteArray}(h:(b.toList==qBO.toList)=true):gnB b=false:=by
 have e:b=qBO:=toList_inj (by simpa using h);rw[e];have:YH qBO=true:=by kernel_rfl
 unfold gnB nmOk;rw[this];simp
theorem qlJ (op:Int):Tot (fun k=>g33 k op) (arB op):=by
 have h2:∀ b,Goes yX (.h2 b) (if b=true then(0:Int)else -1):=fun b=>.fin0 fun k rec=>by cases b<;>rfl
 have h1:Goes yX (.h1 op (decide (1≤op∧op≤14))) (if 1≤op∧op≤14 then 2 else if 20≤op∧op≤31 then 0 else -1):=by
  by_cases h:1≤op∧op≤14
  · rw[aO h,aD h];exact .fin0 fun k rec=>rfl
  ·
   rw[aN h,aF h];refine Goes.rec0 (s':=.h2 (decide (20≤op∧op≤31))) ?_ fun k rec=>?_
   · have:=h2 (decide (20≤op∧op≤31));simp only[aX]at this;exact this
   · simp only[yX,af];by_cases h20:op≥20
     · rw[aO h20,ah];congr 2;simp only[decide_eq_decide];omega
     · rw[aN h20,af,aN (by omega)]
 have h0:Goes yX (.h0 op (decide (op=6∨15≤op∧op≤17))) (arB op):=by
  unfold arB;by_cases h:op=6∨15≤op∧op≤17
  · rw[aO h,aD h];exact .fin0 fun k rec=>rfl
  · rw[aN h,aF h];refine Goes.rec0 h1 fun k rec=>?_;simp only[yX,af];by_cases hg:op≥1
    · rw[aO hg,ah];congr 2;simp only[decide_eq_decide];omega
    · rw[aN hg,af,aN (by omega)]
 refine Goes.rec0 (step:=yX) (s:=.e op) h0 fun k rec=>?_;simp only[yX];by_cases a:op=6
 · subst a;rfl
 ·
  rw[show(op==6)=false by simpa using a,af];by_cases b:op=15
  · subst b;rfl
  · rw[show(op==15)=false by simpa using b,af];by_cases c:op=16
    · subst c;rfl
    · rw[show(op==16)=false by simpa using c,af];congr 2;rw[Bool.eq_iff_iff];simp only[beq_iff_eq,aX];omega
theorem qmb {op n s:Int}(a b:ByteArray)(hn:i64 n)(c:Rs)(p:Int):Tot (fun k=>g34 k op c n s a b p) (fdB op n s a b):=by
 have h0:∀ bad,Goes xY (.h0 bad op c n s a b p) (!bad&&nuB op n s):=by
  intro bad;cases bad with
  |true=>exact .fin0 fun k rec=>rfl
  |false=>
   unfold nuB;by_cases a20:op=20
   · subst a20;refine .fin0 fun k rec=>?_;simp only[xY,af,beq_self_eq_true,ah,if_true];by_cases h:n≥0
     · rw[aO h];rfl
     · rw[aN h];rfl
   ·
    rw[aF a20];have e20:(op==20)=false:=by simpa using a20
    by_cases a22:op=22
    ·
     subst a22;refine .fin0 fun k rec=>?_;simp only[xY,af,e20,beq_self_eq_true,ah,if_true];by_cases h:n≥0
     · rw[aO h];by_cases h1:n≤1
       · rw[aO h1,aO (by omega)];rfl
       · rw[aN h1,aN (show ¬ (0≤n∧n≤1)by omega)];rfl
     · rw[aN h,aN (show ¬ (0≤n∧n≤1)by omega)];rfl
    ·
     rw[aF a22];have e22:(op==22)=false:=by simpa using a22
     by_cases a21:op=21
     ·
      subst a21;rw[aD rfl];by_cases h:0≤n∧1≤s∧s≤14
      · rw[aO h];have:=(qE7 h.1 hn.2 h.2.1 h.2.2).1 (strB []) 0;refine .of1 this fun k e=>?_;have e:g53 k 4 (strB []) n s 0=some (rlT n s):=e;simp only[xY,af,e20,e22,beq_self_eq_true,ah,show decide (n≥0)=true from aO h.1,show decide (s≥1)=true from aO h.2.1,show decide (s≤14)=true from aO h.2.2,e,ae,ak,Bool.true_and];congr 1;simp only[decide_eq_decide];omega
      · rw[aN h];refine .fin0 fun k rec=>?_;simp only[xY,af,e20,e22,beq_self_eq_true,ah];by_cases h1:n≥0
        · rw[aO h1];by_cases h2:s≥1
          · rw[aO h2,aN (show ¬ s≤14 by omega)];rfl
          · rw[aN h2];rfl
        · rw[aN h1];rfl
     · rw[aF a21];refine .fin0 fun k rec=>?_;simp only[xY,af,e20,e22,show(op==21)=false by simpa using a21];cases n==0<;>rfl
 have e:(fdB op n s a b)=(!(!(naB op a&&atB op b))&&nuB op n s):=by unfold fdB;rw[Bool.not_not]
 rw[e];refine Goes.rec0 (step:=xY) (s:=.e op c n s a b p) (h0 _) fun k rec=>?_;have z1:=qid a;have z2:=qid b;have w1:decide (a.size=0)=true→gnB a=false:=fun h=>(qE6 (of_decide_eq_true h)).1;have w2:decide (b.size=0)=true→gnB b=false∧(b.toList==(strB [84,73,77,69]).toList)=false:=fun h=>qE6 (of_decide_eq_true h);have w3:(b.toList==(strB [84,73,77,69]).toList)=true→gnB b=false:=qFF;have eT:(b.toList==qBO.toList)=(b.toList==(strB [84,73,77,69]).toList):=rfl;simp only[xY,qGa,ae,z1,z2];unfold naB atB;rw[eT];generalize gnB a=N at *;generalize gnB b=M at *;generalize decide (a.size=0)=Z at *;generalize decide (b.size=0)=Y at *;generalize (b.toList==(strB [84,73,77,69]).toList)=T at *;rcases(by omega:op<23∨op=23∨op=24∨op=25∨26≤op∧op≤31∨31<op)with h|rfl|rfl|rfl|h|h
 · rw[aN (show ¬ op≥23 by omega),aF (by omega),aF (by omega)];cases N<;>cases M<;>cases Z<;>cases Y<;>cases T<;>simp_all
 · cases N<;>cases M<;>cases Z<;>cases Y<;>cases T<;>simp_all
 · cases N<;>cases M<;>cases Z<;>cases Y<;>cases T<;>simp_all
 · cases N<;>cases M<;>cases Z<;>cases Y<;>cases T<;>simp_all
 · rw[aO (show op≥23 by omega),aO (show op≤31 by omega),aD (by omega),aD (by omega),show(op != 23)=true by simp;omega,show(op != 25)=true by simp;omega];cases N<;>cases M<;>cases Z<;>cases Y<;>cases T<;>simp_all
 · rw[aO (show op≥23 by omega),aN (show ¬ op≤31 by omega),aF (by omega),aF (by omega)];cases N<;>cases M<;>cases Z<;>cases Y<;>cases T<;>simp_all
theorem qFx {L:List Ex}(hL:L.length≤1048576)(ih:∀ x∈L,Goes ZT (.e x.op (qg x.args) x.n x.scale x.name x.attr x.pos) (rtB x)):∀ (m i:Nat),L.length-i=m→Goes ZT (.h1 (qg L) (L.length:Int) (i:Int)) ((L.drop i).all rtB)
 |0,i,h=>by rw[List.drop_eq_nil_of_le (by omega)];refine .fin0 fun k rec=>?_;simp only[ZT,show decide ((i:Int)<(L.length:Int))=false from aN (by omega),af];rfl
 |m+1,i,h=>by
  have hi:i<L.length:=by omega
  have hx:L[i]? = some L[i]:=ax hi;have h1:=ih L[i] (List.getElem_mem hi);rw[List.drop_eq_getElem_cons hi,List.all_cons];have st:∀ k rec b,rec (.e L[i].op (qg L[i].args) L[i].n L[i].scale L[i].name L[i].attr L[i].pos)=some b→ZT k rec (.h1 (qg L) (L.length:Int) (i:Int))=bif !b then some false else rec (.h1 (qg L) (L.length:Int) (((i+1:Nat):Int))):=fun k rec b e=>by simp only[ZT,show decide ((i:Int)<(L.length:Int))=true from aO (by omega),ah,Yi (qhi hx),qkU,e,ae,zq i (by omega)]
  cases hb:rtB L[i]with
  |false=>rw[hb]at h1;exact Goes.selfFin h1 fun k rec e=>by rw[st k rec false e];rfl
  |true=>rw[hb]at h1;rw[Bool.true_and];exact Goes.self h1 (qFx hL ih m (i+1) (by omega)) fun k rec e=>by rw[st k rec true e];rfl
theorem qE4 {l:List Ex}{x:Ex}(h:x∈l):cnt x≤cnts l:=by obtain⟨i,hi⟩:=List.getElem?_of_mem h;exact qfF hi
theorem qFi {x:Ex}(h:nB x):i64 x.n∧nBs x.args:=by cases x;exact h
theorem qFf:∀ (m:Nat) (x:Ex),cnt x≤m→cnt x≤1048576→nB x→Goes ZT (.e x.op (qg x.args) x.n x.scale x.name x.attr x.pos) (rtB x)
 |0,x,h,_,_=>by have:=XN x;omega
 |m+1,x,h,hc,hn=>by
  have ha:=XN x;have hl:=qfm x.args;obtain⟨hn1,hn2⟩:=qFi hn;have lp:=qFx (L:=x.args) (by omega) (fun y hy=>qFf m y (by have:=qE4 hy;omega) (by have:=qE4 hy;omega) (qFj hn2 y hy)) _ 0 rfl;rw[List.drop_zero]at lp;have h0:∀ bad,Goes ZT (.h0 bad x.op (qg x.args) x.n x.scale x.name x.attr x.pos) (!bad&&x.args.all rtB):=by
   intro bad;cases bad with
   |true=>exact .fin0 fun k rec=>rfl
   |false=>refine Goes.rec0 lp fun k rec=>?_;simp only[ZT,af,Yt];rfl
  rw[qFy];refine .of3 (qlJ x.op) (qmb x.name x.attr hn1 (qg x.args) x.pos (op:=x.op) (s:=x.scale)) (h0 (!(arB x.op==(x.args.length:Int)&&fdB x.op x.n x.scale x.name x.attr))) fun k e1 e2 e3=>?_;have e1:g33 k x.op=some (arB x.op):=e1;have e2:g34 k x.op (qg x.args) x.n x.scale x.name x.attr x.pos=some (fdB x.op x.n x.scale x.name x.attr):=e2;simp only[ZT,e1,e2,ae,Yt];cases hb:arB x.op==(x.args.length:Int)with
  |false=>
   rw[hb]at e3;have:(arB x.op != (x.args.length:Int))=true:=by rw[bne,hb];rfl
   rw[this];simpa using e3
  |true=>
   rw[hb]at e3;have:(arB x.op != (x.args.length:Int))=false:=by rw[bne,hb];rfl
   rw[this];simpa using e3
end
section
variable [vo]
theorem qET {a:ByteArray}(h:a.size=0):a=strB []:=qo2 (by rw[List.length_eq_zero_iff.1 ((qD a).trans h)];rfl)
theorem qFC {a:ByteArray}(h:GN a):Own ⟨5,a,0,0⟩ ((strB [39]++a)++strB [39]):=by
 have hp:=h.pos;have hsz:((strB [39]++a)++strB [39]).size=a.size+2:=by simp only[ByteArray.size_append,bsz1];omega
 have b0:bAt ((strB [39]++a)++strB [39]) 0=39:=by rw[qcP,aD (by rw[ByteArray.size_append,bsz1];omega),qcP,aD (by rw[bsz1];omega)];rfl
 have ba:∀ i,i<a.size→bAt ((strB [39]++a)++strB [39]) (1+i)=bAt a i:=fun i hi=>by rw[qcP,aD (by rw[ByteArray.size_append,bsz1];omega),qcP,aF (by rw[bsz1];omega),bsz1];congr 1;omega
 have bz:bAt ((strB [39]++a)++strB [39]) (1+a.size)=39:=by
  have:(strB [39]++a).size=1+a.size:=by rw[ByteArray.size_append,bsz1]
  rw[qcP,aF (by omega),this,Nat.sub_self];rfl
 generalize (strB [39]++a)++strB [39]=w at hsz b0 ba bz;have hs:stop isNm w 1=1+a.size:=qeN (by omega) (by omega) (fun i h1 h2=>by
  obtain⟨j,rfl⟩:∃ j,i=1+j:=⟨i-1,by omega⟩
  rw[ba j (by omega)];exact h.2 j (by omega)) (fun _=>by rw[bz];rfl)
 have xa:w.extract 1 (1+a.size)=a:=qcK (by rw[size_ext _ _ _ (by omega)];omega) fun i hi=>by rw[size_ext _ _ _ (by omega)]at hi;rw[Qz (by omega) hi,ba i (by omega)]
 have xw:w.extract 0 w.size=w:=qcK (size_ext _ _ _ (Nat.le_refl _)) fun i hi=>by rw[size_ext _ _ _ (Nat.le_refl _)]at hi;rw[Qz (Nat.le_refl _) hi,Nat.zero_add]
 refine⟨w,0,by omega,by omega,?_,by rw[Nat.zero_add];exact xw⟩;unfold tok;rw[b0];rw[aF (by decide),aF (by decide),aD rfl];unfold qdt;simp only[Nat.zero_add];rw[hs,xa,aD ⟨h.1,by omega,bz⟩];congr 2;omega
theorem qF9 {op n s:Int}{a b:ByteArray}(h1:20≤op∧op≤31)(hn:i64 n)(h:fdB op n s a b=true):LfOk op n s a b:=by
 unfold fdB at h;simp only[aC]at h;obtain⟨⟨ha,hb⟩,hu⟩:=h;unfold naB at ha;unfold atB at hb;unfold nuB at hu;by_cases c:23≤op
 ·
  rw[aD (by omega)]at ha;rw[aF (by omega),aF (by omega),aF (by omega)]at hu;simp only[aC,beq_iff_eq]at hu;obtain⟨rfl,rfl⟩:=hu;have ga:=(qFg a).1 ha;by_cases c2:op=24∨26≤op∧op≤31
  ·
   rw[aD c2,Bool.or_eq_true]at hb;have gb:GA b:=by
    rcases hb with hb|hb
    · exact .inl ((qFg b).1 hb)
    · exact .inr (toList_inj (by simpa using hb))
   rcases c2 with rfl|c2
   · exact .inr (.inr (.inr (.inr (.inl ⟨rfl,ga,gb,rfl,rfl⟩))))
   · exact .inr (.inr (.inr (.inr (.inr (.inr ⟨c2.1,c2.2,ga,gb,rfl,rfl⟩)))))
  · rw[aF c2]at hb;have eb:=qET (of_decide_eq_true hb);rcases(by omega:op=23∨op=25)with rfl|rfl
    · exact .inr (.inr (.inr (.inl ⟨rfl,qFC ga,ga,rfl,rfl,eb⟩)))
    · exact .inr (.inr (.inr (.inr (.inr (.inl ⟨rfl,ga,rfl,rfl,eb⟩)))))
 ·
  rw[aF (by omega)]at ha hb;have ea:=qET (of_decide_eq_true ha);have eb:=qET (of_decide_eq_true hb);rcases(by omega:op=20∨op=21∨op=22)with rfl|rfl|rfl
  · rw[aD rfl]at hu;simp only[aC,aX,beq_iff_eq]at hu;obtain⟨u,rfl⟩:=Int.eq_ofNat_of_zero_le hu.1;exact .inl ⟨rfl,⟨_,qFB (by have:=hn.2;omega)⟩,hu.2,ea,eb⟩
  · rw[aF (by decide),aF (by decide),aD rfl]at hu;simp only[aC,aX]at hu;exact .inr (.inl ⟨rfl,⟨_,(qE7 hu.1.1 hn.2 hu.1.2.1 hu.1.2.2).2 hu.2⟩,ea,eb⟩)
  · rw[aF (by decide),aD rfl]at hu;simp only[aC,aX,beq_iff_eq]at hu;exact .inr (.inr (.inl ⟨rfl,by omega,hu.2,ea,eb⟩))
theorem rg_of:∀ (m:Nat) (x:Ex),cnt x≤m→nB x→rtB x=true→Rg x
 |0,x,h,_,_=>by have:=XN x;omega
 |m+1,.mk op args n s a b p,h,hn,hr=>by
  rw[qFy]at hr;simp only[aC,beq_iff_eq,Ex.op,Ex.args,Ex.n,Ex.scale,Ex.name,Ex.attr]at hr;obtain⟨⟨h1,h2⟩,h3⟩:=hr;obtain⟨hn1,hn2⟩:=qFi hn;have hc:cnts args≤m:=by simp only[cnt]at h;omega
  have lo:¬ (20≤op∧op≤31)→1≤op∧op≤17→n=0∧s=0∧a=strB []∧b=strB []:=fun c1 c2=>by unfold fdB naB atB nuB at h2;rw[aF (by omega),aF (by omega),aF (by omega),aF (by omega),aF (by omega)]at h2;simp only[aC,aX,beq_iff_eq]at h2;exact⟨h2.2.1,h2.2.2,qET h2.1.1,qET h2.1.2⟩
  unfold arB at h1;by_cases c1:op=6∨15≤op∧op≤17
  · rw[aD c1]at h1;obtain⟨rfl,rfl,rfl,rfl⟩:=lo (by omega) (by omega)
    match args,h1 with
    |[x],_=>refine Rg.una (by omega) (rg_of m x (by simp only[cnts]at hc;omega) hn2.1 ?_);simpa using h3
  ·
   rw[aF c1]at h1;by_cases c2:1≤op∧op≤14
   · rw[aD c2]at h1;obtain⟨rfl,rfl,rfl,rfl⟩:=lo (by omega) (by omega)
     match args,h1 with
     |[x,y],_=>simp only[List.all_cons,List.all_nil,Bool.and_true,aC]at h3;exact Rg.two (by omega) (rg_of m x (by simp only[cnts]at hc;omega) hn2.1 h3.1) (rg_of m y (by simp only[cnts]at hc;omega) hn2.2.1 h3.2)
   ·
    rw[aF c2]at h1;by_cases c3:20≤op∧op≤31
    · rw[aD c3]at h1
      match args,h1 with
      |[],_=>exact Rg.leaf (qF9 c3 hn1 h2)
    · rw[aF c3]at h1;omega
end
section
variable [vo]
noncomputable def prA (x:Ex):ByteArray×Int:=if rtB x=true then(if 200<cnt x then(strB [],2)else if 4000<(pr x).1.size then(strB [],2)else if 30<(pr x).2.1 then(strB [],14)else((pr x).1,0))else(strB [],3)
theorem p6 {x:Ex}(hc:cnt x≤1048576)(hn:nB x):Tot (fun k=>g6 k x.op (qg x.args) x.n x.scale x.name x.attr x.pos) (prA x):=by
 have r:=qFf _ x (Nat.le_refl _) hc hn;unfold prA;cases hr:rtB x with
 |false=>rw[hr]at r;refine Goes.of1 (step:=qn9) (s:=.e x.op (qg x.args) x.n x.scale x.name x.attr x.pos) r fun k e=>?_;have e:g16 k x.op (qg x.args) x.n x.scale x.name x.attr x.pos=some false:=e;simp only[qn9,e,ae,ak,ah];rfl
 |true=>
  rw[hr]at r;rw[aD rfl];have c:=qxp _ x (Nat.le_refl _) (by omega);by_cases h2:200<cnt x
  · rw[aD h2];refine Goes.of2 (step:=qn9) (s:=.e x.op (qg x.args) x.n x.scale x.name x.attr x.pos) r c fun k e e2=>?_;have e:g16 k x.op (qg x.args) x.n x.scale x.name x.attr x.pos=some true:=e;have e2:g17 k x.op (qg x.args) x.n x.scale x.name x.attr x.pos=some (cnt x:Int):=e2;simp only[qn9,e,e2,ae,aj,af,show decide (((cnt x:Nat):Int)>200)=true from aO (by omega),ah]
  ·
   rw[aF h2];have t:=qD0 (rg_of _ x (Nat.le_refl _) hn hr) (by omega);refine Goes.of3 (step:=qn9) (s:=.e x.op (qg x.args) x.n x.scale x.name x.attr x.pos) r c t fun k e e2 e3=>?_;have e:g16 k x.op (qg x.args) x.n x.scale x.name x.attr x.pos=some true:=e;have e2:g17 k x.op (qg x.args) x.n x.scale x.name x.attr x.pos=some (cnt x:Int):=e2;have e3:g18 k x.op (qg x.args) x.n x.scale x.name x.attr x.pos=some ((pr x).1,(((pr x).2.1:Nat):Int)):=e3;simp only[qn9,e,e2,e3,ae,aj,af,show decide (((cnt x:Nat):Int)>200)=false from aN (by omega),tup2];by_cases hs:4000<(pr x).1.size
   · rw[aD hs,show decide ((((pr x).1.size:Nat):Int)>4000)=true from aO (by omega)];rfl
   · rw[aF hs,show decide ((((pr x).1.size:Nat):Int)>4000)=false from aN (by omega),af];by_cases hd:30<(pr x).2.1
     · rw[aD hd,show decide ((((pr x).2.1:Nat):Int)>30)=true from aO (by omega)];rfl
     · rw[aF hd,show decide ((((pr x).2.1:Nat):Int)>30)=false from aN (by omega)];rfl
end
end Ab
end Go.Proofs.YtpdhhkfllkgahaaGreatDoor

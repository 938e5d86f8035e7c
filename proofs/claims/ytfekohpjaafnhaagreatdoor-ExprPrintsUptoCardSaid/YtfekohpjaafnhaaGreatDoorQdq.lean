/-
  Whether a tree is right, by the document; a right tree is one that is read.
-/
import Derived.Test.YtfekohpjaafnhaaGreatDoorQcq
set_option linter.all false
namespace Go.Proofs.YtfekohpjaafnhaaGreatDoor
namespace Ab
section
variable [vo]
theorem qxB {L:List Ex}(hL:L.length≤1048576)(ih:∀ x∈L,Goes qjV (.e x.op (qg x.args) x.n x.scale x.name x.attr x.pos) (rtB x))(op n s:Int)(a b:ByteArray)(p:Int):∀ (m i:Nat),L.length-i=m→Goes qjV (.h5 (L.length:Int) (i:Int) op (qg L) n s a b p) ((L.drop i).all rtB)
 |0,i,h=>by rw[List.drop_eq_nil_of_le (by omega)];refine .fin0 fun k rec=>?_;simp only[qjV,show decide ((i:Int)<(L.length:Int))=false from aN (by omega),af];rfl
 |m+1,i,h=>by
  have hi:i<L.length:=by omega
  have hx:L[i]? = some L[i]:=ax hi;have h1:=ih L[i] (List.getElem_mem hi);rw[List.drop_eq_getElem_cons hi,List.all_cons];have st:∀ k rec b',rec (.e L[i].op (qg L[i].args) L[i].n L[i].scale L[i].name L[i].attr L[i].pos)=some b'→qjV k rec (.h5 (L.length:Int) (i:Int) op (qg L) n s a b p)=bif !b' then some false else rec (.h5 (L.length:Int) (((i+1:Nat):Int)) op (qg L) n s a b p):=fun k rec b' e=>by simp only[qjV,show decide ((i:Int)<(L.length:Int))=true from aO (by omega),ah,Yi (qhi hx),qkU,e,ae,zq i (by omega)]
  cases hb:rtB L[i]with
  |false=>rw[hb]at h1;exact Goes.selfFin h1 fun k rec e=>by rw[st k rec false e];rfl
  |true=>rw[hb]at h1;rw[Bool.true_and];exact Goes.self h1 (qxB hL ih op n s a b p m (i+1) (by omega)) fun k rec e=>by rw[st k rec true e];rfl
theorem qxZ {L:List Ex}(hL:L.length≤1048576)(ih:∀ x∈L,Goes qjV (.e x.op (qg x.args) x.n x.scale x.name x.attr x.pos) (rtB x))(op n s:Int)(a b:ByteArray)(p:Int)(hn:i64 n):
  Goes qjV (.e op (qg L) n s a b p) ((arB op==(L.length:Int)&&fdB op n s a b)&&L.all rtB):=by
 have lp:=qxB hL ih op n s a b p _ 0 rfl;rw[List.drop_zero]at lp;have h3:∀ bad,Goes qjV (.h3 bad op (qg L) n s a b p) (!bad&&L.all rtB):=fun bad=>by
  cases bad with
  |true=>exact .fin0 fun k rec=>rfl
  |false=>refine Goes.rec0 lp fun k rec=>?_;simp only[qjV,af,Yt];rfl
 have h1:∀ ar nm at' nu r,(((ar:Int)==(L.length:Int))&&(nm&&at'&&nu))=r→Goes qjV (.h1 ar nm at' nu op (qg L) n s a b p) (r&&L.all rtB):=fun ar nm at' nu r hr=>by
  have:=h3 (!r);rw[Bool.not_not]at this;refine Goes.rec0 this fun k rec=>?_;subst hr;cases nm with
  |false=>simp[qjV]
  |true=>
   cases at' with
   |false=>simp[qjV]
   |true=>
    cases nu with
    |false=>simp[qjV]
    |true=>simp only[qjV,Yt,aj,af,Bool.and_true];congr 2;rw[Bool.eq_iff_iff];simp only[bne_iff_ne,Bool.not_eq_true',beq_eq_false_iff_ne,ne_eq];omega
 have z1:=qid a;have z2:=qid b;have e_:∀ r,Goes qjV (.h0 0 (decide (a.size=0)) (decide (b.size=0)) (n==0&&s==0) (decide (op=6∨15≤op∧op≤17)) op (qg L) n s a b p) r→Goes qjV (.e op (qg L) n s a b p) r:=fun r h=>by
  refine Goes.rec0 h fun k rec=>?_;simp only[qjV,z1,z2];have hf:∀ (x:Bool),(bif op==6 then rec (.h0 0 (decide (a.size=0)) (decide (b.size=0)) x true op (qg L) n s a b p)else bif decide (op≥15)then rec (.h0 0 (decide (a.size=0)) (decide (b.size=0)) x (decide (op≤17)) op (qg L) n s a b p)else rec (.h0 0 (decide (a.size=0)) (decide (b.size=0)) x false op (qg L) n s a b p)) =
    rec (.h0 0 (decide (a.size=0)) (decide (b.size=0)) x (decide (op=6∨15≤op∧op≤17)) op (qg L) n s a b p):=fun x=>by
   by_cases h6:op=6
   · subst h6;rfl
   · rw[show(op==6)=false by simpa using h6,af];by_cases h15:op≥15
     · rw[aO h15,ah];congr 2;simp only[decide_eq_decide];omega
     · rw[aN h15,af,aN (show ¬ (op=6∨15≤op∧op≤17)by omega)]
  rw[hf,hf];cases n==0<;>rfl
 have h0_:∀ r,¬ (op=6∨15≤op∧op≤17)→Goes qjV (.h2 0 (decide (a.size=0)) (decide (b.size=0)) (n==0&&s==0) (decide (1≤op∧op≤14)) op (qg L) n s a b p) r→Goes qjV (.h0 0 (decide (a.size=0)) (decide (b.size=0)) (n==0&&s==0) (decide (op=6∨15≤op∧op≤17)) op (qg L) n s a b p) r:=fun r hne h=>by
  refine Goes.rec0 h fun k rec=>?_;simp only[qjV,aN hne,af];by_cases h1:op≥1
  · rw[aO h1,ah];congr 2;simp only[decide_eq_decide];omega
  · rw[aN h1,af,aN (show ¬ (1≤op∧op≤14)by omega)]
 refine e_ _ ?_;by_cases c1:op=6∨15≤op∧op≤17
 · have r:((arB op==(L.length:Int))&&fdB op n s a b)=(((1:Int)==(L.length:Int))&&(decide (a.size=0)&&decide (b.size=0)&&(n==0&&s==0))):=by unfold arB fdB naB atB nuB;rw[aD c1,aF (show ¬ (23≤op∧op≤31)by omega),aF (show ¬ (op=24∨26≤op∧op≤31)by omega),aF (show ¬ op=20 by omega),aF (show ¬ op=22 by omega),aF (show ¬ op=21 by omega)]
   rw[r];refine Goes.rec0 (h1 1 _ _ _ _ rfl) fun k rec=>?_;simp only[qjV,aO c1,ah]
 refine h0_ _ c1 ?_;by_cases c2:1≤op∧op≤14
 · have r:((arB op==(L.length:Int))&&fdB op n s a b)=(((2:Int)==(L.length:Int))&&(decide (a.size=0)&&decide (b.size=0)&&(n==0&&s==0))):=by unfold arB fdB naB atB nuB;rw[aF c1,aD c2,aF (show ¬ (23≤op∧op≤31)by omega),aF (show ¬ (op=24∨26≤op∧op≤31)by omega),aF (show ¬ op=20 by omega),aF (show ¬ op=22 by omega),aF (show ¬ op=21 by omega)]
   rw[r];refine Goes.rec0 (h1 2 _ _ _ _ rfl) fun k rec=>?_;simp only[qjV,aO c2,ah]
 have d2:decide (1≤op∧op≤14)=false:=aN c2;by_cases c3:20≤op∧op≤31
 case neg=>
  have r:((arB op==(L.length:Int))&&fdB op n s a b)=false:=by unfold arB;rw[aF c1,aF c2,aF c3,show((-1:Int)==(L.length:Int))=false by simp only[beq_eq_false_iff_ne];omega,Bool.false_and]
  rw[r,Bool.false_and];have h6:Goes qjV (.h6 0 (n==0&&s==0) false op (qg L) n s a b p) false:=.fin0 fun k rec=>rfl;have h4:Goes qjV (.h4 0 (decide (b.size=0)) (n==0&&s==0) (op==25) op (qg L) n s a b p) false:=by
   refine Goes.rec0 h6 fun k rec=>?_;simp only[qjV,show(op==25)=false by simp;omega,show(op==24)=false by simp;omega,af];by_cases h26:op≥26
   · rw[aO h26,aN (show ¬ op≤31 by omega)];rfl
   · rw[aN h26];rfl
  refine Goes.rec0 h4 fun k rec=>?_;simp only[qjV,d2,af,show(op==20)=false by simp;omega,show(op==21)=false by simp;omega,show(op==22)=false by simp;omega,show(op==23)=false by simp;omega]
 have ar:arB op=0:=by unfold arB;rw[aF c1,aF c2,aD c3]
 rw[ar];by_cases c23:op<23
 ·
  have na:naB op a=decide (a.size=0):=aF (by omega);have at':atB op b=decide (b.size=0):=aF (by omega);have fd:fdB op n s a b=(decide (a.size=0)&&decide (b.size=0)&&nuB op n s):=by unfold fdB;rw[na,at']
  rw[fd];have go:=h1 0 (decide (a.size=0)) (decide (b.size=0)) (nuB op n s) _ rfl;rcases(by omega:op=20∨op=21∨op=22)with rfl|rfl|rfl
  · refine Goes.rec0 go fun k rec=>?_;simp only[qjV,d2,af,beq_self_eq_true,ah];unfold nuB;rw[aD rfl];by_cases hp:n≥0
    · rw[aO hp];rfl
    · rw[aN hp];rfl
  ·
   by_cases h:0≤n∧1≤s∧s≤14
   · have nu:nuB 21 n s=decide ((rlT n s).size≤16):=by unfold nuB;rw[aF (by decide),aF (by decide),aD rfl,aO h,Bool.true_and]
     rw[nu]at go ⊢;refine .of2 (qxf h.1 hn.2 h.2.1 h.2.2).1 go fun k e e2=>?_;simp only[qjV,d2,af,show((21:Int)==20)=false from rfl,beq_self_eq_true,ah,show decide (n≥0)=true from aO h.1,show decide (s≥1)=true from aO h.2.1,show decide (s≤14)=true from aO h.2.2,e,ae];have:decide (((rlT n s).size:Int)≤16)=decide ((rlT n s).size≤16):=by simp only[decide_eq_decide];omega
     rw[this];exact e2
   ·
    have nu:nuB 21 n s=false:=by unfold nuB;rw[aF (by decide),aF (by decide),aD rfl,aN h,Bool.false_and]
    rw[nu]at go ⊢;refine Goes.rec0 go fun k rec=>?_;simp only[qjV,d2,af,show((21:Int)==20)=false from rfl,beq_self_eq_true,ah];by_cases h1:n≥0
    · rw[aO h1];by_cases h2:s≥1
      · rw[aO h2,aN (show ¬ s≤14 by omega)];rfl
      · rw[aN h2];rfl
    · rw[aN h1];rfl
  ·
   refine Goes.rec0 go fun k rec=>?_;simp only[qjV,d2,af,show((22:Int)==20)=false from rfl,show((22:Int)==21)=false from rfl,beq_self_eq_true,ah];unfold nuB;rw[aF (by decide),aD rfl];by_cases h0:n=0
   · subst h0;rfl
   · rw[show(n==0)=false by simpa using h0];by_cases h1:n=1
     · subst h1;rfl
     · rw[show(n==1)=false by simpa using h1,aN (show ¬ (0≤n∧n≤1)by omega)];rfl
 have nu:nuB op n s=(n==0&&s==0):=by unfold nuB;rw[aF (by omega),aF (by omega),aF (by omega)]
 have na:naB op a=gnB a:=aD (by omega);have fd:fdB op n s a b=(gnB a&&atB op b&&(n==0&&s==0)):=by unfold fdB;rw[na,nu]
 rw[fd];have go:=h1 0 (gnB a) (atB op b) (n==0&&s==0) _ rfl;have h4_:∀ r,Goes qjV (.h4 0 (decide (b.size=0)) (n==0&&s==0) (decide (op=23∨op=25)) op (qg L) n s a b p) r→Goes qjV (.h2 0 (decide (a.size=0)) (decide (b.size=0)) (n==0&&s==0) (decide (1≤op∧op≤14)) op (qg L) n s a b p) r:=fun r h=>by
  refine Goes.rec0 h fun k rec=>?_;simp only[qjV,d2,af,show(op==20)=false by simp;omega,show(op==21)=false by simp;omega,show(op==22)=false by simp;omega];by_cases h23:op=23
  · subst h23;rfl
  · rw[show(op==23)=false by simpa using h23,af];congr 2;rw[Bool.eq_iff_iff];simp only[beq_iff_eq,aX];omega
 refine h4_ _ ?_;by_cases c5:op=23∨op=25
 · have at':atB op b=decide (b.size=0):=aF (by omega);rw[at']at go ⊢;refine .of2 (qxt a) go fun k e e2=>?_;simp only[qjV,aO c5,ah,e,ae];exact e2
 ·
  have at':atB op b=(gnB b||b.toList==qvs.toList):=aD (by omega);rw[at']at go ⊢;have h6:Goes qjV (.h6 0 (n==0&&s==0) true op (qg L) n s a b p) (((0:Int)==(L.length:Int)&&(gnB a&&(gnB b||b.toList==qvs.toList)&&(n==0&&s==0)))&&L.all rtB):=by
   refine .of3 (qxt a) (qxt b) go fun k e e1 e2=>?_;simp only[qjV,ah,e,e1,ae];cases hb:gnB b with
   |true=>rw[hb]at e2;exact e2
   |false=>rw[hb]at e2;exact e2
  refine Goes.rec0 h6 fun k rec=>?_;simp only[qjV,aN c5,af];by_cases h24:op=24
  · subst h24;rfl
  · rw[show(op==24)=false by simpa using h24,af,aO (show op≥26 by omega),aO (show op≤31 by omega)];rfl
theorem qyd:∀ (m:Nat) (x:Ex),cnt x≤m→cnt x≤1048576→nB x→Goes qjV (.e x.op (qg x.args) x.n x.scale x.name x.attr x.pos) (rtB x)
 |0,x,h,_,_=>by have:=XN x;omega
 |m+1,x,h,hc,hn=>by have ha:=XN x;have hl:=qfm x.args;obtain⟨hn1,hn2⟩:=qxd hn;rw[qxV];exact qxZ (by omega) (fun y hy=>qyd m y (by have:=qxe hy;omega) (by have:=qxe hy;omega) (qxw hn2 y hy)) _ _ _ _ _ _ hn1
theorem qxa {a:ByteArray}(h:a.size=0):a=strB []:=qo2 (by rw[List.length_eq_zero_iff.1 ((qD a).trans h)];rfl)
theorem qyi {a:ByteArray}(h:GN a):Own ⟨5,a,0,0⟩ ((strB [39]++a)++strB [39]):=by
 have hp:=h.pos;have hsz:((strB [39]++a)++strB [39]).size=a.size+2:=by simp only[ByteArray.size_append,bsz1];omega
 have b0:bAt ((strB [39]++a)++strB [39]) 0=39:=by rw[qcP,aD (by rw[ByteArray.size_append,bsz1];omega),qcP,aD (by rw[bsz1];omega)];rfl
 have ba:∀ i,i<a.size→bAt ((strB [39]++a)++strB [39]) (1+i)=bAt a i:=fun i hi=>by rw[qcP,aD (by rw[ByteArray.size_append,bsz1];omega),qcP,aF (by rw[bsz1];omega),bsz1];congr 1;omega
 have bz:bAt ((strB [39]++a)++strB [39]) (1+a.size)=39:=by
  have:(strB [39]++a).size=1+a.size:=by rw[ByteArray.size_append,bsz1]
  rw[qcP,aF (by omega),this,Nat.sub_self];rfl
 generalize (strB [39]++a)++strB [39]=w at hsz b0 ba bz;have hs:stop isNm w 1=1+a.size:=qeN (by omega) (by omega) (fun i h1 h2=>by
  obtain⟨j,rfl⟩:∃ j,i=1+j:=⟨i-1,by omega⟩
  rw[ba j (by omega)];exact h.2 j (by omega)) (fun _=>by rw[bz];rfl)
 have xa:w.extract 1 (1+a.size)=a:=qcK (by rw[size_ext _ _ _ (by omega)];omega) fun i hi=>by rw[size_ext _ _ _ (by omega)]at hi;rw[Qz (by omega) hi,ba i (by omega)]
 have xw:w.extract 0 w.size=w:=qcK (size_ext _ _ _ (Nat.le_refl _)) fun i hi=>by rw[size_ext _ _ _ (Nat.le_refl _)]at hi;rw[Qz (Nat.le_refl _) hi,Nat.zero_add]
 refine⟨w,0,by omega,by omega,?_,by rw[Nat.zero_add];exact xw⟩;unfold tok;rw[b0];rw[aF (by decide),aF (by decide),aD rfl];unfold qdt;simp only[Nat.zero_add];rw[hs,xa,aD ⟨h.1,by omega,bz⟩];congr 2;omega
theorem qyz {op n s:Int}{a b:ByteArray}(h1:20≤op∧op≤31)(hn:i64 n)(h:fdB op n s a b=true):LfOk op n s a b:=by
 unfold fdB at h;simp only[aC]at h;obtain⟨⟨ha,hb⟩,hu⟩:=h;unfold naB at ha;unfold atB at hb;unfold nuB at hu;by_cases c:23≤op
 ·
  rw[aD (by omega)]at ha;rw[aF (by omega),aF (by omega),aF (by omega)]at hu;simp only[aC,beq_iff_eq]at hu;obtain⟨rfl,rfl⟩:=hu;have ga:=(qxQ a).1 ha;by_cases c2:op=24∨26≤op∧op≤31
  ·
   rw[aD c2,Bool.or_eq_true]at hb;have gb:GA b:=by
    rcases hb with hb|hb
    · exact .inl ((qxQ b).1 hb)
    · exact .inr (toList_inj (by simpa using hb))
   rcases c2 with rfl|c2
   · exact .inr (.inr (.inr (.inr (.inl ⟨rfl,ga,gb,rfl,rfl⟩))))
   · exact .inr (.inr (.inr (.inr (.inr (.inr ⟨c2.1,c2.2,ga,gb,rfl,rfl⟩)))))
  · rw[aF c2]at hb;have eb:=qxa (of_decide_eq_true hb);rcases(by omega:op=23∨op=25)with rfl|rfl
    · exact .inr (.inr (.inr (.inl ⟨rfl,qyi ga,ga,rfl,rfl,eb⟩)))
    · exact .inr (.inr (.inr (.inr (.inr (.inl ⟨rfl,ga,rfl,rfl,eb⟩)))))
 ·
  rw[aF (by omega)]at ha hb;have ea:=qxa (of_decide_eq_true ha);have eb:=qxa (of_decide_eq_true hb);rcases(by omega:op=20∨op=21∨op=22)with rfl|rfl|rfl
  · rw[aD rfl]at hu;simp only[aC,aX,beq_iff_eq]at hu;obtain⟨u,rfl⟩:=Int.eq_ofNat_of_zero_le hu.1;exact .inl ⟨rfl,⟨_,qxS (by have:=hn.2;omega)⟩,hu.2,ea,eb⟩
  · rw[aF (by decide),aF (by decide),aD rfl]at hu;simp only[aC,aX]at hu;exact .inr (.inl ⟨rfl,⟨_,(qxf hu.1.1 hn.2 hu.1.2.1 hu.1.2.2).2.2 hu.2⟩,ea,eb⟩)
  · rw[aF (by decide),aD rfl]at hu;simp only[aC,aX,beq_iff_eq]at hu;exact .inr (.inr (.inl ⟨rfl,by omega,hu.2,ea,eb⟩))
theorem rg_of:∀ (m:Nat) (x:Ex),cnt x≤m→nB x→rtB x=true→Rg x
 |0,x,h,_,_=>by have:=XN x;omega
 |m+1,.mk op args n s a b p,h,hn,hr=>by
  rw[qxV]at hr;simp only[aC,beq_iff_eq,Ex.op,Ex.args,Ex.n,Ex.scale,Ex.name,Ex.attr]at hr;obtain⟨⟨h1,h2⟩,h3⟩:=hr;obtain⟨hn1,hn2⟩:=qxd hn;have hc:cnts args≤m:=by simp only[cnt]at h;omega
  have lo:¬ (20≤op∧op≤31)→1≤op∧op≤17→n=0∧s=0∧a=strB []∧b=strB []:=fun c1 c2=>by unfold fdB naB atB nuB at h2;rw[aF (by omega),aF (by omega),aF (by omega),aF (by omega),aF (by omega)]at h2;simp only[aC,aX,beq_iff_eq]at h2;exact⟨h2.2.1,h2.2.2,qxa h2.1.1,qxa h2.1.2⟩
  unfold arB at h1;by_cases c1:op=6∨15≤op∧op≤17
  · rw[aD c1]at h1;obtain⟨rfl,rfl,rfl,rfl⟩:=lo (by omega) (by omega)
    match args,h1 with
    |[x],_=>refine Rg.una (by omega) (rg_of m x (by simp only[cnts]at hc;omega) hn2.1 ?_);simpa using h3
  ·
   rw[aF c1]at h1;by_cases c2:1≤op∧op≤14
   · rw[aD c2]at h1;obtain⟨rfl,rfl,rfl,rfl⟩:=lo (by omega) (by omega)
     match args,h1 with
     |[x,y],_=>simp only[List.all_cons,List.all_nil,Bool.and_true,aC]at h3;exact Rg.two (by omega) (rg_of m x (by simp only[cnts]at hc;omega) hn2.1 h3.1) (rg_of m y (by simp only[cnts]at hc;omega) hn2.2.1 h3.2)
   ·
    rw[aF c2]at h1;by_cases c3:20≤op∧op≤31
    · rw[aD c3]at h1
      match args,h1 with
      |[],_=>exact Rg.leaf (qyz c3 hn1 h2)
    · rw[aF c3]at h1;omega
end
end Ab
end Go.Proofs.YtfekohpjaafnhaaGreatDoor

/-
  Numbers with a point, spelt by both; names by both.
-/
import Derived.Test.YtfekohpjaafnhaaGreatDoorQaq
set_option linter.all false
namespace Go.Proofs.YtfekohpjaafnhaaGreatDoor
namespace Ab
section
variable [vo]
theorem qyh {s:ByteArray}{j:Nat}(hj:j<s.size)(hb:isNm (bAt s j)=false)(hn:∀ i,i<j→isNm (bAt s i)=true)(hs:s.size≤4000):∀ (n i:Nat),j-i≤n→i≤j→Goes qjX (.h1 s (i:Int)) false:=by
 have at_:∀ i,i≤j→∀ r,Goes qjX (.h2 s (i:Int) (!isNm (bAt s i))) r→Goes qjX (.h1 s (i:Int)) r:=fun i hi r h2=>by
  have hlt:i<s.size:=by omega
  refine Goes.call2 (yZ (bAt s i)) (qkp (bAt s i)) h2 fun k rec e1 e2=>?_;simp only[qjX,show decide ((i:Int)<(s.size:Int))=true from aO (by omega),ah,yw hlt,e1,e2,ae];unfold isNm;cases hl:isLe (bAt s i)with
  |true=>rfl
  |false=>
   cases hdg:isDi (bAt s i)with
   |true=>rfl
   |false=>rfl
 intro n
 induction n with
 |zero=>
  intro i h1 h2;have:i=j:=by omega
  subst this;refine at_ i (Nat.le_refl _) false ?_;rw[hb];exact .fin0 fun k rec=>rfl
 |succ n ih=>
  intro i h1 h2;rcases Nat.lt_or_ge i j with h|h
  · refine at_ i h2 false ?_;rw[hn i h];refine Goes.rec0 (ih (i+1) (by omega) h) fun k rec=>?_;simp only[qjX,aj,af,zq i (by omega)]
  · have:i=j:=by omega
    subst this;refine at_ i (Nat.le_refl _) false ?_;rw[hb];exact .fin0 fun k rec=>rfl
theorem qxt (s:ByteArray):Tot (fun k=>g40 k s) (gnB s):=by
 have no:Goes qjX (.h0 s true) false:=.fin0 fun k rec=>by simp only[qjX,ah]
 by_cases h2:24<s.size
 · have:gnB s=false:=by unfold gnB nmOk;rw[aN (show ¬ s.size≤24 by omega)];simp
   rw[this];refine Goes.rec0 (step:=qjX) (s:=.e s) no fun k rec=>?_;simp only[qjX,show decide ((s.size:Int)<1)=false from aN (by omega),show decide ((s.size:Int)>24)=true from aO (by omega),ah,af]
 ·
  cases ha:qxr s with
  |true=>
   have:gnB s=nmOk s:=by unfold gnB;rw[ha,Bool.and_true]
   rw[this];exact qsa ((qw9 s).1 ha) (by omega)
  |false=>
   have:gnB s=false:=by unfold gnB;rw[ha,Bool.and_false]
   rw[this];obtain⟨j,hj,hb,hn⟩:=qx5 ha;have go:Goes qjX (.h0 s false) false:=Goes.rec0 (qyh hj hb hn (by omega) j 0 (by omega) (Nat.zero_le _)) fun k rec=>by simp only[qjX,af];rfl
   have h0:0<s.size:=by omega
   have any:∀ b,Goes qjX (.h0 s b) false:=fun b=>by cases b;exact go;exact no
   cases hl:isLe (bAt s 0)with
   |false=>refine Goes.call (step:=qjX) (s:=.e s) (yZ (bAt s 0)) no fun k rec e=>?_;simp only[qjX,show decide ((s.size:Int)<1)=false from aN (by omega),show decide ((s.size:Int)>24)=false from aN (by omega),af,qol h0,e,ae,hl,ak,ah]
   |true=>refine Goes.call2 (step:=qjX) (s:=.e s) (yZ (bAt s 0)) (qrp s) (any (YH s)) fun k rec e e2=>?_;simp only[qjX,show decide ((s.size:Int)<1)=false from aN (by omega),show decide ((s.size:Int)>24)=false from aN (by omega),af,qol h0,e,e2,ae,hl,aj]
theorem qyA (s:ByteArray):YF s=some (gnB s):=congrArg some (qx2 s)
section
variable {A B:ByteArray} (hA:∀ i,i<A.size→isDi (bAt A i)=true) (hB:∀ i,i<B.size→isDi (bAt B i)=true) (a1:1≤A.size) (b1:1≤B.size) (h0:1<A.size→bAt A 0≠48) (hv:dv (A++B).data.toList<2 ^ 63) (hsz:A.size+B.size≤900)
include hA hB a1 b1 h0 hv hsz
theorem qx1 (text:ByteArray)(a:Int):Tot (fun k=>g73 k 4 text (dv (A++B).data.toList:Int) (B.size:Int) a) ((A++strB [46])++B):=by
 have hD:(A++B).size=A.size+B.size:=ByteArray.size_append;obtain⟨j,hj⟩:=qvr (s:=A++B) (by omega) (qlo hA hB);have hj0:j=0∨(A++B).size=B.size+1:=by
  by_cases hA1:A.size=1
  · right;omega
  · left;have hb0:bAt (A++B) 0≠48:=by rw[qcP,aD (by omega)];exact h0 (by omega)
    have ho:=qvo (s:=A++B) (by omega) (qlo hA hB) (fun _=>hb0);rw[ho]at hj;have:=congrArg ByteArray.size hj;rw[show(zS j++(A++B)).size=j+(A++B).size by rw[ByteArray.size_append,qvh]]at this;omega
 have hfin:Goes qsw (.h1 (A++B) false 4 text (dv (A++B).data.toList:Int) (B.size:Int) a) ((A++strB [46])++B):=by refine .fin0 fun k rec=>?_;have e1:IntKind.i64.wrap (((A++B).size:Int)-(B.size:Int))=(A.size:Int):=qes (by omega) (by omega);obtain⟨x1,x2⟩:=qvQ A B;have z1:decide (0≤(0:Int)∧(0:Int)≤(A.size:Int)∧(A.size:Int)≤((A++B).size:Int))=true:=aO (by omega);have z2:decide (A.size+(strB [46]).size≤1000000000)=true:=aO (by show A.size+1≤_;omega);have z3:decide (0≤(A.size:Int)∧(A.size:Int)≤((A++B).size:Int)∧((A++B).size:Int)≤((A++B).size:Int))=true:=aO (by omega);have z4:decide ((A++strB [46]).size+B.size≤1000000000)=true:=aO (by rw[ByteArray.size_append];show A.size+1+B.size≤_;omega);simp only[qsw,af,e1,z1,ZW,show Int.toNat (0:Int)=0 from rfl,Int.toNat_natCast,x1,x2,z2,z3,z4]
 have hp:=qxu (d:=decS (dv (A++B).data.toList)) hfin (by omega) j 0 (by rw[Nat.zero_add];exact hj) hj0 (by omega);rw[qwA]at hp;refine Goes.rec0 (step:=qsw) (s:=.e 4 text (dv (A++B).data.toList:Int) (B.size:Int) a) hp fun k rec=>?_;simp only[qsw,show((4:Int)==3)=false from rfl,show((4:Int)==4)=true from rfl,ah,af,qvi hv,ae]
end
theorem qxv {u:Nat}(h:u<2 ^ 63):Tot (fun k=>g74 k (u:Int)) (decS u):=by rw[← qvx];exact qsd (by omega) (by omega)
theorem qxO {d D:ByteArray}{q ten:Int}{r:ByteArray}(hr:Goes qw6 (.h1 q (D.size:Int) ten D) r):∀ (m i:Nat),D=zS (i+m)++d→D.size≤1000→Goes qw6 (.h1 q (D.size:Int) ten (zS i++d)) r
 |0,i,e,hs=>by rw[Nat.add_zero]at e;rw[← e];exact hr
 |m+1,i,e,hs=>by
  have ih:=qxO hr m (i+1) (by rw[e,show i+(m+1)=i+1+m by omega]) hs;have hz:D.size=i+(m+1)+d.size:=by rw[e,ByteArray.size_append,qvh]
  have hy:(zS i++d).size=i+d.size:=by rw[ByteArray.size_append,qvh]
  refine Goes.rec0 ih fun k rec=>?_;simp only[qw6,show decide (((zS i++d).size:Int)<(D.size:Int))=true from aO (by omega),ah,show decide ((strB [48]).size+(zS i++d).size≤1000000000)=true from aO (by rw[hy];show 1+(i+d.size)≤_;omega),ZW,qwz]
theorem qxP {q:Int}{n:Nat}{r:ByteArray}(hn:n≤15)(hr:Goes qw6 (.h0 q (n:Int) ((10 ^ n:Nat):Int) (n:Int)) r):∀ (m i:Nat),i+m=n→Goes qw6 (.h0 q (n:Int) ((10 ^ i:Nat):Int) (i:Int)) r
 |0,i,e=>by rw[Nat.add_zero]at e;subst e;exact hr
 |m+1,i,e=>by have ih:=qxP hn hr m (i+1) (by omega);have hp:=qyf (show i+1≤15 by omega);have hw:IntKind.i64.wrap (((10 ^ i:Nat):Int)*10)=((10 ^ (i+1):Nat):Int):=qes (by rw[Nat.pow_succ];omega) (by omega);refine Goes.rec0 ih fun k rec=>?_;simp only[qw6,ltT (show i<n by omega),ah,hw,zq i (by omega)]
section
variable {A B:ByteArray} (hA:∀ i,i<A.size→isDi (bAt A i)=true) (hB:∀ i,i<B.size→isDi (bAt B i)=true) (a1:1≤A.size) (b1:1≤B.size) (h0:1<A.size→bAt A 0≠48) (hv:dv (A++B).data.toList<2 ^ 63) (hsz:A.size+B.size≤900) (h15:B.size≤15)
include hA hB a1 b1 h0 hv hsz h15
theorem qx0:Tot (fun k=>g57 k (dv (A++B).data.toList:Int) (B.size:Int)) ((A++strB [46])++B):=by
 have hb:=qnu (qko hB);rw[qD]at hb;have hten:=qyf h15;have hpos:0<10 ^ B.size:=Nat.pow_pos (by omega);have hdv:dv (A++B).data.toList=dv A.data.toList*10 ^ B.size+dv B.data.toList:=by rw[YO,qx9,qD]
 have hmod:dv (A++B).data.toList % 10 ^ B.size=dv B.data.toList:=by rw[hdv,Nat.mul_add_mod_self_right,Nat.mod_eq_of_lt hb]
 have hdiv:dv (A++B).data.toList / 10 ^ B.size=dv A.data.toList:=by rw[hdv,Nat.mul_comm,Nat.mul_add_div hpos,Nat.div_eq_of_lt hb,Nat.add_zero]
 have e1:Int.tmod (dv (A++B).data.toList:Int) ((10 ^ B.size:Nat):Int)=(dv B.data.toList:Int):=by rw[← hmod];rfl
 have hle:dv A.data.toList≤dv (A++B).data.toList:=by rw[← hdiv];exact Nat.div_le_self _ _
 have e2:IntKind.i64.wrap (Int.tdiv (dv (A++B).data.toList:Int) ((10 ^ B.size:Nat):Int))=(dv A.data.toList:Int):=by
  have:Int.tdiv (dv (A++B).data.toList:Int) ((10 ^ B.size:Nat):Int)=(dv A.data.toList:Int):=by rw[← hdiv];rfl
  rw[this];exact wrapN (by omega)
 have z0:decide (((10 ^ B.size:Nat):Int)≠0)=true:=aO (by omega);have hfin:Goes qw6 (.h1 (dv (A++B).data.toList:Int) (B.size:Int) ((10 ^ B.size:Nat):Int) B) ((A++strB [46])++B):=by refine Goes.done (qxv (u:=dv A.data.toList) (by omega)) fun k rec e=>?_;rw[qvo a1 hA h0]at e;have z2:decide (A.size+(strB [46]).size≤1000000000)=true:=aO (by show A.size+1≤_;omega);have z4:decide ((A++strB [46]).size+B.size≤1000000000)=true:=aO (by rw[ByteArray.size_append];show A.size+1+B.size≤_;omega);simp only[qw6,ltF (Nat.lt_irrefl B.size),af,z0,ZW,e2,e,ae,z2,z4]
 obtain⟨j,hj⟩:=qvr (s:=B) b1 hB;have hp:=qxO (d:=decS (dv B.data.toList)) hfin j 0 (by rw[Nat.zero_add];exact hj) (by omega);rw[qwA]at hp;have h0':Goes qw6 (.h0 (dv (A++B).data.toList:Int) (B.size:Int) ((10 ^ B.size:Nat):Int) (B.size:Int)) ((A++strB [46])++B):=by refine Goes.call (qxv (u:=dv B.data.toList) (by omega)) hp fun k rec e=>?_;simp only[qw6,ltF (Nat.lt_irrefl B.size),af,z0,ZW,e1,e,ae]
 have hs:=qxP h15 h0' B.size 0 (by omega);exact Goes.rec0 (step:=qw6) (s:=.e (dv (A++B).data.toList:Int) (B.size:Int)) hs fun k rec=>rfl
end
noncomputable def rlT (n s:Int):ByteArray:=Classical.epsilon fun w=>Tot (fun k=>g57 k n s) w
theorem qxm {α:Type}{f:Nat→Option α}{a b:α}(h1:Tot f a)(h2:Tot f b):a=b:=by obtain⟨N,hN⟩:=h1;obtain⟨M,hM⟩:=h2;have:=(hN (max N M) (by omega)).symm.trans (hM (max N M) (by omega));exact aR this
theorem qxf {n s:Int}(h0:0≤n)(h1:n≤9223372036854775807)(h2:1≤s)(h3:s≤14):Tot (fun k=>g57 k n s) (rlT n s)∧(∀ t a,Tot (fun k=>g73 k 4 t n s a) (rlT n s))∧((rlT n s).size≤16→Own ⟨4,strB [],n,s⟩ (rlT n s)):=by
 obtain⟨u,rfl⟩:=Int.eq_ofNat_of_zero_le h0;obtain⟨v,rfl⟩:=Int.eq_ofNat_of_zero_le (by omega:0≤s);obtain⟨A,B,hA,hB,a1,hs,hz,hd,hAe⟩:=qxI u (s:=v) (by omega);subst hs;have hv:dv (A++B).data.toList<2 ^ 63:=by rw[hd];omega
 have hAs:A.size≤20:=by rw[hAe,qw7];have:=qxl 18 (u / 10 ^ B.size) (Nat.lt_of_le_of_lt (Nat.div_le_self _ _) (by omega));omega
 have p1:=qx0 hA hB a1 (by omega) hz hv (by omega) (by omega);have p2:=fun t a=>qx1 hA hB a1 (by omega) hz hv (by omega) t a;have p3:=fun h=>qx3 hA hB a1 (by omega) hz h;rw[hd]at p1 p2 p3;have e:rlT (u:Int) (B.size:Int)=(A++strB [46])++B:=qxm (Classical.epsilon_spec (p:=fun w=>Tot (fun k=>g57 k (u:Int) (B.size:Int)) w) ⟨_,p1⟩) p1;rw[e];refine⟨p1,p2,fun h=>p3 ?_⟩;simp only[ByteArray.size_append]at h;have:(strB [46]).size=1:=rfl;omega
end
end Ab
end Go.Proofs.YtfekohpjaafnhaaGreatDoor

/-
  Names and numbers, whatever they are.
-/
import Derived.Test.YtpdhhkfllkgahaaGreatDoorBeq
import Derived.KernelRfl
set_option linter.all false
namespace Go.Proofs.YtpdhhkfllkgahaaGreatDoor
namespace Ab
def qE9 (s:ByteArray):Bool:=(List.range s.size).all fun i=>isNm (bAt s i)
def gnB (s:ByteArray):Bool:=nmOk s&&qE9 s
theorem qEV (s:ByteArray):qE9 s=true↔∀ i,i<s.size→isNm (bAt s i)=true:=by unfold qE9;rw[List.all_eq_true];exact⟨fun h i hi=>h i (List.mem_range.2 hi),fun h i hi=>h i (List.mem_range.1 hi)⟩
theorem qFg (s:ByteArray):gnB s=true↔GN s:=by unfold gnB GN;rw[aC,qEV]
theorem qFI {s:ByteArray}(h:qE9 s=false):∃ i,i<s.size∧isNm (bAt s i)=false∧∀ j,j<i→isNm (bAt s j)=true:=by
 have he:=yQ (f:=isNm) (s:=s) (Nat.zero_le _);have hlt:stop isNm s 0<s.size:=by
  rcases Nat.lt_or_ge (stop isNm s 0) s.size with h'|h'
  · exact h'
  · have:qE9 s=true:=(qEV s).2 fun i hi=>Qj (f:=isNm) (Nat.zero_le _) (by omega);rw[this]at h;cases h
 exact⟨_,hlt,qeZ hlt,fun j hj=>Qj (Nat.zero_le _) hj⟩
theorem qFE {c:Int}(h:isNm c=false):Xa c=4:=by
 simp only[isNm,isLe,isDi,Bool.or_eq_false_iff,Bool.and_eq_false_iff,decide_eq_false_iff_not,beq_eq_false_iff_ne]at h;unfold Xa
 repeat' split
 all_goals omega
theorem qFm {c:Int}(h:128≤c):Xa c=4:=by
 unfold Xa
 repeat' split
 all_goals omega
theorem qE2 {s:ByteArray}{i:Nat}(hi:i<s.size)(hb:isNm (bAt s i)=false)(hn:∀ j,j<i→isNm (bAt s j)=true):∀ (n p:Nat),p≤i→s.size-p≤n→qaV s n p=false
 |0,p,h1,h2=>by omega
 |n+1,p,h1,h2=>by
  have hp:p<s.size:=by omega
  rcases Nat.lt_or_ge p i with hpi|hpi
  · have hd:=decode_at hp (qfa (hn p hpi));by_cases hx:Xa ((Utf8.decode s p).1:Int)=4∨(p=0∧Xa ((Utf8.decode s p).1:Int)>1)
    · exact qfP hp hx
    · rw[qcQ hp hx,hd];exact qE2 hi hb hn n (p+1) hpi (by omega)
  ·
   have:p=i:=by omega
   subst this;refine qfP hp (.inl ?_);by_cases ha:bAt s p<128
   · rw[decode_at hp ha];have:=qj3 s p;rw[show(((bAt s p).toNat:Nat):Int)=bAt s p by omega];exact qFE hb
   · have:=qja hp;exact qFm (by have:=(decode_high s p hp (by omega)).1;omega)
theorem qFp (s:ByteArray):qcL s=gnB s:=by
 unfold gnB;cases h:qE9 s with
 |true=>rw[Bool.and_true];exact qe0 ((qEV s).1 h)
 |false=>
  rw[Bool.and_false];obtain⟨i,h1,h2,h3⟩:=qFI h;unfold qcL;split
  · rfl
  · exact qE2 h1 h2 h3 _ 0 (Nat.zero_le _) (by omega)
theorem qFe (u:Nat):dv (Lib.decDigits u)=u:=by
 induction u using Nat.strongRecOn with
 |ind u ih=>
  by_cases h:u<10
  · rw[qqh h];show 10*0+dg8 _=u;unfold dg8;rw[UInt8.toNat_ofNat'];omega
  · rw[qrj h];show dvF 0 _=u;rw[qqG];have:=ih (u / 10) (by omega);unfold dv at this;rw[this];unfold dg8;rw[UInt8.toNat_ofNat'];omega
theorem qFn {u:Nat}(h:10≤u):(Lib.decDigits u).head?≠some 48:=by
 induction u using Nat.strongRecOn with
 |ind u ih=>
  rw[qrj (by omega),List.head?_append];by_cases h1:u / 10<10
  · rw[qqh h1];intro e;have e:some (UInt8.ofNat (48+u / 10))=some 48:=e;have:=congrArg UInt8.toNat (aR e)
    rw[UInt8.toNat_ofNat']at this;have h48:(48:UInt8).toNat=48:=rfl;omega
  · have:=ih (u / 10) (by omega) (by omega);cases hh:(Lib.decDigits (u / 10)).head? with
    |none=>rw[List.head?_eq_none_iff]at hh;exact absurd hh (qFu _)
    |some c=>rw[hh]at this;exact this
theorem qEZ:∀ (n u:Nat),u<10 ^ (n+1)→(Lib.decDigits u).length≤n+1
 |0,u,h=>by rw[qqh (by simpa using h)];exact Nat.le_refl _
 |n+1,u,h=>by
  by_cases hu:u<10
  · rw[qqh hu];simp
  · rw[qrj hu];have:=qEZ n (u / 10) (by rw[Nat.pow_succ]at h;omega);simp only[List.length_append,List.length_singleton];omega
theorem qES (u:Nat):(decS u).size=(Lib.decDigits u).length:=by rw[← qD];rfl
theorem qFh {s:ByteArray}(h:∀ c∈s.data.toList,isDg c):∀ i,i<s.size→isDi (bAt s i)=true:=by
 intro i hi;have hi':i<s.data.toList.length:=by rw[qD];exact hi
 have:=h _ (List.getElem_mem hi');unfold bAt;rw[List.getD_eq_getElem?_getD,ax hi',Option.getD_some];unfold isDg at this;unfold isDi;simp only[aC,aX];omega
theorem qFR (u:Nat):u<10 ^ (u+1):=Nat.lt_trans (Nat.lt_succ_self u) (Nat.lt_pow_self (by omega))
theorem qEY (u:Nat):∀ i,i<(decS u).size→isDi (bAt (decS u) i)=true:=qFh (qEU u u (qFR u))
theorem qE5 (u:Nat):1≤(decS u).size:=by
 rw[qES];have:=qFu u;cases h:Lib.decDigits u with
 |nil=>exact absurd h this
 |cons a l=>simp
theorem qE1 (u:Nat)(h:1<(decS u).size):bAt (decS u) 0≠48:=by
 have h10:10≤u:=by
  rcases Nat.lt_or_ge u 10 with h'|h'
  · rw[qES,qqh h']at h;simp at h
  · exact h'
 intro e;refine qFn h10 ?_;have:=qqS (s:=decS u) (by omega);rw[e]at this;exact this
theorem qFv {c:Int}(h:isDi c=true):isLe c=false∧c≠46:=by simp only[isDi,aC,aX]at h;simp only[isLe,Bool.or_eq_false_iff,Bool.and_eq_false_iff,decide_eq_false_iff_not];omega
theorem qFB {v:Nat}(hv:v<2 ^ 63):Own ⟨3,strB [],(v:Int),0⟩ (decS v):=by
 have hd:=qEY v;have hp:=qE5 v;have hl:(decS v).size≤4000:=by rw[qES];have:=qEZ 18 v (by omega);omega
 have hs:stop isDi (decS v) 0=(decS v).size:=qeN (Nat.zero_le _) (Nat.le_refl _) (fun i _ h=>hd i h) (fun h=>by omega);have hx:(decS v).extract 0 (decS v).size=decS v:=by refine qcK (size_ext _ _ _ (Nat.le_refl _)) fun i hi=>?_;rw[size_ext _ _ _ (Nat.le_refl _)]at hi;rw[Qz (Nat.le_refl _) hi,Nat.zero_add]
 refine⟨decS v,0,hl,hp,?_,by rw[Nat.zero_add];exact hx⟩;unfold tok;rw[(qFv (hd 0 hp)).1,hd 0 hp];simp only[aT,if_false,if_true];unfold Zt;have hb:behN (decS v) (decS v).size=0:=by unfold behN;rw[aF (by omega)]
 have hdv:dv (decS v).data.toList=v:=qFe v;rw[hs,hb,hx,aF (fun h=>qE1 v (by omega) h.2),aD rfl,hdv,aD hv,Nat.zero_add]
section
variable {A B:ByteArray} (hA:∀ i,i<A.size→isDi (bAt A i)=true) (hB:∀ i,i<B.size→isDi (bAt B i)=true) (a1:1≤A.size) (b1:1≤B.size) (h0:1<A.size→bAt A 0≠48)
include hA hB a1 b1 h0
theorem qFq (h15:A.size+B.size≤15):Own ⟨4,strB [],(dv (A++B).data.toList:Int),(B.size:Int)⟩ ((A++strB [46])++B):=by
 have hsz:((A++strB [46])++B).size=A.size+1+B.size:=by simp only[ByteArray.size_append];rfl
 have bA:∀ i,i<A.size→bAt ((A++strB [46])++B) i=bAt A i:=fun i hi=>by rw[qcP,aD (by rw[ByteArray.size_append];omega),qcP,aD hi]
 have bP:bAt ((A++strB [46])++B) A.size=46:=by rw[qcP,aD (by rw[ByteArray.size_append];show A.size<A.size+1;omega),qcP,aF (Nat.lt_irrefl _),Nat.sub_self];rfl
 have bB:∀ i,i<B.size→bAt ((A++strB [46])++B) (A.size+1+i)=bAt B i:=fun i hi=>by
  have:(A++strB [46]).size=A.size+1:=by rw[ByteArray.size_append];rfl
  rw[qcP,aF (by omega),this];congr 1;omega
 generalize (A++strB [46])++B=w at hsz bA bP bB;have hs:stop isDi w 0=A.size:=qeN (Nat.zero_le _) (by omega) (fun i _ h=>by rw[bA i h];exact hA i h) (fun _=>by rw[bP];rfl);have hb:behN w A.size=B.size:=by
  unfold behN;rw[aD ⟨by omega,bP⟩,qeN (e:=w.size) (by omega) (Nat.le_refl _) (fun i h1 h2=>by
   obtain⟨j,rfl⟩:∃ j,i=A.size+1+j:=⟨i-(A.size+1),by omega⟩
   rw[bB j (by omega)];exact hB j (by omega)) (fun h=>by omega)]
  omega
 have xA:w.extract 0 A.size=A:=qcK (size_ext _ _ _ (by omega)) fun i hi=>by rw[size_ext _ _ _ (by omega)]at hi;rw[Qz (by omega) hi,Nat.zero_add,bA i (by omega)]
 have xB:w.extract (A.size+1) (A.size+1+B.size)=B:=qcK (by rw[size_ext _ _ _ (by omega)];omega) fun i hi=>by rw[size_ext _ _ _ (by omega)]at hi;rw[Qz (by omega) hi,bB i (by omega)]
 have xw:w.extract 0 w.size=w:=qcK (size_ext _ _ _ (Nat.le_refl _)) fun i hi=>by rw[size_ext _ _ _ (Nat.le_refl _)]at hi;rw[Qz (Nat.le_refl _) hi,Nat.zero_add]
 refine⟨w,0,by omega,by omega,?_,by rw[Nat.zero_add];exact xw⟩;unfold tok;have d0:=hA 0 a1;rw[← bA 0 a1]at d0;rw[(qFv d0).1,d0];simp only[aT,if_false,if_true];unfold Zt;rw[hs,hb,xA,xB,aF (fun h=>h0 (by omega) (by rw[← bA 0 a1];exact h.2)),aF (by omega),aF (by omega)];congr 2;omega
end
theorem qFb (n:Nat){s:Nat}(hs:1≤s):∃ A B:ByteArray,(∀ i,i<A.size→isDi (bAt A i)=true)∧(∀ i,i<B.size→isDi (bAt B i)=true)∧1≤A.size∧B.size=s∧(1<A.size→bAt A 0≠48)∧dv (A++B).data.toList=n∧A=decS (n / 10 ^ s):=by
 obtain⟨m,rfl⟩:∃ m,s=m+1:=⟨s-1,by omega⟩
 have hpos:0<10 ^ (m+1):=Nat.pow_pos (by omega);have hlt:=Nat.mod_lt n hpos;have hl:=qEZ m _ hlt;rw[← qES]at hl;have hz:∀ j,∀ c∈(zS j).data.toList,isDg c:=fun j c hc=>by have:c∈List.replicate j (48:UInt8):=hc;rw[List.eq_of_mem_replicate this];exact⟨by decide,by decide⟩
 have hB:∀ i,i<(zS (m+1-(decS (n % 10 ^ (m+1))).size)++decS (n % 10 ^ (m+1))).size→isDi (bAt (zS (m+1-(decS (n % 10 ^ (m+1))).size)++decS (n % 10 ^ (m+1))) i)=true:=qlo (qFh (hz _)) (qEY _);have hBs:(zS (m+1-(decS (n % 10 ^ (m+1))).size)++decS (n % 10 ^ (m+1))).size=m+1:=by rw[ByteArray.size_append,qBo];omega
 have z0:∀ j (l:List UInt8),dv (List.replicate j 48++l)=dv l:=fun j l=>by
  induction j with
  |zero=>rfl
  |succ j ih=>rw[List.replicate_succ,List.cons_append,qDs,ih]
 refine⟨decS (n / 10 ^ (m+1)),_,qEY _,hB,qE5 _,hBs,qE1 _,?_,rfl⟩;rw[YO,qFL,qD,hBs,YO];have e1:dv (decS (n / 10 ^ (m+1))).data.toList=n / 10 ^ (m+1):=qFe _;have e2:dv ((zS (m+1-(decS (n % 10 ^ (m+1))).size)).data.toList++(decS (n % 10 ^ (m+1))).data.toList)=n % 10 ^ (m+1):=(z0 _ _).trans (qFe _);rw[e1,e2,Nat.mul_comm];exact Nat.div_add_mod n _
section
variable [vo]
theorem qGa (s:ByteArray):YF s=some (gnB s):=congrArg some (qFp s)
section
variable {A B:ByteArray} (hA:∀ i,i<A.size→isDi (bAt A i)=true) (hB:∀ i,i<B.size→isDi (bAt B i)=true) (a1:1≤A.size) (b1:1≤B.size) (h0:1<A.size→bAt A 0≠48) (hv:dv (A++B).data.toList<2 ^ 63) (hsz:A.size+B.size≤900)
include hA hB a1 b1 h0 hv hsz
theorem qFo (text:ByteArray)(a:Int):Tot (fun k=>g53 k 4 text (dv (A++B).data.toList:Int) (B.size:Int) a) ((A++strB [46])++B):=by
 have hD:(A++B).size=A.size+B.size:=ByteArray.size_append;obtain⟨j,hj⟩:=qBN (s:=A++B) (by omega) (qlo hA hB);have hj0:j=0∨(A++B).size=B.size+1:=by
  by_cases hA1:A.size=1
  · right;omega
  · left;have hb0:bAt (A++B) 0≠48:=by rw[qcP,aD (by omega)];exact h0 (by omega)
    have ho:=qBG (s:=A++B) (by omega) (qlo hA hB) (fun _=>hb0);rw[ho]at hj;have:=congrArg ByteArray.size hj;rw[show(zS j++(A++B)).size=j+(A++B).size by rw[ByteArray.size_append,qBo]]at this;omega
 have hfin:Goes qst (.h1 (A++B) false 4 text (dv (A++B).data.toList:Int) (B.size:Int) a) ((A++strB [46])++B):=by refine .fin0 fun k rec=>?_;have e1:IntKind.i64.wrap (((A++B).size:Int)-(B.size:Int))=(A.size:Int):=qes (by omega) (by omega);obtain⟨x1,x2⟩:=qCz A B;have z1:decide (0≤(0:Int)∧(0:Int)≤(A.size:Int)∧(A.size:Int)≤((A++B).size:Int))=true:=aO (by omega);have z2:decide (A.size+(strB [46]).size≤1000000000)=true:=aO (by show A.size+1≤_;omega);have z3:decide (0≤(A.size:Int)∧(A.size:Int)≤((A++B).size:Int)∧((A++B).size:Int)≤((A++B).size:Int))=true:=aO (by omega);have z4:decide ((A++strB [46]).size+B.size≤1000000000)=true:=aO (by rw[ByteArray.size_append];show A.size+1+B.size≤_;omega);simp only[qst,af,e1,z1,ZW,show Int.toNat (0:Int)=0 from rfl,Int.toNat_natCast,x1,x2,z2,z3,z4]
 have hp:=qB5 (d:=decS (dv (A++B).data.toList)) hfin (by omega) j 0 (by rw[Nat.zero_add];exact hj) hj0 (by omega);rw[qDU]at hp;refine Goes.rec0 (step:=qst) (s:=.e 4 text (dv (A++B).data.toList:Int) (B.size:Int) a) hp fun k rec=>?_;simp only[qst,show((4:Int)==3)=false from rfl,show((4:Int)==4)=true from rfl,ah,af,qAP hv,ae]
end
noncomputable def rlT (n s:Int):ByteArray:=Classical.epsilon fun w=>Tot (fun k=>g53 k 4 (strB []) n s 0) w
theorem qFr {α:Type}{f:Nat→Option α}{a b:α}(h1:Tot f a)(h2:Tot f b):a=b:=by obtain⟨N,hN⟩:=h1;obtain⟨M,hM⟩:=h2;have:=(hN (max N M) (by omega)).symm.trans (hM (max N M) (by omega));exact aR this
theorem qE7 {n s:Int}(h0:0≤n)(h1:n≤9223372036854775807)(h2:1≤s)(h3:s≤14):(∀ t a,Tot (fun k=>g53 k 4 t n s a) (rlT n s))∧((rlT n s).size≤16→Own ⟨4,strB [],n,s⟩ (rlT n s)):=by
 obtain⟨u,rfl⟩:=Int.eq_ofNat_of_zero_le h0;obtain⟨v,rfl⟩:=Int.eq_ofNat_of_zero_le (by omega:0≤s);obtain⟨A,B,hA,hB,a1,hs,hz,hd,hAe⟩:=qFb u (s:=v) (by omega);subst hs;have hv:dv (A++B).data.toList<2 ^ 63:=by rw[hd];omega
 have hAs:A.size≤20:=by rw[hAe,qES];have:=qEZ 18 (u / 10 ^ B.size) (Nat.lt_of_le_of_lt (Nat.div_le_self _ _) (by omega));omega
 have p2:=fun t a=>qFo hA hB a1 (by omega) hz hv (by omega) t a;have p3:=fun h=>qFq hA hB a1 (by omega) hz h;rw[hd]at p2 p3;have e:rlT (u:Int) (B.size:Int)=(A++strB [46])++B:=qFr (Classical.epsilon_spec (p:=fun w=>Tot (fun k=>g53 k 4 (strB []) (u:Int) (B.size:Int) 0) w) ⟨_,p2 _ _⟩) (p2 _ _);rw[e];refine⟨p2,fun h=>p3 ?_⟩;simp only[ByteArray.size_append]at h;have:(strB [46]).size=1:=rfl;omega
end
end Ab
end Go.Proofs.YtpdhhkfllkgahaaGreatDoor

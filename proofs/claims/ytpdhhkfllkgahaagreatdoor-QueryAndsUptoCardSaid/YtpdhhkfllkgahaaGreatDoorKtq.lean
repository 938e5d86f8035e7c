/-
  The bytes of tokens, and what Spell tells of them.
-/
import Derived.Test.YtpdhhkfllkgahaaGreatDoorKsq
set_option linter.all false
namespace Go.Proofs.YtpdhhkfllkgahaaGreatDoor
namespace Ab
theorem qEW:∀ (l:List UInt8) (x:Nat),dvF x l=x*10 ^ l.length+dvF 0 l
 |[],x=>by show x=x*10 ^ 0+0;rw[Nat.pow_zero];omega
 |c::l,x=>by rw[qi1,qi1,qEW l (10*x+dg8 c),qEW l (10*0+dg8 c),List.length_cons,Nat.pow_succ];generalize 10 ^ l.length=z;rw[Nat.add_mul,Nat.add_mul,Nat.mul_comm 10 x,Nat.mul_assoc,Nat.mul_comm 10 z];omega
theorem qFL (a b:List UInt8):dv (a++b)=dv a*10 ^ b.length+dv b:=by unfold dv;rw[← qEW b (dvF 0 a)];unfold dvF;rw[List.foldl_append]
theorem qDs (l:List UInt8):dv (48::l)=dv l:=by unfold dv;rw[qi1];rfl
theorem qAD:∀ (n:Nat) (l:List UInt8),l.length=n+1→(∀ c∈l,isDg c)→∃ j,l=List.replicate j 48++Lib.decDigits (dv l)
 |0,l,hl,h=>⟨0,by rw[qr6 0 l hl h (fun x=>by omega)];rfl⟩
 |n+1,l,hl,h=>by
  by_cases h0:l.head? = some 48
  ·
   match l,h0 with
   |c::r,h0=>
    have hc:c=48:=by simpa using h0
    subst hc;obtain⟨j,hj⟩:=qAD n r (by simpa using hl) (fun c hc=>h c (aB _ hc));refine⟨j+1,?_⟩;rw[qDs,List.replicate_succ,List.cons_append,← hj]
  · exact⟨0,by rw[qr6 (n+1) l hl h (fun _=>h0)];rfl⟩
def zS (j:Nat):ByteArray:=⟨(List.replicate j 48).toArray⟩
theorem qBo (j:Nat):(zS j).size=j:=by rw[← qD];show(List.replicate j (48:UInt8)).toArray.toList.length=j;simp
theorem qDU (d:ByteArray):zS 0++d=d:=by apply qo2;rw[YO];rfl
theorem qDT (j:Nat)(d:ByteArray):strB [48]++(zS j++d)=zS (j+1)++d:=by apply qo2;rw[YO,YO,YO];show [48]++((List.replicate j (48:UInt8)).toArray.toList++_)=(List.replicate (j+1) (48:UInt8)).toArray.toList++_;rw[List.replicate_succ];rfl
theorem qBN {s:ByteArray}(h1:1≤s.size)(h:∀ i,i<s.size→isDi (bAt s i)=true):∃ j,s=zS j++decS (dv s.data.toList):=by obtain⟨j,hj⟩:=qAD (s.size-1) s.data.toList (by rw[qD];omega) (qko h);refine⟨j,qo2 ?_⟩;rw[YO];exact hj
theorem qBG {s:ByteArray}(h1:1≤s.size)(h:∀ i,i<s.size→isDi (bAt s i)=true)(h0:1<s.size→bAt s 0≠48):decS (dv s.data.toList)=s:=by apply qo2;exact qr6 (s.size-1) s.data.toList (by rw[qD];omega) (qko h) (fun x=>qrt h1 (h0 (by rwa [qD]at x)))
theorem qCd (u:Nat):qra (u:Int)=decS u:=by apply qo2;show(Lib.itoa (u:Int)).toArray.toList=(Lib.decDigits u).toArray.toList;unfold Lib.itoa;rw[aF (by omega)];rfl
theorem qAP [qjw]{u:Nat}(h:u<2 ^ 63):fmtX (u:Int)=some (decS u):=by unfold fmtX;rw[aD (by omega),← qCd];rfl
theorem qAN (s:ByteArray){a b c:Nat}(h1:a≤b)(h2:b≤c)(h3:c≤s.size):s.extract a b++s.extract b c=s.extract a c:=by
 refine qcK (by rw[ByteArray.size_append,size_ext _ _ _ (by omega),size_ext _ _ _ h3,size_ext _ _ _ h3];omega) fun i hi=>?_;rw[ByteArray.size_append,size_ext _ _ _ (by omega),size_ext _ _ _ h3]at hi;rw[Qz h3 (by omega)];have hsz:=size_ext s a b (by omega);unfold bAt;rw[YO,List.getD_eq_getElem?_getD];by_cases h:i<b-a
 · rw[aY (by rw[qD,hsz];exact h)];have:=Qz (s:=s) (a:=a) (b:=b) (i:=i) (by omega) h;unfold bAt at this;rwa [List.getD_eq_getElem?_getD]at this
 · rw[aZ (by rw[qD,hsz];omega),qD,hsz];have:=Qz (s:=s) (a:=b) (b:=c) (i:=i-(b-a)) h3 (by omega);unfold bAt at this;rw[List.getD_eq_getElem?_getD]at this;rw[this,show b+(i-(b-a))=a+i by omega]
theorem qBl {s:ByteArray}{p:Nat}(hp:p<s.size){c:Nat}(hc:c<256)(h:bAt s p=(c:Int)):s.extract p (p+1)=⟨#[UInt8.ofNat c]⟩:=by
 refine qcK (by rw[size_ext _ _ _ (by omega)];show p+1-p=1;omega) fun i hi=>?_;rw[size_ext _ _ _ (by omega)]at hi;obtain rfl:i=0:=by omega
 rw[Qz (by omega) (by omega),Nat.add_zero,h];show _=(((UInt8.ofNat c).toNat:Nat):Int)
 rw[UInt8.toNat_ofNat',Nat.mod_eq_of_lt (by omega)]
theorem qCz (a b:ByteArray):(a++b).extract 0 a.size=a∧(a++b).extract a.size (a++b).size=b:=by
 have hs:(a++b).size=a.size+b.size:=ByteArray.size_append;have hx:∀ i,bAt (a++b) i=if i<a.size then bAt a i else bAt b (i-a.size):=by
  intro i;unfold bAt;rw[YO,List.getD_eq_getElem?_getD];split
  · rename_i h;rw[aY (by rw[qD];exact h),List.getD_eq_getElem?_getD]
  · rename_i h;rw[aZ (by rw[qD];omega),qD,List.getD_eq_getElem?_getD]
 constructor
 · refine qcK (by rw[size_ext _ _ _ (by omega)];omega) fun i hi=>?_;rw[size_ext _ _ _ (by omega)]at hi;rw[Qz (by omega) (by omega),hx,aD (by omega),Nat.zero_add]
 · refine qcK (by rw[size_ext _ _ _ (Nat.le_refl _)];omega) fun i hi=>?_;rw[size_ext _ _ _ (Nat.le_refl _)]at hi;rw[Qz (Nat.le_refl _) (by omega),hx,aF (by omega),show a.size+i-a.size=i by omega]
def Spelt (t:Tk)(w:ByteArray):Prop:=
 ((t.kind=1∨t.kind=2∨t.kind=6)∧t.text=w) ∨
 (t.kind=5∧(strB [39]++t.text)++strB [39]=w∧t.text.size≤4000) ∨
 (t.kind=3∧∃ v:Nat,v<2 ^ 63∧t.n=(v:Int)∧decS v=w) ∨
 (t.kind=4∧∃ A B:ByteArray,(∀ i,i<A.size→isDi (bAt A i)=true)∧(∀ i,i<B.size→isDi (bAt B i)=true)∧1≤A.size∧1≤B.size∧A.size+B.size≤15∧(1<A.size→bAt A 0≠48) ∧
  t.n=(dv (A++B).data.toList:Int)∧t.scale=(B.size:Int)∧(A++strB [46])++B=w)
theorem qBd {s:ByteArray}{p:Nat}(hs:s.size≤4000)(hp:p<s.size){t:Tk}{e:Nat}(h:tok s p=some (t,e)):Spelt t (s.extract p e):=by
 unfold tok at h;split at h
 ·
  unfold qd6 at h;split at h
  · cases h;exact .inl ⟨.inl rfl,rfl⟩
  · split at h
    · cases h;exact .inl ⟨.inr (.inl rfl),rfl⟩
    · cases h
 ·
  split at h
  ·
   rename_i hd;have h1:=qgP hp hd;have h2:=yQ (f:=isDi) (Nat.le_of_lt hp);have h3:=qhx h2;have hA:=qkR s p (Nat.le_of_lt hp);have hB:=qkO h2;have hAs:=size_ext s p (stop isDi s p) h2;have h0:(s.extract p (stop isDi s p)).size=stop isDi s p-p:=hAs;unfold Zt at h;split at h
   · cases h
   ·
    rename_i hz;have hz':1<(s.extract p (stop isDi s p)).size→bAt (s.extract p (stop isDi s p)) 0≠48:=by intro x;rw[Qz h2 (by omega),Nat.add_zero];exact fun y=>hz ⟨by omega,y⟩
    split at h
    · split at h
      · rename_i hv;cases h;exact .inr (.inr (.inl ⟨rfl,_,hv,rfl,qBG (by omega) hA hz'⟩))
      · cases h
    ·
     rename_i hm;split at h
     · cases h
     ·
      rename_i h15;cases h;have h4:stop isDi s p+1+behN s (stop isDi s p)≤s.size:=by omega
      have hBs:=size_ext s (stop isDi s p+1) (stop isDi s p+1+behN s (stop isDi s p)) h4;have h46:stop isDi s p<s.size∧bAt s (stop isDi s p)=46:=by
       by_cases hc:stop isDi s p<s.size∧bAt s (stop isDi s p)=46
       · exact hc
       · exact absurd (by unfold behN;rw[aF hc]) hm
      refine .inr (.inr (.inr ⟨rfl,_,_,hA,hB,by omega,by omega,by omega,hz',rfl,?_,?_⟩))
      · show(behN s (stop isDi s p):Int)=_;rw[hBs];omega
      · rw[show strB [46]=s.extract (stop isDi s p) (stop isDi s p+1)from(qBl (c:=46) h46.1 (by omega) h46.2).symm,qAN s (by omega) (by omega) (by omega),qAN s (by omega) (by omega) h4]
  ·
   split at h
   ·
    rename_i h39;unfold qdt at h;split at h
    · rename_i hh;cases h;have hg:=zC isNm s (p+1);refine .inr (.inl ⟨rfl,?_,?_⟩)
      · show(strB [39]++s.extract (p+1) (stop isNm s (p+1)))++strB [39]=_;have e1:strB [39]=s.extract p (p+1):=(qBl (c:=39) hp (by omega) h39).symm;have e2:strB [39]=s.extract (stop isNm s (p+1)) (stop isNm s (p+1)+1):=(qBl (c:=39) hh.2.1 (by omega) hh.2.2).symm;have e3:(strB [39]++s.extract (p+1) (stop isNm s (p+1)))++strB [39]=(s.extract p (p+1)++s.extract (p+1) (stop isNm s (p+1)))++s.extract (stop isNm s (p+1)) (stop isNm s (p+1)+1):=by rw[← e1,← e2]
        rw[e3,qAN s (by omega) hg (by omega),qAN s (by omega) (by omega) (by omega)]
      · show(s.extract (p+1) (stop isNm s (p+1))).size≤4000;rw[size_ext _ _ _ (by omega)];omega
    · cases h
   · unfold qav at h;split at h
     · cases h
     · cases h;exact .inl ⟨.inr (.inr rfl),rfl⟩
section
variable [vo]
theorem dv15 {A B:ByteArray}(hA:∀ i,i<A.size→isDi (bAt A i)=true)(hB:∀ i,i<B.size→isDi (bAt B i)=true)(h:A.size+B.size≤15):dv (A++B).data.toList<10 ^ 15:=by have h1:=qnu (qko (qlo hA hB));rw[qD,ByteArray.size_append]at h1;exact Nat.lt_of_lt_of_le h1 (Nat.pow_le_pow_right (by omega) h)
theorem qB5 {d D:ByteArray}{a c:Int}{b:ByteArray}{n:Nat}{k0:Int}{r:ByteArray}(hr:Goes qst (.h1 D false k0 b a (n:Int) c) r)(hn:n<D.size):∀ (m i:Nat),D=zS (i+m)++d→(m=0∨D.size=n+1)→D.size≤1000→Goes qst (.h0 (zS i++d) k0 b a (n:Int) c) r
 |0,i,e,hm,hs=>by rw[Nat.add_zero]at e;rw[← e];refine Goes.rec0 hr fun k rec=>?_;simp only[qst,show decide ((D.size:Int)≤(n:Int))=false from aN (by omega),show decide ((n:Int)<0)=false from aN (by omega),af,show decide ((D.size:Int)<(n:Int))=false from aN (by omega)]
 |m+1,i,e,hm,hs=>by
  have ih:=qB5 hr hn m (i+1) (by rw[e,show i+(m+1)=i+1+m by omega]) (.inr (by omega)) hs;have hz:D.size=i+(m+1)+d.size:=by rw[e,ByteArray.size_append,qBo]
  have hy:(zS i++d).size=i+d.size:=by rw[ByteArray.size_append,qBo]
  refine Goes.rec0 ih fun k rec=>?_;simp only[qst,show decide (((zS i++d).size:Int)≤(n:Int))=true from aO (by omega),ah,show decide ((strB [48]).size+(zS i++d).size≤1000000000)=true from aO (by rw[hy];show 1+(i+d.size)≤_;omega),ZW,qDT]
theorem qB4 {t:Tk}{w:ByteArray}(h:Spelt t w)(hw:w.size≤4000)(a:Int):Tot (fun k=>g53 k t.kind t.text t.n t.scale a) w:=by
 obtain⟨kind,text,n,scale⟩:=t;rcases h with⟨hk,ht⟩|⟨hk,ht,hs⟩|⟨hk,v,hv,hn,ht⟩|⟨hk,A,B,hA,hB,a1,b1,h15,h0,hn,hsc,ht⟩
 · simp only at hk ht;subst ht;refine Goes.fin0 (step:=qst) (s:=.e kind text n scale a) fun k rec=>?_;rcases hk with rfl|rfl|rfl<;>rfl
 · simp only at hk ht hs;subst hk;refine Goes.fin0 (step:=qst) (s:=.e 5 text n scale a) fun k rec=>?_;have z1:decide ((strB [39]).size+text.size≤1000000000)=true:=aO (by show 1+text.size≤_;omega);have z2:decide ((strB [39]++text).size+(strB [39]).size≤1000000000)=true:=aO (by rw[ByteArray.size_append];show 1+text.size+1≤_;omega);simp only[qst,show((5:Int)==3)=false from rfl,show((5:Int)==4)=false from rfl,show((5:Int)==5)=true from rfl,af,ah,z1,z2,ZW,ht]
 · simp only at hk ht hn;subst hk;subst hn;refine Goes.fin0 (step:=qst) (s:=.e 3 text (v:Int) scale a) fun k rec=>?_;simp only[qst,show((3:Int)==3)=true from rfl,ah,qAP hv,ae,ht]
 ·
  simp only at hk ht hn hsc;subst hk;subst hn;subst hsc;have hD:(A++B).size=A.size+B.size:=ByteArray.size_append;have hv:dv (A++B).data.toList<2 ^ 63:=Nat.lt_trans (dv15 hA hB h15) (by omega);obtain⟨j,hj⟩:=qBN (s:=A++B) (by omega) (qlo hA hB);have hj0:j=0∨(A++B).size=B.size+1:=by
   by_cases hA1:A.size=1
   · right;omega
   · left;have hb0:bAt (A++B) 0≠48:=by have:=h0 (by omega);unfold bAt at this ⊢;rw[YO,List.getD_eq_getElem?_getD,aY (by rw[qD];omega),← List.getD_eq_getElem?_getD];exact this
     have ho:=qBG (s:=A++B) (by omega) (qlo hA hB) (fun _=>hb0);rw[ho]at hj;have:=congrArg ByteArray.size hj;rw[show(zS j++(A++B)).size=j+(A++B).size by rw[ByteArray.size_append,qBo]]at this;omega
  have hfin:Goes qst (.h1 (A++B) false 4 text (dv (A++B).data.toList:Int) (B.size:Int) a) w:=by refine .fin0 fun k rec=>?_;have e1:IntKind.i64.wrap (((A++B).size:Int)-(B.size:Int))=(A.size:Int):=qes (by omega) (by omega);obtain⟨x1,x2⟩:=qCz A B;have z1:decide (0≤(0:Int)∧(0:Int)≤(A.size:Int)∧(A.size:Int)≤((A++B).size:Int))=true:=aO (by omega);have z2:decide (A.size+(strB [46]).size≤1000000000)=true:=aO (by show A.size+1≤_;omega);have z3:decide (0≤(A.size:Int)∧(A.size:Int)≤((A++B).size:Int)∧((A++B).size:Int)≤((A++B).size:Int))=true:=aO (by omega);have z4:decide ((A++strB [46]).size+B.size≤1000000000)=true:=aO (by rw[ByteArray.size_append];show A.size+1+B.size≤_;omega);simp only[qst,af,e1,z1,ZW,show Int.toNat (0:Int)=0 from rfl,Int.toNat_natCast,x1,x2,z2,z3,z4,ht]
  have hp:=qB5 (d:=decS (dv (A++B).data.toList)) hfin (by omega) j 0 (by rw[Nat.zero_add];exact hj) hj0 (by omega);rw[qDU]at hp;refine Goes.rec0 (step:=qst) (s:=.e 4 text (dv (A++B).data.toList:Int) (B.size:Int) a) hp fun k rec=>?_;simp only[qst,show((4:Int)==3)=false from rfl,show((4:Int)==4)=true from rfl,ah,af,qAP hv,ae]
end
end Ab
end Go.Proofs.YtpdhhkfllkgahaaGreatDoor

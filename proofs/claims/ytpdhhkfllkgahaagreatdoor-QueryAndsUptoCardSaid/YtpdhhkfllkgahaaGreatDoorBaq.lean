/-
  A tree's text, its nest and its tokens, as plain functions; and that the text is read as these tokens.
-/
import Derived.Test.YtpdhhkfllkgahaaGreatDoorPgq
import Derived.Test.YtpdhhkfllkgahaaGreatDoorKtq
set_option linter.all false
namespace Go.Proofs.YtpdhhkfllkgahaaGreatDoor
namespace Ab
def lev (op:Int):Nat:=if op=14 then 0 else if op=13 then 1 else if op=15 then 2 else if 7≤op∧op≤12 then 3 else if op=1∨op=2 then 4 else if 3≤op∧op≤5 then 5 else if op=6 then 6 else 7
def lsL (op:Int):Nat:=if op=14 then 0 else if op=13 then 1 else if op=15 then 2 else if 7≤op∧op≤12 then 4 else if op=1∨op=2 then 4 else if 3≤op∧op≤5 then 5 else if op=6 then 6 else 0
def lsR (op:Int):Nat:=if op=14 then 1 else if op=13 then 2 else if op=15 then 2 else if 7≤op∧op≤12 then 4 else if op=1∨op=2 then 5 else if 3≤op∧op≤5 then 6 else if op=6 then 6 else 0
def sgL:List ByteArray:=[strB [],strB [43],strB [45],strB [42],strB [47],strB [37],strB [45],strB [61],strB [33,61],strB [60],strB [60,61],strB [62],strB [62,61],strB [65,78,68],strB [79,82],strB [78,79,84,32],strB [82,69,65,76],strB [73,83,78,65,78]]
def sgA (op:Int):ByteArray:=(sgL[op.toNat]?).getD (strB [])
def wk (s:ByteArray):Tk:=⟨1,s,0,0⟩
def nk (s:ByteArray):Tk:=⟨2,s,0,0⟩
def yk (s:ByteArray):Tk:=⟨6,s,0,0⟩
def lp:Tk:=yk (strB [40])
def rp:Tk:=yk (strB [41])
def pt:Tk:=yk (strB [46])
def qBO:ByteArray:=strB [84,73,77,69]
def opk (op:Int):Tk:=if op=15 then wk (strB [78,79,84])else if op=13∨op=14∨op=16∨op=17 then wk (sgA op)else yk (sgA op)
def Own (t:Tk)(w:ByteArray):Prop:=∃ (s:ByteArray) (p:Nat),s.size≤4000∧p<s.size∧tok s p=some (t,p+w.size)∧s.extract p (p+w.size)=w
noncomputable def spW (t:Tk):ByteArray:=Classical.epsilon (Own t)
theorem qAr {t:Tk}(h:∃ w,Own t w):Own t (spW t):=Classical.epsilon_spec h
theorem Own.size {t:Tk}{w:ByteArray}(h:Own t w):0<w.size∧w.size≤4000:=by obtain⟨s,p,h1,h2,h3,h4⟩:=h;have:=qeR h2 h3;omega
def atk (b:ByteArray):Tk:=if b.toList=qBO.toList then wk qBO else nk b
def agA (op:Int):ByteArray:=(agN[(op-25).toNat]?).getD (strB [])
noncomputable def lfT (op n s:Int)(a b:ByteArray):ByteArray:=
 if op=20 then spW ⟨3,strB [],n,0⟩else if op=21 then spW ⟨4,strB [],n,s⟩
 else if op=22 then(if n=0 then strB [70,65,76,83,69]else strB [84,82,85,69])
 else if op=23 then(strB [39]++a)++strB [39]
 else if op=24 then(a++strB [46])++b
 else if op=25 then(strB [67,79,85,78,84,40]++a)++strB [41]
 else((((agA op++strB [40])++a)++strB [46])++b)++strB [41]
def lfK (op n s:Int)(a b:ByteArray):List Tk:=
 if op=20 then [⟨3,strB [],n,0⟩]else if op=21 then [⟨4,strB [],n,s⟩]
 else if op=22 then [wk (if n=0 then strB [70,65,76,83,69]else strB [84,82,85,69])]
 else if op=23 then [⟨5,a,0,0⟩]
 else if op=24 then [nk a,pt,atk b]
 else if op=25 then [wk (strB [67,79,85,78,84]),lp,nk a,rp]
 else [wk (agA op),lp,nk a,pt,atk b,rp]
abbrev Pr:=ByteArray×Nat×List Tk
def opr (l:Nat)(x:Int×Pr):Pr:=if lev x.1<l then((strB [40]++x.2.1)++strB [41],x.2.2.1+1,lp::x.2.2.2++[rp])else x.2
mutual
noncomputable def pr:Ex→Pr
 |.mk op args n s a b _=>match prs args with
  |[x]=>let y:=opr (lsL op) x
   if op=16∨op=17 then(sgA op++((strB [40]++y.1)++strB [41]),y.2.1+1,opk op::lp::y.2.2++[rp])else(sgA op++y.1,y.2.1+1,opk op::y.2.2)
  |[x,z]=>let y:=opr (lsL op) x
   let w:=opr (lsR op) z
   ((((y.1++strB [32])++sgA op)++strB [32])++w.1,max y.2.1 w.2.1,y.2.2++opk op::w.2.2)
  |_=>(lfT op n s a b,0,lfK op n s a b)
noncomputable def prs:List Ex→List (Int×Pr)
 |[]=>[]
 |x::l=>(x.op,pr x)::prs l
end
theorem qAt (op n s:Int)(a b:ByteArray)(p:Int):pr (lit op n s a b p)=(lfT op n s a b,0,lfK op n s a b):=by simp[lit,pr,prs]
noncomputable def o1 (op:Int)(x:Ex):Pr:=opr (lsL op) (x.op,pr x)
noncomputable def o2 (op:Int)(x:Ex):Pr:=opr (lsR op) (x.op,pr x)
theorem qAp (op:Int)(x:Ex)(p:Int):pr (una op x p)=if op=16∨op=17 then(sgA op++((strB [40]++(o1 op x).1)++strB [41]),(o1 op x).2.1+1,opk op::lp::(o1 op x).2.2++[rp])else(sgA op++(o1 op x).1,(o1 op x).2.1+1,opk op::(o1 op x).2.2):=by simp[una,pr,prs,o1]
theorem qAj (op:Int)(x y:Ex)(p:Int):pr (two op x y p)=((((((o1 op x).1++strB [32])++sgA op)++strB [32])++(o2 op y).1),max (o1 op x).2.1 (o2 op y).2.1,(o1 op x).2.2++opk op::(o2 op y).2.2):=by simp[two,pr,prs,o1,o2]
def GN (a:ByteArray):Prop:=nmOk a=true∧∀ i,i<a.size→isNm (bAt a i)=true
def GA (b:ByteArray):Prop:=GN b∨b=qBO
def LfOk (op n s:Int)(a b:ByteArray):Prop:=
 (op=20∧(∃ w,Own ⟨3,strB [],n,0⟩ w)∧s=0∧a=strB []∧b=strB []) ∨
 (op=21∧(∃ w,Own ⟨4,strB [],n,s⟩ w)∧a=strB []∧b=strB []) ∨
 (op=22∧(n=0∨n=1)∧s=0∧a=strB []∧b=strB []) ∨
 (op=23∧Own ⟨5,a,0,0⟩ ((strB [39]++a)++strB [39])∧GN a∧n=0∧s=0∧b=strB []) ∨
 (op=24∧GN a∧GA b∧n=0∧s=0) ∨
 (op=25∧GN a∧n=0∧s=0∧b=strB []) ∨
 (26≤op∧op≤31∧GN a∧GA b∧n=0∧s=0)
inductive Rg:Ex→Prop
 |leaf {op n s:Int} {a b:ByteArray} {p:Int} (h:LfOk op n s a b):Rg (lit op n s a b p)
 |una {op:Int} {x:Ex} {p:Int} (h:op=6∨op=15∨op=16∨op=17) (hx:Rg x):Rg (una op x p)
 |two {op:Int} {x y:Ex} {p:Int} (h:1≤op∧op≤14∧op≠6) (hx:Rg x) (hy:Rg y):Rg (two op x y p)
def Has (u:ByteArray)(q:Nat)(w:ByteArray):Prop:=q+w.size≤u.size∧∀ i,i<w.size→bAt u (q+i)=bAt w i
theorem qzL {u:ByteArray}{q:Nat}{a b:ByteArray}(h:Has u q (a++b)):Has u q a∧Has u (q+a.size) b:=by
 have hs:(a++b).size=a.size+b.size:=ByteArray.size_append;obtain⟨h1,h2⟩:=h;refine⟨⟨by omega,fun i hi=>?_⟩,⟨by omega,fun i hi=>?_⟩⟩
 · rw[h2 i (by omega),qcP,aD hi]
 · rw[Nat.add_assoc,h2 (a.size+i) (by omega),qcP,aF (by omega),Nat.add_sub_cancel_left]
theorem qAB {u:ByteArray}{q:Nat}{w:ByteArray}(h:Has u q w):u.extract q (q+w.size)=w:=qcK (by rw[size_ext _ _ _ h.1];omega) fun i hi=>by rw[size_ext _ _ _ h.1]at hi;rw[Qz h.1 (by omega),h.2 i (by omega)]
theorem qCH (u:ByteArray):Has u 0 u:=⟨by omega,fun i _=>by rw[Nat.zero_add]⟩
def Fo (u:ByteArray)(q:Nat):Prop:=q<u.size→isBr (bAt u q)=true
def Fn (u:ByteArray)(q:Nat):Prop:=q<u.size→isNm (bAt u q)=false
theorem Fo.nm {u:ByteArray}{q:Nat}(h:Fo u q):Fn u q:=fun hq=>(qej (h hq)).1
def Rd (u:ByteArray):Nat→List Tk→Nat→Prop
 |p,[],q=>p=q
 |p,t::T,q=>∃ e,stop isBl u p<u.size∧tok u (stop isBl u p)=some (t,e)∧Rd u e T q
theorem qzO {u:ByteArray}:∀ {S T:List Tk} {p r q:Nat},Rd u p S r→Rd u r T q→Rd u p (S++T) q
 |[],T,p,r,q,h1,h2=>by cases h1;exact h2
 |t::S,T,p,r,q,⟨e,a,b,c⟩,h2=>⟨e,a,b,qzO c h2⟩
theorem qAC {u:ByteArray}{p q:Nat}{t:Tk}(hp:p<u.size)(hb:isBl (bAt u p)=false)(h:tok u p=some (t,q)):Rd u p [t] q:=by have e:stop isBl u p=p:=zk fun _=>hb;exact⟨q,by rw[e];exact hp,by rw[e];exact h,rfl⟩
theorem qCO {u:ByteArray}{p q:Nat}{t:Tk}{T:List Tk}(hp:p<u.size)(hb:isBl (bAt u p)=true)(h:Rd u (p+1) (t::T) q):Rd u p (t::T) q:=by
 obtain⟨e,a,b,c⟩:=h;have e1:stop isBl u p=stop isBl u (p+1):=by rw[stop,aD hp,aD hb]
 exact⟨e,by rw[e1];exact a,by rw[e1];exact b,c⟩
theorem qCB {s:ByteArray}{p:Nat}{t:Tk}{e:Nat}(h:tok s p=some (t,e)):isBl (bAt s p)=false:=by
 cases hb:isBl (bAt s p)with
 |false=>rfl
 |true=>
  exfalso;have c:bAt s p=32∨bAt s p=9∨bAt s p=10∨bAt s p=13:=by unfold isBl at hb;simpa [Bool.or_eq_true,or_assoc]using hb
  have no:isLe (bAt s p)=false∧isDi (bAt s p)=false∧bAt s p≠39∧vR s p=0:=by unfold vR;rcases c with c|c|c|c<;>rw[c]<;>exact⟨by decide,by decide,by decide,by rw[aF (by decide)];rfl⟩
  unfold tok at h;rw[no.1,no.2.1,aF (by decide),aF (by decide),aF no.2.2.1]at h;unfold qav at h;rw[aD no.2.2.2]at h;cases h
theorem qBF {t:Tk}{w:ByteArray}(h:Own t w){u:ByteArray}{q:Nat}(hu:Has u q w)(hf:Fo u (q+w.size)):Rd u q [t] (q+w.size):=by
 have hz:=h.size;obtain⟨s,p,h1,h2,h3,h4⟩:=h;have he:=qeR h2 h3;have hw:∀ i,i<w.size→bAt u (q+i)=bAt s (p+i):=fun i hi=>by rw[hu.2 i hi,← Qz (s:=s) (a:=p) (b:=p+w.size) he.2 (by omega),h4]
 have hl:Lik s p u q w.size:=⟨he.2,hu.1,hw,hf⟩
 have h5:=qmu hl hz.1 h3 (Nat.le_refl _);rw[show p+w.size-p+q=q+w.size by omega]at h5;refine qAC (by have:=hu.1;omega) ?_ h5;have h6:=hw 0 hz.1;rw[Nat.add_zero,Nat.add_zero]at h6;rw[h6];exact qCB h3
theorem qz2 {c:Nat}(hc:c<256)(h:isSg (c:Int)=true){u:ByteArray}{q:Nat}(hu:Has u q (strB [c])):Rd u q [yk (strB [c])] (q+1):=by
 have hz:(strB [c]).size=1:=rfl;have h0:bAt u q=c:=by have:=hu.2 0 (by omega);rw[Nat.add_zero]at this;rw[this];show((UInt8.ofNat c).toNat:Int)=c;rw[UInt8.toNat_ofNat'];omega
 have hq:q<u.size:=by have:=hu.1;omega
 have facts:isLe (c:Int)=false∧isDi (c:Int)=false∧(c:Int)≠39∧(c:Int)≠33∧(c:Int)≠60∧(c:Int)≠62∧isBl (c:Int)=false:=by unfold isSg at h;simp only[Bool.or_eq_true,beq_iff_eq]at h;rcases h with h|h|h|h|h|h|h|h|h|h|h<;>rw[h]<;>decide
 obtain⟨f1,f2,f3,f4,f5,f6,f7⟩:=facts;have hl:vR u q=1:=by unfold vR;rw[h0,aF (by intro hh;rcases hh with hh|hh|hh<;>contradiction),aD h]
 refine qAC hq (by rw[h0];exact f7) ?_;unfold tok;rw[h0,f1,f2,aF (by decide),aF (by decide),aF f3];unfold qav;rw[hl,aF (by decide)];have hx:=qAB hu;rw[hz]at hx;rw[hx];rfl
end Ab
end Go.Proofs.YtpdhhkfllkgahaaGreatDoor

/-
  A right tree's text is read as its tokens.
-/
import Derived.Test.YtpdhhkfllkgahaaGreatDoorBaq
set_option linter.all false
namespace Go.Proofs.YtpdhhkfllkgahaaGreatDoor
namespace Ab
theorem qDD {u:ByteArray}{q:Nat}{w:ByteArray}(hu:Has u q w)(hn:∀ i,i<w.size→isNm (bAt w i)=true)(hf:Fn u (q+w.size)):stop isNm u q=q+w.size:=
 qeN (by omega) hu.1 (fun i h1 h2=>by
  obtain⟨j,rfl⟩:∃ j,i=q+j:=⟨i-q,by omega⟩
  rw[hu.2 j (by omega)];exact hn j (by omega)) hf
theorem qEE {c:Int}(h:isLe c=true):isBl c=false:=by unfold isLe at h;simp only[Bool.or_eq_true,aC,aX]at h;unfold isBl;simp only[Bool.or_eq_false_iff,beq_eq_false_iff_ne];omega
theorem qEm {u:ByteArray}{q:Nat}{w:ByteArray}(hu:Has u q w)(h1:0<w.size)(hn:∀ i,i<w.size→isNm (bAt w i)=true)(hl:isLe (bAt w 0)=true)(hf:Fn u (q+w.size)):
  (YH w=true→Rd u q [wk w] (q+w.size))∧(nmOk w=true→Rd u q [nk w] (q+w.size)):=by
 have e:=qDD hu hn hf;have h0:bAt u q=bAt w 0:=by have:=hu.2 0 h1;rwa [Nat.add_zero]at this
 have hq:q<u.size:=by have:=hu.1;omega
 have hb:isBl (bAt u q)=false:=by rw[h0];exact qEE hl
 have hx:=qAB hu;refine⟨fun hw=>qAC hq hb ?_,fun hw=>qAC hq hb ?_⟩
 · unfold tok;rw[h0,aD hl];unfold qd6;rw[e,hx,aD hw];rfl
 · unfold tok;rw[h0,aD hl];unfold qd6;have h2:YH w=false:=by unfold nmOk at hw;simp only[aC,Bool.not_eq_true']at hw;exact hw.2
   rw[e,hx,aF (by rw[h2];decide),aD hw];rfl
theorem GN.pos {a:ByteArray}(h:GN a):1≤a.size∧a.size≤24∧isLe (bAt a 0)=true∧YH a=false:=by have h:=h.1;unfold nmOk at h;simp only[aC,Bool.not_eq_true',aX]at h;exact⟨h.1.1.1,h.1.1.2,h.1.2,h.2⟩
theorem qBj {u:ByteArray}{q:Nat}{a:ByteArray}(h:GN a)(hu:Has u q a)(hf:Fn u (q+a.size)):Rd u q [nk a] (q+a.size):=(qEm hu h.pos.1 h.2 h.pos.2.2.1 hf).2 h.1
def wdB (w:ByteArray):Bool:=YH w&&(isLe (bAt w 0)&&(decide (0<w.size)&&(List.range w.size).all fun i=>isNm (bAt w i)))
theorem qz8 {u:ByteArray}{q:Nat}{w:ByteArray}(h:wdB w=true)(hu:Has u q w)(hf:Fn u (q+w.size)):Rd u q [wk w] (q+w.size):=by unfold wdB at h;simp only[aC,aX]at h;exact(qEm hu h.2.2.1 (fun i hi=>List.all_eq_true.1 h.2.2.2 i (List.mem_range.2 hi)) h.2.1 hf).1 h.1
theorem qAQ {u:ByteArray}{q:Nat}{c:Nat}(hu:Has u q (strB [c]))(hc:c<256)(h:isNm (c:Int)=false):Fn u q:=fun hq=>by have:=hu.2 0 (by show 0<1;omega);rw[Nat.add_zero]at this;rw[this];show isNm ((UInt8.ofNat c).toNat:Int)=false;rw[UInt8.toNat_ofNat',show c % 2 ^ 8=c by omega];exact h
theorem bsz1 (c:Nat):(strB [c]).size=1:=rfl
theorem qDV {u:ByteArray}{q:Nat}{b:ByteArray}(h:GA b)(hu:Has u q b)(hf:Fn u (q+b.size)):Rd u q [atk b] (q+b.size):=by
 unfold atk;rcases h with h|rfl
 ·
  have:¬ b.toList=qBO.toList:=fun e=>by
   have e2:=toList_inj e;have:=h.pos.2.2.2;rw[e2]at this;have h3:YH qBO=true:=by kernel_rfl
   rw[h3]at this;cases this
  rw[aF this];exact qBj h hu hf
 · rw[aD rfl];exact qz8 (by kernel_rfl) hu hf
theorem qEA {op:Int}(h:26≤op∧op≤31):wdB (agA op)=true:=by rcases(by omega:op=26∨op=27∨op=28∨op=29∨op=30∨op=31)with rfl|rfl|rfl|rfl|rfl|rfl<;>kernel_rfl
theorem rd3 {u:ByteArray}{p q r s:Nat}{A B C:List Tk}(h1:Rd u p A q)(h2:Rd u q B r)(h3:Rd u r C s):Rd u p (A++(B++C)) s:=qzO h1 (qzO h2 h3)
theorem qCf (n s:Int)(a b:ByteArray):lfT 20 n s a b=spW ⟨3,strB [],n,0⟩:=aD rfl
theorem qCg (n s:Int)(a b:ByteArray):lfT 21 n s a b=spW ⟨4,strB [],n,s⟩:=by unfold lfT;rw[aF (by decide),aD rfl]
theorem qCh (n s:Int)(a b:ByteArray):lfT 22 n s a b=if n=0 then strB [70,65,76,83,69]else strB [84,82,85,69]:=by unfold lfT;rw[aF (by decide),aF (by decide),aD rfl]
theorem qCi (n s:Int)(a b:ByteArray):lfT 23 n s a b=(strB [39]++a)++strB [39]:=by unfold lfT;rw[aF (by decide),aF (by decide),aF (by decide),aD rfl]
theorem qCj (n s:Int)(a b:ByteArray):lfT 24 n s a b=(a++strB [46])++b:=by unfold lfT;rw[aF (by decide),aF (by decide),aF (by decide),aF (by decide),aD rfl]
theorem qCk (n s:Int)(a b:ByteArray):lfT 25 n s a b=((strB [67,79,85,78,84]++strB [40])++a)++strB [41]:=by have e:strB [67,79,85,78,84,40]=strB [67,79,85,78,84]++strB [40]:=qo2 (by rw[YO];rfl);unfold lfT;rw[aF (by decide),aF (by decide),aF (by decide),aF (by decide),aF (by decide),aD rfl,e]
theorem qCl {op:Int}(h:26≤op∧op≤31)(n s:Int)(a b:ByteArray):lfT op n s a b=((((agA op++strB [40])++a)++strB [46])++b)++strB [41]:=by unfold lfT;rw[aF (by omega),aF (by omega),aF (by omega),aF (by omega),aF (by omega),aF (by omega)]
theorem qDd (n s:Int)(a b:ByteArray):lfK 20 n s a b=[⟨3,strB [],n,0⟩]:=aD rfl
theorem qDe (n s:Int)(a b:ByteArray):lfK 21 n s a b=[⟨4,strB [],n,s⟩]:=by unfold lfK;rw[aF (by decide),aD rfl]
theorem qDf (n s:Int)(a b:ByteArray):lfK 22 n s a b=[wk (if n=0 then strB [70,65,76,83,69]else strB [84,82,85,69])]:=by unfold lfK;rw[aF (by decide),aF (by decide),aD rfl]
theorem qDg (n s:Int)(a b:ByteArray):lfK 23 n s a b=[⟨5,a,0,0⟩]:=by unfold lfK;rw[aF (by decide),aF (by decide),aF (by decide),aD rfl]
theorem qDh (n s:Int)(a b:ByteArray):lfK 24 n s a b=[nk a,pt,atk b]:=by unfold lfK;rw[aF (by decide),aF (by decide),aF (by decide),aF (by decide),aD rfl]
theorem qDi (n s:Int)(a b:ByteArray):lfK 25 n s a b=[wk (strB [67,79,85,78,84]),lp,nk a,rp]:=by unfold lfK;rw[aF (by decide),aF (by decide),aF (by decide),aF (by decide),aF (by decide),aD rfl]
theorem qCe {op:Int}(h:26≤op∧op≤31)(n s:Int)(a b:ByteArray):lfK op n s a b=[wk (agA op),lp,nk a,pt,atk b,rp]:=by unfold lfK;rw[aF (by omega),aF (by omega),aF (by omega),aF (by omega),aF (by omega),aF (by omega)]
theorem qEI {op n s:Int}{a b:ByteArray}(h:LfOk op n s a b){u:ByteArray}{q:Nat}(hu:Has u q (lfT op n s a b))(hf:Fo u (q+(lfT op n s a b).size)):Rd u q (lfK op n s a b) (q+(lfT op n s a b).size):=by
 rcases h with⟨rfl,h,rfl,rfl,rfl⟩|⟨rfl,h,rfl,rfl⟩|⟨rfl,h,rfl,rfl,rfl⟩|⟨rfl,h,h2,rfl,rfl,rfl⟩|⟨rfl,h,h2,rfl,rfl⟩|⟨rfl,h,rfl,rfl,rfl⟩|⟨h1,h3,h,h2,rfl,rfl⟩
 · rw[qCf]at hu hf ⊢;rw[qDd];exact qBF (qAr h) hu hf
 · rw[qCg]at hu hf ⊢;rw[qDe];exact qBF (qAr h) hu hf
 ·
  rw[qCh]at hu hf ⊢;rw[qDf];rcases h with rfl|rfl
  · exact qz8 (w:=strB [70,65,76,83,69]) (by kernel_rfl) hu hf.nm
  · exact qz8 (w:=strB [84,82,85,69]) (by kernel_rfl) hu hf.nm
 · rw[qCi]at hu hf ⊢;rw[qDg];exact qBF h hu hf
 · rw[qCj]at hu hf ⊢;rw[qDh];obtain⟨h3,hb⟩:=qzL hu;obtain⟨ha,hp⟩:=qzL h3;simp only[ByteArray.size_append,bsz1]at hb hf ⊢;simp only[← Nat.add_assoc]at hb hf ⊢;exact rd3 (qBj h ha (qAQ hp (by omega) (by decide))) (qz2 (by omega) (by decide) hp) (qDV h2 hb hf.nm)
 · rw[qCk]at hu hf ⊢;rw[qDi];obtain⟨h3,hr⟩:=qzL hu;obtain⟨h4,ha⟩:=qzL h3;obtain⟨hc,hl⟩:=qzL h4;simp only[ByteArray.size_append,bsz1,show(strB [67,79,85,78,84]).size=5 from rfl]at ha hr hl hf ⊢;simp only[← Nat.add_assoc]at ha hr hl hf ⊢;exact qzO (S:=[wk (strB [67,79,85,78,84])]) (qz8 (w:=strB [67,79,85,78,84]) (by kernel_rfl) hc (qAQ hl (by omega) (by decide))) (rd3 (qz2 (by omega) (by decide) hl) (qBj h ha (qAQ hr (by omega) (by decide))) (qz2 (by omega) (by decide) hr))
 · rw[qCl ⟨h1,h3⟩]at hu hf ⊢;rw[qCe ⟨h1,h3⟩];obtain⟨h5,hr⟩:=qzL hu;obtain⟨h6,hb⟩:=qzL h5;obtain⟨h7,hp⟩:=qzL h6;obtain⟨h8,ha⟩:=qzL h7;obtain⟨hc,hl⟩:=qzL h8;simp only[ByteArray.size_append,bsz1]at hr hb hp ha hl hf ⊢;simp only[← Nat.add_assoc]at hr hb hp ha hl hf ⊢;exact qzO (S:=[wk (agA op)]) (qz8 (qEA ⟨h1,h3⟩) hc (qAQ hl (by omega) (by decide))) (rd3 (qz2 (by omega) (by decide) hl) (qBj h ha (qAQ hp (by omega) (by decide))) (rd3 (qz2 (by omega) (by decide) hp) (qDV h2 hb (qAQ hr (by omega) (by decide))) (qz2 (by omega) (by decide) hr)))
theorem qCC {c:Nat}(hc:c=33∨c=60∨c=62){u:ByteArray}{q:Nat}(hu:Has u q (strB [c,61])):Rd u q [yk (strB [c,61])] (q+2):=by
 have hz:(strB [c,61]).size=2:=rfl;have h0:bAt u q=c:=by have:=hu.2 0 (by omega);rw[Nat.add_zero]at this;rw[this];show((UInt8.ofNat c).toNat:Int)=c;rw[UInt8.toNat_ofNat'];omega
 have h1:bAt u (q+1)=61:=hu.2 1 (by omega);have hq:q+1<u.size:=by have:=hu.1;omega
 have hcc:(c:Int)=33∨(c:Int)=60∨(c:Int)=62:=by omega
 have hl:vR u q=2:=by unfold vR twoB;rw[h0,h1,aD hcc,aO hq];rfl
 have facts:isLe (c:Int)=false∧isDi (c:Int)=false∧(c:Int)≠39∧isBl (c:Int)=false:=by rcases hcc with h|h|h<;>rw[h]<;>decide
 refine qAC (by omega) (by rw[h0];exact facts.2.2.2) ?_;unfold tok;rw[h0,facts.1,facts.2.1,aF (by decide),aF (by decide),aF facts.2.2.1];unfold qav;rw[hl,aF (by decide)];have hx:=qAB hu;rw[hz]at hx;rw[hx];rfl
theorem qC0 {c:Nat}(hc:c=60∨c=62){u:ByteArray}{q:Nat}(hu:Has u q (strB [c]))(hs:bAt u (q+1)=32):Rd u q [yk (strB [c])] (q+1):=by
 have hz:(strB [c]).size=1:=rfl;have h0:bAt u q=c:=by have:=hu.2 0 (by omega);rw[Nat.add_zero]at this;rw[this];show((UInt8.ofNat c).toNat:Int)=c;rw[UInt8.toNat_ofNat'];omega
 have hq:q<u.size:=by have:=hu.1;omega
 have hcc:(c:Int)=33∨(c:Int)=60∨(c:Int)=62:=by omega
 have hl:vR u q=1:=by unfold vR twoB;rw[h0,hs,aD hcc,aF (by simp)]
 have facts:isLe (c:Int)=false∧isDi (c:Int)=false∧(c:Int)≠39∧isBl (c:Int)=false:=by rcases hcc with h|h|h<;>rw[h]<;>decide
 refine qAC hq (by rw[h0];exact facts.2.2.2) ?_;unfold tok;rw[h0,facts.1,facts.2.1,aF (by decide),aF (by decide),aF facts.2.2.1];unfold qav;rw[hl,aF (by decide)];have hx:=qAB hu;rw[hz]at hx;rw[hx];rfl
theorem qEM {op:Int}(h:1≤op∧op≤14∧op≠6){u:ByteArray}{q:Nat}(hu:Has u q (sgA op))(hs:bAt u (q+(sgA op).size)=32):Rd u q [opk op] (q+(sgA op).size):=by
 have hn:Fn u (q+(sgA op).size):=fun _=>by rw[hs];decide
 rcases(by omega:op=1∨op=2∨op=3∨op=4∨op=5∨op=7∨op=8∨op=9∨op=10∨op=11∨op=12∨op=13∨op=14)with rfl|rfl|rfl|rfl|rfl|rfl|rfl|rfl|rfl|rfl|rfl|rfl|rfl
 · exact qz2 (c:=43) (by omega) (by decide) hu
 · exact qz2 (c:=45) (by omega) (by decide) hu
 · exact qz2 (c:=42) (by omega) (by decide) hu
 · exact qz2 (c:=47) (by omega) (by decide) hu
 · exact qz2 (c:=37) (by omega) (by decide) hu
 · exact qz2 (c:=61) (by omega) (by decide) hu
 · exact qCC (c:=33) (by omega) hu
 · exact qC0 (c:=60) (by omega) hu hs
 · exact qCC (c:=60) (by omega) hu
 · exact qC0 (c:=62) (by omega) hu hs
 · exact qCC (c:=62) (by omega) hu
 · exact qz8 (w:=strB [65,78,68]) (by kernel_rfl) hu hn
 · exact qz8 (w:=strB [79,82]) (by kernel_rfl) hu hn
theorem qEH (op n s:Int)(a b:ByteArray):lfK op n s a b≠[]:=by
 unfold lfK
 repeat' split
 all_goals simp
theorem qDl {l:Nat}{x:Int×Pr}(h:x.2.2.2≠[]):(opr l x).2.2≠[]:=by
 unfold opr;split
 · simp
 · exact h
theorem qDG {x:Ex}(h:Rg x):(pr x).2.2≠[]:=by
 cases h with
 |leaf h=>rw[qAt];exact qEH _ _ _ _ _
 |una h hx=>rw[qAp];split<;>simp
 |two h hx hy=>rw[qAj];simp
def RdT (x:Ex):Prop:=∀ (u:ByteArray) (q:Nat),Has u q (pr x).1→Fo u (q+(pr x).1.size)→Rd u q (pr x).2.2 (q+(pr x).1.size)
theorem qBb {x:Ex}(ih:RdT x)(l:Nat)(op:Int){u:ByteArray}{q:Nat}(hu:Has u q (opr l (op,pr x)).1)(hf:Fo u (q+(opr l (op,pr x)).1.size)):Rd u q (opr l (op,pr x)).2.2 (q+(opr l (op,pr x)).1.size):=by
 by_cases hl0:lev op<l
 · have e:opr l (op,pr x)=((strB [40]++(pr x).1)++strB [41],(pr x).2.1+1,lp::(pr x).2.2++[rp]):=aD hl0;rw[e]at hu hf ⊢;obtain⟨h1,hr⟩:=qzL hu;obtain⟨hl,hx⟩:=qzL h1;simp only[ByteArray.size_append,bsz1]at *;simp only[← Nat.add_assoc]at *;have hfo:Fo u (q+1+(pr x).1.size):=fun hq=>by have:=hr.2 0 (by show 0<1;omega);rw[Nat.add_zero]at this;rw[this];rfl
   exact qzO (S:=[lp]) (qz2 (by omega) (by decide) hl) (qzO (ih u _ hx hfo) (qz2 (by omega) (by decide) hr))
 · have e:opr l (op,pr x)=pr x:=aF hl0;rw[e]at hu hf ⊢;exact ih u q hu hf
theorem qAO {u:ByteArray}{q:Nat}(hu:Has u q (strB [32])):q<u.size∧bAt u q=32:=by have:=hu.1;rw[bsz1]at this;have h2:=hu.2 0 (by show 0<1;omega);rw[Nat.add_zero]at h2;exact⟨by omega,h2⟩
theorem qAc {u:ByteArray}{p q:Nat}{T:List Tk}(hp:Has u p (strB [32]))(hT:T≠[])(h:Rd u (p+1) T q):Rd u p T q:=by
 obtain⟨h1,h2⟩:=qAO hp
 match T,hT with
 |t::T,_=>exact qCO h1 (by rw[h2];rfl) h
theorem qDK {x:Ex}(h:Rg x):RdT x:=by
 induction h with
 |leaf h=>intro u q hu hf;rw[qAt]at hu hf ⊢;exact qEI h hu hf
 |@una op x p h hx ih=>
  intro u q hu hf;have e0:=qAp op x p;by_cases h16:op=16∨op=17
  ·
   rw[aD h16]at e0;rw[e0]at hu hf ⊢;obtain⟨hw,h1⟩:=qzL hu;obtain⟨h2,hr⟩:=qzL h1;obtain⟨hl,hx2⟩:=qzL h2;simp only[ByteArray.size_append,bsz1]at *;simp only[← Nat.add_assoc]at *;have hfo:Fo u (q+(sgA op).size+1+(o1 op x).1.size):=fun hq=>by have:=hr.2 0 (by show 0<1;omega);rw[Nat.add_zero]at this;rw[this];rfl
   have rw1:Rd u q [opk op] (q+(sgA op).size):=by
    rcases h16 with rfl|rfl
    · exact qz8 (w:=strB [82,69,65,76]) (by kernel_rfl) hw (qAQ hl (by omega) (by decide))
    · exact qz8 (w:=strB [73,83,78,65,78]) (by kernel_rfl) hw (qAQ hl (by omega) (by decide))
   exact qzO (S:=[opk op]) rw1 (qzO (S:=[lp]) (qz2 (by omega) (by decide) hl) (qzO (qBb ih _ _ hx2 hfo) (qz2 (by omega) (by decide) hr)))
  ·
   rw[aF h16]at e0;rw[e0]at hu hf ⊢;obtain⟨hw,h1⟩:=qzL hu;simp only[ByteArray.size_append,bsz1]at *;simp only[← Nat.add_assoc]at *;rcases h with rfl|rfl|rfl|rfl
   · exact qzO (S:=[opk 6]) (qz2 (c:=45) (by omega) (by decide) hw) (qBb ih _ _ h1 hf)
   · have e:sgA 15=strB [78,79,84]++strB [32]:=qo2 (by rw[YO];rfl);rw[e]at hw h1 hf ⊢;obtain⟨hn,hb⟩:=qzL hw;simp only[ByteArray.size_append,bsz1]at *;simp only[← Nat.add_assoc]at *;exact qzO (S:=[opk 15]) (qz8 (w:=strB [78,79,84]) (by kernel_rfl) hn (qAQ hb (by omega) (by decide))) (qAc hb (qDl (qDG hx)) (qBb ih _ _ h1 hf))
   · exact absurd (.inl rfl) h16
   · exact absurd (.inr rfl) h16
 |@two op x y p h hx hy ihx ihy=>
  intro u q hu hf;rw[qAj]at hu hf ⊢;obtain⟨h1,h2⟩:=qzL hu;obtain⟨h3,b2⟩:=qzL h1;obtain⟨h4,hs⟩:=qzL h3;obtain⟨h5,b1⟩:=qzL h4;simp only[ByteArray.size_append,bsz1]at *;simp only[← Nat.add_assoc]at *;have f1:Fo u (q+(o1 op x).1.size):=fun _=>by rw[(qAO b1).2];rfl
  exact qzO (qBb ihx _ _ h5 f1) (qAc b1 (by simp) (qzO (S:=[opk op]) (qEM h hs (qAO b2).2) (qAc b2 (qDl (qDG hy)) (qBb ihy _ _ h2 hf))))
def nop (t:Tok):Tk:=⟨t.kind,t.text,t.n,t.scale⟩
theorem qCy (u:ByteArray):∀ (T:List Tk) (n p q:Nat),u.size-p<n→p≤u.size→Rd u p T q→stop isBl u q=u.size→∃ L,yn u n p=.inl (L++[endT u])∧L.map nop=T
 |_,0,p,q,h,_,_,_=>by omega
 |[],n+1,p,q,h,hp,hr,he=>by cases hr;exact⟨[],by unfold yn;rw[aD he];rfl,rfl⟩
 |t::T,n+1,p,q,h,hp,⟨e,h1,h2,h3⟩,he=>by
  have hte:=qeR h1 h2;have hge:=zC isBl u p;obtain⟨L,h4,h5⟩:=qCy u T n e q (by omega) hte.2 h3 he;refine⟨mkT t (stop isBl u p)::L,?_,?_⟩
  · unfold yn;rw[aF (by omega),h2];simp only[h4,pfT];rfl
  · rw[List.map_cons,h5];rfl
end Ab
end Go.Proofs.YtpdhhkfllkgahaaGreatDoor

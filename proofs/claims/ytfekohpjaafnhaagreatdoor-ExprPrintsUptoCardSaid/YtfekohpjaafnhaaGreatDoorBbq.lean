/-
  A right tree's text is read as its tokens.
-/
import Derived.Test.YtfekohpjaafnhaaGreatDoorBaq
set_option linter.all false
namespace Go.Proofs.YtfekohpjaafnhaaGreatDoor
namespace Ab
theorem qwr {u:ByteArray}{q:Nat}{w:ByteArray}(hu:Has u q w)(hn:∀ i,i<w.size→isNm (bAt w i)=true)(hf:Fn u (q+w.size)):stop isNm u q=q+w.size:=
 qeN (by omega) hu.1 (fun i h1 h2=>by
  obtain⟨j,rfl⟩:∃ j,i=q+j:=⟨i-q,by omega⟩
  rw[hu.2 j (by omega)];exact hn j (by omega)) hf
theorem qwU {c:Int}(h:isLe c=true):isBl c=false:=by unfold isLe at h;simp only[Bool.or_eq_true,aC,aX]at h;unfold isBl;simp only[Bool.or_eq_false_iff,beq_eq_false_iff_ne];omega
theorem qwK {u:ByteArray}{q:Nat}{w:ByteArray}(hu:Has u q w)(h1:0<w.size)(hn:∀ i,i<w.size→isNm (bAt w i)=true)(hl:isLe (bAt w 0)=true)(hf:Fn u (q+w.size)):
  (YH w=true→Rd u q [wk w] (q+w.size))∧(nmOk w=true→Rd u q [nk w] (q+w.size)):=by
 have e:=qwr hu hn hf;have h0:bAt u q=bAt w 0:=by have:=hu.2 0 h1;rwa [Nat.add_zero]at this
 have hq:q<u.size:=by have:=hu.1;omega
 have hb:isBl (bAt u q)=false:=by rw[h0];exact qwU hl
 have hx:=qu9 hu;refine⟨fun hw=>qu5 hq hb ?_,fun hw=>qu5 hq hb ?_⟩
 · unfold tok;rw[h0,aD hl];unfold qd6;rw[e,hx,aD hw];rfl
 · unfold tok;rw[h0,aD hl];unfold qd6;have h2:YH w=false:=by unfold nmOk at hw;simp only[aC,Bool.not_eq_true']at hw;exact hw.2
   rw[e,hx,aF (by rw[h2];decide),aD hw];rfl
theorem GN.pos {a:ByteArray}(h:GN a):1≤a.size∧a.size≤24∧isLe (bAt a 0)=true∧YH a=false:=by have h:=h.1;unfold nmOk at h;simp only[aC,Bool.not_eq_true',aX]at h;exact⟨h.1.1.1,h.1.1.2,h.1.2,h.2⟩
theorem qvU {u:ByteArray}{q:Nat}{a:ByteArray}(h:GN a)(hu:Has u q a)(hf:Fn u (q+a.size)):Rd u q [nk a] (q+a.size):=(qwK hu h.pos.1 h.2 h.pos.2.2.1 hf).2 h.1
def wdB (w:ByteArray):Bool:=YH w&&(isLe (bAt w 0)&&(decide (0<w.size)&&(List.range w.size).all fun i=>isNm (bAt w i)))
theorem qu3 {u:ByteArray}{q:Nat}{w:ByteArray}(h:wdB w=true)(hu:Has u q w)(hf:Fn u (q+w.size)):Rd u q [wk w] (q+w.size):=by unfold wdB at h;simp only[aC,aX]at h;exact(qwK hu h.2.2.1 (fun i hi=>List.all_eq_true.1 h.2.2.2 i (List.mem_range.2 hi)) h.2.1 hf).1 h.1
theorem qu8 {u:ByteArray}{q:Nat}{c:Nat}(hu:Has u q (strB [c]))(hc:c<256)(h:isNm (c:Int)=false):Fn u q:=fun hq=>by have:=hu.2 0 (by show 0<1;omega);rw[Nat.add_zero]at this;rw[this];show isNm ((UInt8.ofNat c).toNat:Int)=false;rw[UInt8.toNat_ofNat',show c % 2 ^ 8=c by omega];exact h
theorem bsz1 (c:Nat):(strB [c]).size=1:=rfl
theorem qwB {u:ByteArray}{q:Nat}{b:ByteArray}(h:GA b)(hu:Has u q b)(hf:Fn u (q+b.size)):Rd u q [atk b] (q+b.size):=by
 unfold atk;rcases h with h|rfl
 ·
  have:¬ b.toList=qvs.toList:=fun e=>by
   have e2:=toList_inj e;have:=h.pos.2.2.2;rw[e2]at this;have h3:YH qvs=true:=by kernel_rfl
   rw[h3]at this;cases this
  rw[aF this];exact qvU h hu hf
 · rw[aD rfl];exact qu3 (by kernel_rfl) hu hf
theorem qwT {op:Int}(h:26≤op∧op≤31):wdB (agA op)=true:=by rcases(by omega:op=26∨op=27∨op=28∨op=29∨op=30∨op=31)with rfl|rfl|rfl|rfl|rfl|rfl<;>kernel_rfl
theorem rd3 {u:ByteArray}{p q r s:Nat}{A B C:List Tk}(h1:Rd u p A q)(h2:Rd u q B r)(h3:Rd u r C s):Rd u p (A++(B++C)) s:=xk h1 (xk h2 h3)
theorem qvz (n s:Int)(a b:ByteArray):lfT 20 n s a b=spW ⟨3,strB [],n,0⟩:=aD rfl
theorem qvA (n s:Int)(a b:ByteArray):lfT 21 n s a b=spW ⟨4,strB [],n,s⟩:=by unfold lfT;rw[aF (by decide),aD rfl]
theorem qvB (n s:Int)(a b:ByteArray):lfT 22 n s a b=if n=0 then strB [70,65,76,83,69]else strB [84,82,85,69]:=by unfold lfT;rw[aF (by decide),aF (by decide),aD rfl]
theorem qvC (n s:Int)(a b:ByteArray):lfT 23 n s a b=(strB [39]++a)++strB [39]:=by unfold lfT;rw[aF (by decide),aF (by decide),aF (by decide),aD rfl]
theorem qvD (n s:Int)(a b:ByteArray):lfT 24 n s a b=(a++strB [46])++b:=by unfold lfT;rw[aF (by decide),aF (by decide),aF (by decide),aF (by decide),aD rfl]
theorem qvE (n s:Int)(a b:ByteArray):lfT 25 n s a b=((strB [67,79,85,78,84]++strB [40])++a)++strB [41]:=by have e:strB [67,79,85,78,84,40]=strB [67,79,85,78,84]++strB [40]:=qo2 (by rw[YO];rfl);unfold lfT;rw[aF (by decide),aF (by decide),aF (by decide),aF (by decide),aF (by decide),aD rfl,e]
theorem qvF {op:Int}(h:26≤op∧op≤31)(n s:Int)(a b:ByteArray):lfT op n s a b=((((agA op++strB [40])++a)++strB [46])++b)++strB [41]:=by unfold lfT;rw[aF (by omega),aF (by omega),aF (by omega),aF (by omega),aF (by omega),aF (by omega)]
theorem qwd (n s:Int)(a b:ByteArray):lfK 20 n s a b=[⟨3,strB [],n,0⟩]:=aD rfl
theorem qwe (n s:Int)(a b:ByteArray):lfK 21 n s a b=[⟨4,strB [],n,s⟩]:=by unfold lfK;rw[aF (by decide),aD rfl]
theorem qwf (n s:Int)(a b:ByteArray):lfK 22 n s a b=[wk (if n=0 then strB [70,65,76,83,69]else strB [84,82,85,69])]:=by unfold lfK;rw[aF (by decide),aF (by decide),aD rfl]
theorem qwg (n s:Int)(a b:ByteArray):lfK 23 n s a b=[⟨5,a,0,0⟩]:=by unfold lfK;rw[aF (by decide),aF (by decide),aF (by decide),aD rfl]
theorem qwh (n s:Int)(a b:ByteArray):lfK 24 n s a b=[nk a,pt,atk b]:=by unfold lfK;rw[aF (by decide),aF (by decide),aF (by decide),aF (by decide),aD rfl]
theorem qwi (n s:Int)(a b:ByteArray):lfK 25 n s a b=[wk (strB [67,79,85,78,84]),lp,nk a,rp]:=by unfold lfK;rw[aF (by decide),aF (by decide),aF (by decide),aF (by decide),aF (by decide),aD rfl]
theorem qvy {op:Int}(h:26≤op∧op≤31)(n s:Int)(a b:ByteArray):lfK op n s a b=[wk (agA op),lp,nk a,pt,atk b,rp]:=by unfold lfK;rw[aF (by omega),aF (by omega),aF (by omega),aF (by omega),aF (by omega),aF (by omega)]
theorem qwX {op n s:Int}{a b:ByteArray}(h:LfOk op n s a b){u:ByteArray}{q:Nat}(hu:Has u q (lfT op n s a b))(hf:Fo u (q+(lfT op n s a b).size)):Rd u q (lfK op n s a b) (q+(lfT op n s a b).size):=by
 rcases h with⟨rfl,h,rfl,rfl,rfl⟩|⟨rfl,h,rfl,rfl⟩|⟨rfl,h,rfl,rfl,rfl⟩|⟨rfl,h,h2,rfl,rfl,rfl⟩|⟨rfl,h,h2,rfl,rfl⟩|⟨rfl,h,rfl,rfl,rfl⟩|⟨h1,h3,h,h2,rfl,rfl⟩
 · rw[qvz]at hu hf ⊢;rw[qwd];exact qvM (quZ h) hu hf
 · rw[qvA]at hu hf ⊢;rw[qwe];exact qvM (quZ h) hu hf
 ·
  rw[qvB]at hu hf ⊢;rw[qwf];rcases h with rfl|rfl
  · exact qu3 (w:=strB [70,65,76,83,69]) (by kernel_rfl) hu hf.nm
  · exact qu3 (w:=strB [84,82,85,69]) (by kernel_rfl) hu hf.nm
 · rw[qvC]at hu hf ⊢;rw[qwg];exact qvM h hu hf
 · rw[qvD]at hu hf ⊢;rw[qwh];obtain⟨h3,hb⟩:=zt hu;obtain⟨ha,hp⟩:=zt h3;simp only[ByteArray.size_append,bsz1]at hb hf ⊢;simp only[← Nat.add_assoc]at hb hf ⊢;exact rd3 (qvU h ha (qu8 hp (by omega) (by decide))) (qw8 (by omega) (by decide) hp) (qwB h2 hb hf.nm)
 · rw[qvE]at hu hf ⊢;rw[qwi];obtain⟨h3,hr⟩:=zt hu;obtain⟨h4,ha⟩:=zt h3;obtain⟨hc,hl⟩:=zt h4;simp only[ByteArray.size_append,bsz1,show(strB [67,79,85,78,84]).size=5 from rfl]at ha hr hl hf ⊢;simp only[← Nat.add_assoc]at ha hr hl hf ⊢;exact xk (S:=[wk (strB [67,79,85,78,84])]) (qu3 (w:=strB [67,79,85,78,84]) (by kernel_rfl) hc (qu8 hl (by omega) (by decide))) (rd3 (qw8 (by omega) (by decide) hl) (qvU h ha (qu8 hr (by omega) (by decide))) (qw8 (by omega) (by decide) hr))
 · rw[qvF ⟨h1,h3⟩]at hu hf ⊢;rw[qvy ⟨h1,h3⟩];obtain⟨h5,hr⟩:=zt hu;obtain⟨h6,hb⟩:=zt h5;obtain⟨h7,hp⟩:=zt h6;obtain⟨h8,ha⟩:=zt h7;obtain⟨hc,hl⟩:=zt h8;simp only[ByteArray.size_append,bsz1]at hr hb hp ha hl hf ⊢;simp only[← Nat.add_assoc]at hr hb hp ha hl hf ⊢;exact xk (S:=[wk (agA op)]) (qu3 (qwT ⟨h1,h3⟩) hc (qu8 hl (by omega) (by decide))) (rd3 (qw8 (by omega) (by decide) hl) (qvU h ha (qu8 hp (by omega) (by decide))) (rd3 (qw8 (by omega) (by decide) hp) (qwB h2 hb (qu8 hr (by omega) (by decide))) (qw8 (by omega) (by decide) hr)))
theorem qvS {c:Nat}(hc:c=33∨c=60∨c=62){u:ByteArray}{q:Nat}(hu:Has u q (strB [c,61])):Rd u q [yk (strB [c,61])] (q+2):=by
 have hz:(strB [c,61]).size=2:=rfl;have h0:bAt u q=c:=by have:=hu.2 0 (by omega);rw[Nat.add_zero]at this;rw[this];show((UInt8.ofNat c).toNat:Int)=c;rw[UInt8.toNat_ofNat'];omega
 have h1:bAt u (q+1)=61:=hu.2 1 (by omega);have hq:q+1<u.size:=by have:=hu.1;omega
 have hcc:(c:Int)=33∨(c:Int)=60∨(c:Int)=62:=by omega
 have hl:vR u q=2:=by unfold vR twoB;rw[h0,h1,aD hcc,aO hq];rfl
 have facts:isLe (c:Int)=false∧isDi (c:Int)=false∧(c:Int)≠39∧isBl (c:Int)=false:=by rcases hcc with h|h|h<;>rw[h]<;>decide
 refine qu5 (by omega) (by rw[h0];exact facts.2.2.2) ?_;unfold tok;rw[h0,facts.1,facts.2.1,aF (by decide),aF (by decide),aF facts.2.2.1];unfold qav;rw[hl,aF (by decide)];have hx:=qu9 hu;rw[hz]at hx;rw[hx];rfl
theorem qv5 {c:Nat}(hc:c=60∨c=62){u:ByteArray}{q:Nat}(hu:Has u q (strB [c]))(hs:bAt u (q+1)=32):Rd u q [yk (strB [c])] (q+1):=by
 have hz:(strB [c]).size=1:=rfl;have h0:bAt u q=c:=by have:=hu.2 0 (by omega);rw[Nat.add_zero]at this;rw[this];show((UInt8.ofNat c).toNat:Int)=c;rw[UInt8.toNat_ofNat'];omega
 have hq:q<u.size:=by have:=hu.1;omega
 have hcc:(c:Int)=33∨(c:Int)=60∨(c:Int)=62:=by omega
 have hl:vR u q=1:=by unfold vR twoB;rw[h0,hs,aD hcc,aF (by simp)]
 have facts:isLe (c:Int)=false∧isDi (c:Int)=false∧(c:Int)≠39∧isBl (c:Int)=false:=by rcases hcc with h|h|h<;>rw[h]<;>decide
 refine qu5 hq (by rw[h0];exact facts.2.2.2) ?_;unfold tok;rw[h0,facts.1,facts.2.1,aF (by decide),aF (by decide),aF facts.2.2.1];unfold qav;rw[hl,aF (by decide)];have hx:=qu9 hu;rw[hz]at hx;rw[hx];rfl
theorem qw1 {op:Int}(h:1≤op∧op≤14∧op≠6){u:ByteArray}{q:Nat}(hu:Has u q (sgA op))(hs:bAt u (q+(sgA op).size)=32):Rd u q [opk op] (q+(sgA op).size):=by
 have hn:Fn u (q+(sgA op).size):=fun _=>by rw[hs];decide
 rcases(by omega:op=1∨op=2∨op=3∨op=4∨op=5∨op=7∨op=8∨op=9∨op=10∨op=11∨op=12∨op=13∨op=14)with rfl|rfl|rfl|rfl|rfl|rfl|rfl|rfl|rfl|rfl|rfl|rfl|rfl
 · exact qw8 (c:=43) (by omega) (by decide) hu
 · exact qw8 (c:=45) (by omega) (by decide) hu
 · exact qw8 (c:=42) (by omega) (by decide) hu
 · exact qw8 (c:=47) (by omega) (by decide) hu
 · exact qw8 (c:=37) (by omega) (by decide) hu
 · exact qw8 (c:=61) (by omega) (by decide) hu
 · exact qvS (c:=33) (by omega) hu
 · exact qv5 (c:=60) (by omega) hu hs
 · exact qvS (c:=60) (by omega) hu
 · exact qv5 (c:=62) (by omega) hu hs
 · exact qvS (c:=62) (by omega) hu
 · exact qu3 (w:=strB [65,78,68]) (by kernel_rfl) hu hn
 · exact qu3 (w:=strB [79,82]) (by kernel_rfl) hu hn
theorem qwW (op n s:Int)(a b:ByteArray):lfK op n s a b≠[]:=by
 unfold lfK
 repeat' split
 all_goals simp
theorem qwk {l:Nat}{x:Int×Pr}(h:x.2.2.2≠[]):(opr l x).2.2≠[]:=by
 unfold opr;split
 · simp
 · exact h
theorem qwO {x:Ex}(h:Rg x):(pr x).2.2≠[]:=by
 cases h with
 |leaf h=>rw[qu0];exact qwW _ _ _ _ _
 |una h hx=>rw[quY];split<;>simp
 |two h hx hy=>rw[qu1];simp
def RdT (x:Ex):Prop:=∀ (u:ByteArray) (q:Nat),Has u q (pr x).1→Fo u (q+(pr x).1.size)→Rd u q (pr x).2.2 (q+(pr x).1.size)
theorem qvc {x:Ex}(ih:RdT x)(l:Nat)(op:Int){u:ByteArray}{q:Nat}(hu:Has u q (opr l (op,pr x)).1)(hf:Fo u (q+(opr l (op,pr x)).1.size)):Rd u q (opr l (op,pr x)).2.2 (q+(opr l (op,pr x)).1.size):=by
 by_cases hl0:lev op<l
 · have e:opr l (op,pr x)=((strB [40]++(pr x).1)++strB [41],(pr x).2.1+1,lp::(pr x).2.2++[rp]):=aD hl0;rw[e]at hu hf ⊢;obtain⟨h1,hr⟩:=zt hu;obtain⟨hl,hx⟩:=zt h1;simp only[ByteArray.size_append,bsz1]at *;simp only[← Nat.add_assoc]at *;have hfo:Fo u (q+1+(pr x).1.size):=fun hq=>by have:=hr.2 0 (by show 0<1;omega);rw[Nat.add_zero]at this;rw[this];rfl
   exact xk (S:=[lp]) (qw8 (by omega) (by decide) hl) (xk (ih u _ hx hfo) (qw8 (by omega) (by decide) hr))
 · have e:opr l (op,pr x)=pr x:=aF hl0;rw[e]at hu hf ⊢;exact ih u q hu hf
theorem qu7 {u:ByteArray}{q:Nat}(hu:Has u q (strB [32])):q<u.size∧bAt u q=32:=by have:=hu.1;rw[bsz1]at this;have h2:=hu.2 0 (by show 0<1;omega);rw[Nat.add_zero]at h2;exact⟨by omega,h2⟩
theorem qwu {u:ByteArray}{p q:Nat}{T:List Tk}(hp:Has u p (strB [32]))(hT:T≠[])(h:Rd u (p+1) T q):Rd u p T q:=by
 obtain⟨h1,h2⟩:=qu7 hp
 match T,hT with
 |t::T,_=>exact qv0 h1 (by rw[h2];rfl) h
theorem qwv {x:Ex}(h:Rg x):RdT x:=by
 induction h with
 |leaf h=>intro u q hu hf;rw[qu0]at hu hf ⊢;exact qwX h hu hf
 |@una op x p h hx ih=>
  intro u q hu hf;have e0:=quY op x p;by_cases h16:op=16∨op=17
  ·
   rw[aD h16]at e0;rw[e0]at hu hf ⊢;obtain⟨hw,h1⟩:=zt hu;obtain⟨h2,hr⟩:=zt h1;obtain⟨hl,hx2⟩:=zt h2;simp only[ByteArray.size_append,bsz1]at *;simp only[← Nat.add_assoc]at *;have hfo:Fo u (q+(sgA op).size+1+(o1 op x).1.size):=fun hq=>by have:=hr.2 0 (by show 0<1;omega);rw[Nat.add_zero]at this;rw[this];rfl
   have rw1:Rd u q [opk op] (q+(sgA op).size):=by
    rcases h16 with rfl|rfl
    · exact qu3 (w:=strB [82,69,65,76]) (by kernel_rfl) hw (qu8 hl (by omega) (by decide))
    · exact qu3 (w:=strB [73,83,78,65,78]) (by kernel_rfl) hw (qu8 hl (by omega) (by decide))
   exact xk (S:=[opk op]) rw1 (xk (S:=[lp]) (qw8 (by omega) (by decide) hl) (xk (qvc ih _ _ hx2 hfo) (qw8 (by omega) (by decide) hr)))
  ·
   rw[aF h16]at e0;rw[e0]at hu hf ⊢;obtain⟨hw,h1⟩:=zt hu;simp only[ByteArray.size_append,bsz1]at *;simp only[← Nat.add_assoc]at *;rcases h with rfl|rfl|rfl|rfl
   · exact xk (S:=[opk 6]) (qw8 (c:=45) (by omega) (by decide) hw) (qvc ih _ _ h1 hf)
   · have e:sgA 15=strB [78,79,84]++strB [32]:=qo2 (by rw[YO];rfl);rw[e]at hw h1 hf ⊢;obtain⟨hn,hb⟩:=zt hw;simp only[ByteArray.size_append,bsz1]at *;simp only[← Nat.add_assoc]at *;exact xk (S:=[opk 15]) (qu3 (w:=strB [78,79,84]) (by kernel_rfl) hn (qu8 hb (by omega) (by decide))) (qwu hb (qwk (qwO hx)) (qvc ih _ _ h1 hf))
   · exact absurd (.inl rfl) h16
   · exact absurd (.inr rfl) h16
 |@two op x y p h hx hy ihx ihy=>
  intro u q hu hf;rw[qu1]at hu hf ⊢;obtain⟨h1,h2⟩:=zt hu;obtain⟨h3,b2⟩:=zt h1;obtain⟨h4,hs⟩:=zt h3;obtain⟨h5,b1⟩:=zt h4;simp only[ByteArray.size_append,bsz1]at *;simp only[← Nat.add_assoc]at *;have f1:Fo u (q+(o1 op x).1.size):=fun _=>by rw[(qu7 b1).2];rfl
  exact xk (qvc ihx _ _ h5 f1) (qwu b1 (by simp) (xk (S:=[opk op]) (qw1 h hs (qu7 b2).2) (qwu b2 (qwk (qwO hy)) (qvc ihy _ _ h2 hf))))
def nop (t:Tok):Tk:=⟨t.kind,t.text,t.n,t.scale⟩
theorem qvO (u:ByteArray):∀ (T:List Tk) (n p q:Nat),u.size-p<n→p≤u.size→Rd u p T q→stop isBl u q=u.size→∃ L,yn u n p=.inl (L++[endT u])∧L.map nop=T
 |_,0,p,q,h,_,_,_=>by omega
 |[],n+1,p,q,h,hp,hr,he=>by cases hr;exact⟨[],by unfold yn;rw[aD he];rfl,rfl⟩
 |t::T,n+1,p,q,h,hp,⟨e,h1,h2,h3⟩,he=>by
  have hte:=qeR h1 h2;have hge:=zC isBl u p;obtain⟨L,h4,h5⟩:=qvO u T n e q (by omega) hte.2 h3 he;refine⟨mkT t (stop isBl u p)::L,?_,?_⟩
  · unfold yn;rw[aF (by omega),h2];simp only[h4,pfT];rfl
  · rw[List.map_cons,h5];rfl
theorem qvP {x:Ex}(h:Rg x):∃ L,yn (pr x).1 ((pr x).1.size+1) 0=.inl (L++[endT (pr x).1])∧L.map nop=(pr x).2.2:=by have r:=qwv h (pr x).1 0 (qvV _) (fun hq=>by omega);rw[Nat.zero_add]at r;exact qvO _ _ _ 0 _ (by omega) (Nat.zero_le _) r (zk fun hq=>by omega)
end Ab
end Go.Proofs.YtfekohpjaafnhaaGreatDoor

/-
  A right query's tokens are parsed as that query, places aside.
-/
import Derived.Test.YtpdhhkfllkgahaaGreatDoorQdq
set_option linter.all false
namespace Go.Proofs.YtpdhhkfllkgahaaGreatDoor
namespace Ab
theorem qAi {L:List Tok}{i:Nat}{t:Tk}{s:By}(h:nop (tkA L i)=t)(hk:isW (mkN t 0) s=false):isW (tkA L i) s=false:=by rw[qz3 h];exact hk
theorem qA9 {L:List Tok}{i:Nat}{s:By}(h:nop (tkA L i)=wk s):qzQ L s i=.inr (i+1):=by unfold qzQ;rw[qA6 h];rfl
theorem qDk {L:List Tok}{i:Nat}{s:By}(h:nop (tkA L i)=yk s):qzQ L s i=.inr (i+1):=by unfold qzQ;rw[qAq h];rfl
theorem at_1 {L:List Tok}{i:Nat}{t:Tk}{T:List Tk}(h:At L i (t::T)):nop (tkA L i)=t:=(qzM h).1
theorem at_2 {L:List Tok}{i:Nat}{t u:Tk}{T:List Tk}(h:At L i (t::u::T)):nop (tkA L (i+1))=u:=(qzM (qzM h).2).1
theorem at_3 {L:List Tok}{i:Nat}{t u v:Tk}{T:List Tk}(h:At L i (t::u::v::T)):nop (tkA L (i+2))=v:=(qzM (qzM (qzM h).2).2).1
theorem qA7 {x:It}(hx:RgI x){L:List Tok}{n i:Nat}(hn:n<8){R:List Tk}(h:At L i (itK x++R)):qAe L n i=.inr (⟨x.form,x.typ,x.nm,(tkA L i).pos⟩,i+(itK x).length):=by
 have n8:(n==8)=false:=beq_false_of_ne (by omega);unfold qAe;rw[n8,Bool.false_and,af];obtain⟨fm,ty,nm,p⟩:=x;have hf:=hx.form;simp only at hf;rcases hf with rfl|rfl|rfl
 · have h:At L i (nk ty::nk nm::R):=h;rw[qAi (at_1 h) (s:=excB) rfl,af];unfold qAf;rw[qAF (at_1 h)];simp only[af];rw[qAi (at_2 h) (s:=plsB) rfl,af];unfold qAv;rw[qAF (at_2 h)];rfl
 · have h:At L i (nk ty::yk plsB::nk nm::R):=h;rw[qAi (at_1 h) (s:=excB) rfl,af];unfold qAf;rw[qAF (at_1 h)];simp only[af];rw[qAq (at_2 h),ah];unfold qAv;rw[qAF (at_3 h)];rfl
 · have h:At L i (yk excB::nk ty::nk nm::R):=h;rw[qAq (at_1 h),ah];unfold qAf;rw[qAF (at_2 h)];simp only[ah];unfold qAv;rw[qAF (at_3 h)];rfl
theorem qCw (x:It)(p:Int):qwb ⟨x.form,x.typ,x.nm,p⟩ x=true:=by simp[qwb]
theorem qAK:∀ {l:List It},l≠[]→(∀ x∈l,RgI x)→∀ {L:List Tok} {f:Nat} {acc:List It} {i:Nat},acc.length+l.length≤8→l.length≤f→At L i (itsK l++[rp]) →
  ∃ l',qz0 L f acc i=some (.inr (acc++l',i+(itsK l).length+1))∧qva l' l=true∧l'.length=l.length
 |[],h,_,_,_,_,_,_,_,_=>absurd rfl h
 |[x],_,hr,L,0,acc,i,h8,hf,h=>by simp at hf
 |[x],_,hr,L,f+1,acc,i,h8,hf,h=>by simp only[List.length_cons,List.length_nil]at h8;have h:At L i (itK x++[rp]):=h;have e1:=qA7 (hr x au) (n:=acc.length) (by omega) h;have h2:=at_1 (qAh h).2;refine⟨[⟨x.form,x.typ,x.nm,(tkA L i).pos⟩],?_,by simp[qva,qCw],rfl⟩;unfold qz0;rw[e1];simp only;rw[qAi h2 (s:=comB) (by kernel_rfl),af,qDk h2];rfl
 |x::y::l,_,hr,L,0,acc,i,h8,hf,h=>by simp at hf
 |x::y::l,_,hr,L,f+1,acc,i,h8,hf,h=>by simp only[List.length_cons]at h8 hf;have ek:itsK (x::y::l)=itK x++yk comB::itsK (y::l):=rfl;rw[ek]at h ⊢;rw[List.append_assoc]at h;have e1:=qA7 (hr x au) (n:=acc.length) (by omega) h;have h2:=(qAh h).2;have h3:=(qzM h2).2;obtain⟨l',g1,g2,g3⟩:=qAK (l:=y::l) (by simp) (fun z hz=>hr z (aB _ hz)) (L:=L) (f:=f) (acc:=acc++[⟨x.form,x.typ,x.nm,(tkA L i).pos⟩]) (i:=i+(itK x).length+1) (by simp;omega) (by simp;omega) h3;refine⟨⟨x.form,x.typ,x.nm,(tkA L i).pos⟩::l',?_,by rw[qva,qCw,g2];rfl,by simp[g3]⟩;unfold qz0;rw[e1];simp only;rw[qAq (at_1 h2),ah,g1];simp only[List.append_assoc,List.singleton_append,List.length_append,List.length_cons,aa,Sum.inr.injEq,ai,true_and];omega
theorem qAx {l:List It}(hl:l≠[])(h8:l.length≤8)(hr:∀ x∈l,RgI x){L:List Tok}{nb i:Nat}(hn:nb<4){R:List Tk}(h:At L i (brK l++R)):
  ∃ l',qzP L nb i=some (.inr (l',i+(brK l).length))∧qva l' l=true∧l'.length=l.length:=by
 have h:=(qAh h).1;have h:At L i (wk seqB::lp::(itsK l++[rp])):=h;obtain⟨l',g1,g2,g3⟩:=qAK hl hr (L:=L) (f:=9) (acc:=[]) (i:=i+2) (by simpa using h8) (by omega) (qzM (qzM h).2).2;refine⟨l',?_,g2,g3⟩;unfold qzP;rw[show(nb==4)=false from beq_false_of_ne (by omega),Bool.and_false,af,qA9 (at_1 h)];simp only;rw[qDk (at_2 h)];simp only;rw[g1];simp only[List.nil_append,brK,List.length_cons,List.length_append,List.length_nil,aa,Sum.inr.injEq,ai,true_and];omega
def sm2:List (List Ex)→List (List Ex)→Prop
 |[],[]=>True
 |a::l,b::m=>(a.length=b.length∧Zp a b=true)∧sm2 l m
 |_,_=>False
theorem qBH:∀ {a b c d:List Ex},a.length=b.length→Zp a b=true→Zp c d=true→Zp (a++c) (b++d)=true
 |[],[],c,d,_,_,h=>h
 |x::a,y::b,c,d,hl,h,h2=>by rw[Zp,aC]at h;rw[List.cons_append,List.cons_append,Zp,h.1,qBH (by simpa using hl) h.2 h2];rfl
 |[],_::_,_,_,hl,_,_=>by simp at hl
 |_::_,[],_,_,hl,_,_=>by simp at hl
theorem qDM {x y:Ex}(h:qbA x y=true):x.op=y.op∧x.args.length=y.args.length∧Zp x.args y.args=true:=by rw[qi8,aC,Bool.not_eq_true']at h;obtain⟨h1,h2⟩:=h;unfold hdX at h1;simp only[Bool.or_eq_false_iff,bne_eq_false_iff_eq]at h1;exact⟨h1.1,by have:=h1.2.2.2.2.2;omega,h2⟩
mutual
theorem qA3:∀ x y:Ex,qbA x y=true→(qzU x).length=(qzU y).length∧Zp (qzU x) (qzU y)=true
 |.mk o gs n s a b p,.mk o' gs' n' s' a' b' p',h=>by
  obtain⟨h1,h2,h3⟩:=qDM h;have h1:o=o':=h1;have h2:gs.length=gs'.length:=h2;have h3:Zp gs gs'=true:=h3;subst h1;have ih:=qAI gs gs' h2 h3;unfold qzU;by_cases h13:o=13
  ·
   rw[aD h13,aD h13]
   match flats gs,flats gs',ih with
   |[],[],_=>exact⟨rfl,by rw[Zp]⟩
   |[x],[y],_=>exact⟨rfl,by rw[Zp]⟩
   |[x,x2],[y,y2],ih=>exact⟨by simp[ih.1.1,ih.2.1.1],qBH ih.1.1 ih.1.2 ih.2.1.2⟩
   |_::_::_::_,_::_::_::_,_=>exact⟨rfl,by rw[Zp]⟩
  · rw[aF h13,aF h13];exact⟨rfl,by rw[Zp,h,Zp];rfl⟩
theorem qAI:∀ l m:List Ex,l.length=m.length→Zp l m=true→sm2 (flats l) (flats m)
 |[],[],_,_=>trivial
 |a::l,b::m,h,h2=>by rw[Zp,aC]at h2;exact⟨qA3 a b h2.1,qAI l m (by simpa using h) h2.2⟩
 |[],_::_,h,_=>by simp at h
 |_::_,[],h,_=>by simp at h
end
theorem qEO {L:List Tok}{j:Nat}(h:nop (tkA L j)=wk sgB):EO L j 0:=fun m _=>by rw[qz3 h];unfold opA;split<;>kernel_rfl
theorem qEv {st:Int}(h:st=1∨st=2∨st=3){L:List Tok}{i:Nat}(hn:nop (tkA L i)=wk (stB st))(j:Nat):
  (bif isW (tkA L i) s1B then tailW L 1 j else bif isW (tkA L i) s2B then tailW L 2 j else bif isW (tkA L i) s3B then tailW L 3 j else .inl ((tkA L i).pos,13))=tailW L st j:=by
 rcases h with rfl|rfl|rfl
 · rw[qA6 (show nop (tkA L i)=wk s1B from hn)];rfl
 · have hn:nop (tkA L i)=wk s2B:=hn;rw[qAi hn (s:=s1B) (by kernel_rfl),qA6 hn];rfl
 · have hn:nop (tkA L i)=wk s3B:=hn;rw[qAi hn (s:=s1B) (by kernel_rfl),qAi hn (s:=s2B) (by kernel_rfl),qA6 hn];rfl
theorem qCA {q:Qu}(hq:RgQ q){L:List Tok}{i:Nat}(h:At L i (tlK q.st q.wd q.key))(he:(tkA L (i+(tlK q.st q.wd q.key).length)).kind=0):
  ∃ ka,qAg L i=.inr (⟨q.st,q.wd,q.key,ka⟩,i+(tlK q.st q.wd q.key).length):=by
 have h:At L i (wk sgB::wk (stB q.st)::wk wiB::⟨3,strB [],q.wd,0⟩::kyK q.key):=h;have h4:=(qzM (qzM (qzM h).2).2).2;have t4:tkA L (i+3)=mkN ⟨3,strB [],q.wd,0⟩ (tkA L (i+3)).pos:=qz3 (at_1 h4);have k3:(tkA L (i+3)).kind=3:=by rw[t4];rfl
 have n3:(tkA L (i+3)).n=q.wd:=by rw[t4];rfl
 have hb:decide (q.wd>1152921504606846976)=false:=aN (by have:=hq.wd.2.1;omega);have hw:∀ ka,qAG L q.st q.wd (i+4)=.inr (⟨q.st,q.wd,q.key,ka⟩,i+(tlK q.st q.wd q.key).length)→qAg L i=.inr (⟨q.st,q.wd,q.key,ka⟩,i+(tlK q.st q.wd q.key).length):=fun ka hk=>by unfold qAg;rw[qA9 (at_1 h)];simp only;rw[qEv hq.st (at_2 h)];unfold tailW;rw[qA9 (at_3 h)];simp only;rw[show i+1+1+1=i+3 from rfl,k3,n3,hb];exact hk
 have h5:=(qzM h4).2;by_cases h0:q.key.size=0
 ·
  have e0:q.key=strB []:=ByteArray.ext (Array.eq_empty_of_size_eq_zero h0);refine⟨0,hw 0 ?_⟩;have ek:kyK q.key=[]:=aD h0;have ht:(tkA L (i+4)).kind=0:=by have:=he;rw[show(tlK q.st q.wd q.key).length=4 by unfold tlK;rw[ek];rfl]at this;exact this
  unfold qAG;have hno:isW (tkA L (i+4)) paB=false:=by unfold isW;rw[ht];rfl
  rw[hno,af,e0];unfold tlK kyK;rw[aD (show(strB []).size=0 from rfl)];rfl
 · have ek:kyK q.key=[wk paB,wk byB,nk q.key]:=aF h0;rw[ek]at h5;refine⟨(tkA L (i+6)).pos,hw _ ?_⟩;unfold qAG;rw[qA6 (show nop (tkA L (i+4))=wk paB from at_1 h5),ah,qA9 (show nop (tkA L (i+4+1))=wk byB from at_2 h5)];simp only;rw[qAF (show nop (tkA L (i+4+1+1))=nk q.key from at_3 h5)];simp only;unfold tlK;rw[ek];rfl
theorem qBn:∀ {l m:List Ex},l.length=m.length→Zp l m=true→cnts l=cnts m:=fun {l m} h h2=>(qAU l m h h2).2
end Ab
end Go.Proofs.YtpdhhkfllkgahaaGreatDoor

/-
  What is parsed is a right query; queries that are the same have the same text.
-/
import Derived.Test.YtpdhhkfllkgahaaGreatDoorQfq
set_option linter.all false
namespace Go.Proofs.YtpdhhkfllkgahaaGreatDoor
namespace Ab
theorem qAZ {N:Nat}:∀ (l:List Ex) (x:Ex),(opr 1 (x.op,pr x)).2.1≤N→(∀ y∈l,(opr 2 (y.op,pr y)).2.1≤N)→l≠[]→(pr (andL x l)).2.1≤N
 |[],_,_,_,h=>absurd rfl h
 |y::l,x,hx,hl,_=>by
  have h2:(pr (two 13 x y 0)).2.1≤N:=by rw[qAj];have h1:(o1 13 x).2.1≤N:=hx;have h2:(o2 13 y).2.1≤N:=hl y au;show max (o1 13 x).2.1 (o2 13 y).2.1≤N;omega
  rw[andL];cases l with
  |nil=>exact h2
  |cons z l=>refine qAZ (z::l) _ ?_ (fun w hw=>hl w (aB _ hw)) (by simp);rw[qAb (show 1≤lev (two 13 x y 0).op from(by decide:1≤lev (13:Int)))];exact h2
theorem qDt {x:Ex}(h:Rg x):qzU x≠[]∧(x.op=13→2≤(qzU x).length):=by
 induction h with
 |leaf h=>
  rename_i op n s a b p;have h13:op≠13:=by unfold LfOk at h;omega
  rw[qzR (show(lit op n s a b p).op≠13 from h13)];exact⟨by simp,fun e=>absurd e h13⟩
 |una h hx ih=>
  rename_i op x p;have h13:op≠13:=by omega
  rw[qzR (show(una op x p).op≠13 from h13)];exact⟨by simp,fun e=>absurd e h13⟩
 |two h hx hy ihx ihy=>
  rename_i op x y p;by_cases h13:op=13
  · subst h13;rw[qz4];have h1:=List.length_pos_iff.2 ihx.1;have h2:=List.length_pos_iff.2 ihy.1;refine⟨fun e=>?_,fun _=>by rw[List.length_append];omega⟩;have:=congrArg List.length e;rw[List.length_append,List.length_nil]at this;omega
  · rw[qzR (show(two op x y p).op≠13 from h13)];exact⟨by simp,fun e=>absurd e h13⟩
theorem qBV {x:Ex}(h:Rg x):∀ z∈qzU x,Rg z∧z.op≠13∧(pr z).2.1≤(pr x).2.1∧(x.op=13→(opr 2 (z.op,pr z)).2.1≤(pr x).2.1):=by
 induction h with
 |leaf h=>
  rename_i op n s a b p;have h13:op≠13:=by unfold LfOk at h;omega
  rw[qzR (show(lit op n s a b p).op≠13 from h13)];intro z hz;rw[aV]at hz;subst hz;exact⟨.leaf h,h13,Nat.le_refl _,fun e=>absurd e h13⟩
 |una h hx ih=>
  rename_i op x p;have h13:op≠13:=by omega
  rw[qzR (show(una op x p).op≠13 from h13)];intro z hz;rw[aV]at hz;subst hz;exact⟨.una h hx,h13,Nat.le_refl _,fun e=>absurd e h13⟩
 |two h hx hy ihx ihy=>
  rename_i op x y p;by_cases h13:op=13
  ·
   subst h13;have hm:(opr 1 (x.op,pr x)).2.1≤(pr (two 13 x y p)).2.1∧(opr 2 (y.op,pr y)).2.1≤(pr (two 13 x y p)).2.1:=by rw[qAj];show(o1 13 x).2.1≤max (o1 13 x).2.1 (o2 13 y).2.1∧(o2 13 y).2.1≤max (o1 13 x).2.1 (o2 13 y).2.1;omega
   have up:∀ (w:Ex) (l:Nat),(pr w).2.1≤(opr l (w.op,pr w)).2.1:=fun w l=>by
    unfold opr;split
    · show(pr w).2.1≤(pr w).2.1+1;omega
    · exact Nat.le_refl _
   -- an operand of a part
   have part:∀ (w:Ex),Rg w→(∀ z∈qzU w,Rg z∧z.op≠13∧(pr z).2.1≤(pr w).2.1∧(w.op=13→(opr 2 (z.op,pr z)).2.1≤(pr w).2.1))→(opr 1 (w.op,pr w)).2.1≤(pr (two 13 x y p)).2.1 →
     (w.op≠13→(opr 2 (w.op,pr w)).2.1≤(pr (two 13 x y p)).2.1)→∀ z∈qzU w,Rg z∧z.op≠13∧(pr z).2.1≤(pr (two 13 x y p)).2.1∧((13:Int)=13→(opr 2 (z.op,pr z)).2.1≤(pr (two 13 x y p)).2.1):=fun w hw ih h1 h2 z hz=>by
    obtain⟨a1,a2,a3,a4⟩:=ih z hz;have:=up w 1;refine⟨a1,a2,by omega,fun _=>?_⟩;by_cases hw13:w.op=13
    · have:=a4 hw13;omega
    · rw[qzR hw13,aV]at hz;subst hz;exact h2 hw13
   have eq12:∀ w:Ex,Rg w→w.op≠13→opr 2 (w.op,pr w)=opr 1 (w.op,pr w):=fun w hw hn=>by
    have hl:lev w.op≠1:=by
     unfold lev
     repeat' split
     all_goals omega
    unfold opr;simp only;by_cases h0:lev w.op<1
    · rw[aD (by omega),aD h0]
    · rw[aF (by omega),aF h0]
   rw[qz4];intro z hz;rcases List.mem_append.1 hz with hz|hz
   · exact part x hx ihx hm.1 (fun hn=>by rw[eq12 x hx hn];exact hm.1) z hz
   · refine part y hy ihy ?_ (fun _=>hm.2) z hz;have:=qAT (x:=(y.op,pr y)) (show 1≤2 by omega);omega
  · rw[qzR (show(two op x y p).op≠13 from h13)];intro z hz;rw[aV]at hz;subst hz;exact⟨.two h hx hy,h13,Nat.le_refl _,fun e=>absurd e h13⟩
section
variable [vo] {L:List Tok} (hT:TsOk L)
include hT
theorem qDA {n i j:Nat}{x:It}(h:qAe L n i=.inr (x,j)):RgI x:=by
 have aux:∀ neg p i,qAf L neg p i=.inr (x,j)→RgI x:=fun neg p i h=>by
  obtain⟨ty,nm,k,h1,h2,_,_,_,h3⟩:=qAS h;have g1:=qBk hT h1;have g2:=qBk hT h2;rcases h3 with⟨_,_,rfl⟩|⟨_,_,_,rfl⟩|⟨_,_,_,rfl⟩
  · exact⟨.inr (.inr rfl),g1,g2⟩
  · exact⟨.inr (.inl rfl),g1,g2⟩
  · exact⟨.inl rfl,g1,g2⟩
 rcases(qAw h).2 with⟨_,h⟩|⟨_,h⟩<;>exact aux _ _ _ h
theorem qBA:∀ (f:Nat) (acc:List It) (i:Nat) (l:List It) (j:Nat),acc.length+f=9→(∀ x∈acc,RgI x)→qz0 L f acc i=some (.inr (l,j))→l≠[]∧l.length≤8∧∀ x∈l,RgI x
 |0,_,_,_,_,_,_,h=>by cases h
 |f+1,acc,i,l,j,hf,ha,h=>by
  unfold qz0 at h;cases hi:qAe L acc.length i with
  |inl e=>rw[hi]at h;cases h
  |inr r=>
   obtain⟨x,k⟩:=r;rw[hi]at h;have h8:=(qAw hi).1;have hx:=qDA hT hi;have ha':∀ y∈acc++[x],RgI y:=fun y hy=>by
    rcases List.mem_append.1 hy with hy|hy
    · exact ha y hy
    · rw[aV]at hy;subst hy;exact hx
   simp only at h;cases hc:isW (tkA L k) comB with
   |true=>rw[hc]at h;exact qBA f (acc++[x]) _ _ _ (by simp;omega) ha' h
   |false=>
    rw[hc]at h;simp only[af]at h;cases hn:qzQ L (strB [41]) k with
    |inl e=>rw[hn]at h;cases h
    |inr m=>rw[hn]at h;cases h;exact⟨by simp,by simp;omega,ha'⟩
theorem qAy {nb i j:Nat}{l:List It}(h:qzP L nb i=some (.inr (l,j))):l≠[]∧l.length≤8∧∀ x∈l,RgI x:=by
 unfold qzP at h;cases hb:(isW (tkA L i) seqB&&nb==4)with
 |true=>rw[hb]at h;cases h
 |false=>
  rw[hb]at h;simp only[af]at h;cases h1:qzQ L seqB i with
  |inl e=>rw[h1]at h;cases h
  |inr m=>
   rw[h1]at h;simp only at h;cases h2:qzQ L (strB [40]) m with
   |inl e=>rw[h2]at h;cases h
   |inr k=>rw[h2]at h;exact qBA hT 9 [] _ _ _ rfl (by simp) h
theorem qAk:∀ (f:Nat) (acc:List (List It)) (i:Nat) (l:List (List It)) (j:Nat),acc≠[]→(∀ b∈acc,b≠[]∧b.length≤8∧∀ x∈b,RgI x)→qzN L f acc i=some (.inr (l,j))→l≠[]∧∀ b∈l,b≠[]∧b.length≤8∧∀ x∈b,RgI x
 |0,_,_,_,_,_,_,h=>by cases h
 |f+1,acc,i,l,j,hn,ha,h=>by
  unfold qzN at h;cases ho:isW (tkA L i) orB with
  |false=>rw[ho]at h;cases h;exact⟨hn,ha⟩
  |true=>
   rw[ho]at h;simp only[ah]at h;cases hb:qzP L acc.length (i+1)with
   |none=>rw[hb]at h;cases h
   |some r=>
    rw[hb]at h
    match r,hb,h with
    |.inr (b,k),hb,h=>
     refine qAk f (acc++[b]) k l j (by simp) (fun c hc=>?_) h;rcases List.mem_append.1 hc with hc|hc
     · exact ha c hc
     · rw[aV]at hc;subst hc;exact qAy hT hb
theorem qCV {n i j:Nat}{l:List Ex}(h:qzV L n i=some (.inr (l,j))):(∀ x∈l,Rg x∧x.op≠13∧(pr x).2.1≤30)∧∀ x m,l=x::m→(pr (andL x m)).2.1≤30:=by
 unfold qzV at h;cases ho:isW (tkA L i) whB with
 |false=>rw[ho]at h;cases h;exact⟨by simp,fun _ _ e=>by cases e⟩
 |true=>
  rw[ho]at h;simp only[ah]at h;cases hp:pp L n (.p 0 (i+1) 0)with
  |none=>rw[hp]at h;cases h
  |some r=>
   rw[hp]at h
   match r,hp,h with
   |.ok y k,hp,h=>
    cases h;have ne:=(qCK hT n).1 0 (i+1) 0 y j (by omega) (by omega) hp;have h2:(pr y).2.1≤30:=by have:=ne.2;rw[qAb (Nat.zero_le _)]at this;exact this
    have fl:=qBV ne.1;refine⟨fun x hx=>⟨(fl x hx).1,(fl x hx).2.1,by have:=(fl x hx).2.2.1;omega⟩,fun x m e=>?_⟩;by_cases h13:y.op=13
    ·
     have hl:=(qDt ne.1).2 h13;rw[e]at fl;have b:∀ z∈x::m,(opr 2 (z.op,pr z)).2.1≤30:=fun z hz=>by have:=(fl z hz).2.2.2 h13;omega
     refine qAZ m x ?_ (fun z hz=>b z (aB _ hz)) ?_
     · have:=qAT (x:=(x.op,pr x)) (show 1≤2 by omega);have:=b x au;omega
     · rintro rfl
       rw[e]at hl;simp at hl
    · rw[qzR h13]at e;cases e;exact h2
theorem qCT {st wd:Int}{i j:Nat}{t:Tl}(h:qAG L st wd i=.inr (t,j)):t.st=st∧t.wd=wd∧(t.key=strB []∨GN t.key):=by
 unfold qAG at h;cases ho:isW (tkA L i) paB with
 |false=>rw[ho]at h;cases h;exact⟨rfl,rfl,.inl rfl⟩
 |true=>
  rw[ho]at h;simp only[ah]at h;cases h1:qzQ L byB (i+1)with
  |inl e=>rw[h1]at h;cases h
  |inr k=>
   rw[h1]at h;simp only at h;cases h2:nmF L k with
   |inl e=>rw[h2]at h;cases h
   |inr a=>rw[h2]at h;cases h;exact⟨rfl,rfl,.inr (qBk hT h2)⟩
theorem qAY {st:Int}{i j:Nat}{t:Tl}(h:tailW L st i=.inr (t,j)):t.st=st∧(0≤t.wd∧t.wd≤1152921504606846976∧Own ⟨3,strB [],t.wd,0⟩ (decS t.wd.toNat))∧(t.key=strB []∨GN t.key):=by
 unfold tailW at h;cases h1:qzQ L wiB i with
 |inl e=>rw[h1]at h;cases h
 |inr k=>
  rw[h1]at h;simp only at h;cases h2:((tkA L k).kind != 3)with
  |true=>rw[h2]at h;cases h
  |false=>
   rw[h2]at h;simp only[af]at h;cases h3:decide ((tkA L k).n>1152921504606846976)with
   |true=>rw[h3]at h;cases h
   |false=>
    rw[h3]at h;obtain⟨e1,e2,e3⟩:=qCT hT h;have hk:(tkA L k).kind=3:=by simpa using h2
    obtain⟨w,ho,_,_,h33,_⟩:=hT k (by rw[hk];decide);obtain⟨t1,t2⟩:=h33 hk;have et:nop (tkA L k)=⟨3,strB [],(tkA L k).n,0⟩:=by have t1:(tkA L k).text=strB []:=t1;have t2:(tkA L k).scale=0:=t2;unfold nop;rw[hk,t1,t2]
    rw[et]at ho;have hn:(tkA L k).n≤1152921504606846976:=by simpa using h3
    have sp:=qAM ho;have h0:=qDp sp;rw[e2];refine⟨e1,⟨h0,hn,?_⟩,e3⟩;rcases sp with⟨h|h|h,_⟩|⟨h,_⟩|⟨_,v,_,hv,hw⟩|⟨h,_⟩
    · cases h
    · cases h
    · cases h
    · cases h
    · have hv:(tkA L k).n=(v:Int):=hv;have:(tkA L k).n.toNat=v:=by omega
      rw[this,hw];exact ho
    · cases h
theorem qDR {i j:Nat}{t:Tl}(h:qAg L i=.inr (t,j)):(t.st=1∨t.st=2∨t.st=3)∧(0≤t.wd∧t.wd≤1152921504606846976∧Own ⟨3,strB [],t.wd,0⟩ (decS t.wd.toNat))∧(t.key=strB []∨GN t.key):=by
 unfold qAg at h;cases h1:qzQ L sgB i with
 |inl e=>rw[h1]at h;cases h
 |inr k=>
  rw[h1]at h;simp only at h;cases h2:isW (tkA L k) s1B with
  |true=>rw[h2]at h;have:=qAY hT h;exact⟨.inl this.1,this.2⟩
  |false=>
   rw[h2]at h;simp only[af]at h;cases h3:isW (tkA L k) s2B with
   |true=>rw[h3]at h;have:=qAY hT h;exact⟨.inr (.inl this.1),this.2⟩
   |false=>
    rw[h3]at h;simp only[af]at h;cases h4:isW (tkA L k) s3B with
    |true=>rw[h4]at h;have:=qAY hT h;exact⟨.inr (.inr this.1),this.2⟩
    |false=>rw[h4]at h;cases h
theorem qCN {n:Nat}{q:Qu}(h:qz1 L n=some (.inr q))(hd:qu2 q≤200):RgQ q:=by
 unfold qz1 at h;cases h1:qzQ L ptB 0 with
 |inl x=>rw[h1]at h;cases h
 |inr m=>
  rw[h1]at h;simp only at h;cases hb:qzP L 0 m with
  |none=>rw[hb]at h;cases h
  |some ob=>
   rw[hb]at h
   match ob,hb,h with
   |.inr (b,j),hb,h=>
    simp only at h;cases hs:qzN L 4 [b] j with
    |none=>rw[hs]at h;cases h
    |some o=>
     rw[hs]at h
     match o,hs,h with
     |.inr (br,k),hs,h=>
      simp only at h;cases hw:qzV L n k with
      |none=>rw[hw]at h;cases h
      |some w=>
       rw[hw]at h
       match w,hw,h with
       |.inr (wh,j),hw,h=>
        simp only[qAu,aa]at h;cases ht:qAg L j with
        |inl x=>rw[ht]at h;cases h
        |inr t=>
         rw[ht]at h;simp only at h;cases h3:((tkA L t.2).kind != 0)with
         |true=>rw[h3]at h;cases h
         |false=>rw[h3]at h;cases h;have r1:=qAk hT 4 [b] _ _ _ (by simp) (fun c hc=>by rw[aV]at hc;subst hc;exact qAy hT hb) hs;have r2:=qCV hT hw;have r3:=qDR hT ht;exact⟨⟨r1.1,qz9 _ _ _ _ _ rfl hs⟩,r1.2,r2.1,r2.2,r3.1,r3.2.1,r3.2.2,hd⟩
end
theorem qCa {x y:It}(h:qwb x y=true):itT x=itT y:=by unfold qwb at h;simp only[aC,beq_iff_eq]at h;obtain⟨h1,h2,h3,_⟩:=h;have h2:=toList_inj h2;have h3:=toList_inj h3;unfold itT;rw[h1,h2,h3]
theorem qBC:∀ {l m:List It},l.length=m.length→qva l m=true→itsT l=itsT m
 |[],[],_,_=>rfl
 |[x],[y],_,h=>by rw[qva,aC]at h;exact qCa h.1
 |x::x2::l,y::y2::m,hl,h=>by rw[qva,aC]at h;rw[show itsT (x::x2::l)=(itT x++strB [44,32])++itsT (x2::l)from rfl,show itsT (y::y2::m)=(itT y++strB [44,32])++itsT (y2::m)from rfl,qCa h.1,qBC (by simpa using hl) h.2]
 |[],_::_,hl,_=>by simp at hl
 |_::_,[],hl,_=>by simp at hl
 |[_],_::_::_,hl,_=>by simp at hl
 |_::_::_,[_],hl,_=>by simp at hl
theorem qBS {a b:List It}{l m:List (List It)}(h:qvb (a::l) (b::m)=true):brT a=brT b∧qvb l m=true:=by rw[qvb,aC,aC,Bool.not_eq_true',bne_eq_false_iff_eq]at h;unfold brT;rw[qBC (by omega) h.2.1];exact⟨rfl,h.2.2⟩
theorem qBq:∀ {l m:List (List It)},l.length=m.length→qvb l m=true→brsT l=brsT m
 |[],[],_,_=>rfl
 |[x],[y],_,h=>(qBS h).1
 |x::x2::l,y::y2::m,hl,h=>by obtain⟨h1,h2⟩:=qBS h;rw[show brsT (x::x2::l)=(brT x++strB [32,124,32])++brsT (x2::l)from rfl,show brsT (y::y2::m)=(brT y++strB [32,124,32])++brsT (y2::m)from rfl,h1,qBq (by simpa using hl) h2]
 |[],_::_,hl,_=>by simp at hl
 |_::_,[],hl,_=>by simp at hl
 |[_],_::_::_,hl,_=>by simp at hl
 |_::_::_,[_],hl,_=>by simp at hl
theorem qA0:∀ {l m:List Ex} {x y:Ex},l.length=m.length→qbA x y=true→Zp l m=true→qbA (andL x l) (andL y m)=true
 |[],[],_,_,_,h,_=>h
 |a::l,b::m,x,y,hl,h,h2=>by rw[Zp,aC]at h2;rw[andL,andL];exact qA0 (by simpa using hl) (qAV h h2.1) h2.2
 |[],_::_,_,_,hl,_,_=>by simp at hl
 |_::_,[],_,_,hl,_,_=>by simp at hl
theorem qDS {l m:List Ex}(hl:l.length=m.length)(h:Zp l m=true):whT l=whT m:=by
 match l,m,hl,h with
 |[],[],_,_=>rfl
 |x::l,y::m,hl,h=>rw[Zp,aC]at h;have e:=(qCs _ _ (qA0 (l:=l) (m:=m) (by simpa using hl) h.1 h.2)).1;show strB [32,87,72,69,82,69,32]++(pr (andL x l)).1=strB [32,87,72,69,82,69,32]++(pr (andL y m)).1;rw[e]
theorem qDI {p q:Qu}(h:qvX p q=true):quT p=quT q:=by unfold qvX hdQ at h;simp only[aC,Bool.not_eq_true',Bool.or_eq_false_iff,bne_eq_false_iff_eq]at h;obtain⟨⟨h1,h2,h3,h4,h5⟩,h6,h7⟩:=h;have h3:p.key=q.key:=toList_inj (by simpa using h3);unfold quT;rw[h1,h2,h3,qBq (by omega) h6,qDS (by omega) h7]
end Ab
end Go.Proofs.YtpdhhkfllkgahaaGreatDoor

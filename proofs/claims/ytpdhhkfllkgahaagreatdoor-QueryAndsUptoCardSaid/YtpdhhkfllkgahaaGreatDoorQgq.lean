import Derived.Test.YtpdhhkfllkgahaaGreatDoorQfq
set_option linter.all false
namespace Go.Proofs.YtpdhhkfllkgahaaGreatDoor
namespace Ab
theorem qDt {x:Ex}(h:Rg x):qzU x≠[]∧(x.op=13→2≤(qzU x).length):=by
 induction h with
 |leaf h=>
  rename_i op n s a b p;have h13:op≠13:=by unfold LfOk at h;omega
  rw[qzR (show(lit op n s a b p).op≠13 from h13)];exact⟨by simp,fun e=>absurd e h13⟩
 |una h hx ih=>
  rename_i op x p;have h13:op≠13:=by omega
  rw[qzR (show(una op x p).op≠13 from h13)];exact⟨by simp,fun e=>absurd e h13⟩
 |two h hx hy ihx ihy=>
  rename_i op x y p;by_cases h13:op=13
  · subst h13;rw[qz4];have h1:=List.length_pos_iff.2 ihx.1;have h2:=List.length_pos_iff.2 ihy.1;refine⟨fun e=>?_,fun _=>by rw[List.length_append];omega⟩;have:=congrArg List.length e;rw[List.length_append,List.length_nil]at this;omega
  · rw[qzR (show(two op x y p).op≠13 from h13)];exact⟨by simp,fun e=>absurd e h13⟩
theorem qBV {x:Ex}(h:Rg x):∀ z∈qzU x,Rg z∧z.op≠13∧(pr z).2.1≤(pr x).2.1∧(x.op=13→(opr 2 (z.op,pr z)).2.1≤(pr x).2.1):=by
 induction h with
 |leaf h=>
  rename_i op n s a b p;have h13:op≠13:=by unfold LfOk at h;omega
  rw[qzR (show(lit op n s a b p).op≠13 from h13)];intro z hz;rw[aV]at hz;subst hz;exact⟨.leaf h,h13,Nat.le_refl _,fun e=>absurd e h13⟩
 |una h hx ih=>
  rename_i op x p;have h13:op≠13:=by omega
  rw[qzR (show(una op x p).op≠13 from h13)];intro z hz;rw[aV]at hz;subst hz;exact⟨.una h hx,h13,Nat.le_refl _,fun e=>absurd e h13⟩
 |two h hx hy ihx ihy=>
  rename_i op x y p;by_cases h13:op=13
  ·
   subst h13;have hm:(opr 1 (x.op,pr x)).2.1≤(pr (two 13 x y p)).2.1∧(opr 2 (y.op,pr y)).2.1≤(pr (two 13 x y p)).2.1:=by rw[qAj];show(o1 13 x).2.1≤max (o1 13 x).2.1 (o2 13 y).2.1∧(o2 13 y).2.1≤max (o1 13 x).2.1 (o2 13 y).2.1;omega
   have up:∀ (w:Ex) (l:Nat),(pr w).2.1≤(opr l (w.op,pr w)).2.1:=fun w l=>by
    unfold opr;split
    · show(pr w).2.1≤(pr w).2.1+1;omega
    · exact Nat.le_refl _
   -- an operand of a part
   have part:∀ (w:Ex),Rg w→(∀ z∈qzU w,Rg z∧z.op≠13∧(pr z).2.1≤(pr w).2.1∧(w.op=13→(opr 2 (z.op,pr z)).2.1≤(pr w).2.1))→(opr 1 (w.op,pr w)).2.1≤(pr (two 13 x y p)).2.1 →
     (w.op≠13→(opr 2 (w.op,pr w)).2.1≤(pr (two 13 x y p)).2.1)→∀ z∈qzU w,Rg z∧z.op≠13∧(pr z).2.1≤(pr (two 13 x y p)).2.1∧((13:Int)=13→(opr 2 (z.op,pr z)).2.1≤(pr (two 13 x y p)).2.1):=fun w hw ih h1 h2 z hz=>by
    obtain⟨a1,a2,a3,a4⟩:=ih z hz;have:=up w 1;refine⟨a1,a2,by omega,fun _=>?_⟩;by_cases hw13:w.op=13
    · have:=a4 hw13;omega
    · rw[qzR hw13,aV]at hz;subst hz;exact h2 hw13
   have eq12:∀ w:Ex,Rg w→w.op≠13→opr 2 (w.op,pr w)=opr 1 (w.op,pr w):=fun w hw hn=>by
    have hl:lev w.op≠1:=by
     unfold lev
     repeat' split
     all_goals omega
    unfold opr;simp only;by_cases h0:lev w.op<1
    · rw[aD (by omega),aD h0]
    · rw[aF (by omega),aF h0]
   rw[qz4];intro z hz;rcases List.mem_append.1 hz with hz|hz
   · exact part x hx ihx hm.1 (fun hn=>by rw[eq12 x hx hn];exact hm.1) z hz
   · refine part y hy ihy ?_ (fun _=>hm.2) z hz;have:=qAT (x:=(y.op,pr y)) (show 1≤2 by omega);omega
  · rw[qzR (show(two op x y p).op≠13 from h13)];intro z hz;rw[aV]at hz;subst hz;exact⟨.two h hx hy,h13,Nat.le_refl _,fun e=>absurd e h13⟩
section
variable [vo] {L:List Tok} (hT:TsOk L)
include hT
theorem qDA {n i j:Nat}{x:It}(h:qAe L n i=.inr (x,j)):RgI x:=by
 have aux:∀ neg p i,qAf L neg p i=.inr (x,j)→RgI x:=fun neg p i h=>by
  obtain⟨ty,nm,k,h1,h2,_,_,_,h3⟩:=qAS h;have g1:=qBk hT h1;have g2:=qBk hT h2;rcases h3 with⟨_,_,rfl⟩|⟨_,_,_,rfl⟩|⟨_,_,_,rfl⟩
  · exact⟨.inr (.inr rfl),g1,g2⟩
  · exact⟨.inr (.inl rfl),g1,g2⟩
  · exact⟨.inl rfl,g1,g2⟩
 rcases(qAw h).2 with⟨_,h⟩|⟨_,h⟩<;>exact aux _ _ _ h
theorem qBA:∀ (f:Nat) (acc:List It) (i:Nat) (l:List It) (j:Nat),acc.length+f=9→(∀ x∈acc,RgI x)→qz0 L f acc i=some (.inr (l,j))→l≠[]∧l.length≤8∧∀ x∈l,RgI x
 |0,_,_,_,_,_,_,h=>by cases h
 |f+1,acc,i,l,j,hf,ha,h=>by
  unfold qz0 at h;cases hi:qAe L acc.length i with
  |inl e=>rw[hi]at h;cases h
  |inr r=>
   obtain⟨x,k⟩:=r;rw[hi]at h;have h8:=(qAw hi).1;have hx:=qDA hT hi;have ha':∀ y∈acc++[x],RgI y:=fun y hy=>by
    rcases List.mem_append.1 hy with hy|hy
    · exact ha y hy
    · rw[aV]at hy;subst hy;exact hx
   simp only at h;cases hc:isW (tkA L k) comB with
   |true=>rw[hc]at h;exact qBA f (acc++[x]) _ _ _ (by simp;omega) ha' h
   |false=>
    rw[hc]at h;simp only[af]at h;cases hn:qzQ L (strB [41]) k with
    |inl e=>rw[hn]at h;cases h
    |inr m=>rw[hn]at h;cases h;exact⟨by simp,by simp;omega,ha'⟩
theorem qAy {nb i j:Nat}{l:List It}(h:qzP L nb i=some (.inr (l,j))):l≠[]∧l.length≤8∧∀ x∈l,RgI x:=by
 unfold qzP at h;cases hb:(isW (tkA L i) seqB&&nb==4)with
 |true=>rw[hb]at h;cases h
 |false=>
  rw[hb]at h;simp only[af]at h;cases h1:qzQ L seqB i with
  |inl e=>rw[h1]at h;cases h
  |inr m=>
   rw[h1]at h;simp only at h;cases h2:qzQ L (strB [40]) m with
   |inl e=>rw[h2]at h;cases h
   |inr k=>rw[h2]at h;exact qBA hT 9 [] _ _ _ rfl (by simp) h
theorem qAk:∀ (f:Nat) (acc:List (List It)) (i:Nat) (l:List (List It)) (j:Nat),acc≠[]→(∀ b∈acc,b≠[]∧b.length≤8∧∀ x∈b,RgI x)→qzN L f acc i=some (.inr (l,j))→l≠[]∧∀ b∈l,b≠[]∧b.length≤8∧∀ x∈b,RgI x
 |0,_,_,_,_,_,_,h=>by cases h
 |f+1,acc,i,l,j,hn,ha,h=>by
  unfold qzN at h;cases ho:isW (tkA L i) orB with
  |false=>rw[ho]at h;cases h;exact⟨hn,ha⟩
  |true=>
   rw[ho]at h;simp only[ah]at h;cases hb:qzP L acc.length (i+1)with
   |none=>rw[hb]at h;cases h
   |some r=>
    rw[hb]at h
    match r,hb,h with
    |.inr (b,k),hb,h=>
     refine qAk f (acc++[b]) k l j (by simp) (fun c hc=>?_) h;rcases List.mem_append.1 hc with hc|hc
     · exact ha c hc
     · rw[aV]at hc;subst hc;exact qAy hT hb
end
section
theorem GN.len {a:By}(h:GN a):a.size≤24:=h.pos.2.1
section
variable [vo]
end
end
end Ab
end Go.Proofs.YtpdhhkfllkgahaaGreatDoor

/-
  What is parsed is a right tree, of no more nest than may be; trees that are the same have the same text.
-/
import Derived.Test.YtpdhhkfllkgahaaGreatDoorBcq
set_option linter.all false
namespace Go.Proofs.YtpdhhkfllkgahaaGreatDoor
namespace Ab
def TkOk (t:Tk):Prop:=∃ w,Own t w∧(t.kind=2→GN t.text)∧(t.kind=5→GN t.text∧w=(strB [39]++t.text)++strB [39])∧(t.kind=3→t.text=strB []∧t.scale=0)∧(t.kind=4→t.text=strB [])
theorem qC8 {s:ByteArray}{p:Nat}(hp:p≤s.size)(h:nmOk (s.extract p (stop isNm s p))=true):GN (s.extract p (stop isNm s p)):=⟨h,qkt s p hp⟩
theorem qEw {s:ByteArray}{p:Nat}(hs:s.size≤4000)(hp:p<s.size){t:Tk}{e:Nat}(h:tok s p=some (t,e)):TkOk t:=by
 have he:=qeR hp h;have hz:=size_ext s p e he.2;have own:Own t (s.extract p e):=⟨s,p,hs,hp,by rw[hz,h];congr 2;omega,by rw[hz];congr 1;omega⟩
 have sp:=qBd hs hp h;have h0:=h;unfold tok at h;split at h
 ·
  unfold qd6 at h;split at h
  · cases h;exact⟨_,own,fun h=>(by cases h),fun h=>(by cases h),fun h=>(by cases h),fun h=>(by cases h)⟩
  · split at h
    · rename_i hn;cases h;exact⟨_,own,fun _=>qC8 (Nat.le_of_lt hp) hn,fun h=>(by cases h),fun h=>(by cases h),fun h=>(by cases h)⟩
    · cases h
 ·
  split at h
  ·
   unfold Zt at h;split at h
   · cases h
   ·
    split at h
    · split at h
      · cases h;exact⟨_,own,fun h=>(by cases h),fun h=>(by cases h),fun _=>⟨rfl,rfl⟩,fun h=>(by cases h)⟩
      · cases h
    · split at h
      · cases h
      · cases h;exact⟨_,own,fun h=>(by cases h),fun h=>(by cases h),fun h=>(by cases h),fun _=>rfl⟩
  ·
   split at h
   ·
    unfold qdt at h;split at h
    ·
     rename_i hh;cases h;rcases sp with⟨h1|h1|h1,_⟩|⟨_,h2,_⟩|⟨h1,_⟩|⟨h1,_⟩
     · cases h1
     · cases h1
     · cases h1
     · exact⟨_,own,fun h=>(by cases h),fun _=>⟨qC8 (by omega) hh.1,h2.symm⟩,fun h=>(by cases h),fun h=>(by cases h)⟩
     · cases h1
     · cases h1
    · cases h
   · unfold qav at h;split at h
     · cases h
     · cases h;exact⟨_,own,fun h=>(by cases h),fun h=>(by cases h),fun h=>(by cases h),fun h=>(by cases h)⟩
theorem qCx {s:ByteArray}(hs:s.size≤4000):∀ n p L,p≤s.size→yn s n p=.inl L→∀ t∈L,t.kind≠0→TkOk (nop t)
 |0,_,_,_,h=>by cases h
 |n+1,p,L,hp,h=>by
  unfold yn at h;split at h
  · cases h;intro t ht h0;rw[aV]at ht;subst ht;exact absurd rfl h0
  ·
   rename_i hz;have hlt:stop isBl s p<s.size:=by have:=yQ (f:=isBl) hp;omega
   split at h
   ·
    rename_i t e ht;have he:=qeR hlt ht;cases hr:yn s n e with
    |inr z=>rw[hr]at h;cases h
    |inl M=>
     rw[hr]at h;cases h;intro u hu h0;rcases List.mem_cons.1 hu with rfl|hu
     · exact qEw hs hlt ht
     · exact qCx hs n e M he.2 hr u hu h0
   · cases h
def TsOk (L:List Tok):Prop:=∀ i,(tkA L i).kind≠0→TkOk (nop (tkA L i))
theorem qEx {s:ByteArray}(hs:s.size≤4000){n:Nat}{L:List Tok}(h:yn s n 0=.inl L):TsOk L:=fun i h0=>by
 by_cases hi:i<L.length
 · refine qCx hs n 0 L (Nat.zero_le _) h _ ?_ h0;unfold tkA;rw[ax hi];exact List.getElem_mem hi
 · rw[qhV hi]at h0;exact absurd rfl h0
section
variable {L:List Tok} (hL:TsOk L)
include hL
theorem qBk {i:Nat}{a:ByteArray}(h:nmF L i=.inr a):GN a:=by
 unfold nmF at h;cases hk:(tkA L i).kind != 2 with
 |true=>rw[hk]at h;cases h
 |false=>
  rw[hk]at h;cases h;have h2:(tkA L i).kind=2:=by simpa using hk
  obtain⟨w,_,h3,_⟩:=hL i (by omega);exact h3 h2
theorem qCD {i:Nat}{a b:ByteArray}(h:atF L i=.inr (a,b)):GN a∧GA b:=by
 unfold atF at h;split at h
 · cases h
 ·
  rename_i a' ha;cases h1:isW (tkA L (i+1)) (strB [46])with
  |false=>rw[h1]at h;cases h
  |true=>
   rw[h1]at h;cases h2:isW (tkA L (i+2)) (strB [84,73,77,69])with
   |true=>rw[h2]at h;cases h;exact⟨qBk hL ha,.inr rfl⟩
   |false=>
    rw[h2]at h;simp only[aj,af]at h;split at h
    · cases h
    · rename_i hb;cases h;exact⟨qBk hL ha,.inl (qBk hL hb)⟩
theorem qEz {i q:Nat}(hq:q≤6){x:Ex}{j:Nat}(h:agF L i q=.ok x j):∃ op n s a b p,x=lit op n s a b p∧LfOk op n s a b:=by
 unfold agF at h;simp only at h;cases h1:isW (tkA L (i+1)) (strB [40])with
 |false=>rw[h1]at h;cases h
 |true=>
  rw[h1]at h;simp only[aj,af]at h;cases hq0:q==0 with
  |true=>
   rw[hq0]at h;simp only[ah]at h;split at h
   · cases h
   · rename_i a ha;cases h3:isW (tkA L (i+3)) (strB [41])with
     |false=>rw[h3]at h;cases h
     |true=>rw[h3]at h;cases h;exact⟨_,_,_,_,_,_,rfl,.inr (.inr (.inr (.inr (.inr (.inl ⟨rfl,qBk hL ha,rfl,rfl,rfl⟩)))))⟩
  |false=>
   rw[hq0]at h;simp only[af]at h;split at h
   · cases h
   ·
    rename_i a b ha;cases h3:isW (tkA L (i+5)) (strB [41])with
    |false=>rw[h3]at h;cases h
    |true=>
     rw[h3]at h;cases h;have:q≠0:=by simpa using hq0
     exact⟨_,_,_,_,_,_,rfl,.inr (.inr (.inr (.inr (.inr (.inr ⟨by omega,by omega,(qCD hL ha).1,(qCD hL ha).2,rfl,rfl⟩)))))⟩
omit hL in
theorem qCW:∀ (l:List ByteArray) (q:Nat) (x:ByteArray) (r:Nat),agI l q x=some r→r<q+l.length
 |[],_,_,_,h=>by cases h
 |s::l,q,x,r,h=>by
  unfold agI at h;cases hb:s.toList==x.toList with
  |true=>rw[hb]at h;cases h;simp
  |false=>rw[hb]at h;have:=qCW l (q+1) x r h;simp only[List.length_cons];omega
theorem qBE {i:Nat}:(∀ x j,vD L i=.con (.ok x j)→∃ op n s a b p,x=lit op n s a b p∧LfOk op n s a b)∧∀ d f,vD L i=.brk d f→(∀ x,f x=x)∨∃ op p,(op=16∨op=17)∧∀ x,f x=una op x p:=by
 unfold vD;simp only;cases h3:(tkA L i).kind==3 with
 |true=>
  have e3:(tkA L i).kind=3:=by simpa using h3
  obtain⟨w,h,_,_,h4,_⟩:=hL i (by omega);have e:nop (tkA L i)=⟨3,strB [],(tkA L i).n,0⟩:=by have:=h4 e3;simp only[nop]at this ⊢;rw[this.1,this.2,e3]
  rw[e]at h;exact⟨fun x j h'=>by cases h';exact⟨_,_,_,_,_,_,rfl,.inl ⟨rfl,⟨w,h⟩,rfl,rfl,rfl⟩⟩,fun d f h=>by cases h⟩
 |false=>
 cases h4:(tkA L i).kind==4 with
 |true=>
  have e3:(tkA L i).kind=4:=by simpa using h4
  obtain⟨w,h,_,_,_,h4⟩:=hL i (by omega);have e:nop (tkA L i)=⟨4,strB [],(tkA L i).n,(tkA L i).scale⟩:=by have:=h4 e3;simp only[nop]at this ⊢;rw[this,e3]
  rw[e]at h;exact⟨fun x j h'=>by cases h';exact⟨_,_,_,_,_,_,rfl,.inr (.inl ⟨rfl,⟨w,h⟩,rfl,rfl⟩)⟩,fun d f h=>by cases h⟩
 |false=>
 cases h5:(tkA L i).kind==5 with
 |true=>
  have e3:(tkA L i).kind=5:=by simpa using h5
  refine⟨fun x j h'=>?_,fun d f h=>by cases h⟩;cases h';obtain⟨w,h,_,h4,_⟩:=hL i (by omega);have h4:=h4 e3;have sp:∀ v,Own (nop (tkA L i)) v→v=(strB [39]++(tkA L i).text)++strB [39]→Own ⟨5,(tkA L i).text,0,0⟩ ((strB [39]++(tkA L i).text)++strB [39]):=by
   intro v ⟨s,p,a1,a2,a3,a4⟩ e;subst e;have a3':=a3;unfold tok at a3;split at a3
   ·
    unfold qd6 at a3;split at a3
    · have:=congrArg Tk.kind (Prod.mk.inj (aR a3)).1;simp only[nop,e3]at this;omega
    · split at a3
      · have:=congrArg Tk.kind (Prod.mk.inj (aR a3)).1;simp only[nop,e3]at this;omega
      · cases a3
   ·
    split at a3
    ·
     unfold Zt at a3;split at a3
     · cases a3
     ·
      split at a3
      · split at a3
        · have:=congrArg Tk.kind (Prod.mk.inj (aR a3)).1;simp only[nop,e3]at this;omega
        · cases a3
      · split at a3
        · cases a3
        · have:=congrArg Tk.kind (Prod.mk.inj (aR a3)).1;simp only[nop,e3]at this;omega
    ·
     split at a3
     · unfold qdt at a3;split at a3
       · have e1:=(Prod.mk.inj (aR a3)).1;have n0:=congrArg Tk.n e1;have s0:=congrArg Tk.scale e1;simp only[nop]at n0 s0;refine⟨s,p,a1,a2,?_,a4⟩;rw[a3'];have:nop (tkA L i)=⟨5,(tkA L i).text,0,0⟩:=by simp only[nop,e3,← n0,← s0]
         rw[this]
       · cases a3
     · unfold qav at a3;split at a3
       · cases a3
       · have:=congrArg Tk.kind (Prod.mk.inj (aR a3)).1;simp only[nop,e3]at this;omega
  exact⟨_,_,_,_,_,_,rfl,.inr (.inr (.inr (.inl ⟨rfl,sp w h h4.2,h4.1,rfl,rfl,rfl⟩)))⟩
 |false=>
 cases h2:(tkA L i).kind==2 with
 |true=>
  simp only[ah,af];split
  · exact⟨fun x j h=>(by cases h),fun d f h=>by cases h⟩
  · rename_i a b hab;exact⟨fun x j h=>by cases h;exact⟨_,_,_,_,_,_,rfl,.inr (.inr (.inr (.inr (.inl ⟨rfl,(qCD hL hab).1,(qCD hL hab).2,rfl,rfl⟩))))⟩,fun d f h=>by cases h⟩
 |false=>
 cases h6:(tkA L i).kind==6 with
 |true=>
  simp only[ah,af];cases (tkA L i).text.toList==(strB [40]).toList with
  |true=>exact⟨fun x j h=>(by cases h),fun d f h=>by cases h;exact .inl fun x=>rfl⟩
  |false=>exact⟨fun x j h=>(by cases h),fun d f h=>by cases h⟩
 |false=>
 cases h1:(tkA L i).kind==1 with
 |false=>exact⟨fun x j h=>(by cases h),fun d f h=>by cases h⟩
 |true=>
  simp only[ah,af];cases (tkA L i).text.toList==(strB [84,82,85,69]).toList with
  |true=>exact⟨fun x j h=>by cases h;exact⟨_,_,_,_,_,_,rfl,.inr (.inr (.inl ⟨rfl,.inr rfl,rfl,rfl,rfl⟩))⟩,fun d f h=>by cases h⟩
  |false=>
  cases (tkA L i).text.toList==(strB [70,65,76,83,69]).toList with
  |true=>exact⟨fun x j h=>by cases h;exact⟨_,_,_,_,_,_,rfl,.inr (.inr (.inl ⟨rfl,.inl rfl,rfl,rfl,rfl⟩))⟩,fun d f h=>by cases h⟩
  |false=>
  cases (tkA L i).text.toList==(strB [82,69,65,76]).toList||(tkA L i).text.toList==(strB [73,83,78,65,78]).toList with
  |true=>
   simp only[ah,af];cases hw:isW (tkA L (i+1)) (strB [40])with
   |true=>
    refine⟨fun x j h=>(by cases h),fun d f h=>?_⟩;cases h;right;cases (tkA L i).text.toList==(strB [73,83,78,65,78]).toList with
    |true=>exact⟨17,_,.inr rfl,fun x=>rfl⟩
    |false=>exact⟨16,_,.inl rfl,fun x=>rfl⟩
   |false=>exact⟨fun x j h=>(by cases h),fun d f h=>by cases h⟩
  |false=>
   simp only[af];refine⟨fun x j h=>?_,fun d f h=>by cases h⟩;have h:=LK.con.inj h;unfold agO at h;split at h
   · cases h
   · rename_i q hq;have:=qCW _ _ _ _ hq;exact qEz hL (by simp only[agN,List.length_cons,List.length_nil]at this;omega) h
end
theorem qBw:∀ (l:List ByteArray) (f:Int) (x:ByteArray),qi9 l f x=0∨f≤qi9 l f x∧qi9 l f x<f+l.length
 |[],_,_=>.inl rfl
 |s::l,f,x=>by
  unfold qi9;cases s.toList==x.toList with
  |true=>right;simp only[ah,List.length_cons];omega
  |false=>have:=qBw l (f+1) x;simp only[af,List.length_cons];omega
theorem qDO (l:List ByteArray)(f:Int)(t:Tok)(h:(sgO l f t==0)=false):f≤sgO l f t∧sgO l f t<f+l.length:=by
 unfold sgO at h ⊢;cases hk:t.kind==6 with
 |false=>rw[hk]at h;cases h
 |true=>
  rw[hk]at h;simp only[ah]at h ⊢;have:=qBw l f t.text;have h':qi9 l f t.text≠0:=by simpa using h
  omega
theorem qCp {l:Nat}{t:Tok}(h:(opA l t==0)=false):(1≤opA l t∧opA l t≤14∧opA l t≠6)∧lev (opA l t)=l:=by
 unfold opA at h ⊢;split at h
 ·
  cases hw:isW t (strB [79,82])with
  |true=>exact⟨by decide,rfl⟩
  |false=>rw[hw]at h;cases h
 ·
  cases hw:isW t (strB [65,78,68])with
  |true=>exact⟨by decide,rfl⟩
  |false=>rw[hw]at h;cases h
 · have:=qDO _ _ _ h;simp only[sgC,List.length_cons,List.length_nil]at this ⊢;refine⟨by omega,?_⟩;unfold lev;rw[aF (by omega),aF (by omega),aF (by omega),aD (by omega)]
 · have:=qDO _ _ _ h;simp only[sgS,List.length_cons,List.length_nil]at this ⊢;refine⟨by omega,?_⟩;unfold lev;rw[aF (by omega),aF (by omega),aF (by omega),aF (by omega),aD (by omega)]
 · have:=qDO _ _ _ h;simp only[sgP,List.length_cons,List.length_nil]at this ⊢;refine⟨by omega,?_⟩;unfold lev;rw[aF (by omega),aF (by omega),aF (by omega),aF (by omega),aF (by omega),aD (by omega)]
 · cases h
def Ne (x:Ex)(l o:Nat):Prop:=Rg x∧(opr l (x.op,pr x)).2.1+o≤30
theorem qAT {x:Int×Pr}{l m:Nat}(h:l≤m):(opr l x).2.1≤(opr m x).2.1:=by
 unfold opr;split
 · rw[aD (by omega)];exact Nat.le_refl _
 ·
  split
  · exact Nat.le_succ _
  · exact Nat.le_refl _
theorem qAb {x:Int×Pr}{l:Nat}(h:l≤lev x.1):opr l x=x.2:=by unfold opr;rw[aF (by omega)]
theorem Ne.le {x:Ex}{l m o:Nat}(h:Ne x m o)(hl:l≤m):Ne x l o:=⟨h.1,by have:=qAT (x:=(x.op,pr x)) hl;have:=h.2;omega⟩
theorem qDj {x y:Ex}{l o:Nat}{t:Tok}{p:Int}(h:(opA l t==0)=false)(hx:Ne x (lsL (opA l t)) o)(hy:Ne y (lsR (opA l t)) o):Ne (two (opA l t) x y p) l o:=by obtain⟨h1,h2⟩:=qCp h;refine⟨.two h1 hx.1 hy.1,?_⟩;rw[qAb (by show l≤lev (opA l t);omega),qAj];have:=hx.2;have:=hy.2;show max (opr _ _).2.1 (opr _ _).2.1+o≤30;omega
theorem lvl {l:Nat}{t:Tok}(h:(opA l t==0)=false):(l<7)∧(Lo l∧lsL (opA l t)=l∧lsR (opA l t)=l+1∨l=3∧lsL (opA l t)=4∧lsR (opA l t)=4):=by obtain⟨h1,h2⟩:=qCp h;have:=qCq h1;rw[h2]at this;exact⟨by omega,this.2⟩
theorem qCK {L:List Tok}(hL:TsOk L):∀ n,(∀ l i o x j,l≤7→o≤30→pp L n (.p l i o)=some (.ok x j)→Ne x l o)∧∀ l y i o x j,l<7→Lo l→o≤30→Ne y l o→pp L n (.lp l y i o)=some (.ok x j)→Ne x l o
 |0=>⟨fun l i o x j _ _ h=>(by cases h),fun l y i o x j _ _ _ _ h=>by cases h⟩
 |n+1=>by
  obtain⟨ih1,ih2⟩:=qCK hL n;have un:∀ (t:Tok) l i o w op x j,(op=6∧l=6∨op=15∧l=2)→o≤30→unF t (pp L n) l w op i o=some (.ok x j)→Ne x l o:=by
   intro t l i o w op x j hl ho h;unfold unF at h;cases hb:isW t w with
   |false=>rw[hb]at h;exact(ih1 _ _ _ _ _ (by omega) ho h).le (by omega)
   |true=>
    rw[hb]at h;obtain⟨h30,h⟩:=Xv h;have h30':o≠30:=by simpa using h30
    obtain⟨y,k,h1,h2⟩:=yx h;cases h2;have ne:=ih1 _ _ _ _ _ (by omega) (by omega) h1;refine⟨.una (by omega) ne.1,?_⟩;have:=ne.2;have e1:lev op=l∧lsL op=l∧¬ (op=16∨op=17):=by rcases hl with⟨rfl,rfl⟩|⟨rfl,rfl⟩<;>decide
    rw[qAb (by show l≤lev op;omega),qAp,aF e1.2.2];show(opr _ _).2.1+1+o≤30;rw[e1.2.1];omega
  have bin:∀ l i o x j,Lo l→o≤30→(bnd (pp L n (.p (l+1) i o)) fun x j=>pp L n (.lp l x j o))=some (.ok x j)→Ne x l o:=by
   intro l i o x j hl ho h;obtain⟨y,k,h1,h2⟩:=yx h;have hl7:l<6:=by unfold Lo at hl;omega
   exact ih2 l y k o x j (by omega) hl ho ((ih1 _ _ _ _ _ (by omega) ho h1).le (by omega)) h2
  refine⟨fun l i o x j hl ho h=>?_,fun l y i o x j hl hlo ho hy h=>?_⟩
  ·
   match l,hl,h with
   |0,_,h=>exact bin 0 i o x j (by unfold Lo;decide) ho h
   |1,_,h=>exact bin 1 i o x j (by unfold Lo;decide) ho h
   |4,_,h=>exact bin 4 i o x j (by unfold Lo;decide) ho h
   |5,_,h=>exact bin 5 i o x j (by unfold Lo;decide) ho h
   |2,_,h=>exact un _ _ _ _ _ _ _ _ (.inr ⟨rfl,rfl⟩) ho h
   |6,_,h=>exact un _ _ _ _ _ _ _ _ (.inl ⟨rfl,rfl⟩) ho h
   |3,_,h=>
    rw[pp3]at h;obtain⟨y,k,h1,h2⟩:=yx h;have ny:=ih1 _ _ _ _ _ (by omega) ho h1;cases hb:opA 3 (tkA L k)==0 with
    |true=>
     have:(opA 3 (tkA L k)!=0)=false:=by rw[bne,hb];rfl
     rw[this]at h2;cases h2;exact ny.le (by omega)
    |false=>
     have:(opA 3 (tkA L k)!=0)=true:=by rw[bne,hb];rfl
     rw[this]at h2;obtain⟨z,m,h3,h4⟩:=yx h2;cases h4;have nz:=ih1 _ _ _ _ _ (by omega) ho h3;have lv:=(lvl hb).2;rcases lv with⟨lv,_⟩|⟨_,e1,e2⟩
     · exact absurd lv (by unfold Lo;decide)
     · exact qDj hb (by rw[e1];exact ny) (by rw[e2];exact nz)
   |7,_,h=>
    rw[pp7]at h;unfold Qm at h;split at h
    · rename_i out hk;cases h;obtain⟨op,m,s,a,b,p,rfl,h5⟩:=(qBE hL).1 _ _ hk;refine⟨.leaf h5,?_⟩;have hl7:7≤lev op:=by
       rcases h5 with⟨rfl,h,_⟩|⟨rfl,h,_⟩|⟨rfl,h,_⟩|⟨rfl,h,_⟩|⟨rfl,h,_⟩|⟨rfl,h,_⟩|⟨h1,h3,h,_⟩
       all_goals first|decide|skip
       unfold lev;rw[aF (by omega),aF (by omega),aF (by omega),aF (by omega),aF (by omega),aF (by omega),aF (by omega)];exact Nat.le_refl _
      rw[qAb hl7,qAt];show 0+o≤30;omega
    · obtain⟨_,h⟩:=Xv h;cases h
    ·
     rename_i d f hk;obtain⟨h30,h⟩:=Xv h;have h30':o≠30:=by simpa using h30
     obtain⟨y,k,h1,h2⟩:=yx h;obtain⟨_,h3,_⟩:=qfy h2;subst h3;have ne:=ih1 _ _ _ _ _ (by omega) (by omega) h1;have h0:=ne.2;rw[qAb (Nat.zero_le _)]at h0;simp only at h0;rcases(qBE hL).2 _ _ hk with hf|⟨op,p,hop,hf⟩
     · rw[hf];refine⟨ne.1,?_⟩;unfold opr;split
       · show(pr y).2.1+1+o≤30;omega
       · show(pr y).2.1+o≤30;omega
     · rw[hf];refine⟨.una (by omega) ne.1,?_⟩;have e1:lev op=7∧lsL op=0:=by rcases hop with rfl|rfl<;>decide
       rw[qAb (by show 7≤lev op;omega),qAp,aD hop];show(opr (lsL op) _).2.1+1+o≤30;rw[e1.2,qAb (Nat.zero_le _)];show(pr y).2.1+1+o≤30;omega
  ·
   rw[ppl]at h;cases hb:opA l (tkA L i)==0 with
   |true=>rw[hb]at h;cases h;exact hy
   |false=>
    rw[hb]at h;obtain⟨z,m,h3,h4⟩:=yx h;have nz:=ih1 _ _ _ _ _ (by omega) ho h3;have lv:=(lvl hb).2;rcases lv with⟨_,e1,e2⟩|⟨lv,_⟩
    · exact ih2 _ _ _ _ _ _ hl hlo ho (qDj hb (by rw[e1];exact hy) (by rw[e2];exact nz)) h4
    · subst lv;exact absurd hlo (by unfold Lo;decide)
mutual
theorem qCs:∀ x y:Ex,qbA x y=true→pr x=pr y∧x.op=y.op∧cnt x=cnt y
 |.mk o gs n s nm am p,.mk o' gs' n' s' nm' am' p',h=>by
  rw[qbA]at h;simp only[aC,Bool.not_eq_true',Bool.or_eq_false_iff,bne_eq_false_iff_eq,Bool.not_eq_false',beq_iff_eq]at h;obtain⟨⟨rfl,rfl,rfl,h1,h2,h3⟩,h4⟩:=h;have e1:=toList_inj h1;have e2:=toList_inj h2;subst e1;subst e2;obtain⟨e3,e4⟩:=qAU gs gs' (by omega) h4;refine⟨?_,rfl,?_⟩
  · simp only[pr,e3]
  · simp only[cnt,e4]
theorem qAU:∀ l m:List Ex,l.length=m.length→Zp l m=true→prs l=prs m∧cnts l=cnts m
 |[],[],_,_=>⟨rfl,rfl⟩
 |[],_::_,h,_=>by cases h
 |_::_,[],h,_=>by cases h
 |a::l,b::m,h,h2=>by rw[Zp,aC]at h2;obtain⟨e1,e2,e3⟩:=qCs a b h2.1;obtain⟨e4,e5⟩:=qAU l m (by simpa using h) h2.2;simp only[prs,cnts,e1,e2,e3,e4,e5,and_self]
end
theorem qCQ {op:Int}(h:0≤op∧op≤17):(sgA op).size≤5:=by rcases(by omega:op=0∨op=1∨op=2∨op=3∨op=4∨op=5∨op=6∨op=7∨op=8∨op=9∨op=10∨op=11∨op=12∨op=13∨op=14∨op=15∨op=16∨op=17)with rfl|rfl|rfl|rfl|rfl|rfl|rfl|rfl|rfl|rfl|rfl|rfl|rfl|rfl|rfl|rfl|rfl|rfl<;>decide
theorem GA.sz {b:ByteArray}(h:GA b):b.size≤24:=by
 rcases h with h|rfl
 · exact h.pos.2.1
 · decide
theorem qEJ {op n s:Int}{a b:ByteArray}(h:LfOk op n s a b):(lfT op n s a b).size≤4040:=by
 rcases h with⟨rfl,h,rfl,rfl,rfl⟩|⟨rfl,h,rfl,rfl⟩|⟨rfl,h,rfl,rfl,rfl⟩|⟨rfl,h,h2,rfl,rfl,rfl⟩|⟨rfl,h,h2,rfl,rfl⟩|⟨rfl,h,rfl,rfl,rfl⟩|⟨h1,h3,h,h2,rfl,rfl⟩
 · rw[qCf];have:=(qAr h).size;omega
 · rw[qCg];have:=(qAr h).size;omega
 · rw[qCh];rcases h with rfl|rfl<;>decide
 · rw[qCi];have:=h.size;omega
 · rw[qCj];simp only[ByteArray.size_append,bsz1];have:=h.pos;have:=h2.sz;omega
 · rw[qCk];simp only[ByteArray.size_append,bsz1];have:(strB [67,79,85,78,84]).size=5:=rfl;have:=h.pos;omega
 · rw[qCl ⟨h1,h3⟩];simp only[ByteArray.size_append,bsz1];have:(agA op).size≤5:=by rcases(by omega:op=26∨op=27∨op=28∨op=29∨op=30∨op=31)with rfl|rfl|rfl|rfl|rfl|rfl<;>decide
   have:=h.pos;have:=h2.sz;omega
theorem qAL (l:Nat)(x:Int×Pr):(opr l x).1.size≤x.2.1.size+2:=by
 unfold opr;split
 · simp only[ByteArray.size_append,bsz1];omega
 · omega
theorem qCL {x:Ex}(h:Rg x):(pr x).1.size+60≤4100*cnt x:=by
 induction h with
 |@leaf op n s a b p h=>
  rw[qAt];have:=qEJ h;have e:cnt (lit op n s a b p)=1:=by simp[lit,cnt,cnts]
  show(lfT op n s a b).size+60≤_;omega
 |@una op x p h hx ih=>
  rw[qk8];have h1:=qCQ (op:=op) (by omega);have h2:=qAL (lsL op) (x.op,pr x);have e:(pr (una op x p)).1.size≤5+((opr (lsL op) (x.op,pr x)).1.size+2):=by
   rw[qAp];split
   · show(sgA op++((strB [40]++(opr (lsL op) (x.op,pr x)).1)++strB [41])).size≤_;simp only[ByteArray.size_append,bsz1];omega
   · show(sgA op++(opr (lsL op) (x.op,pr x)).1).size≤_;simp only[ByteArray.size_append];omega
  simp only at h2;omega
 |@two op x y p h hx hy ihx ihy=>
  rw[qiA];have h1:=qCQ (op:=op) (by omega);have h2:=qAL (lsL op) (x.op,pr x);have h3:=qAL (lsR op) (y.op,pr y);have e:(pr (two op x y p)).1.size=(opr (lsL op) (x.op,pr x)).1.size+1+(sgA op).size+1+(opr (lsR op) (y.op,pr y)).1.size:=by rw[qAj];show(((((opr (lsL op) (x.op,pr x)).1++strB [32])++sgA op)++strB [32])++(opr (lsR op) (y.op,pr y)).1).size=_;simp only[ByteArray.size_append,bsz1]
  simp only at h2 h3;omega
end Ab
end Go.Proofs.YtpdhhkfllkgahaaGreatDoor

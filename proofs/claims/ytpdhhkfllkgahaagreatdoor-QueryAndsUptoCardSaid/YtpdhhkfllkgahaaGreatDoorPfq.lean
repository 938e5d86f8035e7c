/-
  The plain scanner and the plain parser on a text that stands within another.
-/
import Derived.Test.YtpdhhkfllkgahaaGreatDoorPbq
import Derived.Test.YtpdhhkfllkgahaaGreatDoorKsq
set_option linter.all false
namespace Go.Proofs.YtpdhhkfllkgahaaGreatDoor
namespace Ab
def endT (s:ByteArray):Tok:=⟨0,strB [],0,0,s.size⟩
def mkT (t:Tk)(p:Nat):Tok:=⟨t.kind,t.text,t.n,t.scale,p⟩
def pfT (t:Tok):List Tok⊕Nat→List Tok⊕Nat
 |.inl l=>.inl (t::l)
 |.inr z=>.inr z
def yn (s:ByteArray):Nat→Nat→List Tok⊕Nat
 |0,p=>.inr p
 |n+1,p=>if stop isBl s p=s.size then .inl [endT s]else match tok s (stop isBl s p)with
  |some (t,e)=>pfT (mkT t (stop isBl s p)) (yn s n e)
  |none=>.inr (stop isBl s p)
theorem qjQ (s:ByteArray):∀ n p,qcV s n p=match yn s n p with|.inl L=>.inl (rwT L)|.inr z=>.inr z
 |0,p=>rfl
 |n+1,p=>by
  unfold qcV yn;split
  · rfl
  ·
   cases tok s (stop isBl s p)with
   |none=>rfl
   |some x=>
    obtain⟨t,e⟩:=x;simp only[qjQ s n e];cases yn s n e with
    |inl L=>rfl
    |inr z=>rfl
theorem qjo {s:ByteArray}{p:Nat}{t:Tk}{e:Nat}(ht:tok s p=some (t,e)):t.kind≠0:=by
 unfold tok qd6 Zt qdt qav at ht;intro hk
 repeat' split at ht
 all_goals first|(cases ht;done)|(cases ht;simp at hk)
theorem vE (s:ByteArray):∀ n p L,p≤s.size→yn s n p=.inl L→∃ T,L=T++[endT s]∧(∀ t∈T,t.kind≠0)∧T.length≤s.size-p
 |0,_,_,_,h=>by cases h
 |n+1,p,L,hp,h=>by
  unfold yn at h;have h0:=zC isBl s p;split at h
  · cases h;exact⟨[],rfl,by simp,by simp⟩
  ·
   rename_i hne;have hz:stop isBl s p<s.size:=by have:=yQ (f:=isBl) hp;omega
   cases ht:tok s (stop isBl s p)with
   |none=>rw[ht]at h;cases h
   |some x=>
    obtain⟨t,e⟩:=x;rw[ht]at h;have he:=qeR hz ht;cases hs:yn s n e with
    |inr z=>simp only[hs,pfT]at h;cases h
    |inl L2=>
     simp only[hs,pfT]at h;cases h;obtain⟨T,rfl,h2,h3⟩:=vE s n e L2 he.2 hs;refine⟨mkT t (stop isBl s p)::T,rfl,fun x hx=>?_,by simp only[List.length_cons];omega⟩;rcases List.mem_cons.1 hx with rfl|hx
     · exact qjo ht
     · exact h2 x hx
def shT (c:Int)(t:Tok):Tok:=⟨t.kind,t.text,t.n,t.scale,t.pos+c⟩
mutual
def shX (c:Int):Ex→Ex
 |.mk op args n s a b p=>.mk op (shXs c args) n s a b (p+c)
def shXs (c:Int):List Ex→List Ex
 |[]=>[]
 |x::l=>shX c x::shXs c l
end
theorem QF (c op n s:Int)(a b:ByteArray)(p:Int):shX c (lit op n s a b p)=lit op n s a b (p+c):=by simp[lit,shX,shXs]
theorem qkr (c op:Int)(x:Ex)(p:Int):shX c (una op x p)=una op (shX c x) (p+c):=by simp[una,shX,shXs]
theorem qks (c op:Int)(x y:Ex)(p:Int):shX c (two op x y p)=two op (shX c x) (shX c y) (p+c):=by simp[two,shX,shXs]
mutual
theorem qhc (c:Int):∀ x:Ex,cnt (shX c x)=cnt x
 |.mk op args n s a b p=>by rw[shX,cnt,cnt,qhb c args]
theorem qhb (c:Int):∀ l:List Ex,cnts (shXs c l)=cnts l
 |[]=>by rw[shXs]
 |x::l=>by rw[shXs,cnts,cnts,qhc c x,qhb c l]
end
theorem qkf (c:Int):∀ l:List Ex,(shXs c l).length=l.length
 |[]=>by rw[shXs]
 |x::l=>by rw[shXs,List.length_cons,List.length_cons,qkf c l]
mutual
theorem qiB (c:Int):∀ x:Ex,qbA (shX c x) x=true
 |.mk op args n s a b p=>by rw[shX,qbA,qfn c args,qkf];simp
theorem qfn (c:Int):∀ l:List Ex,Zp (shXs c l) l=true
 |[]=>by rw[shXs,Zp]
 |x::l=>by rw[shXs,Zp,qiB c x,qfn c l];rfl
end
theorem qip (l:Nat)(c:Int)(t:Tok):opA l (shT c t)=opA l t:=by unfold opA;split<;>rfl
theorem Xq (c:Int)(t:Tok)(s:ByteArray):isW (shT c t) s=isW t s:=rfl
section
variable {L L':List Tok} {d:Nat} {c:Int}
def Agr (L L':List Tok)(d:Nat)(c:Int)(i j:Nat):Prop:=∀ k,i≤k→k<j→tkA L' (k+d)=shT c (tkA L k)
def Stp (t:Tok):Prop:=∀ l,opA l t=0
def EndA (L L':List Tok)(d:Nat)(c:Int)(j:Nat):Prop:=tkA L' (j+d)=shT c (tkA L j)∨Stp (tkA L' (j+d))
theorem Agr.at {i j:Nat}(h:Agr L L' d c i j)(m:Nat)(hm:i+m<j):tkA L' (i+d+m)=shT c (tkA L (i+m)):=by rw[← h (i+m) (by omega) hm];congr 1;omega
theorem Agr.sub {i j i' j':Nat}(h:Agr L L' d c i j)(h1:i≤i')(h2:j'≤j):Agr L L' d c i' j':=fun k a b=>h k (by omega) (by omega)
theorem qla {i j:Nat}(h:Agr L L' d c i j)(m:Nat)(hm:i+m<j){a:ByteArray}(e:nmF L (i+m)=.inr a):nmF L' (i+d+m)=.inr a:=by
 unfold nmF at e ⊢;rw[h.at m hm];simp only[shT];cases hk:(tkA L (i+m)).kind != 2 with
 |true=>rw[hk]at e;cases e
 |false=>rw[hk]at e;cases e;rfl
theorem qm9 {i j:Nat}(h:Agr L L' d c i j)(m:Nat)(hm:i+m+2<j){a b:ByteArray}(e:atF L (i+m)=.inr (a,b)):atF L' (i+d+m)=.inr (a,b):=by
 unfold atF at e ⊢;cases h1:nmF L (i+m)with
 |inl p=>rw[h1]at e;cases e
 |inr a2=>
  rw[h1]at e;rw[qla h m (by omega) h1];simp only at e ⊢;have t1:=h.at (m+1) (by omega)
  have t2:=h.at (m+2) (by omega)
  rw[← Nat.add_assoc,← Nat.add_assoc]at t1 t2;rw[t1,t2,Xq,Xq];cases h2:isW (tkA L (i+m+1)) (strB [46])with
  |false=>rw[h2]at e;cases e
  |true=>
   rw[h2]at e;simp only[aj,af]at e ⊢;cases h3:isW (tkA L (i+m+2)) (strB [84,73,77,69])with
   |true=>rw[h3]at e;exact e
   |false=>
    rw[h3]at e;simp only[af]at e ⊢;cases h4:nmF L (i+m+2)with
    |inl p=>rw[h4]at e;cases e
    |inr b2=>rw[h4]at e;have:=qla h (m+2) (by omega) (a:=b2) (by rw[← Nat.add_assoc];exact h4);rw[← Nat.add_assoc]at this;rw[this];exact e
theorem qnZ {i q:Nat}{x:Ex}{j:Nat}(e:agF L i q=.ok x j)(h:Agr L L' d c i j):agF L' (i+d) q=.ok (shX c x) (j+d):=by
 have hij:=qmt e;unfold agF at e ⊢;simp only at e ⊢;have t0:tkA L' (i+d)=shT c (tkA L i):=h i (Nat.le_refl _) hij.1;cases h1:isW (tkA L (i+1)) (strB [40])with
 |false=>rw[h1]at e;cases e
 |true=>
  rw[h1]at e;simp only[aj,af]at e;cases hq:q==0 with
  |true=>
   rw[hq]at e;simp only[ah]at e;split at e
   · cases e
   · rename_i a ha;cases h3:isW (tkA L (i+3)) (strB [41])with
     |false=>rw[h3]at e;cases e
     |true=>rw[h3]at e;cases e;rw[h.at 1 (by omega),Xq,h1,qla h 2 (by omega) ha,h.at 3 (by omega),Xq,h3,t0];simp only[aj,af,ah,QF,shT];rw[show i+d+4=i+4+d by omega]
  |false=>
   rw[hq]at e;simp only[af]at e;split at e
   · cases e
   · rename_i a b ha;cases h3:isW (tkA L (i+5)) (strB [41])with
     |false=>rw[h3]at e;cases e
     |true=>rw[h3]at e;cases e;rw[h.at 1 (by omega),Xq,h1,qm9 h 2 (by omega) ha,h.at 5 (by omega),Xq,h3,t0];simp only[aj,af,ah,QF,shT];rw[show i+d+6=i+6+d by omega]
theorem qfv {i:Nat}:(∀ x j,vD L i=.con (.ok x j)→Agr L L' d c i j→vD L' (i+d)=.con (.ok (shX c x) (j+d)))∧∀ e f,vD L i=.brk e f→Agr L L' d c i (i+e)→∃ f',vD L' (i+d)=.brk e f'∧∀ x,f' (shX c x)=shX c (f x):=by
 have hin:=xU (L:=L) (i:=i);have key:∀ m,i<m→Agr L L' d c i m→tkA L' (i+d)=shT c (tkA L i):=fun m hm h=>h i (Nat.le_refl _) hm;refine⟨fun x j h ha=>?_,fun e f h ha=>?_⟩
 ·
  have hj:=(hin.1 x j h).2;have t0:=key j hj.1 ha;clear hin key;unfold vD at h ⊢;simp only[t0]at h ⊢;simp only[shT];cases h3:(tkA L i).kind==3 with
  |true=>rw[h3]at h;cases h;simp only[ah,QF];rw[show i+d+1=i+1+d by omega]
  |false=>
  cases h4:(tkA L i).kind==4 with
  |true=>rw[h3,h4]at h;cases h;simp only[ah,af,QF];rw[show i+d+1=i+1+d by omega]
  |false=>
  cases h5:(tkA L i).kind==5 with
  |true=>rw[h3,h4,h5]at h;cases h;simp only[ah,af,QF];rw[show i+d+1=i+1+d by omega]
  |false=>
  cases h2:(tkA L i).kind==2 with
  |true=>
   rw[h3,h4,h5,h2]at h;simp only[ah,af]at h ⊢;cases hb:atF L i with
   |inl p=>rw[hb]at h;cases h
   |inr ab=>obtain⟨a,b⟩:=ab;rw[hb]at h;cases h;have:=qm9 (m:=0) ha (by omega) hb;rw[Nat.add_zero]at this;rw[this];simp only[QF];rw[show i+d+3=i+3+d by omega]
  |false=>
  cases h6:(tkA L i).kind==6 with
  |true=>
   rw[h3,h4,h5,h2,h6]at h;simp only[ah,af]at h;cases h7:(tkA L i).text.toList==(strB [40]).toList with
   |true=>rw[h7]at h;cases h
   |false=>rw[h7]at h;cases h
  |false=>
  cases h1:(tkA L i).kind==1 with
  |false=>rw[h3,h4,h5,h2,h6,h1]at h;cases h
  |true=>
   rw[h3,h4,h5,h2,h6,h1]at h;simp only[ah,af]at h ⊢;cases w0:(tkA L i).text.toList==(strB [84,82,85,69]).toList with
   |true=>rw[w0]at h;cases h;simp only[ah,QF];rw[show i+d+1=i+1+d by omega]
   |false=>
   cases w1:(tkA L i).text.toList==(strB [70,65,76,83,69]).toList with
   |true=>rw[w0,w1]at h;cases h;simp only[ah,af,QF];rw[show i+d+1=i+1+d by omega]
   |false=>
   cases w2:(tkA L i).text.toList==(strB [82,69,65,76]).toList||(tkA L i).text.toList==(strB [73,83,78,65,78]).toList with
   |true=>
    rw[w0,w1,w2]at h;simp only[ah,af]at h;cases w3:isW (tkA L (i+1)) (strB [40])with
    |true=>rw[w3]at h;cases h
    |false=>rw[w3]at h;cases h
   |false=>
    rw[w0,w1,w2]at h;simp only[af]at h ⊢;have h:=LK.con.inj h;have:agO L' (i+d) (tkA L i).text=.ok (shX c x) (j+d):=by
     unfold agO at h ⊢;split at h
     · cases h
     · rename_i q hq;exact qnZ h ha
    exact congrArg LK.con this
 ·
  have hj:=(hin.2 e f h).1;have t0:=key (i+e) (by omega) ha;clear hin key;unfold vD at h ⊢;simp only[t0]at h ⊢;simp only[shT];cases h3:(tkA L i).kind==3 with
  |true=>rw[h3]at h;cases h
  |false=>
  cases h4:(tkA L i).kind==4 with
  |true=>rw[h3,h4]at h;cases h
  |false=>
  cases h5:(tkA L i).kind==5 with
  |true=>rw[h3,h4,h5]at h;cases h
  |false=>
  cases h2:(tkA L i).kind==2 with
  |true=>rw[h3,h4,h5,h2]at h;simp only[ah,af]at h;split at h<;>cases h
  |false=>
  cases h6:(tkA L i).kind==6 with
  |true=>
   rw[h3,h4,h5,h2,h6]at h;simp only[ah,af]at h ⊢;cases h7:(tkA L i).text.toList==(strB [40]).toList with
   |true=>rw[h7]at h;cases h;exact⟨_,rfl,fun x=>rfl⟩
   |false=>rw[h7]at h;cases h
  |false=>
  cases h1:(tkA L i).kind==1 with
  |false=>rw[h3,h4,h5,h2,h6,h1]at h;cases h
  |true=>
   rw[h3,h4,h5,h2,h6,h1]at h;simp only[ah,af]at h ⊢;cases w0:(tkA L i).text.toList==(strB [84,82,85,69]).toList with
   |true=>rw[w0]at h;cases h
   |false=>
   cases w1:(tkA L i).text.toList==(strB [70,65,76,83,69]).toList with
   |true=>rw[w0,w1]at h;cases h
   |false=>
   cases w2:(tkA L i).text.toList==(strB [82,69,65,76]).toList||(tkA L i).text.toList==(strB [73,83,78,65,78]).toList with
   |true=>
    rw[w0,w1,w2]at h;simp only[ah,af]at h ⊢;cases w3:isW (tkA L (i+1)) (strB [40])with
    |false=>rw[w3]at h;cases h
    |true=>rw[w3]at h;cases h;rw[ha.at 1 (by omega),Xq,w3];exact⟨_,rfl,fun x=>(qkr _ _ _ _).symm⟩
   |false=>rw[w0,w1,w2]at h;cases h
def Dp (o o':Nat)(R r:Option PO):Prop:=r=R∨o<o'∧∃ p,r=some (.err p 14)
theorem Dp.bnd {o o':Nat}{x:Ex}{j:Nat}{r:Option PO}(h:Dp o o' (some (.ok x j)) r){f:Ex→Nat→Option PO}{R:Option PO}(hf:Dp o o' R (f x j)):Dp o o' R (bnd r f):=by
 rcases h with rfl|⟨h1,p,rfl⟩
 · exact hf
 · exact .inr ⟨h1,p,rfl⟩
theorem Dp.up {o o':Nat}{R r:Option PO}(h:Dp (o+1) (o'+1) R r):Dp o o' R r:=by
 rcases h with h|⟨h1,h2⟩
 · exact .inl h
 · exact .inr ⟨by omega,h2⟩
theorem qjN {o o':Nat}(ho:o≤o')(ho2:o'≤30)(h:(o==30)=false)(t:Tok){R r:Option PO}(hr:o'+1≤30→Dp o o' R r):Dp o o' R (nst t o' r):=by
 unfold nst;have:o≠30:=by simpa using h
 cases hb:o'==30 with
 |true=>
  have:o'=30:=by simpa using hb
  exact .inr ⟨by omega,_,rfl⟩
 |false=>
  have:o'≠30:=by simpa using hb
  exact hr (by omega)
theorem qlK {k:Nat}{f f':Ex→Ex}{y:Ex}{x:Ex}{j:Nat}(h:clo L f y k=some (.ok x j))(ht:tkA L' (k+d)=shT c (tkA L k))(hf:f' (shX c y)=shX c (f y)):clo L' f' (shX c y) (k+d)=some (.ok (shX c x) (j+d)):=by obtain⟨h1,rfl,rfl⟩:=qfy h;unfold clo;rw[ht,Xq,h1,hf];simp only[aj,af];rw[show k+d+1=k+1+d by omega]
theorem qkv {l j:Nat}(he:EndA L L' d c j)(h:opA l (tkA L j)=0):opA l (tkA L' (j+d))=0:=by
 rcases he with he|he
 · rw[he,qip];exact h
 · exact he l
theorem EndA.of {i j k:Nat}(ha:Agr L L' d c i j)(he:EndA L L' d c j)(h1:i≤k)(h2:k≤j):EndA L L' d c k:=by
 by_cases hk:k=j
 · rw[hk];exact he
 · exact .inl (ha k h1 (by omega))
theorem qjL:∀ n,(∀ l i o o' x j,l≤7→o≤o'→o'≤30→pp L n (.p l i o)=some (.ok x j)→Agr L L' d c i j→EndA L L' d c j→Dp o o' (some (.ok (shX c x) (j+d))) (pp L' n (.p l (i+d) o'))) ∧
  ∀ l y i o o' x j,l<7→i≤Lm L→o≤o'→o'≤30→pp L n (.lp l y i o)=some (.ok x j)→Agr L L' d c i j→EndA L L' d c j→Dp o o' (some (.ok (shX c x) (j+d))) (pp L' n (.lp l (shX c y) (i+d) o'))
 |0=>⟨fun _ _ _ _ _ _ _ _ _ h=>(by cases h),fun _ _ _ _ _ _ _ _ _ _ _ h=>by cases h⟩
 |n+1=>by
  obtain⟨ih,ihl⟩:=qjL n;have hin:=qeh L n;have un:∀ l i o o' w op x j,l<7→o≤o'→o'≤30→unF (tkA L i) (pp L n) l w op i o=some (.ok x j)→Agr L L' d c i j→EndA L L' d c j→i<j→Dp o o' (some (.ok (shX c x) (j+d))) (unF (tkA L' (i+d)) (pp L' n) l w op (i+d) o'):=by
   intro l i o o' w op x j hl ho ho2 h ha he hij;have t0:=ha i (Nat.le_refl _) hij;unfold unF at h ⊢;rw[t0,Xq];cases hb:isW (tkA L i) w with
   |false=>rw[hb]at h;exact ih _ _ _ _ _ _ (by omega) ho ho2 h ha he
   |true=>rw[hb]at h;obtain⟨h0,h⟩:=Xv h;obtain⟨y,k,h1,h2⟩:=yx h;cases h2;refine qjN ho ho2 h0 _ fun h3=>?_;have r:=ih l (i+1) (o+1) (o'+1) _ _ (by omega) (by omega) h3 h1 (ha.sub (by omega) (Nat.le_refl _)) he;rw[show i+1+d=i+d+1 by omega]at r;exact r.up.bnd (.inl (by rw[qkr];rfl))
  have bin:∀ l i o o' x j,l<7→o≤o'→o'≤30→(bnd (pp L n (.p (l+1) i o)) fun x j=>pp L n (.lp l x j o))=some (.ok x j)→Agr L L' d c i j→EndA L L' d c j→Dp o o' (some (.ok (shX c x) (j+d))) (bnd (pp L' n (.p (l+1) (i+d) o')) fun x j=>pp L' n (.lp l x j o')):=by intro l i o o' x j hl ho ho2 h ha he;obtain⟨y,k,h1,h2⟩:=yx h;have a:=hin.1 _ _ _ _ _ (by omega) h1;have b:=hin.2 _ _ _ _ _ _ hl a.2 h2;exact(ih _ _ _ _ _ _ (by omega) ho ho2 h1 (ha.sub (Nat.le_refl _) b.1) (EndA.of ha he (by omega) b.1)).bnd (ihl _ _ _ _ _ _ _ hl a.2 ho ho2 h2 (ha.sub (by omega) (Nat.le_refl _)) he)
  refine⟨fun l i o o' x j hl ho ho2 h ha he=>?_,fun l y i o o' x j hl hi ho ho2 h ha he=>?_⟩
  ·
   have hij:=(qeh L (n+1)).1 _ _ _ _ _ hl h
   match l,hl with
   |0,_=>exact bin 0 i o o' x j (by omega) ho ho2 h ha he
   |1,_=>exact bin 1 i o o' x j (by omega) ho ho2 h ha he
   |4,_=>exact bin 4 i o o' x j (by omega) ho ho2 h ha he
   |5,_=>exact bin 5 i o o' x j (by omega) ho ho2 h ha he
   |2,_=>exact un _ _ _ _ _ _ _ _ (by omega) ho ho2 h ha he hij.1
   |6,_=>exact un _ _ _ _ _ _ _ _ (by omega) ho ho2 h ha he hij.1
   |3,_=>
    rw[pp3]at h ⊢;obtain⟨y,k,h1,h2⟩:=yx h;have a:=hin.1 _ _ _ _ _ (by omega) h1;cases hb:opA 3 (tkA L k)!=0 with
    |false=>
     rw[hb]at h2;have h0:opA 3 (tkA L k)=0:=by simpa using hb
     cases h2;refine(ih _ _ _ _ _ _ (by omega) ho ho2 h1 ha he).bnd (.inl ?_);rw[qkv he h0];rfl
    |true=>rw[hb]at h2;obtain⟨z,m,h3,h4⟩:=yx h2;have b:=hin.1 _ _ _ _ _ (by omega) h3;cases h4;refine(ih _ _ _ _ _ _ (by omega) ho ho2 h1 (ha.sub (Nat.le_refl _) (by omega)) (EndA.of ha he (by omega) (by omega))).bnd ?_;rw[ha k (by omega) (by omega),qip,hb];simp only[ah];have r:=ih 4 (k+1) o o' _ _ (by omega) ho ho2 h3 (ha.sub (by omega) (Nat.le_refl _)) he;rw[show k+1+d=k+d+1 by omega]at r;exact r.bnd (.inl (by rw[qks];rfl))
   |7,_=>
    rw[pp7]at h ⊢;unfold Qm at h;split at h
    · rename_i out hk;cases h;have:=qfv.1 _ _ hk ha;unfold Qm;rw[this];exact .inl rfl
    · obtain⟨_,h⟩:=Xv h;cases h
    · rename_i e f hk;have hd:=(xU.2 _ _ hk).1;obtain⟨h0,h⟩:=Xv h;obtain⟨y,k,h1,h2⟩:=yx h;have a:=hin.1 _ _ _ _ _ (by omega) h1;have hj:=(qfy h2).2.2;obtain⟨f',h3,h4⟩:=qfv.2 _ _ hk (ha.sub (Nat.le_refl _) (by omega));unfold Qm;rw[h3];refine qjN ho ho2 h0 _ fun h5=>?_;have r:=ih 0 (i+e) (o+1) (o'+1) _ _ (by omega) (by omega) h5 h1 (ha.sub (by omega) (by omega)) (Or.inl (ha k (by omega) (by omega)));rw[show i+e+d=i+d+e by omega]at r;exact r.up.bnd (.inl (qlK h2 (ha k (by omega) (by omega)) (h4 y)))
  ·
   rw[ppl]at h ⊢;cases hb:opA l (tkA L i)==0 with
   |true=>
    rw[hb]at h;cases h;have:opA l (tkA L i)=0:=by simpa using hb
    rw[qkv he this];exact .inl rfl
   |false=>rw[hb]at h;obtain⟨z,m,h3,h4⟩:=yx h;have a:=hin.1 _ _ _ _ _ (by omega) h3;have b:=hin.2 _ _ _ _ _ _ hl a.2 h4;rw[ha i (Nat.le_refl _) (by omega),qip,hb];simp only[af];have r:=ih (l+1) (i+1) o o' _ _ (by omega) ho ho2 h3 (ha.sub (by omega) b.1) (EndA.of ha he (by omega) b.1);rw[show i+1+d=i+d+1 by omega]at r;refine r.bnd ?_;have r2:=ihl _ _ _ _ _ _ _ hl a.2 ho ho2 h4 (ha.sub (by omega) (Nat.le_refl _)) he;rw[qks]at r2;exact r2
end
end Ab
end Go.Proofs.YtpdhhkfllkgahaaGreatDoor

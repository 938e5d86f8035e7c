import Derived.Test.YtpdhhkfllkgahaaGreatDoorPeq
import Derived.Test.YtpdhhkfllkgahaaGreatDoorPfq
import Derived.KernelRfl
set_option linter.all false
namespace Go.Proofs.YtpdhhkfllkgahaaGreatDoor
namespace Ab
theorem qmm {L:List Tok}{i q:Nat}{p e:Int}(h:agF L i q=.err p e):e=13:=by
 unfold agF at h;simp only at h;cases h1:isW (tkA L (i+1)) (strB [40])with
 |false=>rw[h1]at h;cases h;rfl
 |true=>
  rw[h1]at h;simp only[aj,af]at h;cases hq:q==0 with
  |true=>
   rw[hq]at h;simp only[ah]at h;split at h
   · cases h;rfl
   · cases h3:isW (tkA L (i+3)) (strB [41])with
     |false=>rw[h3]at h;cases h;rfl
     |true=>rw[h3]at h;cases h
  |false=>
   rw[hq]at h;simp only[af]at h;split at h
   · cases h;rfl
   · cases h3:isW (tkA L (i+5)) (strB [41])with
     |false=>rw[h3]at h;cases h;rfl
     |true=>rw[h3]at h;cases h
theorem qg1 {L:List Tok}{i:Nat}{p e:Int}(h:vD L i=.con (.err p e)):e=13:=by
 unfold vD at h;simp only at h;cases h3:(tkA L i).kind==3 with
 |true=>rw[h3]at h;cases h
 |false=>
 cases h4:(tkA L i).kind==4 with
 |true=>rw[h3,h4]at h;cases h
 |false=>
 cases h5:(tkA L i).kind==5 with
 |true=>rw[h3,h4,h5]at h;cases h
 |false=>
 cases h2:(tkA L i).kind==2 with
 |true=>rw[h3,h4,h5,h2]at h;simp only[ah,af]at h;split at h<;>cases h;rfl
 |false=>
 cases h6:(tkA L i).kind==6 with
 |true=>
  rw[h3,h4,h5,h2,h6]at h;simp only[ah,af]at h;cases h7:(tkA L i).text.toList==(strB [40]).toList with
  |true=>rw[h7]at h;cases h
  |false=>rw[h7]at h;cases h;rfl
 |false=>
 cases h1:(tkA L i).kind==1 with
 |false=>rw[h3,h4,h5,h2,h6,h1]at h;cases h;rfl
 |true=>
  rw[h3,h4,h5,h2,h6,h1]at h;simp only[ah,af]at h;cases w0:(tkA L i).text.toList==(strB [84,82,85,69]).toList with
  |true=>rw[w0]at h;cases h
  |false=>
  cases w1:(tkA L i).text.toList==(strB [70,65,76,83,69]).toList with
  |true=>rw[w0,w1]at h;cases h
  |false=>
  cases w2:(tkA L i).text.toList==(strB [82,69,65,76]).toList||(tkA L i).text.toList==(strB [73,83,78,65,78]).toList with
  |true=>
   rw[w0,w1,w2]at h;simp only[ah,af]at h;cases w3:isW (tkA L (i+1)) (strB [40])with
   |true=>rw[w3]at h;cases h
   |false=>rw[w3]at h;cases h
  |false=>
   rw[w0,w1,w2]at h;simp only[af]at h;have h:=LK.con.inj h;unfold agO at h;split at h
   · cases h;rfl
   · exact qmm h
theorem qee {t:Tok}{o:Nat}{k:Option PO}{p e:Int}(h:nst t o k=some (.err p e))(hk:k=some (.err p e)→e=13∨e=14):e=13∨e=14:=by
 unfold nst at h;cases h1:o==30 with
 |true=>rw[h1]at h;cases h;exact .inr rfl
 |false=>rw[h1]at h;exact hk h
theorem qo7 {o:Option PO}{f:Ex→Nat→Option PO}{p e:Int}(h:bnd o f=some (.err p e))(h1:o=some (.err p e)→e=13∨e=14)(h2:∀ x j,f x j=some (.err p e)→e=13∨e=14):e=13∨e=14:=by
 rcases ZV h with⟨q,z,h3,h4⟩|⟨x,i,h3,h4⟩
 · cases h4;exact h1 h3
 · exact h2 _ _ h4
theorem qli {L:List Tok}{f:Ex→Ex}{x:Ex}{j:Nat}{p e:Int}(h:clo L f x j=some (.err p e)):e=13∨e=14:=by
 unfold clo at h;cases h1:isW (tkA L j) (strB [41])with
 |false=>rw[h1]at h;cases h;exact .inl rfl
 |true=>rw[h1]at h;cases h
theorem qix (L:List Tok):∀ n s p e,pp L n s=some (.err p e)→e=13∨e=14
 |0,_,_,_,h=>by cases h
 |n+1,s,p,e,h=>by
  have ih:=qix L n;have un:∀ (t:Tok) l i o w op,unF t (pp L n) l w op i o=some (.err p e)→e=13∨e=14:=by
   intro t l i o w op h;unfold unF at h;cases hb:isW t w with
   |false=>rw[hb]at h;exact ih _ _ _ h
   |true=>rw[hb]at h;exact qee h fun h=>qo7 h (ih _ _ _) fun x j h=>by cases h
  match s,h with
  |.p 7 i o,h=>
   rw[pp7]at h;unfold Qm at h;split at h
   · rename_i hk;cases h;exact .inl (qg1 hk)
   · exact qee h fun h=>by cases h;exact .inl rfl
   · exact qee h fun h=>qo7 h (ih _ _ _) fun x j h=>qli h
  |.p 6 i o,h=>exact un _ _ _ _ _ _ h
  |.p 2 i o,h=>exact un _ _ _ _ _ _ h
  |.p 3 i o,h=>
   rw[pp3]at h;refine qo7 h (ih _ _ _) fun x j h=>?_;cases hb:opA 3 (tkA L j)!=0 with
   |false=>rw[hb]at h;cases h
   |true=>rw[hb]at h;exact qo7 h (ih _ _ _) fun x j h=>by cases h
  |.p 0 i o,h=>exact qo7 (f:=fun x j=>pp L n (.lp 0 x j o)) h (ih _ _ _) fun x j h=>ih _ _ _ h
  |.p 1 i o,h=>exact qo7 (f:=fun x j=>pp L n (.lp 1 x j o)) h (ih _ _ _) fun x j h=>ih _ _ _ h
  |.p 4 i o,h=>exact qo7 (f:=fun x j=>pp L n (.lp 4 x j o)) h (ih _ _ _) fun x j h=>ih _ _ _ h
  |.p 5 i o,h=>exact qo7 (f:=fun x j=>pp L n (.lp 5 x j o)) h (ih _ _ _) fun x j h=>ih _ _ _ h
  |.p (l+8) i o,h=>exact qo7 (f:=fun x j=>pp L n (.lp (l+8) x j o)) h (ih _ _ _) fun x j h=>ih _ _ _ h
  |.lp l x j o,h=>
   rw[ppl]at h;cases hb:opA l (tkA L j)==0 with
   |true=>rw[hb]at h;cases h
   |false=>rw[hb]at h;exact qo7 h (ih _ _ _) fun x j h=>ih _ _ _ h
def z0:Ex:=lit 0 0 0 (strB []) (strB []) 0
theorem qlr (L:List Tok):qG (rwT L)=rwT L:=by rw[Yr];unfold rwT;rw[List.map_map];rfl
section
variable [vo]
def R44of (L:List Tok):PO→R44
 |.err p e=>.inl (0,0,0,strB [],strB [],0,0,p,e)
 |.ok x j=>.inr (x.op,qg x.args,x.n,x.scale,x.name,x.attr,x.pos,(j:Int),0,0)
theorem qoX {L:List Tok}{i:Nat}(h0:i<L.length)(hi:i≤Lm L)(hL:L.length<5000){n:Nat}{out:PO}(h:pp L n (.p 0 i 0)=some out):Tot (fun k=>g44 k (rwT L) (i:Int)) (R44of L out):=by
 obtain⟨r,h1,h2⟩:=(pw (Nat.lt_of_le_of_lt (qnp L) hL) n).1 0 i 0 out (by omega) (by omega) (by omega) h;have a1:Tot (fun k=>g63 k (rwT L) (i:Int) 0) r:=by obtain⟨N,hN⟩:=h1;exact⟨N,fun k hk=>by have:=hN k hk;show qwI (itS qpc k (.e_63 (rwT L) (i:Int) 0))=some r;simp only at this;have e:((0:Nat):Int)=0:=rfl;rw[e]at this;rw[this];rfl⟩
 have dd:decide ((i:Int)≥((rwT L).length:Int))=false:=aN (by rw[qhr];omega);have dn:decide ((i:Int)<0)=false:=aN (by omega);cases out with
 |err p e=>
  obtain⟨u,v,rfl⟩:=h2;have s1:Goes qq1 (.h0 (rwT L) (i:Int) false 0 0 0 0 0 0 (strB []) (strB []) 0) (R44of L (.err p e)):=.of1 a1 fun k b=>by simp only[qq1,af,b,ae,altC,tup5];rfl
  exact Goes.rec0 (step:=qq1) (s:=.e (rwT L) (i:Int)) s1 fun k rec=>by simp only[qq1,dd,dn];rfl
 |ok x j=>
  cases h2;have s0:Goes qq1 (.h2 0 0 j x.op (qg x.args) x.n x.scale x.name x.attr x.pos) (R44of L (.ok x j)):=.fin0 fun k rec=>rfl;have s1:Goes qq1 (.h0 (rwT L) (i:Int) false 0 0 0 0 0 0 (strB []) (strB []) 0) (R44of L (.ok x j)):=.of2 a1 s0 fun k b b2=>by simp only[qq1,af,b,ae,altC,ql];exact b2
  exact Goes.rec0 (step:=qq1) (s:=.e (rwT L) (i:Int)) s1 fun k rec=>by simp only[qq1,dd,dn];rfl
end
theorem qcP (a b:ByteArray)(i:Nat):bAt (a++b) i=if i<a.size then bAt a i else bAt b (i-a.size):=by
 unfold bAt;rw[YO,List.getD_eq_getElem?_getD,List.getD_eq_getElem?_getD,List.getD_eq_getElem?_getD];split
 · rename_i h;rw[aY (by rw[qD];exact h)]
 · rename_i h;rw[aZ (by rw[qD];omega),qD]
theorem qkE (T:List Tok)(t:Tok):tkA (T++[t]) T.length=t:=by simp[tkA]
theorem qle {T:List Tok}{R:List Tok}{i:Nat}(h:i<T.length):tkA (T++R) i=tkA T i:=by unfold tkA;rw[aY h]
theorem qka (T:List Tok)(s:ByteArray):Lm (T++[endT s])=T.length:=by
 unfold Lm;have:(T++[endT s]).length-1=T.length:=by simp
 rw[this,qkE];rfl
theorem up1 {L:List Tok}{n l i o:Nat}{out:PO}(hl:l≤6)(h:pp L (n+1) (.p (l+1) i o)=some out)(h6:l=6→isW (tkA L i) (strB [45])=false)(h2:l=2→isW (tkA L i) (strB [78,79,84])=false)(hs:∀ x j,out=.ok x j→opA l (tkA L j)=0):pp L (n+2) (.p l i o)=some out:=by
 have bin:l<7→(bnd (pp L (n+1) (.p (l+1) i o)) fun x j=>pp L (n+1) (.lp l x j o))=some out:=by
  intro hl;rw[h];cases out with
  |err p e=>rfl
  |ok x j=>show pp L (n+1) (.lp l x j o)=_;rw[ppl,hs x j rfl];rfl
 match l,hl with
 |0,_=>exact bin (by omega)
 |1,_=>exact bin (by omega)
 |4,_=>exact bin (by omega)
 |5,_=>exact bin (by omega)
 |2,_=>rw[pp2];unfold unF;rw[h2 rfl];exact h
 |6,_=>rw[pp6];unfold unF;rw[h6 rfl];exact h
 |3,_=>
  rw[pp3,h];cases out with
  |err p e=>rfl
  |ok x j=>show(bif _ then _ else _)=_;rw[hs x j rfl];rfl
section
section
variable {s:ByteArray} {T:List Tok} (hT:yn s (s.size+1) 0=.inl (T++[endT s])) (hl:T.length≤s.size)
include hT hl
end
end
theorem upr {L:List Tok}{n i o:Nat}{out:PO}(a b:Nat)(hab:b≤a)(ha:a≤7)(h:pp L (n+1) (.p a i o)=some out)(h6:isW (tkA L i) (strB [45])=false)(h2:isW (tkA L i) (strB [78,79,84])=false)(hs:∀ x j,out=.ok x j→∀ m,b≤m→m<a→opA m (tkA L j)=0):pp L (n+1+(a-b)) (.p b i o)=some out:=by
 obtain⟨d,hd⟩:∃ d,d=a-b:=⟨_,rfl⟩
 rw[← hd]
 induction d generalizing b with
 |zero=>
  have:b=a:=by omega
  subst this;exact h
 |succ d ih=>have:=ih (b+1) (by omega) (fun x j e m h1 h2=>hs x j e m (by omega) h2) (by omega);rw[show n+1+d=(n+d)+1 by omega]at this;rw[show n+1+(d+1)=(n+d)+2 by omega];exact up1 (by omega) this (fun _=>h6) (fun _=>h2) fun x j e=>hs x j e b (Nat.le_refl _) (by omega)
def midO (op:Int)(x:Ex)(p:Int):PO→PO
 |.err p e=>.err p e
 |.ok y k=>.ok (two op x y p) k
theorem mid {L:List Tok}{n l i o:Nat}{x:Ex}{j:Nat}{out:PO}(hl:l=0∨l=1∨l=3∨l=4∨l=5)(h1:pp L (n+2) (.p (l+1) i o)=some (.ok x j))(h0:opA l (tkA L j)≠0)(h2:pp L (n+1) (.p (l+1) (j+1) o)=some out)(hs:∀ y k,out=.ok y k→opA l (tkA L k)=0):pp L (n+3) (.p l i o)=some (midO (opA l (tkA L j)) x (tkA L j).pos out):=by
 have h0':(opA l (tkA L j)==0)=false:=by simpa using h0
 have bin:(bnd (pp L (n+2) (.p (l+1) i o)) fun x j=>pp L (n+2) (.lp l x j o))=some (midO (opA l (tkA L j)) x (tkA L j).pos out):=by
  rw[h1];show pp L (n+2) (.lp l x j o)=_;rw[ppl,h0',af,h2];cases out with
  |err p e=>rfl
  |ok y k=>show pp L (n+1) (.lp l _ k o)=_;rw[ppl,hs y k rfl];rfl
 rcases hl with rfl|rfl|rfl|rfl|rfl
 · exact bin
 · exact bin
 ·
  rw[pp3,h1];have h0'':(opA 3 (tkA L j)!=0)=true:=by rw[bne,h0'];rfl
  show(bif opA 3 (tkA L j)!=0 then bnd (pp L (n+2) (.p 4 (j+1) o)) _ else _)=_;rw[h0'',ah,qoA L _ _ _ h2];cases out with
  |err p e=>rfl
  |ok y k=>rfl
 · exact bin
 · exact bin
end Ab
end Go.Proofs.YtpdhhkfllkgahaaGreatDoor

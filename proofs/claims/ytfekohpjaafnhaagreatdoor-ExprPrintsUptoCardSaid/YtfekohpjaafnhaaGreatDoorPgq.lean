/-
  What Read and Parse of the program tell, by the plain scanner and the plain parser.
-/
import Derived.Test.YtfekohpjaafnhaaGreatDoorPeq
import Derived.Test.YtfekohpjaafnhaaGreatDoorPfq
set_option linter.all false
namespace Go.Proofs.YtfekohpjaafnhaaGreatDoor
namespace Ab
theorem qmm {L:List Tok}{i q:Nat}{p e:Int}(h:agF L i q=.err p e):e=13:=by
 unfold agF at h;simp only at h;cases h1:isW (tkA L (i+1)) (strB [40])with
 |false=>rw[h1]at h;cases h;rfl
 |true=>
  rw[h1]at h;simp only[aj,af]at h;cases hq:q==0 with
  |true=>
   rw[hq]at h;simp only[ah]at h;split at h
   · cases h;rfl
   · cases h3:isW (tkA L (i+3)) (strB [41])with
     |false=>rw[h3]at h;cases h;rfl
     |true=>rw[h3]at h;cases h
  |false=>
   rw[hq]at h;simp only[af]at h;split at h
   · cases h;rfl
   · cases h3:isW (tkA L (i+5)) (strB [41])with
     |false=>rw[h3]at h;cases h;rfl
     |true=>rw[h3]at h;cases h
theorem qg1 {L:List Tok}{i:Nat}{p e:Int}(h:vD L i=.con (.err p e)):e=13:=by
 unfold vD at h;simp only at h;cases h3:(tkA L i).kind==3 with
 |true=>rw[h3]at h;cases h
 |false=>
 cases h4:(tkA L i).kind==4 with
 |true=>rw[h3,h4]at h;cases h
 |false=>
 cases h5:(tkA L i).kind==5 with
 |true=>rw[h3,h4,h5]at h;cases h
 |false=>
 cases h2:(tkA L i).kind==2 with
 |true=>rw[h3,h4,h5,h2]at h;simp only[ah,af]at h;split at h<;>cases h;rfl
 |false=>
 cases h6:(tkA L i).kind==6 with
 |true=>
  rw[h3,h4,h5,h2,h6]at h;simp only[ah,af]at h;cases h7:(tkA L i).text.toList==(strB [40]).toList with
  |true=>rw[h7]at h;cases h
  |false=>rw[h7]at h;cases h;rfl
 |false=>
 cases h1:(tkA L i).kind==1 with
 |false=>rw[h3,h4,h5,h2,h6,h1]at h;cases h;rfl
 |true=>
  rw[h3,h4,h5,h2,h6,h1]at h;simp only[ah,af]at h;cases w0:(tkA L i).text.toList==(strB [84,82,85,69]).toList with
  |true=>rw[w0]at h;cases h
  |false=>
  cases w1:(tkA L i).text.toList==(strB [70,65,76,83,69]).toList with
  |true=>rw[w0,w1]at h;cases h
  |false=>
  cases w2:(tkA L i).text.toList==(strB [82,69,65,76]).toList||(tkA L i).text.toList==(strB [73,83,78,65,78]).toList with
  |true=>
   rw[w0,w1,w2]at h;simp only[ah,af]at h;cases w3:isW (tkA L (i+1)) (strB [40])with
   |true=>rw[w3]at h;cases h
   |false=>rw[w3]at h;cases h
  |false=>
   rw[w0,w1,w2]at h;simp only[af]at h;have h:=LK.con.inj h;unfold agO at h;split at h
   · cases h;rfl
   · exact qmm h
theorem qee {t:Tok}{o:Nat}{k:Option PO}{p e:Int}(h:nst t o k=some (.err p e))(hk:k=some (.err p e)→e=13∨e=14):e=13∨e=14:=by
 unfold nst at h;cases h1:o==30 with
 |true=>rw[h1]at h;cases h;exact .inr rfl
 |false=>rw[h1]at h;exact hk h
theorem qo7 {o:Option PO}{f:Ex→Nat→Option PO}{p e:Int}(h:bnd o f=some (.err p e))(h1:o=some (.err p e)→e=13∨e=14)(h2:∀ x j,f x j=some (.err p e)→e=13∨e=14):e=13∨e=14:=by
 rcases ZV h with⟨q,z,h3,h4⟩|⟨x,i,h3,h4⟩
 · cases h4;exact h1 h3
 · exact h2 _ _ h4
theorem qli {L:List Tok}{f:Ex→Ex}{x:Ex}{j:Nat}{p e:Int}(h:clo L f x j=some (.err p e)):e=13∨e=14:=by
 unfold clo at h;cases h1:isW (tkA L j) (strB [41])with
 |false=>rw[h1]at h;cases h;exact .inl rfl
 |true=>rw[h1]at h;cases h
theorem qix (L:List Tok):∀ n s p e,pp L n s=some (.err p e)→e=13∨e=14
 |0,_,_,_,h=>by cases h
 |n+1,s,p,e,h=>by
  have ih:=qix L n;have un:∀ (t:Tok) l i o w op,unF t (pp L n) l w op i o=some (.err p e)→e=13∨e=14:=by
   intro t l i o w op h;unfold unF at h;cases hb:isW t w with
   |false=>rw[hb]at h;exact ih _ _ _ h
   |true=>rw[hb]at h;exact qee h fun h=>qo7 h (ih _ _ _) fun x j h=>by cases h
  match s,h with
  |.p 7 i o,h=>
   rw[pp7]at h;unfold Qm at h;split at h
   · rename_i hk;cases h;exact .inl (qg1 hk)
   · exact qee h fun h=>by cases h;exact .inl rfl
   · exact qee h fun h=>qo7 h (ih _ _ _) fun x j h=>qli h
  |.p 6 i o,h=>exact un _ _ _ _ _ _ h
  |.p 2 i o,h=>exact un _ _ _ _ _ _ h
  |.p 3 i o,h=>
   rw[pp3]at h;refine qo7 h (ih _ _ _) fun x j h=>?_;cases hb:opA 3 (tkA L j)!=0 with
   |false=>rw[hb]at h;cases h
   |true=>rw[hb]at h;exact qo7 h (ih _ _ _) fun x j h=>by cases h
  |.p 0 i o,h=>exact qo7 (f:=fun x j=>pp L n (.lp 0 x j o)) h (ih _ _ _) fun x j h=>ih _ _ _ h
  |.p 1 i o,h=>exact qo7 (f:=fun x j=>pp L n (.lp 1 x j o)) h (ih _ _ _) fun x j h=>ih _ _ _ h
  |.p 4 i o,h=>exact qo7 (f:=fun x j=>pp L n (.lp 4 x j o)) h (ih _ _ _) fun x j h=>ih _ _ _ h
  |.p 5 i o,h=>exact qo7 (f:=fun x j=>pp L n (.lp 5 x j o)) h (ih _ _ _) fun x j h=>ih _ _ _ h
  |.p (l+8) i o,h=>exact qo7 (f:=fun x j=>pp L n (.lp (l+8) x j o)) h (ih _ _ _) fun x j h=>ih _ _ _ h
  |.lp l x j o,h=>
   rw[ppl]at h;cases hb:opA l (tkA L j)==0 with
   |true=>rw[hb]at h;cases h
   |false=>rw[hb]at h;exact qo7 h (ih _ _ _) fun x j h=>ih _ _ _ h
def z0:Ex:=lit 0 0 0 (strB []) (strB []) 0
def outP (L:List Tok):PO→Ex×Int×Int
 |.err p e=>(z0,p,e)
 |.ok x j=>if (tkA L j).kind=0 then(if cnt x≤200 then(x,0,0)else(z0,0,2))else(z0,(tkA L j).pos,13)
def parT (s:ByteArray)(n:Nat):Option (Ex×Int×Int):=if s.size≤4000 then(match yn s (s.size+1) 0 with
 |.inr z=>some (z0,(z:Int),12)
 |.inl L=>(pp L n (.p 0 0 0)).map (outP L))else some (z0,0,2)
theorem qlr (L:List Tok):qG (rwT L)=rwT L:=by rw[Yr];unfold rwT;rw[List.map_map];rfl
def exT (r:Ex×Int×Int):R6:=(r.1.op,qg r.1.args,r.1.n,r.1.scale,r.1.name,r.1.attr,r.1.pos,r.2.1,r.2.2)
section
variable [vo]
def R12of (L:List Tok):PO→R12
 |.err p e=>.inl (0,0,0,strB [],strB [],0,0,p,e)
 |.ok x j=>.inr (x.op,qg x.args,x.n,x.scale,x.name,x.attr,x.pos,(j:Int),0,0)
theorem qyo {L:List Tok}(h0:0<L.length)(hL:L.length<5000){n:Nat}{out:PO}(h:pp L n (.p 0 0 0)=some out):Tot (fun k=>g12 k (rwT L) 0) (R12of L out):=by
 obtain⟨r,h1,h2⟩:=(pw (Nat.lt_of_le_of_lt (qnp L) hL) n).1 0 0 0 out (by omega) (by omega) (by omega) h;have a1:Tot (fun k=>g24 k (rwT L) 0 0) r:=by obtain⟨N,hN⟩:=h1;exact⟨N,fun k hk=>by have:=hN k hk;show qpO (itS qj6 k (.e_24 (rwT L) 0 0))=some r;simp only at this;have e:((0:Nat):Int)=0:=rfl;rw[e]at this;rw[this];rfl⟩
 have dd:decide ((0:Int)≥((rwT L).length:Int))=false:=aN (by rw[qhr];omega);cases out with
 |err p e=>
  obtain⟨u,v,rfl⟩:=h2;have s1:Goes qmH (.h0 (rwT L) 0 false 0 0 0 0 0 0 (strB []) (strB []) 0) (R12of L (.err p e)):=.of1 a1 fun k b=>by simp only[qmH,af,b,ae,altC,tup5];rfl
  exact Goes.rec0 (step:=qmH) (s:=.e (rwT L) 0) s1 fun k rec=>by simp only[qmH,dd];rfl
 |ok x j=>
  cases h2;have s0:Goes qmH (.h2 0 0 j x.op (qg x.args) x.n x.scale x.name x.attr x.pos) (R12of L (.ok x j)):=.fin0 fun k rec=>rfl;have s1:Goes qmH (.h0 (rwT L) 0 false 0 0 0 0 0 0 (strB []) (strB []) 0) (R12of L (.ok x j)):=.of2 a1 s0 fun k b b2=>by simp only[qmH,af,b,ae,altC,ql];exact b2
  exact Goes.rec0 (step:=qmH) (s:=.e (rwT L) 0) s1 fun k rec=>by simp only[qmH,dd];rfl
theorem qyy {s:ByteArray}{n:Nat}{r:Ex×Int×Int}(h:parT s n=some r):Tot (fun k=>g6 k s) (exT r):=by
 unfold parT at h;have bad:∀ p e:Int,e≠0→Goes qn9 (.h0 [] p e (e != 0) 0 0 0 (strB []) (strB []) 0) (exT (z0,p,e)):=fun p e he=>by
  have:(e != 0)=true:=by simpa using he
  rw[this];have s1:Goes qn9 (.h1 p e 0 [] 0 0 (strB []) (strB []) 0) (exT (z0,p,e)):=.fin0 fun k rec=>rfl;exact .rec0 s1 fun k rec=>rfl
 split at h
 ·
  rename_i hs;have sc:=qtr hs;rw[qjQ]at sc;cases hT:yn s (s.size+1) 0 with
  |inr z=>rw[hT]at h sc;cases h;exact Goes.of2 (step:=qn9) (s:=.e s) sc (bad z 12 (by omega)) fun k b b2=>by simp only[qn9,b,qpo,ae,altC,tup2];exact b2
  |inl L=>
   rw[hT]at h sc;simp only at h;obtain⟨T,rfl,hk,hl⟩:=vE s _ _ _ (Nat.zero_le _) hT;generalize hL:T++[endT s]=L at h sc;have hlen:L.length=T.length+1:=by rw[← hL];simp
   cases hp:pp L n (.p 0 0 0)with
   |none=>rw[hp]at h;cases h
   |some out=>
    rw[hp]at h;cases h;have rd:=qyo (L:=L) (by omega) (by omega) hp;have sc':Tot (fun k=>g10 k s) (.inl (rwT L,0,0)):=by
     have:qpo [] (.inl (rwT L))=.inl (rwT L,0,0):=by show(Sum.inl (qG ([]++rwT L),0,0):R10)=_;rw[List.nil_append,qlr]
     rw[← this];exact sc
    have into:∀ r,Goes qn9 (.h0 (rwT L) 0 0 false 0 0 0 (strB []) (strB []) 0) r→Goes qn9 (.e s) r:=fun r h=>.of2 sc' h fun k b b2=>by simp only[qn9,b,ae,altC,tup3];exact b2
    refine into _ ?_;cases out with
    |err p e=>
     have he:e≠0:=by rcases qix _ _ _ _ _ hp with h|h<;>omega
     have hb:(e != 0)=true:=by simpa using he
     have s1:Goes qn9 (.h3 p e 0 [] 0 0 (strB []) (strB []) 0) (exT (z0,p,e)):=.fin0 fun k rec=>rfl;have s2:Goes qn9 (.h2 (rwT L) p e 0 (e != 0) 0 [] 0 0 (strB []) (strB []) 0 0 0 0 (strB []) (strB []) 0) (exT (z0,p,e)):=.rec0 s1 fun k rec=>by simp only[qn9,hb,ah]
     exact .of2 rd s2 fun k b b2=>by simp only[qn9,af,b,R12of,ae,altC,tup9];exact b2
    |ok x j=>
     have hj:=(qeh L n).1 0 0 0 x j (by omega) hp;have hc:=(qjS L n).1 0 0 0 x j (by omega) hp;have hjl:j<L.length:=by
      have:Lm L=T.length:=by unfold Lm;rw[aD (by rw[hlen,← hL];simp[tkA,endT])];omega
      omega
     have into2:∀ r,Goes qn9 (.h2 (rwT L) 0 0 (j:Int) false x.op (qg x.args) x.n x.scale x.name x.attr x.pos 0 0 0 (strB []) (strB []) 0) r→Goes qn9 (.h0 (rwT L) 0 0 false 0 0 0 (strB []) (strB []) 0) r:=fun r h=>.of2 rd h fun k b b2=>by simp only[qn9,af,b,R12of,ae,altC,ql];exact b2
     refine into2 _ ?_;unfold outP;simp only;by_cases hk:(tkA L j).kind=0
     · rw[aD hk];have hkb:((tkA L j).kind != 0)=false:=by simpa using hk
       have nd:Tot (fun k=>g17 k x.op (qg x.args) x.n x.scale x.name x.attr x.pos) (cnt x:Int):=qwC _ x (Nat.le_refl _) (by omega);by_cases hcn:cnt x≤200
       · rw[aD hcn];have s1:Goes qn9 (.h6 0 0 x.op (qg x.args) x.n x.scale x.name x.attr x.pos) (exT (x,0,0)):=.fin0 fun k rec=>rfl;refine .of2 nd s1 fun k b b2=>?_;simp only[qn9,af,Yi (qfK hjl),qjp,hkb,b,ae,show decide (((cnt x:Nat):Int)>200)=false from aN (by omega)];exact b2
       · rw[aF hcn];have s1:Goes qn9 (.h5 0 2 0 [] 0 0 (strB []) (strB []) 0) (exT (z0,0,2)):=.fin0 fun k rec=>rfl;refine .of2 nd s1 fun k b b2=>?_;simp only[qn9,af,Yi (qfK hjl),qjp,hkb,b,ae,show decide (((cnt x:Nat):Int)>200)=true from aO (by omega),ah];exact b2
     · rw[aF hk];have hkb:((tkA L j).kind != 0)=true:=by simpa using hk
       have s1:Goes qn9 (.h4 (tkA L j).pos 13 0 [] 0 0 (strB []) (strB []) 0) (exT (z0,(tkA L j).pos,13)):=.fin0 fun k rec=>rfl;exact .rec0 s1 fun k rec=>by simp only[qn9,af,Yi (qfK hjl),qjp,hkb,ah]
 · rename_i hs;cases h;have s1:Goes qn9 (.h1 0 2 0 [] 0 0 (strB []) (strB []) 0) (exT (z0,0,2)):=.fin0 fun k rec=>rfl;have s2:Goes qn9 (.h0 [] 0 2 ((2:Int)!=0) 0 0 0 (strB []) (strB []) 0) (exT (z0,0,2)):=.rec0 s1 fun k rec=>rfl;exact Goes.of2 (step:=qn9) (s:=.e s) (qrN hs) s2 fun k b b2=>by simp only[qn9,b,ae,altC,tup3];exact b2
end
end Ab
end Go.Proofs.YtfekohpjaafnhaaGreatDoor

/-
  The document's parser: aggregates and words.
-/
import Derived.Test.YtgfbbmjoflehlaaGreatDoorZcq
set_option linter.all false
namespace Go.Proofs.YtgfbbmjoflehlaaGreatDoor
namespace Ab
section
variable [vo] {L:List Tok} {i j o:Nat} {x:Ex}
def R125of (L:List Tok)(out:PO)(r:R125b):Prop:=match out with
 |.err p e=>∃ (j q:Int) (a b:By),r=(rwT L,j,e,p,q,[],a,b)
 |.ok x j=>r=(rwT L,(j:Int),0,0,x.op,[],x.name,x.attr)
abbrev agR:Rs:=agN.map fun s=>[sc s]
theorem qsP {q:Nat}(hq:q<7){α}(f:By->Option α):(ixR agR (q:Int) fun t=>un_s t f)=f (agN[q]?.getD (strB [])):=by
 have e1:agN[q]? = some (agN[q]?.getD (strB [])):=by rw[ax (show q<agN.length from hq)];rfl
 have e2:agR[q]? = some [sc (agN[q]?.getD (strB []))]:=by grind
 rw[Yi e2];rfl
theorem qr1 (R v o e p w)(hw:(w==0)=false)(n a b)(f):∀ (m q:Nat),7-q=m->q<=7->Goes qu2 (.h0 agR 7 (q:Int) R v o e p w [] 0 n a b f) (R,v,e,p,w,[],a,b)
 |0,q,hm,hq=>.fin0 fun k rec=>by simp only[nt,qu2,show decide ((q:Int)<7)=false from ltF (show ¬ q<7 by omega),hw,af]
 |m+1,q,hm,hq=>by
  have hq7:q<7:=by omega
  have ih:=qr1 R v o e p w hw n a b f m (q+1) (by omega) (by omega);have s3:Goes qu2 (.h3 agR 7 (q:Int) R v o e p w [] 0 n a b f) (R,v,e,p,w,[],a,b):=.rec0 ih fun k rec=>by simp only[nt,qu2,zq q (by omega)]
  have s1:Goes qu2 (.h1 (q:Int) agR 7 (q:Int) false R v o e p w [] 0 n a b f) (R,v,e,p,w,[],a,b):=.rec0 s3 fun k rec=>by simp only[nt,qu2,af]
  exact .rec0 s1 fun k rec=>by simp only[nt,qu2,show decide ((q:Int)<7)=true from ltT hq7,ah,hw,af];exact qsP hq7 fun _=>_
theorem qt4 (hL:TL L)(hi:i<Lm L)(q:Nat)(hq:q<7)(f)(hf:f=(tkA L i).pos):∃ r,Goes qu2 (.h1 (q:Int) agR 7 (q:Int) true (rwT L) i o 0 0 0 [] 0 0 (strB []) (strB []) f) r/\R125of L (agF L i q) r:=by
 subst hf;have hen:=hL.en;have hlen:=hL.len;have a1:=d71 L (i+1) (by omega) (by omega) (strB [40]) (o:Int) 0;have e0:((q:Int)==0)=(q==0):=by grind
 have e25:IntKind.i64.wrap ((25:Int)+(q:Int))=25+q:=by rw[IntKind.wrap_i64];omega
 have nz:((25+(q:Int))==0)=false:=beq_eq_false_iff_ne.2 (by omega);have n13:(13:Int)≠0:=by omega
 have fin:∀ (v e p:Int) (a b:By),Goes qu2 (.h3 agR 7 (q:Int) (rwT L) v o e p (25+q) [] 0 0 a b (tkA L i).pos) (rwT L,v,e,p,25+(q:Int),[],a,b):=fun v e p a b=>.rec0 (qr1 (rwT L) v o e p (25+q) nz 0 a b (tkA L i).pos _ (q+1) rfl (by omega)) fun k rec=>by simp only[nt,qu2,zq q (by omega)]
 have bad:∀ (v p:Int) (a b:By),Goes qu2 (.h2 agR 7 (q:Int) (rwT L) v o 13 p (25+q) [] 0 0 a b (tkA L i).pos) (rwT L,v,13,p,25+(q:Int),[],a,b):=fun v p a b=>.of2 (d71e (strB [41]) (rwT L) v o 13 p n13) (fin v 13 p a b) fun k b b2=>by simp only[nt,qu2,b,ae,ah,af,aj,ak,altC,tup2,tup3,tup4,tup5,tup6,tup8,qoG,zu];exact b2
 have at2:∀ (v:Nat) (hv:v<=Lm L) (a b:By),isW (tkA L v) (strB [41])=false->Goes qu2 (.h2 agR 7 (q:Int) (rwT L) v o 0 0 (25+q) [] 0 0 a b (tkA L i).pos) (rwT L,(v:Int),13,(tkA L v).pos,25+(q:Int),[],a,b):=fun v hv a b h=>by have a2:=d71 L v (by omega) (by omega) (strB [41]) (o:Int) 0;rw[h]at a2;exact .of2 a2 (fin v 13 (tkA L v).pos a b) fun k b b2=>by simp only[nt,qu2,b,ae,ah,af,aj,ak,altC,tup2,tup3,tup4,tup5,tup6,tup8,qoG,zu];exact b2
 have at3:∀ (v:Nat) (hv:v<=Lm L) (a b:By),isW (tkA L v) (strB [41])=true->Goes qu2 (.h2 agR 7 (q:Int) (rwT L) v o 0 0 (25+q) [] 0 0 a b (tkA L i).pos) (rwT L,((v+1:Nat):Int),0,0,25+(q:Int),[],a,b):=fun v hv a b h=>by have a2:=d71 L v (by omega) (by omega) (strB [41]) (o:Int) 0;rw[h]at a2;exact .of2 a2 (fin ((v+1:Nat):Int) 0 0 a b) fun k b b2=>by simp only[nt,qu2,b,ae,ah,af,aj,ak,altC,tup2,tup3,tup4,tup5,tup6,tup8,qoG,zu];exact b2
 unfold agF R125of;simp only;cases h1:isW (tkA L (i+1)) (strB [40])with
 |false=>
  rw[h1]at a1;simp only[ak,ah,af]at a1 |-;cases hq0:q==0 with
  |true=>exact⟨_,.of3 a1 (d82e (rwT L) ((i+1:Nat):Int) o 13 (tkA L (i+1)).pos n13) (bad ((i+1:Nat):Int) (tkA L (i+1)).pos (strB []) (strB [])) fun k b b2 b3=>by simp only[nt,qu2,zq i (by omega),b,b2,e0,hq0,e25,ae,ah,af,aj,ak,altC,tup2,tup3,tup4,tup5,tup6,tup8,qoG,zu];exact b3,_,_,_,_,rfl⟩
  |false=>exact⟨_,.of3 a1 (d70e (rwT L) ((i+1:Nat):Int) o 13 (tkA L (i+1)).pos n13) (bad ((i+1:Nat):Int) (tkA L (i+1)).pos (strB []) (strB [])) fun k b b2 b3=>by simp only[nt,qu2,zq i (by omega),b,b2,e0,hq0,e25,ae,ah,af,aj,ak,altC,tup2,tup3,tup4,tup5,tup6,tup8,qoG,zu];exact b3,_,_,_,_,rfl⟩
 |true=>
  have hi1:=Zv h1;rw[h1]at a1;simp only[aj,af,ah]at a1 |-;cases hq0:q==0 with
  |true=>
   have hq':q=0:=by grind
   simp only[ah];have a2:=d82 L (i+2) (by omega) (by omega) (o:Int) 0;cases h2:nmF L (i+2)with
   |inl p=>rw[h2]at a2;exact⟨_,.of3 a1 a2 (bad ((i+2:Nat):Int) p (strB []) (strB [])) fun k b b2 b3=>by simp only[nt,qu2,zq i (by omega),b,b2,e0,hq0,e25,ae,ah,af,aj,ak,altC,tup2,tup3,tup4,tup5,tup6,tup8,qoG,zu];exact b3,_,_,_,_,rfl⟩
   |inr w=>
    have hi2:=qod h2;rw[h2]at a2;simp only;cases h3:isW (tkA L (i+3)) (strB [41])with
    |false=>exact⟨_,.of3 a1 a2 (at2 (i+3) (by omega) w (strB []) h3) fun k b b2 b3=>by simp only[nt,qu2,zq i (by omega),b,b2,e0,hq0,e25,ae,ah,af,aj,ak,altC,tup2,tup3,tup4,tup5,tup6,tup8,qoG,zu];exact b3,_,_,_,_,rfl⟩
    |true=>refine⟨_,.of3 a1 a2 (at3 (i+3) (by omega) w (strB []) h3) fun k b b2 b3=>by simp only[nt,qu2,zq i (by omega),b,b2,e0,hq0,e25,ae,ah,af,aj,ak,altC,tup2,tup3,tup4,tup5,tup6,tup8,qoG,zu];exact b3,?_⟩;subst hq';rfl
  |false=>
   simp only[af];obtain⟨r2,a2,hr2⟩:=d70 L (i+2) hL (by omega) (o:Int);unfold R124of at hr2;cases h2:atF L (i+2)with
   |inl p=>rw[h2]at hr2;obtain⟨n',b',j',rfl⟩:=hr2;exact⟨_,.of3 a1 a2 (bad j' p n' b') fun k b b2 b3=>by simp only[nt,qu2,zq i (by omega),b,b2,e0,hq0,e25,ae,ah,af,aj,ak,altC,tup2,tup3,tup4,tup5,tup6,tup8,qoG,zu];exact b3,_,_,_,_,rfl⟩
   |inr w=>
    obtain⟨w1,w2⟩:=w;have hi2:=qoi h2;rw[h2]at hr2;subst hr2;simp only;cases h3:isW (tkA L (i+5)) (strB [41])with
    |false=>exact⟨_,.of3 a1 a2 (at2 (i+5) (by omega) w1 w2 h3) fun k b b2 b3=>by simp only[nt,qu2,zq i (by omega),b,b2,e0,hq0,e25,ae,ah,af,aj,ak,altC,tup2,tup3,tup4,tup5,tup6,tup8,qoG,zu];exact b3,_,_,_,_,rfl⟩
    |true=>exact⟨_,.of3 a1 a2 (at3 (i+5) (by omega) w1 w2 h3) fun k b b2 b3=>by simp only[nt,qu2,zq i (by omega),b,b2,e0,hq0,e25,ae,ah,af,aj,ak,altC,tup2,tup3,tup4,tup5,tup6,tup8,qoG,zu];exact b3,rfl⟩
theorem qrF:agN.all (fun s=>isLe (bAt s 0))=true:=by kernel_rfl
def agW (L:List Tok)(i:Nat):PO:=bif (tkA L i).kind==1 then agO L i (tkA L i).text else .err (tkA L i).pos 13
theorem d72 (hL:TL L)(hi:i<=Lm L):∃ r,Tot (fun k=>qCo k (rwT L) i o 0 0 0 [] 0 0 (strB []) (strB []) (tkA L i).pos) r/\R125of L (agW L i) r:=by
 have hen:=hL.en;have hlen:=hL.len;have key:∀ (m q:Nat),7-q=m->q<=7->∃ r,Goes qu2 (.h0 agR 7 (q:Int) (rwT L) i o 0 0 0 [] 0 0 (strB []) (strB []) (tkA L i).pos) r /\
   R125of L (bif (tkA L i).kind==1 then(match agI (agN.drop q) q (tkA L i).text with|none=>.err (tkA L i).pos 13|some q=>agF L i q)else .err (tkA L i).pos 13) r:=by
  intro m
  induction m with
  |zero=>
   intro q hm hq;rw[List.drop_eq_nil_of_le (show agN.length<=q by show 7<=q;omega)];have a:=d81 L i (by omega) 13 (o:Int) 0;refine⟨(rwT L,(i:Int),13,(tkA L i).pos,0,[],strB [],strB []),.of1 a fun k b=>?_,?_⟩
   . simp only[nt,qu2,show decide ((q:Int)<7)=false from ltF (show ¬ q<7 by omega),b,beq_self_eq_true,ae,ah,af,aj,ak,altC,tup2,tup3,tup4,tup5,tup6,tup8,qoG,zu]
   . cases (tkA L i).kind==1<;>exact⟨_,_,_,_,rfl⟩
  |succ m ih=>
   intro q hm hq;have hq7:q<7:=by omega
   have hlt:q<agN.length:=hq7;have eg:agN[q]?.getD (strB [])=agN[q]:=by grind
   have ew:=qrw (hL.tw i) (List.all_eq_true.1 qrF agN[q] (List.getElem_mem hlt));rw[List.drop_eq_getElem_cons hlt,agI];have a:=d49 L i (by omega) agN[q] (o:Int) 0 0;have st:∀ {r:R125b},Goes qu2 (.h1 (q:Int) agR 7 (q:Int) (isW (tkA L i) agN[q]) (rwT L) i o 0 0 0 [] 0 0 (strB []) (strB []) (tkA L i).pos) r->Goes qu2 (.h0 agR 7 (q:Int) (rwT L) i o 0 0 0 [] 0 0 (strB []) (strB []) (tkA L i).pos) r:=fun h=>.of2 a h fun k b b2=>by simp only[nt,qu2,show decide ((q:Int)<7)=true from ltT hq7,ah,beq_self_eq_true];refine(qsP hq7 fun _=>_).trans ?_;rw[eg];simp only[b,ae,ah,af,aj,ak,altC,tup2,tup3,tup4,tup5,tup6,tup8,qoG,zu];exact b2
   have nx:∀ {r:R125b},Goes qu2 (.h0 agR 7 ((q+1:Nat):Int) (rwT L) i o 0 0 0 [] 0 0 (strB []) (strB []) (tkA L i).pos) r->Goes qu2 (.h1 (q:Int) agR 7 (q:Int) false (rwT L) i o 0 0 0 [] 0 0 (strB []) (strB []) (tkA L i).pos) r:=fun {r} h=>by
    have s3:Goes qu2 (.h3 agR 7 (q:Int) (rwT L) i o 0 0 0 [] 0 0 (strB []) (strB []) (tkA L i).pos) r:=.rec0 h fun k rec=>by simp only[nt,qu2,zq q (by omega)]
    exact .rec0 s3 fun k rec=>by simp only[nt,qu2,af]
   obtain⟨r,h1,h2⟩:=ih (q+1) (by omega) (by omega);cases hk:(tkA L i).kind==1 with
   |false=>grind
   |true=>
    rw[hk]at ew h2;simp only[ah]at ew h2 |-;cases hb:agN[q].toList==(tkA L i).text.toList with
    |true=>
     have hb2:((tkA L i).text.toList==agN[q].toList)=true:=by grind
     rw[hb2]at ew;have hi2:=Zv ew;obtain⟨r2,g1,g2⟩:=qt4 (o:=o) hL hi2 q hq7 _ rfl
     grind
    |false=>grind
 obtain⟨r,h1,h2⟩:=key 7 0 rfl (by omega);have g96_is:Tot (fun k=>g96 k) agR:=Goes.fin0 (step:=qAe) (s:=.e) fun k rec=>rfl;refine⟨r,Goes.of2 (step:=qu2) (s:=.e (rwT L) i o 0 0 0 [] 0 0 (strB []) (strB []) (tkA L i).pos) g96_is h1 fun k b b2=>?_,h2⟩
 . simp only[nt,qu2,b,ae];exact b2
theorem qrE {q}(h:agF L i q=.ok x j):x.args=[]/\x.n=0/\x.scale=0/\x.pos=(tkA L i).pos:=by
 unfold agF at h;simp only at h;cases h1:isW (tkA L (i+1)) (strB [40])with
 |false=>grind
 |true=>
  rw[h1]at h;simp only[aj,af]at h;cases hq:q==0 with
  |true=>
   rw[hq]at h;simp only[ah]at h;split at h
   . cases h
   . cases h3:isW (tkA L (i+3)) (strB [41])with
     |false=>grind
     |true=>rw[h3]at h;cases h;exact⟨rfl,rfl,rfl,rfl⟩
  |false=>
   rw[hq]at h;simp only[af]at h;split at h
   . cases h
   . cases h3:isW (tkA L (i+5)) (strB [41])with
     |false=>grind
     |true=>rw[h3]at h;cases h;exact⟨rfl,rfl,rfl,rfl⟩
section
variable (hL:TL L) (hi:i<=Lm L) (ho:o<100) (h3:((tkA L i).kind==3)=false) (h4:((tkA L i).kind==4)=false) (h5:((tkA L i).kind==5)=false) (h2:((tkA L i).kind==2)=false) (hw:isW (tkA L i) (strB [40])=false)
include hL hi h3 h4 h5 h2 hw
theorem qqE {r}(h:Goes quY (.h2_106 (isW (tkA L i) (strB [84,82,85,69])||isW (tkA L i) (strB [70,65,76,83,69])) 0 0 0 (strB []) (strB []) (tkA L i).pos 0 0 0 (strB []) (strB []) 0 (rwT L) i o 0 0) r):Goes quY (.e_106 (rwT L) i o 0 0) r:=by
 have hl:i<L.length:=by have:=hL.en;omega
 have t0:=d49 L i hl (strB [40]) o 0 0;rw[hw]at t0;refine .of4 ((d50 L i hl o 0 0).and t0) (d49 L i hl (strB [84,82,85,69]) o 0 0) (d49 L i hl (strB [70,65,76,83,69]) o 0 0) h fun k b b1 b2 b3=>?_;obtain⟨b,b0⟩:=Zb b;simp only[nt,quY,b,b0,b1,h3,h4,h5,h2,ae,ah,af,aj,ak,altC,tup2,tup3,tup4,tup5,tup6,tup8,qoG,zu]
 grind
end
section
variable (hL:TL L) (hi:i<=Lm L)
include hL hi
theorem zt (hT:isW (tkA L i) (strB [84,82,85,69])=true):Goes quY (.h2_106 true 0 0 0 (strB []) (strB []) (tkA L i).pos 0 0 0 (strB []) (strB []) 0 (rwT L) i o 0 0) (K2 (tq (lit 22 1 0 (strB []) (strB []) (tkA L i).pos) [] L (i+1) o)):=by
 have hl:i<L.length:=by have:=hL.en;omega
 have hlen:=hL.len;have t:=d49 L i hl (strB [84,82,85,69]) o 0 0;rw[hT]at t;have s:Goes quY (.h3_106 22 1 0 (strB []) (strB []) (tkA L i).pos 0 0 0 (strB []) (strB []) 0 (rwT L) i o 0 0) (K2 (tq (lit 22 1 0 (strB []) (strB []) (tkA L i).pos) [] L (i+1) o)):=.rec0 (z0' 22 [] 1 0 (strB []) (strB []) (tkA L i).pos 0 0 0 (strB []) (strB []) 0 ((i+1:Nat):Int) o 0 0) fun k rec=>by simp only[nt,quY,zq i (by omega)]
 exact .of2 t s fun k b b2=>by simp only[nt,quY,b,ae,ah,af,aj,ak,altC,tup2,tup3,tup4,tup5,tup6,tup8,qoG,zu];exact b2
theorem zf (hT:isW (tkA L i) (strB [84,82,85,69])=false):Goes quY (.h2_106 true 0 0 0 (strB []) (strB []) (tkA L i).pos 0 0 0 (strB []) (strB []) 0 (rwT L) i o 0 0) (K2 (tq (lit 22 0 0 (strB []) (strB []) (tkA L i).pos) [] L (i+1) o)):=by
 have hl:i<L.length:=by have:=hL.en;omega
 have hlen:=hL.len;have t:=d49 L i hl (strB [84,82,85,69]) o 0 0;rw[hT]at t;have s:Goes quY (.h3_106 22 0 0 (strB []) (strB []) (tkA L i).pos 0 0 0 (strB []) (strB []) 0 (rwT L) i o 0 0) (K2 (tq (lit 22 0 0 (strB []) (strB []) (tkA L i).pos) [] L (i+1) o)):=.rec0 (z0' 22 [] 0 0 (strB []) (strB []) (tkA L i).pos 0 0 0 (strB []) (strB []) 0 ((i+1:Nat):Int) o 0 0) fun k rec=>by simp only[nt,quY,zq i (by omega)]
 exact .of2 t s fun k b b2=>by simp only[nt,quY,b,ae,ah,af,aj,ak,altC,tup2,tup3,tup4,tup5,tup6,tup8,qoG,zu];exact b2
theorem zw2 {r}(h:Goes quY (.h4_106 (isW (tkA L i) (strB [82,69,65,76])||isW (tkA L i) (strB [73,83,78,65,78])) 0 0 0 (strB []) (strB []) (tkA L i).pos 0 0 0 (strB []) (strB []) 0 (rwT L) i o 0 0) r):Goes quY (.h2_106 false 0 0 0 (strB []) (strB []) (tkA L i).pos 0 0 0 (strB []) (strB []) 0 (rwT L) i o 0 0) r:=by
 have hl:i<L.length:=by have:=hL.en;omega
 refine .of3 (d49 L i hl (strB [82,69,65,76]) o 0 0) (d49 L i hl (strB [73,83,78,65,78]) o 0 0) h fun k b1 b2 b3=>?_;simp only[nt,quY,b1,ae,ah,af,aj,ak,altC,tup2,tup3,tup4,tup5,tup6,tup8,qoG,zu]
 grind
def opI (L:List Tok)(i:Nat):Int:=bif isW (tkA L i) (strB [73,83,78,65,78])then 17 else 16
theorem zw3 {r}(h:Goes quY (.h5_106 (opI L i) 0 0 (strB []) (strB []) (tkA L i).pos 0 0 0 (strB []) (strB []) 0 (rwT L) i o 0 0) r):Goes quY (.h4_106 true 0 0 0 (strB []) (strB []) (tkA L i).pos 0 0 0 (strB []) (strB []) 0 (rwT L) i o 0 0) r:=by
 have hl:i<L.length:=by have:=hL.en;omega
 refine .of2 (d49 L i hl (strB [73,83,78,65,78]) o 0 0) h fun k b1 b3=>?_;unfold opI at b3;simp only[nt,quY,b1,ae,ah,af,aj,ak,altC,tup2,tup3,tup4,tup5,tup6,tup8,qoG,zu]
 grind
theorem qtZ:∃ r,Goes quY (.h4_106 false 0 0 0 (strB []) (strB []) (tkA L i).pos 0 0 0 (strB []) (strB []) 0 (rwT L) i o 0 0) (K2 r)/\D7 L o (agW L i) r:=by
 obtain⟨r,a1,a2⟩:=d72 (o:=o) hL hi;have ga:∀ x j,agW L i=.ok x j->x.args=[]/\x.n=0/\x.scale=0/\x.pos=(tkA L i).pos:=by
  intro x j h;unfold agW agO at h;cases hk:(tkA L i).kind==1 with
  |false=>grind
  |true=>
   rw[hk]at h;simp only[ah]at h;split at h
   . cases h
   . exact qrE h
 generalize agW L i=out at a2 ga |-;have into:∀ {t},Goes quY (.h6_106 0 [] 0 0 (strB []) (strB []) (tkA L i).pos 0 0 0 (strB []) (strB []) 0 (rwT L) i o 0 0) t->Goes quY (.h4_106 false 0 0 0 (strB []) (strB []) (tkA L i).pos 0 0 0 (strB []) (strB []) 0 (rwT L) i o 0 0) t:=fun h=>.rec0 h fun k rec=>by simp only[nt,quY,af]
 cases out with
 |err p e=>obtain⟨j,q,a,b,rfl⟩:=a2;exact⟨_,into (.of2 a1 (z0' q [] 0 0 a b (tkA L i).pos 0 0 0 (strB []) (strB []) 0 j o e p) fun k b1 b2=>by simp only[nt,quY,b1,ae,ah,af,aj,ak,altC,tup2,tup3,tup4,tup5,tup6,tup8,qoG,zu];exact b2),qo5⟩
 |ok x j=>cases a2;obtain⟨e1,e2,e3,e4⟩:=ga x j rfl;refine⟨_,into (.of2 a1 (z0' x.op [] 0 0 x.name x.attr (tkA L i).pos 0 0 0 (strB []) (strB []) 0 j o 0 0) fun k b1 b2=>by simp only[nt,quY,b1,ae,ah,af,aj,ak,altC,tup2,tup3,tup4,tup5,tup6,tup8,qoG,zu];exact b2),?_⟩;show _=tq x (qg x.args) L j o;rw[tq,e1,e2,e3,e4];rfl
end
section
variable (hi:i<Lm L) (hL:TL L) (ho:o<100)
include hi hL ho
theorem qrD (h:(o==30)=true):∃ r,Goes quY (.h5_106 (opI L i) 0 0 (strB []) (strB []) (tkA L i).pos 0 0 0 (strB []) (strB []) 0 (rwT L) i o 0 0) (K2 r)/\D7 L o (.err (tkA L i).pos 14) r:=by have hen:=hL.en;have hlen:=hL.len;have t2:=d69 L i (by omega) (by omega) o ho 0;rw[h]at t2;have w0:=d71e (strB [40]) (rwT L) ((i+1:Nat):Int) ((o+1:Nat):Int) 14 (tkA L i).pos (by omega);have w:=qp5 1 (rwT L) ((i+1:Nat):Int) ((o+1:Nat):Int) 14 (tkA L i).pos (by omega);have w2:=d71e (strB [41]) (rwT L) ((i+1:Nat):Int) ((o+1:Nat):Int) 14 (tkA L i).pos (by omega);have q4:=z0' (L:=L) (opI L i) [[ic 0,.nil,ic 0,ic 0,sc (strB []),sc (strB []),ic 0]] 0 0 (strB []) (strB []) (tkA L i).pos 0 0 0 (strB []) (strB []) 0 ((i+1:Nat):Int) o 14 (tkA L i).pos;exact⟨_,.of4 (t2.and w0) w w2 q4 fun k b b2 b3 b4=>by obtain⟨b,b1⟩:=Zb b;simp only[nt,quY,b,b1,b2,b3,qvb,ae,ah,af,aj,ak,altC,tup2,tup3,tup4,tup5,tup6,tup8,qoG,zu,wrD o ho];exact b4,qo5⟩
theorem qt3 (h:(o==30)=false)(hn:isW (tkA L (i+1)) (strB [40])=false):∃ r,Goes quY (.h5_106 (opI L i) 0 0 (strB []) (strB []) (tkA L i).pos 0 0 0 (strB []) (strB []) 0 (rwT L) i o 0 0) (K2 r)/\D7 L o (.err (tkA L (i+1)).pos 13) r:=by have hen:=hL.en;have hlen:=hL.len;have t2:=d69 L i (by omega) (by omega) o ho 0;rw[h]at t2;have w0:=d71 L (i+1) (by omega) (by omega) (strB [40]) ((o+1:Nat):Int) 0;rw[hn]at w0;have w:=qp5 1 (rwT L) ((i+1:Nat):Int) ((o+1:Nat):Int) 13 (tkA L (i+1)).pos (by omega);have w2:=d71e (strB [41]) (rwT L) ((i+1:Nat):Int) ((o+1:Nat):Int) 13 (tkA L (i+1)).pos (by omega);have q4:=z0' (L:=L) (opI L i) [[ic 0,.nil,ic 0,ic 0,sc (strB []),sc (strB []),ic 0]] 0 0 (strB []) (strB []) (tkA L i).pos 0 0 0 (strB []) (strB []) 0 ((i+1:Nat):Int) o 13 (tkA L (i+1)).pos;exact⟨_,.of4 (t2.and w0) w w2 q4 fun k b b2 b3 b4=>by obtain⟨b,b1⟩:=Zb b;simp only[nt,quY,b,b1,b2,b3,qvb,ae,ah,af,aj,ak,altC,tup2,tup3,tup4,tup5,tup6,tup8,qoG,zu,wrD o ho];exact b4,qo5⟩
variable (h:(o==30)=false) (hn:isW (tkA L (i+1)) (strB [40])=true)
include h hn
theorem qt2 {p e}(he:e≠0)(hx:X L 0 (i+2) (o+1) (.err p e)):∃ r,Goes quY (.h5_106 (opI L i) 0 0 (strB []) (strB []) (tkA L i).pos 0 0 0 (strB []) (strB []) 0 (rwT L) i o 0 0) (K2 r)/\D7 L o (.err p e) r:=by
 have hen:=hL.en;have hlen:=hL.len;have t2:=d69 L i (by omega) (by omega) o ho 0;rw[h]at t2;have w0:=d71 L (i+1) (by omega) (by omega) (strB [40]) ((o+1:Nat):Int) 0;rw[hn]at w0;obtain⟨r,a1,hx⟩:=hx;replace a1:Goes quY (.e_84 1 (rwT L) ((i+2:Nat):Int) ((o+1:Nat):Int) 0 0) _:=a1;rcases hx with⟨a,b,c,d,d',f,i',o',rfl⟩|⟨t',⟨a,R,b,c,d,d',f,i',o',rfl⟩,rfl⟩|⟨t',⟨a,R,b,c,d,d',f,i',o',rfl⟩,rfl⟩
 . have q4:=z0' (L:=L) (opI L i) [[ic a,.nil,ic b,ic c,sc d,sc d',ic f]] 0 0 (strB []) (strB []) (tkA L i).pos 0 0 0 (strB []) (strB []) 0 i' (IntKind.i64.wrap (o'-1)) e p;exact⟨_,.of4 (t2.and w0) a1 (d71e (strB [41]) (rwT L) i' o' e p he) q4 fun k b b2 b3 b4=>by obtain⟨b,b1⟩:=Zb b;simp only[nt,quY,b,b1,b2,b3,qvb,ae,ah,af,aj,ak,altC,tup2,tup3,tup4,tup5,tup6,tup8,qoG,zu];exact b4,qo5⟩
 . have q4:=z0' (L:=L) (opI L i) [[ic a,.own 7 R,ic b,ic c,sc d,sc d',ic f]] 0 0 (strB []) (strB []) (tkA L i).pos 0 0 0 (strB []) (strB []) 0 i' (IntKind.i64.wrap (o'-1)) e p;exact⟨_,.of4 (t2.and w0) a1 (d71e (strB [41]) (rwT L) i' o' e p he) q4 fun k b b2 b3 b4=>by obtain⟨b,b1⟩:=Zb b;simp only[nt,quY,b,b1,b2,b3,qvb,ae,ah,af,aj,ak,altC,tup2,tup3,tup4,tup5,tup6,tup8,qoG,zu];exact b4,qo5⟩
 . have q4:=z0' (L:=L) (opI L i) [[ic a,.imm R,ic b,ic c,sc d,sc d',ic f]] 0 0 (strB []) (strB []) (tkA L i).pos 0 0 0 (strB []) (strB []) 0 i' (IntKind.i64.wrap (o'-1)) e p;exact⟨_,.of4 (t2.and w0) a1 (d71e (strB [41]) (rwT L) i' o' e p he) q4 fun k b b2 b3 b4=>by obtain⟨b,b1⟩:=Zb b;simp only[nt,quY,b,b1,b2,b3,qvb,ae,ah,af,aj,ak,altC,tup2,tup3,tup4,tup5,tup6,tup8,qoG,zu];exact b4,qo5⟩
theorem quW (hj:j<=Lm L)(hx:X L 0 (i+2) (o+1) (.ok x j))(h8:isW (tkA L j) (strB [41])=false):∃ r,Goes quY (.h5_106 (opI L i) 0 0 (strB []) (strB []) (tkA L i).pos 0 0 0 (strB []) (strB []) 0 (rwT L) i o 0 0) (K2 r)/\D7 L o (.err (tkA L j).pos 13) r:=by
 have hen:=hL.en;have hlen:=hL.len;have t2:=d69 L i (by omega) (by omega) o ho 0;rw[h]at t2;have w0:=d71 L (i+1) (by omega) (by omega) (strB [40]) ((o+1:Nat):Int) 0;rw[hn]at w0;have w2:=d71 L j (by omega) (by omega) (strB [41]) ((o+1:Nat):Int) 0;rw[h8]at w2;obtain⟨r,a1,hx⟩:=hx;replace a1:Goes quY (.e_84 1 (rwT L) ((i+2:Nat):Int) ((o+1:Nat):Int) 0 0) _:=a1;rcases hx with⟨R,hR,rfl⟩|rfl
 . have q4:=z0' (L:=L) (opI L i) [[ic x.op,.own 7 R,ic x.n,ic x.scale,sc x.name,sc x.attr,ic x.pos]] 0 0 (strB []) (strB []) (tkA L i).pos 0 0 0 (strB []) (strB []) 0 j o 13 (tkA L j).pos;exact⟨_,.of4 (t2.and w0) a1 (w2) q4 fun k b b2 b3 b4=>by obtain⟨b,b1⟩:=Zb b;simp only[nt,quY,b,b1,b2,b3,qvb,ae,ah,af,aj,ak,altC,tup2,tup3,tup4,tup5,tup6,tup8,qoG,zu,wrD o ho];exact b4,qo5⟩
 . have q4:=z0' (L:=L) (opI L i) [[ic x.op,.imm (qg x.args),ic x.n,ic x.scale,sc x.name,sc x.attr,ic x.pos]] 0 0 (strB []) (strB []) (tkA L i).pos 0 0 0 (strB []) (strB []) 0 j o 13 (tkA L j).pos;exact⟨_,.of4 (t2.and w0) a1 (w2) q4 fun k b b2 b3 b4=>by obtain⟨b,b1⟩:=Zb b;simp only[nt,quY,b,b1,b2,b3,qvb,ae,ah,af,aj,ak,altC,tup2,tup3,tup4,tup5,tup6,tup8,qoG,zu,wrD o ho];exact b4,qo5⟩
theorem quX (hj:j<=Lm L)(hx:X L 0 (i+2) (o+1) (.ok x j))(h8:isW (tkA L j) (strB [41])=true):∃ r,Goes quY (.h5_106 (opI L i) 0 0 (strB []) (strB []) (tkA L i).pos 0 0 0 (strB []) (strB []) 0 (rwT L) i o 0 0) (K2 r)/\D7 L o (.ok (una (opI L i) x (tkA L i).pos) (j+1)) r:=by
 have hen:=hL.en;have hlen:=hL.len;have t2:=d69 L i (by omega) (by omega) o ho 0;rw[h]at t2;have w0:=d71 L (i+1) (by omega) (by omega) (strB [40]) ((o+1:Nat):Int) 0;rw[hn]at w0;have w2:=d71 L j (by omega) (by omega) (strB [41]) ((o+1:Nat):Int) 0;rw[h8]at w2;obtain⟨r,a1,hx⟩:=hx;replace a1:Goes quY (.e_84 1 (rwT L) ((i+2:Nat):Int) ((o+1:Nat):Int) 0 0) _:=a1;rcases hx with⟨R,hR,rfl⟩|rfl
 . have q4:=z0' (L:=L) (opI L i) [[ic x.op,.own 7 R,ic x.n,ic x.scale,sc x.name,sc x.attr,ic x.pos]] 0 0 (strB []) (strB []) (tkA L i).pos 0 0 0 (strB []) (strB []) 0 ((j+1:Nat):Int) o 0 0;exact⟨_,.of4 (t2.and w0) a1 (w2) q4 fun k b b2 b3 b4=>by obtain⟨b,b1⟩:=Zb b;simp only[nt,quY,b,b1,b2,b3,qvb,ae,ah,af,aj,ak,altC,tup2,tup3,tup4,tup5,tup6,tup8,qoG,zu,wrD o ho];exact b4,by rw[D7,tq,una];rw[imm1 (ql9 hR)];rfl⟩
 . have q4:=z0' (L:=L) (opI L i) [[ic x.op,.imm (qg x.args),ic x.n,ic x.scale,sc x.name,sc x.attr,ic x.pos]] 0 0 (strB []) (strB []) (tkA L i).pos 0 0 0 (strB []) (strB []) 0 ((j+1:Nat):Int) o 0 0;exact⟨_,.of4 (t2.and w0) a1 (w2) q4 fun k b b2 b3 b4=>by obtain⟨b,b1⟩:=Zb b;simp only[nt,quY,b,b1,b2,b3,qvb,ae,ah,af,aj,ak,altC,tup2,tup3,tup4,tup5,tup6,tup8,qoG,zu,wrD o ho];exact b4,by rw[D7,tq,una];rw[imm1 (imEx x)];rfl⟩
end
end
end Ab
end Go.Proofs.YtgfbbmjoflehlaaGreatDoor

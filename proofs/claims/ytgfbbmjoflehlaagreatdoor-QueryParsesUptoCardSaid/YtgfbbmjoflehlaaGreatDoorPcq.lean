/-
  The parser's small functions, as they are printed, tell what the plain ones tell.
-/
import Derived.Test.YtgfbbmjoflehlaaGreatDoorPbq
set_option linter.all false
namespace Go.Proofs.YtgfbbmjoflehlaaGreatDoor
namespace Ab
theorem i30 (o:Nat):((o:Int)==30)=(o==30):=by grind
theorem wrD (o)(h:o<100):IntKind.i64.wrap (((o+1:Nat):Int)-1)=(o:Int):=by rw[IntKind.wrap_i64];omega
section
variable [vo] (L:List Tok) (i o:Nat)
theorem qsC:Tot (fun k=>g122 k (rwT L) i o) ((tkA L i).kind,(tkA L i).text,(tkA L i).n,(tkA L i).scale,(tkA L i).pos,rwT L):=Goes.fin0 (step:=qoL) (s:=.e (rwT L) i o) fun k rec=>by
 simp only[nt,qoL,qhr];by_cases h:i<L.length
 . rw[ltT h,ah,Yi (qfK h),qjp]
 . rw[ltF h,af,qhV h];rfl
theorem qvi (s:ByteArray):Tot (fun k=>g101 k s (rwT L) i o) (isW (tkA L i) s,rwT L):=Goes.of1 (step:=qxx) (s:=.e s (rwT L) i o) (qsC L i o) fun k h=>by simp only[nt,qxx,h,ae,tup6,isW];cases (tkA L i).kind==1<;>cases (tkA L i).kind==6<;>rfl
theorem qvw (s:ByteArray)(hi:i<1000000):Tot (fun k=>g154 k s (rwT L) i o) (bif !isW (tkA L i) s then .inl ((tkA L i).pos,13,rwT L,(i:Int))else .inr (rwT L,((i+1:Nat):Int))):=
 Goes.of2 (step:=qxz) (s:=.e s (rwT L) i o) (qvi L i o s) (qsC L i o) fun k h h2=>by
 simp only[nt,qxz,h,h2,ae,tup2,tup6,zq i (by omega)];cases isW (tkA L i) s<;>rfl
theorem qvj (hi:i<100000)(ho:o<100):Tot (fun k=>g136 k (rwT L) i o) (bif o==30 then .inl ((tkA L i).pos,14,rwT L,(i:Int),(o:Int))else .inr ((tkA L i).pos,rwT L,((i+1:Nat):Int),((o+1:Nat):Int))):=
 Goes.of1 (step:=qxy) (s:=.e (rwT L) i o) (qsC L i o) fun k h=>by
 simp only[nt,qxy,h,ae,tup6,zq i (by omega),zq o (by omega),i30];cases o==30<;>rfl
theorem qyg (hi:i<1000000):Tot (fun k=>g158 k (rwT L) i o) (match nmF L i with|.inl p=>.inl (p,13,rwT L,(i:Int))|.inr a=>.inr (a,rwT L,((i+1:Nat):Int))):=
 Goes.of1 (step:=qxA) (s:=.e (rwT L) i o) (qsC L i o) fun k h=>by
 simp only[nt,qxA,h,ae,tup6,zq i (by omega),nmF];cases (tkA L i).kind != 2<;>rfl
def R153of (L:List Tok)(i:Nat)(r:R153):Prop:=match atF L i with
 |.inl p=>∃ j:Int,r=.inl (p,13,rwT L,j)
 |.inr (a,b)=>r=.inr (a,b,rwT L,((i+3:Nat):Int))
theorem qzo (hi:i<100000):∃ r,Tot (fun k=>g153 k (rwT L) i o) r/\R153of L i r:=by
 have a1:=qyg L i o (by omega);unfold R153of atF;cases h1:nmF L i with
 |inl p=>rw[h1]at a1;refine⟨.inl (_,13,rwT L,(i:Int)),Goes.of1 (step:=qvz) (s:=.e (rwT L) i o) a1 fun k h=>?_,_,rfl⟩;simp only[nt,qvz,h,ae,altC,tup4]
 |inr a=>
  rw[h1]at a1;have a2:=qvw L (i+1) o (strB [46]) (by omega);cases h2:isW (tkA L (i+1)) (strB [46])with
  |false=>rw[h2]at a2;simp only[ak,ah]at a2 |-;refine⟨.inl (_,13,rwT L,((i+1:Nat):Int)),Goes.of2 (step:=qvz) (s:=.e (rwT L) i o) a1 a2 fun k h h3=>?_,_,rfl⟩;simp only[nt,qvz,h,h3,ae,altC,tup4,tup3]
  |true=>
   rw[h2]at a2;simp only[aj,af]at a2 |-;have a3:=qvi L (i+2) o (strB [84,73,77,69]);cases h3:isW (tkA L (i+2)) (strB [84,73,77,69])with
   |true=>rw[h3]at a3;refine⟨_,Goes.of3 (step:=qvz) (s:=.e (rwT L) i o) a1 a2 a3 fun k h h4 h5=>?_,rfl⟩;simp only[nt,qvz,h,h4,h5,ae,altC,tup4,tup3,tup2,ah];rw[zq (i+2) (by omega)]
   |false=>
    rw[h3]at a3;have a4:=qyg L (i+2) o (by omega);cases h4:nmF L (i+2)with
    |inl p=>rw[h4]at a4;refine⟨.inl (_,13,rwT L,((i+2:Nat):Int)),Goes.of4 (step:=qvz) (s:=.e (rwT L) i o) a1 a2 a3 a4 fun k h h4 h5 h6=>?_,_,rfl⟩;simp only[nt,qvz,h,h4,h5,h6,ae,altC,tup4,tup3,tup2,af]
    |inr b=>rw[h4]at a4;refine⟨_,Goes.of4 (step:=qvz) (s:=.e (rwT L) i o) a1 a2 a3 a4 fun k h h4 h5 h6=>?_,rfl⟩;simp only[nt,qvz,h,h4,h5,h6,ae,altC,tup4,tup3,tup2,af]
theorem qxW (f)(l:List ByteArray)(hl:l.length<100)(hf:0<=f/\f<1000)(e)(x:ByteArray)(n sc ps)(hk:(e==6)=true):∀ (m d:Nat),l.length-d=m->d<=l.length ->
  Goes qvy (.h0 f (l.map fun s=>[Ab.sc s]) (l.length:Int) (d:Int) e x n sc ps (rwT L) i o) (qi9 (l.drop d) (f+d) x,rwT L)
 |0,d,hm,hd=>by
  rw[List.drop_eq_nil_of_le (by omega)];refine Goes.rec0 (step:=qvy) (s':=.h1 (rwT L) i o) (.fin0 fun k rec=>?_) fun k rec=>?_
  . rfl
  . simp only[nt,qvy,ltF (show ¬ d<l.length by omega),af]
 |m+1,d,hm,hd=>by
  have h1:d<l.length:=by omega
  have e1:=ax h1;rw[List.drop_eq_getElem_cons h1,qi9];have e2:(l.map fun s=>[Ab.sc s])[d]? = some [Ab.sc l[d]]:=by grind
  cases hb:l[d].toList==x.toList with
  |true=>
   refine .fin0 fun k rec=>?_;simp only[nt,qvy,ltT h1,ah,Yi e2];show(bif l[d].toList==x.toList then _ else _)=_;rw[hb];simp only[ah];have:IntKind.i64.wrap (f+(d:Int))=f+d:=by rw[IntKind.wrap_i64];omega
   grind
  |false=>
   have ih:=qxW f l hl hf e x n sc ps hk m (d+1) (by omega) (by omega);rw[show f+((d+1:Nat):Int)=f+d+1 by omega]at ih;refine Goes.rec0 ih fun k rec=>?_;simp only[nt,qvy,ltT h1,ah,Yi e2,zq d (by omega)];show(bif l[d].toList==x.toList then _ else _)=_
   grind
theorem qyf (s f)(l:List ByteArray)(hl:l.length<100)(hf:0<=f/\f<1000)(hs:YZ s=some (l.map fun s=>[sc s])):Tot (fun k=>g144 k s f (rwT L) i o) (sgO l f (tkA L i),rwT L):=by
 unfold sgO;cases hk:(tkA L i).kind==6 with
 |false=>refine Goes.of2 (step:=qvy) (s:=.e s f (rwT L) i o) (qsC L i o) (show Goes qvy (.h1 (rwT L) i o) (0,rwT L)from .fin0 fun k rec=>rfl) fun k h h2=>?_;simp only[nt,qvy,h,ae,tup6,hk,af];exact h2
 |true=>have lp:=qxW L i o f l hl hf (tkA L i).kind (tkA L i).text (tkA L i).n (tkA L i).scale (tkA L i).pos hk _ 0 rfl (Nat.zero_le _);rw[List.drop_zero,show f+((0:Nat):Int)=f by omega]at lp;refine Goes.of2 (step:=qvy) (s:=.e s f (rwT L) i o) (qsC L i o) lp fun k h h2=>?_;simp only[nt,qvy,h,ae,tup6,hk,ah,hs,List.length_map];exact h2
theorem fl1:YZ (strB [61,32,33,61,32,60,32,60,61,32,62,32,62,61])=some (sgC.map fun s=>[sc s]):=by kernel_rfl
theorem fl2:YZ (strB [43,32,45])=some (sgS.map fun s=>[sc s]):=by kernel_rfl
theorem fl3:YZ (strB [42,32,47,32,37])=some (sgP.map fun s=>[sc s]):=by kernel_rfl
theorem qlp:Tot (fun k=>g144 k (strB [61,32,33,61,32,60,32,60,61,32,62,32,62,61]) 7 (rwT L) i o) (opA 3 (tkA L i),rwT L):=qyf L i o _ 7 sgC (by decide) (by omega) fl1
theorem qkJ:Tot (fun k=>g144 k (strB [43,32,45]) 1 (rwT L) i o) (opA 4 (tkA L i),rwT L):=qyf L i o _ 1 sgS (by decide) (by omega) fl2
theorem qlh:Tot (fun k=>g144 k (strB [42,32,47,32,37]) 3 (rwT L) i o) (opA 5 (tkA L i),rwT L):=qyf L i o _ 3 sgP (by decide) (by omega) fl3
theorem ZJ {α xs}{q:Nat}{s}(h:xs[q]? = some s)(k:ByteArray->Option α):aixS xs (q:Int) k=k s:=by
 unfold aixS
 grind
def R159of (L:List Tok)(i:Nat)(out:PO)(r:R159):Prop:=match out with
 |.err p e=>∃ j:Int,r=.inl (p,e,rwT L,j)
 |.ok x j=>r=.inr (x.op,x.n,x.scale,x.name,x.attr,x.pos,rwT L,(j:Int))
theorem qyV (hi:i<90000)(q:Nat)(hq:q<7)(a b c d e f kd tx n sl)(he:((agN[q]?.getD tx).toList==tx.toList)=true)(hj:a=0/\b=0/\c=0/\d=strB []/\e=strB []):
  ∃ r,Goes qve (.h0 (strB [67,79,85,78,84]) (strB [70,73,82,83,84]) (strB [76,65,83,84]) (strB [83,85,77]) (strB [77,73,78]) (strB [77,65,88]) (strB [77,69,65,78]) (q:Int) a b c d e f kd tx n sl (tkA L i).pos (rwT L) i o) r/\R159of L i (agF L i q) r:=by
 have e1:agN[q]? = some (agN[q]?.getD tx):=by rw[ax (show q<agN.length from hq)];rfl
 generalize agN[q]?.getD tx=s at e1 he;have e1':[strB [67,79,85,78,84],strB [70,73,82,83,84],strB [76,65,83,84],strB [83,85,77],strB [77,73,78],strB [77,65,88],strB [77,69,65,78]][q]? = some s:=e1;have a1:=qvw L (i+1) o (strB [40]) (by omega);have e0:((q:Int)==0)=(q==0):=by grind
 have e25:IntKind.i64.wrap ((25:Int)+(q:Int))=25+q:=by rw[IntKind.wrap_i64];omega
 unfold agF R159of;simp only;cases h1:isW (tkA L (i+1)) (strB [40])with
 |false=>rw[h1]at a1;simp only[ak,ah]at a1 |-;refine⟨.inl (_,13,rwT L,((i+1:Nat):Int)),Goes.of1 a1 fun k h=>?_,_,rfl⟩;simp only[nt,qve,ltT (show q<7 from hq),show decide ((q:Int)<7)=true from ltT hq,ah,ZJ e1',he,aj,af,zq i (by omega),h,ae,altC,tup4]
 |true=>
  rw[h1]at a1;simp only[aj,af]at a1 |-;cases hq0:q==0 with
  |true=>
   simp only[ah];have a2:=qyg L (i+2) o (by omega);cases h2:nmF L (i+2)with
   |inl p=>rw[h2]at a2;refine⟨.inl (_,13,rwT L,((i+2:Nat):Int)),Goes.of2 a1 a2 fun k h h3=>?_,_,rfl⟩;simp only[nt,qve,show decide ((q:Int)<7)=true from ltT hq,ah,ZJ e1',he,aj,af,zq i (by omega),h,h3,ae,altC,tup4,tup2,e0,hq0]
   |inr w=>
    rw[h2]at a2;have a3:=qvw L (i+3) o (strB [41]) (by omega);have hq':q=0:=by grind
    cases h3:isW (tkA L (i+3)) (strB [41])with
    |false=>
     rw[h3]at a3;simp only[ak,ah]at a3 |-;have st:Goes qve (.h1 25 0 0 w (strB []) (tkA L i).pos a b c d e f (rwT L) ((i+3:Nat):Int) o) (.inl ((tkA L (i+3)).pos,13,rwT L,((i+3:Nat):Int))):=Goes.of1 a3 fun k h=>by simp only[nt,qve,h,ae,altC,tup4]
     refine⟨.inl (_,13,rwT L,((i+3:Nat):Int)),Goes.of3 a1 a2 st fun k h h3 h4=>?_,_,rfl⟩;simp only[nt,qve,show decide ((q:Int)<7)=true from ltT hq,ah,ZJ e1',he,aj,af,zq i (by omega),h,h3,ae,altC,tup4,tup3,tup2,e0,hq0,e25]
     grind
    |true=>
     rw[h3]at a3;simp only[aj,af]at a3 |-;have st:Goes qve (.h1 25 0 0 w (strB []) (tkA L i).pos a b c d e f (rwT L) ((i+3:Nat):Int) o) (.inr (25,0,0,w,strB [],(tkA L i).pos,rwT L,((i+4:Nat):Int))):=Goes.of1 a3 fun k h=>by simp only[nt,qve,h,ae,altC,tup2]
     refine⟨_,Goes.of3 a1 a2 st fun k h h3 h4=>?_,rfl⟩;simp only[nt,qve,show decide ((q:Int)<7)=true from ltT hq,ah,ZJ e1',he,aj,af,zq i (by omega),h,h3,ae,altC,tup4,tup3,tup2,e0,hq0,e25];subst hq';exact h4
  |false=>
   simp only[af];obtain⟨r2,a2,hr2⟩:=qzo L (i+2) o (by omega);unfold R153of at hr2;cases h2:atF L (i+2)with
   |inl p=>rw[h2]at hr2;obtain⟨j,rfl⟩:=hr2;refine⟨.inl (_,13,rwT L,j),Goes.of2 a1 a2 fun k h h3=>?_,_,rfl⟩;simp only[nt,qve,show decide ((q:Int)<7)=true from ltT hq,ah,ZJ e1',he,aj,af,zq i (by omega),h,h3,ae,altC,tup4,tup2,e0,hq0]
   |inr w=>
    obtain⟨w1,w2⟩:=w;rw[h2]at hr2;subst hr2;have a3:=qvw L (i+5) o (strB [41]) (by omega);cases h3:isW (tkA L (i+5)) (strB [41])with
    |false=>
     rw[h3]at a3;simp only[ak,ah]at a3 |-;have st:Goes qve (.h1 (25+q) 0 0 w1 w2 (tkA L i).pos a b c d e f (rwT L) ((i+5:Nat):Int) o) (.inl ((tkA L (i+5)).pos,13,rwT L,((i+5:Nat):Int))):=Goes.of1 a3 fun k h=>by simp only[nt,qve,h,ae,altC,tup4]
     refine⟨.inl (_,13,rwT L,((i+5:Nat):Int)),Goes.of3 a1 a2 st fun k h h3 h4=>?_,_,rfl⟩;simp only[nt,qve,show decide ((q:Int)<7)=true from ltT hq,ah,ZJ e1',he,aj,af,zq i (by omega),h,h3,ae,altC,tup4,tup3,tup2,e0,hq0,e25];exact h4
    |true=>
     rw[h3]at a3;simp only[aj,af]at a3 |-;have st:Goes qve (.h1 (25+q) 0 0 w1 w2 (tkA L i).pos a b c d e f (rwT L) ((i+5:Nat):Int) o) (.inr (25+q,0,0,w1,w2,(tkA L i).pos,rwT L,((i+6:Nat):Int))):=Goes.of1 a3 fun k h=>by simp only[nt,qve,h,ae,altC,tup2]
     refine⟨_,Goes.of3 a1 a2 st fun k h h3 h4=>?_,rfl⟩;simp only[nt,qve,show decide ((q:Int)<7)=true from ltT hq,ah,ZJ e1',he,aj,af,zq i (by omega),h,h3,ae,altC,tup4,tup3,tup2,e0,hq0,e25];exact h4
theorem qCq (hi:i<90000)(kd)(tx:ByteArray)(n sl):∃ r,Tot (fun k=>g159 k kd tx n sl (tkA L i).pos (rwT L) i o) r/\R159of L i (agO L i tx) r:=by
 unfold agO;have key:∀ (m q:Nat),7-q=m->q<=7->∃ r,Goes qve (.h0 (strB [67,79,85,78,84]) (strB [70,73,82,83,84]) (strB [76,65,83,84]) (strB [83,85,77]) (strB [77,73,78]) (strB [77,65,88]) (strB [77,69,65,78]) (q:Int) 0 0 0 (strB []) (strB []) 0 kd tx n sl (tkA L i).pos (rwT L) i o) r /\
   R159of L i (match agI (agN.drop q) q tx with|none=>.err (tkA L i).pos 13|some q=>agF L i q) r:=by
  intro m
  induction m with
  |zero=>intro q hm hq;rw[List.drop_eq_nil_of_le (show agN.length<=q by show 7<=q;omega)];refine⟨.inl (_,13,rwT L,(i:Int)),.fin0 fun k rec=>?_,_,rfl⟩;simp only[nt,qve,show decide ((q:Int)<7)=false from ltF (show ¬ q<7 by omega),af]
  |succ m ih=>
   intro q hm hq;have hq7:q<7:=by omega
   have hlt:q<agN.length:=hq7;rw[List.drop_eq_getElem_cons hlt,agI];have e1:agN[q]? = some agN[q]:=ax hlt;have e1':[strB [67,79,85,78,84],strB [70,73,82,83,84],strB [76,65,83,84],strB [83,85,77],strB [77,73,78],strB [77,65,88],strB [77,69,65,78]][q]? = some agN[q]:=e1;cases hb:agN[q].toList==tx.toList with
   |true=>simp only[aj,af];exact qyV L i o hi q hq7 0 0 0 (strB []) (strB []) 0 kd tx n sl (by grind) ⟨rfl,rfl,rfl,rfl,rfl⟩
   |false=>simp only[ak,ah];obtain⟨r,h1,h2⟩:=ih (q+1) (by omega) (by omega);refine⟨r,Goes.rec0 h1 fun k rec=>?_,h2⟩;simp only[nt,qve,show decide ((q:Int)<7)=true from ltT hq7,ah,ZJ e1',hb,ak,zq q (by omega)]
 obtain⟨r,h1,h2⟩:=key 7 0 rfl (by omega);exact⟨r,Goes.rec0 (step:=qve) (s:=.e kd tx n sl (tkA L i).pos (rwT L) i o) h1 fun k rec=>rfl,h2⟩
end
end Ab
end Go.Proofs.YtgfbbmjoflehlaaGreatDoor

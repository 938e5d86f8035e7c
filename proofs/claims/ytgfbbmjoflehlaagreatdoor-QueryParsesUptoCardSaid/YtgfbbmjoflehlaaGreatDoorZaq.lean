/-
  The document's parser: its small functions tell what the plain ones tell, and the first thing that is wrong.
-/
import Derived.Test.YtgfbbmjoflehlaaGreatDoorPcq
set_option linter.all false
namespace Go.Proofs.YtgfbbmjoflehlaaGreatDoor
namespace Ab
def TW (t:Tok):Prop:=(t.kind=1->isLe (bAt t.text 0)=true)/\(t.kind=6->isLe (bAt t.text 0)=false)
structure TL (L:List Tok):Prop where
 len:L.length<5000
 en:Lm L<L.length
 tw:∀ i,TW (tkA L i)
section
variable [vo] (L:List Tok) (i:Nat)
theorem d50 (hi:i<L.length)(o e a):Tot (fun k=>g52c k (rwT L) i o e a) ((tkA L i).kind,(tkA L i).text,(tkA L i).n,(tkA L i).scale,(tkA L i).pos,rwT L):=Goes.fin0 (step:=qxK) (s:=.e (rwT L) i o e a) fun k rec=>by simp only[nt,qxK,Yi (qfK hi),qjp]
theorem d49 (hi:i<L.length)(s:ByteArray)(o e a):Tot (fun k=>g19c k s (rwT L) i o e a) (isW (tkA L i) s,rwT L):=Goes.of1 (step:=qxC) (s:=.e s (rwT L) i o e a) (d50 L i hi o e a) fun k h=>by simp only[nt,qxC,h,ae,tup6,isW];cases (tkA L i).kind==1<;>cases (tkA L i).kind==6<;>rfl
theorem d81 (hi:i<L.length)(c o a):Tot (fun k=>g22c k c (rwT L) i o 0 a) (rwT L,c,(tkA L i).pos):=Goes.of1 (step:=qxE) (s:=.e c (rwT L) i o 0 a) (d50 L i hi o 0 a) fun k h=>by simp only[nt,qxE,h,ae,tup6];rfl
theorem d71e (s:ByteArray)(R i o e a)(he:e≠0):Tot (fun k=>g17c k s R i o e a) (R,i,e,a):=Goes.fin0 (step:=qwE) (s:=.e s R i o e a) fun k rec=>by
 have:(e != 0)=true:=by grind
 simp only[nt,qwE,this,ah]
theorem d71 (hi:i<L.length)(hi2:i<100000)(s:ByteArray)(o a):Tot (fun k=>g17c k s (rwT L) i o 0 a) (bif isW (tkA L i) s then(rwT L,((i+1:Nat):Int),0,a)else(rwT L,(i:Int),13,(tkA L i).pos)):=
 Goes.of2 (step:=qwE) (s:=.e s (rwT L) i o 0 a) (d49 L i hi s o 0 a) (d81 L i hi 13 o a) fun k h h2=>by
 simp only[nt,qwE,h,h2,ae,tup2,tup3,zq i (by omega),bne_self_eq_false,af];cases isW (tkA L i) s<;>rfl
theorem d69 (hi:i<L.length)(hi2:i<100000)(o:Nat)(ho:o<100)(a):Tot (fun k=>g123 k (rwT L) i o 0 a) (bif o==30 then((tkA L i).pos,rwT L,((i+1:Nat):Int),((o+1:Nat):Int),14,(tkA L i).pos)else((tkA L i).pos,rwT L,((i+1:Nat):Int),((o+1:Nat):Int),0,a)):=by
 have s:∀ p e a:Int,Goes qvZ (.h0 p (rwT L) i o e a) (p,rwT L,((i+1:Nat):Int),((o+1:Nat):Int),e,a):=fun p e a=>.fin0 fun k rec=>by simp only[nt,qvZ,zq i (by omega),zq o (by omega)]
 cases hb:o==30 with
 |true=>refine Goes.of3 (step:=qvZ) (s:=.e (rwT L) i o 0 a) (d50 L i hi o 0 a) (d81 L i hi 14 o a) (s (tkA L i).pos 14 (tkA L i).pos) fun k h h2 h3=>?_;simp only[nt,qvZ,h,h2,ae,tup6,tup3,i30,hb,ah];exact h3
 |false=>refine Goes.of2 (step:=qvZ) (s:=.e (rwT L) i o 0 a) (d50 L i hi o 0 a) (s (tkA L i).pos 0 a) fun k h h3=>?_;simp only[nt,qvZ,h,ae,tup6,i30,hb,af];exact h3
theorem d82e (R i o e a)(he:e≠0):Tot (fun k=>g137 k R i o e a) (strB [],R,i,e,a):=Goes.fin0 (step:=qwC) (s:=.e R i o e a) fun k rec=>by
 have:(e != 0)=true:=by grind
 simp only[nt,qwC,this,ah]
theorem d82 (hi:i<L.length)(hi2:i<100000)(o a):Tot (fun k=>g137 k (rwT L) i o 0 a) (match nmF L i with|.inl p=>(strB [],rwT L,(i:Int),13,p)|.inr n=>(n,rwT L,((i+1:Nat):Int),0,a)):=
 Goes.of2 (step:=qwC) (s:=.e (rwT L) i o 0 a) (d50 L i hi o 0 a) (d81 L i hi 13 o a) fun k h h2=>by
 simp only[nt,qwC,h,h2,ae,tup6,tup3,zq i (by omega),bne_self_eq_false,af,nmF];cases (tkA L i).kind != 2<;>rfl
def R124of (L:List Tok)(i:Nat)(r:R124):Prop:=match atF L i with
 |.inl p=>∃ (n b:ByteArray) (j:Int),r=(n,b,rwT L,j,13,p)
 |.inr (n,b)=>r=(n,b,rwT L,((i+3:Nat):Int),0,0)
theorem d70e (R i o e a)(he:e≠0):Tot (fun k=>g124 k R i o e a) (strB [],strB [],R,i,e,a):=by
 have hb:(e==0)=false:=by grind
 have s:Goes qu9 (.h0 (strB []) false R i o e a) (strB [],strB [],R,i,e,a):=.of1 (d82e R i o e a he) fun k h=>by simp only[nt,qu9,h,ae,tup5,af]
 exact Goes.of3 (step:=qu9) (s:=.e R i o e a) (d82e R i o e a he) (d71e (strB [46]) R i o e a he) s fun k h h2 h3=>by simp only[nt,qu9,h,h2,ae,tup5,tup4,hb,af];exact h3
theorem d70 (hL:TL L)(hi:i<=Lm L)(o):∃ r,Tot (fun k=>g124 k (rwT L) i o 0 0) r/\R124of L i r:=by
 have hen:=hL.en;have hlen:=hL.len;have b1:=d82 L i (by omega) (by omega) o 0;unfold R124of atF;cases h1:nmF L i with
 |inl p=>
  rw[h1]at b1;have s:Goes qu9 (.h0 (strB []) false (rwT L) i o 13 p) (strB [],strB [],rwT L,(i:Int),13,p):=.of1 (d82e (rwT L) i o 13 p (by omega)) fun k h=>by simp only[nt,qu9,h,ae,tup5,af]
  refine⟨(strB [],strB [],rwT L,(i:Int),13,p),Goes.of3 (step:=qu9) (s:=.e (rwT L) i o 0 0) b1 (d71e (strB [46]) (rwT L) i o 13 p (by omega)) s fun k h h2 h3=>?_,_,_,_,rfl⟩;simp only[nt,qu9,h,h2,ae,tup5,tup4,show((13:Int)==0)=false from rfl,af];exact h3
 |inr n=>
  have hi1:=qod h1;rw[h1]at b1;have b2:=d71 L (i+1) (by omega) (by omega) (strB [46]) o 0;cases h2:isW (tkA L (i+1)) (strB [46])with
  |false=>
   rw[h2]at b2;simp only[ak,ah,af]at b2 |-;have s:Goes qu9 (.h0 n false (rwT L) ((i+1:Nat):Int) o 13 (tkA L (i+1)).pos) (n,strB [],rwT L,((i+1:Nat):Int),13,(tkA L (i+1)).pos):=.of1 (d82e (rwT L) ((i+1:Nat):Int) o 13 (tkA L (i+1)).pos (by omega)) fun k h=>by simp only[nt,qu9,h,ae,tup5,af]
   refine⟨(n,strB [],rwT L,((i+1:Nat):Int),13,(tkA L (i+1)).pos),Goes.of3 (step:=qu9) (s:=.e (rwT L) i o 0 0) b1 b2 s fun k h h2 h3=>?_,_,_,_,rfl⟩;simp only[nt,qu9,h,h2,ae,tup5,tup4,show((13:Int)==0)=false from rfl,af];exact h3
  |true=>
   rw[h2]at b2;have hi2:=Zv h2;simp only[aj,af,ah]at b2 |-;have b3:=d49 L (i+2) (by omega) (strB [84,73,77,69]) o 0 0;cases h3:isW (tkA L (i+2)) (strB [84,73,77,69])with
   |true=>
    rw[h3]at b3;have s:Goes qu9 (.h0 n true (rwT L) ((i+2:Nat):Int) o 0 0) (n,strB [84,73,77,69],rwT L,((i+3:Nat):Int),0,0):=.fin0 fun k rec=>by simp only[nt,qu9,ah,zq (i+2) (by omega)]
    refine⟨_,Goes.of4 (step:=qu9) (s:=.e (rwT L) i o 0 0) b1 b2 b3 s fun k h h2 h3 h4=>?_,rfl⟩;simp only[nt,qu9,h,h2,h3,ae,tup5,tup4,tup2,beq_self_eq_true,ah];exact h4
   |false=>
    rw[h3]at b3;have b4:=d82 L (i+2) (by omega) (by omega) o 0;cases h4:nmF L (i+2)with
    |inl p=>
     rw[h4]at b4;have s:Goes qu9 (.h0 n false (rwT L) ((i+2:Nat):Int) o 0 0) (n,strB [],rwT L,((i+2:Nat):Int),13,p):=.of1 b4 fun k h=>by simp only[nt,qu9,h,ae,tup5,af]
     refine⟨(n,strB [],rwT L,((i+2:Nat):Int),13,p),Goes.of4 (step:=qu9) (s:=.e (rwT L) i o 0 0) b1 b2 b3 s fun k h h2 h3 h4=>?_,_,_,_,rfl⟩;simp only[nt,qu9,h,h2,h3,ae,tup5,tup4,tup2,beq_self_eq_true,ah];exact h4
    |inr b=>
     rw[h4]at b4;have s:Goes qu9 (.h0 n false (rwT L) ((i+2:Nat):Int) o 0 0) (n,b,rwT L,((i+3:Nat):Int),0,0):=.of1 b4 fun k h=>by simp only[nt,qu9,h,ae,tup5,af]
     refine⟨_,Goes.of4 (step:=qu9) (s:=.e (rwT L) i o 0 0) b1 b2 b3 s fun k h h2 h3 h4=>?_,rfl⟩;simp only[nt,qu9,h,h2,h3,ae,tup5,tup4,tup2,beq_self_eq_true,ah];exact h4
end
end Ab
end Go.Proofs.YtgfbbmjoflehlaaGreatDoor

/-
  The whole query parser, as it is printed, tells what the plain one tells.
-/
import Derived.Test.YtpdhhkfllkgahaaGreatDoorQbq
import Derived.Test.YtpdhhkfllkgahaaGreatDoorBeq
set_option linter.all false
namespace Go.Proofs.YtpdhhkfllkgahaaGreatDoor
namespace Ab
theorem qBs {x:Ex}(h:Rg x):(qzU x).length≤cnt x:=by
 induction h with
 |leaf h=>
  rename_i op n s a b p;by_cases h13:op=13
  · subst h13;simp[lit,qzU,flats]
  · rw[qzR (show(lit op n s a b p).op≠13 from h13)];simp[lit,cnt,cnts]
 |una h hx ih=>rename_i op x p;rw[qzR (show(una op x p).op≠13 by show op≠13;omega)];simp[una,cnt]
 |two h hx hy ihx ihy=>
  rename_i op x y p;by_cases h13:op=13
  · subst h13;rw[qz4,qiA,List.length_append];omega
  · rw[qzR (show(two op x y p).op≠13 from h13)];simp[two,cnt]
section
variable [vo]
theorem qEC {acc:List Ex}{row:List Cell}(h1:acc.length<1000000)(h2:row.length=7):apOk 88 7 (qg acc) [row]=true:=qxj (by rw[Yt];omega) h2
theorem qDy {x:Ex}(h:Rg x):∀ (acc:List Ex),acc.length+cnt x<1000000→Goes qwT (.e (qg acc) x.op (qg x.args) x.n x.scale x.name x.attr x.pos) (qg (acc++qzU x)):=by
 have one:∀ (x:Ex) (acc:List Ex),x.op≠13→acc.length<1000000→Goes qwT (.e (qg acc) x.op (qg x.args) x.n x.scale x.name x.attr x.pos) (qg (acc++qzU x)):=fun x acc h13 ha=>by
  rw[qzR h13,qvL];have:(x.op != 13)=true:=by simpa using h13
  refine .fin0 fun k rec=>?_;simp only[qwT,this,ah,qEC (acc:=acc) (row:=[ic x.op,.imm (qg x.args),ic x.n,ic x.scale,sc x.name,sc x.attr,ic x.pos]) ha rfl,ZW];rw[qg,qjn];rfl
 induction h with
 |leaf h=>rename_i op n s a b p;intro acc ha;refine one _ acc ?_ (by omega);show op≠13;unfold LfOk at h;omega
 |una h hx ih=>rename_i op x p;intro acc ha;refine one _ acc ?_ (by omega);show op≠13;omega
 |two h hx hy ihx ihy=>
  rename_i op x y p;intro acc ha;by_cases h13:op=13
  · subst h13;rw[qiA]at ha;have hl:=qBs hx;rw[qz4,← List.append_assoc];refine Goes.of2 (ihx acc (by omega)) (ihy (acc++qzU x) (by simp;omega)) fun k h1 h2=>?_;show qwT k (itS qwT k) (.e (qg acc) 13 (qg [x,y]) 0 0 (strB []) (strB []) p)=_;simp only[qwT,show((13:Int)!=13)=false from rfl,af,(ix_2 x y _).1,(ix_2 x y _).2,qkU,h1,h2,ae]
  · exact one _ acc h13 (by omega)
theorem qEb {x:Ex}(h:Rg x)(hc:cnt x<100000):Tot (fun k=>g45 k x.op (qg x.args) x.n x.scale x.name x.attr x.pos) (qg (qzU x)):=by
 have one:∀ (x:Ex),x.op≠13→Goes qxK (.e x.op (qg x.args) x.n x.scale x.name x.attr x.pos) (qg (qzU x)):=fun x h13=>by
  rw[qzR h13];have:(x.op != 13)=true:=by simpa using h13
  refine .fin0 fun k rec=>?_;simp only[qxK,this,ah];rw[qg,qjn];rfl
 induction h with
 |leaf h=>rename_i op n s a b p;refine one _ ?_;show op≠13;unfold LfOk at h;omega
 |una h hx ih=>rename_i op x p;refine one _ ?_;show op≠13;omega
 |two h hx hy ihx ihy=>
  rename_i op x y p;by_cases h13:op=13
  · subst h13;rw[qiA]at hc;have hl:=qBs hx;rw[qz4];refine Goes.of2 (step:=qxK) (s:=.e 13 (qg [x,y]) 0 0 (strB []) (strB []) p) (ihx (by omega)) (qDy hy (qzU x) (by omega)) fun k h1 h2=>?_;have h1:itS qxK k (.e x.op (qg x.args) x.n x.scale x.name x.attr x.pos)=_:=h1;have h2:g45b k (qg (qzU x)) y.op (qg y.args) y.n y.scale y.name y.attr y.pos=_:=h2;simp only[qxK,show((13:Int)!=13)=false from rfl,af,(ix_2 x y _).1,(ix_2 x y _).2,qkU,h1,h2,ae]
  · exact one _ h13
section
variable {L:List Tok} (hE:Lm L+1=L.length) (hL:L.length<5000) (c d:Rs)
include hE hL
omit hE hL in
def R46of (L:List Tok)(c d:Rs)(o:Er⊕(Tl×Nat))(r:R46):Prop:=match o with
 |.inl (p,e)=>∃ a b c' d' e' f g h,r=.inl (p,e,a,b,c',d',e',f,g,h)
 |.inr (t,j)=>r=.inr (rwT L,(j:Int),c,d,t.st,t.wd,t.key,t.ka)
theorem qB3 (st:Int){i:Nat}(hi:i+1≤Lm L):∃ r,Goes qfc (.h0 (rwT L) (i:Int) c d st 0 (strB []) 0) r∧R46of L c d (tailW L st (i+1)) r:=by
 have a1:=qAl hE hL c d st 0 (strB []) 0 wiB (i:=i+1) hi;unfold tailW;cases h1:qzQ L wiB (i+1)with
 |inl er=>obtain⟨p,er⟩:=er;rw[h1]at a1;refine⟨.inl (p,er,rwT L,((i+1:Nat):Int),c,d,st,0,strB [],0),.of1 a1 fun k b=>?_,_,_,_,_,_,_,_,_,rfl⟩;simp only[wiB]at b;simp only[qfc,zq i (by omega),b,N41,ae,altC,tup6]
 |inr j=>
  rw[h1]at a1;have hj:=qz6 h1;have a2:=qAm hE hL c d st 0 (strB []) 0 (i:=j) hj.2.2;simp only;cases h3:((tkA L j).kind != 3)with
  |true=>have a3:=qAa hE hL c d st 0 (strB []) 0 13 (i:=j) hj.2.2;refine⟨.inl ((tkA L j).pos,13,rwT L,(j:Int),c,d,st,0,strB [],0),.of3 a1 a2 a3 fun k b b2 b3=>?_,_,_,_,_,_,_,_,_,rfl⟩;simp only[wiB]at b;simp only[qfc,zq i (by omega),b,N41,ae,altC,tup4,b2,tup8,h3,ah,b3,tup5]
  |false=>
   simp only[af];cases hw:decide ((tkA L j).n>1152921504606846976)with
   |true=>have a3:=qAa hE hL c d st 0 (strB []) 0 1 (i:=j) hj.2.2;refine⟨.inl ((tkA L j).pos,1,rwT L,(j:Int),c,d,st,0,strB [],0),.of3 a1 a2 a3 fun k b b2 b3=>?_,_,_,_,_,_,_,_,_,rfl⟩;simp only[wiB]at b;simp only[qfc,zq i (by omega),b,N41,ae,altC,tup4,b2,tup8,h3,af,hw,ah,b3,tup5]
   |false=>
    simp only[af];have hk:(tkA L j).kind=3:=by simpa using h3
    have hjl:=ZU (L:=L) (i:=j) (by rw[hk];decide);have a3:=qzW hE hL c d st (tkA L j).n (strB []) 0 paB (i:=j+1) (by omega);unfold qAG;cases hp:isW (tkA L (j+1)) paB with
    |false=>rw[hp]at a3;refine⟨.inr (rwT L,((j+1:Nat):Int),c,d,st,(tkA L j).n,strB [],0),.of3 a1 a2 a3 fun k b b2 b3=>?_,rfl⟩;simp only[wiB]at b;simp only[paB]at b3;simp only[qfc,zq i (by omega),b,N41,ae,altC,tup4,b2,tup8,h3,af,hw,zq j (by omega),b3]
    |true=>
     rw[hp]at a3;have hpl:=Zv hp;have a4:=qAl hE hL c d st (tkA L j).n (strB []) 0 byB (i:=j+2) (by omega);simp only[ah];cases h4:qzQ L byB (j+1+1)with
     |inl er=>obtain⟨p,er⟩:=er;rw[show j+1+1=j+2 from rfl]at h4;rw[h4]at a4;refine⟨.inl (p,er,rwT L,((j+2:Nat):Int),c,d,st,(tkA L j).n,strB [],0),.of4 a1 a2 a3 a4 fun k b b2 b3 b4=>?_,_,_,_,_,_,_,_,_,rfl⟩;simp only[wiB]at b;simp only[paB]at b3;simp only[byB]at b4;simp only[qfc,zq i (by omega),b,N41,ae,altC,tup4,b2,tup8,h3,af,hw,zq j (by omega),b3,ah,zq (j+1) (by omega),b4,tup6]
     |inr m=>
      rw[show j+1+1=j+2 from rfl]at h4;rw[h4]at a4;have hm:=qz6 h4;have a5:=(qAm hE hL c d st (tkA L j).n (strB []) 0 (i:=m) hm.2.2).and (qBi hE hL c d st (tkA L j).n (strB []) (tkA L m).pos (i:=m) hm.2.2);simp only;cases h5:nmF L m with
      |inl p=>rw[h5]at a5;refine⟨.inl (p,13,rwT L,(m:Int),c,d,st,(tkA L j).n,strB [],(tkA L m).pos),.of4 a1 (a2.and a3) a4 a5 fun k b b2 b4 b5=>?_,_,_,_,_,_,_,_,_,rfl⟩;obtain⟨b2,b3⟩:=Zb b2;obtain⟨b5,b6⟩:=Zb b5;simp only[wiB]at b;simp only[paB]at b3;simp only[byB]at b4;simp only[qfc,zq i (by omega),b,N41,ae,altC,tup4,b2,tup8,h3,af,hw,zq j (by omega),b3,ah,zq (j+1) (by omega),b4,b5,b6,tup6]
      |inr a=>rw[h5]at a5;refine⟨.inr (rwT L,((m+1:Nat):Int),c,d,st,(tkA L j).n,a,(tkA L m).pos),.of4 a1 (a2.and a3) a4 a5 fun k b b2 b4 b5=>?_,rfl⟩;obtain⟨b2,b3⟩:=Zb b2;obtain⟨b5,b6⟩:=Zb b5;simp only[wiB]at b;simp only[paB]at b3;simp only[byB]at b4;simp only[qfc,zq i (by omega),b,N41,ae,altC,tup4,b2,tup8,h3,af,hw,zq j (by omega),b3,ah,zq (j+1) (by omega),b4,b5,b6,tup5]
theorem zK {i:Nat}(hi:i≤Lm L):∃ r,Tot (fun k=>g46 k (rwT L) i c d 0 0 (strB []) 0) r∧R46of L c d (qAg L i) r:=by
 have a1:=qAl hE hL c d 0 0 (strB []) 0 sgB (i:=i) hi;unfold qAg;cases h1:qzQ L sgB i with
 |inl er=>obtain⟨p,er⟩:=er;rw[h1]at a1;refine⟨.inl (p,er,rwT L,(i:Int),c,d,0,0,strB [],0),Goes.of1 (step:=qfc) (s:=.e (rwT L) i c d 0 0 (strB []) 0) a1 fun k b=>?_,_,_,_,_,_,_,_,_,rfl⟩;simp only[sgB]at b;simp only[qfc,b,N41,ae,altC,tup6]
 |inr j=>
  rw[h1]at a1;have hj:=qz6 h1;have a2:=qzW hE hL c d 0 0 (strB []) 0 s1B (i:=j) hj.2.2;have a3:=qzW hE hL c d 0 0 (strB []) 0 s2B (i:=j) hj.2.2;have a4:=qzW hE hL c d 0 0 (strB []) 0 s3B (i:=j) hj.2.2;simp only;cases w1:isW (tkA L j) s1B with
  |true=>rw[w1]at a2;have:=Zv w1;obtain⟨r,h2,h3⟩:=qB3 hE hL c d 1 (i:=j) (by omega);refine⟨r,Goes.of3 (step:=qfc) (s:=.e (rwT L) i c d 0 0 (strB []) 0) a1 a2 h2 fun k b b2 b3=>?_,h3⟩;simp only[sgB]at b;simp only[s1B]at b2;simp only[qfc,b,N41,ae,altC,tup4,b2,ah];exact b3
  |false=>
   rw[w1]at a2;simp only[af];cases w2:isW (tkA L j) s2B with
   |true=>rw[w2]at a3;have:=Zv w2;obtain⟨r,h2,h3⟩:=qB3 hE hL c d 2 (i:=j) (by omega);refine⟨r,Goes.of4 (step:=qfc) (s:=.e (rwT L) i c d 0 0 (strB []) 0) a1 a2 a3 h2 fun k b b2 b3 b4=>?_,h3⟩;simp only[sgB]at b;simp only[s1B]at b2;simp only[s2B]at b3;simp only[qfc,b,N41,ae,altC,tup4,b2,af,b3,ah];exact b4
   |false=>
    rw[w2]at a3;simp only[af];cases w3:isW (tkA L j) s3B with
    |true=>rw[w3]at a4;have:=Zv w3;obtain⟨r,h2,h3⟩:=qB3 hE hL c d 3 (i:=j) (by omega);refine⟨r,Goes.of4 (step:=qfc) (s:=.e (rwT L) i c d 0 0 (strB []) 0) a1 a2 (a3.and a4) h2 fun k b b2 b3 b4=>?_,h3⟩;obtain⟨b3,b5⟩:=Zb b3;simp only[sgB]at b;simp only[s1B]at b2;simp only[s2B]at b3;simp only[s3B]at b5;simp only[qfc,b,N41,ae,altC,tup4,b2,af,b3,b5,ah];exact b4
    |false=>rw[w3]at a4;have a5:=qAa hE hL c d 0 0 (strB []) 0 13 (i:=j) hj.2.2;refine⟨.inl ((tkA L j).pos,13,rwT L,(j:Int),c,d,0,0,strB [],0),Goes.of4 (step:=qfc) (s:=.e (rwT L) i c d 0 0 (strB []) 0) a1 a2 (a3.and a4) a5 fun k b b2 b3 b4=>?_,_,_,_,_,_,_,_,_,rfl⟩;obtain⟨b3,b5⟩:=Zb b3;simp only[sgB]at b;simp only[s1B]at b2;simp only[s2B]at b3;simp only[s3B]at b5;simp only[qfc,b,N41,ae,altC,tup4,b2,af,b3,b5,b4,tup5]
end
end
end Ab
end Go.Proofs.YtpdhhkfllkgahaaGreatDoor

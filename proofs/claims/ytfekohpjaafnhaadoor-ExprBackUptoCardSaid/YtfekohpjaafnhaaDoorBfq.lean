/-
  ExprBack: what is read is printed, and read again as it was.
-/
import Derived.Test.YtfekohpjaafnhaaDoorBeq
set_option linter.all false
namespace Go.Proofs.YtfekohpjaafnhaaDoor
namespace Ab
theorem qwl {s:ByteArray}{n:Nat}{x:Ex}{a:Int}(h:parT s n=some (x,a,0)):Rg x∧(pr x).2.1≤30∧cnt x≤200:=by obtain⟨hs,T,hT,hk,hl,hp,hc⟩:=qkC h;have ne:=(qwN (qw2 hs hT) n).1 0 0 0 x _ (by omega) (by omega) hp;have h2:=ne.2;rw[vk (Nat.zero_le _)]at h2;exact⟨ne.1,h2,hc⟩
theorem qvY {x:Ex}(hr:Rg x)(hn:(pr x).2.1≤30)(hc:cnt x≤200)(hs:(pr x).1.size≤4000):∃ n y,parT (pr x).1 n=some (y,0,0)∧qbA y x=true:=by
 obtain⟨L,h1,h2⟩:=qvP hr;generalize he:endT (pr x).1=e at h1;have hlen:(pr x).2.2.length=L.length:=by rw[← h2,List.length_map]
 have hat:At (L++[e]) 0 (pr x).2.2:=fun k t hk=>by rw[← h2]at hk;obtain⟨u,hu,rfl⟩:=aH .. ▸ hk |> aG.1;have hlt:=(az.1 hu).1;rw[Nat.zero_add,qle hlt];unfold tkA;rw[hu];rfl
 have hend:tkA (L++[e]) (0+(pr x).2.2.length)=e:=by rw[Nat.zero_add,hlen,qkE]
 have heo:EO (L++[e]) (0+(pr x).2.2.length) 0:=fun m _=>by rw[hend,← he];exact qhF _ m
 obtain⟨n,y,g1,g2⟩:=(rb hr (L++[e]) 0 0 hat (by omega)).1 0 (Nat.zero_le _) heo;refine⟨n,y,?_,g2⟩;have hcy:cnt y=cnt x:=(qvg y x g2).2.2;unfold parT;rw[aD hs,h1];simp only[g1,av,outP,hend];rw[aD (by rw[← he];rfl),aD (by omega)]
section
variable [vo]
theorem qvu (s:ByteArray):Tot (fun k=>g4 k s) true:=by
 obtain⟨⟨x,a,e⟩,h⟩:=qk0 s (n:=90000) (by omega);have t1:=qdP h;have t7:Tot (fun k=>g7 k) true:=qjj 100 awk;by_cases he:e=0
 ·
  subst he;obtain⟨hr,hn,hc⟩:=qwl h;have p1:=qv6 hr hn hc;have into:Goes qnB (.h0 false x.op (qg x.args) x.n x.scale x.name x.attr x.pos) true→Goes qnB (.e s) true:=fun h0=>.of3 t1 t7 h0 fun k b b2 b3=>by simp only[qnB,b,exT,ae,tup9,b2,aj,af];exact b3
  refine into ?_;by_cases hs:4000<(pr x).1.size
  · have e1:prP x=(strB [],2):=aD hs;rw[e1]at p1;refine .of1 p1 fun k b=>?_;simp only[qnB,af,b,ae,tup2];rfl
  · have e1:prP x=((pr x).1,0):=aF hs;rw[e1]at p1;obtain⟨n,y,h2,h3⟩:=qvY hr hn hc (by omega);obtain⟨hr2,hn2,hc2⟩:=qwl h2;have p2:=qv6 hr2 hn2 hc2;have ey:prP y=((pr x).1,0):=by unfold prP;rw[(qvg y x h3).1,aF hs]
    rw[ey]at p2;have t8:Tot (fun k=>g8 k y.op (qg y.args) y.n y.scale y.name y.attr y.pos x.op (qg x.args) x.n x.scale x.name x.attr x.pos) true:=by have:=qmf _ y x (Nat.le_refl _) (by omega);rw[h3]at this;exact this
    refine .of4 p1 (qdP h2) p2 t8 fun k b b2 b3 b4=>?_;simp only[qnB,af,b,b2,b3,b4,exT,ae,tup9,tup2,beq_self_eq_true,ah,show decide ((((pr x).1.size:Nat):Int)≤4000)=true from aO (by omega)];rfl
 ·
  have hb:(e != 0)=true:=by simpa using he
  have out:Goes qnB (.h0 true x.op (qg x.args) x.n x.scale x.name x.attr x.pos) true:=.of1 t7 fun k b=>by simp only[qnB,ah,b,ae]
  refine Goes.of3 (step:=qnB) (s:=.e s) t1 t7 out fun k b b2 b3=>?_;simp only[qnB,b,exT,ae,tup9,b2,aj,af,hb];exact b3
end
end Ab
end Go.Proofs.YtfekohpjaafnhaaDoor

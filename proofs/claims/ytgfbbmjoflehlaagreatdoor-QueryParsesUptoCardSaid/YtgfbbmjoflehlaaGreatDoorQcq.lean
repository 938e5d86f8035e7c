import Derived.Test.YtgfbbmjoflehlaaGreatDoorQbq
import Derived.Test.YtgfbbmjoflehlaaGreatDoorBnq
set_option linter.all false
namespace Go.Proofs.YtgfbbmjoflehlaaGreatDoor
namespace Ab
theorem ix_2 {α:Type}(x y:Ex)(f:List Cell->Option α):ixR (qg [x,y]) 0 f=f (Xe x)/\ixR (qg [x,y]) 1 f=f (Xe y):=⟨rfl,rfl⟩
theorem qwQ {x:Ex}(h:Bn x):(qvv x).length<=cnt x:=by
 induction h with
 |one h13=>rw[qvM h13];have:=XN ‹Ex›;simp only[List.length_singleton];omega
 |two hx hy ihx ihy=>rw[qwl,qiA,List.length_append];omega
section
variable [vo]
theorem qEN {acc:List Ex}{row:List Cell}(h1:acc.length<1000000)(h2:row.length=7):apOk 88 7 (qg acc) [row]=true:=qCQ (by rw[Yt];omega) h2
theorem qCr {x:Ex}(h:Bn x):∀ (acc:List Ex),acc.length+cnt x<1000000->Goes qv0 (.e (qg acc) x.op (qg x.args) x.n x.scale x.name x.attr x.pos) (qg (acc++qvv x)):=by
 have one:∀ (x:Ex) (acc:List Ex),x.op≠13->acc.length<1000000->Goes qv0 (.e (qg acc) x.op (qg x.args) x.n x.scale x.name x.attr x.pos) (qg (acc++qvv x)):=fun x acc h13 ha=>by
  rw[qvM h13,qxf];have:(x.op != 13)=true:=by simpa using h13
  refine .fin0 fun k rec=>?_;simp only[nt,qv0,this,ah,qEN (acc:=acc) (row:=[ic x.op,.imm (qg x.args),ic x.n,ic x.scale,sc x.name,sc x.attr,ic x.pos]) ha rfl,ZW];rw[qg,qjn];rfl
 induction h with
 |one h13=>exact fun acc ha=>one _ acc h13 (by omega)
 |two hx hy ihx ihy=>rename_i x y p;intro acc ha;rw[qiA]at ha;have hl:=qwQ hx;rw[qwl,<- List.append_assoc];refine Goes.of2 (ihx acc (by omega)) (ihy (acc++qvv x) (by simp;omega)) fun k h1 h2=>?_;show qv0 k (itS qv0 k) (.e (qg acc) 13 (qg [x,y]) 0 0 (strB []) (strB []) p)=_;simp only[nt,qv0,show((13:Int)!=13)=false from rfl,af,(ix_2 x y _).1,(ix_2 x y _).2,qkU,h1,h2,ae]
theorem qoX {x:Ex}(h:Bn x)(hc:cnt x<100000):Tot (fun k=>g44 k x.op (qg x.args) x.n x.scale x.name x.attr x.pos) (qg (qvv x)):=by
 have one:∀ (x:Ex),x.op≠13->Goes qq1 (.e x.op (qg x.args) x.n x.scale x.name x.attr x.pos) (qg (qvv x)):=fun x h13=>by
  rw[qvM h13];have:(x.op != 13)=true:=by simpa using h13
  refine .fin0 fun k rec=>?_;simp only[nt,qq1,this,ah];rw[qg,qjn];rfl
 induction h with
 |one h13=>exact one _ h13
 |two hx hy ihx ihy=>rename_i x y p;rw[qiA]at hc;have hl:=qwQ hx;rw[qwl];refine Goes.of2 (step:=qq1) (s:=.e 13 (qg [x,y]) 0 0 (strB []) (strB []) p) (ihx (by omega)) (qCr hy (qvv x) (by omega)) fun k h1 h2=>?_;have h1:itS qq1 k (.e x.op (qg x.args) x.n x.scale x.name x.attr x.pos)=_:=h1;have h2:g44b k (qg (qvv x)) y.op (qg y.args) y.n y.scale y.name y.attr y.pos=_:=h2;simp only[nt,qq1,show((13:Int)!=13)=false from rfl,af,(ix_2 x y _).1,(ix_2 x y _).2,qkU,h1,h2,ae]
section
variable {L:List Tok} (hE:Lm L+1=L.length) (hL:L.length<5000) (c d:Rs)
include hE hL
omit hE hL in
def R45of (L:List Tok)(c d:Rs)(o:Er⊕(Tl×Nat))(r:R45):Prop:=match o with
 |.inl (p,e)=>∃ a b c' d' e' f g h,r=.inl (p,e,a,b,c',d',e',f,g,h)
 |.inr (t,j)=>r=.inr (rwT L,(j:Int),c,d,t.st,t.wd,t.key,t.ka)
theorem qzs (st:Int){i:Nat}(hi:i+1<=Lm L):∃ r,Goes qvm (.h0 (rwT L) (i:Int) c d st 0 (strB []) 0) r/\R45of L c d (tailW L st (i+1)) r:=by
 have a1:=qwh hE hL c d st 0 (strB []) 0 wiB (i:=i+1) hi;unfold tailW;cases h1:qu8 L wiB (i+1)with
 |inl er=>obtain⟨p,er⟩:=er;rw[h1]at a1;refine⟨.inl (p,er,rwT L,((i+1:Nat):Int),c,d,st,0,strB [],0),.of1 a1 fun k b=>?_,_,_,_,_,_,_,_,_,rfl⟩;simp only[wiB]at b;simp only[nt,qvm,zq i (by omega),b,N41,ae,altC,tup6]
 |inr j=>
  rw[h1]at a1;have hj:=qvk h1;have a2:=qwi hE hL c d st 0 (strB []) 0 (i:=j) hj.2.2;simp only;cases h3:((tkA L j).kind != 3)with
  |true=>have a3:=qvV hE hL c d st 0 (strB []) 0 13 (i:=j) hj.2.2;refine⟨.inl ((tkA L j).pos,13,rwT L,(j:Int),c,d,st,0,strB [],0),.of3 a1 a2 a3 fun k b b2 b3=>?_,_,_,_,_,_,_,_,_,rfl⟩;simp only[wiB]at b;simp only[nt,qvm,zq i (by omega),b,N41,ae,altC,tup4,b2,tup8,h3,ah,b3,tup5]
  |false=>
   simp only[af];cases hw:decide ((tkA L j).n>1152921504606846976)with
   |true=>have a3:=qvV hE hL c d st 0 (strB []) 0 1 (i:=j) hj.2.2;refine⟨.inl ((tkA L j).pos,1,rwT L,(j:Int),c,d,st,0,strB [],0),.of3 a1 a2 a3 fun k b b2 b3=>?_,_,_,_,_,_,_,_,_,rfl⟩;simp only[wiB]at b;simp only[nt,qvm,zq i (by omega),b,N41,ae,altC,tup4,b2,tup8,h3,af,hw,ah,b3,tup5]
   |false=>
    simp only[af];have hk:(tkA L j).kind=3:=by simpa using h3
    have hjl:=ZU (L:=L) (i:=j) (by rw[hk];decide);have a3:=qvt hE hL c d st (tkA L j).n (strB []) 0 paB (i:=j+1) (by omega);unfold qy3;cases hp:isW (tkA L (j+1)) paB with
    |false=>rw[hp]at a3;refine⟨.inr (rwT L,((j+1:Nat):Int),c,d,st,(tkA L j).n,strB [],0),.of3 a1 a2 a3 fun k b b2 b3=>?_,rfl⟩;simp only[wiB]at b;simp only[paB]at b3;simp only[nt,qvm,zq i (by omega),b,N41,ae,altC,tup4,b2,tup8,h3,af,hw,zq j (by omega),b3]
    |true=>
     rw[hp]at a3;have hpl:=Zv hp;have a4:=qwh hE hL c d st (tkA L j).n (strB []) 0 byB (i:=j+2) (by omega);simp only[ah];cases h4:qu8 L byB (j+1+1)with
     |inl er=>obtain⟨p,er⟩:=er;rw[show j+1+1=j+2 from rfl]at h4;rw[h4]at a4;refine⟨.inl (p,er,rwT L,((j+2:Nat):Int),c,d,st,(tkA L j).n,strB [],0),.of4 a1 a2 a3 a4 fun k b b2 b3 b4=>?_,_,_,_,_,_,_,_,_,rfl⟩;simp only[wiB]at b;simp only[paB]at b3;simp only[byB]at b4;simp only[nt,qvm,zq i (by omega),b,N41,ae,altC,tup4,b2,tup8,h3,af,hw,zq j (by omega),b3,ah,zq (j+1) (by omega),b4,tup6]
     |inr m=>
      rw[show j+1+1=j+2 from rfl]at h4;rw[h4]at a4;have hm:=qvk h4;have a5:=(qwi hE hL c d st (tkA L j).n (strB []) 0 (i:=m) hm.2.2).and (qyi hE hL c d st (tkA L j).n (strB []) (tkA L m).pos (i:=m) hm.2.2);simp only;cases h5:nmF L m with
      |inl p=>rw[h5]at a5;refine⟨.inl (p,13,rwT L,(m:Int),c,d,st,(tkA L j).n,strB [],(tkA L m).pos),.of4 a1 (a2.and a3) a4 a5 fun k b b2 b4 b5=>?_,_,_,_,_,_,_,_,_,rfl⟩;obtain⟨b2,b3⟩:=Zb b2;obtain⟨b5,b6⟩:=Zb b5;simp only[wiB]at b;simp only[paB]at b3;simp only[byB]at b4;simp only[nt,qvm,zq i (by omega),b,N41,ae,altC,tup4,b2,tup8,h3,af,hw,zq j (by omega),b3,ah,zq (j+1) (by omega),b4,b5,b6,tup6]
      |inr a=>rw[h5]at a5;refine⟨.inr (rwT L,((m+1:Nat):Int),c,d,st,(tkA L j).n,a,(tkA L m).pos),.of4 a1 (a2.and a3) a4 a5 fun k b b2 b4 b5=>?_,rfl⟩;obtain⟨b2,b3⟩:=Zb b2;obtain⟨b5,b6⟩:=Zb b5;simp only[wiB]at b;simp only[paB]at b3;simp only[byB]at b4;simp only[nt,qvm,zq i (by omega),b,N41,ae,altC,tup4,b2,tup8,h3,af,hw,zq j (by omega),b3,ah,zq (j+1) (by omega),b4,b5,b6,tup5]
theorem qDG {i:Nat}(hi:i<=Lm L):∃ r,Tot (fun k=>g45 k (rwT L) i c d 0 0 (strB []) 0) r/\R45of L c d (qwG L i) r:=by
 have a1:=qwh hE hL c d 0 0 (strB []) 0 sgB (i:=i) hi;unfold qwG;cases h1:qu8 L sgB i with
 |inl er=>obtain⟨p,er⟩:=er;rw[h1]at a1;refine⟨.inl (p,er,rwT L,(i:Int),c,d,0,0,strB [],0),Goes.of1 (step:=qvm) (s:=.e (rwT L) i c d 0 0 (strB []) 0) a1 fun k b=>?_,_,_,_,_,_,_,_,_,rfl⟩;simp only[sgB]at b;simp only[nt,qvm,b,N41,ae,altC,tup6]
 |inr j=>
  rw[h1]at a1;have hj:=qvk h1;have a2:=qvt hE hL c d 0 0 (strB []) 0 s1B (i:=j) hj.2.2;have a3:=qvt hE hL c d 0 0 (strB []) 0 s2B (i:=j) hj.2.2;have a4:=qvt hE hL c d 0 0 (strB []) 0 s3B (i:=j) hj.2.2;simp only;cases w1:isW (tkA L j) s1B with
  |true=>rw[w1]at a2;have:=Zv w1;obtain⟨r,h2,h3⟩:=qzs hE hL c d 1 (i:=j) (by omega);refine⟨r,Goes.of3 (step:=qvm) (s:=.e (rwT L) i c d 0 0 (strB []) 0) a1 a2 h2 fun k b b2 b3=>?_,h3⟩;simp only[sgB]at b;simp only[s1B]at b2;simp only[nt,qvm,b,N41,ae,altC,tup4,b2,ah];exact b3
  |false=>
   rw[w1]at a2;simp only[af];cases w2:isW (tkA L j) s2B with
   |true=>rw[w2]at a3;have:=Zv w2;obtain⟨r,h2,h3⟩:=qzs hE hL c d 2 (i:=j) (by omega);refine⟨r,Goes.of4 (step:=qvm) (s:=.e (rwT L) i c d 0 0 (strB []) 0) a1 a2 a3 h2 fun k b b2 b3 b4=>?_,h3⟩;simp only[sgB]at b;simp only[s1B]at b2;simp only[s2B]at b3;simp only[nt,qvm,b,N41,ae,altC,tup4,b2,af,b3,ah];exact b4
   |false=>
    rw[w2]at a3;simp only[af];cases w3:isW (tkA L j) s3B with
    |true=>rw[w3]at a4;have:=Zv w3;obtain⟨r,h2,h3⟩:=qzs hE hL c d 3 (i:=j) (by omega);refine⟨r,Goes.of4 (step:=qvm) (s:=.e (rwT L) i c d 0 0 (strB []) 0) a1 a2 (a3.and a4) h2 fun k b b2 b3 b4=>?_,h3⟩;obtain⟨b3,b5⟩:=Zb b3;simp only[sgB]at b;simp only[s1B]at b2;simp only[s2B]at b3;simp only[s3B]at b5;simp only[nt,qvm,b,N41,ae,altC,tup4,b2,af,b3,b5,ah];exact b4
    |false=>rw[w3]at a4;have a5:=qvV hE hL c d 0 0 (strB []) 0 13 (i:=j) hj.2.2;refine⟨.inl ((tkA L j).pos,13,rwT L,(j:Int),c,d,0,0,strB [],0),Goes.of4 (step:=qvm) (s:=.e (rwT L) i c d 0 0 (strB []) 0) a1 a2 (a3.and a4) a5 fun k b b2 b3 b4=>?_,_,_,_,_,_,_,_,_,rfl⟩;obtain⟨b3,b5⟩:=Zb b3;simp only[sgB]at b;simp only[s1B]at b2;simp only[s2B]at b3;simp only[s3B]at b5;simp only[nt,qvm,b,N41,ae,altC,tup4,b2,af,b3,b5,b4,tup5]
end
end
section
def R14of [vo](L:List Tok)(o:Er⊕Qu)(r:R14b):Prop:=match o with
 |.inl (p,e)=>∃ a b c' d' e' f g h,r=.inl (p,e,a,b,c',d',e',f,g,h)
 |.inr q=>∃ j:Int,r=.inr (rwT L,j,qu0 q.br,qg q.wh,q.st,q.wd,q.key,q.ka)
def whE (L:List Tok)(br:List (List It)):Er⊕(List Ex×Nat)->Er⊕Qu
 |.inl e=>.inl e
 |.inr (wh,j)=>qw6 L br wh j
section
variable [vo] {L:List Tok} (hE:Lm L+1=L.length) (hL:L.length<5000)
include hE hL
theorem qzn (br:List (List It))(wh:List Ex){i:Nat}(hi:i<=Lm L):∃ r,Goes qvd (.h2 (rwT L) (i:Int) (qu0 br) (qg wh) 0 0 (strB []) 0) r/\R14of L (qw6 L br wh i) r:=by
 obtain⟨r,a1,hr⟩:=qDG hE hL (qu0 br) (qg wh) hi;unfold qw6;cases ht:qwG L i with
 |inl er=>obtain⟨p,er⟩:=er;rw[ht]at hr;obtain⟨a,b,c',d',e',f,g,h,rfl⟩:=hr;refine⟨.inl (p,er,a,b,c',d',e',f,g,h),.of1 a1 fun k b=>?_,_,_,_,_,_,_,_,_,rfl⟩;simp only[nt,qvd,b,ae,altC,ql]
 |inr tj=>
  obtain⟨t,j⟩:=tj;rw[ht]at hr;cases hr;have hj:=qAg ht;have a2:=qwi hE hL (qu0 br) (qg wh) t.st t.wd t.key t.ka (i:=j) hj;have a3:=qvV hE hL (qu0 br) (qg wh) t.st t.wd t.key t.ka 13 (i:=j) hj;simp only;cases hk:((tkA L j).kind != 0)with
  |true=>refine⟨.inl ((tkA L j).pos,13,rwT L,(j:Int),qu0 br,qg wh,t.st,t.wd,t.key,t.ka),.of3 a1 a2 a3 fun k b b2 b3=>?_,_,_,_,_,_,_,_,_,rfl⟩;simp only[nt,qvd,b,ae,altC,tup8,b2,hk,ah,b3,tup5]
  |false=>refine⟨.inr (rwT L,(j:Int),qu0 br,qg wh,t.st,t.wd,t.key,t.ka),.of2 a1 a2 fun k b b2=>?_,_,rfl⟩;simp only[nt,qvd,b,ae,altC,tup8,b2,hk,af]
theorem qDE (br:List (List It)){n i:Nat}(hi:i<=Lm L)(hno:isW (tkA L i) orB=false){o:Er⊕(List Ex×Nat)}(h:qvn L n i=some o):
  ∃ r,Goes qvd (.h0 (rwT L) (i:Int) (qu0 br) [] 0 0 (strB []) 0) r/\R14of L (whE L br o) r:=by
 have a1:=qvt hE hL (qu0 br) [] 0 0 (strB []) 0 orB (i:=i) hi;have a2:=qvt hE hL (qu0 br) [] 0 0 (strB []) 0 whB (i:=i) hi;rw[hno]at a1;unfold qvn at h;cases hw:isW (tkA L i) whB with
 |false=>rw[hw]at h a2;cases h;obtain⟨r,h2,h3⟩:=qzn hE hL br [] hi;refine⟨r,.of3 a1 a2 h2 fun k b b2 b3=>?_,h3⟩;simp only[orB]at b;simp only[whB]at b2;simp only[nt,qvd,b,ae,tup4,af,b2];exact b3
 |true=>
  rw[hw]at h a2;have hi1:=Zv hw;simp only[ah]at h;cases hp:pp L n (.p 0 (i+1) 0)with
  |none=>rw[hp]at h;cases h
  |some out=>
   rw[hp]at h;have a3:=qj9 (L:=L) (i:=i+1) (by omega) (by omega) hL hp;cases out with
   |err p er=>
    cases h;have he:(er != 0)=true:=by
     have:er≠0:=by rcases qix _ _ _ _ _ hp with h|h<;>omega
     simpa using this
    refine⟨.inl (p,er,rwT L,((i+1:Nat):Int),qu0 br,[],0,0,strB [],0),.of4 a1 a2 a3 (Goes.fin0 (step:=qvd) (s:=.h1 0 p er (er != 0) 0 [] 0 0 (strB []) (strB []) 0 (rwT L) ((i+1:Nat):Int) (qu0 br) [] 0 0 (strB []) 0) (r:=.inl (p,er,rwT L,((i+1:Nat):Int),qu0 br,[],0,0,strB [],0)) fun k rec=>by simp only[nt,qvd,he,ah]) fun k b b2 b3 b4=>?_,_,_,_,_,_,_,_,_,rfl⟩;simp only[orB]at b;simp only[whB]at b2;simp only[nt,qvd,b,ae,tup4,af,b2,ah,zq i (by omega),b3,R43of,altC,tup9];exact b4
   |ok x j=>
    cases h;have hj:=(qeh L n).1 0 (i+1) 0 x j (by omega) hp;have hc:=(qjS L n).1 0 (i+1) 0 x j (by omega) hp;have hx:=(qFY L n).1 0 (i+1) 0 x j (by omega) hp;obtain⟨r,h2,h3⟩:=qzn hE hL br (qvv x) (i:=j) hj.2;have a4:=qoX hx (by omega);have s1:Goes qvd (.h1 (j:Int) 0 0 false x.op (qg x.args) x.n x.scale x.name x.attr x.pos (rwT L) ((i+1:Nat):Int) (qu0 br) [] 0 0 (strB []) 0) r:=.of2 a4 h2 fun k b b2=>by simp only[nt,qvd,af,b,ae];exact b2
    refine⟨r,.of4 a1 a2 a3 s1 fun k b b2 b3 b4=>?_,h3⟩;simp only[orB]at b;simp only[whB]at b2;simp only[nt,qvd,b,ae,tup4,af,b2,ah,zq i (by omega),b3,R43of,altC,ql];exact b4
omit hE hL in
def brE (L:List Tok)(n:Nat):Er⊕(List (List It)×Nat)->Option (Er⊕Qu)
 |.inl e=>some (.inl e)
 |.inr (br,j)=>(qvn L n j).map (whE L br)
theorem qzm {n:Nat}:∀ (fu:Nat) (acc:List (List It)) (i:Nat) (o:Er⊕(List (List It)×Nat)) (q:Er⊕Qu),qu4 L fu acc i=some o->acc.length+fu=5->i<=Lm L->brE L n o=some q ->
  ∃ r,Goes qvd (.h0 (rwT L) (i:Int) (qu0 acc) [] 0 0 (strB []) 0) r/\R14of L q r
 |0,_,_,_,_,h,_,_,_=>by cases h
 |fu+1,acc,i,o,q,h,hf,hi,hq=>by
  unfold qu4 at h;cases ho:isW (tkA L i) orB with
  |false=>
   rw[ho]at h;cases h;simp only[brE]at hq;cases hw:qvn L n i with
   |none=>rw[hw]at hq;cases hq
   |some w=>rw[hw]at hq;cases hq;exact qDE hE hL acc hi ho hw
  |true=>
   rw[ho]at h;simp only[ah]at h;have a1:=qvt hE hL (qu0 acc) [] 0 0 (strB []) 0 orB (i:=i) hi;rw[ho]at a1;have hi1:=Zv ho;cases hb:qu6 L acc.length (i+1)with
   |none=>rw[hb]at h;cases h
   |some ob=>
    rw[hb]at h;obtain⟨r,a2,hr⟩:=qzr hE hL (qu0 acc) [] 0 0 (strB []) 0 (qwx acc) (by omega) (i:=i+1) (by omega) hb
    match ob,hb,h,hr with
    |.inl (p,er),hb,h,hr=>cases h;cases hq;obtain⟨u,rfl⟩:=hr;refine⟨.inl (p,er,rwT L,u,qu0 acc,[],0,0,strB [],0),.of2 a1 a2 fun k b b2=>?_,_,_,_,_,_,_,_,_,rfl⟩;simp only[orB]at b;simp only[nt,qvd,b,ae,tup4,ah,zq i (by omega),b2,altC,tup6]
    |.inr (l,j),hb,h,hr=>cases hr;have hj:=qvI hb;obtain⟨r,h2,h3⟩:=qzm fu (acc++[l]) j o q h (by simp;omega) hj.2 hq;refine⟨r,.of3 a1 a2 h2 fun k b b2 b3=>?_,h3⟩;simp only[orB]at b;simp only[nt,qvd,b,ae,tup4,ah,zq i (by omega),b2,altC];rw[show qu0 acc++[[.imm (qu7 l)]]=qu0 (acc++[l])by simp[qu0,qyQ]];exact b3
theorem qCp {n:Nat}{q:Er⊕Qu}(h:qvE L n=some q):∃ r,Tot (fun k=>g14b k (rwT L) 0 [] [] 0 0 (strB []) 0) r/\R14of L q r:=by
 have a1:=qwh hE hL [] [] 0 0 (strB []) 0 ptB (i:=0) (by omega);unfold qvE at h;cases h1:qu8 L ptB 0 with
 |inl er=>obtain⟨p,er⟩:=er;rw[h1]at h a1;cases h;refine⟨.inl (p,er,rwT L,((0:Nat):Int),[],[],0,0,strB [],0),Goes.of1 (step:=qvd) (s:=.e (rwT L) 0 [] [] 0 0 (strB []) 0) a1 fun k b=>?_,_,_,_,_,_,_,_,_,rfl⟩;simp only[ptB]at b;have b:g40b k (strB [80,65,84,84,69,82,78]) (rwT L) 0 [] [] 0 0 (strB []) 0=_:=b;simp only[nt,qvd,b,N41,ae,altC,tup6]
 |inr m=>
  rw[h1]at h a1;have hm:=qvk h1;simp only at h;cases hb:qu6 L 0 m with
  |none=>rw[hb]at h;cases h
  |some ob=>
   rw[hb]at h;obtain⟨r,a2,hr⟩:=qzr hE hL [] [] 0 0 (strB []) 0 (nb:=0) rfl (by omega) (i:=m) hm.2.2 hb
   match ob,hb,h,hr with
   |.inl (p,er),hb,h,hr=>cases h;obtain⟨u,rfl⟩:=hr;refine⟨.inl (p,er,rwT L,u,[],[],0,0,strB [],0),Goes.of2 (step:=qvd) (s:=.e (rwT L) 0 [] [] 0 0 (strB []) 0) a1 a2 fun k b b2=>?_,_,_,_,_,_,_,_,_,rfl⟩;simp only[ptB]at b;have b:g40b k (strB [80,65,84,84,69,82,78]) (rwT L) 0 [] [] 0 0 (strB []) 0=_:=b;simp only[nt,qvd,b,N41,ae,altC,tup4,b2,tup6]
   |.inr (l,j),hb,h,hr=>
    cases hr;have hj:=qvI hb;simp only at h;cases hs:qu4 L 4 [l] j with
    |none=>rw[hs]at h;cases h
    |some o=>
     rw[hs]at h;have hq:brE L n o=some q:=by
      match o,h with
      |.inl e,h=>exact h
      |.inr (br,j),h=>
       simp only at h;show(qvn L n j).map (whE L br)=some q;cases hw:qvn L n j with
       |none=>rw[hw]at h;cases h
       |some w=>
        rw[hw]at h
        match w,h with
        |.inl e,h=>exact h
        |.inr (wh,j),h=>exact h
     obtain⟨r,h2,h3⟩:=qzm hE hL 4 [l] j o q hs rfl hj.2 hq;refine⟨r,Goes.of3 (step:=qvd) (s:=.e (rwT L) 0 [] [] 0 0 (strB []) 0) a1 a2 h2 fun k b b2 b3=>?_,h3⟩;simp only[ptB]at b;have b:g40b k (strB [80,65,84,84,69,82,78]) (rwT L) 0 [] [] 0 0 (strB []) 0=_:=b;simp only[nt,qvd,b,N41,ae,altC,tup4,b2];exact b3
end
theorem qvu {L:List Tok}{s:By}{i:Nat}{p e:Int}(h:qu8 L s i=.inl (p,e)):e=13:=by
 unfold qu8 at h;cases hb:isW (tkA L i) s with
 |true=>rw[hb]at h;cases h
 |false=>rw[hb]at h;cases h;rfl
theorem qzz {L:List Tok}{neg:Bool}{q:Int}{i:Nat}{p e:Int}(h:qwa L neg q i=.inl (p,e)):e=13:=by
 have aux:∀ fm ty q i,qw4 L fm ty q i=.inl (p,e)->e=13:=fun fm ty q i h=>by
  unfold qw4 at h;cases hn:nmF L i with
  |inl x=>rw[hn]at h;cases h;rfl
  |inr x=>rw[hn]at h;cases h
 unfold qwa at h;cases hn:nmF L i with
 |inl x=>rw[hn]at h;cases h;rfl
 |inr x=>
  rw[hn]at h;simp only at h;cases neg with
  |true=>exact aux _ _ _ _ h
  |false=>simp only[af]at h;cases hp:isW (tkA L (i+1)) plsB<;>rw[hp]at h<;>exact aux _ _ _ _ h
def ErOk (e:Int):Prop:=e=1\/e=2\/e=13\/e=14
theorem qzy {L:List Tok}{n i:Nat}{p e:Int}(h:qv9 L n i=.inl (p,e)):ErOk e:=by
 unfold qv9 at h;cases hb:(n==8&&(isW (tkA L i) excB||(tkA L i).kind==2))with
 |true=>rw[hb]at h;cases h;exact .inr (.inl rfl)
 |false=>rw[hb]at h;simp only[af]at h;cases he:isW (tkA L i) excB<;>rw[he]at h<;>exact .inr (.inr (.inl (qzz h)))
theorem qx0 {L:List Tok}:∀ (f:Nat) (acc:List It) (i:Nat) (p e:Int),qvD L f acc i=some (.inl (p,e))->ErOk e
 |0,_,_,_,_,h=>by cases h
 |f+1,acc,i,p,e,h=>by
  unfold qvD at h;cases hi:qv9 L acc.length i with
  |inl x=>rw[hi]at h;cases h;exact qzy hi
  |inr r=>
   rw[hi]at h;simp only at h;cases hc:isW (tkA L r.2) comB with
   |true=>rw[hc]at h;exact qx0 f _ _ _ _ h
   |false=>
    rw[hc]at h;simp only[af]at h;cases hn:qu8 L (strB [41]) r.2 with
    |inl x=>rw[hn]at h;cases h;exact .inr (.inr (.inl (qvu hn)))
    |inr m=>rw[hn]at h;cases h
theorem qv7 {L:List Tok}{nb i:Nat}{p e:Int}(h:qu6 L nb i=some (.inl (p,e))):ErOk e:=by
 unfold qu6 at h;cases hb:(isW (tkA L i) seqB&&nb==4)with
 |true=>rw[hb]at h;cases h;exact .inr (.inl rfl)
 |false=>
  rw[hb]at h;simp only[af]at h;cases h1:qu8 L seqB i with
  |inl x=>rw[h1]at h;cases h;exact .inr (.inr (.inl (qvu h1)))
  |inr m=>
   rw[h1]at h;simp only at h;cases h2:qu8 L (strB [40]) m with
   |inl x=>rw[h2]at h;cases h;exact .inr (.inr (.inl (qvu h2)))
   |inr k=>rw[h2]at h;exact qx0 _ _ _ _ _ h
theorem qwL {L:List Tok}:∀ (f:Nat) (acc:List (List It)) (i:Nat) (p e:Int),qu4 L f acc i=some (.inl (p,e))->ErOk e
 |0,_,_,_,_,h=>by cases h
 |f+1,acc,i,p,e,h=>by
  unfold qu4 at h;cases ho:isW (tkA L i) orB with
  |false=>rw[ho]at h;cases h
  |true=>
   rw[ho]at h;simp only[ah]at h;cases hb:qu6 L acc.length (i+1)with
   |none=>rw[hb]at h;cases h
   |some r=>
    rw[hb]at h
    match r,hb,h with
    |.inl x,hb,h=>cases h;exact qv7 hb
    |.inr (b,k),_,h=>exact qwL f _ _ _ _ h
theorem qxc {L:List Tok}{st:Int}{i:Nat}{p e:Int}(h:tailW L st i=.inl (p,e)):ErOk e:=by
 unfold tailW at h;cases h1:qu8 L wiB i with
 |inl x=>rw[h1]at h;cases h;exact .inr (.inr (.inl (qvu h1)))
 |inr k=>
  rw[h1]at h;simp only at h;cases h2:((tkA L k).kind != 3)with
  |true=>rw[h2]at h;cases h;exact .inr (.inr (.inl rfl))
  |false=>
   rw[h2]at h;simp only[af]at h;cases h3:decide ((tkA L k).n>1152921504606846976)with
   |true=>rw[h3]at h;cases h;exact .inl rfl
   |false=>
    rw[h3]at h;simp only[af,qy3]at h;cases h4:isW (tkA L (k+1)) paB with
    |false=>rw[h4]at h;cases h
    |true=>
     rw[h4]at h;simp only[ah]at h;cases h5:qu8 L byB (k+1+1)with
     |inl x=>rw[h5]at h;cases h;exact .inr (.inr (.inl (qvu h5)))
     |inr m=>
      rw[h5]at h;simp only at h;cases h6:nmF L m with
      |inl x=>rw[h6]at h;cases h;exact .inr (.inr (.inl rfl))
      |inr a=>rw[h6]at h;cases h
theorem qyO {L:List Tok}{i:Nat}{p e:Int}(h:qwG L i=.inl (p,e)):ErOk e:=by
 unfold qwG at h;cases h1:qu8 L sgB i with
 |inl x=>rw[h1]at h;cases h;exact .inr (.inr (.inl (qvu h1)))
 |inr k=>
  rw[h1]at h;simp only at h;cases h2:isW (tkA L k) s1B with
  |true=>rw[h2]at h;exact qxc h
  |false=>
   rw[h2]at h;simp only[af]at h;cases h3:isW (tkA L k) s2B with
   |true=>rw[h3]at h;exact qxc h
   |false=>
    rw[h3]at h;simp only[af]at h;cases h4:isW (tkA L k) s3B with
    |true=>rw[h4]at h;exact qxc h
    |false=>rw[h4]at h;cases h;exact .inr (.inr (.inl rfl))
theorem qzL {L:List Tok}{n:Nat}{p e:Int}(h:qvE L n=some (.inl (p,e))):ErOk e:=by
 unfold qvE at h;cases h1:qu8 L ptB 0 with
 |inl x=>rw[h1]at h;cases h;exact .inr (.inr (.inl (qvu h1)))
 |inr m=>
  rw[h1]at h;simp only at h;cases hb:qu6 L 0 m with
  |none=>rw[hb]at h;cases h
  |some ob=>
   rw[hb]at h
   match ob,hb,h with
   |.inl x,hb,h=>cases h;exact qv7 hb
   |.inr (b,j),_,h=>
    simp only at h;cases hs:qu4 L 4 [b] j with
    |none=>rw[hs]at h;cases h
    |some o=>
     rw[hs]at h
     match o,hs,h with
     |.inl x,hs,h=>cases h;exact qwL _ _ _ _ _ hs
     |.inr (br,k),_,h=>
      simp only at h;cases hw:qvn L n k with
      |none=>rw[hw]at h;cases h
      |some w=>
       rw[hw]at h
       match w,hw,h with
       |.inl x,hw,h=>
        cases h;unfold qvn at hw;cases h2:isW (tkA L k) whB with
        |false=>rw[h2]at hw;cases hw
        |true=>
         rw[h2]at hw;simp only[ah]at hw;cases hp:pp L n (.p 0 (k+1) 0)with
         |none=>rw[hp]at hw;cases hw
         |some out=>
          rw[hp]at hw
          match out,hp,hw with
          |.err p e,hp,hw=>
           cases hw;rcases qix _ _ _ _ _ hp with h|h
           . exact .inr (.inr (.inl h))
           . exact .inr (.inr (.inr h))
          |.ok x j,_,hw=>cases hw
       |.inr (wh,j),_,h=>
        simp only[qw6,aa]at h;cases ht:qwG L j with
        |inl x=>rw[ht]at h;cases h;exact qyO ht
        |inr t=>
         rw[ht]at h;simp only at h;cases h3:((tkA L t.2).kind != 0)with
         |true=>rw[h3]at h;cases h;exact .inr (.inr (.inl rfl))
         |false=>rw[h3]at h;cases h
end
section
theorem qyp:∀ (l m:List Ex),cnts (l++m)=cnts l+cnts m
 |[],m=>by simp[cnts]
 |x::l,m=>by rw[List.cons_append,cnts,cnts,qyp l m];omega
theorem qzi {x:Ex}(h:Bn x):cnts (qvv x)<=cnt x:=by
 induction h with
 |one h=>rw[qvM h];simp[cnts]
 |two hx hy ihx ihy=>rw[qwl,qyp,qiA];omega
theorem qyB {L:List Tok}:∀ (f:Nat) (acc:List It) (i:Nat) (l:List It) (j:Nat),qvD L f acc i=some (.inr (l,j))->l.length<=acc.length+f
 |0,_,_,_,_,h=>by cases h
 |f+1,acc,i,l,j,h=>by
  unfold qvD at h;cases hi:qv9 L acc.length i with
  |inl e=>rw[hi]at h;cases h
  |inr r=>
   obtain⟨x,k⟩:=r;rw[hi]at h;simp only at h;cases hc:isW (tkA L k) comB with
   |true=>rw[hc]at h;have:=qyB f _ _ _ _ h;simp at this;omega
   |false=>
    rw[hc]at h;simp only[af]at h;cases hn:qu8 L (strB [41]) k with
    |inl e=>rw[hn]at h;cases h
    |inr m=>rw[hn]at h;cases h;simp
theorem qxP {L:List Tok}{nb i j:Nat}{l:List It}(h:qu6 L nb i=some (.inr (l,j))):l.length<=9:=by
 unfold qu6 at h;cases hb:(isW (tkA L i) seqB&&nb==4)with
 |true=>rw[hb]at h;cases h
 |false=>
  rw[hb]at h;simp only[af]at h;cases h1:qu8 L seqB i with
  |inl e=>rw[h1]at h;cases h
  |inr m=>
   rw[h1]at h;simp only at h;cases h2:qu8 L (strB [40]) m with
   |inl e=>rw[h2]at h;cases h
   |inr k=>rw[h2]at h;have:=qyB _ _ _ _ _ h;simpa using this
theorem qw0 {L:List Tok}:∀ (f:Nat) (acc:List (List It)) (i:Nat) (l:List (List It)) (j:Nat),(∀ b∈acc,b.length<=9)->qu4 L f acc i=some (.inr (l,j))->∀ b∈l,b.length<=9
 |0,_,_,_,_,_,h=>by cases h
 |f+1,acc,i,l,j,ha,h=>by
  unfold qu4 at h;cases ho:isW (tkA L i) orB with
  |false=>rw[ho]at h;cases h;exact ha
  |true=>
   rw[ho]at h;simp only[ah]at h;cases hb:qu6 L acc.length (i+1)with
   |none=>rw[hb]at h;cases h
   |some r=>
    rw[hb]at h
    match r,hb,h with
    |.inr (b,k),hb,h=>
     refine qw0 f _ _ _ _ (fun c hc=>?_) h;rcases List.mem_append.1 hc with hc|hc
     . exact ha c hc
     . rw[aV]at hc;subst hc;exact qxP hb
theorem qw7 [vo]{L:List Tok}(hL:L.length<5000){n:Nat}{q:Qu}(h:qvE L n=some (.inr q)):Few q:=by
 unfold qvE at h;cases h1:qu8 L ptB 0 with
 |inl x=>rw[h1]at h;cases h
 |inr m=>
  rw[h1]at h;simp only at h;cases hb:qu6 L 0 m with
  |none=>rw[hb]at h;cases h
  |some ob=>
   rw[hb]at h
   match ob,hb,h with
   |.inr (b,j),hb,h=>
    simp only at h;cases hs:qu4 L 4 [b] j with
    |none=>rw[hs]at h;cases h
    |some o=>
     rw[hs]at h
     match o,hs,h with
     |.inr (br,k),hs,h=>
      simp only at h;cases hw:qvn L n k with
      |none=>rw[hw]at h;cases h
      |some w=>
       rw[hw]at h
       match w,hw,h with
       |.inr (wh,j),hw,h=>
        simp only[qw6,aa]at h;cases ht:qwG L j with
        |inl x=>rw[ht]at h;cases h
        |inr t=>
         rw[ht]at h;simp only at h;cases h3:((tkA L t.2).kind != 0)with
         |true=>rw[h3]at h;cases h
         |false=>
          rw[h3]at h;cases h;have r1:=qw0 4 [b] _ _ _ (fun c hc=>by rw[aV]at hc;subst hc;exact qxP hb) hs;refine⟨by have:=qwM _ _ _ _ _ rfl hs;show br.length<_;omega,fun l hl=>by have:=r1 l hl;omega,?_⟩;show cnts wh<_;unfold qvn at hw;cases ho:isW (tkA L k) whB with
          |false=>rw[ho]at hw;cases hw;simp[cnts]
          |true=>
           rw[ho]at hw;simp only[ah]at hw;cases hp:pp L n (.p 0 (k+1) 0)with
           |none=>rw[hp]at hw;cases hw
           |some r=>
            rw[hp]at hw
            match r,hp,hw with
            |.ok y k',hp,hw=>cases hw;have ne:=(qFY L n).1 0 (k+1) 0 y j (by omega) hp;have hc:=(qjS L n).1 0 (k+1) 0 y j (by omega) hp;have hj:=(qeh L n).1 0 (k+1) 0 y j (by omega) hp;have hLm:=qnp L;have:=qzi ne;omega
theorem qv8 (l:List (List It)):qG (qu0 l)=qu0 l:=by rw[Yr];simp only[qu0,List.map_map];refine List.map_congr_left fun b _=>?_;show [immC (.imm (qu7 b))]=_;simp[immC,qyQ]
section
variable [vo]
def R5of (t:Qu×Int×Int)(r:R5):Prop:=r=.inl (qu0 t.1.br,qg t.1.wh,t.1.st,t.1.wd,t.1.key,t.1.ka,t.2.1,t.2.2)\/t.1=q0/\r=.inr (0,0,strB [],0,t.2.1,t.2.2)
theorem qE4 {s:By}{n:Nat}{t:Qu×Int×Int}(h:parQ s n=some t):∃ r,Tot (fun k=>g5 k s) r/\R5of t r:=by
 have bad:∀ (p e:Int),e≠0->Goes Qq (.h0 [] (e != 0) e p 0 0 (strB []) 0) (.inl ([],[],0,0,strB [],0,p,e)):=fun p e he=>by
  have:(e != 0)=true:=by simpa using he
  rw[this];have s1:Goes Qq (.h1 e p [] [] 0 0 (strB []) 0) (.inl ([],[],0,0,strB [],0,p,e)):=.fin0 fun k rec=>rfl;exact .rec0 s1 fun k rec=>rfl
 unfold parQ at h;split at h
 .
  rename_i hs;have sc:=qDD hs;rw[qjQ]at sc;cases hT:yn s (s.size+1) 0 with
  |inr z=>rw[hT]at h sc;cases h;exact⟨_,Goes.of2 (step:=Qq) (s:=.e s) sc (bad z 12 (by omega)) fun k b b2=>by simp only[nt,Qq,b,qvW,ae,altC,tup2];exact b2,.inl rfl⟩
  |inl L=>
   rw[hT]at h sc;simp only at h;obtain⟨T,rfl,hk,hl⟩:=vE s _ _ _ (Nat.zero_le _) hT;have hE:Lm (T++[endT s])+1=(T++[endT s]).length:=by rw[qka];simp
   have hL:(T++[endT s]).length<5000:=by simp;omega
   generalize T++[endT s]=L at h sc hE hL;cases hq:qvE L n with
   |none=>rw[hq]at h;cases h
   |some out=>
    rw[hq]at h;cases h;obtain⟨r,rd,hr⟩:=qCp hE hL hq;have sc':Tot (fun k=>g12 k s) (.inl (rwT L,0,0)):=by
     have:qvW [] (.inl (rwT L))=.inl (rwT L,0,0):=by show(Sum.inl (qG ([]++rwT L),0,0):R12)=_;rw[List.nil_append,qlr]
     rw[<- this];exact sc
    have into:∀ r,Goes Qq (.h2 (rwT L) 0 [] [] 0 0 (strB []) 0 0 0 0 0 (strB []) 0) r->Tot (fun k=>g5 k s) r:=fun r h=>by have s1:Goes Qq (.h0 (rwT L) false 0 0 0 0 (strB []) 0) r:=.rec0 h fun k rec=>rfl;exact Goes.of2 (step:=Qq) (s:=.e s) sc' s1 fun k b b2=>by simp only[nt,Qq,b,ae,altC,tup3];exact b2
    cases out with
    |inl er=>obtain⟨p,e⟩:=er;obtain⟨x1,x2,x3,x4,x5,x6,x7,x8,rfl⟩:=hr;refine⟨.inr (0,0,strB [],0,p,e),into _ (.of1 rd fun k b=>?_),.inr ⟨rfl,rfl⟩⟩;simp only[nt,Qq,b,ae,altC,ql]
    |inr q=>
     obtain⟨j,rfl⟩:=hr;have nd:=qlY (qw7 hL hq);unfold outQ;simp only;by_cases hn:qvh q<=200
     . rw[aD hn];have s1:Goes Qq (.h4 0 0 (qu0 q.br) (qg q.wh) q.st q.wd q.key q.ka) (.inl (qu0 q.br,qg q.wh,q.st,q.wd,q.key,q.ka,0,0)):=.fin0 fun k rec=>rfl;refine⟨_,into _ (.of3 rd nd s1 fun k b b2 b3=>?_),.inl rfl⟩;simp only[nt,Qq,b,ae,altC,tup8,qv8,qvJ,b2,show decide (((qvh q:Nat):Int)>200)=false from aN (by omega),af];exact b3
     . rw[aF hn];have s1:Goes Qq (.h3 2 0 [] [] 0 0 (strB []) 0) (.inl ([],[],0,0,strB [],0,0,2)):=.fin0 fun k rec=>rfl;refine⟨_,into _ (.of3 rd nd s1 fun k b b2 b3=>?_),.inl rfl⟩;simp only[nt,Qq,b,ae,altC,tup8,qv8,qvJ,b2,show decide (((qvh q:Nat):Int)>200)=true from aO (by omega),ah];exact b3
 . rename_i hs;cases h;exact⟨_,Goes.of2 (step:=Qq) (s:=.e s) (qAu hs) (bad 0 2 (by omega)) fun k b b2=>by simp only[nt,Qq,b,ae,altC,tup3];exact b2,.inl rfl⟩
theorem qCu (s:By){n:Nat}(hn:90000<=n):∃ t,parQ s n=some t:=by
 unfold parQ;by_cases hs:s.size<=4000
 .
  rw[aD hs];cases hT:yn s (s.size+1) 0 with
  |inr z=>exact⟨_,rfl⟩
  |inl L=>obtain⟨T,rfl,hk,hl⟩:=vE s _ _ _ (Nat.zero_le _) hT;obtain⟨out,ho⟩:=qAH (L:=T++[endT s]) (by simp;omega) (n:=n) (by omega);simp only[ho];exact⟨_,rfl⟩
 . rw[aF hs];exact⟨_,rfl⟩
end
end
end Ab
end Go.Proofs.YtgfbbmjoflehlaaGreatDoor

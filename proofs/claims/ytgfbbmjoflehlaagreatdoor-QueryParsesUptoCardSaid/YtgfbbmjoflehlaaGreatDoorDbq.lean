import Derived.Test.YtgfbbmjoflehlaaGreatDoorDaq
import Derived.Test.YtgfbbmjoflehlaaGreatDoorZfq
import Derived.Test.YtgfbbmjoflehlaaGreatDoorQcq
set_option linter.all false
namespace Go.Proofs.YtgfbbmjoflehlaaGreatDoor
namespace Ab
section
variable [vo]
theorem qCR {a b:List Ex}(h:a.length+b.length<1000000):apOk 88 7 (qg a) (qg b)=true:=by
 have hh:(qg b).head?.all (·.length==7)=true:=by
  cases b with
  |nil=>rfl
  |cons x l=>simp[qg,qjn]
 unfold apOk lim;rw[hh,Yt,Yt];simp only[Bool.and_true,aC,aX];omega
theorem q54 {x:Ex}(h:Bn x):cnt x<100000->Goes qwN (.e x.op (qg x.args) x.n x.scale x.name x.attr x.pos) (qg (qvv x)):=by
 have one:∀ (x:Ex),x.op≠13->Goes qwN (.e x.op (qg x.args) x.n x.scale x.name x.attr x.pos) (qg (qvv x)):=fun x h13=>by
  rw[qvM h13];have:(x.op != 13)=true:=by simpa using h13
  refine .fin0 fun k rec=>?_;simp only[nt,qwN,this,ah];rw[qg,qjn];rfl
 induction h with
 |one h13=>exact fun _=>one _ h13
 |two hx hy ihx ihy=>rename_i x y p;intro hc;rw[qiA]at hc;have hl:=qwQ hx;have hl2:=qwQ hy;rw[qwl];refine Goes.of2 (ihx (by omega)) (ihy (by omega)) fun k h1 h2=>?_;show qwN k (itS qwN k) (.e 13 (qg [x,y]) 0 0 (strB []) (strB []) p)=_;simp only[nt,qwN,show((13:Int)!=13)=false from rfl,af,(ix_2 x y _).1,(ix_2 x y _).2,qkU,h1,h2,ae,qCR (show(qvv x).length+(qvv y).length<1000000 by omega),ZW];rw[qxf]
end
section
variable [vo] {L:List Tok} (hE:Lm L+1=L.length) (hL:L.length<5000) (c d:Rs) (st wd:Int) (key:By) (ka o:Int)
def R20of (L:List Tok)(c d:Rs)(x:Er⊕(List Ex×Nat))(r:R20):Prop:=match x with
 |.inl (p,e)=>∃ (i:Int) , r=(rwT L,i,e,p,c,d)
 |.inr (l,j)=>∃ d',r=(rwT L,(j:Int),0,0,c,d')/\(d=[]->d'=qg l)
theorem q20e {i e a:Int}(he:e≠0):Tot (fun k=>g20 k (rwT L) i o e a c d st wd key ka) (rwT L,i,e,a,c,d):=by
 have:(e != 0)=true:=by simpa using he
 have s:Goes yY (.h0 true (rwT L) i o e a c d st wd key ka) (rwT L,i,e,a,c,d):=.fin0 fun k rec=>rfl;exact Goes.rec0 (step:=yY) (s:=.e (rwT L) i o e a c d st wd key ka) s fun k rec=>by simp only[nt,yY,this,ah]
include hE hL in
theorem q20 (hS:TL L){n i:Nat}(hi:i<=Lm L){out:Er⊕(List Ex×Nat)}(h:qvn L n i=some out)(hz:∀ p e,out=.inl (p,e)->e≠0):∃ r,Tot (fun k=>g20 k (rwT L) i o 0 0 c d st wd key ka) r/\R20of L c d out r:=by
 have a1:=q19 hE hL c d st wd key ka o whB (i:=i) hi 0 0;unfold qvn at h;have into:∀ b r,isW (tkA L i) whB=b->Goes yY (.h0 (!b) (rwT L) i o 0 0 c d st wd key ka) r->Tot (fun k=>g20 k (rwT L) i o 0 0 c d st wd key ka) r:=fun b r hb hr=>by rw[hb]at a1;refine Goes.of2 (step:=yY) (s:=.e (rwT L) i o 0 0 c d st wd key ka) a1 hr fun k b b2=>?_;simp only[whB]at b;simp only[nt,yY,bne_self_eq_false,af,b,ae,tup4];exact b2
 cases hw:isW (tkA L i) whB with
 |false=>rw[hw]at h;cases h;exact⟨(rwT L,(i:Int),0,0,c,d),into false _ hw (.fin0 fun k rec=>rfl),d,rfl,fun h=>h⟩
 |true=>
  rw[hw]at h;have hi1:=Zv hw;simp only[ah]at h;cases hp:pp L n (.p 0 (i+1) 0)with
  |none=>rw[hp]at h;cases h
  |some po=>
   rw[hp]at h;have a3:=qDI hS (i:=i+1) (by omega) hp;cases po with
   |err p e=>
    cases h;have he:(e != 0)=true:=by simpa using hz p e rfl
    refine⟨(rwT L,((i+1:Nat):Int),e,p,c,d),into true _ hw (.of1 a3 fun k b=>?_),_,rfl⟩;simp only[nt,yY,aj,af,zq i (by omega),b,RD,rX,ae,ql,he,ah]
   |ok x j=>cases h;have hj:=(qeh L n).1 0 (i+1) 0 x j (by omega) hp;have hc:=(qjS L n).1 0 (i+1) 0 x j (by omega) hp;have hx:=(qFY L n).1 0 (i+1) 0 x j (by omega) hp;have a4:Tot (fun k=>g54 k x.op (qg x.args) x.n x.scale x.name x.attr x.pos) (qg (qvv x)):=q54 hx (by omega);refine⟨(rwT L,(j:Int),0,0,c,qg (qvv x)),into true _ hw (.of2 a3 a4 fun k b b2=>?_),_,rfl,fun _=>rfl⟩;simp only[nt,yY,aj,af,zq i (by omega),b,RD,rX,ae,ql,bne_self_eq_false,b2]
def R21of (L:List Tok)(c d:Rs)(x:Er⊕(Tl×Nat))(r:R21):Prop:=match x with
 |.inl (p,e)=>∃ a b c' d' s w k z,r=(a,b,e,p,c',d',s,w,k,z)
 |.inr (t,j)=>r=(rwT L,(j:Int),0,0,c,d,t.st,t.wd,t.key,t.ka)
abbrev SR:Rs:=[[sc (strB [83,84,82,73,67,84])],[sc (strB [78,69,88,84])],[sc (strB [65,78,89])]]
section
variable {i e a:Int} (he:e≠0)
include he
theorem qzH:Goes qq0 (.h7 (rwT L) i o e a c d st wd key ka) (rwT L,i,e,a,c,d,st,wd,key,ka):=.fin0 fun k rec=>by
 have:(e != 0)=true:=by simpa using he
 simp only[nt,qq0,this,ah]
theorem qym:Goes qq0 (.h5 (rwT L) i o e a c d st wd key ka) (rwT L,i,e,a,c,d,st,wd,key,ka):=by
 have:(e==0)=false:=by simpa using he
 have s:Goes qq0 (.h6 false (rwT L) i o e a c d st wd key ka) (rwT L,i,e,a,c,d,st,wd,key,ka):=.rec0 (qzH c d st wd key ka o he) fun k rec=>rfl;exact .rec0 s fun k rec=>by simp only[nt,qq0,this,af]
theorem qyl:Goes qq0 (.h2 (rwT L) i o e a c d st wd key ka) (rwT L,i,e,a,c,d,st,wd,key,ka):=by
 have:(e==0)=false:=by simpa using he
 have s:Goes qq0 (.h4 false (rwT L) i o e a c d st wd key ka) (rwT L,i,e,a,c,d,st,wd,key,ka):=.rec0 (qym c d st wd key ka o he) fun k rec=>rfl;exact .of2 (q17e c d st wd key ka o (rwT L) i a he (strB [87,73,84,72,73,78])) s fun k b b2=>by simp only[nt,qq0,b,ae,tup6,this,af];exact b2
end
theorem qCP {q:Nat}(hq:q<3){α:Type}(f:By->Option α):(ixR SR (q:Int) fun t=>un_s t f)=f ([strB [83,84,82,73,67,84],strB [78,69,88,84],strB [65,78,89]][q]?.getD (strB [])):=by
 match q,hq with
 |0,_=>rfl
 |1,_=>rfl
 |2,_=>rfl
theorem qwR {i e a:Int}(h:e≠0\/st≠0){r:R21}(hr:Goes qq0 (.h2 (rwT L) i o e a c d st wd key ka) r):∀ (m q:Nat),3-q=m->q<=3->Goes qq0 (.h0 SR 3 (q:Int) (rwT L) i o e a c d st wd key ka) r
 |0,q,hm,hq=>by
  obtain rfl:q=3:=by omega
  have dl:decide (((3:Nat):Int)<3)=false:=rfl;by_cases hs:st=0
  . have he:e≠0:=by rcases h with h|h;exact h;exact(h hs).elim
    have hb:(st==0)=true:=by simpa using hs
    refine .of2 (q55e c d st wd key ka o (rwT L) i a he 13) hr fun k b b2=>?_;simp only[nt,qq0,dl,af,hb,ah,b,ae,tup5];exact b2
  . have hb:(st==0)=false:=by simpa using hs
    exact .rec0 hr fun k rec=>by simp only[nt,qq0,dl,af,hb]
 |m+1,q,hm,hq=>by
  have ih:=qwR h hr m (q+1) (by omega) (by omega);have dl:decide ((q:Int)<3)=true:=aO (by omega);have s3:Goes qq0 (.h3 SR 3 (q:Int) (rwT L) i o e a c d st wd key ka) r:=.rec0 ih fun k rec=>by simp only[nt,qq0,zq q (by omega)]
  have s1:Goes qq0 (.h1 (q:Int) SR 3 (q:Int) false (rwT L) i o e a c d st wd key ka) r:=.rec0 s3 fun k rec=>rfl;refine .rec0 s1 fun k rec=>?_;simp only[nt,qq0,dl,ah,qCP (show q<3 by omega)];by_cases he:e=0
  . have hs:(st==0)=false:=by rcases h with h|h;exact(h he).elim;simpa using h
    rw[show(e==0)=true by simpa using he,hs];rfl
  . rw[show(e==0)=false by simpa using he];rfl
include hE hL
theorem qDY (s:Int){i:Nat}(hi:i<=Lm L):∃ r,Goes qq0 (.h2 (rwT L) i o 0 0 c d s 0 (strB []) 0) r/\R21of L c d (tailW L s i) r:=by
 have a1:=q17 hE hL c d s 0 (strB []) 0 o wiB (i:=i) hi;unfold tailW;cases h1:qu8 L wiB i with
 |inl er=>
  obtain⟨p,er⟩:=er;rw[h1]at a1;have he:er≠0:=by rw[qvu h1];omega
  have hb:(er==0)=false:=by simpa using he
  have s4:Goes qq0 (.h4 false (rwT L) i o er p c d s 0 (strB []) 0) (rwT L,(i:Int),er,p,c,d,s,0,strB [],0):=.rec0 (qym c d s 0 (strB []) 0 o he) fun k rec=>rfl;refine⟨_,.go1 a1 s4 fun k b b2=>?_,_,_,_,_,_,_,_,_,rfl⟩;simp only[wiB]at b;simp only[nt,qq0,b,ae,tup6,hb,af];exact b2
 |inr j=>
  rw[h1]at a1;have hj:=qvk h1;have x1:=qfK (show j<L.length by omega);have into:∀ b r,((tkA L j).kind != 3)=b->Goes qq0 (.h4 b (rwT L) j o 0 0 c d s 0 (strB []) 0) r->Goes qq0 (.h2 (rwT L) i o 0 0 c d s 0 (strB []) 0) r:=fun b r hb hr=>by refine .of2 a1 hr fun k b b2=>?_;simp only[wiB]at b;simp only[nt,qq0,b,ae,tup6,show((0:Int)==0)=true from rfl,ah,Yi x1,qjp,hb];exact b2
  simp only;cases h3:((tkA L j).kind != 3)with
  |true=>have a3:=q55 hE hL c d s 0 (strB []) 0 o 13 (i:=j) hj.2.2;refine⟨_,into true _ h3 (.go1 a3 (qym (L:=L) (i:=(j:Int)) (a:=(tkA L j).pos) c d s 0 (strB []) 0 o (e:=13) (by omega)) fun k b b2=>?_),_,_,_,_,_,_,_,_,rfl⟩;simp only[nt,qq0,ah,b,ae,tup5];exact b2
  |false=>
   have hk:(tkA L j).kind=3:=by simpa using h3
   have hjl:=ZU (L:=L) (i:=j) (by rw[hk];decide);have into2:∀ b r,decide ((tkA L j).n>1152921504606846976)=b->Goes qq0 (.h6 b (rwT L) j o 0 0 c d s 0 (strB []) 0) r->Goes qq0 (.h2 (rwT L) i o 0 0 c d s 0 (strB []) 0) r:=fun b r hb hr=>by
    have s5:Goes qq0 (.h5 (rwT L) j o 0 0 c d s 0 (strB []) 0) r:=.rec0 hr fun k rec=>by simp only[nt,qq0,show((0:Int)==0)=true from rfl,ah,Yi x1,qjp,hb]
    exact into false _ h3 (.rec0 s5 fun k rec=>rfl)
   simp only[af];cases hw:decide ((tkA L j).n>1152921504606846976)with
   |true=>have a3:=q55 hE hL c d s 0 (strB []) 0 o 1 (i:=j) hj.2.2;refine⟨_,into2 true _ hw (.go1 a3 (qzH (L:=L) (i:=(j:Int)) (a:=(tkA L j).pos) c d s 0 (strB []) 0 o (e:=1) (by omega)) fun k b b2=>?_),_,_,_,_,_,_,_,_,rfl⟩;simp only[nt,qq0,ah,b,ae,tup5];exact b2
   |false=>
    simp only[af];have a3:=q19 hE hL c d s (tkA L j).n (strB []) 0 o paB (i:=j+1) (by omega) 0 0;have into3:∀ r,Goes qq0 (.h7 (rwT L) j o 0 0 c d s 0 (strB []) 0) r->Goes qq0 (.h2 (rwT L) i o 0 0 c d s 0 (strB []) 0) r:=fun r hr=>into2 false _ hw (.rec0 hr fun k rec=>rfl);unfold qy3;cases hp:isW (tkA L (j+1)) paB with
    |false=>rw[hp]at a3;refine⟨(rwT L,((j+1:Nat):Int),0,0,c,d,s,(tkA L j).n,strB [],0),into3 _ (.of1 a3 fun k b=>?_),rfl⟩;simp only[paB]at b;simp only[nt,qq0,bne_self_eq_false,af,Yi x1,qjp,zq j (by omega),b,ae,tup4]
    |true=>
     rw[hp]at a3;have hpl:=Zv hp;have a4:=q17 hE hL c d s (tkA L j).n (strB []) 0 o byB (i:=j+2) (by omega);simp only[ah];cases h4:qu8 L byB (j+1+1)with
     |inl er=>
      obtain⟨p,er⟩:=er;rw[show j+1+1=j+2 from rfl]at h4;rw[h4]at a4;have he:er≠0:=by rw[qvu h4];omega
      have x2:=qfK (show j+2<L.length by omega);refine⟨(rwT L,((j+2:Nat):Int),er,p,c,d,s,(tkA L j).n,strB [],(tkA L (j+2)).pos),into3 _ (.of3 a3 a4 (q56e c d s (tkA L j).n (strB []) (tkA L (j+2)).pos o (rwT L) ((j+2:Nat):Int) p he) fun k b b2 b3=>?_),_,_,_,_,_,_,_,_,rfl⟩;simp only[paB]at b;simp only[byB]at b2;simp only[nt,qq0,bne_self_eq_false,af,Yi x1,qjp,zq j (by omega),b,ae,tup4,ah,zq (j+1) (by omega),b2,tup6,Yi x2,b3,tup7]
     |inr m=>
      rw[show j+1+1=j+2 from rfl]at h4;rw[h4]at a4;have hm:=qvk h4;have x2:=qfK (show m<L.length by omega);have a5:=q56 hE hL c d s (tkA L j).n (strB []) (tkA L m).pos o (i:=m) hm.2.2;simp only;cases h5:nmF L m with
      |inl p=>rw[h5]at a5;refine⟨(rwT L,(m:Int),13,p,c,d,s,(tkA L j).n,strB [],(tkA L m).pos),into3 _ (.of3 a3 a4 a5 fun k b b2 b3=>?_),_,_,_,_,_,_,_,_,rfl⟩;simp only[paB]at b;simp only[byB]at b2;simp only[nt,qq0,bne_self_eq_false,af,Yi x1,qjp,zq j (by omega),b,ae,tup4,ah,zq (j+1) (by omega),b2,tup6,Yi x2,b3,tup7]
      |inr a=>rw[h5]at a5;refine⟨(rwT L,((m+1:Nat):Int),0,0,c,d,s,(tkA L j).n,a,(tkA L m).pos),into3 _ (.of3 a3 a4 a5 fun k b b2 b3=>?_),rfl⟩;simp only[paB]at b;simp only[byB]at b2;simp only[nt,qq0,bne_self_eq_false,af,Yi x1,qjp,zq j (by omega),b,ae,tup4,ah,zq (j+1) (by omega),b2,tup6,Yi x2,b3,tup7]
theorem q21 {i:Nat}(hi:i<=Lm L):∃ r,Tot (fun k=>g21 k (rwT L) i o 0 0 c d 0 0 (strB []) 0) r/\R21of L c d (qwG L i) r:=by
 have a1:=q17 hE hL c d 0 0 (strB []) 0 o sgB (i:=i) hi;unfold qwG;cases h1:qu8 L sgB i with
 |inl er=>
  obtain⟨p,er⟩:=er;rw[h1]at a1;have he:er≠0:=by rw[qvu h1];omega
  have s:=qwR c d 0 0 (strB []) 0 o (.inl he) (qyl (L:=L) (i:=i) (a:=p) c d 0 0 (strB []) 0 o he) 3 0 rfl (by omega);refine⟨_,Goes.go1 (step:=qq0) (s:=.e (rwT L) i o 0 0 c d 0 0 (strB []) 0) a1 s fun k b b2=>?_,_,_,_,_,_,_,_,_,rfl⟩;simp only[sgB]at b;simp only[nt,qq0,b,ae,tup6];exact b2
 |inr j=>
  rw[h1]at a1;have hj:=qvk h1;have into:∀ r,Goes qq0 (.h0 SR 3 0 (rwT L) j o 0 0 c d 0 0 (strB []) 0) r->Tot (fun k=>g21 k (rwT L) i o 0 0 c d 0 0 (strB []) 0) r:=fun r hr=>by refine Goes.of2 (step:=qq0) (s:=.e (rwT L) i o 0 0 c d 0 0 (strB []) 0) a1 hr fun k b b2=>?_;simp only[sgB]at b;simp only[nt,qq0,b,ae,tup6];exact b2
  /- one strategy's word -/
  have one:∀ (q:Nat) (hq:q<3) b r,isW (tkA L j) ([strB [83,84,82,73,67,84],strB [78,69,88,84],strB [65,78,89]][q]?.getD (strB []))=b ->
    Goes qq0 (.h1 (q:Int) SR 3 (q:Int) b (rwT L) j o 0 0 c d 0 0 (strB []) 0) r->Goes qq0 (.h0 SR 3 (q:Int) (rwT L) j o 0 0 c d 0 0 (strB []) 0) r:=fun q hq b r hb hr=>by
   have a2:=q19 hE hL c d 0 0 (strB []) 0 o ([strB [83,84,82,73,67,84],strB [78,69,88,84],strB [65,78,89]][q]?.getD (strB [])) (i:=j) hj.2.2 0 0;have dl:decide ((q:Int)<3)=true:=aO (by omega);rw[hb]at a2;refine .of2 a2 hr fun k b b2=>?_;simp only[nt,qq0,dl,ah,qCP hq,show((0:Int)==0)=true from rfl,b,ae,tup4];exact b2
  have yes:∀ (q:Nat) (hq:q<3),isW (tkA L j) ([strB [83,84,82,73,67,84],strB [78,69,88,84],strB [65,78,89]][q]?.getD (strB []))=true ->
    ∃ r,Goes qq0 (.h0 SR 3 (q:Int) (rwT L) j o 0 0 c d 0 0 (strB []) 0) r/\R21of L c d (tailW L ((q+1:Nat):Int) (j+1)) r:=fun q hq hb=>by
   have hi1:=Zv hb;obtain⟨r,h2,h3⟩:=qDY hE hL c d o ((q+1:Nat):Int) (i:=j+1) (by omega);have s:=qwR c d ((q+1:Nat):Int) 0 (strB []) 0 o (.inr (by omega)) h2 (3-(q+1)) (q+1) rfl (by omega);have s3:Goes qq0 (.h3 SR 3 (q:Int) (rwT L) ((j+1:Nat):Int) o 0 0 c d ((q+1:Nat):Int) 0 (strB []) 0) r:=.rec0 s fun k rec=>by simp only[nt,qq0,zq q (by omega)]
   exact⟨r,one q hq true r hb (.rec0 s3 fun k rec=>by simp only[nt,qq0,ah,zq j (by omega),zq q (by omega)]),h3⟩
  have no:∀ (q:Nat) (hq:q<3) r,isW (tkA L j) ([strB [83,84,82,73,67,84],strB [78,69,88,84],strB [65,78,89]][q]?.getD (strB []))=false ->
    Goes qq0 (.h0 SR 3 ((q+1:Nat):Int) (rwT L) j o 0 0 c d 0 0 (strB []) 0) r->Goes qq0 (.h0 SR 3 (q:Int) (rwT L) j o 0 0 c d 0 0 (strB []) 0) r:=fun q hq r hb hr=>by
   have s3:Goes qq0 (.h3 SR 3 (q:Int) (rwT L) j o 0 0 c d 0 0 (strB []) 0) r:=.rec0 hr fun k rec=>by simp only[nt,qq0,zq q (by omega)]
   exact one q hq false r hb (.rec0 s3 fun k rec=>rfl)
  simp only;cases w1:isW (tkA L j) s1B with
  |true=>obtain⟨r,h2,h3⟩:=yes 0 (by omega) w1;exact⟨r,into r h2,h3⟩
  |false=>
   have n1:=fun r=>no 0 (by omega) r w1;simp only[af];cases w2:isW (tkA L j) s2B with
   |true=>obtain⟨r,h2,h3⟩:=yes 1 (by omega) w2;exact⟨r,into r (n1 r h2),h3⟩
   |false=>
    have n2:=fun r=>no 1 (by omega) r w2;simp only[af];cases w3:isW (tkA L j) s3B with
    |true=>obtain⟨r,h2,h3⟩:=yes 2 (by omega) w3;exact⟨r,into r (n1 r (n2 r h2)),h3⟩
    |false=>
     have n3:=fun r=>no 2 (by omega) r w3;have a5:=q55 hE hL c d 0 0 (strB []) 0 o 13 (i:=j) hj.2.2;have s:Goes qq0 (.h0 SR 3 ((2+1:Nat):Int) (rwT L) j o 0 0 c d 0 0 (strB []) 0) (rwT L,(j:Int),13,(tkA L j).pos,c,d,0,0,strB [],0):=.of2 a5 (qyl (L:=L) (i:=(j:Int)) (a:=(tkA L j).pos) c d 0 0 (strB []) 0 o (e:=13) (by omega)) fun k b b2=>by have dl:decide (((2+1:Nat):Int)<3)=false:=rfl;simp only[nt,qq0,dl,af,show((0:Int)==0)=true from rfl,ah,b,ae,tup5];exact b2
     exact⟨_,into _ (n1 _ (n2 _ (n3 _ s))),_,_,_,_,_,_,_,_,rfl⟩
end
section
def dQ (t:Qu×Int×Int):Rs×Rs×Int×Int×By×Int×Int×Int:=(qu0 t.1.br,qg t.1.wh,t.1.st,t.1.wd,t.1.key,t.1.ka,t.2.1,t.2.2)
section
variable [vo] {L:List Tok} (hE:Lm L+1=L.length) (hL:L.length<5000)
section
variable {i:Nat} (hi:i<L.length)
include hi
theorem q52a (e a:Int):Tot (fun k=>g52 k (rwT L) i 0 e a 0 0 (strB []) 0) ((tkA L i).kind,(tkA L i).text,(tkA L i).n,(tkA L i).scale,(tkA L i).pos,rwT L):=Goes.fin0 (step:=qfC) (s:=.e (rwT L) i 0 e a 0 0 (strB []) 0) fun k rec=>by simp only[nt,qfC,Yi (qfK hi),qjp]
theorem q19a (s:By):Tot (fun k=>g19 k s (rwT L) i 0 0 0 0 0 (strB []) 0) (isW (tkA L i) s,rwT L):=Goes.of1 (step:=qyM) (s:=.e s (rwT L) i 0 0 0 0 0 (strB []) 0) (q52a hi 0 0) fun k h=>by simp only[nt,qyM,h,ae,tup6,isW];cases (tkA L i).kind==1<;>cases (tkA L i).kind==6<;>rfl
theorem q22a (er:Int):Tot (fun k=>g22 k er (rwT L) i 0 0 0 0 0 (strB []) 0) (rwT L,er,(tkA L i).pos):=Goes.of1 (step:=qb) (s:=.e er (rwT L) i 0 0 0 0 0 (strB []) 0) (q52a hi 0 0) fun k h=>by simp only[nt,qb,h,ae,tup6];rfl
theorem q17a (hi2:i<100000)(s:By):Tot (fun k=>g17 k s (rwT L) i 0 0 0 0 0 (strB []) 0) (match qu8 L s i with|.inl (p,e)=>(rwT L,(i:Int),e,p)|.inr j=>(rwT L,(j:Int),0,0)):=
 Goes.of2 (step:=qjR) (s:=.e s (rwT L) i 0 0 0 0 0 (strB []) 0) (q19a hi s) (q22a hi 13) fun k h h2=>by
 simp only[nt,qjR,h,h2,ae,tup2,tup3,zq i (by omega),bne_self_eq_false,af,qu8];cases isW (tkA L i) s<;>rfl
end
section
variable (c d:Rs) (st wd:Int) (key:By) (ka:Int) (i:Int) {e:Int} (a:Int) (he:e≠0)
include he
theorem qBe (R:Rs)(n1 n2:Int)(n3:By)(n4:Int):Goes qn9 (.h5 R i 0 e a c d st wd key ka n1 n2 n3 n4) (dQ (outQ (.inl (a,e)))):=by
 have:(e != 0)=true:=by simpa using he
 have s6:Goes qn9 (.h6 a e [] [] 0 0 (strB []) 0) (dQ (outQ (.inl (a,e)))):=.fin0 fun k rec=>rfl;exact .rec0 s6 fun k rec=>by simp only[nt,qn9,this,ah]
theorem qzK (R:Rs)(n1 n2:Int)(n3:By)(n4:Int):Goes qn9 (.h4 false R i 0 e a c d st wd key ka n1 n2 n3 n4) (dQ (outQ (.inl (a,e)))):=.rec0 (qBe c d st wd key ka i a he R n1 n2 n3 n4) fun k rec=>rfl
theorem q21e:Tot (fun k=>g21 k (rwT L) i 0 e a c d 0 0 (strB []) 0) (rwT L,i,e,a,c,d,0,0,strB [],0):=by have s:=qwR c d 0 0 (strB []) 0 0 (.inl he) (qyl (L:=L) (i:=i) (a:=a) c d 0 0 (strB []) 0 0 he) 3 0 rfl (by omega);exact Goes.of2 (step:=qq0) (s:=.e (rwT L) i 0 e a c d 0 0 (strB []) 0) (q17e c d 0 0 (strB []) 0 0 (rwT L) i a he (strB [83,84,82,65,84,69,71,89])) s fun k b b2=>by simp only[nt,qq0,b,ae,tup6];exact b2
theorem qD1 (n1 n2:Int)(n3:By)(n4:Int):Goes qn9 (.h3 false (rwT L) i 0 e a c d 0 0 (strB []) 0 n1 n2 n3 n4) (dQ (outQ (.inl (a,e)))):=by
 have:(e==0)=false:=by simpa using he
 exact .of3 (q20e (L:=L) (i:=i) (a:=a) c d 0 0 (strB []) 0 0 he) (q21e (L:=L) c d i a he) (qzK c d 0 0 (strB []) 0 i a he (rwT L) n1 n2 n3 n4) fun k b b2 b3=>by simp only[nt,qn9,af,b,b2,ae,tup6,ql,this];exact b3
theorem qzJ (n1 n2:Int)(n3:By)(n4:Int):Goes qn9 (.h2 (rwT L) i 0 e a c d 0 0 (strB []) 0 n1 n2 n3 n4) (dQ (outQ (.inl (a,e)))):=by
 have:(e==0)=false:=by simpa using he
 exact .rec0 (qD1 (L:=L) c d i a he n1 n2 n3 n4) fun k rec=>by simp only[nt,qn9,this,af]
end
include hE hL
theorem qFN (hS:TL L)(br:List (List It)){n i:Nat}(hi:i<=Lm L){w:Er⊕(List Ex×Nat)}(h:qvn L n i=some w)(hz:∀ p e,w=.inl (p,e)->e≠0)(hf:∀ q,whE L br w=.inr q->Few q):
  Goes qn9 (.h3 false (rwT L) i 0 0 0 (qu0 br) [] 0 0 (strB []) 0 0 0 (strB []) 0) (dQ (outQ (whE L br w))):=by
 obtain⟨r,a1,hr⟩:=q20 hE hL (qu0 br) [] 0 0 (strB []) 0 0 hS hi h hz
 match w,h,hz,hf,hr with
 |.inl (p,e),h,hz,_,⟨u,hr⟩=>
  subst hr;have he:=hz p e rfl;have hb:(e==0)=false:=by simpa using he
  exact .of3 a1 (q21e (L:=L) (qu0 br) [] u p he) (qzK (qu0 br) [] 0 0 (strB []) 0 u p he (rwT L) 0 0 (strB []) 0) fun k b b2 b3=>by simp only[nt,qn9,af,b,b2,ae,tup6,ql,hb];exact b3
 |.inr (wh,j),h,_,hf,⟨d',hr,hd⟩=>
  subst hr;obtain rfl:=hd rfl;have hj:=qAR hi h;obtain⟨r,a2,hr⟩:=q21 hE hL (qu0 br) (qg wh) 0 (i:=j) hj.2;unfold whE qw6 at hf |-;simp only at hf |-;cases ht:qwG L j with
  |inl er=>
   obtain⟨p,e⟩:=er;rw[ht]at hr;obtain⟨x1,x2,x3,x4,x5,x6,x7,x8,rfl⟩:=hr;have he:e≠0:=by rcases qyO ht with h|h|h|h<;>omega
   have hb:(e==0)=false:=by simpa using he
   exact .of3 a1 a2 (qzK x3 x4 x5 x6 x7 x8 x2 p he x1 0 0 (strB []) 0) fun k b b2 b3=>by simp only[nt,qn9,af,b,b2,ae,tup6,ql,hb];exact b3
  |inr tj=>
   obtain⟨t,m⟩:=tj;rw[ht]at hr hf;cases hr;have hm:=qAg ht;have x1:=qfK (show m<L.length by omega);simp only at hf |-;have into:∀ b r,((tkA L m).kind != 0)=b->Goes qn9 (.h4 b (rwT L) m 0 0 0 (qu0 br) (qg wh) t.st t.wd t.key t.ka 0 0 (strB []) 0) r ->
     Goes qn9 (.h3 false (rwT L) i 0 0 0 (qu0 br) [] 0 0 (strB []) 0 0 0 (strB []) 0) r:=fun b r hb h4=>.of3 a1 a2 h4 fun k b1 b2 b3=>by
    simp only[nt,qn9,af,b1,b2,ae,tup6,ql,show((0:Int)==0)=true from rfl,ah,Yi x1,qjp,hb];exact b3
   cases hk:((tkA L m).kind != 0)with
   |true=>exact into true _ hk (.of2 (q22 hE hL (qu0 br) (qg wh) t.st t.wd t.key t.ka 0 13 (i:=m) hm) (qBe (e:=13) (qu0 br) (qg wh) t.st t.wd t.key t.ka (m:Int) (tkA L m).pos (by omega) (rwT L) 0 0 (strB []) 0) fun k b b2=>by simp only[nt,qn9,ah,b,ae,tup5];exact b2)
   |false=>
    rw[hk]at hf;simp only[af]at hf |-;have nd:=qDF (hf _ rfl);have in5:∀ r,Goes qn9 (.h5 (rwT L) m 0 0 0 (qu0 br) (qg wh) t.st t.wd t.key t.ka 0 0 (strB []) 0) r->Goes qn9 (.h3 false (rwT L) i 0 0 0 (qu0 br) [] 0 0 (strB []) 0 0 0 (strB []) 0) r:=fun r h5=>into false _ hk (.rec0 h5 fun k rec=>rfl);generalize hq:(⟨br,wh,t.st,t.wd,t.key,t.ka⟩:Qu)=q at nd |-;subst hq;unfold outQ;simp only at nd |-;by_cases hn:qvh ⟨br,wh,t.st,t.wd,t.key,t.ka⟩<=200
    . rw[aD hn];have s8:Goes qn9 (.h8 0 0 (qu0 br) (qg wh) t.st t.wd t.key t.ka) (dQ (⟨br,wh,t.st,t.wd,t.key,t.ka⟩,0,0)):=.fin0 fun k rec=>rfl;exact in5 _ (.of2 nd s8 fun k b b2=>by simp only[nt,qn9,bne_self_eq_false,af,qv8,qvJ,b,ae,show decide (((qvh ⟨br,wh,t.st,t.wd,t.key,t.ka⟩:Nat):Int)>200)=false from aN (by omega)];exact b2)
    . rw[aF hn];have s7:Goes qn9 (.h7 0 2 [] [] 0 0 (strB []) 0) (dQ (q0,0,2)):=.fin0 fun k rec=>rfl;exact in5 _ (.of2 nd s7 fun k b b2=>by simp only[nt,qn9,bne_self_eq_false,af,qv8,qvJ,b,ae,show decide (((qvh ⟨br,wh,t.st,t.wd,t.key,t.ka⟩:Nat):Int)>200)=true from aO (by omega),ah];exact b2)
theorem qD0 (hS:TL L){n:Nat}{q:Er⊕Qu}(hf:∀ x,q=.inr x->Few x)(hz:∀ p e,q=.inl (p,e)->e≠0):∀ (fu:Nat) (acc:List (List It)) (i:Nat) (o:Er⊕(List (List It)×Nat)),qu4 L fu acc i=some o->acc.length+fu=5->i<=Lm L->brE L n o=some q ->
  Goes qn9 (.h2 (rwT L) i 0 0 0 (qu0 acc) [] 0 0 (strB []) 0 0 0 (strB []) 0) (dQ (outQ q))
 |0,_,_,_,h,_,_,_=>by cases h
 |fu+1,acc,i,o,h,hl,hi,hq=>by
  have a1:=q19 hE hL (qu0 acc) [] 0 0 (strB []) 0 0 orB (i:=i) hi 0 0;have into:∀ b r,isW (tkA L i) orB=b->Goes qn9 (.h3 b (rwT L) i 0 0 0 (qu0 acc) [] 0 0 (strB []) 0 0 0 (strB []) 0) r->Goes qn9 (.h2 (rwT L) i 0 0 0 (qu0 acc) [] 0 0 (strB []) 0 0 0 (strB []) 0) r:=fun b r hb h3=>by rw[hb]at a1;exact .of2 a1 h3 fun k b b2=>by simp only[orB]at b;simp only[nt,qn9,show((0:Int)==0)=true from rfl,ah,b,ae,tup4];exact b2
  unfold qu4 at h;cases ho:isW (tkA L i) orB with
  |false=>
   rw[ho]at h;cases h;simp only[brE]at hq;cases hw:qvn L n i with
   |none=>rw[hw]at hq;cases hq
   |some w=>rw[hw]at hq;cases hq;refine into false _ ho (qFN hE hL hS acc hi hw (fun p e h=>?_) hf);subst h;exact hz p e rfl
  |true=>
   rw[ho]at h;simp only[ah]at h;have hi1:=Zv ho;cases hb:qu6 L acc.length (i+1)with
   |none=>rw[hb]at h;cases h
   |some ob=>
    rw[hb]at h;obtain⟨r,a2,hr⟩:=q18 hE hL (qu0 acc) [] 0 0 (strB []) 0 0 (qwx acc) (by omega) (i:=i+1) (by omega) hb (fun p e hx=>by subst hx;rcases qv7 hb with h|h|h|h<;>omega)
    match ob,hb,h,hr with
    |.inl (p,er),hb,h,hr=>cases h;cases hq;obtain⟨u,l,rfl⟩:=hr;exact into true _ ho (.of2 a2 (qzJ (L:=L) (qu0 acc++[[.imm l]]) [] u p (hz p er rfl) 0 0 (strB []) 0) fun k b b2=>by simp only[nt,qn9,ah,zq i (by omega),b,ae,tup6];exact b2)
    |.inr (l,j),hb,h,hr=>cases hr;have hj:=qvI hb;have h2:=qD0 hS hf hz fu (acc++[l]) j o h (by simp;omega) hj.2 hq;exact into true _ ho (.of2 a2 h2 fun k b b2=>by simp only[nt,qn9,ah,zq i (by omega),b,ae,tup6];rw[show qu0 acc++[[.imm (qu7 l)]]=qu0 (acc++[l])by simp[qu0,qyQ]];exact b2)
theorem qFM (hS:TL L){n:Nat}{q:Er⊕Qu}(h:qvE L n=some q):∃ r,Tot (fun k=>g17 k ptB (rwT L) 0 0 0 0 0 0 (strB []) 0) r/\Goes qn9 (.h1 r.1 r.2.1 0 r.2.2.1 r.2.2.2 [] [] 0 0 (strB []) 0 0 0 (strB []) 0) (dQ (outQ q)):=by
 have a1:=q17a (L:=L) (i:=0) (by omega) (by omega) ptB;have hf:∀ x,q=.inr x->Few x:=fun x hx=>qw7 hL (by rw[h,hx]);have hz:∀ p e,q=.inl (p,e)->e≠0:=fun p e hx=>by rcases qzL (L:=L) (n:=n) (p:=p) (e:=e) (by rw[h,hx])with h|h|h|h<;>omega
 unfold qvE at h;cases h1:qu8 L ptB 0 with
 |inl er=>obtain⟨p,er⟩:=er;rw[h1]at h a1;cases h;have he:=hz p er rfl;refine⟨_,a1,.of2 (q18e (L:=L) (i:=((0:Nat):Int)) (a:=p) [] [] 0 0 (strB []) 0 0 (by decide) he) (qzJ (L:=L) ([]++[[.imm []]]) [] ((0:Nat):Int) p he 0 0 (strB []) 0) fun k b b2=>?_⟩;simp only[nt,qn9,b,ae,tup6];exact b2
 |inr m=>
  rw[h1]at h a1;have hm:=qvk h1;simp only at h;refine⟨_,a1,?_⟩;cases hb:qu6 L 0 m with
  |none=>rw[hb]at h;cases h
  |some ob=>
   rw[hb]at h;obtain⟨r,a2,hr⟩:=q18 hE hL [] [] 0 0 (strB []) 0 0 (nb:=0) rfl (by omega) (i:=m) hm.2.2 hb (fun p e hx=>by subst hx;rcases qv7 hb with h|h|h|h<;>omega)
   match ob,hb,h,hr with
   |.inl (p,er),hb,h,hr=>cases h;obtain⟨u,l,rfl⟩:=hr;exact .of2 a2 (qzJ (L:=L) ([]++[[.imm l]]) [] u p (hz p er rfl) 0 0 (strB []) 0) fun k b b2=>by simp only[nt,qn9,b,ae,tup6];exact b2
   |.inr (l,j),hb,h,hr=>
    cases hr;have hj:=qvI hb;simp only at h;cases hs:qu4 L 4 [l] j with
    |none=>rw[hs]at h;cases h
    |some o=>
     rw[hs]at h;have hq:brE L n o=some q:=by
      match o,h with
      |.inl e,h=>exact h
      |.inr (br,j),h=>
       simp only at h;show(qvn L n j).map (whE L br)=some q;cases hw:qvn L n j with
       |none=>rw[hw]at h;cases h
       |some w=>
        rw[hw]at h
        match w,h with
        |.inl e,h=>exact h
        |.inr (wh,j),h=>exact h
     have h2:=qD0 hE hL hS hf hz 4 [l] j o hs rfl hj.2 hq;exact .of2 a2 h2 fun k b b2=>by simp only[nt,qn9,b,ae,tup6];exact b2
end
section
variable [vo]
theorem qE5 {s:By}{n:Nat}{t:Qu×Int×Int}(h:parQ s n=some t):Tot (fun k=>g6 k s) (dQ t):=by
 have f0:∀ p e:Int,Goes qn9 (.h0 p e [] [] 0 0 (strB []) 0) (dQ (q0,p,e)):=fun p e=>.fin0 fun k rec=>rfl;unfold parQ at h;split at h
 .
  rename_i hs;have sc:=qnb hs;rw[qjQ]at sc;cases hT:yn s (s.size+1) 0 with
  |inr z=>rw[hT]at h sc;cases h;exact Goes.of2 (step:=qn9) (s:=.e s) sc (f0 z 12) fun k b b2=>by simp only[nt,qn9,b,qvx,ae,tup3,show((12:Int)!=0)=true from rfl,ah];exact b2
  |inl L=>
   obtain⟨hS,hm⟩:=quO hs hT;rw[hT]at h sc;simp only at h;have sc':Tot (fun k=>g16 k s) (rwT L,0,0):=by
    have:qvx [] (.inl (rwT L))=(rwT L,0,0):=by show(([]++rwT L,0,0):R16)=_;rw[List.nil_append]
    rw[<- this];exact sc
   cases hq:qvE L n with
   |none=>rw[hq]at h;cases h
   |some q=>rw[hq]at h;cases h;obtain⟨r,a1,a2⟩:=qFM hm hS.len hS hq;exact Goes.of3 (step:=qn9) (s:=.e s) sc' a1 a2 fun k b b2 b3=>by simp only[ptB]at b2;simp only[nt,qn9,b,qlr,b2,ae,tup3,tup4,bne_self_eq_false,af];exact b3
 . rename_i hs;cases h;exact Goes.of2 (step:=qn9) (s:=.e s) (qAv hs) (f0 0 2) fun k b b2=>by simp only[nt,qn9,b,ae,tup3,show((2:Int)!=0)=true from rfl,ah];exact b2
end
end
section
section
variable [vo]
theorem qyt:∀ (m:Nat) (a:Ex),cnt a<=m->cnt a<4000000000->Goes qj6 (.e a.op (qg a.args) a.n a.scale a.name a.attr a.pos a.op (qg a.args) a.n a.scale a.name a.attr a.pos true) true
 |0,a,h,_=>by have:=XN a;omega
 |m+1,a,h,hc=>by
  have hca:=XN a;have hlen:=qfm a.args;have loop:∀ (j i:Nat),a.args.length-i=j->Goes qj6 (.h1 true (a.args.length:Int) (i:Int) a.op (qg a.args) a.n a.scale a.name a.attr a.pos a.op (qg a.args) a.n a.scale a.name a.attr a.pos) true:=by
   intro j
   induction j with
   |zero=>intro i hi;refine .fin0 fun k rec=>?_;simp only[nt,qj6,ltF (show ¬ i<a.args.length by omega),af]
   |succ j ih=>
    intro i hi;have h1:i<a.args.length:=by omega
    have e1:=ax h1;generalize a.args[i]=x at e1;have hx:=qfF e1;have self:=qyt m x (by omega) (by omega);refine Goes.self self (ih (i+1) (by omega)) fun k rec e=>?_;simp only[nt,qj6,ltT h1,ah,Yi (qhi e1),qkU,e,ae,aj,af,zq i (by omega)]
  have h0:Goes qj6 (.h0 true false a.op (qg a.args) a.n a.scale a.name a.attr a.pos a.op (qg a.args) a.n a.scale a.name a.attr a.pos) true:=by refine Goes.rec0 (loop _ 0 rfl) fun k rec=>?_;simp only[nt,qj6,af,Yt];rfl
  refine Goes.rec0 h0 fun k rec=>?_;simp only[nt,qj6,bne_self_eq_false,af,beq_self_eq_true,aj,ah]
section
variable {a:Qu} (ha:Few a)
include ha
theorem qFT:∀ (j i:Nat),a.wh.length-i=j->Goes qbD (.h3 true (a.wh.length:Int) (i:Int) (qu0 a.br) (qg a.wh) a.st a.wd a.key a.ka (qu0 a.br) (qg a.wh) a.st a.wd a.key a.ka) true:=by
 have hwl:=qfm a.wh;have hf:=ha.wh;intro j
 induction j with
 |zero=>intro i hi;refine .fin0 fun k rec=>?_;simp only[nt,qbD,ltF (show ¬ i<a.wh.length by omega),af]
 |succ j ih=>
  intro i hi;have h1:i<a.wh.length:=by omega
  have e1:=ax h1;generalize a.wh[i]=x at e1;have hx:=qfF e1;have self:Tot (fun k=>g24 k x.op (qg x.args) x.n x.scale x.name x.attr x.pos x.op (qg x.args) x.n x.scale x.name x.attr x.pos true) true:=qyt _ x (Nat.le_refl _) (by omega);refine Goes.call self (ih (i+1) (by omega)) fun k rec e=>?_;simp only[nt,qbD,ltT h1,ah,Yi (qhi e1),qkU,e,ae,aj,af,zq i (by omega)]
omit ha in
theorem qFS {l:List It}{i:Nat}(eb:a.br[i]? = some l)(hf:l.length<1000000000)(hi:i<1000000000)(next:Goes qbD (.h1 true (a.br.length:Int) ((i+1:Nat):Int) (qu0 a.br) (qg a.wh) a.st a.wd a.key a.ka (qu0 a.br) (qg a.wh) a.st a.wd a.key a.ka) true):
  ∀ (n j:Nat),l.length-j=n->Goes qbD (.h2 true (i:Int) (a.br.length:Int) (i:Int) (qu7 l) (l.length:Int) (j:Int) (qu0 a.br) (qg a.wh) a.st a.wd a.key a.ka (qu0 a.br) (qg a.wh) a.st a.wd a.key a.ka) true:=by
 intro n
 induction n with
 |zero=>
  intro j hj;refine Goes.rec0 next fun k rec=>?_
  simp only[nt,qbD,ltF (show ¬ j<l.length by omega),af,zq i (by omega)]
 |succ n ih=>
  intro j hj;have h1:j<l.length:=by omega
  have e1:=ax h1;generalize l[j]=x at e1;have s4:Goes qbD (.h4 true (i:Int) (a.br.length:Int) (i:Int) (qu7 l) (l.length:Int) (j:Int) false (qu0 a.br) (qg a.wh) a.st a.wd a.key a.ka (qu0 a.br) (qg a.wh) a.st a.wd a.key a.ka) true:=Goes.rec0 (ih (j+1) (by omega)) fun k rec=>by simp only[nt,qbD,af,zq j (by omega)]
  refine Goes.rec0 s4 fun k rec=>?_;simp only[nt,qbD,ltT h1,ah,Yi (qE6 e1),Yi (qCU eb),qFW,qEL,bne_self_eq_false,beq_self_eq_true,aj,af]
theorem qFR:∀ (j i:Nat),a.br.length-i=j->Goes qbD (.h1 true (a.br.length:Int) (i:Int) (qu0 a.br) (qg a.wh) a.st a.wd a.key a.ka (qu0 a.br) (qg a.wh) a.st a.wd a.key a.ka) true:=by
 have hf:=ha.br;intro j
 induction j with
 |zero=>intro i hi;refine Goes.rec0 (qFT ha _ 0 rfl) fun k rec=>?_;simp only[nt,qbD,ltF (show ¬ i<a.br.length by omega),af,Yt];rfl
 |succ j ih=>
  intro i hi;have h1:i<a.br.length:=by omega
  have e1:=ax h1;generalize a.br[i]=x at e1;refine Goes.rec0 (qFS e1 (ha.at e1) (by omega) (ih (i+1) (by omega)) _ 0 rfl) fun k rec=>?_;simp only[nt,qbD,ltT h1,ah,Yi (qCU e1),qEL,qvf,bne_self_eq_false,af];rfl
theorem s8:Tot (fun k=>g8 k (qu0 a.br) (qg a.wh) a.st a.wd a.key a.ka (qu0 a.br) (qg a.wh) a.st a.wd a.key a.ka true) true:=by
 have h0:Goes qbD (.h0 true false (qu0 a.br) (qg a.wh) a.st a.wd a.key a.ka (qu0 a.br) (qg a.wh) a.st a.wd a.key a.ka) true:=by refine Goes.rec0 (qFR ha _ 0 rfl) fun k rec=>?_;simp only[nt,qbD,af,qwx];rfl
 refine Goes.rec0 (step:=qbD) (s:=.e (qu0 a.br) (qg a.wh) a.st a.wd a.key a.ka (qu0 a.br) (qg a.wh) a.st a.wd a.key a.ka true) h0 fun k rec=>?_;simp only[nt,qbD,bne_self_eq_false,beq_self_eq_true,aj,af,ah]
end
theorem qyq:Few q0:=by constructor<;>simp[q0,cnts]
theorem qAF {s:By}{n:Nat}{t:Qu×Int×Int}(h:parQ s n=some t):Few t.1:=by
 unfold parQ at h;split at h
 .
  rename_i hs;cases hT:yn s (s.size+1) 0 with
  |inr z=>rw[hT]at h;cases h;exact qyq
  |inl L=>
   rw[hT]at h;simp only at h;cases hq:qvE L n with
   |none=>rw[hq]at h;cases h
   |some q=>
    rw[hq]at h;cases h
    match q,hq with
    |.inl (p,e),_=>exact qyq
    |.inr q,hq=>
     unfold outQ;simp only;split
     . exact qw7 (quO hs hT).1.len hq
     . exact qyq
 . cases h;exact qyq
theorem qwO (s:By):Tot (fun k=>g3 k s) true:=by
 obtain⟨t,h⟩:=qCu s (n:=90000) (by omega);obtain⟨r,h5,hr⟩:=qE4 h;have sm:=s8 (qAF h);have aw:Tot (fun k=>g7 k) true:=qjj 200 awk;refine Goes.of4 (step:=qon) (s:=.e s) h5 (qE5 h) aw sm fun k b b2 b3 b4=>?_;rcases hr with rfl|⟨hq,rfl⟩
 . simp only[nt,qon,b,b2,b3,dQ,ae,altC,tup8,ah,b4,beq_self_eq_true]
 . obtain⟨q,p,e⟩:=t;simp only at hq;subst hq;have b4:g8 k [] [] 0 0 (strB []) 0 [] [] 0 0 (strB []) 0 true=some true:=b4;simp only[nt,qon,b,b2,b3,dQ,ae,altC,tup8,tup6,ah,show qu0 q0.br=[]from rfl,show qg q0.wh=[]from rfl,show q0.st=0 from rfl,show q0.wd=0 from rfl,show q0.key=strB []from rfl,show q0.ka=0 from rfl,b4,beq_self_eq_true]
end
end
end Ab
end Go.Proofs.YtgfbbmjoflehlaaGreatDoor

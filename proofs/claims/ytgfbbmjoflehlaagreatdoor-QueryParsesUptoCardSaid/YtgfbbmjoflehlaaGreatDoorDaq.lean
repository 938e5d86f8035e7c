/-
  The document's query parser, as it is printed, tells what the plain one tells, and the first thing that is wrong: words, items, branches.
-/
import Derived.Test.YtgfbbmjoflehlaaGreatDoorQbq
import Derived.Test.YtgfbbmjoflehlaaGreatDoorZaq
set_option linter.all false
namespace Go.Proofs.YtgfbbmjoflehlaaGreatDoor
namespace Ab
theorem Goes.go1 {S R A step}{s s':S}{r:R}{f}{a:A}(h:Tot f a)(h2:Goes step s' r)(e:∀ k,f k=some a->itS step k s'=some r->step k (itS step k) s=some r):Goes step s r:=.of2 h h2 e
theorem Goes.go2 {S R A B step}{s s':S}{r:R}{f}{a:A}{g}{b:B}(h:Tot f a)(h1:Tot g b)(h2:Goes step s' r)(e:∀ k,f k=some a->g k=some b->itS step k s'=some r->step k (itS step k) s=some r):Goes step s r:=.of3 h h1 h2 e
section
variable [vo] {L:List Tok} (hE:Lm L+1=L.length) (hL:L.length<5000) (c d:Rs) (st wd:Int) (key:By) (ka o:Int)
include hE hL
theorem q52 {i}(hi:i<=Lm L)(e a):Tot (fun k=>g52b k (rwT L) i o e a c d st wd key ka) ((tkA L i).kind,(tkA L i).text,(tkA L i).n,(tkA L i).scale,(tkA L i).pos,rwT L,c,d):=Goes.fin0 (step:=qxJ) (s:=.e (rwT L) i o e a c d st wd key ka) fun k rec=>by simp only[nt,qxJ,Yi (qfK (show i<L.length by omega)),qjp]
theorem q19 (s){i}(hi:i<=Lm L)(e a):Tot (fun k=>g19b k s (rwT L) i o e a c d st wd key ka) (isW (tkA L i) s,rwT L,c,d):=Goes.of1 (step:=qxB) (s:=.e s (rwT L) i o e a c d st wd key ka) (q52 hE hL c d st wd key ka o hi e a) fun k h=>by simp only[nt,qxB,h,ae,tup8,isW];cases (tkA L i).kind==1<;>cases (tkA L i).kind==6<;>rfl
theorem q22 (er){i}(hi:i<=Lm L):Tot (fun k=>g22b k er (rwT L) i o 0 0 c d st wd key ka) (rwT L,er,(tkA L i).pos,c,d):=Goes.of1 (step:=qxD) (s:=.e er (rwT L) i o 0 0 c d st wd key ka) (q52 hE hL c d st wd key ka o hi 0 0) fun k h=>by simp only[nt,qxD,h,ae,tup8];rfl
theorem q55 (er){i}(hi:i<=Lm L):Tot (fun k=>g55b k er (rwT L) i o 0 0 c d st wd key ka) (rwT L,er,(tkA L i).pos,c,d):=Goes.of1 (step:=qwF) (s:=.e er (rwT L) i o 0 0 c d st wd key ka) (q22 hE hL c d st wd key ka o er hi) fun k h=>by simp only[nt,qwF,h,ae,tup5];rfl
theorem q17 (s){i}(hi:i<=Lm L):Tot (fun k=>g17b k s (rwT L) i o 0 0 c d st wd key ka) (match qu8 L s i with|.inl (p,e)=>(rwT L,(i:Int),e,p,c,d)|.inr j=>(rwT L,(j:Int),0,0,c,d)):=
 Goes.of2 (step:=qwD) (s:=.e s (rwT L) i o 0 0 c d st wd key ka) (q19 hE hL c d st wd key ka o s hi 0 0) (q22 hE hL c d st wd key ka o 13 hi) fun k h h2=>by
 simp only[nt,qwD,h,h2,ae,tup4,tup5,zq i (by omega),bne_self_eq_false,af,qu8];cases isW (tkA L i) s<;>rfl
theorem q56 {i}(hi:i<=Lm L):Tot (fun k=>g56b k (rwT L) i o 0 0 c d st wd key ka) (match nmF L i with|.inl p=>(strB [],rwT L,(i:Int),13,p,c,d)|.inr n=>(n,rwT L,((i+1:Nat):Int),0,0,c,d)):=by
 have s:Goes qvH (.h0 ((tkA L i).kind != 2) (rwT L) i o 0 0 c d st wd key ka) (match nmF L i with|.inl p=>(strB [],rwT L,(i:Int),13,p,c,d)|.inr n=>(n,rwT L,((i+1:Nat):Int),0,0,c,d)):=
  .of1 (q55 hE hL c d st wd key ka o 13 hi) fun k h=>by
   have hw:IntKind.i64.wrap (((i+1:Nat):Int)-1)=(i:Int):=by rw[show((i+1:Nat):Int)-1=(i:Int)by omega];exact qes (by omega) (by omega)
   simp only[nt,qvH,h,ae,tup5,zq i (by omega),hw,Yi (qfK (show i<L.length by omega)),qjp,nmF];cases (tkA L i).kind != 2<;>rfl
 refine Goes.rec0 (step:=qvH) (s:=.e (rwT L) i o 0 0 c d st wd key ka) s fun k rec=>?_;simp only[nt,qvH,bne_self_eq_false,af,Yi (qfK (show i<L.length by omega)),qjp]
omit hE hL
section
variable (R:Rs) (i:Int) {e:Int} (a:Int) (he:e≠0)
include he
theorem q55e (er):Tot (fun k=>g55b k er R i o e a c d st wd key ka) (R,e,a,c,d):=Goes.fin0 (step:=qwF) (s:=.e er R i o e a c d st wd key ka) fun k rec=>by
 have:(e==0)=false:=by grind
 simp only[nt,qwF,this,af]
theorem q17e (s):Tot (fun k=>g17b k s R i o e a c d st wd key ka) (R,i,e,a,c,d):=Goes.fin0 (step:=qwD) (s:=.e s R i o e a c d st wd key ka) fun k rec=>by
 have:(e != 0)=true:=by grind
 simp only[nt,qwD,this,ah]
theorem q56e:Tot (fun k=>g56b k R i o e a c d st wd key ka) (strB [],R,i,e,a,c,d):=by
 have:(e != 0)=true:=by grind
 have s:Goes qvH (.h0 true R i o e a c d st wd key ka) (strB [],R,i,e,a,c,d):=.of1 (q55e c d st wd key ka o R i a he 13) fun k h=>by simp only[nt,qvH,h,ae,tup5,ah]
 exact Goes.rec0 (step:=qvH) (s:=.e R i o e a c d st wd key ka) s fun k rec=>by simp only[nt,qvH,this,ah]
end
def R51of (L:List Tok)(c d:Rs)(x:Er⊕(It×Nat))(r:R51b):Prop:=match x with
 |.inl (p,e)=>∃ (f:Int) (t n:By) (q i:Int),r=(f,t,n,q,rwT L,i,e,p,c,d)
 |.inr (x,j)=>r=(x.form,x.typ,x.nm,x.pos,rwT L,(j:Int),0,0,c,d)
include hE hL
theorem qzI (fm ty x)(p a b m:Int)(y z){i}(hi:i<=Lm L):∃ r,Goes qu5 (.h3 fm ty x p a y z m (rwT L) i o 0 0 c d st wd key ka) r/\R51of L c d (qw4 L fm ty p i) r:=by
 have a1:=q56 hE hL c d st wd key ka o hi;unfold qw4;cases hn:nmF L i with
 |inl q=>rw[hn]at a1;exact⟨(fm,ty,strB [],p,rwT L,(i:Int),13,q,c,d),.of1 a1 fun k h=>by simp only[nt,qu5,h,ae,tup7],_,_,_,_,_,rfl⟩
 |inr nm=>rw[hn]at a1;exact⟨(fm,ty,nm,p,rwT L,((i+1:Nat):Int),0,0,c,d),.of1 a1 fun k h=>by simp only[nt,qu5,h,ae,tup7],rfl⟩
omit hE hL in
theorem qCx (fm:Int)(ty x:By)(p a b m:Int)(y z:By){i e u:Int}(he:e≠0):Goes qu5 (.h3 fm ty x p a y z m (rwT L) i o e u c d st wd key ka) (fm,ty,strB [],p,rwT L,i,e,u,c,d):=.of1 (q56e c d st wd key ka o (rwT L) i u he) fun k h=>by simp only[nt,qu5,h,ae,tup7]
theorem qBd (neg:Bool)(p){i}(hi:i<=Lm L):∃ r,Goes qu5 (.h1 (if neg then 3 else 1) (strB []) (strB []) p 0 (strB []) (strB []) 0 (rwT L) i o 0 0 c d st wd key ka) r/\R51of L c d (qwa L neg p i) r:=by
 have a1:=q56 hE hL c d st wd key ka o hi;unfold qwa;cases hn:nmF L i with
 |inl q=>rw[hn]at a1;have s1:Goes qu5 (.h2 false (if neg then 3 else 1) (strB []) (strB []) p 0 (strB []) (strB []) 0 (rwT L) (i:Int) o 13 q c d st wd key ka) (if neg then 3 else 1,strB [],strB [],p,rwT L,(i:Int),13,q,c,d):=.rec0 (qCx c d st wd key ka o (if neg then 3 else 1) (strB []) (strB []) p 0 0 0 (strB []) (strB []) (by omega)) fun k rec=>rfl;refine⟨(if neg then 3 else 1,strB [],strB [],p,rwT L,(i:Int),13,q,c,d),.of2 a1 s1 fun k h h'=>?_,_,_,_,_,_,rfl⟩;simp only[nt,qu5,h,ae,tup7];exact h'
 |inr ty=>
  rw[hn]at a1;have hi1:=qod hn;cases neg with
  |true=>obtain⟨r,h1,h2⟩:=qzI hE hL c d st wd key ka o 3 ty (strB []) p 0 0 0 (strB []) (strB []) (i:=i+1) (by omega);refine⟨r,?_,h2⟩;have s1:Goes qu5 (.h2 false 3 ty (strB []) p 0 (strB []) (strB []) 0 (rwT L) ((i+1:Nat):Int) o 0 0 c d st wd key ka) r:=.rec0 h1 fun k rec=>rfl;refine .of2 a1 s1 fun k h h'=>?_;simp only[nt,qu5,h,ae,tup7];exact h'
  |false=>
   have a2:=q19 hE hL c d st wd key ka o plsB (i:=i+1) (by omega) 0 0;simp only[af];cases hp:isW (tkA L (i+1)) plsB with
   |true=>
    rw[hp]at a2;have:=Zv hp;obtain⟨r,h1,h2⟩:=qzI hE hL c d st wd key ka o 2 ty (strB []) p 0 0 0 (strB []) (strB []) (i:=i+2) (by omega);refine⟨r,?_,h2⟩;have s1:Goes qu5 (.h2 true 1 ty (strB []) p 0 (strB []) (strB []) 0 (rwT L) ((i+1:Nat):Int) o 0 0 c d st wd key ka) r:=.rec0 h1 fun k rec=>by simp only[nt,qu5,ah,zq (i+1) (by omega)]
    refine .of3 a1 a2 s1 fun k h h' h''=>?_;simp only[plsB]at h';simp only[nt,qu5,h,ae,tup7,aT,if_false,show((1:Int)==1)=true from rfl,show((0:Int)==0)=true from rfl,ah,h',tup4];omega
   |false=>rw[hp]at a2;obtain⟨r,h1,h2⟩:=qzI hE hL c d st wd key ka o 1 ty (strB []) p 0 0 0 (strB []) (strB []) (i:=i+1) (by omega);refine⟨r,?_,h2⟩;have s1:Goes qu5 (.h2 false 1 ty (strB []) p 0 (strB []) (strB []) 0 (rwT L) ((i+1:Nat):Int) o 0 0 c d st wd key ka) r:=.rec0 h1 fun k rec=>rfl;refine .of3 a1 a2 s1 fun k h h' h''=>?_;simp only[plsB]at h';simp only[nt,qu5,h,ae,tup7,aT,if_false,show((1:Int)==1)=true from rfl,show((0:Int)==0)=true from rfl,ah,h',tup4];omega
theorem qDZ {i}(hi:i<=Lm L)(kd n sc)(tx):∃ r,Goes qu5 (.h0 false kd tx n sc (tkA L i).pos 0 (strB []) (strB []) 0 (rwT L) i o 0 0 c d st wd key ka) r /\
  R51of L c d (bif isW (tkA L i) excB then qwa L true (tkA L i).pos (i+1)else qwa L false (tkA L i).pos i) r:=by
 have a2:=q19 hE hL c d st wd key ka o excB (i:=i) (by omega) 0 0;cases hp:isW (tkA L i) excB with
 |true=>rw[hp]at a2;have:=Zv hp;obtain⟨r,h1,h2⟩:=qBd hE hL c d st wd key ka o true (tkA L i).pos (i:=i+1) (by omega);refine⟨r,.of2 a2 h1 fun k h h'=>?_,h2⟩;simp only[excB]at h;simp only[nt,qu5,af,h,ae,tup4,ah,zq i (by omega)];exact h'
 |false=>rw[hp]at a2;obtain⟨r,h1,h2⟩:=qBd hE hL c d st wd key ka o false (tkA L i).pos (i:=i) (by omega);refine⟨r,.of2 a2 h1 fun k h h'=>?_,h2⟩;simp only[excB]at h;simp only[nt,qu5,af,h,ae,tup4,ah];exact h'
theorem q51 (n:Nat){i}(hi:i<=Lm L):∃ r,Tot (fun k=>g51b k (n:Int) (rwT L) i o 0 0 c d st wd key ka) r/\R51of L c d (qv9 L n i) r:=by
 have a2:=q19 hE hL c d st wd key ka o excB (i:=i) (by omega) 0 0;have a3:=q22 hE hL c d st wd key ka o 2 hi;have n8:((n:Int)==8)=(n==8):=by grind
 have x1:=qfK (show i<L.length by omega);obtain⟨r,h1,h2⟩:=qDZ hE hL c d st wd key ka o hi (tkA L i).kind (tkA L i).n (tkA L i).scale (tkA L i).text;have s1:Goes qu5 (.h0 true (tkA L i).kind (tkA L i).text (tkA L i).n (tkA L i).scale (tkA L i).pos 0 (strB []) (strB []) 0 (rwT L) i o 0 0 c d st wd key ka) (0,strB [],strB [],0,rwT L,(i:Int),2,(tkA L i).pos,c,d):=.of1 a3 fun k h=>by simp only[nt,qu5,ah,h,ae,tup5]
 unfold qv9;cases hn:n==8 with
 |false=>rw[Bool.false_and];refine⟨r,Goes.of1 (step:=qu5) (s:=.e (n:Int) (rwT L) i o 0 0 c d st wd key ka) h1 fun k h'=>?_,h2⟩;simp only[nt,qu5,Yi x1,qjp,n8,hn,af];exact h'
 |true=>
  rw[Bool.true_and];cases hk:((tkA L i).kind==2)with
  |true=>rw[Bool.or_true];refine⟨(0,strB [],strB [],0,rwT L,(i:Int),2,(tkA L i).pos,c,d),Goes.of1 (step:=qu5) (s:=.e (n:Int) (rwT L) i o 0 0 c d st wd key ka) s1 fun k h'=>?_,_,_,_,_,_,rfl⟩;simp only[nt,qu5,Yi x1,qjp,n8,hn,ah,hk];exact h'
  |false=>
   rw[Bool.or_false];cases hx:isW (tkA L i) excB with
   |true=>rw[hx]at a2;refine⟨(0,strB [],strB [],0,rwT L,(i:Int),2,(tkA L i).pos,c,d),Goes.of2 (step:=qu5) (s:=.e (n:Int) (rwT L) i o 0 0 c d st wd key ka) a2 s1 fun k h h'=>?_,_,_,_,_,_,rfl⟩;simp only[excB]at h;simp only[nt,qu5,Yi x1,qjp,n8,hn,ah,hk,af,h,ae,tup4];exact h'
   |false=>rw[hx]at a2 h2;refine⟨r,Goes.of2 (step:=qu5) (s:=.e (n:Int) (rwT L) i o 0 0 c d st wd key ka) a2 h1 fun k h h'=>?_,h2⟩;simp only[excB]at h;simp only[nt,qu5,Yi x1,qjp,n8,hn,ah,hk,af,h,ae,tup4];exact h'
omit hE hL
def R18of (L:List Tok)(c d:Rs)(x:Er⊕(List It×Nat))(r:R18b):Prop:=match x with
 |.inl (p,e)=>∃ (i:Int) (l:Rs),r=(rwT L,i,e,p,c++[[.imm l]],d)
 |.inr (l,j)=>r=(rwT L,(j:Int),0,0,c++[[.imm (qu7 l)]],d)
theorem qzG (hc:c.length<1000)(l){i e a}(he:e≠0):Goes qu3 (.h4 l (rwT L) i o e a c d st wd key ka) (rwT L,i,e,a,c++[[.imm (qG l)]],d):=.of1 (q17e c d st wd key ka o (rwT L) i a he (strB [41])) fun k h=>by simp only[nt,qu3,h,ae,tup6,qAi hc,ZW]
theorem qyk (hc:c.length<1000)(l){i e a}(he:e≠0):Goes qu3 (.h2 l (rwT L) i o e a c d st wd key ka) (rwT L,i,e,a,c++[[.imm (qG l)]],d):=
 .rec0 (qzG c d st wd key ka o hc l he) fun k rec=>by
  have:(e==0)=false:=by grind
  simp only[nt,qu3,this,af]
theorem qzF (hc:c.length<1000){i e a}(he:e≠0):Goes qu3 (.h1 (rwT L) i o e a c d st wd key ka) (rwT L,i,e,a,c++[[.imm []]],d):=.of3 (q17e c d st wd key ka o (rwT L) i a he (strB [83,69,81])) (q17e c d st wd key ka o (rwT L) i a he (strB [40])) (qyk c d st wd key ka o hc [] he) fun k h h2 h3=>by simp only[nt,qu3,h,h2,ae,tup6];exact h3
theorem q18e (hc:c.length<1000){i e a}(he:e≠0):Tot (fun k=>g18b k (rwT L) i o e a c d st wd key ka) (rwT L,i,e,a,c++[[.imm []]],d):=by
 have:(e==0)=false:=by grind
 have s:Goes qu3 (.h0 false (rwT L) i o e a c d st wd key ka) (rwT L,i,e,a,c++[[.imm []]],d):=.rec0 (qzF c d st wd key ka o hc he) fun k rec=>rfl;exact Goes.rec0 (step:=qu3) (s:=.e (rwT L) i o e a c d st wd key ka) s fun k rec=>by simp only[nt,qu3,this,af]
include hE hL
theorem qBc (hc:c.length<1000):∀ (fu:Nat) (acc:List It) (i:Nat) (out:Er⊕(List It×Nat)),qvD L fu acc i=some out->acc.length+fu=9->i<=Lm L ->
  (∀ p e,out=.inl (p,e)->e≠0)->∃ r,Goes qu3 (.h2 (qu7 acc) (rwT L) i o 0 0 c d st wd key ka) r/\R18of L c d out r
 |0,_,_,_,h,_,_,_=>by cases h
 |fu+1,acc,i,out,h,hf,hi,hz=>by
  unfold qvD at h;obtain⟨r,a1,hr⟩:=q51 hE hL c d st wd key ka o acc.length hi;have ap:∀ f t n q,apOk 48 4 (qu7 acc) [[ic f,sc t,sc n,ic q]]=true:=fun f t n q=>qAj (by omega) rfl;cases ho:qv9 L acc.length i with
  |inl er=>
   rw[ho]at h hr;obtain⟨p,er⟩:=er;obtain⟨f,t,n,q,u,rfl⟩:=hr;cases h;have he:=hz p er rfl;have s1:Goes qu3 (.h3 (qu7 acc++[[ic f,sc t,sc n,ic q]]) true (rwT L) u o er p c d st wd key ka) (rwT L,u,er,p,c++[[.imm (qG (qu7 acc++[[ic f,sc t,sc n,ic q]]))]],d):=.rec0 (qzG c d st wd key ka o hc _ he) fun k rec=>rfl;refine⟨_,.go1 a1 s1 fun k b b2=>?_,_,_,rfl⟩;have:(er != 0)=true:=by grind
   simp only[nt,qu3,show((0:Int)==0)=true from rfl,ah,qvf,b,ae,ql,ap,ZW,this];exact b2
  |inr xj=>
   obtain⟨x,j⟩:=xj;rw[ho]at h hr;have hj:=qxu ho;cases hr;simp only at h;have a2:=q19 hE hL c d st wd key ka o comB (i:=j) hj.2 0 0;have er:qu7 (acc++[x])=qu7 acc++[[ic x.form,sc x.typ,sc x.nm,ic x.pos]]:=by simp[qu7,qzx]
   cases hc':isW (tkA L j) comB with
   |true=>
    rw[hc']at h a2;have:=Zv hc';obtain⟨r,h1,h2⟩:=qBc hc fu (acc++[x]) (j+1) out h (by grind) (by omega) hz;have s1:Goes qu3 (.h3 (qu7 (acc++[x])) false (rwT L) j o 0 0 c d st wd key ka) r:=.rec0 h1 fun k rec=>by simp only[nt,qu3,af,zq j (by omega)]
    refine⟨r,.of3 a1 a2 s1 fun k b b2 b3=>?_,h2⟩;simp only[comB]at b2;simp only[nt,qu3,show((0:Int)==0)=true from rfl,ah,qvf,b,ae,ql,ap,ZW,bne_self_eq_false,af,b2,tup4,aj,<- er];exact b3
   |false=>
    rw[hc']at h a2;simp only[af]at h;have a3:=q17 hE hL c d st wd key ka o (strB [41]) (i:=j) hj.2;have fin:∀ r,Goes qu3 (.h4 (qu7 (acc++[x])) (rwT L) j o 0 0 c d st wd key ka) r->Goes qu3 (.h2 (qu7 acc) (rwT L) i o 0 0 c d st wd key ka) r:=fun r h4=>by have s1:Goes qu3 (.h3 (qu7 (acc++[x])) true (rwT L) j o 0 0 c d st wd key ka) r:=.rec0 h4 fun k rec=>rfl;refine .of3 a1 a2 s1 fun k b b2 b3=>?_;simp only[comB]at b2;simp only[nt,qu3,show((0:Int)==0)=true from rfl,ah,qvf,b,ae,ql,ap,ZW,bne_self_eq_false,af,b2,tup4,ak,<- er];exact b3
    cases hn:qu8 L (strB [41]) j with
    |inl er'=>obtain⟨p,e'⟩:=er';rw[hn]at h a3;cases h;exact⟨(rwT L,(j:Int),e',p,c++[[.imm (qG (qu7 (acc++[x])))]],d),fin _ (.of1 a3 fun k b=>by simp only[nt,qu3,b,ae,tup6,qAi hc,ZW]),_,_,rfl⟩
    |inr m=>rw[hn]at h a3;cases h;refine⟨(rwT L,(m:Int),0,0,c++[[Cell.imm (qu7 (acc++[x]))]],d),fin _ (.of1 a3 fun k b=>?_),(rfl:_=_)⟩;simp only[nt,qu3,b,ae,tup6,qAi hc,ZW,qxg]
theorem q18 {nb}(hc:c.length=nb)(hnb:nb<=4){i}(hi:i<=Lm L){out}(h:qu6 L nb i=some out)(hz:∀ p e,out=.inl (p,e)->e≠0):∃ r,Tot (fun k=>g18b k (rwT L) i o 0 0 c d st wd key ka) r/\R18of L c d out r:=by
 have a1:=q19 hE hL c d st wd key ka o seqB (i:=i) hi 0 0;have a2:=q17 hE hL c d st wd key ka o seqB (i:=i) hi;have a3:=q22 hE hL c d st wd key ka o 2 hi;have n4:((c.length:Int)==4)=(nb==4):=by grind
 have e0:∀ b r,Goes qu3 (.h0 b (rwT L) i o 0 0 c d st wd key ka) r->b=(isW (tkA L i) seqB&&nb==4)->Tot (fun k=>g18b k (rwT L) i o 0 0 c d st wd key ka) r:=fun b r h hb=>by
  subst hb;refine Goes.of2 (step:=qu3) (s:=.e (rwT L) i o 0 0 c d st wd key ka) a1 h fun k b b2=>?_;simp only[seqB]at b b2;simp only[nt,qu3,show((0:Int)==0)=true from rfl,ah,b,ae,tup4,n4]
  grind
 unfold qu6 at h;cases hb:(isW (tkA L i) seqB&&nb==4)with
 |true=>rw[hb]at h;cases h;refine⟨_,e0 true _ (.go1 a3 (qzF (L:=L) (i:=(i:Int)) (a:=(tkA L i).pos) c d st wd key ka o (by omega) (e:=2) (by omega)) fun k b b2=>?_) hb.symm,_,_,rfl⟩;simp only[nt,qu3,ah,b,ae,tup5];exact b2
 |false=>
  rw[hb]at h;simp only[af]at h;have e1:∀ r,Goes qu3 (.h1 (rwT L) i o 0 0 c d st wd key ka) r->Tot (fun k=>g18b k (rwT L) i o 0 0 c d st wd key ka) r:=fun r h=>e0 false r (.rec0 h fun k rec=>rfl) hb.symm;cases h1:qu8 L seqB i with
  |inl er=>obtain⟨p,er⟩:=er;rw[h1]at h a2;cases h;have he:=hz p er rfl;refine⟨_,e1 _ (.go2 a2 (q17e c d st wd key ka o (rwT L) (i:Int) p he (strB [40])) (qyk (L:=L) (i:=(i:Int)) (a:=p) c d st wd key ka o (by omega) [] he) fun k b b2 b3=>?_),_,_,rfl⟩;simp only[seqB]at b;simp only[nt,qu3,b,b2,ae,tup6];exact b3
  |inr m=>
   rw[h1]at h a2;have hm:=qvk h1;have a4:=q17 hE hL c d st wd key ka o (strB [40]) (i:=m) (by omega);simp only at h;cases h2:qu8 L (strB [40]) m with
   |inl er=>obtain⟨p,er⟩:=er;rw[h2]at h a4;cases h;have he:=hz p er rfl;refine⟨_,e1 _ (.go2 a2 a4 (qyk (L:=L) (i:=(m:Int)) (a:=p) c d st wd key ka o (by omega) [] he) fun k b b2 b3=>?_),_,_,rfl⟩;simp only[seqB]at b;simp only[nt,qu3,b,b2,ae,tup6];exact b3
   |inr j=>rw[h2]at h a4;have hj:=qvk h2;obtain⟨r,h3,h4⟩:=qBc hE hL c d st wd key ka o (by omega) 9 [] j out h rfl (by omega) hz;refine⟨r,e1 _ (.of3 a2 a4 h3 fun k b b2 b3=>?_),h4⟩;simp only[seqB]at b;simp only[nt,qu3,b,b2,ae,tup6];exact b3
end
end Ab
end Go.Proofs.YtgfbbmjoflehlaaGreatDoor

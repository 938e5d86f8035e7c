/-
  The query parser's functions, as they are printed, tell what the plain ones tell: words, items, branches.
-/
import Derived.Test.YtgfbbmjoflehlaaGreatDoorQaq
set_option linter.all false
namespace Go.Proofs.YtgfbbmjoflehlaaGreatDoor
namespace Ab
section
variable [vo] {L:List Tok} (hE:Lm L+1=L.length) (hL:L.length<5000) (c d:Rs) (e f:Int) (g:By) (ka:Int)
include hE hL
theorem qwi {i:Nat}(hi:i<=Lm L):Tot (fun k=>g46b k (rwT L) i c d e f g ka) ((tkA L i).kind,(tkA L i).text,(tkA L i).n,(tkA L i).scale,(tkA L i).pos,rwT L,c,d):=Goes.fin0 (step:=qxH) (s:=.e (rwT L) i c d e f g ka) fun k rec=>by simp only[nt,qxH,Yi (qfK (show i<L.length by omega)),qjp]
theorem qvt (s:By){i:Nat}(hi:i<=Lm L):Tot (fun k=>g42b k s (rwT L) i c d e f g ka) (isW (tkA L i) s,rwT L,c,d):=Goes.of1 (step:=qxG) (s:=.e s (rwT L) i c d e f g ka) (qwi hE hL c d e f g ka hi) fun k h=>by simp only[nt,qxG,h,ae,tup8,isW];cases (tkA L i).kind==1<;>cases (tkA L i).kind==6<;>rfl
theorem qvV (er:Int){i:Nat}(hi:i<=Lm L):Tot (fun k=>g47b k er (rwT L) i c d e f g ka) ((tkA L i).pos,er,rwT L,c,d):=Goes.of1 (step:=qxI) (s:=.e er (rwT L) i c d e f g ka) (qwi hE hL c d e f g ka hi) fun k h=>by simp only[nt,qxI,h,ae,tup8]
omit hE hL in
def N41 (L:List Tok)(c d:Rs)(i:Nat):Er⊕Nat->R40b
 |.inl (p,e)=>.inl (p,e,rwT L,(i:Int),c,d)
 |.inr j=>.inr (rwT L,(j:Int),c,d)
theorem qwh (s:By){i:Nat}(hi:i<=Lm L):Tot (fun k=>g40b k s (rwT L) i c d e f g ka) (N41 L c d i (qu8 L s i)):=
 Goes.of2 (step:=qxF) (s:=.e s (rwT L) i c d e f g ka) (qvt hE hL c d e f g ka s hi) (qvV hE hL c d e f g ka 13 hi) fun k h h2=>by
 simp only[nt,qxF,h,h2,ae,tup4,tup5,zq i (by omega),qu8];cases isW (tkA L i) s<;>rfl
theorem qyi {i:Nat}(hi:i<=Lm L):Tot (fun k=>g78b k (rwT L) i c d e f g ka) (match nmF L i with|.inl p=>.inl (p,13,rwT L,(i:Int),c,d)|.inr a=>.inr (a,rwT L,((i+1:Nat):Int),c,d)):=
 Goes.of2 (step:=qxL) (s:=.e (rwT L) i c d e f g ka) (qwi hE hL c d e f g ka hi) (qvV hE hL c d e f g ka 13 hi) fun k h h2=>by
 simp only[nt,qxL,h,h2,ae,tup8,tup5,zq i (by omega),nmF];cases (tkA L i).kind != 2<;>rfl
omit hE hL in
def R75of (L:List Tok)(c d:Rs)(o:Er⊕(It×Nat))(r:R75b):Prop:=match o with
 |.inl (p,e)=>∃ u:Int,r=.inl (p,e,rwT L,u,c,d)
 |.inr (x,j)=>r=.inr (x.form,x.typ,x.nm,x.pos,rwT L,(j:Int),c,d)
theorem qyh (fm:Int)(ty x:By)(p a b m:Int)(y z:By){i:Nat}(hi:i<=Lm L):∃ r,Goes qvc (.h3 fm ty x p a y z m (rwT L) (i:Int) c d e f g ka) r/\R75of L c d (qw4 L fm ty p i) r:=by
 have a1:=qyi hE hL c d e f g ka hi;unfold qw4;cases hn:nmF L i with
 |inl q=>rw[hn]at a1;exact⟨.inl (q,13,rwT L,(i:Int),c,d),.of1 a1 fun k h=>by simp only[nt,qvc,h,ae,altC,tup6],_,rfl⟩
 |inr nm=>rw[hn]at a1;exact⟨.inr (fm,ty,nm,p,rwT L,((i+1:Nat):Int),c,d),.of1 a1 fun k h=>by simp only[nt,qvc,h,ae,altC,tup5],rfl⟩
theorem qzv (neg:Bool)(p:Int){i:Nat}(hi:i<=Lm L):∃ r,Goes qvc (.h1 (if neg then 3 else 1) (strB []) (strB []) p 0 (strB []) (strB []) 0 (rwT L) (i:Int) c d e f g ka) r/\R75of L c d (qwa L neg p i) r:=by
 have a1:=qyi hE hL c d e f g ka hi;unfold qwa;cases hn:nmF L i with
 |inl q=>rw[hn]at a1;exact⟨.inl (q,13,rwT L,(i:Int),c,d),.of1 a1 fun k h=>by simp only[nt,qvc,h,ae,altC,tup6],_,rfl⟩
 |inr ty=>
  rw[hn]at a1;have hi1:=qod hn;cases neg with
  |true=>obtain⟨r,h1,h2⟩:=qyh hE hL c d e f g ka 3 ty (strB []) p 0 0 0 (strB []) (strB []) (i:=i+1) (by omega);refine⟨r,?_,h2⟩;have s1:Goes qvc (.h2 false 3 ty (strB []) p 0 (strB []) (strB []) 0 (rwT L) ((i+1:Nat):Int) c d e f g ka) r:=.rec0 h1 fun k rec=>rfl;refine .of2 a1 s1 fun k h h'=>?_;simp only[nt,qvc,h,ae,altC,tup5];exact h'
  |false=>
   have a2:=qvt hE hL c d e f g ka plsB (i:=i+1) (by omega);simp only[af];cases hp:isW (tkA L (i+1)) plsB with
   |true=>
    rw[hp]at a2;have:=Zv hp;obtain⟨r,h1,h2⟩:=qyh hE hL c d e f g ka 2 ty (strB []) p 0 0 0 (strB []) (strB []) (i:=i+2) (by omega);refine⟨r,?_,h2⟩;have s1:Goes qvc (.h2 true 1 ty (strB []) p 0 (strB []) (strB []) 0 (rwT L) ((i+1:Nat):Int) c d e f g ka) r:=.rec0 h1 fun k rec=>by simp only[nt,qvc,ah,zq (i+1) (by omega)]
    refine .of3 a1 a2 s1 fun k h h' h''=>?_;simp only[nt,qvc,h,ae,altC,tup5];simp only[plsB]at h';simp only[aT,if_false,show((1:Int)==1)=true from rfl,ah,h',ae,tup4];exact h''
   |false=>rw[hp]at a2;obtain⟨r,h1,h2⟩:=qyh hE hL c d e f g ka 1 ty (strB []) p 0 0 0 (strB []) (strB []) (i:=i+1) (by omega);refine⟨r,?_,h2⟩;have s1:Goes qvc (.h2 false 1 ty (strB []) p 0 (strB []) (strB []) 0 (rwT L) ((i+1:Nat):Int) c d e f g ka) r:=.rec0 h1 fun k rec=>rfl;refine .of3 a1 a2 s1 fun k h h' h''=>?_;simp only[nt,qvc,h,ae,altC,tup5];simp only[plsB]at h';simp only[aT,if_false,show((1:Int)==1)=true from rfl,ah,h',ae,tup4];exact h''
theorem qzu {i:Nat}(hi:i<=Lm L)(kd n sc:Int)(tx:By):∃ r,Goes qvc (.h0 false kd tx n sc (tkA L i).pos 0 (strB []) (strB []) 0 (rwT L) (i:Int) c d e f g ka) r /\
  R75of L c d (bif isW (tkA L i) excB then qwa L true (tkA L i).pos (i+1)else qwa L false (tkA L i).pos i) r:=by
 have a2:=qvt hE hL c d e f g ka excB (i:=i) (by omega);cases hp:isW (tkA L i) excB with
 |true=>rw[hp]at a2;have:=Zv hp;obtain⟨r,h1,h2⟩:=qzv hE hL c d e f g ka true (tkA L i).pos (i:=i+1) (by omega);refine⟨r,.of2 a2 h1 fun k h h'=>?_,h2⟩;simp only[excB]at h;simp only[nt,qvc,af,h,ae,tup4,ah,zq i (by omega)];exact h'
 |false=>rw[hp]at a2;obtain⟨r,h1,h2⟩:=qzv hE hL c d e f g ka false (tkA L i).pos (i:=i) (by omega);refine⟨r,.of2 a2 h1 fun k h h'=>?_,h2⟩;simp only[excB]at h;simp only[nt,qvc,af,h,ae,tup4,ah];exact h'
theorem qCs (n:Nat){i:Nat}(hi:i<=Lm L):∃ r,Tot (fun k=>g75b k (n:Int) (rwT L) i c d e f g ka) r/\R75of L c d (qv9 L n i) r:=by
 have a1:=qwi hE hL c d e f g ka hi;have a2:=qvt hE hL c d e f g ka excB (i:=i) (by omega);have a3:=qvV hE hL c d e f g ka 2 hi;have n8:((n:Int)==8)=(n==8):=by rw[Bool.eq_iff_iff,beq_iff_eq,beq_iff_eq];omega
 unfold qv9;cases hn:n==8 with
 |false=>rw[Bool.false_and];obtain⟨r,h1,h2⟩:=qzu hE hL c d e f g ka hi (tkA L i).kind (tkA L i).n (tkA L i).scale (tkA L i).text;refine⟨r,Goes.of2 (step:=qvc) (s:=.e (n:Int) (rwT L) i c d e f g ka) a1 h1 fun k h h'=>?_,h2⟩;simp only[nt,qvc,h,ae,tup8,n8,hn,af];exact h'
 |true=>
  rw[Bool.true_and];cases hb:(isW (tkA L i) excB||(tkA L i).kind==2)with
  |true=>
   refine⟨.inl ((tkA L i).pos,2,rwT L,(i:Int),c,d),?_,_,rfl⟩;have s1:Goes qvc (.h0 true (tkA L i).kind (tkA L i).text (tkA L i).n (tkA L i).scale (tkA L i).pos 0 (strB []) (strB []) 0 (rwT L) (i:Int) c d e f g ka) (.inl ((tkA L i).pos,2,rwT L,(i:Int),c,d)):=.of1 a3 fun k h=>by simp only[nt,qvc,ah,h,ae,tup5]
   refine Goes.of3 (step:=qvc) (s:=.e (n:Int) (rwT L) i c d e f g ka) a1 a2 s1 fun k h h' h''=>?_;simp only[excB]at h';simp only[nt,qvc,h,ae,tup8,n8,hn,ah,h',tup4];cases hx:isW (tkA L i) (strB [33])with
   |true=>exact h''
   |false=>
    have:((tkA L i).kind==2)=true:=by simpa [excB,hx]using hb
    rw[this];exact h''
  |false=>simp only[Bool.or_eq_false_iff]at hb;obtain⟨r,h1,h2⟩:=qzu hE hL c d e f g ka hi (tkA L i).kind (tkA L i).n (tkA L i).scale (tkA L i).text;refine⟨r,Goes.of3 (step:=qvc) (s:=.e (n:Int) (rwT L) i c d e f g ka) a1 a2 h1 fun k h h' h''=>?_,h2⟩;simp only[excB]at h' hb;simp only[nt,qvc,h,ae,tup8,n8,hn,ah,h',tup4,hb.1,hb.2,af];exact h''
omit hE hL in
def R41of (L:List Tok)(c d:Rs)(o:Er⊕(List It×Nat))(r:R41b):Prop:=match o with
 |.inl (p,e)=>∃ u:Int,r=.inl (p,e,rwT L,u,c,d)
 |.inr (l,j)=>r=.inr (rwT L,(j:Int),c++[[.imm (qu7 l)]],d)
omit hE hL in
theorem qAj {acc:List It}{row:List Cell}(h1:acc.length<1000)(h2:row.length=4):apOk 48 4 (qu7 acc) [row]=true:=by unfold apOk;simp[h2,lim,qvf];omega
omit hE hL in
theorem qAi {c:Rs}{x:Cell}(h1:c.length<1000):apOk 24 1 c [[x]]=true:=by unfold apOk;simp[lim];omega
theorem qzq (hc:c.length<1000):∀ (fu:Nat) (acc:List It) (i:Nat) (out:Er⊕(List It×Nat)),qvD L fu acc i=some out->acc.length+fu=9->i<=Lm L ->
  ∃ r,Goes qvq (.h1 (qu7 acc) (rwT L) (i:Int) c d e f g ka) r/\R41of L c d out r
 |0,_,_,_,h,_,_=>by cases h
 |fu+1,acc,i,out,h,hf,hi=>by
  unfold qvD at h;obtain⟨r,a1,hr⟩:=qCs hE hL c d e f g ka acc.length hi;cases ho:qv9 L acc.length i with
  |inl er=>rw[ho]at h hr;obtain⟨p,er⟩:=er;obtain⟨u,rfl⟩:=hr;cases h;refine⟨.inl (p,er,rwT L,u,c,d),.of1 a1 fun k b=>?_,_,rfl⟩;simp only[nt,qvq,qvf,b,ae,altC,tup6]
  |inr xj=>
   obtain⟨x,j⟩:=xj;rw[ho]at h hr;have hj:=qxu ho;cases hr;simp only at h;have a2:=qvt hE hL c d e f g ka comB (i:=j) hj.2;have er:qu7 (acc++[x])=qu7 acc++[[ic x.form,sc x.typ,sc x.nm,ic x.pos]]:=by simp[qu7,qzx]
   cases hc':isW (tkA L j) comB with
   |true=>rw[hc']at h a2;have:=Zv hc';obtain⟨r,h1,h2⟩:=qzq hc fu (acc++[x]) (j+1) out h (by simp;omega) (by omega);refine⟨r,.of3 a1 a2 h1 fun k b b2 b3=>?_,h2⟩;simp only[comB]at b2;simp only[nt,qvq,qvf,b,ae,altC,tup8,qAj (acc:=acc) (row:=[ic x.form,sc x.typ,sc x.nm,ic x.pos]) (by omega) rfl,ZW,b2,tup4,aj,af,zq j (by omega)];rw[<- er];exact b3
   |false=>
    rw[hc']at h a2;simp only[af]at h;have a3:=qwh hE hL c d e f g ka (strB [41]) (i:=j) hj.2;cases hn:qu8 L (strB [41]) j with
    |inl er=>obtain⟨p,er⟩:=er;rw[hn]at h a3;cases h;refine⟨.inl (p,er,rwT L,(j:Int),c,d),.of3 a1 a2 a3 fun k b b2 b3=>?_,_,rfl⟩;simp only[comB]at b2;simp only[nt,qvq,qvf,b,ae,altC,tup8,qAj (acc:=acc) (row:=[ic x.form,sc x.typ,sc x.nm,ic x.pos]) (by omega) rfl,ZW,b2,tup4,ak,ah,b3,N41,tup6]
    |inr m=>rw[hn]at h a3;cases h;refine⟨.inr (rwT L,(m:Int),c++[[Cell.imm (qu7 (acc++[x]))]],d),.of3 a1 a2 a3 fun k b b2 b3=>?_,(rfl:_=_)⟩;simp only[comB]at b2;simp only[nt,qvq,qvf,b,ae,altC,tup8,qAj (acc:=acc) (row:=[ic x.form,sc x.typ,sc x.nm,ic x.pos]) (by omega) rfl,ZW,b2,tup4,ak,ah,b3,N41];rw[<- er,qxg,qAi hc,ZW]
theorem qzr {nb:Nat}(hc:c.length=nb)(hnb:nb<=4){i:Nat}(hi:i<=Lm L){out:Er⊕(List It×Nat)}(h:qu6 L nb i=some out):∃ r,Tot (fun k=>g41b k (rwT L) i c d e f g ka) r/\R41of L c d out r:=by
 have a1:=qvt hE hL c d e f g ka seqB (i:=i) hi;have a2:=qwh hE hL c d e f g ka seqB (i:=i) hi;have a3:=qvV hE hL c d e f g ka 2 hi;have n4:((c.length:Int)==4)=(nb==4):=by rw[Bool.eq_iff_iff,beq_iff_eq,beq_iff_eq];omega
 have e0:∀ b r,Goes qvq (.h0 b (rwT L) (i:Int) c d e f g ka) r->b=(isW (tkA L i) seqB&&nb==4)->Tot (fun k=>g41b k (rwT L) i c d e f g ka) r:=fun b r h hb=>by
  subst hb;refine Goes.of2 (step:=qvq) (s:=.e (rwT L) i c d e f g ka) a1 h fun k b b2=>?_;simp only[seqB]at b b2;simp only[nt,qvq,b,ae,tup4,n4];cases hw:isW (tkA L i) (strB [83,69,81])with
  |true=>rw[hw]at b2;exact b2
  |false=>rw[hw]at b2;exact b2
 unfold qu6 at h;cases hb:(isW (tkA L i) seqB&&nb==4)with
 |true=>rw[hb]at h;cases h;refine⟨.inl ((tkA L i).pos,2,rwT L,(i:Int),c,d),e0 true _ (.of1 a3 fun k b=>?_) hb.symm,_,rfl⟩;simp only[nt,qvq,ah,b,ae,tup5]
 |false=>
  rw[hb]at h;simp only[af]at h;cases h1:qu8 L seqB i with
  |inl er=>obtain⟨p,er⟩:=er;rw[h1]at h a2;cases h;refine⟨.inl (p,er,rwT L,(i:Int),c,d),e0 false _ (.of1 a2 fun k b=>?_) hb.symm,_,rfl⟩;simp only[seqB]at b;simp only[nt,qvq,af,b,N41,ae,altC,tup6]
  |inr m=>
   rw[h1]at h a2;have hm:=qvk h1;have a4:=qwh hE hL c d e f g ka (strB [40]) (i:=m) (by omega);simp only at h;cases h2:qu8 L (strB [40]) m with
   |inl er=>obtain⟨p,er⟩:=er;rw[h2]at h a4;cases h;refine⟨.inl (p,er,rwT L,(m:Int),c,d),e0 false _ (.of2 a2 a4 fun k b b2=>?_) hb.symm,_,rfl⟩;simp only[seqB]at b;simp only[nt,qvq,af,b,N41,ae,altC,tup4,b2,tup6]
   |inr j=>rw[h2]at h a4;have hj:=qvk h2;obtain⟨r,h3,h4⟩:=qzq hE hL c d e f g ka (by omega) 9 [] j out h rfl (by omega);refine⟨r,e0 false _ (.of3 a2 a4 h3 fun k b b2 b3=>?_) hb.symm,h4⟩;simp only[seqB]at b;simp only[nt,qvq,af,b,N41,ae,altC,tup4,b2];exact b3
end
end Ab
end Go.Proofs.YtgfbbmjoflehlaaGreatDoor

/-
  The parser's small functions, and how far the plain parser goes.
-/
import Derived.Test.YtgfbbmjoflehlaaGreatDoorPaq
set_option linter.all false
namespace Go.Proofs.YtgfbbmjoflehlaaGreatDoor
namespace Ab
section
variable {S R α β γ δ:Type} {step:Nat->(S->Option R)->S->Option R} {s:S} {r:R}
theorem Goes.of1 {f}{a:α}(h:Tot f a)(e:∀ k,f k=some a->step k (itS step k) s=some r):Goes step s r:=by
 obtain⟨N,hN⟩:=h;refine⟨N+1,fun k hk=>?_⟩;obtain⟨j,rfl⟩:∃ j,k=j+1:=⟨k-1,by omega⟩
 exact e j (hN j (by omega))
theorem Tot.and {f}{a:α}{g}{b:β}(h:Tot f a)(h2:Tot g b):Tot (fun k=>(f k).bind fun x=>(g k).map fun y=>(x,y)) (a,b):=by obtain⟨N,hN⟩:=h;obtain⟨M,hM⟩:=h2;exact⟨N+M,fun k hk=>by grind⟩
theorem Zb {o q}{a:α}{b:β}(h:(o.bind fun x=>q.map fun y=>(x,y))=some (a,b)):o=some a/\q=some b:=by
 cases o with
 |none=>cases h
 |some x=>simp_all
theorem Goes.of2 {f}{a:α}{g}{b:β}(h:Tot f a)(h2:Tot g b)(e:∀ k,f k=some a->g k=some b->step k (itS step k) s=some r):Goes step s r:=.of1 (h.and h2) fun k hk=>e k (Zb hk).1 (Zb hk).2
theorem Goes.of3 {f}{a:α}{g}{b:β}{p}{c:γ}(h:Tot f a)(h2:Tot g b)(h3:Tot p c)(e:∀ k,f k=some a->g k=some b->p k=some c->step k (itS step k) s=some r):Goes step s r:=.of2 h (h2.and h3) fun k hk hk2=>e k hk (Zb hk2).1 (Zb hk2).2
theorem Goes.of4 {f}{a:α}{g}{b:β}{p}{c:γ}{q}{d:δ}(h:Tot f a)(h2:Tot g b)(h3:Tot p c)(h4:Tot q d)(e:∀ k,f k=some a->g k=some b->p k=some c->q k=some d->step k (itS step k) s=some r):Goes step s r:=.of3 h h2 (h3.and h4) fun k hk hk1 hk2=>e k hk hk1 (Zb hk2).1 (Zb hk2).2
end
theorem qhr (L):(rwT L).length=L.length:=by simp[rwT]
theorem qfK {L i}(h:i<L.length):(rwT L)[i]? = some (tkR (tkA L i)):=by
 unfold rwT tkA
 grind
theorem qhV {L i}(h:¬ i<L.length):tkA L i=tk0:=by unfold tkA;grind
theorem qjp {α}(t)(k:Int->ByteArray->Int->Int->Int->Option α):qaM (tkR t) k=k t.kind t.text t.n t.scale t.pos:=rfl
def Lm (L:List Tok):Nat:=if (tkA L (L.length-1)).kind=0 then L.length-1 else L.length
theorem qnp (L):Lm L<=L.length:=by unfold Lm;split<;>omega
theorem ZU {L i}(h:(tkA L i).kind≠0):i<Lm L:=by
 have h1:i<L.length:=by
  by_cases hi:i<L.length
  . exact hi
  . rw[qhV hi]at h;exact absurd rfl h
 unfold Lm
 grind
theorem Zv {L i s}(h:isW (tkA L i) s=true):i<Lm L:=ZU fun e=>by unfold isW at h;grind
theorem qg8 {L i l f}(h:sgO l f (tkA L i)≠0):i<Lm L:=ZU fun e=>by unfold sgO at h;grind
theorem qfb {L i l}(h:(opA l (tkA L i)==0)=false):i<Lm L:=by
 unfold opA at h;split at h
 .
  cases hw:isW (tkA L i) (strB [79,82])with
  |true=>exact Zv hw
  |false=>grind
 .
  cases hw:isW (tkA L i) (strB [65,78,68])with
  |true=>exact Zv hw
  |false=>grind
 . exact qg8 (by simpa using h)
 . exact qg8 (by simpa using h)
 . exact qg8 (by simpa using h)
 grind
theorem qod {L i a}(h:nmF L i=.inr a):i<Lm L:=ZU fun e=>by unfold nmF at h;grind
theorem qoi {L i a b}(h:atF L i=.inr (a,b)):i+2<Lm L:=by
 unfold atF at h;split at h
 . cases h
 .
  cases h1:isW (tkA L (i+1)) (strB [46])with
  |false=>grind
  |true=>
   rw[h1]at h;cases h2:isW (tkA L (i+2)) (strB [84,73,77,69])with
   |true=>exact Zv h2
   |false=>
    rw[h2]at h;simp only[aj,af]at h;split at h
    . cases h
    . rename_i hb;exact qod hb
theorem yx {o f x j}(h:bnd o f=some (.ok x j)):∃ y k,o=some (.ok y k)/\f y k=some (.ok x j):=by
 unfold bnd at h
 grind
theorem Xv {t o k x j}(h:nst t o k=some (.ok x j)):(o==30)=false/\k=some (.ok x j):=by
 unfold nst at h
 grind
theorem qfy {L f y x k j}(h:clo L f y k=some (.ok x j)):isW (tkA L k) (strB [41])=true/\x=f y/\j=k+1:=by
 unfold clo at h
 grind
theorem qmt {L i q x j}(h:agF L i q=.ok x j):i<j/\j<=Lm L:=by
 unfold agF at h;simp only at h;cases h1:isW (tkA L (i+1)) (strB [40])with
 |false=>grind
 |true=>
  rw[h1]at h;simp only[aj,af]at h;cases hq:q==0 with
  |true=>
   rw[hq]at h;simp only[ah]at h;split at h
   . cases h
   . cases h3:isW (tkA L (i+3)) (strB [41])with
     |false=>grind
     |true=>rw[h3]at h;have:=Zv h3;grind
  |false=>
   rw[hq]at h;simp only[af]at h;split at h
   . cases h
   . cases h3:isW (tkA L (i+5)) (strB [41])with
     |false=>grind
     |true=>rw[h3]at h;have:=Zv h3;grind
theorem pp0 (L)(n i o):pp L (n+1) (.p 0 i o)=bnd (pp L n (.p 1 i o)) fun x j=>pp L n (.lp 0 x j o):=rfl
theorem pp1 (L)(n i o):pp L (n+1) (.p 1 i o)=bnd (pp L n (.p 2 i o)) fun x j=>pp L n (.lp 1 x j o):=rfl
theorem pp4 (L)(n i o):pp L (n+1) (.p 4 i o)=bnd (pp L n (.p 5 i o)) fun x j=>pp L n (.lp 4 x j o):=rfl
theorem pp5 (L)(n i o):pp L (n+1) (.p 5 i o)=bnd (pp L n (.p 6 i o)) fun x j=>pp L n (.lp 5 x j o):=rfl
theorem pp2 (L)(n i o):pp L (n+1) (.p 2 i o)=unF (tkA L i) (pp L n) 2 (strB [78,79,84]) 15 i o:=rfl
theorem pp6 (L)(n i o):pp L (n+1) (.p 6 i o)=unF (tkA L i) (pp L n) 6 (strB [45]) 6 i o:=rfl
theorem pp7 (L)(n i o):pp L (n+1) (.p 7 i o)=Qm L (pp L n) i o:=rfl
theorem pp3 (L)(n i o):pp L (n+1) (.p 3 i o)=bnd (pp L n (.p 4 i o)) fun x j=>bif opA 3 (tkA L j)!=0 then bnd (pp L n (.p 4 (j+1) o)) fun y k=>some (.ok (two (opA 3 (tkA L j)) x y (tkA L j).pos) k)else some (.ok x j):=rfl
theorem ppl (L n l j o)(x):pp L (n+1) (.lp l x j o)=bif opA l (tkA L j)==0 then some (.ok x j)else bnd (pp L n (.p (l+1) (j+1) o)) fun y k=>pp L n (.lp l (two (opA l (tkA L j)) x y (tkA L j).pos) k o):=rfl
theorem ZV {o f out}(h:bnd o f=some out):(∃ p e,o=some (.err p e)/\out=.err p e)\/∃ x i,o=some (.ok x i)/\f x i=some out:=by
 unfold bnd at h
 grind
theorem qhA {L i q x j}(h:agF L i q=.ok x j):x.args=[]:=by
 unfold agF at h;simp only at h;cases h1:isW (tkA L (i+1)) (strB [40])with
 |false=>grind
 |true=>
  rw[h1]at h;simp only[aj,af]at h;cases hq:q==0 with
  |true=>
   rw[hq]at h;simp only[ah]at h;split at h
   . cases h
   . cases h3:isW (tkA L (i+3)) (strB [41])with
     |false=>grind
     |true=>rw[h3]at h;cases h;rfl
  |false=>
   rw[hq]at h;simp only[af]at h;split at h
   . cases h
   . cases h3:isW (tkA L (i+5)) (strB [41])with
     |false=>grind
     |true=>rw[h3]at h;cases h;rfl
theorem xU {L i}:(∀ x j,vD L i=.con (.ok x j)->cnt x=1/\i<j/\j<=Lm L)/\∀ d f,vD L i=.brk d f->(1<=d/\i+d<=Lm L)/\∀ x,cnt (f x)<=cnt x+1:=by
 unfold vD;simp only;cases h3:(tkA L i).kind==3 with
 |true=>exact⟨fun x j h=>by have:=ZU (L:=L) (i:=i) (fun e=>by grind);cases h;exact⟨rfl,by omega,by omega⟩,fun d f h=>by cases h⟩
 |false=>
 cases h4:(tkA L i).kind==4 with
 |true=>exact⟨fun x j h=>by have:=ZU (L:=L) (i:=i) (fun e=>by grind);cases h;exact⟨rfl,by omega,by omega⟩,fun d f h=>by cases h⟩
 |false=>
 cases h5:(tkA L i).kind==5 with
 |true=>exact⟨fun x j h=>by have:=ZU (L:=L) (i:=i) (fun e=>by grind);cases h;exact⟨rfl,by omega,by omega⟩,fun d f h=>by cases h⟩
 |false=>
 cases h2:(tkA L i).kind==2 with
 |true=>
  simp only[ah,af];split
  . grind
  . rename_i a b hab;exact⟨fun x j h=>by have:=qoi hab;cases h;exact⟨rfl,by omega,by omega⟩,fun d f h=>by cases h⟩
 |false=>
 cases h6:(tkA L i).kind==6 with
 |true=>
  have hi:=ZU (L:=L) (i:=i) (fun e=>by grind)
  grind
 |false=>
 cases h1:(tkA L i).kind==1 with
 |false=>grind
 |true=>
  have hi:=ZU (L:=L) (i:=i) (fun e=>by grind);simp only[ah,af];cases (tkA L i).text.toList==(strB [84,82,85,69]).toList with
  |true=>exact⟨fun x j h=>by cases h;exact⟨rfl,by omega,by omega⟩,fun d f h=>by cases h⟩
  |false=>
  cases (tkA L i).text.toList==(strB [70,65,76,83,69]).toList with
  |true=>exact⟨fun x j h=>by cases h;exact⟨rfl,by omega,by omega⟩,fun d f h=>by cases h⟩
  |false=>
  cases (tkA L i).text.toList==(strB [82,69,65,76]).toList||(tkA L i).text.toList==(strB [73,83,78,65,78]).toList with
  |true=>
   simp only[ah,af];cases hw:isW (tkA L (i+1)) (strB [40])with
   |true=>exact⟨fun x j h=>(by cases h),fun d f h=>by have:=Zv hw;cases h;exact⟨by omega,fun x=>by simp[una,cnt,cnts]⟩⟩
   |false=>grind
  |false=>
   simp only[af];refine⟨fun x j h=>?_,fun d f h=>by cases h⟩;have h:=LK.con.inj h;unfold agO at h;split at h
   . cases h
   . exact⟨by have:=XN x;rw[qhA h]at this;simpa [cnts]using this.symm,qmt h⟩
theorem qeh (L):∀ n,(∀ l i o x j,l<=7->pp L n (.p l i o)=some (.ok x j)->i<j/\j<=Lm L)/\∀ l y i o x j,l<7->i<=Lm L->pp L n (.lp l y i o)=some (.ok x j)->i<=j/\j<=Lm L
 |0=>⟨fun _ _ _ _ _ _ h=>(by cases h),fun _ _ _ _ _ _ _ _ h=>by cases h⟩
 |n+1=>by
  obtain⟨ih,ihl⟩:=qeh L n;have un:∀ (t:Tok) l i o w op x j,l<7->(isW t w=true->i<Lm L)->unF t (pp L n) l w op i o=some (.ok x j)->i<j/\j<=Lm L:=by
   intro t l i o w op x j hl hw h;unfold unF at h;cases hb:isW t w with
   |false=>rw[hb]at h;exact ih _ _ _ _ _ (by omega) h
   |true=>
    rw[hb]at h;obtain⟨_,h⟩:=Xv h;obtain⟨y,k,h1,h2⟩:=yx h;have:=ih _ _ _ _ _ (by omega) h1
    grind
  have bin:∀ l i o x j,l<7->(bnd (pp L n (.p (l+1) i o)) fun x j=>pp L n (.lp l x j o))=some (.ok x j)->i<j/\j<=Lm L:=by
   intro l i o x j hl h;obtain⟨y,k,h1,h2⟩:=yx h;have a:=ih _ _ _ _ _ (by omega) h1
   grind
  refine⟨fun l i o x j hl h=>?_,fun l y i o x j hl hi h=>?_⟩
  .
   match l,hl with
   |0,_=>exact bin 0 i o x j (by omega) (by rw[<- pp0];exact h)
   |1,_=>exact bin 1 i o x j (by omega) (by rw[<- pp1];exact h)
   |4,_=>exact bin 4 i o x j (by omega) (by rw[<- pp4];exact h)
   |5,_=>exact bin 5 i o x j (by omega) (by rw[<- pp5];exact h)
   |2,_=>rw[pp2]at h;exact un _ _ _ _ _ _ _ _ (by omega) Zv h
   |6,_=>rw[pp6]at h;exact un _ _ _ _ _ _ _ _ (by omega) Zv h
   |3,_=>
    rw[pp3]at h;obtain⟨y,k,h1,h2⟩:=yx h;have a:=ih _ _ _ _ _ (by omega) h1;cases hb:opA 3 (tkA L k)!=0 with
    |false=>grind
    |true=>
     rw[hb]at h2;obtain⟨z,m,h3,h4⟩:=yx h2;have:=ih _ _ _ _ _ (by omega) h3
     grind
   |7,_=>
    rw[pp7]at h;unfold Qm at h;split at h
    . rename_i out hk;cases h;exact(xU.1 _ _ hk).2
    . obtain⟨_,h⟩:=Xv h;cases h
    . rename_i d f hk;have hd:=(xU.2 _ _ hk).1;obtain⟨_,h⟩:=Xv h;obtain⟨y,k,h1,h2⟩:=yx h;have a:=ih _ _ _ _ _ (by omega) h1;obtain⟨hw,_,rfl⟩:=qfy h2;have:=Zv hw;omega
  .
   rw[ppl]at h;cases hb:opA l (tkA L i)==0 with
   |true=>grind
   |false=>
    rw[hb]at h;obtain⟨z,m,h3,h4⟩:=yx h
    grind
theorem qiA (op x y)(p):cnt (two op x y p)=cnt x+cnt y+1:=by simp[two,cnt,cnts]
theorem qk8 (op x)(p):cnt (una op x p)=cnt x+1:=by simp[una,cnt,cnts]
theorem qjS (L):∀ n,(∀ l i o x j,l<=7->pp L n (.p l i o)=some (.ok x j)->cnt x+i<=j)/\∀ l y i o x j,l<7->pp L n (.lp l y i o)=some (.ok x j)->cnt x+i<=cnt y+j
 |0=>⟨fun _ _ _ _ _ _ h=>(by cases h),fun _ _ _ _ _ _ _ h=>by cases h⟩
 |n+1=>by
  obtain⟨ih,ihl⟩:=qjS L n;have un:∀ (t:Tok) l i o w op x j,l<7->unF t (pp L n) l w op i o=some (.ok x j)->cnt x+i<=j:=by
   intro t l i o w op x j hl h;unfold unF at h;cases hb:isW t w with
   |false=>rw[hb]at h;exact ih _ _ _ _ _ (by omega) h
   |true=>rw[hb]at h;obtain⟨_,h⟩:=Xv h;obtain⟨y,k,h1,h2⟩:=yx h;have:=ih _ _ _ _ _ (by omega) h1;cases h2;rw[qk8];omega
  have bin:∀ l i o x j,l<7->(bnd (pp L n (.p (l+1) i o)) fun x j=>pp L n (.lp l x j o))=some (.ok x j)->cnt x+i<=j:=by
   intro l i o x j hl h;obtain⟨y,k,h1,h2⟩:=yx h;have a:=ih _ _ _ _ _ (by omega) h1
   grind
  refine⟨fun l i o x j hl h=>?_,fun l y i o x j hl h=>?_⟩
  .
   match l,hl with
   |0,_=>exact bin 0 i o x j (by omega) (by rw[<- pp0];exact h)
   |1,_=>exact bin 1 i o x j (by omega) (by rw[<- pp1];exact h)
   |4,_=>exact bin 4 i o x j (by omega) (by rw[<- pp4];exact h)
   |5,_=>exact bin 5 i o x j (by omega) (by rw[<- pp5];exact h)
   |2,_=>rw[pp2]at h;exact un _ _ _ _ _ _ _ _ (by omega) h
   |6,_=>rw[pp6]at h;exact un _ _ _ _ _ _ _ _ (by omega) h
   |3,_=>
    rw[pp3]at h;obtain⟨y,k,h1,h2⟩:=yx h;have a:=ih _ _ _ _ _ (by omega) h1;cases hb:opA 3 (tkA L k)!=0 with
    |false=>grind
    |true=>rw[hb]at h2;obtain⟨z,m,h3,h4⟩:=yx h2;have:=ih _ _ _ _ _ (by omega) h3;cases h4;rw[qiA];omega
   |7,_=>
    rw[pp7]at h;unfold Qm at h;split at h
    . rename_i out hk;cases h;have:=xU.1 _ _ hk;omega
    . obtain⟨_,h⟩:=Xv h;cases h
    . rename_i d f hk;have hd:=xU.2 _ _ hk;obtain⟨_,h⟩:=Xv h;obtain⟨y,k,h1,h2⟩:=yx h;have a:=ih _ _ _ _ _ (by omega) h1;obtain⟨hw,rfl,rfl⟩:=qfy h2
      grind
  . rw[ppl]at h;cases hb:opA l (tkA L i)==0 with
    |true=>grind
    |false=>rw[hb]at h;obtain⟨z,m,h3,h4⟩:=yx h;have a:=ih _ _ _ _ _ (by omega) h3;have b:=ihl _ _ _ _ _ _ hl h4;rw[qiA]at b;omega
theorem qbL {o f}(h1:∃ out,o=some out)(h2:∀ x j,o=some (.ok x j)->∃ out,f x j=some out):∃ out,bnd o f=some out:=by
 obtain⟨out,rfl⟩:=h1;cases out with
 |err p e=>exact⟨_,rfl⟩
 |ok x j=>exact h2 x j rfl
theorem qhj {t o k}(h:∃ out,k=some out):∃ out,nst t o k=some out:=by
 unfold nst
 grind
theorem qmc (L f x)(j):∃ out,clo L f x j=some out:=by unfold clo;cases !isW (tkA L j) (strB [41])<;>exact⟨_,rfl⟩
theorem qh7 (L):∀ n,(∀ l i o,l<=7->i<=Lm L->16*(Lm L-i)+13-l<=n->∃ out,pp L n (.p l i o)=some out)/\∀ l y i o,l<7->i<=Lm L->16*(Lm L-i)+3<=n->∃ out,pp L n (.lp l y i o)=some out
 |0=>⟨fun l i o _ _ _=>by omega,fun l y i o _ _ _=>by omega⟩
 |n+1=>by
  obtain⟨ih,ihl⟩:=qh7 L n;have hin:=qeh L n;have un:∀ l i o w op,l<7->i<=Lm L->16*(Lm L-i)+13-l<=n+1->∃ out,unF (tkA L i) (pp L n) l w op i o=some out:=by
   intro l i o w op hl hi hn;unfold unF;cases hb:isW (tkA L i) w with
   |false=>exact ih _ _ _ (by omega) hi (by omega)
   |true=>have:=Zv hb;exact qhj (qbL (ih _ _ _ (by omega) (by omega) (by omega)) fun x j _=>⟨_,rfl⟩)
  have bin:∀ l i o,l<7->i<=Lm L->16*(Lm L-i)+13-l<=n+1->∃ out,(bnd (pp L n (.p (l+1) i o)) fun x j=>pp L n (.lp l x j o))=some out:=by intro l i o hl hi hn;refine qbL (ih _ _ _ (by omega) hi (by omega)) fun x j h=>?_;have:=hin.1 _ _ _ _ _ (by omega) h;exact ihl _ _ _ _ hl this.2 (by omega)
  refine⟨fun l i o hl hi hn=>?_,fun l y i o hl hi hn=>?_⟩
  .
   match l,hl with
   |0,_=>rw[pp0];simp_all
   |1,_=>rw[pp1];simp_all
   |4,_=>rw[pp4];simp_all
   |5,_=>rw[pp5];simp_all
   |2,_=>rw[pp2];simp_all
   |6,_=>rw[pp6];simp_all
   |3,_=>
    rw[pp3];refine qbL (ih _ _ _ (by omega) hi (by omega)) fun x j h=>?_;have a:=hin.1 _ _ _ _ _ (by omega) h;cases hb:opA 3 (tkA L j)!=0 with
    |false=>grind
    |true=>
     have hb':(opA 3 (tkA L j)==0)=false:=by grind
     have:=qfb hb';exact qbL (ih _ _ _ (by omega) (by omega) (by omega)) fun x j _=>⟨_,rfl⟩
   |7,_=>
    rw[pp7];unfold Qm;split
    . grind
    . exact qhj ⟨_,rfl⟩
    . rename_i d f hk;have hd:=(xU.2 _ _ hk).1;exact qhj (qbL (ih _ _ _ (by omega) (by omega) (by omega)) fun x j _=>qmc L f x j)
  . rw[ppl];cases hb:opA l (tkA L i)==0 with
    |true=>grind
    |false=>have:=qfb hb;refine qbL (ih _ _ _ (by omega) (by omega) (by omega)) fun x j h=>?_;have a:=hin.1 _ _ _ _ _ (by omega) h;exact ihl _ _ _ _ hl a.2 (by omega)
end Ab
end Go.Proofs.YtgfbbmjoflehlaaGreatDoor

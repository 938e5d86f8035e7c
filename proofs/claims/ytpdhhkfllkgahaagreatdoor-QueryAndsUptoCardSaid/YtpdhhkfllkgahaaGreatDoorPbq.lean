/-
  The parser's small functions, and how far the plain parser goes.
-/
import Derived.Test.YtpdhhkfllkgahaaGreatDoorPaq
set_option linter.all false
namespace Go.Proofs.YtpdhhkfllkgahaaGreatDoor
namespace Ab
section
variable {S R α β γ δ:Type} {step:Nat→(S→Option R)→S→Option R} {s:S} {r:R}
theorem Goes.of1 {f:Nat→Option α}{a:α}(h:Tot f a)(e:∀ k,f k=some a→step k (itS step k) s=some r):Goes step s r:=by
 obtain⟨N,hN⟩:=h;refine⟨N+1,fun k hk=>?_⟩;obtain⟨j,rfl⟩:∃ j,k=j+1:=⟨k-1,by omega⟩
 exact e j (hN j (by omega))
theorem Tot.and {f:Nat→Option α}{a:α}{g:Nat→Option β}{b:β}(h:Tot f a)(h2:Tot g b):Tot (fun k=>(f k).bind fun x=>(g k).map fun y=>(x,y)) (a,b):=by obtain⟨N,hN⟩:=h;obtain⟨M,hM⟩:=h2;exact⟨N+M,fun k hk=>by show(f k).bind _=_;rw[hN k (by omega),hM k (by omega)];rfl⟩
theorem Zb {o:Option α}{q:Option β}{a:α}{b:β}(h:(o.bind fun x=>q.map fun y=>(x,y))=some (a,b)):o=some a∧q=some b:=by
 cases o with
 |none=>cases h
 |some x=>cases q with
  |none=>cases h
  |some y=>cases h;exact⟨rfl,rfl⟩
theorem Goes.of2 {f:Nat→Option α}{a:α}{g:Nat→Option β}{b:β}(h:Tot f a)(h2:Tot g b)(e:∀ k,f k=some a→g k=some b→step k (itS step k) s=some r):Goes step s r:=.of1 (h.and h2) fun k hk=>e k (Zb hk).1 (Zb hk).2
theorem Goes.of3 {f:Nat→Option α}{a:α}{g:Nat→Option β}{b:β}{p:Nat→Option γ}{c:γ}(h:Tot f a)(h2:Tot g b)(h3:Tot p c)(e:∀ k,f k=some a→g k=some b→p k=some c→step k (itS step k) s=some r):Goes step s r:=.of2 h (h2.and h3) fun k hk hk2=>e k hk (Zb hk2).1 (Zb hk2).2
theorem Goes.of4 {f:Nat→Option α}{a:α}{g:Nat→Option β}{b:β}{p:Nat→Option γ}{c:γ}{q:Nat→Option δ}{d:δ}(h:Tot f a)(h2:Tot g b)(h3:Tot p c)(h4:Tot q d)(e:∀ k,f k=some a→g k=some b→p k=some c→q k=some d→step k (itS step k) s=some r):Goes step s r:=.of3 h h2 (h3.and h4) fun k hk hk1 hk2=>e k hk hk1 (Zb hk2).1 (Zb hk2).2
end
theorem qhr (L:List Tok):(rwT L).length=L.length:=by simp[rwT]
theorem qfK {L:List Tok}{i:Nat}(h:i<L.length):(rwT L)[i]? = some (tkR (tkA L i)):=by unfold rwT tkA;rw[aH,ax h];rfl
theorem qhV {L:List Tok}{i:Nat}(h:¬ i<L.length):tkA L i=tk0:=by unfold tkA;rw[List.getElem?_eq_none (by omega)];rfl
theorem qjp {α:Type}(t:Tok)(k:Int→ByteArray→Int→Int→Int→Option α):qaM (tkR t) k=k t.kind t.text t.n t.scale t.pos:=rfl
def Lm (L:List Tok):Nat:=if (tkA L (L.length-1)).kind=0 then L.length-1 else L.length
theorem qnp (L:List Tok):Lm L≤L.length:=by unfold Lm;split<;>omega
theorem ZU {L:List Tok}{i:Nat}(h:(tkA L i).kind≠0):i<Lm L:=by
 have h1:i<L.length:=by
  by_cases hi:i<L.length
  · exact hi
  · rw[qhV hi]at h;exact absurd rfl h
 unfold Lm;split
 ·
  rename_i h2;by_cases hi:i=L.length-1
  · rw[hi]at h;exact absurd h2 h
  · omega
 · exact h1
theorem Zv {L:List Tok}{i:Nat}{s:ByteArray}(h:isW (tkA L i) s=true):i<Lm L:=ZU fun e=>by unfold isW at h;rw[e]at h;cases h
theorem qg8 {L:List Tok}{i:Nat}{l:List ByteArray}{f:Int}(h:sgO l f (tkA L i)≠0):i<Lm L:=ZU fun e=>by unfold sgO at h;rw[e]at h;exact h rfl
theorem qfb {L:List Tok}{i l:Nat}(h:(opA l (tkA L i)==0)=false):i<Lm L:=by
 unfold opA at h;split at h
 ·
  cases hw:isW (tkA L i) (strB [79,82])with
  |true=>exact Zv hw
  |false=>rw[hw]at h;cases h
 ·
  cases hw:isW (tkA L i) (strB [65,78,68])with
  |true=>exact Zv hw
  |false=>rw[hw]at h;cases h
 · exact qg8 (by simpa using h)
 · exact qg8 (by simpa using h)
 · exact qg8 (by simpa using h)
 · cases h
theorem qod {L:List Tok}{i:Nat}{a:ByteArray}(h:nmF L i=.inr a):i<Lm L:=ZU fun e=>by unfold nmF at h;rw[e]at h;cases h
theorem qoi {L:List Tok}{i:Nat}{a b:ByteArray}(h:atF L i=.inr (a,b)):i+2<Lm L:=by
 unfold atF at h;split at h
 · cases h
 ·
  cases h1:isW (tkA L (i+1)) (strB [46])with
  |false=>rw[h1]at h;cases h
  |true=>
   rw[h1]at h;cases h2:isW (tkA L (i+2)) (strB [84,73,77,69])with
   |true=>exact Zv h2
   |false=>
    rw[h2]at h;simp only[aj,af]at h;split at h
    · cases h
    · rename_i hb;exact qod hb
theorem yx {o:Option PO}{f:Ex→Nat→Option PO}{x:Ex}{j:Nat}(h:bnd o f=some (.ok x j)):∃ y k,o=some (.ok y k)∧f y k=some (.ok x j):=by
 unfold bnd at h;split at h
 · cases h
 · cases h
 · exact⟨_,_,rfl,h⟩
theorem Xv {t:Tok}{o:Nat}{k:Option PO}{x:Ex}{j:Nat}(h:nst t o k=some (.ok x j)):(o==30)=false∧k=some (.ok x j):=by
 unfold nst at h;cases h1:o==30 with
 |true=>rw[h1]at h;cases h
 |false=>rw[h1]at h;exact⟨rfl,h⟩
theorem qfy {L:List Tok}{f:Ex→Ex}{y x:Ex}{k j:Nat}(h:clo L f y k=some (.ok x j)):isW (tkA L k) (strB [41])=true∧x=f y∧j=k+1:=by
 unfold clo at h;cases h1:isW (tkA L k) (strB [41])with
 |false=>rw[h1]at h;cases h
 |true=>rw[h1]at h;cases h;exact⟨rfl,rfl,rfl⟩
theorem qmt {L:List Tok}{i q:Nat}{x:Ex}{j:Nat}(h:agF L i q=.ok x j):i<j∧j≤Lm L:=by
 unfold agF at h;simp only at h;cases h1:isW (tkA L (i+1)) (strB [40])with
 |false=>rw[h1]at h;cases h
 |true=>
  rw[h1]at h;simp only[aj,af]at h;cases hq:q==0 with
  |true=>
   rw[hq]at h;simp only[ah]at h;split at h
   · cases h
   · cases h3:isW (tkA L (i+3)) (strB [41])with
     |false=>rw[h3]at h;cases h
     |true=>rw[h3]at h;have:=Zv h3;cases h;omega
  |false=>
   rw[hq]at h;simp only[af]at h;split at h
   · cases h
   · cases h3:isW (tkA L (i+5)) (strB [41])with
     |false=>rw[h3]at h;cases h
     |true=>rw[h3]at h;have:=Zv h3;cases h;omega
theorem pp0 (L:List Tok)(n i o:Nat):pp L (n+1) (.p 0 i o)=bnd (pp L n (.p 1 i o)) fun x j=>pp L n (.lp 0 x j o):=rfl
theorem pp1 (L:List Tok)(n i o:Nat):pp L (n+1) (.p 1 i o)=bnd (pp L n (.p 2 i o)) fun x j=>pp L n (.lp 1 x j o):=rfl
theorem pp4 (L:List Tok)(n i o:Nat):pp L (n+1) (.p 4 i o)=bnd (pp L n (.p 5 i o)) fun x j=>pp L n (.lp 4 x j o):=rfl
theorem pp5 (L:List Tok)(n i o:Nat):pp L (n+1) (.p 5 i o)=bnd (pp L n (.p 6 i o)) fun x j=>pp L n (.lp 5 x j o):=rfl
theorem pp2 (L:List Tok)(n i o:Nat):pp L (n+1) (.p 2 i o)=unF (tkA L i) (pp L n) 2 (strB [78,79,84]) 15 i o:=rfl
theorem pp6 (L:List Tok)(n i o:Nat):pp L (n+1) (.p 6 i o)=unF (tkA L i) (pp L n) 6 (strB [45]) 6 i o:=rfl
theorem pp7 (L:List Tok)(n i o:Nat):pp L (n+1) (.p 7 i o)=Qm L (pp L n) i o:=rfl
theorem pp3 (L:List Tok)(n i o:Nat):pp L (n+1) (.p 3 i o)=bnd (pp L n (.p 4 i o)) fun x j=>bif opA 3 (tkA L j)!=0 then bnd (pp L n (.p 4 (j+1) o)) fun y k=>some (.ok (two (opA 3 (tkA L j)) x y (tkA L j).pos) k)else some (.ok x j):=rfl
theorem ppl (L:List Tok)(n l j o:Nat)(x:Ex):pp L (n+1) (.lp l x j o)=bif opA l (tkA L j)==0 then some (.ok x j)else bnd (pp L n (.p (l+1) (j+1) o)) fun y k=>pp L n (.lp l (two (opA l (tkA L j)) x y (tkA L j).pos) k o):=rfl
theorem ZV {o:Option PO}{f:Ex→Nat→Option PO}{out:PO}(h:bnd o f=some out):(∃ p e,o=some (.err p e)∧out=.err p e)∨∃ x i,o=some (.ok x i)∧f x i=some out:=by
 unfold bnd at h;split at h
 · cases h
 · cases h;exact .inl ⟨_,_,rfl,rfl⟩
 · exact .inr ⟨_,_,rfl,h⟩
theorem qhA {L:List Tok}{i q:Nat}{x:Ex}{j:Nat}(h:agF L i q=.ok x j):x.args=[]:=by
 unfold agF at h;simp only at h;cases h1:isW (tkA L (i+1)) (strB [40])with
 |false=>rw[h1]at h;cases h
 |true=>
  rw[h1]at h;simp only[aj,af]at h;cases hq:q==0 with
  |true=>
   rw[hq]at h;simp only[ah]at h;split at h
   · cases h
   · cases h3:isW (tkA L (i+3)) (strB [41])with
     |false=>rw[h3]at h;cases h
     |true=>rw[h3]at h;cases h;rfl
  |false=>
   rw[hq]at h;simp only[af]at h;split at h
   · cases h
   · cases h3:isW (tkA L (i+5)) (strB [41])with
     |false=>rw[h3]at h;cases h
     |true=>rw[h3]at h;cases h;rfl
theorem xU {L:List Tok}{i:Nat}:(∀ x j,vD L i=.con (.ok x j)→cnt x=1∧i<j∧j≤Lm L)∧∀ d f,vD L i=.brk d f→(1≤d∧i+d≤Lm L)∧∀ x,cnt (f x)≤cnt x+1:=by
 unfold vD;simp only;cases h3:(tkA L i).kind==3 with
 |true=>exact⟨fun x j h=>by have:=ZU (L:=L) (i:=i) (fun e=>by rw[e]at h3;cases h3);cases h;exact⟨rfl,by omega,by omega⟩,fun d f h=>by cases h⟩
 |false=>
 cases h4:(tkA L i).kind==4 with
 |true=>exact⟨fun x j h=>by have:=ZU (L:=L) (i:=i) (fun e=>by rw[e]at h4;cases h4);cases h;exact⟨rfl,by omega,by omega⟩,fun d f h=>by cases h⟩
 |false=>
 cases h5:(tkA L i).kind==5 with
 |true=>exact⟨fun x j h=>by have:=ZU (L:=L) (i:=i) (fun e=>by rw[e]at h5;cases h5);cases h;exact⟨rfl,by omega,by omega⟩,fun d f h=>by cases h⟩
 |false=>
 cases h2:(tkA L i).kind==2 with
 |true=>
  simp only[ah,af];split
  · exact⟨fun x j h=>(by cases h),fun d f h=>by cases h⟩
  · rename_i a b hab;exact⟨fun x j h=>by have:=qoi hab;cases h;exact⟨rfl,by omega,by omega⟩,fun d f h=>by cases h⟩
 |false=>
 cases h6:(tkA L i).kind==6 with
 |true=>
  have hi:=ZU (L:=L) (i:=i) (fun e=>by rw[e]at h6;cases h6);simp only[ah,af];cases (tkA L i).text.toList==(strB [40]).toList with
  |true=>exact⟨fun x j h=>(by cases h),fun d f h=>by cases h;exact⟨by omega,fun x=>Nat.le_succ _⟩⟩
  |false=>exact⟨fun x j h=>(by cases h),fun d f h=>by cases h⟩
 |false=>
 cases h1:(tkA L i).kind==1 with
 |false=>exact⟨fun x j h=>(by cases h),fun d f h=>by cases h⟩
 |true=>
  have hi:=ZU (L:=L) (i:=i) (fun e=>by rw[e]at h1;cases h1);simp only[ah,af];cases (tkA L i).text.toList==(strB [84,82,85,69]).toList with
  |true=>exact⟨fun x j h=>by cases h;exact⟨rfl,by omega,by omega⟩,fun d f h=>by cases h⟩
  |false=>
  cases (tkA L i).text.toList==(strB [70,65,76,83,69]).toList with
  |true=>exact⟨fun x j h=>by cases h;exact⟨rfl,by omega,by omega⟩,fun d f h=>by cases h⟩
  |false=>
  cases (tkA L i).text.toList==(strB [82,69,65,76]).toList||(tkA L i).text.toList==(strB [73,83,78,65,78]).toList with
  |true=>
   simp only[ah,af];cases hw:isW (tkA L (i+1)) (strB [40])with
   |true=>exact⟨fun x j h=>(by cases h),fun d f h=>by have:=Zv hw;cases h;exact⟨by omega,fun x=>by simp[una,cnt,cnts]⟩⟩
   |false=>exact⟨fun x j h=>(by cases h),fun d f h=>by cases h⟩
  |false=>
   simp only[af];refine⟨fun x j h=>?_,fun d f h=>by cases h⟩;have h:=LK.con.inj h;unfold agO at h;split at h
   · cases h
   · exact⟨by have:=XN x;rw[qhA h]at this;simpa [cnts]using this.symm,qmt h⟩
theorem qeh (L:List Tok):∀ n,(∀ l i o x j,l≤7→pp L n (.p l i o)=some (.ok x j)→i<j∧j≤Lm L)∧∀ l y i o x j,l<7→i≤Lm L→pp L n (.lp l y i o)=some (.ok x j)→i≤j∧j≤Lm L
 |0=>⟨fun _ _ _ _ _ _ h=>(by cases h),fun _ _ _ _ _ _ _ _ h=>by cases h⟩
 |n+1=>by
  obtain⟨ih,ihl⟩:=qeh L n;have un:∀ (t:Tok) l i o w op x j,l<7→(isW t w=true→i<Lm L)→unF t (pp L n) l w op i o=some (.ok x j)→i<j∧j≤Lm L:=by
   intro t l i o w op x j hl hw h;unfold unF at h;cases hb:isW t w with
   |false=>rw[hb]at h;exact ih _ _ _ _ _ (by omega) h
   |true=>rw[hb]at h;obtain⟨_,h⟩:=Xv h;obtain⟨y,k,h1,h2⟩:=yx h;have:=ih _ _ _ _ _ (by omega) h1;cases h2;omega
  have bin:∀ l i o x j,l<7→(bnd (pp L n (.p (l+1) i o)) fun x j=>pp L n (.lp l x j o))=some (.ok x j)→i<j∧j≤Lm L:=by intro l i o x j hl h;obtain⟨y,k,h1,h2⟩:=yx h;have a:=ih _ _ _ _ _ (by omega) h1;have b:=ihl _ _ _ _ _ _ hl a.2 h2;omega
  refine⟨fun l i o x j hl h=>?_,fun l y i o x j hl hi h=>?_⟩
  ·
   match l,hl with
   |0,_=>exact bin 0 i o x j (by omega) (by rw[← pp0];exact h)
   |1,_=>exact bin 1 i o x j (by omega) (by rw[← pp1];exact h)
   |4,_=>exact bin 4 i o x j (by omega) (by rw[← pp4];exact h)
   |5,_=>exact bin 5 i o x j (by omega) (by rw[← pp5];exact h)
   |2,_=>rw[pp2]at h;exact un _ _ _ _ _ _ _ _ (by omega) Zv h
   |6,_=>rw[pp6]at h;exact un _ _ _ _ _ _ _ _ (by omega) Zv h
   |3,_=>
    rw[pp3]at h;obtain⟨y,k,h1,h2⟩:=yx h;have a:=ih _ _ _ _ _ (by omega) h1;cases hb:opA 3 (tkA L k)!=0 with
    |false=>rw[hb]at h2;cases h2;exact a
    |true=>rw[hb]at h2;obtain⟨z,m,h3,h4⟩:=yx h2;have:=ih _ _ _ _ _ (by omega) h3;cases h4;omega
   |7,_=>
    rw[pp7]at h;unfold Qm at h;split at h
    · rename_i out hk;cases h;exact(xU.1 _ _ hk).2
    · obtain⟨_,h⟩:=Xv h;cases h
    · rename_i d f hk;have hd:=(xU.2 _ _ hk).1;obtain⟨_,h⟩:=Xv h;obtain⟨y,k,h1,h2⟩:=yx h;have a:=ih _ _ _ _ _ (by omega) h1;obtain⟨hw,_,rfl⟩:=qfy h2;have:=Zv hw;omega
  · rw[ppl]at h;cases hb:opA l (tkA L i)==0 with
    |true=>rw[hb]at h;cases h;omega
    |false=>rw[hb]at h;obtain⟨z,m,h3,h4⟩:=yx h;have a:=ih _ _ _ _ _ (by omega) h3;have b:=ihl _ _ _ _ _ _ hl a.2 h4;omega
theorem qiA (op:Int)(x y:Ex)(p:Int):cnt (two op x y p)=cnt x+cnt y+1:=by simp[two,cnt,cnts]
theorem qk8 (op:Int)(x:Ex)(p:Int):cnt (una op x p)=cnt x+1:=by simp[una,cnt,cnts]
theorem qjS (L:List Tok):∀ n,(∀ l i o x j,l≤7→pp L n (.p l i o)=some (.ok x j)→cnt x+i≤j)∧∀ l y i o x j,l<7→pp L n (.lp l y i o)=some (.ok x j)→cnt x+i≤cnt y+j
 |0=>⟨fun _ _ _ _ _ _ h=>(by cases h),fun _ _ _ _ _ _ _ h=>by cases h⟩
 |n+1=>by
  obtain⟨ih,ihl⟩:=qjS L n;have un:∀ (t:Tok) l i o w op x j,l<7→unF t (pp L n) l w op i o=some (.ok x j)→cnt x+i≤j:=by
   intro t l i o w op x j hl h;unfold unF at h;cases hb:isW t w with
   |false=>rw[hb]at h;exact ih _ _ _ _ _ (by omega) h
   |true=>rw[hb]at h;obtain⟨_,h⟩:=Xv h;obtain⟨y,k,h1,h2⟩:=yx h;have:=ih _ _ _ _ _ (by omega) h1;cases h2;rw[qk8];omega
  have bin:∀ l i o x j,l<7→(bnd (pp L n (.p (l+1) i o)) fun x j=>pp L n (.lp l x j o))=some (.ok x j)→cnt x+i≤j:=by intro l i o x j hl h;obtain⟨y,k,h1,h2⟩:=yx h;have a:=ih _ _ _ _ _ (by omega) h1;have b:=ihl _ _ _ _ _ _ hl h2;omega
  refine⟨fun l i o x j hl h=>?_,fun l y i o x j hl h=>?_⟩
  ·
   match l,hl with
   |0,_=>exact bin 0 i o x j (by omega) (by rw[← pp0];exact h)
   |1,_=>exact bin 1 i o x j (by omega) (by rw[← pp1];exact h)
   |4,_=>exact bin 4 i o x j (by omega) (by rw[← pp4];exact h)
   |5,_=>exact bin 5 i o x j (by omega) (by rw[← pp5];exact h)
   |2,_=>rw[pp2]at h;exact un _ _ _ _ _ _ _ _ (by omega) h
   |6,_=>rw[pp6]at h;exact un _ _ _ _ _ _ _ _ (by omega) h
   |3,_=>
    rw[pp3]at h;obtain⟨y,k,h1,h2⟩:=yx h;have a:=ih _ _ _ _ _ (by omega) h1;cases hb:opA 3 (tkA L k)!=0 with
    |false=>rw[hb]at h2;cases h2;exact a
    |true=>rw[hb]at h2;obtain⟨z,m,h3,h4⟩:=yx h2;have:=ih _ _ _ _ _ (by omega) h3;cases h4;rw[qiA];omega
   |7,_=>
    rw[pp7]at h;unfold Qm at h;split at h
    · rename_i out hk;cases h;have:=xU.1 _ _ hk;omega
    · obtain⟨_,h⟩:=Xv h;cases h
    · rename_i d f hk;have hd:=xU.2 _ _ hk;obtain⟨_,h⟩:=Xv h;obtain⟨y,k,h1,h2⟩:=yx h;have a:=ih _ _ _ _ _ (by omega) h1;obtain⟨hw,rfl,rfl⟩:=qfy h2;have:=hd.1;have:=hd.2 y;omega
  · rw[ppl]at h;cases hb:opA l (tkA L i)==0 with
    |true=>rw[hb]at h;cases h;omega
    |false=>rw[hb]at h;obtain⟨z,m,h3,h4⟩:=yx h;have a:=ih _ _ _ _ _ (by omega) h3;have b:=ihl _ _ _ _ _ _ hl h4;rw[qiA]at b;omega
theorem zw {o o':Option PO}{f f':Ex→Nat→Option PO}(h1:∀ out,o=some out→o'=some out)(h2:∀ x j out,f x j=some out→f' x j=some out){out:PO}(h:bnd o f=some out):bnd o' f'=some out:=by
 rcases ZV h with⟨p,e,h3,rfl⟩|⟨x,i,h3,h4⟩
 · rw[h1 _ h3];rfl
 · rw[h1 _ h3];exact h2 _ _ _ h4
theorem qow {t:Tok}{o:Nat}{k k':Option PO}(h1:∀ out,k=some out→k'=some out){out:PO}(h:nst t o k=some out):nst t o k'=some out:=by
 unfold nst at h ⊢;cases hb:o==30 with
 |true=>rw[hb]at h;exact h
 |false=>rw[hb]at h;exact h1 _ h
theorem qoA (L:List Tok):∀ n s out,pp L n s=some out→pp L (n+1) s=some out
 |0,_,_,h=>by cases h
 |n+1,s,out,h=>by
  have ih:=qoA L n;have un:∀ (t:Tok) l i o w op,unF t (pp L n) l w op i o=some out→unF t (pp L (n+1)) l w op i o=some out:=by
   intro t l i o w op h;unfold unF at h ⊢;cases hb:isW t w with
   |false=>rw[hb]at h;exact ih _ _ h
   |true=>rw[hb]at h;exact qow (fun _ h=>zw (ih _) (fun _ _ _ h=>h) h) h
  match s,h with
  |.p 7 i o,h=>
   rw[pp7]at h ⊢;unfold Qm at h ⊢;split at h
   · rename_i hk;exact h
   · rename_i hk;exact h
   · rename_i hk;exact qow (fun _ h=>zw (ih _) (fun _ _ _ h=>h) h) h
  |.p 6 i o,h=>exact un _ _ _ _ _ _ h
  |.p 2 i o,h=>exact un _ _ _ _ _ _ h
  |.p 3 i o,h=>
   rw[pp3]at h ⊢;refine zw (ih _) (fun x j out h=>?_) h;cases hb:opA 3 (tkA L j)!=0 with
   |false=>rw[hb]at h;exact h
   |true=>rw[hb]at h;exact zw (ih _) (fun _ _ _ h=>h) h
  |.p 0 i o,h=>exact zw (f:=fun x j=>pp L n (.lp 0 x j o)) (f':=fun x j=>pp L (n+1) (.lp 0 x j o)) (ih _) (fun _ _ _ h=>ih _ _ h) h
  |.p 1 i o,h=>exact zw (f:=fun x j=>pp L n (.lp 1 x j o)) (f':=fun x j=>pp L (n+1) (.lp 1 x j o)) (ih _) (fun _ _ _ h=>ih _ _ h) h
  |.p 4 i o,h=>exact zw (f:=fun x j=>pp L n (.lp 4 x j o)) (f':=fun x j=>pp L (n+1) (.lp 4 x j o)) (ih _) (fun _ _ _ h=>ih _ _ h) h
  |.p 5 i o,h=>exact zw (f:=fun x j=>pp L n (.lp 5 x j o)) (f':=fun x j=>pp L (n+1) (.lp 5 x j o)) (ih _) (fun _ _ _ h=>ih _ _ h) h
  |.p (l+8) i o,h=>exact zw (f:=fun x j=>pp L n (.lp (l+8) x j o)) (f':=fun x j=>pp L (n+1) (.lp (l+8) x j o)) (ih _) (fun _ _ _ h=>ih _ _ h) h
  |.lp l x j o,h=>
   rw[ppl]at h ⊢;cases hb:opA l (tkA L j)==0 with
   |true=>rw[hb]at h;exact h
   |false=>rw[hb]at h;exact zw (ih _) (fun _ _ _ h=>ih _ _ h) h
theorem qor {L:List Tok}{n m:Nat}(hm:n≤m){s:St}{out:PO}(h:pp L n s=some out):pp L m s=some out:=by
 obtain⟨d,rfl⟩:∃ d,m=n+d:=⟨m-n,by omega⟩
 clear hm
 induction d with
 |zero=>exact h
 |succ d ih=>exact qoA L _ _ _ ih
end Ab
end Go.Proofs.YtpdhhkfllkgahaaGreatDoor

/-
  The query parser as a plain function of the tokens; its small functions, as they are printed, tell what the plain ones tell.
-/
import Derived.Test.YtgfbbmjoflehlaaGreatDoorTaq
import Derived.Test.YtgfbbmjoflehlaaGreatDoorPgq
set_option linter.all false
namespace Go.Proofs.YtgfbbmjoflehlaaGreatDoor
namespace Ab
abbrev Er:=Int×Int
def qu8 (L:List Tok)(s:By)(i:Nat):Er⊕Nat:=bif isW (tkA L i) s then .inr (i+1)else .inl ((tkA L i).pos,13)
def excB:By:=strB [33]
def plsB:By:=strB [43]
def comB:By:=strB [44]
def seqB:By:=strB [83,69,81]
def orB:By:=strB [124]
def whB:By:=strB [87,72,69,82,69]
def ptB:By:=strB [80,65,84,84,69,82,78]
def sgB:By:=strB [83,84,82,65,84,69,71,89]
def s1B:By:=strB [83,84,82,73,67,84]
def s2B:By:=strB [78,69,88,84]
def s3B:By:=strB [65,78,89]
def wiB:By:=strB [87,73,84,72,73,78]
def paB:By:=strB [80,65,82,84,73,84,73,79,78]
def byB:By:=strB [66,89]
def qw4 (L:List Tok)(fm:Int)(ty:By)(p:Int)(i:Nat):Er⊕(It×Nat):=match nmF L i with
 |.inl e=>.inl (e,13)
 |.inr nm=>.inr (⟨fm,ty,nm,p⟩,i+1)
def qwa (L:List Tok)(neg:Bool)(p:Int)(i:Nat):Er⊕(It×Nat):=match nmF L i with
 |.inl e=>.inl (e,13)
 |.inr ty=>bif neg then qw4 L 3 ty p (i+1)else bif isW (tkA L (i+1)) plsB then qw4 L 2 ty p (i+2)else qw4 L 1 ty p (i+1)
def qv9 (L:List Tok)(n i:Nat):Er⊕(It×Nat):=
 bif n==8&&(isW (tkA L i) excB||(tkA L i).kind==2)then .inl ((tkA L i).pos,2)
 else bif isW (tkA L i) excB then qwa L true (tkA L i).pos (i+1)else qwa L false (tkA L i).pos i
def qvD (L:List Tok):Nat->List It->Nat->Option (Er⊕(List It×Nat))
 |0,_,_=>none
 |f+1,acc,i=>match qv9 L acc.length i with
  |.inl e=>some (.inl e)
  |.inr (x,j)=>bif isW (tkA L j) comB then qvD L f (acc++[x]) (j+1)else match qu8 L (strB [41]) j with
   |.inl e=>some (.inl e)
   |.inr j=>some (.inr (acc++[x],j))
def qu6 (L:List Tok)(nb i:Nat):Option (Er⊕(List It×Nat)):=
 bif isW (tkA L i) seqB&&nb==4 then some (.inl ((tkA L i).pos,2))
 else match qu8 L seqB i with
  |.inl e=>some (.inl e)
  |.inr j=>match qu8 L (strB [40]) j with
   |.inl e=>some (.inl e)
   |.inr j=>qvD L 9 [] j
def qu4 (L:List Tok):Nat->List (List It)->Nat->Option (Er⊕(List (List It)×Nat))
 |0,_,_=>none
 | f+1,acc,i=>bif isW (tkA L i) orB then(match qu6 L acc.length (i+1)with
   |none=>none
   |some (.inl e)=>some (.inl e)
   |some (.inr (b,j))=>qu4 L f (acc++[b]) j)else some (.inr (acc,i))
mutual
def qvv:Ex->List Ex
 |.mk op args n s a b p=>if op=13 then(match flats args with
  |[x,y]=>x++y
  |_=>[])else [.mk op args n s a b p]
def flats:List Ex->List (List Ex)
 |[]=>[]
 |x::l=>qvv x::flats l
end
theorem qwl (x y)(p):qvv (two 13 x y p)=qvv x++qvv y:=by simp[two,qvv,flats]
theorem qvM {x}(h:x.op≠13):qvv x=[x]:=by cases x;rw[qvv];exact aF h
def qvn (L:List Tok)(n i:Nat):Option (Er⊕(List Ex×Nat)):=bif isW (tkA L i) whB then(match pp L n (.p 0 (i+1) 0)with
  |none=>none
  |some (.err p e)=>some (.inl (p,e))
  |some (.ok x j)=>some (.inr (qvv x,j)))else some (.inr ([],i))
structure Tl where
 st:Int
 wd:Int
 key:By
 ka:Int
def qy3 (L:List Tok)(st wd:Int)(i:Nat):Er⊕(Tl×Nat):=bif isW (tkA L i) paB then(match qu8 L byB (i+1)with
  |.inl e=>.inl e
  |.inr j=>match nmF L j with
   |.inl p=>.inl (p,13)
   |.inr a=>.inr (⟨st,wd,a,(tkA L j).pos⟩,j+1))else .inr (⟨st,wd,strB [],0⟩,i)
def tailW (L:List Tok)(st:Int)(i:Nat):Er⊕(Tl×Nat):=match qu8 L wiB i with
 |.inl e=>.inl e
 |.inr j=>bif (tkA L j).kind != 3 then .inl ((tkA L j).pos,13)else bif decide ((tkA L j).n>1152921504606846976)then .inl ((tkA L j).pos,1)else qy3 L st (tkA L j).n (j+1)
def qwG (L:List Tok)(i:Nat):Er⊕(Tl×Nat):=match qu8 L sgB i with
 |.inl e=>.inl e
 |.inr j=>bif isW (tkA L j) s1B then tailW L 1 (j+1)else bif isW (tkA L j) s2B then tailW L 2 (j+1)else bif isW (tkA L j) s3B then tailW L 3 (j+1)else .inl ((tkA L j).pos,13)
def qw6 (L:List Tok)(br:List (List It))(wh:List Ex)(i:Nat):Er⊕Qu:=match qwG L i with
 |.inl e=>.inl e
 |.inr (t,j)=>bif (tkA L j).kind != 0 then .inl ((tkA L j).pos,13)else .inr ⟨br,wh,t.st,t.wd,t.key,t.ka⟩
def qvE (L:List Tok)(n:Nat):Option (Er⊕Qu):=match qu8 L ptB 0 with
 |.inl e=>some (.inl e)
 |.inr j=>match qu6 L 0 j with
  |none=>none
  |some (.inl e)=>some (.inl e)
  |some (.inr (b,j))=>match qu4 L 4 [b] j with
   |none=>none
   |some (.inl e)=>some (.inl e)
   |some (.inr (br,j))=>match qvn L n j with
    |none=>none
    |some (.inl e)=>some (.inl e)
    |some (.inr (wh,j))=>some (qw6 L br wh j)
def q0:Qu:=⟨[],[],0,0,strB [],0⟩
def outQ:Er⊕Qu->Qu×Int×Int
 |.inl (p,e)=>(q0,p,e)
 |.inr q=>if qvh q<=200 then(q,0,0)else(q0,0,2)
def parQ (s:By)(n:Nat):Option (Qu×Int×Int):=if s.size<=4000 then(match yn s (s.size+1) 0 with
 |.inr z=>some (q0,(z:Int),12)
 |.inl L=>(qvE L n).map outQ)else some (q0,0,2)
theorem qvk {L s i j}(h:qu8 L s i=.inr j):isW (tkA L i) s=true/\j=i+1/\j<=Lm L:=by
 unfold qu8 at h;cases hb:isW (tkA L i) s with
 |false=>grind
 |true=>
  rw[hb]at h;cases h;have:=Zv hb
  grind
theorem qxt {L fm ty p i j x}(h:qw4 L fm ty p i=.inr (x,j)):∃ nm,nmF L i=.inr nm/\x=⟨fm,ty,nm,p⟩/\j=i+1/\j<=Lm L:=by
 unfold qw4 at h;cases hn:nmF L i with
 |inl e=>grind
 |inr nm=>
  rw[hn]at h;cases h;have:=qod hn
  grind
theorem qyy {L neg p i j x}(h:qwa L neg p i=.inr (x,j)):∃ ty nm k,nmF L i=.inr ty/\nmF L k=.inr nm/\j=k+1/\j<=Lm L/\i<k /\
  (neg=true/\k=i+1/\x=⟨3,ty,nm,p⟩\/neg=false/\isW (tkA L (i+1)) plsB=true/\k=i+2/\x=⟨2,ty,nm,p⟩\/neg=false/\isW (tkA L (i+1)) plsB=false/\k=i+1/\x=⟨1,ty,nm,p⟩):=by
 unfold qwa at h;cases hn:nmF L i with
 |inl e=>grind
 |inr ty=>
  rw[hn]at h;simp only at h;cases neg with
  |true=>
   obtain⟨nm,h1,h2,h3,h4⟩:=qxt h
   grind
  |false=>
   simp only[af]at h;cases hp:isW (tkA L (i+1)) plsB with
   |true=>
    rw[hp]at h;obtain⟨nm,h1,h2,h3,h4⟩:=qxt h
    grind
   |false=>
    rw[hp]at h;obtain⟨nm,h1,h2,h3,h4⟩:=qxt h
    grind
theorem qyx {L n i j x}(h:qv9 L n i=.inr (x,j)):n≠8/\(isW (tkA L i) excB=true/\qwa L true (tkA L i).pos (i+1)=.inr (x,j)\/isW (tkA L i) excB=false/\qwa L false (tkA L i).pos i=.inr (x,j)):=by
 unfold qv9 at h;cases hb:(n==8&&(isW (tkA L i) excB||(tkA L i).kind==2))with
 |true=>grind
 |false=>
  rw[hb]at h;simp only[af]at h;cases he:isW (tkA L i) excB with
  |true=>grind
  |false=>
   rw[he]at h hb;refine⟨?_,.inr ⟨rfl,h⟩⟩
   rintro rfl
   simp only[af]at h;obtain⟨ty,nm,k,h1,_⟩:=qyy h;unfold nmF at h1
   grind
theorem qxu {L n i j x}(h:qv9 L n i=.inr (x,j)):i<j/\j<=Lm L:=by rcases(qyx h).2 with⟨_,h⟩|⟨_,h⟩<;>obtain⟨_,_,k,_,_,h3,h4,h5,_⟩:=qyy h<;>omega
theorem qyA {L}:∀ (f:Nat) (acc:List It) (i:Nat) (l:List It) (j:Nat),qvD L f acc i=some (.inr (l,j))->i<j/\j<=Lm L
 |0,_,_,_,_,h=>by cases h
 |f+1,acc,i,l,j,h=>by
  unfold qvD at h;cases hi:qv9 L acc.length i with
  |inl e=>grind
  |inr r=>
   obtain⟨x,k⟩:=r;rw[hi]at h;have:=qxu hi;simp only at h;cases hc:isW (tkA L k) comB with
   |true=>rw[hc]at h;have:=qyA f _ _ _ _ h;omega
   |false=>
    rw[hc]at h;simp only[af]at h;cases hn:qu8 L (strB [41]) k with
    |inl e=>grind
    |inr m=>rw[hn]at h;cases h;have:=qvk hn;omega
theorem qvI {L nb i j l}(h:qu6 L nb i=some (.inr (l,j))):i<j/\j<=Lm L:=by
 unfold qu6 at h;cases hb:(isW (tkA L i) seqB&&nb==4)with
 |true=>grind
 |false=>
  rw[hb]at h;simp only[af]at h;cases h1:qu8 L seqB i with
  |inl e=>grind
  |inr m=>
   rw[h1]at h;simp only at h;cases h2:qu8 L (strB [40]) m with
   |inl e=>grind
   |inr k=>rw[h2]at h;have:=qvk h1;have:=qvk h2;have:=qyA _ _ _ _ _ h;omega
theorem qwZ {L}:∀ (f:Nat) (acc:List (List It)) (i:Nat) (l:List (List It)) (j:Nat),i<=Lm L->qu4 L f acc i=some (.inr (l,j))->i<=j/\j<=Lm L
 |0,_,_,_,_,_,h=>by cases h
 |f+1,acc,i,l,j,hi,h=>by
  unfold qu4 at h;cases ho:isW (tkA L i) orB with
  |false=>grind
  |true=>
   rw[ho]at h;simp only[ah]at h;cases hb:qu6 L acc.length (i+1)with
   |none=>grind
   |some r=>
    rw[hb]at h
    match r,h with
    |.inr (b,k),h=>have:=qvI hb;have:=qwZ f _ _ _ _ (by omega) h;omega
theorem qAR {L n i j l}(hi:i<=Lm L)(h:qvn L n i=some (.inr (l,j))):i<=j/\j<=Lm L:=by
 unfold qvn at h;cases ho:isW (tkA L i) whB with
 |false=>grind
 |true=>
  rw[ho]at h;simp only[ah]at h;cases hp:pp L n (.p 0 (i+1) 0)with
  |none=>grind
  |some r=>
   rw[hp]at h
   match r,h with
   |.ok x k,h=>cases h;have:=(qeh L n).1 0 (i+1) 0 x j (by omega) hp;omega
theorem qAP {L st wd i j t}(hi:i<=Lm L)(h:qy3 L st wd i=.inr (t,j)):j<=Lm L:=by
 unfold qy3 at h;cases ho:isW (tkA L i) paB with
 |false=>grind
 |true=>
  rw[ho]at h;simp only[ah]at h;cases h1:qu8 L byB (i+1)with
  |inl e=>grind
  |inr k=>
   rw[h1]at h;simp only at h;cases h2:nmF L k with
   |inl e=>grind
   |inr a=>rw[h2]at h;cases h;have:=qod h2;omega
theorem qxM {L st i j t}(h:tailW L st i=.inr (t,j)):j<=Lm L:=by
 unfold tailW at h;cases h1:qu8 L wiB i with
 |inl e=>grind
 |inr k=>
  rw[h1]at h;simp only at h;cases h2:((tkA L k).kind != 3)with
  |true=>grind
  |false=>
   rw[h2]at h;simp only[af]at h;cases h3:decide ((tkA L k).n>1152921504606846976)with
   |true=>grind
   |false=>
    rw[h3]at h;have hk:(tkA L k).kind=3:=by grind
    have:=ZU (L:=L) (i:=k) (by omega);exact qAP (by omega) h
theorem qAg {L i j t}(h:qwG L i=.inr (t,j)):j<=Lm L:=by
 unfold qwG at h;cases h1:qu8 L sgB i with
 |inl e=>grind
 |inr k=>
  rw[h1]at h;simp only at h;cases h2:isW (tkA L k) s1B with
  |true=>rw[h2]at h;exact qxM h
  |false=>
   rw[h2]at h;simp only[af]at h;cases h3:isW (tkA L k) s2B with
   |true=>rw[h3]at h;exact qxM h
   |false=>
    rw[h3]at h;simp only[af]at h;cases h4:isW (tkA L k) s3B with
    |true=>rw[h4]at h;exact qxM h
    |false=>grind
theorem qyz (L):∀ (f:Nat) (acc:List It) (i:Nat),acc.length+f=9->0<f->∃ out,qvD L f acc i=some out
 |0,_,_,_,h=>by omega
 |f+1,acc,i,h,_=>by
  unfold qvD;cases hi:qv9 L acc.length i with
  |inl e=>grind
  |inr r=>
   obtain⟨x,k⟩:=r;simp only;have h8:=(qyx hi).1;cases hc:isW (tkA L k) comB with
   |true=>exact qyz L f (acc++[x]) (k+1) (by grind) (by omega)
   |false=>simp only[af];cases hn:qu8 L (strB [41]) k<;>exact⟨_,rfl⟩
theorem qxO (L)(nb i):∃ out,qu6 L nb i=some out:=by
 unfold qu6;cases hb:(isW (tkA L i) seqB&&nb==4)with
 |true=>grind
 |false=>
  simp only[af];cases h1:qu8 L seqB i with
  |inl e=>grind
  |inr m=>
   simp only;cases h2:qu8 L (strB [40]) m with
   |inl e=>grind
   |inr k=>exact qyz L 9 [] k rfl (by omega)
theorem qyR {L i j l}(h:qu6 L 4 i=some (.inr (l,j))):False:=by
 unfold qu6 at h;cases hb:isW (tkA L i) seqB with
 |true=>grind
 |false=>
  rw[hb]at h;unfold qu8 at h
  grind
theorem qwY (L):∀ (f:Nat) (acc:List (List It)) (i:Nat),acc.length+f=5->0<f->∃ out,qu4 L f acc i=some out
 |0,_,_,_,h=>by omega
 |f+1,acc,i,h,_=>by
  unfold qu4;cases ho:isW (tkA L i) orB with
  |false=>grind
  |true=>
   simp only[ah];obtain⟨r,hb⟩:=qxO L acc.length (i+1);rw[hb]
   match r with
   |.inl e=>grind
   |.inr (b,k)=>
    simp only;by_cases h4:acc.length=4
    . rw[h4]at hb;exact(qyR hb).elim
    . exact qwY L f (acc++[b]) k (by grind) (by omega)
theorem qwM {L}:∀ (f:Nat) (acc:List (List It)) (i:Nat) (l:List (List It)) (j:Nat),acc.length+f=5->qu4 L f acc i=some (.inr (l,j))->l.length<=4
 |0,_,_,_,_,_,h=>by cases h
 |f+1,acc,i,l,j,hf,h=>by
  unfold qu4 at h;cases ho:isW (tkA L i) orB with
  |false=>grind
  |true=>
   rw[ho]at h;simp only[ah]at h;cases hb:qu6 L acc.length (i+1)with
   |none=>grind
   |some r=>
    rw[hb]at h
    match r,h with
    |.inr (b,k),h=>exact qwM f (acc++[b]) k l j (by grind) h
theorem qAH {L}(hL:L.length<5000){n}(hn:16*5000+13<=n):∃ out,qvE L n=some out:=by
 unfold qvE;cases h1:qu8 L ptB 0 with
 |inl e=>grind
 |inr j=>
  simp only;obtain⟨r,hb⟩:=qxO L 0 j;rw[hb]
  match r with
  |.inl e=>grind
  |.inr (b,j)=>
   simp only;have hj:=qvI hb;obtain⟨r,hs⟩:=qwY L 4 [b] j rfl (by omega);rw[hs]
   match r with
   |.inl e=>grind
   |.inr (br,k)=>
    simp only;have hk:=qwZ _ _ _ _ _ hj.2 hs;unfold qvn;cases hw:isW (tkA L k) whB with
    |false=>grind
    |true=>simp only[ah];have:=Zv hw;have hLm:=qnp L;obtain⟨out,ho⟩:=(qh7 L n).1 0 (k+1) 0 (by omega) (by omega) (by omega);rw[ho];cases out<;>exact⟨_,rfl⟩
end Ab
end Go.Proofs.YtgfbbmjoflehlaaGreatDoor

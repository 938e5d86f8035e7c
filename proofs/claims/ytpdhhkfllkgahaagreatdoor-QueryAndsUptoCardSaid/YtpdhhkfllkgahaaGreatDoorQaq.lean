/-
  The query parser as a plain function of the tokens; its small functions, as they are printed, tell what the plain ones tell.
-/
import Derived.Test.YtpdhhkfllkgahaaGreatDoorTaq
import Derived.Test.YtpdhhkfllkgahaaGreatDoorPgq
set_option linter.all false
namespace Go.Proofs.YtpdhhkfllkgahaaGreatDoor
namespace Ab
abbrev Er:=Int×Int
def qzQ (L:List Tok)(s:By)(i:Nat):Er⊕Nat:=bif isW (tkA L i) s then .inr (i+1)else .inl ((tkA L i).pos,13)
def excB:By:=strB [33]
def plsB:By:=strB [43]
def comB:By:=strB [44]
def seqB:By:=strB [83,69,81]
def orB:By:=strB [124]
def whB:By:=strB [87,72,69,82,69]
def ptB:By:=strB [80,65,84,84,69,82,78]
def sgB:By:=strB [83,84,82,65,84,69,71,89]
def s1B:By:=strB [83,84,82,73,67,84]
def s2B:By:=strB [78,69,88,84]
def s3B:By:=strB [65,78,89]
def wiB:By:=strB [87,73,84,72,73,78]
def paB:By:=strB [80,65,82,84,73,84,73,79,78]
def byB:By:=strB [66,89]
def qAv (L:List Tok)(fm:Int)(ty:By)(p:Int)(i:Nat):Er⊕(It×Nat):=match nmF L i with
 |.inl e=>.inl (e,13)
 |.inr nm=>.inr (⟨fm,ty,nm,p⟩,i+1)
def qAf (L:List Tok)(neg:Bool)(p:Int)(i:Nat):Er⊕(It×Nat):=match nmF L i with
 |.inl e=>.inl (e,13)
 |.inr ty=>bif neg then qAv L 3 ty p (i+1)else bif isW (tkA L (i+1)) plsB then qAv L 2 ty p (i+2)else qAv L 1 ty p (i+1)
def qAe (L:List Tok)(n i:Nat):Er⊕(It×Nat):=
 bif n==8&&(isW (tkA L i) excB||(tkA L i).kind==2)then .inl ((tkA L i).pos,2)
 else bif isW (tkA L i) excB then qAf L true (tkA L i).pos (i+1)else qAf L false (tkA L i).pos i
def qz0 (L:List Tok):Nat→List It→Nat→Option (Er⊕(List It×Nat))
 |0,_,_=>none
 |f+1,acc,i=>match qAe L acc.length i with
  |.inl e=>some (.inl e)
  |.inr (x,j)=>bif isW (tkA L j) comB then qz0 L f (acc++[x]) (j+1)else match qzQ L (strB [41]) j with
   |.inl e=>some (.inl e)
   |.inr j=>some (.inr (acc++[x],j))
def qzP (L:List Tok)(nb i:Nat):Option (Er⊕(List It×Nat)):=
 bif isW (tkA L i) seqB&&nb==4 then some (.inl ((tkA L i).pos,2))
 else match qzQ L seqB i with
  |.inl e=>some (.inl e)
  |.inr j=>match qzQ L (strB [40]) j with
   |.inl e=>some (.inl e)
   |.inr j=>qz0 L 9 [] j
def qzN (L:List Tok):Nat→List (List It)→Nat→Option (Er⊕(List (List It)×Nat))
 |0,_,_=>none
 | f+1,acc,i=>bif isW (tkA L i) orB then(match qzP L acc.length (i+1)with
   |none=>none
   |some (.inl e)=>some (.inl e)
   |some (.inr (b,j))=>qzN L f (acc++[b]) j)else some (.inr (acc,i))
mutual
def qzU:Ex→List Ex
 |.mk op args n s a b p=>if op=13 then(match flats args with
  |[x,y]=>x++y
  |_=>[])else [.mk op args n s a b p]
def flats:List Ex→List (List Ex)
 |[]=>[]
 |x::l=>qzU x::flats l
end
theorem qz4 (x y:Ex)(p:Int):qzU (two 13 x y p)=qzU x++qzU y:=by simp[two,qzU,flats]
theorem qzR {x:Ex}(h:x.op≠13):qzU x=[x]:=by cases x;rw[qzU];exact aF h
def qzV (L:List Tok)(n i:Nat):Option (Er⊕(List Ex×Nat)):=bif isW (tkA L i) whB then(match pp L n (.p 0 (i+1) 0)with
  |none=>none
  |some (.err p e)=>some (.inl (p,e))
  |some (.ok x j)=>some (.inr (qzU x,j)))else some (.inr ([],i))
structure Tl where
 st:Int
 wd:Int
 key:By
 ka:Int
def qAG (L:List Tok)(st wd:Int)(i:Nat):Er⊕(Tl×Nat):=bif isW (tkA L i) paB then(match qzQ L byB (i+1)with
  |.inl e=>.inl e
  |.inr j=>match nmF L j with
   |.inl p=>.inl (p,13)
   |.inr a=>.inr (⟨st,wd,a,(tkA L j).pos⟩,j+1))else .inr (⟨st,wd,strB [],0⟩,i)
def tailW (L:List Tok)(st:Int)(i:Nat):Er⊕(Tl×Nat):=match qzQ L wiB i with
 |.inl e=>.inl e
 |.inr j=>bif (tkA L j).kind != 3 then .inl ((tkA L j).pos,13)else bif decide ((tkA L j).n>1152921504606846976)then .inl ((tkA L j).pos,1)else qAG L st (tkA L j).n (j+1)
def qAg (L:List Tok)(i:Nat):Er⊕(Tl×Nat):=match qzQ L sgB i with
 |.inl e=>.inl e
 |.inr j=>bif isW (tkA L j) s1B then tailW L 1 (j+1)else bif isW (tkA L j) s2B then tailW L 2 (j+1)else bif isW (tkA L j) s3B then tailW L 3 (j+1)else .inl ((tkA L j).pos,13)
def qAu (L:List Tok)(br:List (List It))(wh:List Ex)(i:Nat):Er⊕Qu:=match qAg L i with
 |.inl e=>.inl e
 |.inr (t,j)=>bif (tkA L j).kind != 0 then .inl ((tkA L j).pos,13)else .inr ⟨br,wh,t.st,t.wd,t.key,t.ka⟩
def qz1 (L:List Tok)(n:Nat):Option (Er⊕Qu):=match qzQ L ptB 0 with
 |.inl e=>some (.inl e)
 |.inr j=>match qzP L 0 j with
  |none=>none
  |some (.inl e)=>some (.inl e)
  |some (.inr (b,j))=>match qzN L 4 [b] j with
   |none=>none
   |some (.inl e)=>some (.inl e)
   |some (.inr (br,j))=>match qzV L n j with
    |none=>none
    |some (.inl e)=>some (.inl e)
    |some (.inr (wh,j))=>some (qAu L br wh j)
def q0:Qu:=⟨[],[],0,0,strB [],0⟩
def outQ:Er⊕Qu→Qu×Int×Int
 |.inl (p,e)=>(q0,p,e)
 |.inr q=>if qu2 q≤200 then(q,0,0)else(q0,0,2)
def parQ (s:By)(n:Nat):Option (Qu×Int×Int):=if s.size≤4000 then(match yn s (s.size+1) 0 with
 |.inr z=>some (q0,(z:Int),12)
 |.inl L=>(qz1 L n).map outQ)else some (q0,0,2)
theorem qz6 {L:List Tok}{s:By}{i j:Nat}(h:qzQ L s i=.inr j):isW (tkA L i) s=true∧j=i+1∧j≤Lm L:=by
 unfold qzQ at h;cases hb:isW (tkA L i) s with
 |false=>rw[hb]at h;cases h
 |true=>rw[hb]at h;cases h;have:=Zv hb;exact⟨rfl,rfl,by omega⟩
theorem qAR {L:List Tok}{fm:Int}{ty:By}{p:Int}{i j:Nat}{x:It}(h:qAv L fm ty p i=.inr (x,j)):∃ nm,nmF L i=.inr nm∧x=⟨fm,ty,nm,p⟩∧j=i+1∧j≤Lm L:=by
 unfold qAv at h;cases hn:nmF L i with
 |inl e=>rw[hn]at h;cases h
 |inr nm=>rw[hn]at h;cases h;have:=qod hn;exact⟨nm,rfl,rfl,rfl,by omega⟩
theorem qAS {L:List Tok}{neg:Bool}{p:Int}{i j:Nat}{x:It}(h:qAf L neg p i=.inr (x,j)):∃ ty nm k,nmF L i=.inr ty∧nmF L k=.inr nm∧j=k+1∧j≤Lm L∧i<k ∧
  (neg=true∧k=i+1∧x=⟨3,ty,nm,p⟩∨neg=false∧isW (tkA L (i+1)) plsB=true∧k=i+2∧x=⟨2,ty,nm,p⟩∨neg=false∧isW (tkA L (i+1)) plsB=false∧k=i+1∧x=⟨1,ty,nm,p⟩):=by
 unfold qAf at h;cases hn:nmF L i with
 |inl e=>rw[hn]at h;cases h
 |inr ty=>
  rw[hn]at h;simp only at h;cases neg with
  |true=>obtain⟨nm,h1,h2,h3,h4⟩:=qAR h;exact⟨ty,nm,_,rfl,h1,h3,h4,by omega,.inl ⟨rfl,rfl,h2⟩⟩
  |false=>
   simp only[af]at h;cases hp:isW (tkA L (i+1)) plsB with
   |true=>rw[hp]at h;obtain⟨nm,h1,h2,h3,h4⟩:=qAR h;exact⟨ty,nm,_,rfl,h1,h3,h4,by omega,.inr (.inl ⟨rfl,rfl,rfl,h2⟩)⟩
   |false=>rw[hp]at h;obtain⟨nm,h1,h2,h3,h4⟩:=qAR h;exact⟨ty,nm,_,rfl,h1,h3,h4,by omega,.inr (.inr ⟨rfl,rfl,rfl,h2⟩)⟩
theorem qAw {L:List Tok}{n i j:Nat}{x:It}(h:qAe L n i=.inr (x,j)):n≠8∧(isW (tkA L i) excB=true∧qAf L true (tkA L i).pos (i+1)=.inr (x,j)∨isW (tkA L i) excB=false∧qAf L false (tkA L i).pos i=.inr (x,j)):=by
 unfold qAe at h;cases hb:(n==8&&(isW (tkA L i) excB||(tkA L i).kind==2))with
 |true=>rw[hb]at h;cases h
 |false=>
  rw[hb]at h;simp only[af]at h;cases he:isW (tkA L i) excB with
  |true=>
   rw[he]at h hb;refine⟨?_,.inl ⟨rfl,h⟩⟩
   rintro rfl
   cases hb
  |false=>
   rw[he]at h hb;refine⟨?_,.inr ⟨rfl,h⟩⟩
   rintro rfl
   simp only[af]at h;obtain⟨ty,nm,k,h1,_⟩:=qAS h;unfold nmF at h1;have:((tkA L i).kind==2)=false:=by simpa using hb
   have:((tkA L i).kind != 2)=true:=by rw[bne,this];rfl
   rw[this]at h1;cases h1
theorem qBx {L:List Tok}{n i j:Nat}{x:It}(h:qAe L n i=.inr (x,j)):i<j∧j≤Lm L:=by rcases(qAw h).2 with⟨_,h⟩|⟨_,h⟩<;>obtain⟨_,_,k,_,_,h3,h4,h5,_⟩:=qAS h<;>omega
theorem qBz {L:List Tok}:∀ (f:Nat) (acc:List It) (i:Nat) (l:List It) (j:Nat),qz0 L f acc i=some (.inr (l,j))→i<j∧j≤Lm L
 |0,_,_,_,_,h=>by cases h
 |f+1,acc,i,l,j,h=>by
  unfold qz0 at h;cases hi:qAe L acc.length i with
  |inl e=>rw[hi]at h;cases h
  |inr r=>
   obtain⟨x,k⟩:=r;rw[hi]at h;have:=qBx hi;simp only at h;cases hc:isW (tkA L k) comB with
   |true=>rw[hc]at h;have:=qBz f _ _ _ _ h;omega
   |false=>
    rw[hc]at h;simp only[af]at h;cases hn:qzQ L (strB [41]) k with
    |inl e=>rw[hn]at h;cases h
    |inr m=>rw[hn]at h;cases h;have:=qz6 hn;omega
theorem qAn {L:List Tok}{nb i j:Nat}{l:List It}(h:qzP L nb i=some (.inr (l,j))):i<j∧j≤Lm L:=by
 unfold qzP at h;cases hb:(isW (tkA L i) seqB&&nb==4)with
 |true=>rw[hb]at h;cases h
 |false=>
  rw[hb]at h;simp only[af]at h;cases h1:qzQ L seqB i with
  |inl e=>rw[h1]at h;cases h
  |inr m=>
   rw[h1]at h;simp only at h;cases h2:qzQ L (strB [40]) m with
   |inl e=>rw[h2]at h;cases h
   |inr k=>rw[h2]at h;have:=qz6 h1;have:=qz6 h2;have:=qBz _ _ _ _ _ h;omega
theorem qCS {L:List Tok}{st wd:Int}{i j:Nat}{t:Tl}(hi:i≤Lm L)(h:qAG L st wd i=.inr (t,j)):j≤Lm L:=by
 unfold qAG at h;cases ho:isW (tkA L i) paB with
 |false=>rw[ho]at h;cases h;omega
 |true=>
  rw[ho]at h;simp only[ah]at h;cases h1:qzQ L byB (i+1)with
  |inl e=>rw[h1]at h;cases h
  |inr k=>
   rw[h1]at h;simp only at h;cases h2:nmF L k with
   |inl e=>rw[h2]at h;cases h
   |inr a=>rw[h2]at h;cases h;have:=qod h2;omega
theorem qAX {L:List Tok}{st:Int}{i j:Nat}{t:Tl}(h:tailW L st i=.inr (t,j)):j≤Lm L:=by
 unfold tailW at h;cases h1:qzQ L wiB i with
 |inl e=>rw[h1]at h;cases h
 |inr k=>
  rw[h1]at h;simp only at h;cases h2:((tkA L k).kind != 3)with
  |true=>rw[h2]at h;cases h
  |false=>
   rw[h2]at h;simp only[af]at h;cases h3:decide ((tkA L k).n>1152921504606846976)with
   |true=>rw[h3]at h;cases h
   |false=>
    rw[h3]at h;have hk:(tkA L k).kind=3:=by simpa using h2
    have:=ZU (L:=L) (i:=k) (by rw[hk];decide);exact qCS (by omega) h
theorem qDQ {L:List Tok}{i j:Nat}{t:Tl}(h:qAg L i=.inr (t,j)):j≤Lm L:=by
 unfold qAg at h;cases h1:qzQ L sgB i with
 |inl e=>rw[h1]at h;cases h
 |inr k=>
  rw[h1]at h;simp only at h;cases h2:isW (tkA L k) s1B with
  |true=>rw[h2]at h;exact qAX h
  |false=>
   rw[h2]at h;simp only[af]at h;cases h3:isW (tkA L k) s2B with
   |true=>rw[h3]at h;exact qAX h
   |false=>
    rw[h3]at h;simp only[af]at h;cases h4:isW (tkA L k) s3B with
    |true=>rw[h4]at h;exact qAX h
    |false=>rw[h4]at h;cases h
theorem qz9 {L:List Tok}:∀ (f:Nat) (acc:List (List It)) (i:Nat) (l:List (List It)) (j:Nat),acc.length+f=5→qzN L f acc i=some (.inr (l,j))→l.length≤4
 |0,_,_,_,_,_,h=>by cases h
 |f+1,acc,i,l,j,hf,h=>by
  unfold qzN at h;cases ho:isW (tkA L i) orB with
  |false=>rw[ho]at h;cases h;omega
  |true=>
   rw[ho]at h;simp only[ah]at h;cases hb:qzP L acc.length (i+1)with
   |none=>rw[hb]at h;cases h
   |some r=>
    rw[hb]at h
    match r,h with
    |.inr (b,k),h=>exact qz9 f (acc++[b]) k l j (by simp;omega) h
end Ab
end Go.Proofs.YtpdhhkfllkgahaaGreatDoor

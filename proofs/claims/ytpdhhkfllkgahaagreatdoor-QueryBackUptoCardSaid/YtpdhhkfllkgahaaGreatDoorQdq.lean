/-
  query.Parse, as it is printed, tells what the plain one tells.
-/
import Derived.Test.YtpdhhkfllkgahaaGreatDoorQcq
set_option linter.all false
namespace Go.Proofs.YtpdhhkfllkgahaaGreatDoor
namespace Ab
def R21of [vo](L:List Tok)(o:Er⊕Qu)(r:R21b):Prop:=match o with
 |.inl (p,e)=>∃ a b c' d' e' f g h,r=.inl (p,e,a,b,c',d',e',f,g,h)
 |.inr q=>∃ j:Int,r=.inr (rwT L,j,zf q.br,qg q.wh,q.st,q.wd,q.key,q.ka)
def whE (L:List Tok)(br:List (List It)):Er⊕(List Ex×Nat)→Er⊕Qu
 |.inl e=>.inl e
 |.inr (wh,j)=>qAu L br wh j
section
variable [vo] {L:List Tok} (hE:Lm L+1=L.length) (hL:L.length<5000)
include hE hL
theorem qBY (br:List (List It))(wh:List Ex){i:Nat}(hi:i≤Lm L):∃ r,Goes qwP (.h2 (rwT L) (i:Int) (zf br) (qg wh) 0 0 (strB []) 0) r∧R21of L (qAu L br wh i) r:=by
 obtain⟨r,a1,hr⟩:=zK hE hL (zf br) (qg wh) hi;unfold qAu;cases ht:qAg L i with
 |inl er=>obtain⟨p,er⟩:=er;rw[ht]at hr;obtain⟨a,b,c',d',e',f,g,h,rfl⟩:=hr;refine⟨.inl (p,er,a,b,c',d',e',f,g,h),.of1 a1 fun k b=>?_,_,_,_,_,_,_,_,_,rfl⟩;simp only[qwP,b,ae,altC,ql]
 |inr tj=>
  obtain⟨t,j⟩:=tj;rw[ht]at hr;cases hr;have hj:=qDQ ht;have a2:=qAm hE hL (zf br) (qg wh) t.st t.wd t.key t.ka (i:=j) hj;have a3:=qAa hE hL (zf br) (qg wh) t.st t.wd t.key t.ka 13 (i:=j) hj;simp only;cases hk:((tkA L j).kind != 0)with
  |true=>refine⟨.inl ((tkA L j).pos,13,rwT L,(j:Int),zf br,qg wh,t.st,t.wd,t.key,t.ka),.of3 a1 a2 a3 fun k b b2 b3=>?_,_,_,_,_,_,_,_,_,rfl⟩;simp only[qwP,b,ae,altC,tup8,b2,hk,ah,b3,tup5]
  |false=>refine⟨.inr (rwT L,(j:Int),zf br,qg wh,t.st,t.wd,t.key,t.ka),.of2 a1 a2 fun k b b2=>?_,_,rfl⟩;simp only[qwP,b,ae,altC,tup8,b2,hk,af]
theorem qD2 (hT:TsOk L)(br:List (List It)){n i:Nat}(hi:i≤Lm L)(hno:isW (tkA L i) orB=false){o:Er⊕(List Ex×Nat)}(h:qzV L n i=some o):
  ∃ r,Goes qwP (.h0 (rwT L) (i:Int) (zf br) [] 0 0 (strB []) 0) r∧R21of L (whE L br o) r:=by
 have a1:=qzW hE hL (zf br) [] 0 0 (strB []) 0 orB (i:=i) hi;have a2:=qzW hE hL (zf br) [] 0 0 (strB []) 0 whB (i:=i) hi;rw[hno]at a1;unfold qzV at h;cases hw:isW (tkA L i) whB with
 |false=>rw[hw]at h a2;cases h;obtain⟨r,h2,h3⟩:=qBY hE hL br [] hi;refine⟨r,.of3 a1 a2 h2 fun k b b2 b3=>?_,h3⟩;simp only[orB]at b;simp only[whB]at b2;simp only[qwP,b,ae,tup4,af,b2];exact b3
 |true=>
  rw[hw]at h a2;have hi1:=Zv hw;simp only[ah]at h;cases hp:pp L n (.p 0 (i+1) 0)with
  |none=>rw[hp]at h;cases h
  |some out=>
   rw[hp]at h;have a3:=qoX (L:=L) (i:=i+1) (by omega) (by omega) hL hp;cases out with
   |err p er=>
    cases h;have he:(er != 0)=true:=by
     have:er≠0:=by rcases qix _ _ _ _ _ hp with h|h<;>omega
     simpa using this
    refine⟨.inl (p,er,rwT L,((i+1:Nat):Int),zf br,[],0,0,strB [],0),.of4 a1 a2 a3 (Goes.fin0 (step:=qwP) (s:=.h1 0 p er (er != 0) 0 [] 0 0 (strB []) (strB []) 0 (rwT L) ((i+1:Nat):Int) (zf br) [] 0 0 (strB []) 0) (r:=.inl (p,er,rwT L,((i+1:Nat):Int),zf br,[],0,0,strB [],0)) fun k rec=>by simp only[qwP,he,ah]) fun k b b2 b3 b4=>?_,_,_,_,_,_,_,_,_,rfl⟩;simp only[orB]at b;simp only[whB]at b2;simp only[qwP,b,ae,tup4,af,b2,ah,zq i (by omega),b3,R44of,altC,tup9];exact b4
   |ok x j=>
    cases h;have hj:=(qeh L n).1 0 (i+1) 0 x j (by omega) hp;have hc:=(qjS L n).1 0 (i+1) 0 x j (by omega) hp;have hx:=((qCK hT n).1 0 (i+1) 0 x j (by omega) (by omega) hp).1;obtain⟨r,h2,h3⟩:=qBY hE hL br (qzU x) (i:=j) hj.2;have a4:=qEb hx (by omega);have s1:Goes qwP (.h1 (j:Int) 0 0 false x.op (qg x.args) x.n x.scale x.name x.attr x.pos (rwT L) ((i+1:Nat):Int) (zf br) [] 0 0 (strB []) 0) r:=.of2 a4 h2 fun k b b2=>by simp only[qwP,af,b,ae];exact b2
    refine⟨r,.of4 a1 a2 a3 s1 fun k b b2 b3 b4=>?_,h3⟩;simp only[orB]at b;simp only[whB]at b2;simp only[qwP,b,ae,tup4,af,b2,ah,zq i (by omega),b3,R44of,altC,ql];exact b4
omit hE hL in
def brE (L:List Tok)(n:Nat):Er⊕(List (List It)×Nat)→Option (Er⊕Qu)
 |.inl e=>some (.inl e)
 |.inr (br,j)=>(qzV L n j).map (whE L br)
theorem qBX (hT:TsOk L){n:Nat}:∀ (fu:Nat) (acc:List (List It)) (i:Nat) (o:Er⊕(List (List It)×Nat)) (q:Er⊕Qu),qzN L fu acc i=some o→acc.length+fu=5→i≤Lm L→brE L n o=some q →
  ∃ r,Goes qwP (.h0 (rwT L) (i:Int) (zf acc) [] 0 0 (strB []) 0) r∧R21of L q r
 |0,_,_,_,_,h,_,_,_=>by cases h
 |fu+1,acc,i,o,q,h,hf,hi,hq=>by
  unfold qzN at h;cases ho:isW (tkA L i) orB with
  |false=>
   rw[ho]at h;cases h;simp only[brE]at hq;cases hw:qzV L n i with
   |none=>rw[hw]at hq;cases hq
   |some w=>rw[hw]at hq;cases hq;exact qD2 hE hL hT acc hi ho hw
  |true=>
   rw[ho]at h;simp only[ah]at h;have a1:=qzW hE hL (zf acc) [] 0 0 (strB []) 0 orB (i:=i) hi;rw[ho]at a1;have hi1:=Zv ho;cases hb:qzP L acc.length (i+1)with
   |none=>rw[hb]at h;cases h
   |some ob=>
    rw[hb]at h;obtain⟨r,a2,hr⟩:=qB2 hE hL (zf acc) [] 0 0 (strB []) 0 (qu0 acc) (by omega) (i:=i+1) (by omega) hb
    match ob,hb,h,hr with
    |.inl (p,er),hb,h,hr=>cases h;cases hq;obtain⟨u,rfl⟩:=hr;refine⟨.inl (p,er,rwT L,u,zf acc,[],0,0,strB [],0),.of2 a1 a2 fun k b b2=>?_,_,_,_,_,_,_,_,_,rfl⟩;simp only[orB]at b;simp only[qwP,b,ae,tup4,ah,zq i (by omega),b2,altC,tup6]
    |.inr (l,j),hb,h,hr=>cases hr;have hj:=qAn hb;obtain⟨r,h2,h3⟩:=qBX hT fu (acc++[l]) j o q h (by simp;omega) hj.2 hq;refine⟨r,.of3 a1 a2 h2 fun k b b2 b3=>?_,h3⟩;simp only[orB]at b;simp only[qwP,b,ae,tup4,ah,zq i (by omega),b2,altC];rw[show zf acc++[[.imm (xe l)]]=zf (acc++[l])by simp[zf,qvJ]];exact b3
theorem qDx (hT:TsOk L){n:Nat}{q:Er⊕Qu}(h:qz1 L n=some q):∃ r,Tot (fun k=>g21b k (rwT L) 0 [] [] 0 0 (strB []) 0) r∧R21of L q r:=by
 have a1:=qAl hE hL [] [] 0 0 (strB []) 0 ptB (i:=0) (by omega);unfold qz1 at h;cases h1:qzQ L ptB 0 with
 |inl er=>obtain⟨p,er⟩:=er;rw[h1]at h a1;cases h;refine⟨.inl (p,er,rwT L,((0:Nat):Int),[],[],0,0,strB [],0),Goes.of1 (step:=qwP) (s:=.e (rwT L) 0 [] [] 0 0 (strB []) 0) a1 fun k b=>?_,_,_,_,_,_,_,_,_,rfl⟩;simp only[ptB]at b;have b:g41b k (strB [80,65,84,84,69,82,78]) (rwT L) 0 [] [] 0 0 (strB []) 0=_:=b;simp only[qwP,b,N41,ae,altC,tup6]
 |inr m=>
  rw[h1]at h a1;have hm:=qz6 h1;simp only at h;cases hb:qzP L 0 m with
  |none=>rw[hb]at h;cases h
  |some ob=>
   rw[hb]at h;obtain⟨r,a2,hr⟩:=qB2 hE hL [] [] 0 0 (strB []) 0 (nb:=0) rfl (by omega) (i:=m) hm.2.2 hb
   match ob,hb,h,hr with
   |.inl (p,er),hb,h,hr=>cases h;obtain⟨u,rfl⟩:=hr;refine⟨.inl (p,er,rwT L,u,[],[],0,0,strB [],0),Goes.of2 (step:=qwP) (s:=.e (rwT L) 0 [] [] 0 0 (strB []) 0) a1 a2 fun k b b2=>?_,_,_,_,_,_,_,_,_,rfl⟩;simp only[ptB]at b;have b:g41b k (strB [80,65,84,84,69,82,78]) (rwT L) 0 [] [] 0 0 (strB []) 0=_:=b;simp only[qwP,b,N41,ae,altC,tup4,b2,tup6]
   |.inr (l,j),hb,h,hr=>
    cases hr;have hj:=qAn hb;simp only at h;cases hs:qzN L 4 [l] j with
    |none=>rw[hs]at h;cases h
    |some o=>
     rw[hs]at h;have hq:brE L n o=some q:=by
      match o,h with
      |.inl e,h=>exact h
      |.inr (br,j),h=>
       simp only at h;show(qzV L n j).map (whE L br)=some q;cases hw:qzV L n j with
       |none=>rw[hw]at h;cases h
       |some w=>
        rw[hw]at h
        match w,h with
        |.inl e,h=>exact h
        |.inr (wh,j),h=>exact h
     obtain⟨r,h2,h3⟩:=qBX hE hL hT 4 [l] j o q hs rfl hj.2 hq;refine⟨r,Goes.of3 (step:=qwP) (s:=.e (rwT L) 0 [] [] 0 0 (strB []) 0) a1 a2 h2 fun k b b2 b3=>?_,h3⟩;simp only[ptB]at b;have b:g41b k (strB [80,65,84,84,69,82,78]) (rwT L) 0 [] [] 0 0 (strB []) 0=_:=b;simp only[qwP,b,N41,ae,altC,tup4,b2];exact b3
end
theorem qz5 {L:List Tok}{s:By}{i:Nat}{p e:Int}(h:qzQ L s i=.inl (p,e)):e=13:=by
 unfold qzQ at h;cases hb:isW (tkA L i) s with
 |true=>rw[hb]at h;cases h
 |false=>rw[hb]at h;cases h;rfl
theorem qCc {L:List Tok}{neg:Bool}{q:Int}{i:Nat}{p e:Int}(h:qAf L neg q i=.inl (p,e)):e=13:=by
 have aux:∀ fm ty q i,qAv L fm ty q i=.inl (p,e)→e=13:=fun fm ty q i h=>by
  unfold qAv at h;cases hn:nmF L i with
  |inl x=>rw[hn]at h;cases h;rfl
  |inr x=>rw[hn]at h;cases h
 unfold qAf at h;cases hn:nmF L i with
 |inl x=>rw[hn]at h;cases h;rfl
 |inr x=>
  rw[hn]at h;simp only at h;cases neg with
  |true=>exact aux _ _ _ _ h
  |false=>simp only[af]at h;cases hp:isW (tkA L (i+1)) plsB<;>rw[hp]at h<;>exact aux _ _ _ _ h
def ErOk (e:Int):Prop:=e=1∨e=2∨e=13∨e=14
theorem qCb {L:List Tok}{n i:Nat}{p e:Int}(h:qAe L n i=.inl (p,e)):ErOk e:=by
 unfold qAe at h;cases hb:(n==8&&(isW (tkA L i) excB||(tkA L i).kind==2))with
 |true=>rw[hb]at h;cases h;exact .inr (.inl rfl)
 |false=>rw[hb]at h;simp only[af]at h;cases he:isW (tkA L i) excB<;>rw[he]at h<;>exact .inr (.inr (.inl (qCc h)))
theorem qA8 {L:List Tok}:∀ (f:Nat) (acc:List It) (i:Nat) (p e:Int),qz0 L f acc i=some (.inl (p,e))→ErOk e
 |0,_,_,_,_,h=>by cases h
 |f+1,acc,i,p,e,h=>by
  unfold qz0 at h;cases hi:qAe L acc.length i with
  |inl x=>rw[hi]at h;cases h;exact qCb hi
  |inr r=>
   rw[hi]at h;simp only at h;cases hc:isW (tkA L r.2) comB with
   |true=>rw[hc]at h;exact qA8 f _ _ _ _ h
   |false=>
    rw[hc]at h;simp only[af]at h;cases hn:qzQ L (strB [41]) r.2 with
    |inl x=>rw[hn]at h;cases h;exact .inr (.inr (.inl (qz5 hn)))
    |inr m=>rw[hn]at h;cases h
theorem qAH {L:List Tok}{nb i:Nat}{p e:Int}(h:qzP L nb i=some (.inl (p,e))):ErOk e:=by
 unfold qzP at h;cases hb:(isW (tkA L i) seqB&&nb==4)with
 |true=>rw[hb]at h;cases h;exact .inr (.inl rfl)
 |false=>
  rw[hb]at h;simp only[af]at h;cases h1:qzQ L seqB i with
  |inl x=>rw[h1]at h;cases h;exact .inr (.inr (.inl (qz5 h1)))
  |inr m=>
   rw[h1]at h;simp only at h;cases h2:qzQ L (strB [40]) m with
   |inl x=>rw[h2]at h;cases h;exact .inr (.inr (.inl (qz5 h2)))
   |inr k=>rw[h2]at h;exact qA8 _ _ _ _ _ h
theorem qAs {L:List Tok}:∀ (f:Nat) (acc:List (List It)) (i:Nat) (p e:Int),qzN L f acc i=some (.inl (p,e))→ErOk e
 |0,_,_,_,_,h=>by cases h
 |f+1,acc,i,p,e,h=>by
  unfold qzN at h;cases ho:isW (tkA L i) orB with
  |false=>rw[ho]at h;cases h
  |true=>
   rw[ho]at h;simp only[ah]at h;cases hb:qzP L acc.length (i+1)with
   |none=>rw[hb]at h;cases h
   |some r=>
    rw[hb]at h
    match r,hb,h with
    |.inl x,hb,h=>cases h;exact qAH hb
    |.inr (b,k),_,h=>exact qAs f _ _ _ _ h
theorem qAE {L:List Tok}{st:Int}{i:Nat}{p e:Int}(h:tailW L st i=.inl (p,e)):ErOk e:=by
 unfold tailW at h;cases h1:qzQ L wiB i with
 |inl x=>rw[h1]at h;cases h;exact .inr (.inr (.inl (qz5 h1)))
 |inr k=>
  rw[h1]at h;simp only at h;cases h2:((tkA L k).kind != 3)with
  |true=>rw[h2]at h;cases h;exact .inr (.inr (.inl rfl))
  |false=>
   rw[h2]at h;simp only[af]at h;cases h3:decide ((tkA L k).n>1152921504606846976)with
   |true=>rw[h3]at h;cases h;exact .inl rfl
   |false=>
    rw[h3]at h;simp only[af,qAG]at h;cases h4:isW (tkA L (k+1)) paB with
    |false=>rw[h4]at h;cases h
    |true=>
     rw[h4]at h;simp only[ah]at h;cases h5:qzQ L byB (k+1+1)with
     |inl x=>rw[h5]at h;cases h;exact .inr (.inr (.inl (qz5 h5)))
     |inr m=>
      rw[h5]at h;simp only at h;cases h6:nmF L m with
      |inl x=>rw[h6]at h;cases h;exact .inr (.inr (.inl rfl))
      |inr a=>rw[h6]at h;cases h
theorem qCU {L:List Tok}{i:Nat}{p e:Int}(h:qAg L i=.inl (p,e)):ErOk e:=by
 unfold qAg at h;cases h1:qzQ L sgB i with
 |inl x=>rw[h1]at h;cases h;exact .inr (.inr (.inl (qz5 h1)))
 |inr k=>
  rw[h1]at h;simp only at h;cases h2:isW (tkA L k) s1B with
  |true=>rw[h2]at h;exact qAE h
  |false=>
   rw[h2]at h;simp only[af]at h;cases h3:isW (tkA L k) s2B with
   |true=>rw[h3]at h;exact qAE h
   |false=>
    rw[h3]at h;simp only[af]at h;cases h4:isW (tkA L k) s3B with
    |true=>rw[h4]at h;exact qAE h
    |false=>rw[h4]at h;cases h;exact .inr (.inr (.inl rfl))
theorem qCt {L:List Tok}{n:Nat}{p e:Int}(h:qz1 L n=some (.inl (p,e))):ErOk e:=by
 unfold qz1 at h;cases h1:qzQ L ptB 0 with
 |inl x=>rw[h1]at h;cases h;exact .inr (.inr (.inl (qz5 h1)))
 |inr m=>
  rw[h1]at h;simp only at h;cases hb:qzP L 0 m with
  |none=>rw[hb]at h;cases h
  |some ob=>
   rw[hb]at h
   match ob,hb,h with
   |.inl x,hb,h=>cases h;exact qAH hb
   |.inr (b,j),_,h=>
    simp only at h;cases hs:qzN L 4 [b] j with
    |none=>rw[hs]at h;cases h
    |some o=>
     rw[hs]at h
     match o,hs,h with
     |.inl x,hs,h=>cases h;exact qAs _ _ _ _ _ hs
     |.inr (br,k),_,h=>
      simp only at h;cases hw:qzV L n k with
      |none=>rw[hw]at h;cases h
      |some w=>
       rw[hw]at h
       match w,hw,h with
       |.inl x,hw,h=>
        cases h;unfold qzV at hw;cases h2:isW (tkA L k) whB with
        |false=>rw[h2]at hw;cases hw
        |true=>
         rw[h2]at hw;simp only[ah]at hw;cases hp:pp L n (.p 0 (k+1) 0)with
         |none=>rw[hp]at hw;cases hw
         |some out=>
          rw[hp]at hw
          match out,hp,hw with
          |.err p e,hp,hw=>
           cases hw;rcases qix _ _ _ _ _ hp with h|h
           · exact .inr (.inr (.inl h))
           · exact .inr (.inr (.inr h))
          |.ok x j,_,hw=>cases hw
       |.inr (wh,j),_,h=>
        simp only[qAu,aa]at h;cases ht:qAg L j with
        |inl x=>rw[ht]at h;cases h;exact qCU ht
        |inr t=>
         rw[ht]at h;simp only at h;cases h3:((tkA L t.2).kind != 0)with
         |true=>rw[h3]at h;cases h;exact .inr (.inr (.inl rfl))
         |false=>rw[h3]at h;cases h
end Ab
end Go.Proofs.YtpdhhkfllkgahaaGreatDoor

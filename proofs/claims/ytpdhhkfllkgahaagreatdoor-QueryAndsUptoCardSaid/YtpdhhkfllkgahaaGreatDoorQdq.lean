import Derived.Test.YtpdhhkfllkgahaaGreatDoorQcq
set_option linter.all false
namespace Go.Proofs.YtpdhhkfllkgahaaGreatDoor
namespace Ab
def R21of [vo](L:List Tok)(o:Er⊕Qu)(r:R21b):Prop:=match o with
 |.inl (p,e)=>∃ a b c' d' e' f g h,r=.inl (p,e,a,b,c',d',e',f,g,h)
 |.inr q=>∃ j:Int,r=.inr (rwT L,j,zf q.br,qg q.wh,q.st,q.wd,q.key,q.ka)
def whE (L:List Tok)(br:List (List It)):Er⊕(List Ex×Nat)→Er⊕Qu
 |.inl e=>.inl e
 |.inr (wh,j)=>qAu L br wh j
section
variable [vo] {L:List Tok} (hE:Lm L+1=L.length) (hL:L.length<5000)
include hE hL
theorem qBY (br:List (List It))(wh:List Ex){i:Nat}(hi:i≤Lm L):∃ r,Goes qwP (.h2 (rwT L) (i:Int) (zf br) (qg wh) 0 0 (strB []) 0) r∧R21of L (qAu L br wh i) r:=by
 obtain⟨r,a1,hr⟩:=zK hE hL (zf br) (qg wh) hi;unfold qAu;cases ht:qAg L i with
 |inl er=>obtain⟨p,er⟩:=er;rw[ht]at hr;obtain⟨a,b,c',d',e',f,g,h,rfl⟩:=hr;refine⟨.inl (p,er,a,b,c',d',e',f,g,h),.of1 a1 fun k b=>?_,_,_,_,_,_,_,_,_,rfl⟩;simp only[qwP,b,ae,altC,ql]
 |inr tj=>
  obtain⟨t,j⟩:=tj;rw[ht]at hr;cases hr;have hj:=qDQ ht;have a2:=qAm hE hL (zf br) (qg wh) t.st t.wd t.key t.ka (i:=j) hj;have a3:=qAa hE hL (zf br) (qg wh) t.st t.wd t.key t.ka 13 (i:=j) hj;simp only;cases hk:((tkA L j).kind != 0)with
  |true=>refine⟨.inl ((tkA L j).pos,13,rwT L,(j:Int),zf br,qg wh,t.st,t.wd,t.key,t.ka),.of3 a1 a2 a3 fun k b b2 b3=>?_,_,_,_,_,_,_,_,_,rfl⟩;simp only[qwP,b,ae,altC,tup8,b2,hk,ah,b3,tup5]
  |false=>refine⟨.inr (rwT L,(j:Int),zf br,qg wh,t.st,t.wd,t.key,t.ka),.of2 a1 a2 fun k b b2=>?_,_,rfl⟩;simp only[qwP,b,ae,altC,tup8,b2,hk,af]
theorem qD2 (hT:TsOk L)(br:List (List It)){n i:Nat}(hi:i≤Lm L)(hno:isW (tkA L i) orB=false){o:Er⊕(List Ex×Nat)}(h:qzV L n i=some o):
  ∃ r,Goes qwP (.h0 (rwT L) (i:Int) (zf br) [] 0 0 (strB []) 0) r∧R21of L (whE L br o) r:=by
 have a1:=qzW hE hL (zf br) [] 0 0 (strB []) 0 orB (i:=i) hi;have a2:=qzW hE hL (zf br) [] 0 0 (strB []) 0 whB (i:=i) hi;rw[hno]at a1;unfold qzV at h;cases hw:isW (tkA L i) whB with
 |false=>rw[hw]at h a2;cases h;obtain⟨r,h2,h3⟩:=qBY hE hL br [] hi;refine⟨r,.of3 a1 a2 h2 fun k b b2 b3=>?_,h3⟩;simp only[orB]at b;simp only[whB]at b2;simp only[qwP,b,ae,tup4,af,b2];exact b3
 |true=>
  rw[hw]at h a2;have hi1:=Zv hw;simp only[ah]at h;cases hp:pp L n (.p 0 (i+1) 0)with
  |none=>rw[hp]at h;cases h
  |some out=>
   rw[hp]at h;have a3:=qoX (L:=L) (i:=i+1) (by omega) (by omega) hL hp;cases out with
   |err p er=>
    cases h;have he:(er != 0)=true:=by
     have:er≠0:=by rcases qix _ _ _ _ _ hp with h|h<;>omega
     simpa using this
    refine⟨.inl (p,er,rwT L,((i+1:Nat):Int),zf br,[],0,0,strB [],0),.of4 a1 a2 a3 (Goes.fin0 (step:=qwP) (s:=.h1 0 p er (er != 0) 0 [] 0 0 (strB []) (strB []) 0 (rwT L) ((i+1:Nat):Int) (zf br) [] 0 0 (strB []) 0) (r:=.inl (p,er,rwT L,((i+1:Nat):Int),zf br,[],0,0,strB [],0)) fun k rec=>by simp only[qwP,he,ah]) fun k b b2 b3 b4=>?_,_,_,_,_,_,_,_,_,rfl⟩;simp only[orB]at b;simp only[whB]at b2;simp only[qwP,b,ae,tup4,af,b2,ah,zq i (by omega),b3,R44of,altC,tup9];exact b4
   |ok x j=>
    cases h;have hj:=(qeh L n).1 0 (i+1) 0 x j (by omega) hp;have hc:=(qjS L n).1 0 (i+1) 0 x j (by omega) hp;have hx:=((qCK hT n).1 0 (i+1) 0 x j (by omega) (by omega) hp).1;obtain⟨r,h2,h3⟩:=qBY hE hL br (qzU x) (i:=j) hj.2;have a4:=qEb hx (by omega);have s1:Goes qwP (.h1 (j:Int) 0 0 false x.op (qg x.args) x.n x.scale x.name x.attr x.pos (rwT L) ((i+1:Nat):Int) (zf br) [] 0 0 (strB []) 0) r:=.of2 a4 h2 fun k b b2=>by simp only[qwP,af,b,ae];exact b2
    refine⟨r,.of4 a1 a2 a3 s1 fun k b b2 b3 b4=>?_,h3⟩;simp only[orB]at b;simp only[whB]at b2;simp only[qwP,b,ae,tup4,af,b2,ah,zq i (by omega),b3,R44of,altC,ql];exact b4
omit hE hL in
def brE (L:List Tok)(n:Nat):Er⊕(List (List It)×Nat)→Option (Er⊕Qu)
 |.inl e=>some (.inl e)
 |.inr (br,j)=>(qzV L n j).map (whE L br)
theorem qBX (hT:TsOk L){n:Nat}:∀ (fu:Nat) (acc:List (List It)) (i:Nat) (o:Er⊕(List (List It)×Nat)) (q:Er⊕Qu),qzN L fu acc i=some o→acc.length+fu=5→i≤Lm L→brE L n o=some q →
  ∃ r,Goes qwP (.h0 (rwT L) (i:Int) (zf acc) [] 0 0 (strB []) 0) r∧R21of L q r
 |0,_,_,_,_,h,_,_,_=>by cases h
 |fu+1,acc,i,o,q,h,hf,hi,hq=>by
  unfold qzN at h;cases ho:isW (tkA L i) orB with
  |false=>
   rw[ho]at h;cases h;simp only[brE]at hq;cases hw:qzV L n i with
   |none=>rw[hw]at hq;cases hq
   |some w=>rw[hw]at hq;cases hq;exact qD2 hE hL hT acc hi ho hw
  |true=>
   rw[ho]at h;simp only[ah]at h;have a1:=qzW hE hL (zf acc) [] 0 0 (strB []) 0 orB (i:=i) hi;rw[ho]at a1;have hi1:=Zv ho;cases hb:qzP L acc.length (i+1)with
   |none=>rw[hb]at h;cases h
   |some ob=>
    rw[hb]at h;obtain⟨r,a2,hr⟩:=qB2 hE hL (zf acc) [] 0 0 (strB []) 0 (qu0 acc) (by omega) (i:=i+1) (by omega) hb
    match ob,hb,h,hr with
    |.inl (p,er),hb,h,hr=>cases h;cases hq;obtain⟨u,rfl⟩:=hr;refine⟨.inl (p,er,rwT L,u,zf acc,[],0,0,strB [],0),.of2 a1 a2 fun k b b2=>?_,_,_,_,_,_,_,_,_,rfl⟩;simp only[orB]at b;simp only[qwP,b,ae,tup4,ah,zq i (by omega),b2,altC,tup6]
    |.inr (l,j),hb,h,hr=>cases hr;have hj:=qAn hb;obtain⟨r,h2,h3⟩:=qBX hT fu (acc++[l]) j o q h (by simp;omega) hj.2 hq;refine⟨r,.of3 a1 a2 h2 fun k b b2 b3=>?_,h3⟩;simp only[orB]at b;simp only[qwP,b,ae,tup4,ah,zq i (by omega),b2,altC];rw[show zf acc++[[.imm (xe l)]]=zf (acc++[l])by simp[zf,qvJ]];exact b3
theorem qDx (hT:TsOk L){n:Nat}{q:Er⊕Qu}(h:qz1 L n=some q):∃ r,Tot (fun k=>g21b k (rwT L) 0 [] [] 0 0 (strB []) 0) r∧R21of L q r:=by
 have a1:=qAl hE hL [] [] 0 0 (strB []) 0 ptB (i:=0) (by omega);unfold qz1 at h;cases h1:qzQ L ptB 0 with
 |inl er=>obtain⟨p,er⟩:=er;rw[h1]at h a1;cases h;refine⟨.inl (p,er,rwT L,((0:Nat):Int),[],[],0,0,strB [],0),Goes.of1 (step:=qwP) (s:=.e (rwT L) 0 [] [] 0 0 (strB []) 0) a1 fun k b=>?_,_,_,_,_,_,_,_,_,rfl⟩;simp only[ptB]at b;have b:g41b k (strB [80,65,84,84,69,82,78]) (rwT L) 0 [] [] 0 0 (strB []) 0=_:=b;simp only[qwP,b,N41,ae,altC,tup6]
 |inr m=>
  rw[h1]at h a1;have hm:=qz6 h1;simp only at h;cases hb:qzP L 0 m with
  |none=>rw[hb]at h;cases h
  |some ob=>
   rw[hb]at h;obtain⟨r,a2,hr⟩:=qB2 hE hL [] [] 0 0 (strB []) 0 (nb:=0) rfl (by omega) (i:=m) hm.2.2 hb
   match ob,hb,h,hr with
   |.inl (p,er),hb,h,hr=>cases h;obtain⟨u,rfl⟩:=hr;refine⟨.inl (p,er,rwT L,u,[],[],0,0,strB [],0),Goes.of2 (step:=qwP) (s:=.e (rwT L) 0 [] [] 0 0 (strB []) 0) a1 a2 fun k b b2=>?_,_,_,_,_,_,_,_,_,rfl⟩;simp only[ptB]at b;have b:g41b k (strB [80,65,84,84,69,82,78]) (rwT L) 0 [] [] 0 0 (strB []) 0=_:=b;simp only[qwP,b,N41,ae,altC,tup4,b2,tup6]
   |.inr (l,j),hb,h,hr=>
    cases hr;have hj:=qAn hb;simp only at h;cases hs:qzN L 4 [l] j with
    |none=>rw[hs]at h;cases h
    |some o=>
     rw[hs]at h;have hq:brE L n o=some q:=by
      match o,h with
      |.inl e,h=>exact h
      |.inr (br,j),h=>
       simp only at h;show(qzV L n j).map (whE L br)=some q;cases hw:qzV L n j with
       |none=>rw[hw]at h;cases h
       |some w=>
        rw[hw]at h
        match w,h with
        |.inl e,h=>exact h
        |.inr (wh,j),h=>exact h
     obtain⟨r,h2,h3⟩:=qBX hE hL hT 4 [l] j o q hs rfl hj.2 hq;refine⟨r,Goes.of3 (step:=qwP) (s:=.e (rwT L) 0 [] [] 0 0 (strB []) 0) a1 a2 h2 fun k b b2 b3=>?_,h3⟩;simp only[ptB]at b;have b:g41b k (strB [80,65,84,84,69,82,78]) (rwT L) 0 [] [] 0 0 (strB []) 0=_:=b;simp only[qwP,b,N41,ae,altC,tup4,b2];exact b3
end
def andL:Ex→List Ex→Ex
 |x,[]=>x
 |x,y::l=>andL (two 13 x y 0) l
def stB (st:Int):By:=if st=1 then s1B else if st=2 then s2B else s3B
def f1K (f:Int):List Tk:=if f=3 then [yk excB]else []
def f2K (f:Int):List Tk:=if f=2 then [yk plsB]else []
def itK (x:It):List Tk:=f1K x.form++(nk x.typ::(f2K x.form++[nk x.nm]))
def itsK:List It→List Tk
 |[]=>[]
 |[x]=>itK x
 |x::l=>itK x++yk comB::itsK l
def brK (l:List It):List Tk:=wk seqB::lp::(itsK l++[rp])
def kyK (key:By):List Tk:=if key.size=0 then []else [wk paB,wk byB,nk key]
def tlK (st:Int)(wd:Int)(key:By):List Tk:=wk sgB::wk (stB st)::wk wiB::⟨3,strB [],wd,0⟩::kyK key
structure RgI (x:It):Prop where
 form:x.form=1∨x.form=2∨x.form=3
 typ:GN x.typ
 nm:GN x.nm
structure RgQ (q:Qu):Prop where
 br:q.br≠[]∧q.br.length≤4
 it:∀ l∈q.br,l≠[]∧l.length≤8∧∀ x∈l,RgI x
 wh:∀ x∈q.wh,Rg x∧x.op≠13∧(pr x).2.1≤30
 ch:∀ x l,q.wh=x::l→(pr (andL x l)).2.1≤30
 st:q.st=1∨q.st=2∨q.st=3
 wd:0≤q.wd∧q.wd≤1152921504606846976∧Own ⟨3,strB [],q.wd,0⟩ (decS q.wd.toNat)
 key:q.key=strB []∨GN q.key
 nd:qu2 q≤200
theorem qBQ:∀ (l:List Ex) (x:Ex),Rg x→(∀ y∈l,Rg y)→Rg (andL x l)
 |[],x,hx,_=>hx
 |y::l,x,hx,h=>qBQ l _ (.two (by decide) hx (h y au)) fun z hz=>h z (aB _ hz)
theorem qBp:∀ (l:List Ex) (x:Ex),cnt (andL x l)=cnt x+cnts l+l.length
 |[],x=>by simp[andL,cnts]
 |y::l,x=>by rw[andL,qBp l,qiA,cnts,List.length_cons];omega
theorem RgQ.tree {q:Qu}(h:RgQ q){x:Ex}{l:List Ex}(e:q.wh=x::l):Rg (andL x l)∧(pr (andL x l)).2.1≤30∧cnt (andL x l)≤200:=by refine⟨qBQ l x (h.wh x (by rw[e];exact au)).1 fun y hy=>(h.wh y (by rw[e];exact aB _ hy)).1,h.ch x l e,?_⟩;have:=h.nd;unfold qu2 at this;rw[e,cnts,List.length_cons]at this;rw[qBp];omega
theorem qz7 {u:By}{q:Nat}{b:By}(h:Has u q b)(hb:0<b.size)(hn:isNm (bAt b 0)=false):Fn u q:=fun _=>by have:=h.2 0 hb;rw[Nat.add_zero]at this;rw[this];exact hn
theorem qF4 {u:By}{q:Nat}{b:By}(h:Has u q (strB [32]++b)):Fo u q:=fun _=>by have:=(qzL h).1.2 0 (by decide);rw[Nat.add_zero]at this;rw[this];rfl
end Ab
end Go.Proofs.YtpdhhkfllkgahaaGreatDoor

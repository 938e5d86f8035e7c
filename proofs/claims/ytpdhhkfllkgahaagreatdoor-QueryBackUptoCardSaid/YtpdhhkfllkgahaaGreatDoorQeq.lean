/-
  A query's text and its tokens, as plain functions; a right query's text is read as its tokens.
-/
import Derived.Test.YtpdhhkfllkgahaaGreatDoorQdq
set_option linter.all false
namespace Go.Proofs.YtpdhhkfllkgahaaGreatDoor
namespace Ab
def andL:Ex→List Ex→Ex
 |x,[]=>x
 |x,y::l=>andL (two 13 x y 0) l
def f1B (f:Int):By:=if f=3 then excB else strB []
def f2B (f:Int):By:=if f=2 then plsB else strB []
def itT (x:It):By:=(((f1B x.form++x.typ)++f2B x.form)++strB [32])++x.nm
def itsT:List It→By
 |[]=>strB []
 |[x]=>itT x
 |x::l=>(itT x++strB [44,32])++itsT l
def brT (l:List It):By:=(strB [83,69,81,40]++itsT l)++strB [41]
def brsT:List (List It)→By
 |[]=>strB []
 |[b]=>brT b
 |b::l=>(brT b++strB [32,124,32])++brsT l
noncomputable def whT:List Ex→By
 |[]=>strB []
 |x::l=>strB [32,87,72,69,82,69,32]++(pr (andL x l)).1
def stB (st:Int):By:=if st=1 then s1B else if st=2 then s2B else s3B
def kyT (key:By):By:=if key.size=0 then strB []else strB [32,80,65,82,84,73,84,73,79,78,32,66,89,32]++key
noncomputable def quT (q:Qu):By:=((strB [80,65,84,84,69,82,78,32]++brsT q.br)++behB (whT q.wh) (stB q.st) (decS q.wd.toNat))++kyT q.key
def f1K (f:Int):List Tk:=if f=3 then [yk excB]else []
def f2K (f:Int):List Tk:=if f=2 then [yk plsB]else []
def itK (x:It):List Tk:=f1K x.form++(nk x.typ::(f2K x.form++[nk x.nm]))
def itsK:List It→List Tk
 |[]=>[]
 |[x]=>itK x
 |x::l=>itK x++yk comB::itsK l
def brK (l:List It):List Tk:=wk seqB::lp::(itsK l++[rp])
def brsK:List (List It)→List Tk
 |[]=>[]
 |[b]=>brK b
 |b::l=>brK b++yk orB::brsK l
noncomputable def whK:List Ex→List Tk
 |[]=>[]
 |x::l=>wk whB::(pr (andL x l)).2.2
def kyK (key:By):List Tk:=if key.size=0 then []else [wk paB,wk byB,nk key]
def tlK (st:Int)(wd:Int)(key:By):List Tk:=wk sgB::wk (stB st)::wk wiB::⟨3,strB [],wd,0⟩::kyK key
noncomputable def quK (q:Qu):List Tk:=wk ptB::(brsK q.br++(whK q.wh++tlK q.st q.wd q.key))
structure RgI (x:It):Prop where
 form:x.form=1∨x.form=2∨x.form=3
 typ:GN x.typ
 nm:GN x.nm
structure RgQ (q:Qu):Prop where
 br:q.br≠[]∧q.br.length≤4
 it:∀ l∈q.br,l≠[]∧l.length≤8∧∀ x∈l,RgI x
 wh:∀ x∈q.wh,Rg x∧x.op≠13∧(pr x).2.1≤30
 ch:∀ x l,q.wh=x::l→(pr (andL x l)).2.1≤30
 st:q.st=1∨q.st=2∨q.st=3
 wd:0≤q.wd∧q.wd≤1152921504606846976∧Own ⟨3,strB [],q.wd,0⟩ (decS q.wd.toNat)
 key:q.key=strB []∨GN q.key
 nd:qu2 q≤200
theorem qBQ:∀ (l:List Ex) (x:Ex),Rg x→(∀ y∈l,Rg y)→Rg (andL x l)
 |[],x,hx,_=>hx
 |y::l,x,hx,h=>qBQ l _ (.two (by decide) hx (h y au)) fun z hz=>h z (aB _ hz)
theorem qBp:∀ (l:List Ex) (x:Ex),cnt (andL x l)=cnt x+cnts l+l.length
 |[],x=>by simp[andL,cnts]
 |y::l,x=>by rw[andL,qBp l,qiA,cnts,List.length_cons];omega
theorem RgQ.tree {q:Qu}(h:RgQ q){x:Ex}{l:List Ex}(e:q.wh=x::l):Rg (andL x l)∧(pr (andL x l)).2.1≤30∧cnt (andL x l)≤200:=by refine⟨qBQ l x (h.wh x (by rw[e];exact au)).1 fun y hy=>(h.wh y (by rw[e];exact aB _ hy)).1,h.ch x l e,?_⟩;have:=h.nd;unfold qu2 at this;rw[e,cnts,List.length_cons]at this;rw[qBp];omega
theorem qz7 {u:By}{q:Nat}{b:By}(h:Has u q b)(hb:0<b.size)(hn:isNm (bAt b 0)=false):Fn u q:=fun _=>by have:=h.2 0 hb;rw[Nat.add_zero]at this;rw[this];exact hn
theorem qDY {u:By}{q:Nat}(hu:Has u q excB)(hs:bAt u (q+1)≠61):Rd u q [yk excB] (q+1):=by
 have hz:excB.size=1:=rfl;have h0:bAt u q=33:=by have:=hu.2 0 (by omega);rw[Nat.add_zero]at this;rw[this];rfl
 have hq:q<u.size:=by have:=hu.1;omega
 have hl:vR u q=1:=by
  have ht:twoB u q=false:=by unfold twoB;rw[Bool.and_eq_false_iff];exact .inr (by simpa using hs)
  unfold vR;rw[aD (.inl h0),ht];rfl
 refine qAC hq (by rw[h0];rfl) ?_;unfold tok;rw[h0,show isLe 33=false from rfl,show isDi 33=false from rfl,aF (by decide),aF (by decide),aF (by decide)];unfold qav;rw[hl,aF (by decide)];have hx:=qAB hu;rw[hz]at hx;rw[hx];rfl
theorem qEF {c:Int}(h:isLe c=true):c≠61:=by rintro rfl;cases h
theorem qEj {u:By}{q:Nat}{A ty B nm:By}{S1 S2:List Tk}(hT:GN ty)(hN:GN nm)(hu:Has u q ((((A++ty)++B)++strB [32])++nm))(hf:Fn u (q+((((A++ty)++B)++strB [32])++nm).size))(hA:Has u q A→bAt u (q+A.size)≠61→Rd u q S1 (q+A.size))(hB:Has u (q+A.size+ty.size) B→Has u (q+A.size+ty.size+B.size) (strB [32])→Rd u (q+A.size+ty.size) S2 (q+A.size+ty.size+B.size)∧Fn u (q+A.size+ty.size)):
  Rd u q (S1++(nk ty::(S2++[nk nm]))) (q+((((A++ty)++B)++strB [32])++nm).size):=by
 obtain⟨h1,hnm⟩:=qzL hu;obtain⟨h1,hsp⟩:=qzL h1;obtain⟨h1,hb⟩:=qzL h1;obtain⟨ha,ht⟩:=qzL h1;simp only[ByteArray.size_append,bsz1]at *;simp only[← Nat.add_assoc]at *;obtain⟨hB1,hB2⟩:=hB hb hsp;have h61:bAt u (q+A.size)≠61:=by have:=ht.2 0 (by have:=hT.pos;omega);rw[Nat.add_zero]at this;rw[this];exact qEF hT.pos.2.2.1
 refine qzO (hA ha h61) (qzO (S:=[nk ty]) (qBj hT ht hB2) (qzO hB1 (qAc hsp (by simp) (qBj hN hnm hf))))
theorem qEk {x:It}(h:RgI x){u:By}{q:Nat}(hu:Has u q (itT x))(hf:Fn u (q+(itT x).size)):Rd u q (itK x) (q+(itT x).size):=by
 unfold itT at hu hf ⊢;unfold itK;refine qEj h.typ h.nm hu hf ?_ ?_
 ·
  intro ha h61;unfold f1B at ha h61 ⊢;unfold f1K;split
  · rename_i e;rw[aD e]at ha h61;exact qDY ha h61
  · rfl
 ·
  intro hb hs;unfold f2B at hb hs ⊢;unfold f2K;split
  · rename_i e;rw[aD e]at hb;exact⟨qz2 (by omega) (by decide) hb,qz7 hb (by decide) rfl⟩
  · rename_i e;rw[aF e]at hs;exact⟨rfl,qz7 hs (by decide) rfl⟩
theorem qEi (x:It):itK x≠[]:=by simp[itK]
theorem qDB:∀ {l:List It},l≠[]→itsK l≠[]
 |[],h=>absurd rfl h
 |[x],_=>qEi x
 |x::y::l,_=>by simp[itsK]
theorem qC1:strB [44,32]=strB [44]++strB [32]:=by kernel_rfl
theorem qDm:strB [32,124,32]=(strB [32]++strB [124])++strB [32]:=by kernel_rfl
theorem qEu:strB [83,69,81,40]=seqB++strB [40]:=by kernel_rfl
theorem qC9:∀ {l:List It},l≠[]→(∀ x∈l,RgI x)→∀ {u:By} {q:Nat},Has u q (itsT l)→Fn u (q+(itsT l).size)→Rd u q (itsK l) (q+(itsT l).size)
 |[],h,_,_,_,_,_=>absurd rfl h
 |[x],_,h,u,q,hu,hf=>qEk (h x au) hu hf
 |x::y::l,_,h,u,q,hu,hf=>by
  have e:itsT (x::y::l)=(itT x++strB [44,32])++itsT (y::l):=rfl;have ek:itsK (x::y::l)=itK x++yk comB::itsK (y::l):=rfl;rw[e,qC1]at hu hf;rw[e,ek,qC1];obtain⟨h1,h2⟩:=qzL hu;obtain⟨h1,h3⟩:=qzL h1;obtain⟨h3,h4⟩:=qzL h3;simp only[ByteArray.size_append,bsz1]at *;simp only[← Nat.add_assoc]at *;exact qzO (qEk (h x au) h1 (qz7 h3 (by decide) rfl)) (qzO (S:=[yk comB]) (qz2 (by omega) (by decide) h3)
   (qAc h4 (qDB (by simp)) (qC9 (by simp) (fun z hz=>h z (aB _ hz)) h2 hf)))
theorem qDW {l:List It}(hl:l≠[])(h:∀ x∈l,RgI x){u:By}{q:Nat}(hu:Has u q (brT l)):Rd u q (brK l) (q+(brT l).size):=by
 unfold brT at hu ⊢;rw[qEu]at hu ⊢;obtain⟨h1,h2⟩:=qzL hu;obtain⟨h1,h3⟩:=qzL h1;obtain⟨h1,h4⟩:=qzL h1;simp only[ByteArray.size_append,bsz1]at *;simp only[← Nat.add_assoc]at *;exact qzO (S:=[wk seqB]) (qz8 (by kernel_rfl) h1 (qz7 h4 (by decide) rfl)) (qzO (S:=[lp]) (qz2 (by omega) (by decide) h4)
  (qzO (qC9 hl h h3 (qz7 h2 (by decide) rfl)) (qz2 (by omega) (by decide) h2)))
theorem qBT:∀ {l:List (List It)},l≠[]→brsK l≠[]
 |[],h=>absurd rfl h
 |[x],_=>by simp[brsK,brK]
 |x::y::l,_=>by simp[brsK]
theorem qCY:∀ {l:List (List It)},l≠[]→(∀ b∈l,b≠[]∧∀ x∈b,RgI x)→∀ {u:By} {q:Nat},Has u q (brsT l)→Rd u q (brsK l) (q+(brsT l).size)
 |[],h,_,_,_,_=>absurd rfl h
 |[b],_,h,u,q,hu=>qDW (h b au).1 (h b au).2 hu
 |b::c::l,_,h,u,q,hu=>by
  have e:brsT (b::c::l)=(brT b++strB [32,124,32])++brsT (c::l):=rfl;have ek:brsK (b::c::l)=brK b++yk orB::brsK (c::l):=rfl;rw[e,qDm]at hu;rw[e,ek,qDm];obtain⟨h1,h2⟩:=qzL hu;obtain⟨h1,h3⟩:=qzL h1;obtain⟨h3,h4⟩:=qzL h3;obtain⟨h3,h5⟩:=qzL h3;simp only[ByteArray.size_append,bsz1]at *;simp only[← Nat.add_assoc]at *;exact qzO (qDW (h b au).1 (h b au).2 h1) (qAc h3 (by simp) (qzO (S:=[yk orB]) (qz2 (by omega) (by decide) h5)
   (qAc h4 (qBT (by simp)) (qCY (by simp) (fun z hz=>h z (aB _ hz)) h2))))
theorem qEy:strB [32,87,72,69,82,69,32]=(strB [32]++whB)++strB [32]:=by kernel_rfl
theorem qEs:strB [32,83,84,82,65,84,69,71,89,32]=(strB [32]++sgB)++strB [32]:=by kernel_rfl
theorem qEt:strB [32,87,73,84,72,73,78,32]=(strB [32]++wiB)++strB [32]:=by kernel_rfl
theorem qDa:strB [32,80,65,82,84,73,84,73,79,78,32,66,89,32]=(((strB [32]++paB)++strB [32])++byB)++strB [32]:=by kernel_rfl
theorem qEq:strB [80,65,84,84,69,82,78,32]=ptB++strB [32]:=by kernel_rfl
theorem qEQ {l:List Ex}(h:∀ x m,l=x::m→Rg (andL x m)){u:By}{q:Nat}(hu:Has u q (whT l))(hf:Fo u (q+(whT l).size)):Rd u q (whK l) (q+(whT l).size):=by
 cases l with
 |nil=>rfl
 |cons x m=>have hr:=h x m rfl;unfold whT at hu hf ⊢;unfold whK;rw[qEy]at hu hf ⊢;obtain⟨h1,h2⟩:=qzL hu;obtain⟨h1,h3⟩:=qzL h1;obtain⟨h1,h4⟩:=qzL h1;simp only[ByteArray.size_append,bsz1]at *;simp only[← Nat.add_assoc]at *;exact qAc h1 (by simp) (qzO (S:=[wk whB]) (qz8 (by kernel_rfl) h4 (qz7 h3 (by decide) rfl)) (qAc h3 (qDG hr) (qDK hr u _ h2 hf)))
theorem qEP {st:Int}(h:st=1∨st=2∨st=3):wdB (stB st)=true:=by rcases h with rfl|rfl|rfl<;>kernel_rfl
theorem qED {key:By}(h:key=strB []∨GN key){u:By}{q:Nat}(hu:Has u q (kyT key))(he:q+(kyT key).size=u.size):Rd u q (kyK key) (q+(kyT key).size):=by
 unfold kyT at hu he ⊢;unfold kyK;by_cases h0:key.size=0
 · rw[aD h0,aD h0];rfl
 ·
  rw[aF h0]at hu he;rw[aF h0,aF h0];have hg:GN key:=by
   rcases h with rfl|h
   · exact absurd rfl h0
   · exact h
  rw[qDa]at hu he ⊢;obtain⟨h1,h2⟩:=qzL hu;obtain⟨h1,h3⟩:=qzL h1;obtain⟨h1,h4⟩:=qzL h1;obtain⟨h1,h5⟩:=qzL h1;obtain⟨h1,h6⟩:=qzL h1;simp only[ByteArray.size_append,bsz1]at *;simp only[← Nat.add_assoc]at *;exact qAc h1 (by simp) (qzO (S:=[wk paB]) (qz8 (by kernel_rfl) h6 (qz7 h5 (by decide) rfl)) (qAc h5 (by simp) (qzO (S:=[wk byB]) (qz8 (by kernel_rfl) h4 (qz7 h3 (by decide) rfl))
   (qAc h3 (by simp) (qBj hg h2 fun hq=>by omega)))))
theorem qEN {q:Qu}(h:RgQ q):Rd (quT q) 0 (quK q) (quT q).size:=by
 obtain⟨u,hu0⟩:∃ u,u=quT q:=⟨_,rfl⟩
 have hu:Has u 0 (quT q):=by rw[hu0];exact qCH _
 have he:0+(quT q).size=u.size:=by rw[hu0,Nat.zero_add]
 rw[← hu0,show u.size=0+(quT q).size from he.symm];unfold quT behB at hu he ⊢;rw[qEs,qEt,qEq]at hu he ⊢;obtain⟨h1,hk⟩:=qzL hu;obtain⟨h1,h2⟩:=qzL h1;obtain⟨hp,hb⟩:=qzL h1;obtain⟨hp,hp1⟩:=qzL hp;obtain⟨h2,hw⟩:=qzL h2;obtain⟨h2,hB⟩:=qzL h2;obtain⟨h2,hT⟩:=qzL h2;obtain⟨h2,hA⟩:=qzL h2;have hA0:=hA;obtain⟨hA,hA3⟩:=qzL hA;obtain⟨hA1,hA2⟩:=qzL hA;obtain⟨hB,hB3⟩:=qzL hB;obtain⟨hB1,hB2⟩:=qzL hB;have hfw:Fo u (0+((ptB++strB [32])++brsT q.br).size+(whT q.wh).size):=by have:=hA1;intro hq;have h3:=this.2 0 (by decide);rw[Nat.add_zero]at h3;rw[h3];rfl
 have hky:=qED h.key hk;simp only[ByteArray.size_append,bsz1]at *;simp only[← Nat.add_assoc]at *;have hfn:∀ n,n=0+ptB.size+1+(brsT q.br).size+(whT q.wh).size+1+sgB.size+1+(stB q.st).size+1+wiB.size+1+(decS q.wd.toNat).size→Fo u n:=by
  rintro n rfl hq
  unfold kyT at hk he;by_cases h0:q.key.size=0
  · rw[aD h0,show(strB []).size=0 from rfl]at he;omega
  · rw[aF h0,qDa]at hk;have h3:=(qzL (qzL (qzL (qzL (qzL hk).1).1).1).1).1.2 0 (by decide);rw[Nat.add_zero]at h3;rw[h3];rfl
 unfold quK tlK;refine qzO (S:=[wk ptB]) (qz8 (by kernel_rfl) hp (qz7 hp1 (by decide) rfl)) (qAc hp1 (by simp[qBT h.br.1]) (qzO (qCY h.br.1 (fun b hb=>⟨(h.it b hb).1,(h.it b hb).2.2⟩) hb) (qzO (qEQ (fun x m e=>(h.tree e).1) h2 hfw)
  (qAc hA1 (by simp) (qzO (S:=[wk sgB]) (qz8 (by kernel_rfl) hA2 (qz7 hA3 (by decide) rfl)) (qAc hA3 (by simp) (qzO (S:=[wk (stB q.st)]) (qz8 (qEP h.st) hT (qz7 hB1 (by decide) rfl))
  (qAc hB1 (by simp) (qzO (S:=[wk wiB]) (qz8 (by kernel_rfl) hB2 (qz7 hB3 (by decide) rfl)) (qAc hB3 (by simp) (qzO (S:=[⟨3,strB [],q.wd,0⟩]) (qBF h.wd.2.2 hw (hfn _ rfl)) (hky he))))))))))))
theorem qDN {q:Qu}(h:RgQ q):∃ L,yn (quT q) ((quT q).size+1) 0=.inl (L++[endT (quT q)])∧L.map nop=quK q:=qCy _ _ _ _ _ (by omega) (by omega) (qEN h) (zk fun hq=>by omega)
end Ab
end Go.Proofs.YtpdhhkfllkgahaaGreatDoor

/-
  The program's scanner: what its functions tell, as plain functions of the text; tokens that are moved to another text.
-/
import Derived.Test.YtgfbbmjoflehlaaGreatDoorFQeq
import Derived.Lib.ItoaNum
set_option linter.all false
namespace Go.Proofs.YtgfbbmjoflehlaaGreatDoor
namespace Ab
def bAt (s:ByteArray)(p:Nat):Int:=((s.data.toList.getD p 0).toNat:Int)
def isLe (c:Int):Bool:=(decide (97<=c)&&decide (c<=122))||(decide (65<=c)&&decide (c<=90))
def isDi (c:Int):Bool:=decide (48<=c)&&decide (c<=57)
def isNm (c:Int):Bool:=isLe c||isDi c||c==95
def isBl (c:Int):Bool:=c==32||c==9||c==10||c==13
theorem qj3 (s)(p):0<=bAt s p:=by unfold bAt;omega
theorem qr2 (s)(p):bAt s p<=255:=by unfold bAt;have:=(s.data.toList.getD p 0).toNat_lt;omega
theorem qD (s:ByteArray):s.data.toList.length=s.size:=by simp_all
theorem qhT {s p}(h:p<s.size):s.data.toList[p]? = some (UInt8.ofNat (bAt s p).toNat):=by
 have h':p<s.data.toList.length:=by simp_all
 rw[ax h'];unfold bAt;simp_all
theorem qdy {s p}(h:p<s.size):Xp s p=some (bAt s p):=by
 unfold Xp bAt;have h1:s[p]? = some (s[p]'h):=by simp[h]
 have h':p<s.data.toList.length:=by simp_all
 rw[h1,List.getD_eq_getElem?_getD,ax h'];rfl
theorem qja {s p}(h):((s[p]'h).toNat:Int)=bAt s p:=by
 have:=qdy h;unfold Xp at this
 grind
theorem yw {α s}{p:Nat}(h:p<s.size)(k:Int->Option α):sxI s (p:Int) k=k (bAt s p):=by
 have:decide ((0:Int)<=(p:Int))=true:=by simp
 simp[sxI,qdy h]
theorem qol {α s}(h:0<s.size)(k:Int->Option α):sxI s 0 k=k (bAt s 0):=yw h k
def stop (f:Int->Bool)(s:ByteArray)(p:Nat):Nat:=if p<s.size then(if f (bAt s p)then stop f s (p+1)else p)else p
termination_by s.size-p
theorem zk {f s p}(h:p<s.size->f (bAt s p)=false):stop f s p=p:=by
 rw[stop]
 grind
theorem qo9 {f s p}(hp:p<s.size)(h:f (bAt s p)=true):stop f s p=stop f s (p+1):=by rw[stop,aD hp,h];rfl
theorem qhI (f)(s):∀ (n p:Nat),s.size-p<=n->p<=stop f s p
 |0,p,h=>by rw[zk (fun hp=>by omega)];omega
 |n+1,p,h=>by
  by_cases hp:p<s.size
  . cases hf:f (bAt s p)with
    |true=>rw[qo9 hp hf];have:=qhI f s n (p+1) (by omega);omega
    |false=>rw[zk (fun _=>hf)];omega
  . rw[zk (fun h=>absurd h hp)];omega
theorem zC (f s)(p):p<=stop f s p:=qhI f s _ p (Nat.le_refl _)
theorem qif (f)(s):∀ (n p:Nat),s.size-p<=n->p<=s.size->stop f s p<=s.size
 |0,p,h,hs=>by rw[zk (fun hp=>by omega)];exact hs
 |n+1,p,h,hs=>by
  by_cases hp:p<s.size
  . cases hf:f (bAt s p)with
    |true=>rw[qo9 hp hf];exact qif f s n (p+1) (by omega) (by omega)
    |false=>rw[zk (fun _=>hf)];exact hs
  . rw[zk (fun h=>absurd h hp)];exact hs
theorem yQ {f s p}(h:p<=s.size):stop f s p<=s.size:=qif f s _ p (Nat.le_refl _) h
theorem qig {f s}:∀ {n p:Nat},s.size-p<=n->∀ i,p<=i->i<stop f s p->f (bAt s i)=true
 |0,p,h,i,h1,h2=>by rw[zk (fun hp=>by omega)]at h2;omega
 |n+1,p,h,i,h1,h2=>by
  by_cases hp:p<s.size
  .
   cases hf:f (bAt s p)with
   |true=>
    rw[qo9 hp hf]at h2;by_cases e:i=p
    . grind
    . exact qig (n:=n) (by omega) i (by omega) h2
   |false=>rw[zk (fun _=>hf)]at h2;omega
  . rw[zk (fun h=>absurd h hp)]at h2;omega
theorem Qj {f s p i}(h1:p<=i)(h2:i<stop f s p):f (bAt s i)=true:=qig (Nat.le_refl _) i h1 h2
theorem size_ext (s:ByteArray)(a b)(hb:b<=s.size):(s.extract a b).size=b-a:=by simp_all
theorem Qz {s a b i}(hb:b<=s.size)(h:i<b-a):bAt (s.extract a b) i=bAt s (a+i):=by unfold bAt;simp_all
theorem qcK {a b}(hs:a.size=b.size)(h:∀ i,i<a.size->bAt a i=bAt b i):a=b:=by
 apply ByteArray.ext;apply Array.ext';apply List.ext_getElem?;intro i;by_cases hi:i<a.size
 . rw[qhT hi,qhT (by omega),h i hi]
 simp_all
theorem Qw (s:ByteArray):s.toList=s.data.toList:=ByteArray.toList_eq s
theorem toList_inj {a b:ByteArray}(h:a.toList=b.toList):a=b:=by apply ByteArray.ext;apply Array.ext';rw[<- Qw,<- Qw,h]
theorem wrapN {n:Nat}(h:n<9223372036854775808):IntKind.i64.wrap (n:Int)=(n:Int):=by rw[IntKind.wrap_i64];omega
theorem qes {x:Int}{n:Nat}(e:x=n)(h:n<9223372036854775808):IntKind.i64.wrap x=(n:Int):=by rw[e];exact wrapN h
def Tot {α:Type}(f:Nat->Option α)(r:α):Prop:=∃ N,∀ k,N<=k->f k=some r
def Goes {S R:Type}(step:Nat->(S->Option R)->S->Option R)(s:S)(r:R):Prop:=Tot (fun k=>itS step k s) r
theorem Goes.rec {S R step}{s s':S}{r:R}(h:Goes step s' r)(e:∃ N,∀ k,N<=k->∀ rec,step k rec s=rec s'):Goes step s r:=by
 obtain⟨N,hN⟩:=h;obtain⟨M,hM⟩:=e;refine⟨max N M+1,fun k hk=>?_⟩;obtain⟨j,rfl⟩:∃ j,k=j+1:=⟨k-1,by omega⟩
 show step j (itS step j) s=some r
 grind
theorem Goes.rec0 {S R step}{s s':S}{r:R}(h:Goes step s' r)(e:∀ k rec,step k rec s=rec s'):Goes step s r:=h.rec ⟨0,fun k _=>e k⟩
theorem Goes.fin {S R step}{s:S}{r:R}(e:∃ N,∀ k,N<=k->∀ rec,step k rec s=some r):Goes step s r:=by
 obtain⟨M,hM⟩:=e;refine⟨M+1,fun k hk=>?_⟩;obtain⟨j,rfl⟩:∃ j,k=j+1:=⟨k-1,by omega⟩
 exact hM j (by omega) _
theorem Goes.fin0 {S R step}{s:S}{r:R}(e:∀ k rec,step k rec s=some r):Goes step s r:=.fin ⟨0,fun k _=>e k⟩
theorem qjj {α f}{r:α}(N)(h:∀ j,f (j+N)=some r):Tot f r:=⟨N,fun k hk=>by obtain⟨j,rfl⟩:∃ j,k=j+N:=⟨k-N,by omega⟩;grind⟩
theorem Goes.call {S R A step}{s s':S}{r:R}{g}{a:A}(hg:Tot g a)(h:Goes step s' r)(e:∀ k rec,g k=some a->step k rec s=rec s'):Goes step s r:=by obtain⟨N,hN⟩:=hg;exact h.rec ⟨N,fun k hk rec=>e k rec (hN k hk)⟩
theorem Goes.call2 {S R A B step}{s s':S}{r:R}{g}{a:A}{g2}{b:B}(hg:Tot g a)(hg2:Tot g2 b)(h:Goes step s' r)(e:∀ k rec,g k=some a->g2 k=some b->step k rec s=rec s'):Goes step s r:=by obtain⟨N,hN⟩:=hg;obtain⟨M,hM⟩:=hg2;exact h.rec ⟨max N M,fun k hk rec=>e k rec (hN k (by omega)) (hM k (by omega))⟩
theorem Goes.done {S R A step}{s:S}{r:R}{g}{a:A}(hg:Tot g a)(e:∀ k rec,g k=some a->step k rec s=some r):Goes step s r:=by obtain⟨N,hN⟩:=hg;exact .fin ⟨N,fun k hk rec=>e k rec (hN k hk)⟩
theorem Goes.done2 {S R A B step}{s:S}{r:R}{g}{a:A}{g2}{b:B}(hg:Tot g a)(hg2:Tot g2 b)(e:∀ k rec,g k=some a->g2 k=some b->step k rec s=some r):Goes step s r:=by obtain⟨N,hN⟩:=hg;obtain⟨M,hM⟩:=hg2;exact .fin ⟨max N M,fun k hk rec=>e k rec (hN k (by omega)) (hM k (by omega))⟩
theorem Yi {α rows}{i:Nat}{row}(h:rows[i]? = some row)(k:List Cell->Option α):ixR rows (i:Int) k=k row:=by
 have:decide ((0:Int)<=(i:Int))=true:=by simp
 simp[ixR,h]
theorem qse {α:Type}{L:List α}{f:α->List Cell}{i:Nat}{x}(h:L[i]? = some x):(L.map f)[i]? = some (f x):=by grind
theorem zq (i:Nat)(h:i<4611686018427387904):IntKind.i64.wrap ((i:Int)+1)=((i+1:Nat):Int):=qes (by omega) (by omega)
theorem qk7 (i j:Nat)(h:i+j<4611686018427387904):IntKind.i64.wrap ((i:Int)+(j:Int))=((i+j:Nat):Int):=qes (by omega) (by omega)
section
variable [vo]
theorem qoP (c):Tot (fun k=>g68 k c) (isBl c):=Goes.fin0 (step:=qq4) (s:=.e c) fun k rec=>by simp only[nt,qq4,isBl];cases h1:c==32<;>cases h2:c==9<;>cases h3:c==10<;>rfl
theorem qA3 (c):Tot (fun k=>g49 k c) (isBl c):=Goes.fin0 (step:=qq2) (s:=.e c) fun k rec=>by simp only[nt,qq2,isBl];cases h1:c==32<;>cases h2:c==9<;>cases h3:c==10<;>rfl
theorem qzt (c):Tot (fun k=>g69 k c) (isLe c):=Goes.fin0 (step:=qpN) (s:=.e c) fun k rec=>by simp only[nt,qpN,isLe,ge_iff_le];cases h1:decide (97<=c)<;>cases h2:decide (c<=122)<;>cases h3:decide (65<=c)<;>rfl
theorem qwb (c):Tot (fun k=>g79 k c) (isLe c):=Goes.fin0 (step:=qyN) (s:=.e c) fun k rec=>by simp only[nt,qyN,isLe,ge_iff_le];cases h1:decide (97<=c)<;>cases h2:decide (c<=122)<;>cases h3:decide (65<=c)<;>rfl
theorem qxY (c):Tot (fun k=>g71 k c) (isDi c):=Goes.fin0 (step:=qp1) (s:=.e c) fun k rec=>by simp only[nt,qp1,isDi,ge_iff_le];cases h1:decide (48<=c)<;>rfl
theorem qw3 (c):Tot (fun k=>g82 k c) (isDi c):=Goes.fin0 (step:=qp2) (s:=.e c) fun k rec=>by simp only[nt,qp2,isDi,ge_iff_le];cases h1:decide (48<=c)<;>rfl
end
theorem qdo {c}(h:isNm c=true):Xa c≠4/\(Xa c>1↔isLe c=false):=by simp only[isNm,isLe,isDi,Bool.or_eq_true,aC,aX,beq_iff_eq,Bool.or_eq_false_iff,Bool.and_eq_false_iff,decide_eq_false_iff_not]at *;unfold Xa;omega
theorem qfa {c}(h:isNm c=true):c<128:=by simp only[isNm,isLe,isDi,Bool.or_eq_true,aC,aX,beq_iff_eq]at *;omega
theorem decode_at {s p}(hp:p<s.size)(h:bAt s p<128):Utf8.decode s p=((bAt s p).toNat,1):=by
 have e:=qja hp;rw[decode_ascii s p hp (by omega)]
 grind
theorem qfg {s}(hn:∀ i,i<s.size->isNm (bAt s i)=true):∀ (n pos:Nat),1<=pos->qaV s n pos=true
 |0,_,_=>rfl
 |n+1,pos,h1=>by
  by_cases hp:pos<s.size
  . have hb:=hn pos hp;have hd:=decode_at hp (qfa hb);have e:((Utf8.decode s pos).1:Int)=bAt s pos:=by rw[hd];have:=qj3 s pos;omega
    have:=qdo hb;rw[qcQ hp (by grind),hd];exact qfg hn n (pos+1) (by omega)
  . exact aF hp
def nmOk (w:ByteArray):Bool:=decide (1<=w.size)&&decide (w.size<=24)&&isLe (bAt w 0) && !YH w
theorem qe0 {s}(hn:∀ i,i<s.size->isNm (bAt s i)=true):qcL s=nmOk s:=by
 have hz:s.toList=[]↔s.size=0:=by rw[Qw,<- List.length_eq_zero_iff,qD]
 unfold qcL nmOk;by_cases h:s.toList=[]\/24<(s.size:Int)\/YH s=true
 . grind
 .
  rw[aF h];have h1:s.size≠0:=fun e=>h (.inl (hz.2 e));have h2:s.size<=24:=by omega
  have h3:YH s=false:=by grind
  obtain⟨n,hn1⟩:∃ n,s.size=n+1:=⟨s.size-1,by omega⟩
  have hp:0<s.size:=by omega
  have hb:=hn 0 hp;have hd:=decode_at hp (qfa hb);have e:((Utf8.decode s 0).1:Int)=bAt s 0:=by rw[hd];have:=qj3 s 0;omega
  have hbits:=qdo hb;rw[hn1];cases hl:isLe (bAt s 0)with
  |true=>
   have:¬ Xa (bAt s 0)>1:=fun hh=>by grind
   rw[qcQ hp (by grind),hd,qfg hn n _ (by omega)]
   grind
  |false=>rw[qfP hp (by grind)];simp
def qh9:List ByteArray:=qjc.map fun l=>strB (l.map UInt8.toNat)
theorem qez:qh9.map (fun x=>x.toList)=qjc:=by kernel_rfl
theorem qi2 (s):YH s=qh9.any fun x=>s.toList==x.toList:=by unfold YH;rw[<- qez,List.any_map];rfl
section
variable [vo]
theorem qlQ {a b}(rec:S85->Option R85):(bif a then rec (.h0 true)else rec (.h0 b))=rec (.h0 (a||b)):=by cases a<;>rfl
theorem qkm (s:ByteArray):Tot (fun k=>g85 k s) (YH s):=by
 refine Goes.rec0 (step:=Zr) (s:=.e s) (s':=.h0 (YH s)) (Goes.fin0 fun k rec=>?_) fun k rec=>?_
 . simp only[nt,Zr];cases YH s<;>rfl
 . simp only[nt,Zr,qlQ];rw[qi2];simp only[show qh9=[strB [80,65,84,84,69,82,78],strB [83,69,81],strB [87,72,69,82,69],strB [83,84,82,65,84,69,71,89],strB [87,73,84,72,73,78],strB [80,65,82,84,73,84,73,79,78],strB [66,89],strB [83,84,82,73,67,84],strB [78,69,88,84],strB [65,78,89],strB [65,78,68],strB [79,82],strB [78,79,84],strB [84,82,85,69],strB [70,65,76,83,69],strB [84,73,77,69],strB [82,69,65,76],strB [73,83,78,65,78],strB [67,79,85,78,84],strB [70,73,82,83,84],strB [76,65,83,84],strB [83,85,77],strB [77,73,78],strB [77,65,88],strB [77,69,65,78]]from by kernel_rfl,List.any_cons,List.any_nil,Bool.or_false]
theorem qqD {α}(x)(k:ByteArray->Option α):un_s [sc x] k=k x:=rfl
theorem qyu (s:ByteArray){L:List ByteArray}(hL:L.length<1000):∀ (n i:Nat),L.length-i<=n->Goes qq6 (.h0 s (L.map fun x=>[sc x]) (L.length:Int) (i:Int)) ((L.drop i).any fun x=>s.toList==x.toList)
 |0,i,h=>by rw[List.drop_eq_nil_of_le (by omega)];refine .fin0 fun k rec=>?_;simp only[nt,qq6,show decide ((i:Int)<(L.length:Int))=false from aN (by omega),af];rfl
 |n+1,i,h=>by
  by_cases hi:i<L.length
  . rw[List.drop_eq_getElem_cons hi,List.any_cons];have hrow:(L.map fun x=>[sc x])[i]? = some [sc L[i]]:=qse (ax hi);have hd:decide ((i:Int)<(L.length:Int))=true:=aO (by omega);have he:(L[i].toList==s.toList)=(s.toList==L[i].toList):=Bool.beq_comm;cases hq:(s.toList==L[i].toList)with
    |true=>refine .fin0 fun k rec=>?_;simp only[nt,qq6,hd,ah,Yi hrow,qqD,he,hq,Bool.true_or]
    |false=>refine Goes.rec0 (qyu s hL n (i+1) (by omega)) fun k rec=>?_;simp only[nt,qq6,hd,ah,Yi hrow,qqD,he,hq,af,zq i (by omega)]
  . rw[List.drop_eq_nil_of_le (by omega)];refine .fin0 fun k rec=>?_;simp only[nt,qq6,show decide ((i:Int)<(L.length:Int))=false from aN (by omega),af];rfl
theorem qCm:Tot (fun k=>g103 k) (qh9.map fun x=>[sc x]):=Goes.fin0 (step:=qyo) (s:=.e) fun k rec=>by kernel_rfl
theorem qzw (s:ByteArray):Tot (fun k=>g81 k s) (YH s):=by have h:=qyu s (L:=qh9) (by rw[show qh9.length=25 from by kernel_rfl];omega) 25 0 (by rw[show qh9.length=25 from by kernel_rfl];omega);rw[List.drop_zero,<- qi2]at h;refine Goes.call (step:=qq6) (s:=.e s) qCm h fun k rec e=>?_;simp only[nt,qq6,e,ae,List.length_map];rfl
theorem qrQ {s}(hn:∀ i,i<s.size->isNm (bAt s i)=true)(hs:s.size<=4000):∀ (n i:Nat),s.size-i<=n->Goes qpc (.h1 s (i:Int)) true
 |0,i,h=>.fin0 fun k rec=>by simp only[nt,qpc,show decide ((i:Int)<(s.size:Int))=false from aN (by omega),af]
 |n+1,i,h=>by
  by_cases hi:i<s.size
  . have hd:decide ((i:Int)<(s.size:Int))=true:=aO (by omega);have hb:=hn i hi;have h2:Goes qpc (.h2 s (i:Int) false) true:=by refine Goes.rec0 (qrQ hn hs n (i+1) (by omega)) fun k rec=>?_;simp only[nt,qpc,af,zq i (by omega)]
    refine Goes.call2 (qwb (bAt s i)) (qw3 (bAt s i)) h2 fun k rec e1 e2=>?_;simp only[nt,qpc,hd,ah,yw hi,e1,e2,ae];simp only[isNm,Bool.or_eq_true,beq_iff_eq]at hb
    grind
  . exact .fin0 fun k rec=>by simp only[nt,qpc,show decide ((i:Int)<(s.size:Int))=false from aN (by omega),af]
theorem qsc {s}(hn:∀ i,i<s.size->isNm (bAt s i)=true)(hs:s.size<=4000):Tot (fun k=>g63 k s) (nmOk s):=by
 have no:Goes qpc (.h0 s true) false:=.fin0 fun k rec=>by simp only[nt,qpc,ah]
 have yes:Goes qpc (.h0 s false) true:=Goes.rec0 (qrQ hn hs s.size 0 (Nat.sub_le _ _)) fun k rec=>by simp only[nt,qpc,af];rfl
 unfold nmOk;by_cases h1:s.size<1
 . have e1:decide (1<=s.size)=false:=aN (by omega);rw[e1];refine Goes.rec0 (step:=qpc) (s:=.e s) no fun k rec=>?_;simp only[nt,qpc,show decide ((s.size:Int)<1)=true from aO (by omega),ah]
 .
  have e1:decide (1<=s.size)=true:=aO (by omega);have d1:decide ((s.size:Int)<1)=false:=aN (by omega);by_cases h2:24<s.size
  . have e2:decide (s.size<=24)=false:=aN (by omega);rw[e1,e2];refine Goes.rec0 (step:=qpc) (s:=.e s) no fun k rec=>?_;simp only[nt,qpc,d1,show decide ((s.size:Int)>24)=true from aO (by omega),ah,af]
  .
   have e2:decide (s.size<=24)=true:=aO (by omega);have d2:decide ((s.size:Int)>24)=false:=aN (by omega);rw[e1,e2];have h0:(0:Nat)<s.size:=by omega
   cases hl:isLe (bAt s 0)with
   |false=>refine Goes.call (step:=qpc) (s:=.e s) (qwb (bAt s 0)) no fun k rec e=>?_;rw[hl]at e;simp only[nt,qpc,d1,d2,af,show((0:Int))=((0:Nat):Int)from rfl,yw h0,e,ae,ak,ah]
   |true=>
    cases hw:YH s with
    |true=>refine Goes.call2 (step:=qpc) (s:=.e s) (qwb (bAt s 0)) (qzw s) no fun k rec e e'=>?_;rw[hl]at e;rw[hw]at e';simp only[nt,qpc,d1,d2,af,show((0:Int))=((0:Nat):Int)from rfl,yw h0,e,e',ae,aj,af]
    |false=>refine Goes.call2 (step:=qpc) (s:=.e s) (qwb (bAt s 0)) (qzw s) yes fun k rec e e'=>?_;rw[hl]at e;rw[hw]at e';simp only[nt,qpc,d1,d2,af,show((0:Int))=((0:Nat):Int)from rfl,yw h0,e,e',ae,aj,af]
theorem ltT {a b:Nat}(h:a<b):decide ((a:Int)<(b:Int))=true:=aO (by omega)
theorem ltF {a b:Nat}(h:¬ a<b):decide ((a:Int)<(b:Int))=false:=aN (by omega)
theorem bnds {s:ByteArray}{a b}(h1:a<=b)(h2:b<=s.size):decide (0<=(a:Int)/\(a:Int)<=(b:Int)/\(b:Int)<=(s.size:Int))=true:=aO (by omega)
theorem ZW {α}(x:Option α):gd true x=x:=rfl
theorem qc0 (s:ByteArray)(a b:Nat):s.extract (Int.toNat (a:Int)) (Int.toNat (b:Int))=s.extract a b:=rfl
theorem qAx {s:ByteArray}{p q}(hs:s.size<=4000):∀ (n e:Nat),s.size-e<=n->p<=e->e<=s.size->Goes qvR (.h0 (p:Int) (e:Int) s q) (s.extract p (stop isNm s e)):=by
 have fin:∀ e:Nat,p<=e->e<=s.size->Goes qvR (.h1 (p:Int) (e:Int) false s q) (s.extract p e):=fun e h1 h2=>.fin0 fun k rec=>by simp only[nt,qvR,af,bnds h1 h2,ZW,qc0]
 intro n
 induction n with
 |zero=>intro e h1 h2 h3;rw[zk (fun h=>by omega)];exact Goes.rec0 (fin e h2 h3) fun k rec=>by simp only[nt,qvR,ltF (show ¬ e<s.size by omega),af]
 |succ n ih=>
  intro e h1 h2 h3;by_cases he:e<s.size
  .
   cases hb:isNm (bAt s e)with
   |true=>
    rw[qo9 he hb];have h4:Goes qvR (.h1 (p:Int) (e:Int) true s q) (s.extract p (stop isNm s (e+1))):=Goes.rec0 (ih (e+1) (by omega) (by omega) (by omega)) fun k rec=>by simp only[nt,qvR,ah,zq e (by omega)]
    refine Goes.call2 (qzt (bAt s e)) (qxY (bAt s e)) h4 fun k rec e1 e2=>?_;simp only[nt,qvR,ltT he,ah,yw he,e1,e2,ae];simp only[isNm,Bool.or_eq_true,beq_iff_eq]at hb
    grind
   |false=>rw[zk (fun _=>hb)];refine Goes.call2 (qzt (bAt s e)) (qxY (bAt s e)) (fin e h2 h3) fun k rec e1 e2=>?_;simp only[isNm,Bool.or_eq_false_iff]at hb;simp only[nt,qvR,ltT he,ah,yw he,e1,e2,ae,hb.1.1,hb.1.2,hb.2,af]
  grind
theorem qA5 {s:ByteArray}{p q}(hs:s.size<=4000)(hp:p<=s.size):Tot (fun k=>g97 k (p:Int) s q) (s.extract p (stop isNm s p)):=Goes.rec0 (step:=qvR) (s:=.e (p:Int) s q) (qAx (p:=p) hs _ p (Nat.le_refl _) (Nat.le_refl _) hp) fun k rec=>rfl
theorem qAy {s:ByteArray}{p q}(hs:s.size<=4000):∀ (n e:Nat),s.size-e<=n->p<=e->e<=s.size->Goes qvS (.h0 (p:Int) (e:Int) s q) (s.extract p (stop isDi s e)):=by
 have fin:∀ e:Nat,p<=e->e<=s.size->Goes qvS (.h1 (p:Int) (e:Int) false s q) (s.extract p e):=fun e h1 h2=>.fin0 fun k rec=>by simp only[nt,qvS,af,bnds h1 h2,ZW,qc0]
 intro n
 induction n with
 |zero=>intro e h1 h2 h3;rw[zk (fun h=>by omega)];exact Goes.rec0 (fin e h2 h3) fun k rec=>by simp only[nt,qvS,ltF (show ¬ e<s.size by omega),af]
 |succ n ih=>
  intro e h1 h2 h3;by_cases he:e<s.size
  .
   cases hb:isDi (bAt s e)with
   |true=>
    rw[qo9 he hb];have h4:Goes qvS (.h1 (p:Int) (e:Int) true s q) (s.extract p (stop isDi s (e+1))):=Goes.rec0 (ih (e+1) (by omega) (by omega) (by omega)) fun k rec=>by simp only[nt,qvS,ah,zq e (by omega)]
    refine Goes.call (qxY (bAt s e)) h4 fun k rec e1=>?_;simp only[nt,qvS,ltT he,ah,yw he,e1,hb,ae]
   |false=>rw[zk (fun _=>hb)];refine Goes.call (qxY (bAt s e)) (fin e h2 h3) fun k rec e1=>?_;simp only[nt,qvS,ltT he,ah,yw he,e1,hb,ae]
  grind
theorem qA6 {s:ByteArray}{p q}(hs:s.size<=4000)(hp:p<=s.size):Tot (fun k=>g98 k (p:Int) s q) (s.extract p (stop isDi s p)):=Goes.rec0 (step:=qvS) (s:=.e (p:Int) s q) (qAy (p:=p) hs _ p (Nat.le_refl _) (Nat.le_refl _) hp) fun k rec=>rfl
def fOf (names:Bool):Int->Bool:=if names then isNm else isDi
theorem qAw {s:ByteArray}{p b}(hs:s.size<=4000):∀ (n j:Nat),s.size-(p+j)<=n->p+j<=s.size->Goes qq5 (.h0 s (p:Int) b (j:Int)) ((stop (fOf b) s (p+j)-p:Nat):Int):=by
 have fin:∀ j:Nat,Goes qq5 (.h1 s (p:Int) b (j:Int) false) (j:Int):=fun j=>.fin0 fun k rec=>by simp only[nt,qq5,af]
 intro n
 induction n with
 |zero=>intro j h1 h2;rw[zk (fun h=>by omega),Nat.add_sub_cancel_left];exact Goes.rec0 (fin j) fun k rec=>by simp only[nt,qq5,qk7 p j (by omega),ltF (show ¬ p+j<s.size by omega),af]
 |succ n ih=>
  intro j h1 h2;by_cases he:p+j<s.size
  .
   have hw:=qk7 p j (by omega);cases hb:fOf b (bAt s (p+j))with
   |true=>
    rw[qo9 he hb];have h4:Goes qq5 (.h1 s (p:Int) b (j:Int) true) ((stop (fOf b) s (p+(j+1))-p:Nat):Int):=Goes.rec0 (ih (j+1) (by omega) (by omega)) fun k rec=>by simp only[nt,qq5,ah,zq j (by omega)]
    rw[show p+j+1=p+(j+1)by omega];refine Goes.call2 (qw3 (bAt s (p+j))) (qwb (bAt s (p+j))) h4 fun k rec e1 e2=>?_;simp only[nt,qq5,hw,ltT he,ah,yw he,e1,e2,ae];cases b with
    |false=>
     have:isDi (bAt s (p+j))=true:=hb
     grind
    |true=>
     have hb:isNm (bAt s (p+j))=true:=hb;simp only[isNm,Bool.or_eq_true,beq_iff_eq]at hb
     grind
   |false=>
    rw[zk (fun _=>hb),Nat.add_sub_cancel_left];refine Goes.call2 (qw3 (bAt s (p+j))) (qwb (bAt s (p+j))) (fin j) fun k rec e1 e2=>?_;simp only[nt,qq5,hw,ltT he,ah,yw he,e1,e2,ae];cases b with
    |false=>
     have:isDi (bAt s (p+j))=false:=hb
     grind
    |true=>
     have hb:isNm (bAt s (p+j))=false:=hb;simp only[isNm,Bool.or_eq_false_iff]at hb
     grind
  grind
theorem qo3 {s:ByteArray}{p b}(hs:s.size<=4000)(hp:p<=s.size):Tot (fun k=>g80 k s (p:Int) b) ((stop (fOf b) s p-p:Nat):Int):=Goes.rec0 (step:=qq5) (s:=.e s (p:Int) b) (qAw (b:=b) hs _ 0 (Nat.le_refl _) (by omega)) fun k rec=>rfl
end
def dg8 (c:UInt8):Nat:=c.toNat-48
def dvF (x:Nat)(l:List UInt8):Nat:=l.foldl (fun x c=>10*x+dg8 c) x
theorem qi1 (x c)(l):dvF x (c::l)=dvF (10*x+dg8 c) l:=by
 unfold dvF
 grind
theorem qku (c):dg8 c=c.toNat-48:=rfl
def dv (l:List UInt8):Nat:=dvF 0 l
def isDg (c:UInt8):Prop:=48<=c.toNat/\c.toNat<=57
theorem qkd:∀ (l:List UInt8) (x:Nat),x<=dvF x l
 |[],x=>Nat.le_refl _
 |c::l,x=>Nat.le_trans (by omega) (qkd l (10*x+dg8 c))
theorem qqG (l x)(c):dvF x (l++[c])=10*dvF x l+dg8 c:=by
 unfold dvF
 grind
theorem qj0:∀ (l:List UInt8) (x:Nat),(∀ c∈l,isDg c)->dvF x l<(x+1)*10 ^ l.length
 |[],x,h=>by show x<(x+1)*10 ^ 0;omega
 |c::l,x,h=>by
  have h1:=h c au;have h0:=qku c;have:=qj0 l (10*x+dg8 c) (fun c hc=>h c (aB _ hc));have h2:10*x+dg8 c+1<=10*(x+1):=by have:=h1.2;omega
  show dvF (10*x+dg8 c) l<(x+1)*10 ^ (l.length+1);rw[Nat.pow_succ];generalize 10 ^ l.length=z at this |-;have h3:=Nat.mul_le_mul_right z h2
  grind
theorem qnu {l}(h:∀ c∈l,isDg c):dv l<10 ^ l.length:=by have:=qj0 l 0 h;simpa [dv]using this
theorem qki:∀ (l:List UInt8) (x:Nat),(∀ c∈l,isDg c)->Lib.parseUintM (2 ^ 64-1) x l=if dvF x l<=2 ^ 64-1 then .ok (dvF x l)else(if x<=2 ^ 64-1 then .range else Lib.parseUintM (2 ^ 64-1) x l)
 |[],x,h=>by
  by_cases hx:x<=2 ^ 64-1
  . rw[aD (show dvF x []<=2 ^ 64-1 from hx)];rfl
  . rw[aF (show ¬ dvF x []<=2 ^ 64-1 from hx),aF hx]
 |c::l,x,h=>by
  have h1:48<=c.toNat/\c.toNat<=57:=h c au;have ih:=qki l (x*10+(c.toNat-48)) (fun c hc=>h c (aB _ hc));have e:10*x+dg8 c=x*10+(c.toNat-48):=by have:=qku c;omega
  have hge:=qkd l (x*10+(c.toNat-48));rw[qi1,e];by_cases hv:dvF (x*10+(c.toNat-48)) l<=2 ^ 64-1
  . rw[aD hv]at ih |-;unfold Lib.parseUintM
    grind
  .
   rw[aF hv]at ih |-;by_cases hx:x<=2 ^ 64-1
   . rw[aD hx];unfold Lib.parseUintM
     grind
   grind
theorem qdz {l}(hne:l≠[])(h:∀ c∈l,isDg c):Lib.parseIntB 64 l=if dv l<2 ^ 63 then .ok (dv l:Int)else .range:=by
 cases l with
 |nil=>grind
 |cons c r=>
  have h1:=h c au;unfold isDg at h1;have hu:Lib.parseUintB 64 (c::r)=if dv (c::r)<=2 ^ 64-1 then .ok (dv (c::r))else .range:=by
   unfold Lib.parseUintB;rw[aF (by simp),qki _ 0 h];unfold dv
   grind
  unfold Lib.parseIntB
  grind
theorem qqh {u}(h:u<10):Lib.decDigits u=[UInt8.ofNat (48+u)]:=by rw[Lib.decDigits,dif_pos h]
theorem qrj {u}(h:¬ u<10):Lib.decDigits u=Lib.decDigits (u / 10)++[UInt8.ofNat (48+u % 10)]:=by rw[Lib.decDigits,dif_neg h]
theorem qrk {c}(h:isDg c):UInt8.ofNat (48+(c.toNat-48))=c:=by unfold isDg at h;simp_all
theorem qtf {l}(hne:l≠[])(h:∀ c∈l,isDg c)(h0:l.head?≠some 48):1<=dv l:=by
 cases l with
 |nil=>grind
 |cons c r=>
  have h1:=h c au;unfold isDg at h1;have h2:c.toNat≠48:=fun e=>h0 (by
   have:c=48:=by apply UInt8.toNat_inj.1;exact e
   grind)
  have:=qkd r (10*0+dg8 c);have h3:=qku c;show 1<=dvF (10*0+dg8 c) r;omega
theorem qr6:∀ (n:Nat) (l:List UInt8),l.length=n+1->(∀ c∈l,isDg c)->(1<l.length->l.head?≠some 48)->Lib.decDigits (dv l)=l
 |0,l,hl,h,h0=>by
  match l,hl with
  |[c],_=>
   have h1:=h c au;have e:dv [c]=c.toNat-48:=by show 10*0+dg8 c=_;rw[qku];omega
   rw[e,qqh (by have:=h1.2;omega),qrk h1]
 |n+1,l,hl,h,h0=>by
  have hne:l≠[]:=by grind
  obtain⟨r,c,rfl⟩:∃ r c,l=r++[c]:=⟨l.dropLast,l.getLast hne,(List.dropLast_concat_getLast hne).symm⟩
  have hr:r.length=n+1:=by grind
  have hrne:r≠[]:=by grind
  have hc:=h c (aS _ au);have hrd:∀ x∈r,isDg x:=fun x hx=>h x (aL _ hx);have hh:r.head?≠some 48:=by grind
  have hp:=qtf hrne hrd hh;have e:dv (r++[c])=10*dv r+(c.toNat-48):=qqG r 0 c;have h9:c.toNat-48<10:=by have:=hc.2;omega
  rw[e,qrj (by omega),show(10*dv r+(c.toNat-48)) / 10=dv r by omega,show(10*dv r+(c.toNat-48)) % 10=c.toNat-48 by omega,qrk hc,qr6 n r hr hrd (fun _=>hh)]
theorem u64w {n:Nat}(h:n<18446744073709551616):IntKind.u64.wrap (n:Int)=(n:Int):=by unfold IntKind.wrap;simp[IntKind.bits,IntKind.signed];omega
theorem u8w {n:Nat}(h:n<256):IntKind.u8.wrap (n:Int)=(n:Int):=by unfold IntKind.wrap;simp[IntKind.bits,IntKind.signed];omega
def decS (u:Nat):ByteArray:=⟨(Lib.decDigits u).toArray⟩
def qra (n:Int):ByteArray:=⟨(Lib.itoa n).toArray⟩
theorem qo2 {a b:ByteArray}(h:a.data.toList=b.data.toList):a=b:=ByteArray.ext (Array.ext' h)
theorem YO (a b:ByteArray):(a++b).data.toList=a.data.toList++b.data.toList:=by simp_all
theorem qp3 (n:Nat):(qhy [(n:Int)]).data.toList=[UInt8.ofNat n]:=by simp[qhy]
theorem qpC {u}(h:u<10):decS u=qhy [((48+u:Nat):Int)]:=by apply qo2;rw[qp3];show(Lib.decDigits u).toArray.toList=_;rw[qqh h]
theorem qrJ {u}(h:¬ u<10):decS u=decS (u / 10)++qhy [((48+u % 10:Nat):Int)]:=by apply qo2;rw[YO,qp3];show(Lib.decDigits u).toArray.toList=(Lib.decDigits (u / 10)).toArray.toList++_;rw[qrj h]
theorem qrd (a b c:ByteArray):(a++b)++c=a++(b++c):=by apply qo2;simp_all
theorem qsx (a):a++strB []=a:=by apply qo2;rw[YO];exact List.append_nil _
theorem qpP (n):(qhy [n]).size=1:=rfl
theorem qko {s}(h:∀ i,i<s.size->isDi (bAt s i)=true):∀ c∈s.data.toList,isDg c:=by
 intro c hc;obtain⟨i,hi,rfl⟩:=List.getElem_of_mem hc;have hi':i<s.size:=by rw[<- qD];exact hi
 have:=h i hi';unfold bAt at this;rw[List.getD_eq_getElem?_getD,ax hi,Option.getD_some]at this;simp only[isDi,aC,aX]at this;unfold isDg;omega
section
variable [vo]
theorem qqF {d:Nat}(h:d<10):IntKind.u8.wrap (IntKind.u64.wrap ((48:Int)+(d:Int)))=((48+d:Nat):Int):=by rw[show(48:Int)+(d:Int)=((48+d:Nat):Int)by omega,u64w (by omega),u8w (by omega)]
theorem qxs (n):∀ (j u:Nat) (s:ByteArray),u<10 ^ (j+1)->u<18446744073709551616->s.size+j<=1000->Goes qfl (.h1 n s (u:Int)) (if n<0 then strB [45]++(decS u++s)else decS u++s)
 |0,u,s,h,hu,hs=>by
  have h9:u<10:=by omega
  refine .fin0 fun k rec=>?_;have d9:decide ((u:Int)>9)=false:=aN (by omega);simp only[nt,qfl,d9,af,qqF h9,<- qpC h9];have z1:decide ((decS u).size+s.size<=1000000000)=true:=aO (by rw[qpC h9,qpP];omega);by_cases hn:n<0
  . have z2:decide ((strB [45]).size+(decS u++s).size<=1000000000)=true:=aO (by rw[ByteArray.size_append,qpC h9,qpP];show 1+(1+s.size)<=_;omega);simp only[z1,ZW,aO hn,ah,z2,aD hn]
  . simp only[z1,ZW,aN hn,af,aF hn]
 |j+1,u,s,h,hu,hs=>by
  by_cases h9:u<10
  . exact qxs n 0 u s (by omega) hu (by omega)
  . have ih:=qxs n j (u / 10) (qhy [((48+u % 10:Nat):Int)]++s) (by omega) (by omega) (by rw[ByteArray.size_append,qpP];omega);rw[<- qrd (decS (u / 10)),<- qrJ h9]at ih;refine Goes.rec0 ih fun k rec=>?_;have d9:decide ((u:Int)>9)=true:=aO (by omega);have e1:Int.tmod (u:Int) 10=((u % 10:Nat):Int):=rfl;have e2:Int.tdiv (u:Int) 10=((u / 10:Nat):Int):=rfl;simp only[nt,qfl,d9,ah,e1,e2,qqF (Nat.mod_lt u (show 10>0 by omega)),u64w (show u / 10<18446744073709551616 by omega)];have z1:decide ((qhy [((48+u % 10:Nat):Int)]).size+s.size<=1000000000)=true:=aO (by rw[qpP];omega);rw[z1,ZW]
theorem yZ {n}(h1 : -9223372036854775808<=n)(h2:n<=9223372036854775807):Tot (fun k=>g37 k n) (qra n):=by
 have key:∀ u:Nat,u<18446744073709551616->Goes qfl (.h0 n (strB []) (u:Int)) (if n<0 then strB [45]++decS u else decS u):=by intro u hu;have:=qxs n 20 u (strB []) (by omega) hu (by show 0+20<=1000;omega);rw[qsx]at this;exact Goes.rec0 this fun k rec=>rfl
 by_cases hn:n<0
 .
  have e:IntKind.u64.wrap ((0:Int)-IntKind.u64.wrap n)=(n.natAbs:Int):=by
   have e1:IntKind.u64.wrap n=n+18446744073709551616:=by unfold IntKind.wrap;simp[IntKind.bits,IntKind.signed];omega
   rw[e1];unfold IntKind.wrap;simp[IntKind.bits,IntKind.signed];omega
  have hk:=key n.natAbs (by omega);rw[aD hn]at hk;have e3:strB [45]++decS n.natAbs=qra n:=by apply qo2;rw[YO];show _++(Lib.decDigits n.natAbs).toArray.toList=(Lib.itoa n).toArray.toList;unfold Lib.itoa;rw[aD hn];rfl
  rw[e3]at hk;refine Goes.rec0 (step:=qfl) (s:=.e n) hk fun k rec=>?_;simp only[nt,qfl,aO hn,ah,e]
 .
  obtain⟨u,rfl⟩:=Int.eq_ofNat_of_zero_le (Int.not_lt.1 hn);have hk:=key u (by omega);rw[aF hn]at hk;have e3:decS u=qra (u:Int):=by
   apply qo2;show(Lib.decDigits u).toArray.toList=(Lib.itoa (u:Int)).toArray.toList;unfold Lib.itoa
   grind
  rw[e3]at hk;refine Goes.rec0 (step:=qfl) (s:=.e (u:Int)) hk fun k rec=>?_;simp only[nt,qfl,aN hn,af,u64w (show u<18446744073709551616 by omega)]
theorem Xn {s}(h:∀ i,i<s.size->isDi (bAt s i)=true)(h1:1<=s.size)(h2:s.size<=4000):
  qag s=some (if dv s.data.toList<2 ^ 63 then some (dv s.data.toList:Int)else none):=by
 have hne:s.data.toList≠[]:=by
  intro e;have:=qD s
  grind
 unfold qag;rw[aD (by omega),qdz hne (qko h)]
 grind
end
theorem qrl:∀ (l:List UInt8) (x:Nat),x*10 ^ l.length<=dvF x l
 |[],x=>by show x*10 ^ 0<=x;omega
 |c::l,x=>by
  have ih:=qrl l (10*x+dg8 c);rw[qi1];refine Nat.le_trans ?_ ih;show x*10 ^ (l.length+1)<=_;rw[Nat.pow_succ]
  grind
theorem qte {l n}(hl:l.length=n+1)(h:∀ c∈l,isDg c)(h0:l.head?≠some 48):10 ^ n<=dv l:=by
 cases l with
 |nil=>grind
 |cons c r=>
  have h1:=h c au;unfold isDg at h1;have h2:c.toNat≠48:=fun e=>h0 (by
   have:c=48:=by apply UInt8.toNat_inj.1;exact e
   grind)
  have h3:=qrl r (10*0+dg8 c);have h4:1<=10*0+dg8 c:=by have:=qku c;omega
  have hr:r.length=n:=by grind
  rw[hr]at h3;show 10 ^ n<=dvF (10*0+dg8 c) r;exact Nat.le_trans (by have:=Nat.mul_le_mul_right (10 ^ n) h4;omega) h3
theorem qqS {s}(h1:1<=s.size):s.data.toList.head? = some (UInt8.ofNat (bAt s 0).toNat):=by rw[List.head?_eq_getElem?];exact qhT h1
theorem qrt {s}(h1:1<=s.size)(h:bAt s 0≠48):s.data.toList.head?≠some 48:=by
 rw[qqS h1];intro e;apply h;have e2:(UInt8.ofNat (bAt s 0).toNat).toNat=(48:UInt8).toNat:=by simp_all
 rw[UInt8.toNat_ofNat',Nat.mod_eq_of_lt (by have:=qr2 s 0;omega)]at e2
 grind
def pre (s:ByteArray)(i:Nat):Nat:=dv (s.data.toList.take i)
theorem qqU {s i}(hi:i<s.size)(hd:isDi (bAt s i)=true):((pre s (i+1):Nat):Int)=10*(pre s i:Int)+(bAt s i-48):=by
 have hi':i<s.data.toList.length:=by simp_all
 unfold pre;rw[List.take_add_one,ax hi'];show((dvF 0 (_++[_]):Nat):Int)=_;rw[qqG];have e:bAt s i=((s.data.toList[i]).toNat:Int):=by
  unfold bAt
  grind
 simp only[isDi,aC,aX]at hd;have h8:=qku (s.data.toList[i]);unfold dv;omega
theorem qqV (s):pre s 0=0:=by unfold pre;rw[List.take_zero];rfl
theorem qqA (s):pre s s.size=dv s.data.toList:=by unfold pre;rw[<- qD,List.take_length]
theorem qqT {s}(h:∀ i,i<s.size->isDi (bAt s i)=true){i}(hi:i<=s.size):pre s i<10 ^ i:=by have:=qnu (l:=s.data.toList.take i) (fun c hc=>qko h c (List.mem_of_mem_take hc));rw[List.length_take,qD,Nat.min_eq_left hi]at this;exact this
theorem qqj {i}(h:i<=19):10 ^ i<=10 ^ 19:=Nat.pow_le_pow_right (by omega) h
section
variable [vo]
theorem qxV {s}(h:∀ i,i<s.size->isDi (bAt s i)=true)(hs:s.size<=19):∀ (n i:Nat),s.size-i=n->i<=s.size->∀ r,Goes qvl (.h4 s s (IntKind.i64.wrap (dv s.data.toList:Int))) r ->
  Goes qvl (.h2 s s (pre s i:Int) (i:Int)) r
 |0,i,h1,h2,r,hr=>by
  obtain rfl:i=s.size:=by omega
  rw[qqA];refine Goes.rec0 hr fun k rec=>?_;simp only[nt,qvl,ltF (Nat.lt_irrefl s.size),af]
 |n+1,i,h1,h2,r,hr=>by
  have hi:i<s.size:=by omega
  have ih:=qxV h hs n (i+1) (by omega) (by omega) r hr;have hd:=h i hi;have hp:=qqT h (Nat.le_of_lt hi);have hp2:=qqj (show i+1<=19 by omega);have hp3:=qqT h (show i+1<=s.size by omega);have hd':=hd;simp only[isDi,aC,aX]at hd';have e:=qqU hi hd;have h3:Goes qvl (.h3 s s (pre s i:Int) (i:Int) false) r:=by
   refine Goes.rec0 ih fun k rec=>?_;simp only[nt,qvl,af,yw hi,zq i (by omega)];have e1:IntKind.u64.wrap ((10:Int)*(pre s i:Int))=((10*pre s i:Nat):Int):=by rw[show(10:Int)*(pre s i:Int)=((10*pre s i:Nat):Int)by omega,u64w (by omega)]
   obtain⟨d,hdd⟩:∃ d:Nat,bAt s i-48=(d:Int):=⟨(bAt s i-48).toNat,by omega⟩
   have e2:IntKind.u64.wrap (IntKind.u8.wrap (bAt s i-48))=(d:Int):=by rw[hdd,u8w (by omega),u64w (by omega)]
   rw[e1,e2,show((10*pre s i:Nat):Int)+(d:Int)=((pre s (i+1):Nat):Int)by omega,u64w (by omega)]
  refine Goes.call (qw3 (bAt s i)) h3 fun k rec e=>?_;simp only[nt,qvl,ltT hi,ah,yw hi,e,hd,ae,aj,af,show decide ((i:Int)>18)=false from aN (by omega)]
theorem qCn {s}(h:∀ i,i<s.size->isDi (bAt s i)=true)(h1:1<=s.size)(hs:s.size<=19)(h0:1<s.size->bAt s 0≠48):
  ∃ m:Int,Tot (fun k=>g104 k s) (m,decide (dv s.data.toList<2 ^ 63))/\(dv s.data.toList<2 ^ 63->m=(dv s.data.toList:Int)):=by
 have hv:dv s.data.toList<10 ^ 19:=by have:=qqT h (Nat.le_refl s.size);rw[qqA]at this;exact Nat.lt_of_lt_of_le this (qqj hs)
 have hp:decide ((s.size:Int)>0)=true:=aO (by omega);have hc:bAt s 0≠45:=by have:=h 0 (by omega);simp only[isDi,aC,aX]at this;omega
 have start:∀ r,Goes qvl (.h4 s s (IntKind.i64.wrap (dv s.data.toList:Int))) r->Tot (fun k=>g104 k s) r:=by
  intro r hr;have hl:=qxV h hs s.size 0 rfl (by omega) r hr;rw[qqV]at hl;have h1':Goes qvl (.h1 s s) r:=Goes.rec0 hl fun k rec=>rfl;have h0':Goes qvl (.h0 s s false) r:=Goes.rec0 h1' fun k rec=>rfl;refine Goes.rec0 (step:=qvl) (s:=.e s) h0' fun k rec=>?_;simp only[nt,qvl,hp,ah,qol (show 0<s.size by omega)]
  grind
 have hne:s.data.toList≠[]:=by
  intro e;have:=qD s
  grind
 by_cases hb:dv s.data.toList<2 ^ 63
 .
  refine⟨(dv s.data.toList:Int),start _ ?_,fun _=>rfl⟩;rw[wrapN (by omega)];refine Goes.done (yZ (n:=(dv s.data.toList:Int)) (by omega) (by omega)) fun k rec e=>?_;simp only[nt,qvl,hp,ah,e,ae];have e2:qra (dv s.data.toList:Int)=s:=by
   apply qo2;show(Lib.itoa (dv s.data.toList:Int)).toArray.toList=_;unfold Lib.itoa;rw[aF (by omega)];have:=qr6 (s.size-1) s.data.toList (by simp_all) (qko h) (fun hh=>qrt h1 (h0 (by simp_all)))
   grind
  grind
 .
  refine⟨IntKind.i64.wrap (dv s.data.toList:Int),start _ ?_,fun hh=>absurd hh hb⟩;have hm:IntKind.i64.wrap (dv s.data.toList:Int)=(dv s.data.toList:Int)-18446744073709551616:=by rw[IntKind.wrap_i64];omega
  refine Goes.done (yZ (n:=IntKind.i64.wrap (dv s.data.toList:Int)) (by omega) (by omega)) fun k rec e=>?_;simp only[nt,qvl,hp,ah,e,ae];rw[aN hb];have:((qra (IntKind.i64.wrap (dv s.data.toList:Int))).toList==s.toList)=false:=by
   rw[beq_eq_false_iff_ne];intro e2;rw[Qw,Qw]at e2;have e3:(qra (IntKind.i64.wrap (dv s.data.toList:Int))).data.toList.head? = some 45:=by
    show(Lib.itoa _).toArray.toList.head? = _;unfold Lib.itoa
    grind
   rw[e2,qqS h1]at e3;have e4:(UInt8.ofNat (bAt s 0).toNat).toNat=(45:UInt8).toNat:=by simp_all
   rw[UInt8.toNat_ofNat',Nat.mod_eq_of_lt (by have:=qr2 s 0;omega)]at e4
   grind
  grind
end
structure Tk where
 kind:Int
 text:ByteArray
 n:Int
 scale:Int
def behN (s:ByteArray)(e:Nat):Nat:=if e<s.size/\bAt s e=46 then stop isDi s (e+1)-(e+1)else 0
def Zt (s:ByteArray)(p:Nat):Option (Tk×Nat):=
 if 1<stop isDi s p-p/\bAt s p=48 then none
 else if behN s (stop isDi s p)=0 then
  (if dv (s.extract p (stop isDi s p)).data.toList<2 ^ 63 then some (⟨3,strB [],(dv (s.extract p (stop isDi s p)).data.toList:Int),0⟩,stop isDi s p)else none)
 else if 15<(stop isDi s p-p)+behN s (stop isDi s p)then none
 else some (⟨4,strB [],(dv (s.extract p (stop isDi s p)++s.extract (stop isDi s p+1) (stop isDi s p+1+behN s (stop isDi s p))).data.toList:Int),(behN s (stop isDi s p):Int)⟩,stop isDi s p+1+behN s (stop isDi s p))
theorem qhx {s e}(h:e<=s.size):behN s e=0\/e+1+behN s e<=s.size:=by
 unfold behN;split
 . rename_i hh;have:=yQ (f:=isDi) (show e+1<=s.size by omega);omega
 omega
theorem qiF {s p e}(he:e<=s.size)(h:∀ i,p<=i->i<e->isDi (bAt s i)=true):∀ i,i<(s.extract p e).size->isDi (bAt (s.extract p e) i)=true:=by
 intro i hi;rw[size_ext s p e he]at hi;rw[Qz he hi]
 grind
theorem qkR (s:ByteArray)(p)(hp:p<=s.size):∀ i,i<(s.extract p (stop isDi s p)).size->isDi (bAt (s.extract p (stop isDi s p)) i)=true:=qiF (yQ hp) (fun i h1 h2=>Qj h1 h2)
theorem qkO {s:ByteArray}{e}(h:e<=s.size):∀ i,i<(s.extract (e+1) (e+1+behN s e)).size->isDi (bAt (s.extract (e+1) (e+1+behN s e)) i)=true:=by
 rcases qhx h with h0|h0
 . simp_all
 .
  refine qiF h0 fun i h1 h2=>?_;unfold behN at h2;split at h2
  . have:=zC isDi s (e+1);exact Qj h1 (by omega)
  . omega
theorem qlo {a b}(ha:∀ i,i<a.size->isDi (bAt a i)=true)(hb:∀ i,i<b.size->isDi (bAt b i)=true):∀ i,i<(a++b).size->isDi (bAt (a++b) i)=true:=by
 intro i hi;rw[ByteArray.size_append]at hi;unfold bAt;rw[YO,List.getD_eq_getElem?_getD];by_cases h:i<a.size
 . rw[aY (by simp_all)];have:=ha i h;unfold bAt at this
   grind
 . rw[aZ (by simp_all),qD];have:=hb (i-a.size) (by omega);unfold bAt at this
   grind
theorem qid (b:ByteArray):(b.toList==(strB []).toList)=decide (b.size=0):=by
 by_cases h:b.size=0
 . have:b=strB []:=qcK (by rw[h];rfl) (fun i hi=>by omega)
   grind
 . rw[aN h,beq_eq_false_iff_ne];intro e;apply h;rw[toList_inj e];rfl
theorem qgP {s p}(hp:p<s.size)(hd:isDi (bAt s p)=true):p+1<=stop isDi s p:=by rw[qo9 hp hd];exact zC _ _ _
def behS (s:ByteArray)(e:Nat):ByteArray:=if e<s.size/\bAt s e=46 then s.extract (e+1) (stop isDi s (e+1))else strB []
theorem qh3 {s e}(h:e<=s.size):(behS s e).size=behN s e:=by
 unfold behS behN;split
 . rename_i hh;rw[size_ext _ _ _ (yQ (show e+1<=s.size by omega))]
 . rfl
theorem qiX {s e}(h:e<=s.size)(h0:behN s e≠0):behS s e=s.extract (e+1) (e+1+behN s e):=by
 unfold behS behN at *
 grind
section
variable [vo]
theorem qDK {s p}(hs:s.size<=4000)(hp:p<s.size)(hd:isDi (bAt s p)=true):
  ∃ z:Int,Tot (fun k=>g72 k s (p:Int)) (match Zt s p with
   |some (t,e)=>.inr (t.kind,t.text,t.n,t.scale,(p:Int),(e:Int))
   |none=>.inl ((p:Int),z)):=by
 obtain⟨e,he⟩:∃ e,e=stop isDi s p:=⟨_,rfl⟩
 have he1:e<=s.size:=by rw[he];exact yQ (Nat.le_of_lt hp)
 have he2:p+1<=e:=by rw[he];exact qgP hp hd
 have hds:(s.extract p e).size=e-p:=size_ext s p e he1;have hdd:∀ i,i<(s.extract p e).size->isDi (bAt (s.extract p e) i)=true:=by rw[he];exact qkR s p (Nat.le_of_lt hp)
 have hw:IntKind.i64.wrap ((p:Int)+((s.extract p e).size:Int))=(e:Int):=by rw[hds];exact qes (by omega) (by omega)
 have hb0:bAt (s.extract p e) 0=bAt s p:=Qz he1 (by omega);have hbl:=qhx he1;have hbs:=qh3 he1
 -- the end,from h1 on
 have fin:∃ z:Int,Goes qvB (.h1 (p:Int) (s.extract p e) (behS s e) 0 (strB []) 0 0 0 s (e:Int)) (match Zt s p with
   |some (t,e)=>.inr (t.kind,t.text,t.n,t.scale,(p:Int),(e:Int))
   |none=>.inl ((p:Int),z)):=by
  refine⟨(e:Int),?_⟩;have h2:∀ t r,Goes qvB (.h2 (p:Int) (s.extract p e) (behS s e) t 0 (strB []) 0 0 0 s (e:Int)) r->t=decide (1<e-p/\bAt s p=48)->Goes qvB (.h1 (p:Int) (s.extract p e) (behS s e) 0 (strB []) 0 0 0 s (e:Int)) r:=by
   intro t r hr ht;refine Goes.rec0 hr fun k rec=>?_;by_cases h1:1<e-p
   . simp only[nt,qvB,show decide (((s.extract p e).size:Int)>1)=true from aO (by omega),ah,qol (show 0<(s.extract p e).size by omega),hb0,ht]
     grind
   . simp only[nt,qvB,show decide (((s.extract p e).size:Int)>1)=false from aN (by omega),af,ht]
     grind
  unfold Zt;rw[<- he];by_cases h48:1<e-p/\bAt s p=48
  . rw[aD h48];refine h2 true _ (.fin0 fun k rec=>?_) (aO h48).symm;simp only[nt,qvB,ah]
  .
   rw[aF h48];refine h2 false _ ?_ (aN h48).symm;by_cases hm:behN s e=0
   . rw[aD hm];have hpr:=Xn hdd (by omega) (by omega);have en:((behS s e).toList==(strB []).toList)=true:=by rw[qid,hbs];grind
     refine .fin0 fun k rec=>?_;simp only[nt,qvB,af,en,ah,hpr,ae];by_cases hv:dv (s.extract p e).data.toList<2 ^ 63
     . rw[aD hv,aD hv];rfl
     . rw[aF hv,aF hv];rfl
   .
    rw[aF hm];have en:((behS s e).toList==(strB []).toList)=false:=by rw[qid,hbs];grind
    have hle:e+1+behN s e<=s.size:=by rcases hbl with h|h<;>omega
    have hw2:IntKind.i64.wrap (((s.extract p e).size:Int)+((behS s e).size:Int))=(((e-p)+behN s e:Nat):Int):=qes (by omega) (by omega);by_cases h15:15<(e-p)+behN s e
    . rw[aD h15];refine .fin0 fun k rec=>?_;simp only[nt,qvB,af,en,hw2,show decide ((((e-p)+behN s e:Nat):Int)>15)=true from aO (by omega),ah]
    . rw[aF h15];have hbx:=qiX he1 hm;have hall:∀ i,i<(s.extract p e++behS s e).size->isDi (bAt (s.extract p e++behS s e) i)=true:=qlo hdd (by rw[hbx];exact qkO he1);have hsz:(s.extract p e++behS s e).size=(e-p)+behN s e:=by grind
      have hpr:=Xn hall (by omega) (by omega);have hlt:dv (s.extract p e++behS s e).data.toList<2 ^ 63:=by have h1:=qnu (qko hall);rw[qD,hsz]at h1;have h2:10 ^ ((e-p)+behN s e)<=10 ^ 15:=Nat.pow_le_pow_right (by omega) (by omega);omega
      rw[aD hlt]at hpr;refine .fin0 fun k rec=>?_;simp only[nt,qvB,af,en,hw2,show decide ((((e-p)+behN s e:Nat):Int)>15)=false from aN (by omega),
       show decide ((s.extract p e).size+(behS s e).size<=1000000000)=true from aO (by omega),ZW,hpr,ae,optC]
      rw[hbs,<- hbx];have w1:IntKind.i64.wrap ((1:Int)+(behN s e:Int))=((1+behN s e:Nat):Int):=qes (by omega) (by omega);rw[w1,qk7 e (1+behN s e) (by omega),Nat.add_assoc]
 obtain⟨z,hz⟩:=fin;refine⟨z,?_⟩;generalize (match Zt s p with
   |some (t,e)=>(.inr (t.kind,t.text,t.n,t.scale,(p:Int),(e:Int)):R72)
   |none=>.inl ((p:Int),z))=r at hz |-
 -- to h1
 have h0:Goes qvB (.h0 (p:Int) (s.extract p e) (strB []) (decide (e<s.size/\bAt s e=46)) 0 (strB []) 0 0 0 s (e:Int)) r:=by
  by_cases hc:e<s.size/\bAt s e=46
  . have hb:behS s e=s.extract (e+1) (stop isDi s (e+1)):=aD hc;rw[hb]at hz;refine Goes.call (qA6 (s:=s) (p:=e+1) (q:=(e:Int)) hs (by omega)) hz fun k rec e1=>?_;simp only[nt,qvB,aO hc,ah,zq e (by omega),e1,ae]
  . have hb:behS s e=strB []:=aF hc;rw[hb]at hz;refine Goes.rec0 hz fun k rec=>?_;simp only[nt,qvB,aN hc,af]
 refine Goes.call (step:=qvB) (s:=.e s (p:Int)) (qA6 (s:=s) (p:=p) (q:=(p:Int)) hs (Nat.le_of_lt hp)) h0 fun k rec e1=>?_;rw[<- he]at e1;simp only[nt,qvB,e1,ae,hw];by_cases hc:e<s.size
 . simp only[ltT hc,ah,yw hc]
   grind
 grind
end
theorem qqf (s):(yH s).length=s.size:=by unfold yH;simp_all
theorem qqw {s i}(h:i<s.size):(yH s)[i]? = some [.val (.int .u8 (bAt s i))]:=by
 have h':i<s.data.toList.length:=by simp_all
 unfold yH bAt
 grind
theorem qsM {α}(x)(k:Int->Option α):un_y [.val (.int .u8 x)] k=k x:=rfl
section
variable [vo]
theorem qyv {s}(h:∀ i,i<s.size->isDi (bAt s i)=true)(hs:s.size<=15){n m}:∀ (j i:Nat),s.size-i=j->i<=s.size ->
  Goes qvr (.h3 n m (pre s i:Int) (yH s) (s.size:Int) (i:Int) 0 (strB []) 0 0 0) (4,strB [],(dv s.data.toList:Int),m,0,IntKind.i64.wrap ((IntKind.i64.wrap (n+1))+m))
 |0,i,h1,h2=>by
  obtain rfl:i=s.size:=by omega
  rw[qqA];refine .fin0 fun k rec=>?_;simp only[nt,qvr,ltF (Nat.lt_irrefl s.size),af]
 |j+1,i,h1,h2=>by
  have hi:i<s.size:=by omega
  have ih:=qyv h hs (n:=n) (m:=m) j (i+1) (by omega) (by omega);have hd:=h i hi;have hp3:=qqT h (show i+1<=s.size by omega);have hp2:10 ^ (i+1)<=10 ^ 15:=Nat.pow_le_pow_right (by omega) (by omega);have hd':=hd;simp only[isDi,aC,aX]at hd';have e:=qqU hi hd;refine Goes.rec0 ih fun k rec=>?_;simp only[nt,qvr,ltT hi,ah,Yi (qqw hi),qsM,zq i (by omega)];have e1:IntKind.i64.wrap ((10:Int)*(pre s i:Int))=((10*pre s i:Nat):Int):=qes (by omega) (by omega);obtain⟨d,hdd⟩:∃ d:Nat,bAt s i-48=(d:Int):=⟨(bAt s i-48).toNat,by omega⟩
  have e2:IntKind.i64.wrap (IntKind.u8.wrap (bAt s i-48))=(d:Int):=by rw[hdd,u8w (by omega),wrapN (by omega)]
  rw[e1,e2,show IntKind.i64.wrap (((10*pre s i:Nat):Int)+(d:Int))=((pre s (i+1):Nat):Int)from qes (by omega) (by omega)]
theorem qDM {s p}(hs:s.size<=4000)(hp:p<s.size)(hd:isDi (bAt s p)=true):
  Tot (fun k=>g83 k s (p:Int)) (match Zt s p with
   |some (t,e)=>(t.kind,t.text,t.n,t.scale,0,(e:Int)-(p:Int))
   |none=>(0,strB [],0,0,0,0)):=by
 obtain⟨e,he⟩:∃ e,e=stop isDi s p:=⟨_,rfl⟩
 have he1:e<=s.size:=by rw[he];exact yQ (Nat.le_of_lt hp)
 have he2:p+1<=e:=by rw[he];exact qgP hp hd
 have hds:(s.extract p e).size=e-p:=size_ext s p e he1;have hdd:∀ i,i<(s.extract p e).size->isDi (bAt (s.extract p e) i)=true:=by rw[he];exact qkR s p (Nat.le_of_lt hp)
 have hb0:bAt (s.extract p e) 0=bAt s p:=Qz he1 (by omega);have hbl:=qhx he1;have hbs:=qh3 he1;have hwe:IntKind.i64.wrap ((p:Int)+((e-p:Nat):Int))=(e:Int):=qes (by omega) (by omega);have no:Goes qvr (.h2 s (p:Int) ((e-p:Nat):Int) (s.extract p e) (behN s e:Int) true 0 (strB []) 0 0 0) (0,strB [],0,0,0,0):=.fin0 fun k rec=>by simp only[nt,qvr,ah]
 -- the end,from h1 on
 have fin:Goes qvr (.h1 s (p:Int) ((e-p:Nat):Int) (s.extract p e) (behN s e:Int) 0 (strB []) 0 0 0) (match Zt s p with
   |some (t,e)=>(t.kind,t.text,t.n,t.scale,0,(e:Int)-(p:Int))
   |none=>(0,strB [],0,0,0,0)):=by
  have h2:∀ t r,Goes qvr (.h2 s (p:Int) ((e-p:Nat):Int) (s.extract p e) (behN s e:Int) t 0 (strB []) 0 0 0) r->t=decide ((1<e-p/\bAt s p=48)\/(behN s e=0/\19<e-p)\/(behN s e≠0/\15<(e-p)+behN s e)) ->
    Goes qvr (.h1 s (p:Int) ((e-p:Nat):Int) (s.extract p e) (behN s e:Int) 0 (strB []) 0 0 0) r:=by
   intro t r hr ht;refine Goes.rec0 hr fun k rec=>?_;have hm0:((behN s e:Int)==0)=decide (behN s e=0):=by grind
   have h19:decide (((e-p:Nat):Int)>19)=decide (19<e-p):=by grind
   have hle:behN s e<=4000:=by rcases hbl with h|h<;>omega
   have h15:decide (IntKind.i64.wrap (((e-p:Nat):Int)+(behN s e:Int))>15)=decide (15<(e-p)+behN s e):=by
    rw[qk7 (e-p) (behN s e) (by omega)]
    grind
   have hmp:behN s e≠0->decide ((behN s e:Int)>0)=true:=fun h=>aO (by omega);have tail:(bif ((behN s e:Int)==0)then
      (bif decide (((e-p:Nat):Int)>19)then rec (.h2 s (p:Int) ((e-p:Nat):Int) (s.extract p e) (behN s e:Int) true 0 (strB []) 0 0 0)
      else rec (.h2 s (p:Int) ((e-p:Nat):Int) (s.extract p e) (behN s e:Int) false 0 (strB []) 0 0 0))
     else
      (bif decide ((behN s e:Int)>0)then rec (.h2 s (p:Int) ((e-p:Nat):Int) (s.extract p e) (behN s e:Int) (decide ((IntKind.i64.wrap (((e-p:Nat):Int)+(behN s e:Int)))>15)) 0 (strB []) 0 0 0)
      else rec (.h2 s (p:Int) ((e-p:Nat):Int) (s.extract p e) (behN s e:Int) false 0 (strB []) 0 0 0))) =
     rec (.h2 s (p:Int) ((e-p:Nat):Int) (s.extract p e) (behN s e:Int) (decide ((behN s e=0/\19<e-p)\/(behN s e≠0/\15<(e-p)+behN s e))) 0 (strB []) 0 0 0):=by
    grind
   by_cases h1:1<e-p
   . simp only[nt,qvr,show decide (((e-p:Nat):Int)>1)=true from aO (by omega),ah,qol (show 0<(s.extract p e).size by omega),hb0]
     grind
   . simp only[nt,qvr,show decide (((e-p:Nat):Int)>1)=false from aN (by omega),af]
     grind
  unfold Zt;rw[<- he];by_cases h48:1<e-p/\bAt s p=48
  . grind
  .
   rw[aF h48];by_cases hm:behN s e=0
   .
    rw[aD hm];by_cases h19:19<e-p
    . have:¬ dv (s.extract p e).data.toList<2 ^ 63:=by have h1:=qte (n:=e-p-1) (l:=(s.extract p e).data.toList) (by rw[qD,hds];omega) (qko hdd) (qrt (by omega) (by omega));have h2:10 ^ 19<=10 ^ (e-p-1):=Nat.pow_le_pow_right (by omega) (by omega);omega
      grind
    . refine h2 false _ ?_ (aN (fun h=>h.elim h48 fun h=>h.elim (fun h=>h19 h.2) fun h=>h.1 hm)).symm;obtain⟨x,hx,hxe⟩:=qCn hdd (by omega) (by omega) (fun h=>by omega);refine Goes.done hx fun k rec e1=>?_;have hm0:((behN s e:Int)==0)=true:=by grind
      simp only[nt,qvr,af,hm0,ah,e1,ae,tup2]
      grind
   .
    rw[aF hm];have hle:e+1+behN s e<=s.size:=by rcases hbl with h|h<;>omega
    by_cases h15:15<(e-p)+behN s e
    . grind
    . rw[aF h15];refine h2 false _ ?_ (aN (fun h=>h.elim h48 fun h=>h.elim (fun h=>hm h.1) fun h=>h15 h.2)).symm;have hall:∀ i,i<(s.extract p e++s.extract (e+1) (e+1+behN s e)).size->isDi (bAt (s.extract p e++s.extract (e+1) (e+1+behN s e)) i)=true:=qlo hdd (qkO he1);have hsz:(s.extract p e++s.extract (e+1) (e+1+behN s e)).size=(e-p)+behN s e:=by simp_all
      have hl:=qyv hall (by omega) (n:=((e-p:Nat):Int)) (m:=(behN s e:Int)) (s.extract p e++s.extract (e+1) (e+1+behN s e)).size 0 rfl (by omega);rw[qqV]at hl;have hz:IntKind.i64.wrap (IntKind.i64.wrap (((e-p:Nat):Int)+1)+(behN s e:Int))=((e+1+behN s e:Nat):Int)-(p:Int):=by rw[zq (e-p) (by omega),qk7 (e-p+1) (behN s e) (by omega)];omega
      rw[hz]at hl;refine Goes.rec0 hl fun k rec=>?_;have hm0:((behN s e:Int)==0)=false:=by grind
      simp only[nt,qvr,af,hm0,hwe,zq e (by omega),qk7 (e+1) (behN s e) (by omega),bnds (show e+1<=e+1+behN s e by omega) hle,ZW,qc0];rw[show decide ((s.extract p e).size+(s.extract (e+1) (e+1+behN s e)).size<=1000000000)=true from aO (by grind),ZW,qqf];rfl
 generalize (match Zt s p with
   |some (t,e)=>((t.kind,t.text,t.n,t.scale,0,(e:Int)-(p:Int)):R83)
   |none=>(0,strB [],0,0,0,0))=r at fin |-
 have h0:Goes qvr (.h0 s (p:Int) ((e-p:Nat):Int) (s.extract p e) 0 (decide (e<s.size/\bAt s e=46)) 0 (strB []) 0 0 0) r:=by
  by_cases hc:e<s.size/\bAt s e=46
  . have hb:behN s e=stop isDi s (e+1)-(e+1):=aD hc;have hg:=qo3 (s:=s) (p:=e+1) (b:=false) hs (by omega);rw[show fOf false=isDi from rfl,<- hb]at hg;refine Goes.call hg fin fun k rec e1=>?_;simp only[nt,qvr,aO hc,ah,hwe,zq e (by omega),e1,ae]
  . have hb:behN s e=0:=aF hc;rw[hb]at fin;refine Goes.rec0 fin fun k rec=>?_;simp only[nt,qvr,aN hc,af];rfl
 have hg:=qo3 (s:=s) (p:=p) (b:=false) hs (Nat.le_of_lt hp);rw[show fOf false=isDi from rfl,<- he]at hg;refine Goes.call (step:=qvr) (s:=.e s (p:Int)) hg h0 fun k rec e1=>?_;simp only[nt,qvr,e1,ae,hwe,bnds (show p<=e by omega) he1,ZW,qc0];by_cases hc:e<s.size
 . simp only[ltT hc,ah,yw hc]
   grind
 grind
end
def twoB (s:ByteArray)(p:Nat):Bool:=decide (p+1<s.size)&&bAt s (p+1)==61
def isSg (c:Int):Bool:=c==40||(c==41||(c==44||(c==46||(c==43||(c==45||(c==42||(c==47||(c==37||(c==61||c==124)))))))))
def vR (s:ByteArray)(p:Nat):Nat:=if bAt s p=33\/bAt s p=60\/bAt s p=62 then(if twoB s p then 2 else 1)else if isSg (bAt s p)then 1 else 0
def qav (s:ByteArray)(p:Nat):Option (Tk×Nat):=if vR s p=0 then none else some (⟨6,s.extract p (p+vR s p),0,0⟩,p+vR s p)
def qd6 (s:ByteArray)(p:Nat):Option (Tk×Nat):=
 if YH (s.extract p (stop isNm s p))then some (⟨1,s.extract p (stop isNm s p),0,0⟩,stop isNm s p)
 else if nmOk (s.extract p (stop isNm s p))then some (⟨2,s.extract p (stop isNm s p),0,0⟩,stop isNm s p)else none
def qdt (s:ByteArray)(p:Nat):Option (Tk×Nat):=if nmOk (s.extract (p+1) (stop isNm s (p+1)))=true/\stop isNm s (p+1)<s.size/\bAt s (stop isNm s (p+1))=39 then some (⟨5,s.extract (p+1) (stop isNm s (p+1)),0,0⟩,stop isNm s (p+1)+1)else none
def tok (s:ByteArray)(p:Nat):Option (Tk×Nat):=if isLe (bAt s p)then qd6 s p else if isDi (bAt s p)then Zt s p else if bAt s p=39 then qdt s p else qav s p
theorem qkt (s:ByteArray)(p)(hp:p<=s.size):∀ i,i<(s.extract p (stop isNm s p)).size->isNm (bAt (s.extract p (stop isNm s p)) i)=true:=by intro i hi;have he:=yQ (f:=isNm) hp;rw[size_ext s _ _ he]at hi;rw[Qz he hi];exact Qj (p:=p) (i:=p+i) (by omega) (by omega)
section
variable [vo]
theorem qDJ {s:ByteArray}{p}(hs:s.size<=4000)(hp:p<s.size):Tot (fun k=>g70 k s (p:Int)) (match qd6 s p with
   |some (t,e)=>.inl (t.kind,t.text,t.n,t.scale,(p:Int),(e:Int))
   |none=>.inr ((p:Int),(stop isNm s p:Int))):=by
 obtain⟨e,he⟩:∃ e,e=stop isNm s p:=⟨_,rfl⟩
 have he1:e<=s.size:=by rw[he];exact yQ (Nat.le_of_lt hp)
 have hge:=zC isNm s p;have hsz:(s.extract p e).size=e-p:=size_ext s p e he1;have hw:IntKind.i64.wrap ((p:Int)+((s.extract p e).size:Int))=(e:Int):=by rw[hsz];exact qes (by omega) (by omega)
 have hnm:qcL (s.extract p e)=nmOk (s.extract p e):=qe0 (by rw[he];exact qkt s p (Nat.le_of_lt hp));unfold qd6;rw[<- he];refine Goes.done2 (step:=qoO) (s:=.e s (p:Int)) (qA5 (s:=s) (p:=p) (q:=(p:Int)) hs (Nat.le_of_lt hp)) (qkm (s.extract p e)) fun k rec e1 e2=>?_;rw[<- he]at e1;simp only[nt,qoO,e1,ae,e2,hw,YF,hnm]
 grind
theorem qDL {s:ByteArray}{p}(hs:s.size<=4000)(hp:p<s.size):Tot (fun k=>g73 k s (p:Int)) (match qdt s p with
   |some (t,e)=>.inr (t.kind,t.text,t.n,t.scale,(p:Int),(e:Int))
   |none=>.inl ((p:Int),(p:Int))):=by
 obtain⟨e,he⟩:∃ e,e=stop isNm s (p+1):=⟨_,rfl⟩
 have he1:e<=s.size:=by rw[he];exact yQ (by omega)
 have hge:=zC isNm s (p+1);have hsz:(s.extract (p+1) e).size=e-(p+1):=size_ext s (p+1) e he1;have hw:IntKind.i64.wrap (((p+1:Nat):Int)+((s.extract (p+1) e).size:Int))=(e:Int):=by rw[hsz];exact qes (by omega) (by omega)
 have hnm:qcL (s.extract (p+1) e)=nmOk (s.extract (p+1) e):=qe0 (by rw[he];exact qkt s (p+1) (by omega));unfold qdt;rw[<- he];have no:Goes qsw (.h0 (p:Int) (s.extract (p+1) e) (e:Int) true 0 (strB []) 0 0 0 s (p:Int)) (.inl ((p:Int),(p:Int))):=.fin0 fun k rec=>by simp only[nt,qsw,ah]
 have yes:Goes qsw (.h0 (p:Int) (s.extract (p+1) e) (e:Int) false 0 (strB []) 0 0 0 s (p:Int)) (.inr (5,s.extract (p+1) e,0,0,(p:Int),((e+1:Nat):Int))):=.fin0 fun k rec=>by simp only[nt,qsw,af,zq e (by omega)]
 have hg:=qA5 (s:=s) (p:=p+1) (q:=(p:Int)) hs (by omega);rw[<- he]at hg;have hw1:=zq p (by omega);cases hn:nmOk (s.extract (p+1) e)with
 |false=>rw[aF (by simp)];refine Goes.call (step:=qsw) (s:=.e s (p:Int)) hg no fun k rec e1=>?_;simp only[nt,qsw,hw1,e1,ae,YF,hnm,hn,ak,ah,hw]
 |true=>
  by_cases hc:e<s.size
  .
   have hne:((e:Int)==(s.size:Int))=false:=by grind
   by_cases h39:bAt s e=39
   . rw[aD ⟨rfl,hc,h39⟩];refine Goes.call (step:=qsw) (s:=.e s (p:Int)) hg yes fun k rec e1=>?_;simp only[nt,qsw,hw1,e1,ae,YF,hnm,hn,aj,af,hw,hne,yw hc]
     grind
   . rw[aF (fun h=>h39 h.2.2)];refine Goes.call (step:=qsw) (s:=.e s (p:Int)) hg no fun k rec e1=>?_;simp only[nt,qsw,hw1,e1,ae,YF,hnm,hn,aj,af,hw,hne,yw hc]
     grind
  . rw[aF (fun h=>hc h.2.1)];have hne:((e:Int)==(s.size:Int))=true:=by grind
    refine Goes.call (step:=qsw) (s:=.e s (p:Int)) hg no fun k rec e1=>?_;simp only[nt,qsw,hw1,e1,ae,YF,hnm,hn,aj,af,hw,hne,ah]
theorem ql8 {a b A N}{S:ByteArray}(rec:S74->Option R74):(bif a then rec (.h2 A N true 0 (strB []) 0 0 0 S A)else rec (.h2 A N b 0 (strB []) 0 0 0 S A))=rec (.h2 A N (a||b) 0 (strB []) 0 0 0 S A):=by cases a<;>rfl
theorem qsd {s:ByteArray}{p}(hs:s.size<=4000)(hp:p<s.size):Tot (fun k=>g74 k s (p:Int)) (match qav s p with
   |some (t,e)=>.inl (t.kind,t.text,t.n,t.scale,(p:Int),(e:Int))
   |none=>.inr ((p:Int),(p:Int))):=by
 have end3:∀ n:Nat,p+n<=s.size->Goes qpu (.h3 (p:Int) (n:Int) 0 (strB []) 0 0 0 s (p:Int)) (.inl (6,s.extract p (p+n),0,0,(p:Int),((p+n:Nat):Int))):=fun n hn=>.fin0 fun k rec=>by simp only[nt,qpu,qk7 p n (by omega),bnds (show p<=p+n by omega) hn,ZW,qc0]
 have one:=end3 1 (by omega);have h2:∀ b,Goes qpu (.h2 (p:Int) 1 b 0 (strB []) 0 0 0 s (p:Int)) (if b then .inl (6,s.extract p (p+1),0,0,(p:Int),((p+1:Nat):Int))else .inr ((p:Int),(p:Int))):=by
  intro b;cases b with
  |true=>exact Goes.rec0 one fun k rec=>by simp only[nt,qpu,ah];rfl
  |false=>exact .fin0 fun k rec=>by simp only[nt,qpu,af];rfl
 unfold qav;by_cases hc:bAt s p=33\/bAt s p=60\/bAt s p=62
 .
  have hlen:vR s p=if twoB s p then 2 else 1:=aD hc
  have h0:Goes qpu (.h0 (p:Int) 1 (bAt s p) true 0 (strB []) 0 0 0 s (p:Int)) (.inl (6,s.extract p (p+vR s p),0,0,(p:Int),((p+vR s p:Nat):Int))):=by
   have h1f:Goes qpu (.h1 (p:Int) 1 false 0 (strB []) 0 0 0 s (p:Int)) (.inl (6,s.extract p (p+1),0,0,(p:Int),((p+1:Nat):Int))):=Goes.rec0 one fun k rec=>by simp only[nt,qpu,af];rfl
   by_cases hn:p+1<s.size
   .
    have h1t:Goes qpu (.h1 (p:Int) 1 true 0 (strB []) 0 0 0 s (p:Int)) (.inl (6,s.extract p (p+2),0,0,(p:Int),((p+2:Nat):Int))):=Goes.rec0 (end3 2 (by omega)) fun k rec=>by simp only[nt,qpu,ah];rfl
    cases h61:(bAt s (p+1)==61)with
    |true=>
     have ht:twoB s p=true:=by unfold twoB;grind
     rw[hlen,aD ht];refine Goes.rec0 h1t fun k rec=>?_;simp only[nt,qpu,ah,zq p (by omega),ltT hn,yw hn,h61]
    |false=>
     have ht:twoB s p=false:=by unfold twoB;grind
     rw[hlen,ht];refine Goes.rec0 h1f fun k rec=>?_;simp only[nt,qpu,ah,zq p (by omega),ltT hn,yw hn,h61]
   . have ht:twoB s p=false:=by unfold twoB;grind
     rw[hlen,ht];refine Goes.rec0 h1f fun k rec=>?_;simp only[nt,qpu,ah,zq p (by omega),ltF hn,af]
  have hl0:vR s p≠0:=by grind
  rw[aF hl0];refine Goes.rec0 (step:=qpu) (s:=.e s (p:Int)) h0 fun k rec=>?_;simp only[nt,qpu,yw hp];rcases hc with h|h|h<;>rw[h]<;>rfl
 .
  have hlen:vR s p=if isSg (bAt s p)then 1 else 0:=aF hc
  have n33:(bAt s p==33)=false:=by grind
  have n60:(bAt s p==60)=false:=by grind
  have n62:(bAt s p==62)=false:=by grind
  have h0:Goes qpu (.h0 (p:Int) 1 (bAt s p) false 0 (strB []) 0 0 0 s (p:Int)) (if isSg (bAt s p)then .inl (6,s.extract p (p+1),0,0,(p:Int),((p+1:Nat):Int))else .inr ((p:Int),(p:Int))):=by refine Goes.rec0 (h2 (isSg (bAt s p))) fun k rec=>?_;simp only[nt,qpu,af,ql8];rfl
  have key:=Goes.rec0 (step:=qpu) (s:=.e s (p:Int)) h0 fun k rec=>by simp only[nt,qpu,yw hp,n33,n60,n62,af]
  rw[hlen];cases hg:isSg (bAt s p)with
  |true=>rw[hg]at key;exact key
  |false=>rw[hg]at key;exact key
end
def qpt:List ByteArray:=[strB [33,61],strB [60,61],strB [62,61],strB [40],strB [41],strB [44],strB [46],strB [43],strB [45],strB [42],strB [47],strB [37],strB [61],strB [60],strB [62],strB [33],strB [124]]
def pfx (s:ByteArray)(p:Nat)(x:ByteArray):Bool:=decide (p+x.size<=s.size)&&(s.extract p (p+x.size)).toList==x.toList
theorem qtC {s p x}(h:pfx s p x=true):x=s.extract p (p+x.size):=by unfold pfx at h;rw[aC]at h;exact(toList_inj (by grind)).symm
theorem qjq (l i h)(hl:∀ x∈l,x<256):bAt (strB l) i=(l[i]:Int):=by unfold bAt strB;show((((l.map UInt8.ofNat).toArray.toList).getD i 0).toNat:Int)=_;rw[List.getD_eq_getElem?_getD,aH,ax h];show((UInt8.ofNat l[i]).toNat:Int)=_;rw[UInt8.toNat_ofNat',Nat.mod_eq_of_lt (hl _ (List.getElem_mem h))]
theorem qoK (l):(strB l).size=l.length:=by show(l.map UInt8.ofNat).toArray.size=_;simp
theorem pfx1 {s p a}(hp:p<s.size)(ha:a<256):pfx s p (strB [a])=(bAt s p==(a:Int)):=by
 unfold pfx;rw[qoK];have hsz:(s.extract p (p+1)).size=1:=by rw[size_ext _ _ _ (by omega)];omega
 have h0:bAt (s.extract p (p+1)) 0=bAt s p:=Qz (by omega) (by omega);have hs:bAt (strB [a]) 0=(a:Int):=qjq [a] 0 (by simp) (by grind);rw[show decide (p + [a].length<=s.size)=true from aO (by grind),Bool.true_and];cases hc:(bAt s p==(a:Int))with
 |true=>
  have hc:=eq_of_beq hc;have:s.extract p (p + [a].length)=strB [a]:=qcK (by rw[qoK];omega) (fun i hi=>by grind)
  grind
 |false=>have hc:=ne_of_beq_false hc;rw[beq_eq_false_iff_ne];intro e;apply hc;rw[<- h0,<- hs];congr 1;exact toList_inj e
theorem pfx2 {s p a}(hp:p<s.size)(ha:a<256):pfx s p (strB [a,61])=(bAt s p==(a:Int)&&twoB s p):=by
 unfold pfx twoB;rw[qoK];by_cases hn:p+1<s.size
 .
  have hsz:(s.extract p (p+2)).size=2:=by rw[size_ext _ _ _ (by omega)];omega
  have h0:bAt (s.extract p (p+2)) 0=bAt s p:=Qz (by omega) (by omega);have h1:bAt (s.extract p (p+2)) 1=bAt s (p+1):=Qz (by omega) (by omega);have hs:bAt (strB [a,61]) 0=(a:Int):=qjq [a,61] 0 (by simp) (by grind);have hs1:bAt (strB [a,61]) 1=61:=qjq [a,61] 1 (by simp) (by grind);rw[show decide (p + [a,61].length<=s.size)=true from aO (by grind),Bool.true_and,aO hn,Bool.true_and];cases hc:(bAt s p==(a:Int)&&bAt s (p+1)==61)with
  |true=>
   rw[aC]at hc;have hc0:=eq_of_beq hc.1;have hc1:=eq_of_beq hc.2;have:s.extract p (p + [a,61].length)=strB [a,61]:=qcK (by rw[qoK];omega) (fun i hi=>by grind)
   grind
  |false=>
   rw[beq_eq_false_iff_ne];intro e;have e:=toList_inj e
   grind
 grind
theorem qrM {s p}(hp:p<s.size):(qpt.find? (pfx s p)).map (·.size)=if vR s p=0 then none else some (vR s p):=by
 simp only[qpt,List.find?_cons,List.find?_nil,pfx1 hp (show 40<256 by omega),pfx1 hp (show 41<256 by omega),pfx1 hp (show 44<256 by omega),pfx1 hp (show 46<256 by omega),pfx1 hp (show 43<256 by omega),pfx1 hp (show 45<256 by omega),
  pfx1 hp (show 42<256 by omega),pfx1 hp (show 47<256 by omega),pfx1 hp (show 37<256 by omega),pfx1 hp (show 61<256 by omega),pfx1 hp (show 60<256 by omega),pfx1 hp (show 62<256 by omega),pfx1 hp (show 33<256 by omega),pfx1 hp (show 124<256 by omega),
  pfx2 hp (show 33<256 by omega),pfx2 hp (show 60<256 by omega),pfx2 hp (show 62<256 by omega)]
 unfold vR isSg;generalize bAt s p=c;generalize twoB s p=t;by_cases h33:c=33
 . subst h33;cases t<;>rfl
 by_cases h60:c=60
 . subst h60;cases t<;>rfl
 by_cases h62:c=62
 . subst h62;cases t<;>rfl
 have n33:(c==33)=false:=beq_eq_false_iff_ne.2 h33;have n60:(c==60)=false:=beq_eq_false_iff_ne.2 h60;have n62:(c==62)=false:=beq_eq_false_iff_ne.2 h62;have nn:¬ (c=33\/c=60\/c=62):=fun h=>h.elim h33 fun h=>h.elim h60 h62;rw[aF nn];simp only[n33,n60,n62,Bool.false_and,Int.cast_ofNat_Int];cases a1:(c==40)
 case true=>simp[qoK]
 cases a2:(c==41)
 case true=>simp[qoK]
 cases a3:(c==44)
 case true=>simp[qoK]
 cases a4:(c==46)
 case true=>simp[qoK]
 cases a5:(c==43)
 case true=>simp[qoK]
 cases a6:(c==45)
 case true=>simp[qoK]
 cases a7:(c==42)
 case true=>simp[qoK]
 cases a8:(c==47)
 case true=>simp[qoK]
 cases a9:(c==37)
 case true=>simp[qoK]
 cases a10:(c==61)
 case true=>simp[qoK]
 cases a11:(c==124)
 case true=>simp[qoK]
 simp
section
variable [vo]
def sgR (s:ByteArray)(p:Nat):Option ByteArray->R50
 |some x=>(6,x,0,0,0,(x.size:Int))
 |none=>(0,strB [],0,0,0,0)
theorem qxX {s:ByteArray}{p}(hs:s.size<=4000)(hp:p<=s.size){L:List ByteArray}(hL:L.length<1000)(hx:∀ x∈L,x.size<=2):∀ (n i:Nat),L.length-i<=n ->
  Goes qq3 (.h1 s (p:Int) (L.map fun x=>[sc x]) (L.length:Int) (i:Int) 0 (strB []) 0 0 0) (sgR s p ((L.drop i).find? (pfx s p)))
 |0,i,h=>by rw[List.drop_eq_nil_of_le (by omega)];refine .fin0 fun k rec=>?_;simp only[nt,qq3,ltF (show ¬ i<L.length by omega),af];rfl
 |n+1,i,h=>by
  by_cases hi:i<L.length
  .
   rw[List.drop_eq_getElem_cons hi,List.find?_cons];have hrow:(L.map fun x=>[sc x])[i]? = some [sc L[i]]:=qse (ax hi);have h2:=hx _ (List.getElem_mem hi);generalize L[i]=x at hrow h2;have hw:=qk7 p x.size (by omega);have key:Goes qq3 (.h2 s (p:Int) x (L.map fun x=>[sc x]) (L.length:Int) (i:Int) (pfx s p x) 0 (strB []) 0 0 0) (sgR s p (match pfx s p x with|true=>some x|false=>(L.drop (i+1)).find? (pfx s p))):=by
    cases hq:pfx s p x with
    |true=>exact .fin0 fun k rec=>by simp only[nt,qq3,ah,sgR]
    |false=>exact Goes.rec0 (qxX hs hp hL hx n (i+1) (by omega)) fun k rec=>by simp only[nt,qq3,af,zq i (by omega)]
   refine Goes.rec0 key fun k rec=>?_;simp only[nt,qq3,ltT hi,ah,Yi hrow,qqD,hw];unfold pfx;by_cases hl:p+x.size<=s.size
   . rw[show decide (((p+x.size:Nat):Int)<=(s.size:Int))=true from aO (by omega),ah,bnds (show p<=p+x.size by omega) hl,ZW,qc0,aO hl,Bool.true_and]
   grind
  . rw[List.drop_eq_nil_of_le (by omega)];refine .fin0 fun k rec=>?_;simp only[nt,qq3,ltF hi,af];rfl
end
theorem qeR {s p}(hp:p<s.size){t e}(h:tok s p=some (t,e)):p<e/\e<=s.size:=by
 unfold tok at h;split at h
 .
  rename_i hl;have hn:isNm (bAt s p)=true:=by unfold isNm;grind
  have h1:p+1<=stop isNm s p:=by rw[qo9 hp hn];exact zC _ _ _
  have h2:=yQ (f:=isNm) (Nat.le_of_lt hp);unfold qd6 at h
  grind
 .
  split at h
  . rename_i hd;have h1:=qgP hp hd;have h2:=yQ (f:=isDi) (Nat.le_of_lt hp);have h3:=qhx h2;unfold Zt at h
    grind
  .
   split at h
   . unfold qdt at h;split at h
     . rename_i hh;cases h;have:=zC isNm s (p+1);omega
     grind
   .
    unfold qav at h;split at h
    . cases h
    .
     rename_i h0;cases h;have h1:p+vR s p<=s.size:=by
      unfold vR at *;split
      . rename_i hc;rw[aD hc]at h0;split
        . rename_i h2;unfold twoB at h2
          grind
        . omega
      grind
     omega
section
variable [vo]
def oneR (p:Nat):Option (Tk×Nat)->R50
 |some (t,e)=>(t.kind,t.text,t.n,t.scale,0,(e:Int)-(p:Int))
 |none=>(0,strB [],0,0,0,0)
theorem qrc:qpt.map (fun x=>[sc x])=[[sc (strB [33,61])],[sc (strB [60,61])],[sc (strB [62,61])],[sc (strB [40])],[sc (strB [41])],[sc (strB [44])],[sc (strB [46])],[sc (strB [43])],[sc (strB [45])],[sc (strB [42])],[sc (strB [47])],[sc (strB [37])],[sc (strB [61])],[sc (strB [60])],[sc (strB [62])],[sc (strB [33])],[sc (strB [124])]]:=by simp[qpt]
theorem qDH {s:ByteArray}{p}(hs:s.size<=4000)(hp:p<s.size):Tot (fun k=>g50 k s (p:Int)) (oneR p (tok s p)):=by
 unfold tok;cases hl:isLe (bAt s p)with
 |true=>
  rw[aD rfl];obtain⟨e,he⟩:∃ e,e=stop isNm s p:=⟨_,rfl⟩
  have he1:e<=s.size:=by rw[he];exact yQ (Nat.le_of_lt hp)
  have hge:=zC isNm s p;have hw:IntKind.i64.wrap ((p:Int)+((e-p:Nat):Int))=(e:Int):=qes (by omega) (by omega);have hg:=qo3 (s:=s) (p:=p) (b:=true) hs (Nat.le_of_lt hp);rw[show fOf true=isNm from rfl,<- he]at hg;have hnm:∀ i,i<(s.extract p e).size->isNm (bAt (s.extract p e) i)=true:=by rw[he];exact qkt s p (Nat.le_of_lt hp)
  have hsz:(s.extract p e).size=e-p:=size_ext s p e he1;unfold qd6;rw[<- he];obtain⟨N1,h1⟩:=qwb (bAt s p);obtain⟨N2,h2⟩:=hg;obtain⟨N3,h3⟩:=qzw (s.extract p e);obtain⟨N4,h4⟩:=qsc hnm (by omega);refine Goes.fin (step:=qq3) (s:=.e s (p:Int)) ⟨N1+N2+N3+N4,fun k hk rec=>?_⟩;have h1:=h1 k (by omega);have h2:=h2 k (by omega);have h3:=h3 k (by omega);have h4:=h4 k (by omega);rw[hl]at h1;simp only at h1 h2 h3 h4;simp only[nt,qq3,yw hp,h1,h2,h3,h4,ae,ah,hw,bnds (show p<=e by omega) he1,ZW,qc0];have hz:((e-p:Nat):Int)=(e:Int)-(p:Int):=by omega
  cases hwd:YH (s.extract p e)with
  |true=>simp[oneR,hz]
  |false=>
   cases hn:nmOk (s.extract p e)with
   |true=>simp[oneR,hz]
   |false=>simp[oneR]
 |false=>
  rw[aF (by simp)];cases hd:isDi (bAt s p)with
  |true=>
   rw[aD rfl];obtain⟨N1,h1⟩:=qwb (bAt s p);obtain⟨N2,h2⟩:=qw3 (bAt s p);obtain⟨N3,h3⟩:=qDM hs hp hd;refine Goes.fin (step:=qq3) (s:=.e s (p:Int)) ⟨N1+N2+N3,fun k hk rec=>?_⟩;have h1:=h1 k (by omega);have h2:=h2 k (by omega);have h3:=h3 k (by omega);rw[hl]at h1;rw[hd]at h2;simp only at h1 h2 h3;simp only[nt,qq3,yw hp,h1,h2,h3,ae,ah,af];cases Zt s p with
   |none=>rfl
   |some x=>obtain⟨t,e⟩:=x;rfl
  |false=>
   rw[aF (by simp)];by_cases h39:bAt s p=39
   .
    rw[aD h39];obtain⟨e,he⟩:∃ e,e=stop isNm s (p+1):=⟨_,rfl⟩
    have he1:e<=s.size:=by rw[he];exact yQ (by omega)
    have hge:=zC isNm s (p+1);have hw1:=zq p (by omega);have hw:IntKind.i64.wrap (((p+1:Nat):Int)+((e-(p+1):Nat):Int))=(e:Int):=qes (by omega) (by omega);have hg:=qo3 (s:=s) (p:=p+1) (b:=true) hs (by omega);rw[show fOf true=isNm from rfl,<- he]at hg;have hnm:∀ i,i<(s.extract (p+1) e).size->isNm (bAt (s.extract (p+1) e) i)=true:=by rw[he];exact qkt s (p+1) (by omega)
    have hsz:(s.extract (p+1) e).size=e-(p+1):=size_ext s (p+1) e he1;unfold qdt;rw[<- he];have no:Goes qq3 (.h0 ((e-(p+1):Nat):Int) (s.extract (p+1) e) true 0 (strB []) 0 0 0) (0,strB [],0,0,0,0):=.fin0 fun k rec=>by simp only[nt,qq3,ah]
    have yes:Goes qq3 (.h0 ((e-(p+1):Nat):Int) (s.extract (p+1) e) false 0 (strB []) 0 0 0) (5,s.extract (p+1) e,0,0,0,((e+1:Nat):Int)-(p:Int)):=.fin0 fun k rec=>by simp only[nt,qq3,af];rw[show IntKind.i64.wrap (((e-(p+1):Nat):Int)+2)=((e-(p+1)+2:Nat):Int)from qes (by omega) (by omega),show((e-(p+1)+2:Nat):Int)=((e+1:Nat):Int)-(p:Int)by omega]
    have go:∀ b r,Goes qq3 (.h0 ((e-(p+1):Nat):Int) (s.extract (p+1) e) b 0 (strB []) 0 0 0) r->b = !decide (nmOk (s.extract (p+1) e)=true/\e<s.size/\bAt s e=39)->Tot (fun k=>g50 k s (p:Int)) r:=by
     intro b r hr hb;obtain⟨N1,h1⟩:=qwb (bAt s p);obtain⟨N2,h2⟩:=qw3 (bAt s p);obtain⟨N3,h3⟩:=hg;obtain⟨N4,h4⟩:=qsc hnm (by omega);refine Goes.rec (step:=qq3) (s:=.e s (p:Int)) hr ⟨N1+N2+N3+N4,fun k hk rec=>?_⟩;have h1:=h1 k (by omega);have h2:=h2 k (by omega);have h3:=h3 k (by omega);have h4:=h4 k (by omega);rw[hl]at h1;rw[hd]at h2;simp only at h1 h2 h3 h4;simp only[nt,qq3,yw hp,h1,h2,ae,af,show(bAt s p==39)=true from beq_iff_eq.2 h39,ah,hw1,h3,hw,bnds (show p+1<=e by omega) he1,ZW,qc0,h4];cases hn:nmOk (s.extract (p+1) e)with
     |false=>grind
     |true=>
      by_cases hc:e<s.size
      . rw[show decide ((e:Int)>=(s.size:Int))=false from aN (by omega),yw hc,hb,hn]
        grind
      grind
    by_cases hh:nmOk (s.extract (p+1) e)=true/\e<s.size/\bAt s e=39
    . rw[aD hh];exact go false _ yes (by grind)
    . rw[aF hh];exact go true _ no (by grind)
   .
    rw[aF h39];have hlen:qpt.length=17:=by simp[qpt]
    have hsg:=qxX (s:=s) (p:=p) hs (Nat.le_of_lt hp) (L:=qpt) (by omega) (by simp[qpt,qoK]) 17 0 (by omega);rw[List.drop_zero,hlen,qrc]at hsg;have e1:sgR s p (qpt.find? (pfx s p))=oneR p (qav s p):=by
     have hf:=qrM hp;unfold qav;cases hq:qpt.find? (pfx s p)with
     |none=>
      rw[hq]at hf;have:vR s p=0:=by grind
      rw[aD this];rfl
     |some x=>
      rw[hq]at hf;have hx:=qtC (List.find?_some hq);by_cases h:vR s p=0
      . grind
      . rw[aF h]at hf;have hz:x.size=vR s p:=by grind
        rw[aF h];rw[hz]at hx;show(6,x,0,0,0,(x.size:Int))=(6,s.extract p (p+vR s p),0,0,0,((p+vR s p:Nat):Int)-(p:Int))
        grind
    rw[e1]at hsg;obtain⟨N1,h1⟩:=qwb (bAt s p);obtain⟨N2,h2⟩:=qw3 (bAt s p);refine Goes.rec (step:=qq3) (s:=.e s (p:Int)) hsg ⟨N1+N2,fun k hk rec=>?_⟩;have h1:=h1 k (by omega);have h2:=h2 k (by omega);rw[hl]at h1;rw[hd]at h2;simp only at h1 h2;simp only[nt,qq3,yw hp,h1,h2,ae,af,show(bAt s p==39)=false from beq_eq_false_iff_ne.2 h39];rfl
def qcS (s:ByteArray)(p:Nat)(z:Int):R39:=
 if stop isBl s p=s.size then .inl (0,strB [],0,0,(s.size:Int),(s.size:Int))
 else match tok s (stop isBl s p)with
  |some (t,e)=>.inl (t.kind,t.text,t.n,t.scale,(stop isBl s p:Int),(e:Int))
  |none=>.inr ((stop isBl s p:Int),z)
theorem qzp {s q}(hs:s.size<=4000)(hq:q<=s.size)(hb:q<s.size->isBl (bAt s q)=false):∃ z,Goes qpB (.h1 false 0 (strB []) 0 0 0 s (q:Int)) (qcS s q z):=by
 have hst:stop isBl s q=q:=zk hb;unfold qcS;rw[hst];by_cases he:q=s.size
 . refine⟨0,?_⟩;rw[aD he];refine .fin0 fun k rec=>?_;subst he;simp only[nt,qpB,af,beq_self_eq_true,ah]
 .
  have hp:q<s.size:=by omega
  have hne:((q:Int)==(s.size:Int))=false:=by grind
  simp only[aF he];obtain⟨N1,h1⟩:=qzt (bAt s q);obtain⟨N2,h2⟩:=qxY (bAt s q);unfold tok;cases hl:isLe (bAt s q)with
  |true=>
   refine⟨(stop isNm s q:Int),?_⟩;rw[aD rfl];obtain⟨N3,h3⟩:=qDJ hs hp;refine .fin ⟨N1+N2+N3,fun k hk rec=>?_⟩;have h1:=h1 k (by omega);have h3:=h3 k (by omega);rw[hl]at h1;simp only at h1 h3;simp only[nt,qpB,af,hne,yw hp,h1,ae,ah,h3];cases qd6 s q with
   |none=>rfl
   |some x=>obtain⟨t,e⟩:=x;rfl
  |false=>
   rw[aF (by simp)];cases hd:isDi (bAt s q)with
   |true=>
    rw[aD rfl];obtain⟨z,N3,h3⟩:=qDK hs hp hd;refine⟨z,.fin ⟨N1+N2+N3,fun k hk rec=>?_⟩⟩;have h1:=h1 k (by omega);have h2:=h2 k (by omega);have h3:=h3 k (by omega);rw[hl]at h1;rw[hd]at h2;simp only at h1 h2 h3;simp only[nt,qpB,af,hne,yw hp,h1,h2,ae,ah,h3];cases Zt s q with
    |none=>rfl
    |some x=>obtain⟨t,e⟩:=x;rfl
   |false=>
    rw[aF (by simp)];by_cases h39:bAt s q=39
    . rw[aD h39];obtain⟨N3,h3⟩:=qDL hs hp;refine⟨(q:Int),.fin ⟨N1+N2+N3,fun k hk rec=>?_⟩⟩;have h1:=h1 k (by omega);have h2:=h2 k (by omega);have h3:=h3 k (by omega);rw[hl]at h1;rw[hd]at h2;simp only at h1 h2 h3;simp only[nt,qpB,af,hne,yw hp,h1,h2,ae,show(bAt s q==39)=true from beq_iff_eq.2 h39,ah,h3];cases qdt s q with
      |none=>rfl
      |some x=>obtain⟨t,e⟩:=x;rfl
    . rw[aF h39];obtain⟨N3,h3⟩:=qsd hs hp;refine⟨(q:Int),.fin ⟨N1+N2+N3,fun k hk rec=>?_⟩⟩;have h1:=h1 k (by omega);have h2:=h2 k (by omega);have h3:=h3 k (by omega);rw[hl]at h1;rw[hd]at h2;simp only at h1 h2 h3;simp only[nt,qpB,af,hne,yw hp,h1,h2,ae,show(bAt s q==39)=false from beq_eq_false_iff_ne.2 h39,h3];cases qav s q with
      |none=>rfl
      |some x=>obtain⟨t,e⟩:=x;rfl
theorem qjv {s p z}(hp:p<s.size)(hb:isBl (bAt s p)=true):qcS s p z=qcS s (p+1) z:=by unfold qcS;rw[qo9 hp hb]
theorem qqN {s:ByteArray}(hs:s.size<=4000):∀ (n p:Nat),s.size-p<=n->p<=s.size->∃ z,Goes qpB (.h0 0 (strB []) 0 0 0 s (p:Int)) (qcS s p z)
 |0,p,h1,h2=>by obtain⟨z,hz⟩:=qzp hs h2 (fun h=>by omega);exact⟨z,Goes.rec0 hz fun k rec=>by simp only[nt,qpB,ltF (show ¬ p<s.size by omega),af]⟩
 |n+1,p,h1,h2=>by
  by_cases hp:p<s.size
  .
   cases hb:isBl (bAt s p)with
   |true=>
    obtain⟨z,hz⟩:=qqN hs n (p+1) (by omega) (by omega);rw[<- qjv hp hb]at hz;have h3:Goes qpB (.h1 true 0 (strB []) 0 0 0 s (p:Int)) (qcS s p z):=Goes.rec0 hz fun k rec=>by simp only[nt,qpB,ah,zq p (by omega)]
    exact⟨z,Goes.call (qoP (bAt s p)) h3 fun k rec e=>by simp only[nt,qpB,ltT hp,ah,yw hp,e,hb,ae]⟩
   |false=>obtain⟨z,hz⟩:=qzp hs h2 (fun _=>hb);exact⟨z,Goes.call (qoP (bAt s p)) hz fun k rec e=>by simp only[nt,qpB,ltT hp,ah,yw hp,e,hb,ae]⟩
  . obtain⟨z,hz⟩:=qzp hs h2 (fun h=>absurd h hp);exact⟨z,Goes.rec0 hz fun k rec=>by simp only[nt,qpB,ltF hp,af]⟩
theorem qrp {s:ByteArray}{p}(hs:s.size<=4000)(hp:p<=s.size):∃ z,Tot (fun k=>g39 k s (p:Int)) (qcS s p z):=by obtain⟨z,hz⟩:=qqN hs _ p (Nat.le_refl _) hp;exact⟨z,Goes.rec0 (step:=qpB) (s:=.e s (p:Int)) hz fun k rec=>rfl⟩
end
def qiY (t:Tk)(p:Nat):List Cell:=[ic t.kind,sc t.text,ic t.n,ic t.scale,ic (p:Int)]
def qhe (p:Nat):List Cell:=[ic 0,sc (strB []),ic 0,ic 0,ic (p:Int)]
def qcV (s:ByteArray):Nat->Nat->Rs⊕Nat
 |0,p=>.inr p
 |n+1,p=>if stop isBl s p=s.size then .inl [qhe s.size]else match tok s (stop isBl s p)with
  |some (t,e)=>(match qcV s n e with
   |.inl l=>.inl (qiY t (stop isBl s p)::l)
   |.inr z=>.inr z)
  |none=>.inr (stop isBl s p)
section
variable [vo]
theorem ql4 {acc row}(h1:acc.length<=5000)(h2:row.length=5):apOk 48 5 acc [row]=true:=by unfold apOk;simp[h2,lim];omega
def qvW (acc:Rs):Rs⊕Nat->R12
 |.inl l=>.inl (qG (acc++l),0,0)
 |.inr z=>.inr ((z:Int),12)
theorem qyr {s:ByteArray}(hs:s.size<=4000):∀ (n p:Nat) (acc:Rs),s.size-p<n->p<=s.size->acc.length<=p->Goes qmH (.h1 s (p:Int) 0 0 acc) (qvW acc (qcV s n p))
 |0,p,acc,h,_,_=>by omega
 |n+1,p,acc,h1,h2,h3=>by
  obtain⟨z,hz⟩:=qrp (s:=s) (p:=p) hs h2;unfold qcS at hz;have hq:=zC isBl s p;have hq2:=yQ (f:=isBl) h2;unfold qcV;by_cases he:stop isBl s p=s.size
  . rw[aD he]at hz |-;have h4:Goes qmH (.h2 0 0 (qG (acc++[qhe s.size]))) (qvW acc (.inl [qhe s.size])):=.fin0 fun k rec=>rfl;refine Goes.call hz h4 fun k rec e=>?_;simp only[nt,qmH,e,ae,altC,tup6,ql4 (show acc.length<=5000 by omega) (show [ic 0,sc (strB []),ic 0,ic 0,ic (s.size:Int)].length=5 from rfl),ZW,show((0:Int)==0)=true from rfl,ah];rfl
  .
   rw[aF he]at hz |-;have hp:stop isBl s p<s.size:=by omega
   cases ht:tok s (stop isBl s p)with
   |none=>rw[ht]at hz;refine Goes.done hz fun k rec e=>?_;simp only[nt,qmH,e,ae,altC,tup2];rfl
   |some x=>
    obtain⟨t,e⟩:=x;rw[ht]at hz;have hend:=qeR hp ht;have hk:t.kind≠0:=by
     unfold tok qd6 Zt qdt qav at ht
     grind
    have ih:=qyr hs n e (acc++[qiY t (stop isBl s p)]) (by omega) hend.2 (by grind);have e2:qvW (acc++[qiY t (stop isBl s p)]) (qcV s n e)=qvW acc (match qcV s n e with|.inl l=>.inl (qiY t (stop isBl s p)::l)|.inr z=>.inr z):=by
     cases qcV s n e with
     |inl l=>simp[qvW]
     |inr z=>rfl
    rw[e2]at ih;refine Goes.call hz ih fun k rec e=>?_;simp only[nt,qmH,e,ae,altC,tup6,ql4 (show acc.length<=5000 by omega) (show [ic t.kind,sc t.text,ic t.n,ic t.scale,ic (stop isBl s p:Int)].length=5 from rfl),ZW,beq_eq_false_iff_ne.2 hk,af];rfl
theorem qDD {s:ByteArray}(hs:s.size<=4000):Tot (fun k=>g12 k s) (qvW [] (qcV s (s.size+1) 0)):=by have h:=qyr hs (s.size+1) 0 [] (by omega) (by omega) (Nat.le_refl _);refine Goes.rec0 (step:=qmH) (s:=.e s) h fun k rec=>?_;simp only[nt,qmH,show decide ((s.size:Int)>4000)=false from aN (by omega),af];rfl
theorem qAu {s:ByteArray}(hs:¬ s.size<=4000):Tot (fun k=>g12 k s) (.inl ([],0,2)):=by have h:Goes qmH (.h0 2 0 []) (.inl ([],0,2)):=.fin0 fun k rec=>rfl;refine Goes.rec0 (step:=qmH) (s:=.e s) h fun k rec=>?_;simp only[nt,qmH,show decide ((s.size:Int)>4000)=true from aO (by omega),ah]
def qvx (acc:Rs):Rs⊕Nat->R16
 |.inl l=>(acc++l,0,0)
 |.inr z=>([],(z:Int),12)
theorem qys {s:ByteArray}(hs:s.size<=4000):∀ (n p:Nat) (acc:Rs),s.size-p<n->p<=s.size->acc.length<=p->Goes ZT (.h1 s acc (p:Int)) (qvx acc (qcV s n p))
 |0,p,acc,h,_,_=>by omega
 |n+1,p,acc,h1,h2,h3=>by
  have hq:=zC isBl s p;have hq2:=yQ (f:=isBl) h2;have h5:acc.length<=5000:=by omega
  -- behind the blanks
  have main:Goes ZT (.h3 s acc (stop isBl s p:Int) false) (qvx acc (qcV s (n+1) p)):=by
   unfold qcV;by_cases he:stop isBl s p=s.size
   . rw[aD he];have h4:Goes ZT (.h4 (acc++[qhe s.size]) 0 0) (qvx acc (.inl [qhe s.size])):=.fin0 fun k rec=>rfl;refine Goes.rec0 h4 fun k rec=>?_;simp only[nt,ZT,af,he,beq_self_eq_true,ah,ql4 h5 (show [ic 0,sc (strB []),ic 0,ic 0,ic (s.size:Int)].length=5 from rfl),ZW];rfl
   .
    rw[aF he];have hp:stop isBl s p<s.size:=by omega
    have hne:((stop isBl s p:Int)==(s.size:Int))=false:=by grind
    have hg:=qDH hs hp;cases ht:tok s (stop isBl s p)with
    |none=>rw[ht]at hg;have h4:Goes ZT (.h5 [] (stop isBl s p:Int) 12) (qvx acc (.inr (stop isBl s p))):=.fin0 fun k rec=>rfl;refine Goes.call hg h4 fun k rec e=>?_;simp only[nt,ZT,af,hne,e,ae,oneR,tup6,show((0:Int)==0)=true from rfl,ah]
    |some x=>
     obtain⟨t,e⟩:=x;rw[ht]at hg;have hend:=qeR hp ht;have ih:=qys hs n e (acc++[qiY t (stop isBl s p)]) (by omega) hend.2 (by grind);have e2:qvx (acc++[qiY t (stop isBl s p)]) (qcV s n e)=qvx acc (match qcV s n e with|.inl l=>.inl (qiY t (stop isBl s p)::l)|.inr z=>.inr z):=by
      cases qcV s n e with
      |inl l=>simp[qvx]
      |inr z=>rfl
     rw[e2]at ih;have hz:(((e:Int)-(stop isBl s p:Int))==0)=false:=by grind
     have hw:IntKind.i64.wrap ((stop isBl s p:Int)+((e:Int)-(stop isBl s p:Int)))=(e:Int):=qes (by omega) (by omega);refine Goes.call hg ih fun k rec e=>?_;simp only[nt,ZT,af,hne,e,ae,oneR,tup6,hz,ql4 h5 (show [ic t.kind,sc t.text,ic t.n,ic t.scale,ic (stop isBl s p:Int)].length=5 from rfl),ZW,hw];rfl
  -- the blanks
  have bl:∀ (j q:Nat),s.size-q<=j->q<=s.size->stop isBl s q=stop isBl s p->Goes ZT (.h2 s acc (q:Int)) (qvx acc (qcV s (n+1) p)):=by
   intro j
   induction j with
   |zero=>
    intro q a b c;have:stop isBl s p=q:=by rw[<- c];exact zk (fun h=>by omega)
    rw[this]at main;exact Goes.rec0 main fun k rec=>by simp only[nt,ZT,ltF (show ¬ q<s.size by omega),af]
   |succ j ih=>
    intro q a b c;by_cases hp:q<s.size
    .
     cases hb:isBl (bAt s q)with
     |true=>
      have h3:Goes ZT (.h3 s acc (q:Int) true) (qvx acc (qcV s (n+1) p)):=Goes.rec0 (ih (q+1) (by omega) (by omega) (by rw[<- c,qo9 hp hb])) fun k rec=>by simp only[nt,ZT,ah,zq q (by omega)]
      exact Goes.call (qA3 (bAt s q)) h3 fun k rec e=>by simp only[nt,ZT,ltT hp,ah,yw hp,e,hb,ae]
     |false=>
      have:stop isBl s p=q:=by rw[<- c];exact zk (fun _=>hb)
      rw[this]at main;exact Goes.call (qA3 (bAt s q)) main fun k rec e=>by simp only[nt,ZT,ltT hp,ah,yw hp,e,hb,ae]
    grind
  exact Goes.rec0 (bl _ p (Nat.le_refl _) h2 rfl) fun k rec=>rfl
theorem qnb {s:ByteArray}(hs:s.size<=4000):Tot (fun k=>g16 k s) (qvx [] (qcV s (s.size+1) 0)):=by have h:=qys hs (s.size+1) 0 [] (by omega) (by omega) (Nat.le_refl _);refine Goes.rec0 (step:=ZT) (s:=.e s) h fun k rec=>?_;simp only[nt,ZT,show decide ((s.size:Int)>4000)=false from aN (by omega),af];rfl
theorem qAv {s:ByteArray}(hs:¬ s.size<=4000):Tot (fun k=>g16 k s) ([],0,2):=by have h:Goes ZT (.h0 [] 0 2) ([],0,2):=.fin0 fun k rec=>rfl;refine Goes.rec0 (step:=ZT) (s:=.e s) h fun k rec=>?_;simp only[nt,ZT,show decide ((s.size:Int)>4000)=true from aO (by omega),ah]
end
end Ab
end Go.Proofs.YtgfbbmjoflehlaaGreatDoor

/-
  The program's scanner: what its functions tell, as plain functions of the text; tokens that are moved to another text.
-/
import Derived.Test.YtfekohpjaafnhaaGreatDoorFEeq
import Derived.Lib.ItoaNum
set_option linter.all false
namespace Go.Proofs.YtfekohpjaafnhaaGreatDoor
namespace Ab
def bAt (s:ByteArray)(p:Nat):Int:=((s.data.toList.getD p 0).toNat:Int)
def isLe (c:Int):Bool:=(decide (97≤c)&&decide (c≤122))||(decide (65≤c)&&decide (c≤90))
def isDi (c:Int):Bool:=decide (48≤c)&&decide (c≤57)
def isNm (c:Int):Bool:=isLe c||isDi c||c==95
def isBl (c:Int):Bool:=c==32||c==9||c==10||c==13
theorem qj3 (s:ByteArray)(p:Nat):0≤bAt s p:=by unfold bAt;omega
theorem qr2 (s:ByteArray)(p:Nat):bAt s p≤255:=by unfold bAt;have:=(s.data.toList.getD p 0).toNat_lt;omega
theorem qD (s:ByteArray):s.data.toList.length=s.size:=by rw[Array.length_toList];rfl
theorem qhT {s:ByteArray}{p:Nat}(h:p<s.size):s.data.toList[p]? = some (UInt8.ofNat (bAt s p).toNat):=by
 have h':p<s.data.toList.length:=by rw[qD];exact h
 rw[ax h'];unfold bAt;rw[List.getD_eq_getElem?_getD,ax h'];simp
theorem qdy {s:ByteArray}{p:Nat}(h:p<s.size):Xp s p=some (bAt s p):=by
 unfold Xp bAt;have h1:s[p]? = some (s[p]'h):=by simp[h]
 have h':p<s.data.toList.length:=by rw[qD];exact h
 rw[h1,List.getD_eq_getElem?_getD,ax h'];rfl
theorem qja {s:ByteArray}{p:Nat}(h:p<s.size):((s[p]'h).toNat:Int)=bAt s p:=by
 have:=qdy h;unfold Xp at this;have h1:s[p]? = some (s[p]'h):=by simp[h]
 rw[h1]at this;simpa using this
theorem yw {α:Type}{s:ByteArray}{p:Nat}(h:p<s.size)(k:Int→Option α):sxI s (p:Int) k=k (bAt s p):=by
 have:decide ((0:Int)≤(p:Int))=true:=by simp
 simp[sxI,qdy h]
theorem qol {α:Type}{s:ByteArray}(h:0<s.size)(k:Int→Option α):sxI s 0 k=k (bAt s 0):=yw h k
def stop (f:Int→Bool)(s:ByteArray)(p:Nat):Nat:=if p<s.size then(if f (bAt s p)then stop f s (p+1)else p)else p
termination_by s.size-p
theorem zk {f:Int→Bool}{s:ByteArray}{p:Nat}(h:p<s.size→f (bAt s p)=false):stop f s p=p:=by
 rw[stop];split
 · rename_i hp;rw[h hp];rfl
 · rfl
theorem qo9 {f:Int→Bool}{s:ByteArray}{p:Nat}(hp:p<s.size)(h:f (bAt s p)=true):stop f s p=stop f s (p+1):=by rw[stop,aD hp,h];rfl
theorem qhI (f:Int→Bool)(s:ByteArray):∀ (n p:Nat),s.size-p≤n→p≤stop f s p
 |0,p,h=>by rw[zk (fun hp=>by omega)];exact Nat.le_refl _
 |n+1,p,h=>by
  by_cases hp:p<s.size
  · cases hf:f (bAt s p)with
    |true=>rw[qo9 hp hf];have:=qhI f s n (p+1) (by omega);omega
    |false=>rw[zk (fun _=>hf)];exact Nat.le_refl _
  · rw[zk (fun h=>absurd h hp)];exact Nat.le_refl _
theorem zC (f:Int→Bool)(s:ByteArray)(p:Nat):p≤stop f s p:=qhI f s _ p (Nat.le_refl _)
theorem qif (f:Int→Bool)(s:ByteArray):∀ (n p:Nat),s.size-p≤n→p≤s.size→stop f s p≤s.size
 |0,p,h,hs=>by rw[zk (fun hp=>by omega)];exact hs
 |n+1,p,h,hs=>by
  by_cases hp:p<s.size
  · cases hf:f (bAt s p)with
    |true=>rw[qo9 hp hf];exact qif f s n (p+1) (by omega) (by omega)
    |false=>rw[zk (fun _=>hf)];exact hs
  · rw[zk (fun h=>absurd h hp)];exact hs
theorem yQ {f:Int→Bool}{s:ByteArray}{p:Nat}(h:p≤s.size):stop f s p≤s.size:=qif f s _ p (Nat.le_refl _) h
theorem qig {f:Int→Bool}{s:ByteArray}:∀ {n p:Nat},s.size-p≤n→∀ i,p≤i→i<stop f s p→f (bAt s i)=true
 |0,p,h,i,h1,h2=>by rw[zk (fun hp=>by omega)]at h2;omega
 |n+1,p,h,i,h1,h2=>by
  by_cases hp:p<s.size
  ·
   cases hf:f (bAt s p)with
   |true=>
    rw[qo9 hp hf]at h2;by_cases e:i=p
    · subst e;exact hf
    · exact qig (n:=n) (by omega) i (by omega) h2
   |false=>rw[zk (fun _=>hf)]at h2;omega
  · rw[zk (fun h=>absurd h hp)]at h2;omega
theorem Qj {f:Int→Bool}{s:ByteArray}{p i:Nat}(h1:p≤i)(h2:i<stop f s p):f (bAt s i)=true:=qig (Nat.le_refl _) i h1 h2
theorem qfM {f:Int→Bool}{s:ByteArray}:∀ {n p:Nat},s.size-p≤n→stop f s p<s.size→f (bAt s (stop f s p))=false
 |0,p,h,h2=>by rw[zk (fun hp=>by omega)]at h2;omega
 |n+1,p,h,h2=>by
  by_cases hp:p<s.size
  · cases hf:f (bAt s p)with
    |true=>rw[qo9 hp hf]at h2 ⊢;exact qfM (n:=n) (by omega) h2
    |false=>rw[zk (fun _=>hf)];exact hf
  · rw[zk (fun h=>absurd h hp)]at h2;omega
theorem qeZ {f:Int→Bool}{s:ByteArray}{p:Nat}(h:stop f s p<s.size):f (bAt s (stop f s p))=false:=qfM (Nat.le_refl _) h
theorem qdM {f:Int→Bool}{s:ByteArray}{e:Nat}:∀ {n p:Nat},e-p≤n→p≤e→e≤s.size→(∀ i,p≤i→i<e→f (bAt s i)=true)→(e<s.size→f (bAt s e)=false)→stop f s p=e
 |0,p,h,h1,h2,h3,h4=>by
  obtain rfl:p=e:=by omega
  exact zk h4
 |n+1,p,h,h1,h2,h3,h4=>by
  by_cases e0:p=e
  · subst e0;exact zk h4
  · rw[qo9 (by omega) (h3 p (Nat.le_refl _) (by omega))];exact qdM (n:=n) (by omega) (by omega) h2 (fun i a b=>h3 i (by omega) b) h4
theorem qeN {f:Int→Bool}{s:ByteArray}{p e:Nat}(h1:p≤e)(h2:e≤s.size)(h3:∀ i,p≤i→i<e→f (bAt s i)=true)(h4:e<s.size→f (bAt s e)=false):stop f s p=e:=qdM (Nat.le_refl _) h1 h2 h3 h4
theorem size_ext (s:ByteArray)(a b:Nat)(hb:b≤s.size):(s.extract a b).size=b-a:=by rw[ByteArray.size_extract];omega
theorem Qz {s:ByteArray}{a b i:Nat}(hb:b≤s.size)(h:i<b-a):bAt (s.extract a b) i=bAt s (a+i):=by unfold bAt;rw[ByteArray.data_extract,Array.toList_extract];congr 2;rw[List.getD_eq_getElem?_getD,List.getD_eq_getElem?_getD,List.extract_eq_take_drop,List.getElem?_take,aD h,List.getElem?_drop]
theorem qcK {a b:ByteArray}(hs:a.size=b.size)(h:∀ i,i<a.size→bAt a i=bAt b i):a=b:=by
 apply ByteArray.ext;apply Array.ext';apply List.ext_getElem?;intro i;by_cases hi:i<a.size
 · rw[qhT hi,qhT (by omega),h i hi]
 · rw[List.getElem?_eq_none (by rw[qD];omega),List.getElem?_eq_none (by rw[qD];omega)]
theorem Qw (s:ByteArray):s.toList=s.data.toList:=ByteArray.toList_eq s
theorem toList_inj {a b:ByteArray}(h:a.toList=b.toList):a=b:=by apply ByteArray.ext;apply Array.ext';rw[← Qw,← Qw,h]
theorem wrapN {n:Nat}(h:n<9223372036854775808):IntKind.i64.wrap (n:Int)=(n:Int):=by rw[IntKind.wrap_i64];omega
theorem qes {x:Int}{n:Nat}(e:x=n)(h:n<9223372036854775808):IntKind.i64.wrap x=(n:Int):=by rw[e];exact wrapN h
def Tot {α:Type}(f:Nat→Option α)(r:α):Prop:=∃ N,∀ k,N≤k→f k=some r
def Goes {S R:Type}(step:Nat→(S→Option R)→S→Option R)(s:S)(r:R):Prop:=Tot (fun k=>itS step k s) r
theorem Goes.rec {S R:Type}{step:Nat→(S→Option R)→S→Option R}{s s':S}{r:R}(h:Goes step s' r)(e:∃ N,∀ k,N≤k→∀ rec,step k rec s=rec s'):Goes step s r:=by
 obtain⟨N,hN⟩:=h;obtain⟨M,hM⟩:=e;refine⟨max N M+1,fun k hk=>?_⟩;obtain⟨j,rfl⟩:∃ j,k=j+1:=⟨k-1,by omega⟩
 show step j (itS step j) s=some r;rw[hM j (by omega)];exact hN j (by omega)
theorem Goes.rec0 {S R:Type}{step:Nat→(S→Option R)→S→Option R}{s s':S}{r:R}(h:Goes step s' r)(e:∀ k rec,step k rec s=rec s'):Goes step s r:=h.rec ⟨0,fun k _=>e k⟩
theorem Goes.fin {S R:Type}{step:Nat→(S→Option R)→S→Option R}{s:S}{r:R}(e:∃ N,∀ k,N≤k→∀ rec,step k rec s=some r):Goes step s r:=by
 obtain⟨M,hM⟩:=e;refine⟨M+1,fun k hk=>?_⟩;obtain⟨j,rfl⟩:∃ j,k=j+1:=⟨k-1,by omega⟩
 exact hM j (by omega) _
theorem Goes.fin0 {S R:Type}{step:Nat→(S→Option R)→S→Option R}{s:S}{r:R}(e:∀ k rec,step k rec s=some r):Goes step s r:=.fin ⟨0,fun k _=>e k⟩
theorem qjj {α:Type}{f:Nat→Option α}{r:α}(N:Nat)(h:∀ j,f (j+N)=some r):Tot f r:=⟨N,fun k hk=>by obtain⟨j,rfl⟩:∃ j,k=j+N:=⟨k-N,by omega⟩;exact h j⟩
theorem Goes.call {S R A:Type}{step:Nat→(S→Option R)→S→Option R}{s s':S}{r:R}{g:Nat→Option A}{a:A}(hg:Tot g a)(h:Goes step s' r)(e:∀ k rec,g k=some a→step k rec s=rec s'):Goes step s r:=by obtain⟨N,hN⟩:=hg;exact h.rec ⟨N,fun k hk rec=>e k rec (hN k hk)⟩
theorem Goes.call2 {S R A B:Type}{step:Nat→(S→Option R)→S→Option R}{s s':S}{r:R}{g:Nat→Option A}{a:A}{g2:Nat→Option B}{b:B}(hg:Tot g a)(hg2:Tot g2 b)(h:Goes step s' r)(e:∀ k rec,g k=some a→g2 k=some b→step k rec s=rec s'):Goes step s r:=by obtain⟨N,hN⟩:=hg;obtain⟨M,hM⟩:=hg2;exact h.rec ⟨max N M,fun k hk rec=>e k rec (hN k (by omega)) (hM k (by omega))⟩
theorem Goes.done {S R A:Type}{step:Nat→(S→Option R)→S→Option R}{s:S}{r:R}{g:Nat→Option A}{a:A}(hg:Tot g a)(e:∀ k rec,g k=some a→step k rec s=some r):Goes step s r:=by obtain⟨N,hN⟩:=hg;exact .fin ⟨N,fun k hk rec=>e k rec (hN k hk)⟩
theorem Goes.done2 {S R A B:Type}{step:Nat→(S→Option R)→S→Option R}{s:S}{r:R}{g:Nat→Option A}{a:A}{g2:Nat→Option B}{b:B}(hg:Tot g a)(hg2:Tot g2 b)(e:∀ k rec,g k=some a→g2 k=some b→step k rec s=some r):Goes step s r:=by obtain⟨N,hN⟩:=hg;obtain⟨M,hM⟩:=hg2;exact .fin ⟨max N M,fun k hk rec=>e k rec (hN k (by omega)) (hM k (by omega))⟩
theorem Yi {α:Type}{rows:Rs}{i:Nat}{row:List Cell}(h:rows[i]? = some row)(k:List Cell→Option α):ixR rows (i:Int) k=k row:=by
 have:decide ((0:Int)≤(i:Int))=true:=by simp
 simp[ixR,h]
theorem qse {α:Type}{L:List α}{f:α→List Cell}{i:Nat}{x:α}(h:L[i]? = some x):(L.map f)[i]? = some (f x):=by rw[aH,h];rfl
theorem zq (i:Nat)(h:i<4611686018427387904):IntKind.i64.wrap ((i:Int)+1)=((i+1:Nat):Int):=qes (by omega) (by omega)
theorem qk7 (i j:Nat)(h:i+j<4611686018427387904):IntKind.i64.wrap ((i:Int)+(j:Int))=((i+j:Nat):Int):=qes (by omega) (by omega)
section
variable [vo]
theorem qiw (c:Int):Tot (fun k=>g30 k c) (isBl c):=Goes.fin0 (step:=qe8) (s:=.e c) fun k rec=>by simp only[qe8,isBl];cases h1:c==32<;>cases h2:c==9<;>cases h3:c==10<;>rfl
theorem ql5 (c:Int):Tot (fun k=>g31 k c) (isLe c):=Goes.fin0 (step:=qfG) (s:=.e c) fun k rec=>by simp only[qfG,isLe,ge_iff_le];cases h1:decide (97≤c)<;>cases h2:decide (c≤122)<;>cases h3:decide (65≤c)<;>rfl
theorem yZ (c:Int):Tot (fun k=>g37 k c) (isLe c):=Goes.fin0 (step:=qfl) (s:=.e c) fun k rec=>by simp only[qfl,isLe,ge_iff_le];cases h1:decide (97≤c)<;>cases h2:decide (c≤122)<;>cases h3:decide (65≤c)<;>rfl
theorem qlJ (c:Int):Tot (fun k=>g33 k c) (isDi c):=Goes.fin0 (step:=yX) (s:=.e c) fun k rec=>by simp only[yX,isDi,ge_iff_le];cases h1:decide (48≤c)<;>rfl
theorem qkp (c:Int):Tot (fun k=>g41 k c) (isDi c):=Goes.fin0 (step:=Zy) (s:=.e c) fun k rec=>by simp only[Zy,isDi,ge_iff_le];cases h1:decide (48≤c)<;>rfl
end
theorem qdo {c:Int}(h:isNm c=true):Xa c≠4∧(Xa c>1↔isLe c=false):=by
 simp only[isNm,isLe,isDi,Bool.or_eq_true,aC,aX,beq_iff_eq,Bool.or_eq_false_iff,Bool.and_eq_false_iff,decide_eq_false_iff_not]at *;unfold Xa
 repeat' split
 all_goals omega
theorem qfa {c:Int}(h:isNm c=true):c<128:=by simp only[isNm,isLe,isDi,Bool.or_eq_true,aC,aX,beq_iff_eq]at *;omega
theorem decode_at {s:ByteArray}{p:Nat}(hp:p<s.size)(h:bAt s p<128):Utf8.decode s p=((bAt s p).toNat,1):=by have e:=qja hp;rw[decode_ascii s p hp (by omega)];congr 1;omega
theorem qfg {s:ByteArray}(hn:∀ i,i<s.size→isNm (bAt s i)=true):∀ (n pos:Nat),1≤pos→qaV s n pos=true
 |0,_,_=>rfl
 |n+1,pos,h1=>by
  by_cases hp:pos<s.size
  · have hb:=hn pos hp;have hd:=decode_at hp (qfa hb);have e:((Utf8.decode s pos).1:Int)=bAt s pos:=by rw[hd];have:=qj3 s pos;simp;omega
    have:=qdo hb;rw[qcQ hp (by rw[e];exact fun hh=>hh.elim this.1 fun h=>by have:=h.1;omega),hd];exact qfg hn n (pos+1) (by omega)
  · exact aF hp
def nmOk (w:ByteArray):Bool:=decide (1≤w.size)&&decide (w.size≤24)&&isLe (bAt w 0) && !YH w
theorem qe0 {s:ByteArray}(hn:∀ i,i<s.size→isNm (bAt s i)=true):qcL s=nmOk s:=by
 have hz:s.toList=[]↔s.size=0:=by rw[Qw,← List.length_eq_zero_iff,qD]
 unfold qcL nmOk;by_cases h:s.toList=[]∨24<(s.size:Int)∨YH s=true
 ·
  rw[aD h];rcases h with h|h|h
  · rw[hz]at h;simp[h]
  · have:¬ s.size≤24:=by omega
    simp[this]
  · simp[h]
 ·
  rw[aF h];have h1:s.size≠0:=fun e=>h (.inl (hz.2 e));have h2:s.size≤24:=by
   rcases Nat.lt_or_ge 24 s.size with h'|h'
   · exact absurd (.inr (.inl (by omega))) h
   · exact h'
  have h3:YH s=false:=by
   cases hw:YH s with
   |true=>exact absurd (.inr (.inr hw)) h
   |false=>rfl
  obtain⟨n,hn1⟩:∃ n,s.size=n+1:=⟨s.size-1,by omega⟩
  have hp:0<s.size:=by omega
  have hb:=hn 0 hp;have hd:=decode_at hp (qfa hb);have e:((Utf8.decode s 0).1:Int)=bAt s 0:=by rw[hd];have:=qj3 s 0;simp;omega
  have hbits:=qdo hb;rw[hn1];cases hl:isLe (bAt s 0)with
  |true=>
   have:¬ Xa (bAt s 0)>1:=fun hh=>by rw[hbits.2.1 hh]at hl;cases hl
   rw[qcQ hp (by rw[e];exact fun hh=>hh.elim hbits.1 fun h=>this h.2),hd,qfg hn n _ (by omega)];simp[h3];omega
  |false=>rw[qfP hp (by rw[e];exact .inr ⟨rfl,hbits.2.2 hl⟩)];simp
def qh9:List ByteArray:=qjc.map fun l=>strB (l.map UInt8.toNat)
theorem qez:qh9.map (fun x=>x.toList)=qjc:=by kernel_rfl
theorem qi2 (s:ByteArray):YH s=qh9.any fun x=>s.toList==x.toList:=by unfold YH;rw[← qez,List.any_map];rfl
section
variable [vo]
theorem qlQ {a b:Bool}(rec:S61→Option R61):(bif a then rec (.h0 true)else rec (.h0 b))=rec (.h0 (a||b)):=by cases a<;>rfl
theorem qtx (s:ByteArray):Tot (fun k=>g61 k s) (YH s):=by
 refine Goes.rec0 (step:=qqt) (s:=.e s) (s':=.h0 (YH s)) (Goes.fin0 fun k rec=>?_) fun k rec=>?_
 · simp only[qqt];cases YH s<;>rfl
 · simp only[qqt,qlQ];rw[qi2];simp only[show qh9=[strB [80,65,84,84,69,82,78],strB [83,69,81],strB [87,72,69,82,69],strB [83,84,82,65,84,69,71,89],strB [87,73,84,72,73,78],strB [80,65,82,84,73,84,73,79,78],strB [66,89],strB [83,84,82,73,67,84],strB [78,69,88,84],strB [65,78,89],strB [65,78,68],strB [79,82],strB [78,79,84],strB [84,82,85,69],strB [70,65,76,83,69],strB [84,73,77,69],strB [82,69,65,76],strB [73,83,78,65,78],strB [67,79,85,78,84],strB [70,73,82,83,84],strB [76,65,83,84],strB [83,85,77],strB [77,73,78],strB [77,65,88],strB [77,69,65,78]]from by kernel_rfl,List.any_cons,List.any_nil,Bool.or_false]
theorem qqD {α:Type}(x:ByteArray)(k:ByteArray→Option α):un_s [sc x] k=k x:=rfl
theorem qqN (s:ByteArray){L:List ByteArray}(hL:L.length<1000):∀ (n i:Nat),L.length-i≤n→Goes qpB (.h0 s (L.map fun x=>[sc x]) (L.length:Int) (i:Int)) ((L.drop i).any fun x=>s.toList==x.toList)
 |0,i,h=>by rw[List.drop_eq_nil_of_le (by omega)];refine .fin0 fun k rec=>?_;simp only[qpB,show decide ((i:Int)<(L.length:Int))=false from aN (by omega),af];rfl
 |n+1,i,h=>by
  by_cases hi:i<L.length
  · rw[List.drop_eq_getElem_cons hi,List.any_cons];have hrow:(L.map fun x=>[sc x])[i]? = some [sc L[i]]:=qse (ax hi);have hd:decide ((i:Int)<(L.length:Int))=true:=aO (by omega);have he:(L[i].toList==s.toList)=(s.toList==L[i].toList):=Bool.beq_comm;cases hq:(s.toList==L[i].toList)with
    |true=>refine .fin0 fun k rec=>?_;simp only[qpB,hd,ah,Yi hrow,qqD,he,hq,Bool.true_or]
    |false=>refine Goes.rec0 (qqN s hL n (i+1) (by omega)) fun k rec=>?_;simp only[qpB,hd,ah,Yi hrow,qqD,he,hq,af,zq i (by omega)]
  · rw[List.drop_eq_nil_of_le (by omega)];refine .fin0 fun k rec=>?_;simp only[qpB,show decide ((i:Int)<(L.length:Int))=false from aN (by omega),af];rfl
theorem qty:Tot (fun k=>g65 k) (qh9.map fun x=>[sc x]):=Goes.fin0 (step:=qrB) (s:=.e) fun k rec=>by kernel_rfl
theorem qrp (s:ByteArray):Tot (fun k=>g39 k s) (YH s):=by have h:=qqN s (L:=qh9) (by rw[show qh9.length=25 from by kernel_rfl];omega) 25 0 (by rw[show qh9.length=25 from by kernel_rfl];omega);rw[List.drop_zero,← qi2]at h;refine Goes.call (step:=qpB) (s:=.e s) qty h fun k rec e=>?_;simp only[qpB,e,ae,List.length_map];rfl
theorem qqO {s:ByteArray}(hn:∀ i,i<s.size→isNm (bAt s i)=true)(hs:s.size≤4000):∀ (n i:Nat),s.size-i≤n→Goes qjX (.h1 s (i:Int)) true
 |0,i,h=>.fin0 fun k rec=>by simp only[qjX,show decide ((i:Int)<(s.size:Int))=false from aN (by omega),af]
 |n+1,i,h=>by
  by_cases hi:i<s.size
  ·
   have hd:decide ((i:Int)<(s.size:Int))=true:=aO (by omega);have hb:=hn i hi;have h2:Goes qjX (.h2 s (i:Int) false) true:=by refine Goes.rec0 (qqO hn hs n (i+1) (by omega)) fun k rec=>?_;simp only[qjX,af,zq i (by omega)]
   refine Goes.call2 (yZ (bAt s i)) (qkp (bAt s i)) h2 fun k rec e1 e2=>?_;simp only[qjX,hd,ah,yw hi,e1,e2,ae];simp only[isNm,Bool.or_eq_true,beq_iff_eq]at hb;cases hl:isLe (bAt s i)with
   |true=>simp
   |false=>
    cases hdg:isDi (bAt s i)with
    |true=>simp
    |false=>
     rw[hl,hdg]at hb;have:bAt s i=95:=by simpa using hb
     simp[this]
  · exact .fin0 fun k rec=>by simp only[qjX,show decide ((i:Int)<(s.size:Int))=false from aN (by omega),af]
theorem qsa {s:ByteArray}(hn:∀ i,i<s.size→isNm (bAt s i)=true)(hs:s.size≤4000):Tot (fun k=>g40 k s) (nmOk s):=by
 have no:Goes qjX (.h0 s true) false:=.fin0 fun k rec=>by simp only[qjX,ah]
 have yes:Goes qjX (.h0 s false) true:=Goes.rec0 (qqO hn hs s.size 0 (Nat.sub_le _ _)) fun k rec=>by simp only[qjX,af];rfl
 unfold nmOk;by_cases h1:s.size<1
 · have e1:decide (1≤s.size)=false:=aN (by omega);rw[e1];refine Goes.rec0 (step:=qjX) (s:=.e s) no fun k rec=>?_;simp only[qjX,show decide ((s.size:Int)<1)=true from aO (by omega),ah]
 ·
  have e1:decide (1≤s.size)=true:=aO (by omega);have d1:decide ((s.size:Int)<1)=false:=aN (by omega);by_cases h2:24<s.size
  · have e2:decide (s.size≤24)=false:=aN (by omega);rw[e1,e2];refine Goes.rec0 (step:=qjX) (s:=.e s) no fun k rec=>?_;simp only[qjX,d1,show decide ((s.size:Int)>24)=true from aO (by omega),ah,af]
  ·
   have e2:decide (s.size≤24)=true:=aO (by omega);have d2:decide ((s.size:Int)>24)=false:=aN (by omega);rw[e1,e2];have h0:(0:Nat)<s.size:=by omega
   cases hl:isLe (bAt s 0)with
   |false=>refine Goes.call (step:=qjX) (s:=.e s) (yZ (bAt s 0)) no fun k rec e=>?_;rw[hl]at e;simp only[qjX,d1,d2,af,show((0:Int))=((0:Nat):Int)from rfl,yw h0,e,ae,ak,ah]
   |true=>
    cases hw:YH s with
    |true=>refine Goes.call2 (step:=qjX) (s:=.e s) (yZ (bAt s 0)) (qrp s) no fun k rec e e'=>?_;rw[hl]at e;rw[hw]at e';simp only[qjX,d1,d2,af,show((0:Int))=((0:Nat):Int)from rfl,yw h0,e,e',ae,aj,af]
    |false=>refine Goes.call2 (step:=qjX) (s:=.e s) (yZ (bAt s 0)) (qrp s) yes fun k rec e e'=>?_;rw[hl]at e;rw[hw]at e';simp only[qjX,d1,d2,af,show((0:Int))=((0:Nat):Int)from rfl,yw h0,e,e',ae,aj,af]
theorem ltT {a b:Nat}(h:a<b):decide ((a:Int)<(b:Int))=true:=aO (by omega)
theorem ltF {a b:Nat}(h:¬ a<b):decide ((a:Int)<(b:Int))=false:=aN (by omega)
theorem bnds {s:ByteArray}{a b:Nat}(h1:a≤b)(h2:b≤s.size):decide (0≤(a:Int)∧(a:Int)≤(b:Int)∧(b:Int)≤(s.size:Int))=true:=aO (by omega)
theorem ZW {α:Type}(x:Option α):gd true x=x:=rfl
theorem qc0 (s:ByteArray)(a b:Nat):s.extract (Int.toNat (a:Int)) (Int.toNat (b:Int))=s.extract a b:=rfl
theorem qe5 {s:ByteArray}{p:Nat}{q:Int}(hs:s.size≤4000):∀ (n e:Nat),s.size-e≤n→p≤e→e≤s.size→Goes Zz (.h0 (p:Int) (e:Int) s q) (s.extract p (stop isNm s e)):=by
 have fin:∀ e:Nat,p≤e→e≤s.size→Goes Zz (.h1 (p:Int) (e:Int) false s q) (s.extract p e):=fun e h1 h2=>.fin0 fun k rec=>by simp only[Zz,af,bnds h1 h2,ZW,qc0]
 intro n
 induction n with
 |zero=>intro e h1 h2 h3;rw[zk (fun h=>by omega)];exact Goes.rec0 (fin e h2 h3) fun k rec=>by simp only[Zz,ltF (show ¬ e<s.size by omega),af]
 |succ n ih=>
  intro e h1 h2 h3;by_cases he:e<s.size
  ·
   cases hb:isNm (bAt s e)with
   |true=>
    rw[qo9 he hb];have h4:Goes Zz (.h1 (p:Int) (e:Int) true s q) (s.extract p (stop isNm s (e+1))):=Goes.rec0 (ih (e+1) (by omega) (by omega) (by omega)) fun k rec=>by simp only[Zz,ah,zq e (by omega)]
    refine Goes.call2 (ql5 (bAt s e)) (qlJ (bAt s e)) h4 fun k rec e1 e2=>?_;simp only[Zz,ltT he,ah,yw he,e1,e2,ae];simp only[isNm,Bool.or_eq_true,beq_iff_eq]at hb;cases hl:isLe (bAt s e)with
    |true=>rfl
    |false=>
     cases hd:isDi (bAt s e)with
     |true=>rfl
     |false=>
      rw[hl,hd]at hb;have:bAt s e=95:=by simpa using hb
      rw[this];rfl
   |false=>rw[zk (fun _=>hb)];refine Goes.call2 (ql5 (bAt s e)) (qlJ (bAt s e)) (fin e h2 h3) fun k rec e1 e2=>?_;simp only[isNm,Bool.or_eq_false_iff]at hb;simp only[Zz,ltT he,ah,yw he,e1,e2,ae,hb.1.1,hb.1.2,hb.2,af]
  · rw[zk (fun h=>absurd h he)];exact Goes.rec0 (fin e h2 h3) fun k rec=>by simp only[Zz,ltF he,af]
theorem qiE {s:ByteArray}{p:Nat}{q:Int}(hs:s.size≤4000)(hp:p≤s.size):Tot (fun k=>g60 k (p:Int) s q) (s.extract p (stop isNm s p)):=Goes.rec0 (step:=Zz) (s:=.e (p:Int) s q) (qe5 (p:=p) hs _ p (Nat.le_refl _) (Nat.le_refl _) hp) fun k rec=>rfl
theorem qrQ {s:ByteArray}{p:Nat}{q:Int}(hs:s.size≤4000):∀ (n e:Nat),s.size-e≤n→p≤e→e≤s.size→Goes qpc (.h0 (p:Int) (e:Int) s q) (s.extract p (stop isDi s e)):=by
 have fin:∀ e:Nat,p≤e→e≤s.size→Goes qpc (.h1 (p:Int) (e:Int) false s q) (s.extract p e):=fun e h1 h2=>.fin0 fun k rec=>by simp only[qpc,af,bnds h1 h2,ZW,qc0]
 intro n
 induction n with
 |zero=>intro e h1 h2 h3;rw[zk (fun h=>by omega)];exact Goes.rec0 (fin e h2 h3) fun k rec=>by simp only[qpc,ltF (show ¬ e<s.size by omega),af]
 |succ n ih=>
  intro e h1 h2 h3;by_cases he:e<s.size
  ·
   cases hb:isDi (bAt s e)with
   |true=>
    rw[qo9 he hb];have h4:Goes qpc (.h1 (p:Int) (e:Int) true s q) (s.extract p (stop isDi s (e+1))):=Goes.rec0 (ih (e+1) (by omega) (by omega) (by omega)) fun k rec=>by simp only[qpc,ah,zq e (by omega)]
    refine Goes.call (qlJ (bAt s e)) h4 fun k rec e1=>?_;simp only[qpc,ltT he,ah,yw he,e1,hb,ae]
   |false=>rw[zk (fun _=>hb)];refine Goes.call (qlJ (bAt s e)) (fin e h2 h3) fun k rec e1=>?_;simp only[qpc,ltT he,ah,yw he,e1,hb,ae]
  · rw[zk (fun h=>absurd h he)];exact Goes.rec0 (fin e h2 h3) fun k rec=>by simp only[qpc,ltF he,af]
theorem qsc {s:ByteArray}{p:Nat}{q:Int}(hs:s.size≤4000)(hp:p≤s.size):Tot (fun k=>g63 k (p:Int) s q) (s.extract p (stop isDi s p)):=Goes.rec0 (step:=qpc) (s:=.e (p:Int) s q) (qrQ (p:=p) hs _ p (Nat.le_refl _) (Nat.le_refl _) hp) fun k rec=>rfl
end
def dg8 (c:UInt8):Nat:=c.toNat-48
def dvF (x:Nat)(l:List UInt8):Nat:=l.foldl (fun x c=>10*x+dg8 c) x
theorem qi1 (x:Nat)(c:UInt8)(l:List UInt8):dvF x (c::l)=dvF (10*x+dg8 c) l:=by unfold dvF;rw[List.foldl_cons]
theorem qku (c:UInt8):dg8 c=c.toNat-48:=rfl
def dv (l:List UInt8):Nat:=dvF 0 l
def isDg (c:UInt8):Prop:=48≤c.toNat∧c.toNat≤57
theorem qkd:∀ (l:List UInt8) (x:Nat),x≤dvF x l
 |[],x=>Nat.le_refl _
 |c::l,x=>Nat.le_trans (by omega) (qkd l (10*x+dg8 c))
theorem qqG (l:List UInt8)(x:Nat)(c:UInt8):dvF x (l++[c])=10*dvF x l+dg8 c:=by unfold dvF;rw[List.foldl_append];rfl
theorem qj0:∀ (l:List UInt8) (x:Nat),(∀ c∈l,isDg c)→dvF x l<(x+1)*10 ^ l.length
 |[],x,h=>by show x<(x+1)*10 ^ 0;rw[Nat.pow_zero];omega
 |c::l,x,h=>by
  have h1:=h c au;have h0:=qku c;have:=qj0 l (10*x+dg8 c) (fun c hc=>h c (aB _ hc));have h2:10*x+dg8 c+1≤10*(x+1):=by have:=h1.2;omega
  show dvF (10*x+dg8 c) l<(x+1)*10 ^ (l.length+1);rw[Nat.pow_succ];generalize 10 ^ l.length=z at this ⊢;have h3:=Nat.mul_le_mul_right z h2;have h4:10*(x+1)*z=(x+1)*(z*10):=by rw[Nat.mul_comm 10 (x+1),Nat.mul_assoc,Nat.mul_comm 10 z]
  rw[h4]at h3;exact Nat.lt_of_lt_of_le this h3
theorem qnu {l:List UInt8}(h:∀ c∈l,isDg c):dv l<10 ^ l.length:=by have:=qj0 l 0 h;simpa [dv]using this
theorem qki:∀ (l:List UInt8) (x:Nat),(∀ c∈l,isDg c)→Lib.parseUintM (2 ^ 64-1) x l=if dvF x l≤2 ^ 64-1 then .ok (dvF x l)else(if x≤2 ^ 64-1 then .range else Lib.parseUintM (2 ^ 64-1) x l)
 |[],x,h=>by
  by_cases hx:x≤2 ^ 64-1
  · rw[aD (show dvF x []≤2 ^ 64-1 from hx)];rfl
  · rw[aF (show ¬ dvF x []≤2 ^ 64-1 from hx),aF hx]
 |c::l,x,h=>by
  have h1:48≤c.toNat∧c.toNat≤57:=h c au;have ih:=qki l (x*10+(c.toNat-48)) (fun c hc=>h c (aB _ hc));have e:10*x+dg8 c=x*10+(c.toNat-48):=by have:=qku c;omega
  have hge:=qkd l (x*10+(c.toNat-48));rw[qi1,e];by_cases hv:dvF (x*10+(c.toNat-48)) l≤2 ^ 64-1
  · rw[aD hv]at ih ⊢;unfold Lib.parseUintM;rw[aD h1,aF (by omega),aF (by omega)];exact ih
  ·
   rw[aF hv]at ih ⊢;by_cases hx:x≤2 ^ 64-1
   ·
    rw[aD hx];unfold Lib.parseUintM;rw[aD h1];split
    · rfl
    · split
      · rfl
      · rw[ih,aD (by omega)]
   · rw[aF hx]
theorem qdz {l:List UInt8}(hne:l≠[])(h:∀ c∈l,isDg c):Lib.parseIntB 64 l=if dv l<2 ^ 63 then .ok (dv l:Int)else .range:=by
 cases l with
 |nil=>exact absurd rfl hne
 |cons c r=>
  have h1:=h c au;unfold isDg at h1;have hu:Lib.parseUintB 64 (c::r)=if dv (c::r)≤2 ^ 64-1 then .ok (dv (c::r))else .range:=by
   unfold Lib.parseUintB;rw[aF (by simp),qki _ 0 h];unfold dv;split
   · rfl
   · rw[aD (by omega)]
  unfold Lib.parseIntB;simp only[aF (show ¬ (c.toNat=43∨c.toNat=45)by omega),hu];have hn:¬ c.toNat=45:=by omega
  by_cases h2:dv (c::r)≤2 ^ 64-1
  · rw[aD h2];simp only[hn,not_false_eq_true,true_and,false_and,if_false];by_cases h3:dv (c::r)<2 ^ 63
    · rw[aF (show ¬ 2 ^ (64-1)≤dv (c::r)by omega),aD h3]
    · rw[aD (show 2 ^ (64-1)≤dv (c::r)by omega),aF h3]
  · rw[aF h2,aF (by omega)]
theorem qqh {u:Nat}(h:u<10):Lib.decDigits u=[UInt8.ofNat (48+u)]:=by rw[Lib.decDigits,dif_pos h]
theorem qrj {u:Nat}(h:¬ u<10):Lib.decDigits u=Lib.decDigits (u / 10)++[UInt8.ofNat (48+u % 10)]:=by rw[Lib.decDigits,dif_neg h]
theorem qrk {c:UInt8}(h:isDg c):UInt8.ofNat (48+(c.toNat-48))=c:=by unfold isDg at h;rw[show 48+(c.toNat-48)=c.toNat by omega];exact UInt8.ofNat_toNat
theorem qtf {l:List UInt8}(hne:l≠[])(h:∀ c∈l,isDg c)(h0:l.head?≠some 48):1≤dv l:=by
 cases l with
 |nil=>exact absurd rfl hne
 |cons c r=>
  have h1:=h c au;unfold isDg at h1;have h2:c.toNat≠48:=fun e=>h0 (by
   have:c=48:=by apply UInt8.toNat_inj.1;exact e
   rw[this];rfl)
  have:=qkd r (10*0+dg8 c);have h3:=qku c;show 1≤dvF (10*0+dg8 c) r;omega
theorem qr6:∀ (n:Nat) (l:List UInt8),l.length=n+1→(∀ c∈l,isDg c)→(1<l.length→l.head?≠some 48)→Lib.decDigits (dv l)=l
 |0,l,hl,h,h0=>by
  match l,hl with
  |[c],_=>
   have h1:=h c au;have e:dv [c]=c.toNat-48:=by show 10*0+dg8 c=_;rw[qku];omega
   rw[e,qqh (by have:=h1.2;omega),qrk h1]
 |n+1,l,hl,h,h0=>by
  have hne:l≠[]:=by intro e;rw[e]at hl;simp at hl
  obtain⟨r,c,rfl⟩:∃ r c,l=r++[c]:=⟨l.dropLast,l.getLast hne,(List.dropLast_concat_getLast hne).symm⟩
  have hr:r.length=n+1:=by simpa using hl
  have hrne:r≠[]:=by intro e;rw[e]at hr;simp at hr
  have hc:=h c (aS _ au);have hrd:∀ x∈r,isDg x:=fun x hx=>h x (aL _ hx);have hh:r.head?≠some 48:=by
   have:=h0 (by simp;omega);cases r with
   |nil=>exact absurd rfl hrne
   |cons a r=>exact this
  have hp:=qtf hrne hrd hh;have e:dv (r++[c])=10*dv r+(c.toNat-48):=qqG r 0 c;have h9:c.toNat-48<10:=by have:=hc.2;omega
  rw[e,qrj (by omega),show(10*dv r+(c.toNat-48)) / 10=dv r by omega,show(10*dv r+(c.toNat-48)) % 10=c.toNat-48 by omega,qrk hc,qr6 n r hr hrd (fun _=>hh)]
theorem qx8 {u:Nat}(h:u<10):isDg (UInt8.ofNat (48+u)):=by
 unfold isDg;have:(UInt8.ofNat (48+u)).toNat=48+u:=by rw[UInt8.toNat_ofNat',Nat.mod_eq_of_lt (by omega)]
 omega
theorem qxc:∀ (n u:Nat),u<10 ^ (n+1)→∀ c∈Lib.decDigits u,isDg c
 |0,u,h=>by
  intro c hc;rw[qqh (by simpa using h)]at hc;have:u<10:=by simpa using h
  have hc:=aV.1 hc;rw[hc];exact qx8 this
 |n+1,u,h=>by
  intro c hc;by_cases hu:u<10
  · exact qxc 0 u (by simpa using hu) c hc
  · rw[qrj hu]at hc;rcases List.mem_append.1 hc with hc|hc
    · exact qxc n (u / 10) (by rw[Nat.pow_succ]at h;omega) c hc
    · have hc:=aV.1 hc;rw[hc];exact qx8 (Nat.mod_lt _ (by omega))
theorem qx6 (u:Nat):Lib.decDigits u≠[]:=by
 by_cases h:u<10
 · rw[qqh h];simp
 · rw[qrj h];simp
theorem u64w {n:Nat}(h:n<18446744073709551616):IntKind.u64.wrap (n:Int)=(n:Int):=by unfold IntKind.wrap;simp[IntKind.bits,IntKind.signed];omega
theorem u8w {n:Nat}(h:n<256):IntKind.u8.wrap (n:Int)=(n:Int):=by unfold IntKind.wrap;simp[IntKind.bits,IntKind.signed];omega
def decS (u:Nat):ByteArray:=⟨(Lib.decDigits u).toArray⟩
def qra (n:Int):ByteArray:=⟨(Lib.itoa n).toArray⟩
theorem qo2 {a b:ByteArray}(h:a.data.toList=b.data.toList):a=b:=ByteArray.ext (Array.ext' h)
theorem YO (a b:ByteArray):(a++b).data.toList=a.data.toList++b.data.toList:=by rw[ByteArray.data_append,Array.toList_append]
theorem qp3 (n:Nat):(qhy [(n:Int)]).data.toList=[UInt8.ofNat n]:=by simp[qhy]
theorem qpC {u:Nat}(h:u<10):decS u=qhy [((48+u:Nat):Int)]:=by apply qo2;rw[qp3];show(Lib.decDigits u).toArray.toList=_;rw[qqh h]
theorem qrJ {u:Nat}(h:¬ u<10):decS u=decS (u / 10)++qhy [((48+u % 10:Nat):Int)]:=by apply qo2;rw[YO,qp3];show(Lib.decDigits u).toArray.toList=(Lib.decDigits (u / 10)).toArray.toList++_;rw[qrj h]
theorem qrd (a b c:ByteArray):(a++b)++c=a++(b++c):=by apply qo2;simp only[YO,List.append_assoc]
theorem qsx (a:ByteArray):a++strB []=a:=by apply qo2;rw[YO];exact List.append_nil _
theorem qpP (n:Int):(qhy [n]).size=1:=rfl
theorem qko {s:ByteArray}(h:∀ i,i<s.size→isDi (bAt s i)=true):∀ c∈s.data.toList,isDg c:=by
 intro c hc;obtain⟨i,hi,rfl⟩:=List.getElem_of_mem hc;have hi':i<s.size:=by rw[← qD];exact hi
 have:=h i hi';unfold bAt at this;rw[List.getD_eq_getElem?_getD,ax hi,Option.getD_some]at this;simp only[isDi,aC,aX]at this;unfold isDg;omega
section
variable [vo]
theorem qqF {d:Nat}(h:d<10):IntKind.u8.wrap (IntKind.u64.wrap ((48:Int)+(d:Int)))=((48+d:Nat):Int):=by rw[show(48:Int)+(d:Int)=((48+d:Nat):Int)by omega,u64w (by omega),u8w (by omega)]
theorem qp8 (n:Int):∀ (j u:Nat) (s:ByteArray),u<10 ^ (j+1)→u<18446744073709551616→s.size+j≤1000→Goes qpu (.h1 n s (u:Int)) (if n<0 then strB [45]++(decS u++s)else decS u++s)
 |0,u,s,h,hu,hs=>by
  have h9:u<10:=by simpa using h
  refine .fin0 fun k rec=>?_;have d9:decide ((u:Int)>9)=false:=aN (by omega);simp only[qpu,d9,af,qqF h9,← qpC h9];have z1:decide ((decS u).size+s.size≤1000000000)=true:=aO (by rw[qpC h9,qpP];omega);by_cases hn:n<0
  · have z2:decide ((strB [45]).size+(decS u++s).size≤1000000000)=true:=aO (by rw[ByteArray.size_append,qpC h9,qpP];show 1+(1+s.size)≤_;omega);simp only[z1,ZW,aO hn,ah,z2,aD hn]
  · simp only[z1,ZW,aN hn,af,aF hn]
 |j+1,u,s,h,hu,hs=>by
  by_cases h9:u<10
  · exact qp8 n 0 u s (by simpa using h9) hu (by omega)
  · have ih:=qp8 n j (u / 10) (qhy [((48+u % 10:Nat):Int)]++s) (by rw[Nat.pow_succ]at h;omega) (by omega) (by rw[ByteArray.size_append,qpP];omega);rw[← qrd (decS (u / 10)),← qrJ h9]at ih;refine Goes.rec0 ih fun k rec=>?_;have d9:decide ((u:Int)>9)=true:=aO (by omega);have e1:Int.tmod (u:Int) 10=((u % 10:Nat):Int):=rfl;have e2:Int.tdiv (u:Int) 10=((u / 10:Nat):Int):=rfl;simp only[qpu,d9,ah,e1,e2,qqF (Nat.mod_lt u (show 10>0 by omega)),u64w (show u / 10<18446744073709551616 by omega)];have z1:decide ((qhy [((48+u % 10:Nat):Int)]).size+s.size≤1000000000)=true:=aO (by rw[qpP];omega);rw[z1,ZW]
theorem qsd {n:Int}(h1 : -9223372036854775808≤n)(h2:n≤9223372036854775807):Tot (fun k=>g74 k n) (qra n):=by
 have key:∀ u:Nat,u<18446744073709551616→Goes qpu (.h0 n (strB []) (u:Int)) (if n<0 then strB [45]++decS u else decS u):=by intro u hu;have:=qp8 n 20 u (strB []) (by omega) hu (by show 0+20≤1000;omega);rw[qsx]at this;exact Goes.rec0 this fun k rec=>rfl
 by_cases hn:n<0
 ·
  have e:IntKind.u64.wrap ((0:Int)-IntKind.u64.wrap n)=(n.natAbs:Int):=by
   have e1:IntKind.u64.wrap n=n+18446744073709551616:=by unfold IntKind.wrap;simp[IntKind.bits,IntKind.signed];omega
   rw[e1];unfold IntKind.wrap;simp[IntKind.bits,IntKind.signed];omega
  have hk:=key n.natAbs (by omega);rw[aD hn]at hk;have e3:strB [45]++decS n.natAbs=qra n:=by apply qo2;rw[YO];show _++(Lib.decDigits n.natAbs).toArray.toList=(Lib.itoa n).toArray.toList;unfold Lib.itoa;rw[aD hn];rfl
  rw[e3]at hk;refine Goes.rec0 (step:=qpu) (s:=.e n) hk fun k rec=>?_;simp only[qpu,aO hn,ah,e]
 · obtain⟨u,rfl⟩:=Int.eq_ofNat_of_zero_le (Int.not_lt.1 hn);have hk:=key u (by omega);rw[aF hn]at hk;have e3:decS u=qra (u:Int):=by apply qo2;show(Lib.decDigits u).toArray.toList=(Lib.itoa (u:Int)).toArray.toList;unfold Lib.itoa;rw[aF hn];rfl
   rw[e3]at hk;refine Goes.rec0 (step:=qpu) (s:=.e (u:Int)) hk fun k rec=>?_;simp only[qpu,aN hn,af,u64w (show u<18446744073709551616 by omega)]
theorem Xn {s:ByteArray}(h:∀ i,i<s.size→isDi (bAt s i)=true)(h1:1≤s.size)(h2:s.size≤4000):
  qag s=some (if dv s.data.toList<2 ^ 63 then some (dv s.data.toList:Int)else none):=by
 have hne:s.data.toList≠[]:=by intro e;have:=qD s;rw[e]at this;simp at this;omega
 unfold qag;rw[aD (by omega),qdz hne (qko h)];by_cases hv:dv s.data.toList<2 ^ 63
 · rw[aD hv,aD hv]
 · rw[aF hv,aF hv]
end
theorem qqS {s:ByteArray}(h1:1≤s.size):s.data.toList.head? = some (UInt8.ofNat (bAt s 0).toNat):=by rw[List.head?_eq_getElem?];exact qhT h1
theorem qrt {s:ByteArray}(h1:1≤s.size)(h:bAt s 0≠48):s.data.toList.head?≠some 48:=by
 rw[qqS h1];intro e;apply h;have e2:(UInt8.ofNat (bAt s 0).toNat).toNat=(48:UInt8).toNat:=by rw[aR e]
 rw[UInt8.toNat_ofNat',Nat.mod_eq_of_lt (by have:=qr2 s 0;have:=qj3 s 0;omega)]at e2;have:(48:UInt8).toNat=48:=rfl;have:=qj3 s 0;omega
def pre (s:ByteArray)(i:Nat):Nat:=dv (s.data.toList.take i)
section
variable [vo]
end
structure Tk where
 kind:Int
 text:ByteArray
 n:Int
 scale:Int
def behN (s:ByteArray)(e:Nat):Nat:=if e<s.size∧bAt s e=46 then stop isDi s (e+1)-(e+1)else 0
def Zt (s:ByteArray)(p:Nat):Option (Tk×Nat):=
 if 1<stop isDi s p-p∧bAt s p=48 then none
 else if behN s (stop isDi s p)=0 then
  (if dv (s.extract p (stop isDi s p)).data.toList<2 ^ 63 then some (⟨3,strB [],(dv (s.extract p (stop isDi s p)).data.toList:Int),0⟩,stop isDi s p)else none)
 else if 15<(stop isDi s p-p)+behN s (stop isDi s p)then none
 else some (⟨4,strB [],(dv (s.extract p (stop isDi s p)++s.extract (stop isDi s p+1) (stop isDi s p+1+behN s (stop isDi s p))).data.toList:Int),(behN s (stop isDi s p):Int)⟩,stop isDi s p+1+behN s (stop isDi s p))
theorem qhx {s:ByteArray}{e:Nat}(h:e≤s.size):behN s e=0∨e+1+behN s e≤s.size:=by
 unfold behN;split
 · rename_i hh;have:=yQ (f:=isDi) (show e+1≤s.size by omega);have:=zC isDi s (e+1);right;omega
 · exact .inl rfl
theorem qiF {s:ByteArray}{p e:Nat}(he:e≤s.size)(h:∀ i,p≤i→i<e→isDi (bAt s i)=true):∀ i,i<(s.extract p e).size→isDi (bAt (s.extract p e) i)=true:=by intro i hi;rw[size_ext s p e he]at hi;rw[Qz he hi];exact h _ (by omega) (by omega)
theorem qkR (s:ByteArray)(p:Nat)(hp:p≤s.size):∀ i,i<(s.extract p (stop isDi s p)).size→isDi (bAt (s.extract p (stop isDi s p)) i)=true:=qiF (yQ hp) (fun i h1 h2=>Qj h1 h2)
theorem qkO {s:ByteArray}{e:Nat}(h:e≤s.size):∀ i,i<(s.extract (e+1) (e+1+behN s e)).size→isDi (bAt (s.extract (e+1) (e+1+behN s e)) i)=true:=by
 rcases qhx h with h0|h0
 · intro i hi;rw[h0,ByteArray.size_extract]at hi;omega
 ·
  refine qiF h0 fun i h1 h2=>?_;unfold behN at h2;split at h2
  · have:=zC isDi s (e+1);exact Qj h1 (by omega)
  · omega
theorem qlo {a b:ByteArray}(ha:∀ i,i<a.size→isDi (bAt a i)=true)(hb:∀ i,i<b.size→isDi (bAt b i)=true):∀ i,i<(a++b).size→isDi (bAt (a++b) i)=true:=by
 intro i hi;rw[ByteArray.size_append]at hi;unfold bAt;rw[YO,List.getD_eq_getElem?_getD];by_cases h:i<a.size
 · rw[aY (by rw[qD];exact h)];have:=ha i h;unfold bAt at this;rwa [List.getD_eq_getElem?_getD]at this
 · rw[aZ (by rw[qD];omega),qD];have:=hb (i-a.size) (by omega);unfold bAt at this;rwa [List.getD_eq_getElem?_getD]at this
theorem qid (b:ByteArray):(b.toList==(strB []).toList)=decide (b.size=0):=by
 by_cases h:b.size=0
 · have:b=strB []:=qcK (by rw[h];rfl) (fun i hi=>by omega);rw[aO h,this];exact beq_self_eq_true _
 · rw[aN h,beq_eq_false_iff_ne];intro e;apply h;rw[toList_inj e];rfl
theorem qgP {s:ByteArray}{p:Nat}(hp:p<s.size)(hd:isDi (bAt s p)=true):p+1≤stop isDi s p:=by rw[qo9 hp hd];exact zC _ _ _
def behS (s:ByteArray)(e:Nat):ByteArray:=if e<s.size∧bAt s e=46 then s.extract (e+1) (stop isDi s (e+1))else strB []
theorem qh3 {s:ByteArray}{e:Nat}(h:e≤s.size):(behS s e).size=behN s e:=by
 unfold behS behN;split
 · rename_i hh;rw[size_ext _ _ _ (yQ (show e+1≤s.size by omega))]
 · rfl
theorem qiX {s:ByteArray}{e:Nat}(h:e≤s.size)(h0:behN s e≠0):behS s e=s.extract (e+1) (e+1+behN s e):=by
 unfold behS behN at *;split
 · rename_i hh;congr 1;have:=zC isDi s (e+1);omega
 · rename_i hh;rw[aF hh]at h0;exact absurd rfl h0
section
variable [vo]
theorem qmb {s:ByteArray}{p:Nat}(hs:s.size≤4000)(hp:p<s.size)(hd:isDi (bAt s p)=true):
  ∃ z:Int,Tot (fun k=>g34 k s (p:Int)) (match Zt s p with
   |some (t,e)=>.inr (t.kind,t.text,t.n,t.scale,(p:Int),(e:Int))
   |none=>.inl ((p:Int),z)):=by
 obtain⟨e,he⟩:∃ e,e=stop isDi s p:=⟨_,rfl⟩
 have he1:e≤s.size:=by rw[he];exact yQ (Nat.le_of_lt hp)
 have he2:p+1≤e:=by rw[he];exact qgP hp hd
 have hds:(s.extract p e).size=e-p:=size_ext s p e he1;have hdd:∀ i,i<(s.extract p e).size→isDi (bAt (s.extract p e) i)=true:=by rw[he];exact qkR s p (Nat.le_of_lt hp)
 have hw:IntKind.i64.wrap ((p:Int)+((s.extract p e).size:Int))=(e:Int):=by rw[hds];exact qes (by omega) (by omega)
 have hb0:bAt (s.extract p e) 0=bAt s p:=Qz he1 (by omega);have hbl:=qhx he1;have hbs:=qh3 he1
 -- the end,from h1 on
 have fin:∃ z:Int,Goes xY (.h1 (p:Int) (s.extract p e) (behS s e) 0 (strB []) 0 0 0 s (e:Int)) (match Zt s p with
   |some (t,e)=>.inr (t.kind,t.text,t.n,t.scale,(p:Int),(e:Int))
   |none=>.inl ((p:Int),z)):=by
  refine⟨(e:Int),?_⟩;have h2:∀ t r,Goes xY (.h2 (p:Int) (s.extract p e) (behS s e) t 0 (strB []) 0 0 0 s (e:Int)) r→t=decide (1<e-p∧bAt s p=48)→Goes xY (.h1 (p:Int) (s.extract p e) (behS s e) 0 (strB []) 0 0 0 s (e:Int)) r:=by
   intro t r hr ht;refine Goes.rec0 hr fun k rec=>?_;by_cases h1:1<e-p
   · simp only[xY,show decide (((s.extract p e).size:Int)>1)=true from aO (by omega),ah,qol (show 0<(s.extract p e).size by omega),hb0,ht];congr 2;by_cases h48:bAt s p=48<;>simp[h1,h48]
   · simp only[xY,show decide (((s.extract p e).size:Int)>1)=false from aN (by omega),af,ht];simp[h1]
  unfold Zt;rw[← he];by_cases h48:1<e-p∧bAt s p=48
  · rw[aD h48];refine h2 true _ (.fin0 fun k rec=>?_) (aO h48).symm;simp only[xY,ah]
  ·
   rw[aF h48];refine h2 false _ ?_ (aN h48).symm;by_cases hm:behN s e=0
   · rw[aD hm];have hpr:=Xn hdd (by omega) (by omega);have en:((behS s e).toList==(strB []).toList)=true:=by rw[qid,hbs];exact aO hm
     refine .fin0 fun k rec=>?_;simp only[xY,af,en,ah,hpr,ae];by_cases hv:dv (s.extract p e).data.toList<2 ^ 63
     · rw[aD hv,aD hv];rfl
     · rw[aF hv,aF hv];rfl
   ·
    rw[aF hm];have en:((behS s e).toList==(strB []).toList)=false:=by rw[qid,hbs];exact aN hm
    have hle:e+1+behN s e≤s.size:=by rcases hbl with h|h<;>omega
    have hw2:IntKind.i64.wrap (((s.extract p e).size:Int)+((behS s e).size:Int))=(((e-p)+behN s e:Nat):Int):=qes (by rw[hds,hbs];omega) (by omega);by_cases h15:15<(e-p)+behN s e
    · rw[aD h15];refine .fin0 fun k rec=>?_;simp only[xY,af,en,hw2,show decide ((((e-p)+behN s e:Nat):Int)>15)=true from aO (by omega),ah]
    · rw[aF h15];have hbx:=qiX he1 hm;have hall:∀ i,i<(s.extract p e++behS s e).size→isDi (bAt (s.extract p e++behS s e) i)=true:=qlo hdd (by rw[hbx];exact qkO he1);have hsz:(s.extract p e++behS s e).size=(e-p)+behN s e:=by rw[ByteArray.size_append,hds,hbs]
      have hpr:=Xn hall (by omega) (by omega);have hlt:dv (s.extract p e++behS s e).data.toList<2 ^ 63:=by have h1:=qnu (qko hall);rw[qD,hsz]at h1;have h2:10 ^ ((e-p)+behN s e)≤10 ^ 15:=Nat.pow_le_pow_right (by omega) (by omega);omega
      rw[aD hlt]at hpr;refine .fin0 fun k rec=>?_;simp only[xY,af,en,hw2,show decide ((((e-p)+behN s e:Nat):Int)>15)=false from aN (by omega),
       show decide ((s.extract p e).size+(behS s e).size≤1000000000)=true from aO (by omega),ZW,hpr,ae,optC]
      rw[hbs,← hbx];have w1:IntKind.i64.wrap ((1:Int)+(behN s e:Int))=((1+behN s e:Nat):Int):=qes (by omega) (by omega);rw[w1,qk7 e (1+behN s e) (by omega),Nat.add_assoc]
 obtain⟨z,hz⟩:=fin;refine⟨z,?_⟩;generalize (match Zt s p with
   |some (t,e)=>(.inr (t.kind,t.text,t.n,t.scale,(p:Int),(e:Int)):R34)
   |none=>.inl ((p:Int),z))=r at hz ⊢
 -- to h1
 have h0:Goes xY (.h0 (p:Int) (s.extract p e) (strB []) (decide (e<s.size∧bAt s e=46)) 0 (strB []) 0 0 0 s (e:Int)) r:=by
  by_cases hc:e<s.size∧bAt s e=46
  · have hb:behS s e=s.extract (e+1) (stop isDi s (e+1)):=aD hc;rw[hb]at hz;refine Goes.call (qsc (s:=s) (p:=e+1) (q:=(e:Int)) hs (by omega)) hz fun k rec e1=>?_;simp only[xY,aO hc,ah,zq e (by omega),e1,ae]
  · have hb:behS s e=strB []:=aF hc;rw[hb]at hz;refine Goes.rec0 hz fun k rec=>?_;simp only[xY,aN hc,af]
 refine Goes.call (step:=xY) (s:=.e s (p:Int)) (qsc (s:=s) (p:=p) (q:=(p:Int)) hs (Nat.le_of_lt hp)) h0 fun k rec e1=>?_;rw[← he]at e1;simp only[xY,e1,ae,hw];by_cases hc:e<s.size
 · simp only[ltT hc,ah,yw hc];congr 2;by_cases h46:bAt s e=46<;>simp[hc,h46]
 · simp only[ltF hc,af];congr 2;simp[hc]
end
section
variable [vo]
end
def twoB (s:ByteArray)(p:Nat):Bool:=decide (p+1<s.size)&&bAt s (p+1)==61
def isSg (c:Int):Bool:=c==40||(c==41||(c==44||(c==46||(c==43||(c==45||(c==42||(c==47||(c==37||(c==61||c==124)))))))))
def vR (s:ByteArray)(p:Nat):Nat:=if bAt s p=33∨bAt s p=60∨bAt s p=62 then(if twoB s p then 2 else 1)else if isSg (bAt s p)then 1 else 0
def qav (s:ByteArray)(p:Nat):Option (Tk×Nat):=if vR s p=0 then none else some (⟨6,s.extract p (p+vR s p),0,0⟩,p+vR s p)
def qd6 (s:ByteArray)(p:Nat):Option (Tk×Nat):=
 if YH (s.extract p (stop isNm s p))then some (⟨1,s.extract p (stop isNm s p),0,0⟩,stop isNm s p)
 else if nmOk (s.extract p (stop isNm s p))then some (⟨2,s.extract p (stop isNm s p),0,0⟩,stop isNm s p)else none
def qdt (s:ByteArray)(p:Nat):Option (Tk×Nat):=if nmOk (s.extract (p+1) (stop isNm s (p+1)))=true∧stop isNm s (p+1)<s.size∧bAt s (stop isNm s (p+1))=39 then some (⟨5,s.extract (p+1) (stop isNm s (p+1)),0,0⟩,stop isNm s (p+1)+1)else none
def tok (s:ByteArray)(p:Nat):Option (Tk×Nat):=if isLe (bAt s p)then qd6 s p else if isDi (bAt s p)then Zt s p else if bAt s p=39 then qdt s p else qav s p
theorem qkt (s:ByteArray)(p:Nat)(hp:p≤s.size):∀ i,i<(s.extract p (stop isNm s p)).size→isNm (bAt (s.extract p (stop isNm s p)) i)=true:=by intro i hi;have he:=yQ (f:=isNm) hp;rw[size_ext s _ _ he]at hi;rw[Qz he hi];exact Qj (p:=p) (i:=p+i) (by omega) (by omega)
section
variable [vo]
theorem qd1 {s:ByteArray}{p:Nat}(hs:s.size≤4000)(hp:p<s.size):Tot (fun k=>g32 k s (p:Int)) (match qd6 s p with
   |some (t,e)=>.inl (t.kind,t.text,t.n,t.scale,(p:Int),(e:Int))
   |none=>.inr ((p:Int),(stop isNm s p:Int))):=by
 obtain⟨e,he⟩:∃ e,e=stop isNm s p:=⟨_,rfl⟩
 have he1:e≤s.size:=by rw[he];exact yQ (Nat.le_of_lt hp)
 have hge:=zC isNm s p;have hsz:(s.extract p e).size=e-p:=size_ext s p e he1;have hw:IntKind.i64.wrap ((p:Int)+((s.extract p e).size:Int))=(e:Int):=by rw[hsz];exact qes (by omega) (by omega)
 have hnm:qcL (s.extract p e)=nmOk (s.extract p e):=qe0 (by rw[he];exact qkt s p (Nat.le_of_lt hp));unfold qd6;rw[← he];refine Goes.done2 (step:=qfR) (s:=.e s (p:Int)) (qiE (s:=s) (p:=p) (q:=(p:Int)) hs (Nat.le_of_lt hp)) (qtx (s.extract p e)) fun k rec e1 e2=>?_;rw[← he]at e1;simp only[qfR,e1,ae,e2,hw,YF,hnm];cases hwd:YH (s.extract p e)with
 |true=>simp
 |false=>
  cases hn:nmOk (s.extract p e)with
  |true=>simp
  |false=>simp
theorem qlE {s:ByteArray}{p:Nat}(hs:s.size≤4000)(hp:p<s.size):Tot (fun k=>g35 k s (p:Int)) (match qdt s p with
   |some (t,e)=>.inr (t.kind,t.text,t.n,t.scale,(p:Int),(e:Int))
   |none=>.inl ((p:Int),(p:Int))):=by
 obtain⟨e,he⟩:∃ e,e=stop isNm s (p+1):=⟨_,rfl⟩
 have he1:e≤s.size:=by rw[he];exact yQ (by omega)
 have hge:=zC isNm s (p+1);have hsz:(s.extract (p+1) e).size=e-(p+1):=size_ext s (p+1) e he1;have hw:IntKind.i64.wrap (((p+1:Nat):Int)+((s.extract (p+1) e).size:Int))=(e:Int):=by rw[hsz];exact qes (by omega) (by omega)
 have hnm:qcL (s.extract (p+1) e)=nmOk (s.extract (p+1) e):=qe0 (by rw[he];exact qkt s (p+1) (by omega));unfold qdt;rw[← he];have no:Goes yf (.h0 (p:Int) (s.extract (p+1) e) (e:Int) true 0 (strB []) 0 0 0 s (p:Int)) (.inl ((p:Int),(p:Int))):=.fin0 fun k rec=>by simp only[yf,ah]
 have yes:Goes yf (.h0 (p:Int) (s.extract (p+1) e) (e:Int) false 0 (strB []) 0 0 0 s (p:Int)) (.inr (5,s.extract (p+1) e,0,0,(p:Int),((e+1:Nat):Int))):=.fin0 fun k rec=>by simp only[yf,af,zq e (by omega)]
 have hg:=qiE (s:=s) (p:=p+1) (q:=(p:Int)) hs (by omega);rw[← he]at hg;have hw1:=zq p (by omega);cases hn:nmOk (s.extract (p+1) e)with
 |false=>rw[aF (by simp)];refine Goes.call (step:=yf) (s:=.e s (p:Int)) hg no fun k rec e1=>?_;simp only[yf,hw1,e1,ae,YF,hnm,hn,ak,ah,hw]
 |true=>
  by_cases hc:e<s.size
  ·
   have hne:((e:Int)==(s.size:Int))=false:=by rw[beq_eq_false_iff_ne];omega
   by_cases h39:bAt s e=39
   · rw[aD ⟨rfl,hc,h39⟩];refine Goes.call (step:=yf) (s:=.e s (p:Int)) hg yes fun k rec e1=>?_;simp only[yf,hw1,e1,ae,YF,hnm,hn,aj,af,hw,hne,yw hc];rw[show(bAt s e != 39)=false from by simpa using h39]
   · rw[aF (fun h=>h39 h.2.2)];refine Goes.call (step:=yf) (s:=.e s (p:Int)) hg no fun k rec e1=>?_;simp only[yf,hw1,e1,ae,YF,hnm,hn,aj,af,hw,hne,yw hc];rw[show(bAt s e != 39)=true from by simpa using h39]
  · rw[aF (fun h=>hc h.2.1)];have hne:((e:Int)==(s.size:Int))=true:=by rw[beq_iff_eq];omega
    refine Goes.call (step:=yf) (s:=.e s (p:Int)) hg no fun k rec e1=>?_;simp only[yf,hw1,e1,ae,YF,hnm,hn,aj,af,hw,hne,ah]
theorem ql8 {a b:Bool}{A N:Int}{S:ByteArray}(rec:S36→Option R36):(bif a then rec (.h2 A N true 0 (strB []) 0 0 0 S A)else rec (.h2 A N b 0 (strB []) 0 0 0 S A))=rec (.h2 A N (a||b) 0 (strB []) 0 0 0 S A):=by cases a<;>rfl
theorem qtw {s:ByteArray}{p:Nat}(hs:s.size≤4000)(hp:p<s.size):Tot (fun k=>g36 k s (p:Int)) (match qav s p with
   |some (t,e)=>.inl (t.kind,t.text,t.n,t.scale,(p:Int),(e:Int))
   |none=>.inr ((p:Int),(p:Int))):=by
 have end3:∀ n:Nat,p+n≤s.size→Goes qoR (.h3 (p:Int) (n:Int) 0 (strB []) 0 0 0 s (p:Int)) (.inl (6,s.extract p (p+n),0,0,(p:Int),((p+n:Nat):Int))):=fun n hn=>.fin0 fun k rec=>by simp only[qoR,qk7 p n (by omega),bnds (show p≤p+n by omega) hn,ZW,qc0]
 have one:=end3 1 (by omega);have h2:∀ b,Goes qoR (.h2 (p:Int) 1 b 0 (strB []) 0 0 0 s (p:Int)) (if b then .inl (6,s.extract p (p+1),0,0,(p:Int),((p+1:Nat):Int))else .inr ((p:Int),(p:Int))):=by
  intro b;cases b with
  |true=>exact Goes.rec0 one fun k rec=>by simp only[qoR,ah];rfl
  |false=>exact .fin0 fun k rec=>by simp only[qoR,af];rfl
 unfold qav;by_cases hc:bAt s p=33∨bAt s p=60∨bAt s p=62
 ·
  have hlen:vR s p=if twoB s p then 2 else 1:=aD hc
  have h0:Goes qoR (.h0 (p:Int) 1 (bAt s p) true 0 (strB []) 0 0 0 s (p:Int)) (.inl (6,s.extract p (p+vR s p),0,0,(p:Int),((p+vR s p:Nat):Int))):=by
   have h1f:Goes qoR (.h1 (p:Int) 1 false 0 (strB []) 0 0 0 s (p:Int)) (.inl (6,s.extract p (p+1),0,0,(p:Int),((p+1:Nat):Int))):=Goes.rec0 one fun k rec=>by simp only[qoR,af];rfl
   by_cases hn:p+1<s.size
   ·
    have h1t:Goes qoR (.h1 (p:Int) 1 true 0 (strB []) 0 0 0 s (p:Int)) (.inl (6,s.extract p (p+2),0,0,(p:Int),((p+2:Nat):Int))):=Goes.rec0 (end3 2 (by omega)) fun k rec=>by simp only[qoR,ah];rfl
    cases h61:(bAt s (p+1)==61)with
    |true=>
     have ht:twoB s p=true:=by unfold twoB;rw[h61,aO hn];rfl
     rw[hlen,aD ht];refine Goes.rec0 h1t fun k rec=>?_;simp only[qoR,ah,zq p (by omega),ltT hn,yw hn,h61]
    |false=>
     have ht:twoB s p=false:=by unfold twoB;rw[h61,Bool.and_false]
     rw[hlen,ht];refine Goes.rec0 h1f fun k rec=>?_;simp only[qoR,ah,zq p (by omega),ltT hn,yw hn,h61]
   · have ht:twoB s p=false:=by unfold twoB;rw[aN hn];rfl
     rw[hlen,ht];refine Goes.rec0 h1f fun k rec=>?_;simp only[qoR,ah,zq p (by omega),ltF hn,af]
  have hl0:vR s p≠0:=by rw[hlen];split<;>omega
  rw[aF hl0];refine Goes.rec0 (step:=qoR) (s:=.e s (p:Int)) h0 fun k rec=>?_;simp only[qoR,yw hp];rcases hc with h|h|h<;>rw[h]<;>rfl
 ·
  have hlen:vR s p=if isSg (bAt s p)then 1 else 0:=aF hc
  have n33:(bAt s p==33)=false:=by rw[beq_eq_false_iff_ne];exact fun h=>hc (.inl h)
  have n60:(bAt s p==60)=false:=by rw[beq_eq_false_iff_ne];exact fun h=>hc (.inr (.inl h))
  have n62:(bAt s p==62)=false:=by rw[beq_eq_false_iff_ne];exact fun h=>hc (.inr (.inr h))
  have h0:Goes qoR (.h0 (p:Int) 1 (bAt s p) false 0 (strB []) 0 0 0 s (p:Int)) (if isSg (bAt s p)then .inl (6,s.extract p (p+1),0,0,(p:Int),((p+1:Nat):Int))else .inr ((p:Int),(p:Int))):=by refine Goes.rec0 (h2 (isSg (bAt s p))) fun k rec=>?_;simp only[qoR,af,ql8];rfl
  have key:=Goes.rec0 (step:=qoR) (s:=.e s (p:Int)) h0 fun k rec=>by simp only[qoR,yw hp,n33,n60,n62,af]
  rw[hlen];cases hg:isSg (bAt s p)with
  |true=>rw[hg]at key;exact key
  |false=>rw[hg]at key;exact key
end
section
variable [vo]
end
theorem qeR {s:ByteArray}{p:Nat}(hp:p<s.size){t:Tk}{e:Nat}(h:tok s p=some (t,e)):p<e∧e≤s.size:=by
 unfold tok at h;split at h
 ·
  rename_i hl;have hn:isNm (bAt s p)=true:=by unfold isNm;rw[hl];rfl
  have h1:p+1≤stop isNm s p:=by rw[qo9 hp hn];exact zC _ _ _
  have h2:=yQ (f:=isNm) (Nat.le_of_lt hp);unfold qd6 at h;split at h
  · cases h;exact⟨h1,h2⟩
  · split at h
    · cases h;exact⟨h1,h2⟩
    · cases h
 ·
  split at h
  ·
   rename_i hd;have h1:=qgP hp hd;have h2:=yQ (f:=isDi) (Nat.le_of_lt hp);have h3:=qhx h2;unfold Zt at h;split at h
   · cases h
   ·
    split at h
    · split at h
      · cases h;exact⟨h1,h2⟩
      · cases h
    ·
     rename_i hm;split at h
     · cases h
     · cases h;rcases h3 with h3|h3
       · exact absurd h3 hm
       · exact⟨by omega,h3⟩
  ·
   split at h
   · unfold qdt at h;split at h
     · rename_i hh;cases h;have:=zC isNm s (p+1);exact⟨by omega,hh.2.1⟩
     · cases h
   ·
    unfold qav at h;split at h
    · cases h
    ·
     rename_i h0;cases h;have h1:p+vR s p≤s.size:=by
      unfold vR at *;split
      · rename_i hc;rw[aD hc]at h0;split
        · rename_i h2;unfold twoB at h2;rw[aC,aX]at h2;omega
        · omega
      · split<;>omega
     exact⟨by omega,h1⟩
section
variable [vo]
def qcS (s:ByteArray)(p:Nat)(z:Int):R20:=
 if stop isBl s p=s.size then .inl (0,strB [],0,0,(s.size:Int),(s.size:Int))
 else match tok s (stop isBl s p)with
  |some (t,e)=>.inl (t.kind,t.text,t.n,t.scale,(stop isBl s p:Int),(e:Int))
  |none=>.inr ((stop isBl s p:Int),z)
theorem qhU {s:ByteArray}{q:Nat}(hs:s.size≤4000)(hq:q≤s.size)(hb:q<s.size→isBl (bAt s q)=false):∃ z,Goes yY (.h1 false 0 (strB []) 0 0 0 s (q:Int)) (qcS s q z):=by
 have hst:stop isBl s q=q:=zk hb;unfold qcS;rw[hst];by_cases he:q=s.size
 · refine⟨0,?_⟩;rw[aD he];refine .fin0 fun k rec=>?_;subst he;simp only[yY,af,beq_self_eq_true,ah]
 ·
  have hp:q<s.size:=by omega
  have hne:((q:Int)==(s.size:Int))=false:=by rw[beq_eq_false_iff_ne];omega
  simp only[aF he];obtain⟨N1,h1⟩:=ql5 (bAt s q);obtain⟨N2,h2⟩:=qlJ (bAt s q);unfold tok;cases hl:isLe (bAt s q)with
  |true=>
   refine⟨(stop isNm s q:Int),?_⟩;rw[aD rfl];obtain⟨N3,h3⟩:=qd1 hs hp;refine .fin ⟨N1+N2+N3,fun k hk rec=>?_⟩;have h1:=h1 k (by omega);have h3:=h3 k (by omega);rw[hl]at h1;simp only at h1 h3;simp only[yY,af,hne,yw hp,h1,ae,ah,h3];cases qd6 s q with
   |none=>rfl
   |some x=>obtain⟨t,e⟩:=x;rfl
  |false=>
   rw[aF (by simp)];cases hd:isDi (bAt s q)with
   |true=>
    rw[aD rfl];obtain⟨z,N3,h3⟩:=qmb hs hp hd;refine⟨z,.fin ⟨N1+N2+N3,fun k hk rec=>?_⟩⟩;have h1:=h1 k (by omega);have h2:=h2 k (by omega);have h3:=h3 k (by omega);rw[hl]at h1;rw[hd]at h2;simp only at h1 h2 h3;simp only[yY,af,hne,yw hp,h1,h2,ae,ah,h3];cases Zt s q with
    |none=>rfl
    |some x=>obtain⟨t,e⟩:=x;rfl
   |false=>
    rw[aF (by simp)];by_cases h39:bAt s q=39
    · rw[aD h39];obtain⟨N3,h3⟩:=qlE hs hp;refine⟨(q:Int),.fin ⟨N1+N2+N3,fun k hk rec=>?_⟩⟩;have h1:=h1 k (by omega);have h2:=h2 k (by omega);have h3:=h3 k (by omega);rw[hl]at h1;rw[hd]at h2;simp only at h1 h2 h3;simp only[yY,af,hne,yw hp,h1,h2,ae,show(bAt s q==39)=true from beq_iff_eq.2 h39,ah,h3];cases qdt s q with
      |none=>rfl
      |some x=>obtain⟨t,e⟩:=x;rfl
    · rw[aF h39];obtain⟨N3,h3⟩:=qtw hs hp;refine⟨(q:Int),.fin ⟨N1+N2+N3,fun k hk rec=>?_⟩⟩;have h1:=h1 k (by omega);have h2:=h2 k (by omega);have h3:=h3 k (by omega);rw[hl]at h1;rw[hd]at h2;simp only at h1 h2 h3;simp only[yY,af,hne,yw hp,h1,h2,ae,show(bAt s q==39)=false from beq_eq_false_iff_ne.2 h39,h3];cases qav s q with
      |none=>rfl
      |some x=>obtain⟨t,e⟩:=x;rfl
theorem qjv {s:ByteArray}{p:Nat}{z:Int}(hp:p<s.size)(hb:isBl (bAt s p)=true):qcS s p z=qcS s (p+1) z:=by unfold qcS;rw[qo9 hp hb]
theorem qfh {s:ByteArray}(hs:s.size≤4000):∀ (n p:Nat),s.size-p≤n→p≤s.size→∃ z,Goes yY (.h0 0 (strB []) 0 0 0 s (p:Int)) (qcS s p z)
 |0,p,h1,h2=>by obtain⟨z,hz⟩:=qhU hs h2 (fun h=>by omega);exact⟨z,Goes.rec0 hz fun k rec=>by simp only[yY,ltF (show ¬ p<s.size by omega),af]⟩
 |n+1,p,h1,h2=>by
  by_cases hp:p<s.size
  ·
   cases hb:isBl (bAt s p)with
   |true=>
    obtain⟨z,hz⟩:=qfh hs n (p+1) (by omega) (by omega);rw[← qjv hp hb]at hz;have h3:Goes yY (.h1 true 0 (strB []) 0 0 0 s (p:Int)) (qcS s p z):=Goes.rec0 hz fun k rec=>by simp only[yY,ah,zq p (by omega)]
    exact⟨z,Goes.call (qiw (bAt s p)) h3 fun k rec e=>by simp only[yY,ltT hp,ah,yw hp,e,hb,ae]⟩
   |false=>obtain⟨z,hz⟩:=qhU hs h2 (fun _=>hb);exact⟨z,Goes.call (qiw (bAt s p)) hz fun k rec e=>by simp only[yY,ltT hp,ah,yw hp,e,hb,ae]⟩
  · obtain⟨z,hz⟩:=qhU hs h2 (fun h=>absurd h hp);exact⟨z,Goes.rec0 hz fun k rec=>by simp only[yY,ltF hp,af]⟩
theorem qmi {s:ByteArray}{p:Nat}(hs:s.size≤4000)(hp:p≤s.size):∃ z,Tot (fun k=>g20 k s (p:Int)) (qcS s p z):=by obtain⟨z,hz⟩:=qfh hs _ p (Nat.le_refl _) hp;exact⟨z,Goes.rec0 (step:=yY) (s:=.e s (p:Int)) hz fun k rec=>rfl⟩
end
def qiY (t:Tk)(p:Nat):List Cell:=[ic t.kind,sc t.text,ic t.n,ic t.scale,ic (p:Int)]
def qhe (p:Nat):List Cell:=[ic 0,sc (strB []),ic 0,ic 0,ic (p:Int)]
def qcV (s:ByteArray):Nat→Nat→Rs⊕Nat
 |0,p=>.inr p
 |n+1,p=>if stop isBl s p=s.size then .inl [qhe s.size]else match tok s (stop isBl s p)with
  |some (t,e)=>(match qcV s n e with
   |.inl l=>.inl (qiY t (stop isBl s p)::l)
   |.inr z=>.inr z)
  |none=>.inr (stop isBl s p)
section
variable [vo]
theorem ql4 {acc:Rs}{row:List Cell}(h1:acc.length≤5000)(h2:row.length=5):apOk 48 5 acc [row]=true:=by unfold apOk;simp[h2,lim];omega
def qpo (acc:Rs):Rs⊕Nat→R10
 |.inl l=>.inl (qG (acc++l),0,0)
 |.inr z=>.inr ((z:Int),12)
theorem qqK {s:ByteArray}(hs:s.size≤4000):∀ (n p:Nat) (acc:Rs),s.size-p<n→p≤s.size→acc.length≤p→Goes qaJ (.h1 s (p:Int) 0 0 acc) (qpo acc (qcV s n p))
 |0,p,acc,h,_,_=>by omega
 |n+1,p,acc,h1,h2,h3=>by
  obtain⟨z,hz⟩:=qmi (s:=s) (p:=p) hs h2;unfold qcS at hz;have hq:=zC isBl s p;have hq2:=yQ (f:=isBl) h2;unfold qcV;by_cases he:stop isBl s p=s.size
  · rw[aD he]at hz ⊢;have h4:Goes qaJ (.h2 0 0 (qG (acc++[qhe s.size]))) (qpo acc (.inl [qhe s.size])):=.fin0 fun k rec=>rfl;refine Goes.call hz h4 fun k rec e=>?_;simp only[qaJ,e,ae,altC,tup6,ql4 (show acc.length≤5000 by omega) (show [ic 0,sc (strB []),ic 0,ic 0,ic (s.size:Int)].length=5 from rfl),ZW,show((0:Int)==0)=true from rfl,ah];rfl
  ·
   rw[aF he]at hz ⊢;have hp:stop isBl s p<s.size:=by omega
   cases ht:tok s (stop isBl s p)with
   |none=>rw[ht]at hz;refine Goes.done hz fun k rec e=>?_;simp only[qaJ,e,ae,altC,tup2];rfl
   |some x=>
    obtain⟨t,e⟩:=x;rw[ht]at hz;have hend:=qeR hp ht;have hk:t.kind≠0:=by
     unfold tok qd6 Zt qdt qav at ht;intro hk
     repeat' split at ht
     all_goals first|(cases ht;done)|(cases ht;simp at hk)
    have ih:=qqK hs n e (acc++[qiY t (stop isBl s p)]) (by omega) hend.2 (by rw[List.length_append,List.length_singleton];omega);have e2:qpo (acc++[qiY t (stop isBl s p)]) (qcV s n e)=qpo acc (match qcV s n e with|.inl l=>.inl (qiY t (stop isBl s p)::l)|.inr z=>.inr z):=by
     cases qcV s n e with
     |inl l=>simp[qpo]
     |inr z=>rfl
    rw[e2]at ih;refine Goes.call hz ih fun k rec e=>?_;simp only[qaJ,e,ae,altC,tup6,ql4 (show acc.length≤5000 by omega) (show [ic t.kind,sc t.text,ic t.n,ic t.scale,ic (stop isBl s p:Int)].length=5 from rfl),ZW,beq_eq_false_iff_ne.2 hk,af];rfl
theorem qtr {s:ByteArray}(hs:s.size≤4000):Tot (fun k=>g10 k s) (qpo [] (qcV s (s.size+1) 0)):=by have h:=qqK hs (s.size+1) 0 [] (by omega) (by omega) (Nat.le_refl _);refine Goes.rec0 (step:=qaJ) (s:=.e s) h fun k rec=>?_;simp only[qaJ,show decide ((s.size:Int)>4000)=false from aN (by omega),af];rfl
theorem qrN {s:ByteArray}(hs:¬ s.size≤4000):Tot (fun k=>g10 k s) (.inl ([],0,2)):=by have h:Goes qaJ (.h0 2 0 []) (.inl ([],0,2)):=.fin0 fun k rec=>rfl;refine Goes.rec0 (step:=qaJ) (s:=.e s) h fun k rec=>?_;simp only[qaJ,show decide ((s.size:Int)>4000)=true from aO (by omega),ah]
end
end Ab
end Go.Proofs.YtfekohpjaafnhaaGreatDoor

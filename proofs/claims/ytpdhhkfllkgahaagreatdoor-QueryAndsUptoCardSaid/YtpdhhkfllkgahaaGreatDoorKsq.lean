/-
  The program's scanner: what its functions tell, as plain functions of the text; tokens that are moved to another text.
-/
import Derived.Test.YtpdhhkfllkgahaaGreatDoorFQeq
import Derived.Lib.ItoaNum
set_option linter.all false
namespace Go.Proofs.YtpdhhkfllkgahaaGreatDoor
namespace Ab
def bAt (s:ByteArray)(p:Nat):Int:=((s.data.toList.getD p 0).toNat:Int)
def isLe (c:Int):Bool:=(decide (97≤c)&&decide (c≤122))||(decide (65≤c)&&decide (c≤90))
def isDi (c:Int):Bool:=decide (48≤c)&&decide (c≤57)
def isNm (c:Int):Bool:=isLe c||isDi c||c==95
def isBl (c:Int):Bool:=c==32||c==9||c==10||c==13
theorem qj3 (s:ByteArray)(p:Nat):0≤bAt s p:=by unfold bAt;omega
theorem qr2 (s:ByteArray)(p:Nat):bAt s p≤255:=by unfold bAt;have:=(s.data.toList.getD p 0).toNat_lt;omega
theorem qD (s:ByteArray):s.data.toList.length=s.size:=by rw[Array.length_toList];rfl
theorem qhT {s:ByteArray}{p:Nat}(h:p<s.size):s.data.toList[p]? = some (UInt8.ofNat (bAt s p).toNat):=by
 have h':p<s.data.toList.length:=by rw[qD];exact h
 rw[ax h'];unfold bAt;rw[List.getD_eq_getElem?_getD,ax h'];simp
theorem qdy {s:ByteArray}{p:Nat}(h:p<s.size):Xp s p=some (bAt s p):=by
 unfold Xp bAt;have h1:s[p]? = some (s[p]'h):=by simp[h]
 have h':p<s.data.toList.length:=by rw[qD];exact h
 rw[h1,List.getD_eq_getElem?_getD,ax h'];rfl
theorem qja {s:ByteArray}{p:Nat}(h:p<s.size):((s[p]'h).toNat:Int)=bAt s p:=by
 have:=qdy h;unfold Xp at this;have h1:s[p]? = some (s[p]'h):=by simp[h]
 rw[h1]at this;simpa using this
theorem yw {α:Type}{s:ByteArray}{p:Nat}(h:p<s.size)(k:Int→Option α):sxI s (p:Int) k=k (bAt s p):=by
 have:decide ((0:Int)≤(p:Int))=true:=by simp
 simp[sxI,qdy h]
theorem qol {α:Type}{s:ByteArray}(h:0<s.size)(k:Int→Option α):sxI s 0 k=k (bAt s 0):=yw h k
def stop (f:Int→Bool)(s:ByteArray)(p:Nat):Nat:=if p<s.size then(if f (bAt s p)then stop f s (p+1)else p)else p
termination_by s.size-p
theorem zk {f:Int→Bool}{s:ByteArray}{p:Nat}(h:p<s.size→f (bAt s p)=false):stop f s p=p:=by
 rw[stop];split
 · rename_i hp;rw[h hp];rfl
 · rfl
theorem qo9 {f:Int→Bool}{s:ByteArray}{p:Nat}(hp:p<s.size)(h:f (bAt s p)=true):stop f s p=stop f s (p+1):=by rw[stop,aD hp,h];rfl
theorem qhI (f:Int→Bool)(s:ByteArray):∀ (n p:Nat),s.size-p≤n→p≤stop f s p
 |0,p,h=>by rw[zk (fun hp=>by omega)];exact Nat.le_refl _
 |n+1,p,h=>by
  by_cases hp:p<s.size
  · cases hf:f (bAt s p)with
    |true=>rw[qo9 hp hf];have:=qhI f s n (p+1) (by omega);omega
    |false=>rw[zk (fun _=>hf)];exact Nat.le_refl _
  · rw[zk (fun h=>absurd h hp)];exact Nat.le_refl _
theorem zC (f:Int→Bool)(s:ByteArray)(p:Nat):p≤stop f s p:=qhI f s _ p (Nat.le_refl _)
theorem qif (f:Int→Bool)(s:ByteArray):∀ (n p:Nat),s.size-p≤n→p≤s.size→stop f s p≤s.size
 |0,p,h,hs=>by rw[zk (fun hp=>by omega)];exact hs
 |n+1,p,h,hs=>by
  by_cases hp:p<s.size
  · cases hf:f (bAt s p)with
    |true=>rw[qo9 hp hf];exact qif f s n (p+1) (by omega) (by omega)
    |false=>rw[zk (fun _=>hf)];exact hs
  · rw[zk (fun h=>absurd h hp)];exact hs
theorem yQ {f:Int→Bool}{s:ByteArray}{p:Nat}(h:p≤s.size):stop f s p≤s.size:=qif f s _ p (Nat.le_refl _) h
theorem qig {f:Int→Bool}{s:ByteArray}:∀ {n p:Nat},s.size-p≤n→∀ i,p≤i→i<stop f s p→f (bAt s i)=true
 |0,p,h,i,h1,h2=>by rw[zk (fun hp=>by omega)]at h2;omega
 |n+1,p,h,i,h1,h2=>by
  by_cases hp:p<s.size
  ·
   cases hf:f (bAt s p)with
   |true=>
    rw[qo9 hp hf]at h2;by_cases e:i=p
    · subst e;exact hf
    · exact qig (n:=n) (by omega) i (by omega) h2
   |false=>rw[zk (fun _=>hf)]at h2;omega
  · rw[zk (fun h=>absurd h hp)]at h2;omega
theorem Qj {f:Int→Bool}{s:ByteArray}{p i:Nat}(h1:p≤i)(h2:i<stop f s p):f (bAt s i)=true:=qig (Nat.le_refl _) i h1 h2
theorem qfM {f:Int→Bool}{s:ByteArray}:∀ {n p:Nat},s.size-p≤n→stop f s p<s.size→f (bAt s (stop f s p))=false
 |0,p,h,h2=>by rw[zk (fun hp=>by omega)]at h2;omega
 |n+1,p,h,h2=>by
  by_cases hp:p<s.size
  · cases hf:f (bAt s p)with
    |true=>rw[qo9 hp hf]at h2 ⊢;exact qfM (n:=n) (by omega) h2
    |false=>rw[zk (fun _=>hf)];exact hf
  · rw[zk (fun h=>absurd h hp)]at h2;omega
theorem qeZ {f:Int→Bool}{s:ByteArray}{p:Nat}(h:stop f s p<s.size):f (bAt s (stop f s p))=false:=qfM (Nat.le_refl _) h
theorem qdM {f:Int→Bool}{s:ByteArray}{e:Nat}:∀ {n p:Nat},e-p≤n→p≤e→e≤s.size→(∀ i,p≤i→i<e→f (bAt s i)=true)→(e<s.size→f (bAt s e)=false)→stop f s p=e
 |0,p,h,h1,h2,h3,h4=>by
  obtain rfl:p=e:=by omega
  exact zk h4
 |n+1,p,h,h1,h2,h3,h4=>by
  by_cases e0:p=e
  · subst e0;exact zk h4
  · rw[qo9 (by omega) (h3 p (Nat.le_refl _) (by omega))];exact qdM (n:=n) (by omega) (by omega) h2 (fun i a b=>h3 i (by omega) b) h4
theorem qeN {f:Int→Bool}{s:ByteArray}{p e:Nat}(h1:p≤e)(h2:e≤s.size)(h3:∀ i,p≤i→i<e→f (bAt s i)=true)(h4:e<s.size→f (bAt s e)=false):stop f s p=e:=qdM (Nat.le_refl _) h1 h2 h3 h4
theorem size_ext (s:ByteArray)(a b:Nat)(hb:b≤s.size):(s.extract a b).size=b-a:=by rw[ByteArray.size_extract];omega
theorem Qz {s:ByteArray}{a b i:Nat}(hb:b≤s.size)(h:i<b-a):bAt (s.extract a b) i=bAt s (a+i):=by unfold bAt;rw[ByteArray.data_extract,Array.toList_extract];congr 2;rw[List.getD_eq_getElem?_getD,List.getD_eq_getElem?_getD,List.extract_eq_take_drop,List.getElem?_take,aD h,List.getElem?_drop]
theorem qcK {a b:ByteArray}(hs:a.size=b.size)(h:∀ i,i<a.size→bAt a i=bAt b i):a=b:=by
 apply ByteArray.ext;apply Array.ext';apply List.ext_getElem?;intro i;by_cases hi:i<a.size
 · rw[qhT hi,qhT (by omega),h i hi]
 · rw[List.getElem?_eq_none (by rw[qD];omega),List.getElem?_eq_none (by rw[qD];omega)]
theorem Qw (s:ByteArray):s.toList=s.data.toList:=ByteArray.toList_eq s
theorem toList_inj {a b:ByteArray}(h:a.toList=b.toList):a=b:=by apply ByteArray.ext;apply Array.ext';rw[← Qw,← Qw,h]
theorem wrapN {n:Nat}(h:n<9223372036854775808):IntKind.i64.wrap (n:Int)=(n:Int):=by rw[IntKind.wrap_i64];omega
theorem qes {x:Int}{n:Nat}(e:x=n)(h:n<9223372036854775808):IntKind.i64.wrap x=(n:Int):=by rw[e];exact wrapN h
def Tot {α:Type}(f:Nat→Option α)(r:α):Prop:=∃ N,∀ k,N≤k→f k=some r
def Goes {S R:Type}(step:Nat→(S→Option R)→S→Option R)(s:S)(r:R):Prop:=Tot (fun k=>itS step k s) r
theorem Goes.rec {S R:Type}{step:Nat→(S→Option R)→S→Option R}{s s':S}{r:R}(h:Goes step s' r)(e:∃ N,∀ k,N≤k→∀ rec,step k rec s=rec s'):Goes step s r:=by
 obtain⟨N,hN⟩:=h;obtain⟨M,hM⟩:=e;refine⟨max N M+1,fun k hk=>?_⟩;obtain⟨j,rfl⟩:∃ j,k=j+1:=⟨k-1,by omega⟩
 show step j (itS step j) s=some r;rw[hM j (by omega)];exact hN j (by omega)
theorem Goes.rec0 {S R:Type}{step:Nat→(S→Option R)→S→Option R}{s s':S}{r:R}(h:Goes step s' r)(e:∀ k rec,step k rec s=rec s'):Goes step s r:=h.rec ⟨0,fun k _=>e k⟩
theorem Goes.fin {S R:Type}{step:Nat→(S→Option R)→S→Option R}{s:S}{r:R}(e:∃ N,∀ k,N≤k→∀ rec,step k rec s=some r):Goes step s r:=by
 obtain⟨M,hM⟩:=e;refine⟨M+1,fun k hk=>?_⟩;obtain⟨j,rfl⟩:∃ j,k=j+1:=⟨k-1,by omega⟩
 exact hM j (by omega) _
theorem Goes.fin0 {S R:Type}{step:Nat→(S→Option R)→S→Option R}{s:S}{r:R}(e:∀ k rec,step k rec s=some r):Goes step s r:=.fin ⟨0,fun k _=>e k⟩
theorem qjj {α:Type}{f:Nat→Option α}{r:α}(N:Nat)(h:∀ j,f (j+N)=some r):Tot f r:=⟨N,fun k hk=>by obtain⟨j,rfl⟩:∃ j,k=j+N:=⟨k-N,by omega⟩;exact h j⟩
theorem Goes.call {S R A:Type}{step:Nat→(S→Option R)→S→Option R}{s s':S}{r:R}{g:Nat→Option A}{a:A}(hg:Tot g a)(h:Goes step s' r)(e:∀ k rec,g k=some a→step k rec s=rec s'):Goes step s r:=by obtain⟨N,hN⟩:=hg;exact h.rec ⟨N,fun k hk rec=>e k rec (hN k hk)⟩
theorem Goes.call2 {S R A B:Type}{step:Nat→(S→Option R)→S→Option R}{s s':S}{r:R}{g:Nat→Option A}{a:A}{g2:Nat→Option B}{b:B}(hg:Tot g a)(hg2:Tot g2 b)(h:Goes step s' r)(e:∀ k rec,g k=some a→g2 k=some b→step k rec s=rec s'):Goes step s r:=by obtain⟨N,hN⟩:=hg;obtain⟨M,hM⟩:=hg2;exact h.rec ⟨max N M,fun k hk rec=>e k rec (hN k (by omega)) (hM k (by omega))⟩
theorem Goes.done {S R A:Type}{step:Nat→(S→Option R)→S→Option R}{s:S}{r:R}{g:Nat→Option A}{a:A}(hg:Tot g a)(e:∀ k rec,g k=some a→step k rec s=some r):Goes step s r:=by obtain⟨N,hN⟩:=hg;exact .fin ⟨N,fun k hk rec=>e k rec (hN k hk)⟩
theorem Goes.done2 {S R A B:Type}{step:Nat→(S→Option R)→S→Option R}{s:S}{r:R}{g:Nat→Option A}{a:A}{g2:Nat→Option B}{b:B}(hg:Tot g a)(hg2:Tot g2 b)(e:∀ k rec,g k=some a→g2 k=some b→step k rec s=some r):Goes step s r:=by obtain⟨N,hN⟩:=hg;obtain⟨M,hM⟩:=hg2;exact .fin ⟨max N M,fun k hk rec=>e k rec (hN k (by omega)) (hM k (by omega))⟩
theorem Yi {α:Type}{rows:Rs}{i:Nat}{row:List Cell}(h:rows[i]? = some row)(k:List Cell→Option α):ixR rows (i:Int) k=k row:=by
 have:decide ((0:Int)≤(i:Int))=true:=by simp
 simp[ixR,h]
theorem zq (i:Nat)(h:i<4611686018427387904):IntKind.i64.wrap ((i:Int)+1)=((i+1:Nat):Int):=qes (by omega) (by omega)
theorem qk7 (i j:Nat)(h:i+j<4611686018427387904):IntKind.i64.wrap ((i:Int)+(j:Int))=((i+j:Nat):Int):=qes (by omega) (by omega)
section
variable [vo]
theorem qC6 (c:Int):Tot (fun k=>g54 k c) (isBl c):=Goes.fin0 (step:=qxL) (s:=.e c) fun k rec=>by simp only[qxL,isBl];cases h1:c==32<;>cases h2:c==9<;>cases h3:c==10<;>rfl
theorem qB6 (c:Int):Tot (fun k=>g55 k c) (isLe c):=Goes.fin0 (step:=qsu) (s:=.e c) fun k rec=>by simp only[qsu,isLe,ge_iff_le];cases h1:decide (97≤c)<;>cases h2:decide (c≤122)<;>cases h3:decide (65≤c)<;>rfl
theorem qA5 (c:Int):Tot (fun k=>g57 k c) (isDi c):=Goes.fin0 (step:=qxM) (s:=.e c) fun k rec=>by simp only[qxM,isDi,ge_iff_le];cases h1:decide (48≤c)<;>rfl
end
theorem qdo {c:Int}(h:isNm c=true):Xa c≠4∧(Xa c>1↔isLe c=false):=by
 simp only[isNm,isLe,isDi,Bool.or_eq_true,aC,aX,beq_iff_eq,Bool.or_eq_false_iff,Bool.and_eq_false_iff,decide_eq_false_iff_not]at *;unfold Xa
 repeat' split
 all_goals omega
theorem qfa {c:Int}(h:isNm c=true):c<128:=by simp only[isNm,isLe,isDi,Bool.or_eq_true,aC,aX,beq_iff_eq]at *;omega
theorem decode_at {s:ByteArray}{p:Nat}(hp:p<s.size)(h:bAt s p<128):Utf8.decode s p=((bAt s p).toNat,1):=by have e:=qja hp;rw[decode_ascii s p hp (by omega)];congr 1;omega
theorem qfg {s:ByteArray}(hn:∀ i,i<s.size→isNm (bAt s i)=true):∀ (n pos:Nat),1≤pos→qaV s n pos=true
 |0,_,_=>rfl
 |n+1,pos,h1=>by
  by_cases hp:pos<s.size
  · have hb:=hn pos hp;have hd:=decode_at hp (qfa hb);have e:((Utf8.decode s pos).1:Int)=bAt s pos:=by rw[hd];have:=qj3 s pos;simp;omega
    have:=qdo hb;rw[qcQ hp (by rw[e];exact fun hh=>hh.elim this.1 fun h=>by have:=h.1;omega),hd];exact qfg hn n (pos+1) (by omega)
  · exact aF hp
def nmOk (w:ByteArray):Bool:=decide (1≤w.size)&&decide (w.size≤24)&&isLe (bAt w 0) && !YH w
theorem qe0 {s:ByteArray}(hn:∀ i,i<s.size→isNm (bAt s i)=true):qcL s=nmOk s:=by
 have hz:s.toList=[]↔s.size=0:=by rw[Qw,← List.length_eq_zero_iff,qD]
 unfold qcL nmOk;by_cases h:s.toList=[]∨24<(s.size:Int)∨YH s=true
 ·
  rw[aD h];rcases h with h|h|h
  · rw[hz]at h;simp[h]
  · have:¬ s.size≤24:=by omega
    simp[this]
  · simp[h]
 ·
  rw[aF h];have h1:s.size≠0:=fun e=>h (.inl (hz.2 e));have h2:s.size≤24:=by
   rcases Nat.lt_or_ge 24 s.size with h'|h'
   · exact absurd (.inr (.inl (by omega))) h
   · exact h'
  have h3:YH s=false:=by
   cases hw:YH s with
   |true=>exact absurd (.inr (.inr hw)) h
   |false=>rfl
  obtain⟨n,hn1⟩:∃ n,s.size=n+1:=⟨s.size-1,by omega⟩
  have hp:0<s.size:=by omega
  have hb:=hn 0 hp;have hd:=decode_at hp (qfa hb);have e:((Utf8.decode s 0).1:Int)=bAt s 0:=by rw[hd];have:=qj3 s 0;simp;omega
  have hbits:=qdo hb;rw[hn1];cases hl:isLe (bAt s 0)with
  |true=>
   have:¬ Xa (bAt s 0)>1:=fun hh=>by rw[hbits.2.1 hh]at hl;cases hl
   rw[qcQ hp (by rw[e];exact fun hh=>hh.elim hbits.1 fun h=>this h.2),hd,qfg hn n _ (by omega)];simp[h3];omega
  |false=>rw[qfP hp (by rw[e];exact .inr ⟨rfl,hbits.2.2 hl⟩)];simp
def qh9:List ByteArray:=qjc.map fun l=>strB (l.map UInt8.toNat)
theorem qez:qh9.map (fun x=>x.toList)=qjc:=by kernel_rfl
theorem qi2 (s:ByteArray):YH s=qh9.any fun x=>s.toList==x.toList:=by unfold YH;rw[← qez,List.any_map];rfl
section
variable [vo]
theorem qlQ {a b:Bool}(rec:S65→Option R65):(bif a then rec (.h0 true)else rec (.h0 b))=rec (.h0 (a||b)):=by cases a<;>rfl
theorem qty (s:ByteArray):Tot (fun k=>g65 k s) (YH s):=by
 refine Goes.rec0 (step:=qrB) (s:=.e s) (s':=.h0 (YH s)) (Goes.fin0 fun k rec=>?_) fun k rec=>?_
 · simp only[qrB];cases YH s<;>rfl
 · simp only[qrB,qlQ];rw[qi2];simp only[show qh9=[strB [80,65,84,84,69,82,78],strB [83,69,81],strB [87,72,69,82,69],strB [83,84,82,65,84,69,71,89],strB [87,73,84,72,73,78],strB [80,65,82,84,73,84,73,79,78],strB [66,89],strB [83,84,82,73,67,84],strB [78,69,88,84],strB [65,78,89],strB [65,78,68],strB [79,82],strB [78,79,84],strB [84,82,85,69],strB [70,65,76,83,69],strB [84,73,77,69],strB [82,69,65,76],strB [73,83,78,65,78],strB [67,79,85,78,84],strB [70,73,82,83,84],strB [76,65,83,84],strB [83,85,77],strB [77,73,78],strB [77,65,88],strB [77,69,65,78]]from by kernel_rfl,List.any_cons,List.any_nil,Bool.or_false]
theorem ltT {a b:Nat}(h:a<b):decide ((a:Int)<(b:Int))=true:=aO (by omega)
theorem ltF {a b:Nat}(h:¬ a<b):decide ((a:Int)<(b:Int))=false:=aN (by omega)
theorem bnds {s:ByteArray}{a b:Nat}(h1:a≤b)(h2:b≤s.size):decide (0≤(a:Int)∧(a:Int)≤(b:Int)∧(b:Int)≤(s.size:Int))=true:=aO (by omega)
theorem ZW {α:Type}(x:Option α):gd true x=x:=rfl
theorem qc0 (s:ByteArray)(a b:Nat):s.extract (Int.toNat (a:Int)) (Int.toNat (b:Int))=s.extract a b:=rfl
theorem qCG {s:ByteArray}{p:Nat}{q:Int}(hs:s.size≤4000):∀ (n e:Nat),s.size-e≤n→p≤e→e≤s.size→Goes qsw (.h0 (p:Int) (e:Int) s q) (s.extract p (stop isNm s e)):=by
 have fin:∀ e:Nat,p≤e→e≤s.size→Goes qsw (.h1 (p:Int) (e:Int) false s q) (s.extract p e):=fun e h1 h2=>.fin0 fun k rec=>by simp only[qsw,af,bnds h1 h2,ZW,qc0]
 intro n
 induction n with
 |zero=>intro e h1 h2 h3;rw[zk (fun h=>by omega)];exact Goes.rec0 (fin e h2 h3) fun k rec=>by simp only[qsw,ltF (show ¬ e<s.size by omega),af]
 |succ n ih=>
  intro e h1 h2 h3;by_cases he:e<s.size
  ·
   cases hb:isNm (bAt s e)with
   |true=>
    rw[qo9 he hb];have h4:Goes qsw (.h1 (p:Int) (e:Int) true s q) (s.extract p (stop isNm s (e+1))):=Goes.rec0 (ih (e+1) (by omega) (by omega) (by omega)) fun k rec=>by simp only[qsw,ah,zq e (by omega)]
    refine Goes.call2 (qB6 (bAt s e)) (qA5 (bAt s e)) h4 fun k rec e1 e2=>?_;simp only[qsw,ltT he,ah,yw he,e1,e2,ae];simp only[isNm,Bool.or_eq_true,beq_iff_eq]at hb;cases hl:isLe (bAt s e)with
    |true=>rfl
    |false=>
     cases hd:isDi (bAt s e)with
     |true=>rfl
     |false=>
      rw[hl,hd]at hb;have:bAt s e=95:=by simpa using hb
      rw[this];rfl
   |false=>rw[zk (fun _=>hb)];refine Goes.call2 (qB6 (bAt s e)) (qA5 (bAt s e)) (fin e h2 h3) fun k rec e1 e2=>?_;simp only[isNm,Bool.or_eq_false_iff]at hb;simp only[qsw,ltT he,ah,yw he,e1,e2,ae,hb.1.1,hb.1.2,hb.2,af]
  · rw[zk (fun h=>absurd h he)];exact Goes.rec0 (fin e h2 h3) fun k rec=>by simp only[qsw,ltF he,af]
theorem qC7 {s:ByteArray}{p:Nat}{q:Int}(hs:s.size≤4000)(hp:p≤s.size):Tot (fun k=>g73 k (p:Int) s q) (s.extract p (stop isNm s p)):=Goes.rec0 (step:=qsw) (s:=.e (p:Int) s q) (qCG (p:=p) hs _ p (Nat.le_refl _) (Nat.le_refl _) hp) fun k rec=>rfl
theorem qp8 {s:ByteArray}{p:Nat}{q:Int}(hs:s.size≤4000):∀ (n e:Nat),s.size-e≤n→p≤e→e≤s.size→Goes qpu (.h0 (p:Int) (e:Int) s q) (s.extract p (stop isDi s e)):=by
 have fin:∀ e:Nat,p≤e→e≤s.size→Goes qpu (.h1 (p:Int) (e:Int) false s q) (s.extract p e):=fun e h1 h2=>.fin0 fun k rec=>by simp only[qpu,af,bnds h1 h2,ZW,qc0]
 intro n
 induction n with
 |zero=>intro e h1 h2 h3;rw[zk (fun h=>by omega)];exact Goes.rec0 (fin e h2 h3) fun k rec=>by simp only[qpu,ltF (show ¬ e<s.size by omega),af]
 |succ n ih=>
  intro e h1 h2 h3;by_cases he:e<s.size
  ·
   cases hb:isDi (bAt s e)with
   |true=>
    rw[qo9 he hb];have h4:Goes qpu (.h1 (p:Int) (e:Int) true s q) (s.extract p (stop isDi s (e+1))):=Goes.rec0 (ih (e+1) (by omega) (by omega) (by omega)) fun k rec=>by simp only[qpu,ah,zq e (by omega)]
    refine Goes.call (qA5 (bAt s e)) h4 fun k rec e1=>?_;simp only[qpu,ltT he,ah,yw he,e1,hb,ae]
   |false=>rw[zk (fun _=>hb)];refine Goes.call (qA5 (bAt s e)) (fin e h2 h3) fun k rec e1=>?_;simp only[qpu,ltT he,ah,yw he,e1,hb,ae]
  · rw[zk (fun h=>absurd h he)];exact Goes.rec0 (fin e h2 h3) fun k rec=>by simp only[qpu,ltF he,af]
theorem qsd {s:ByteArray}{p:Nat}{q:Int}(hs:s.size≤4000)(hp:p≤s.size):Tot (fun k=>g74 k (p:Int) s q) (s.extract p (stop isDi s p)):=Goes.rec0 (step:=qpu) (s:=.e (p:Int) s q) (qp8 (p:=p) hs _ p (Nat.le_refl _) (Nat.le_refl _) hp) fun k rec=>rfl
end
def dg8 (c:UInt8):Nat:=c.toNat-48
def dvF (x:Nat)(l:List UInt8):Nat:=l.foldl (fun x c=>10*x+dg8 c) x
theorem qi1 (x:Nat)(c:UInt8)(l:List UInt8):dvF x (c::l)=dvF (10*x+dg8 c) l:=by unfold dvF;rw[List.foldl_cons]
theorem qku (c:UInt8):dg8 c=c.toNat-48:=rfl
def dv (l:List UInt8):Nat:=dvF 0 l
def isDg (c:UInt8):Prop:=48≤c.toNat∧c.toNat≤57
theorem qkd:∀ (l:List UInt8) (x:Nat),x≤dvF x l
 |[],x=>Nat.le_refl _
 |c::l,x=>Nat.le_trans (by omega) (qkd l (10*x+dg8 c))
theorem qqG (l:List UInt8)(x:Nat)(c:UInt8):dvF x (l++[c])=10*dvF x l+dg8 c:=by unfold dvF;rw[List.foldl_append];rfl
theorem qj0:∀ (l:List UInt8) (x:Nat),(∀ c∈l,isDg c)→dvF x l<(x+1)*10 ^ l.length
 |[],x,h=>by show x<(x+1)*10 ^ 0;rw[Nat.pow_zero];omega
 |c::l,x,h=>by
  have h1:=h c au;have h0:=qku c;have:=qj0 l (10*x+dg8 c) (fun c hc=>h c (aB _ hc));have h2:10*x+dg8 c+1≤10*(x+1):=by have:=h1.2;omega
  show dvF (10*x+dg8 c) l<(x+1)*10 ^ (l.length+1);rw[Nat.pow_succ];generalize 10 ^ l.length=z at this ⊢;have h3:=Nat.mul_le_mul_right z h2;have h4:10*(x+1)*z=(x+1)*(z*10):=by rw[Nat.mul_comm 10 (x+1),Nat.mul_assoc,Nat.mul_comm 10 z]
  rw[h4]at h3;exact Nat.lt_of_lt_of_le this h3
theorem qnu {l:List UInt8}(h:∀ c∈l,isDg c):dv l<10 ^ l.length:=by have:=qj0 l 0 h;simpa [dv]using this
theorem qki:∀ (l:List UInt8) (x:Nat),(∀ c∈l,isDg c)→Lib.parseUintM (2 ^ 64-1) x l=if dvF x l≤2 ^ 64-1 then .ok (dvF x l)else(if x≤2 ^ 64-1 then .range else Lib.parseUintM (2 ^ 64-1) x l)
 |[],x,h=>by
  by_cases hx:x≤2 ^ 64-1
  · rw[aD (show dvF x []≤2 ^ 64-1 from hx)];rfl
  · rw[aF (show ¬ dvF x []≤2 ^ 64-1 from hx),aF hx]
 |c::l,x,h=>by
  have h1:48≤c.toNat∧c.toNat≤57:=h c au;have ih:=qki l (x*10+(c.toNat-48)) (fun c hc=>h c (aB _ hc));have e:10*x+dg8 c=x*10+(c.toNat-48):=by have:=qku c;omega
  have hge:=qkd l (x*10+(c.toNat-48));rw[qi1,e];by_cases hv:dvF (x*10+(c.toNat-48)) l≤2 ^ 64-1
  · rw[aD hv]at ih ⊢;unfold Lib.parseUintM;rw[aD h1,aF (by omega),aF (by omega)];exact ih
  ·
   rw[aF hv]at ih ⊢;by_cases hx:x≤2 ^ 64-1
   ·
    rw[aD hx];unfold Lib.parseUintM;rw[aD h1];split
    · rfl
    · split
      · rfl
      · rw[ih,aD (by omega)]
   · rw[aF hx]
theorem qdz {l:List UInt8}(hne:l≠[])(h:∀ c∈l,isDg c):Lib.parseIntB 64 l=if dv l<2 ^ 63 then .ok (dv l:Int)else .range:=by
 cases l with
 |nil=>exact absurd rfl hne
 |cons c r=>
  have h1:=h c au;unfold isDg at h1;have hu:Lib.parseUintB 64 (c::r)=if dv (c::r)≤2 ^ 64-1 then .ok (dv (c::r))else .range:=by
   unfold Lib.parseUintB;rw[aF (by simp),qki _ 0 h];unfold dv;split
   · rfl
   · rw[aD (by omega)]
  unfold Lib.parseIntB;simp only[aF (show ¬ (c.toNat=43∨c.toNat=45)by omega),hu];have hn:¬ c.toNat=45:=by omega
  by_cases h2:dv (c::r)≤2 ^ 64-1
  · rw[aD h2];simp only[hn,not_false_eq_true,true_and,false_and,if_false];by_cases h3:dv (c::r)<2 ^ 63
    · rw[aF (show ¬ 2 ^ (64-1)≤dv (c::r)by omega),aD h3]
    · rw[aD (show 2 ^ (64-1)≤dv (c::r)by omega),aF h3]
  · rw[aF h2,aF (by omega)]
theorem qqh {u:Nat}(h:u<10):Lib.decDigits u=[UInt8.ofNat (48+u)]:=by rw[Lib.decDigits,dif_pos h]
theorem qrj {u:Nat}(h:¬ u<10):Lib.decDigits u=Lib.decDigits (u / 10)++[UInt8.ofNat (48+u % 10)]:=by rw[Lib.decDigits,dif_neg h]
theorem qrk {c:UInt8}(h:isDg c):UInt8.ofNat (48+(c.toNat-48))=c:=by unfold isDg at h;rw[show 48+(c.toNat-48)=c.toNat by omega];exact UInt8.ofNat_toNat
theorem qtf {l:List UInt8}(hne:l≠[])(h:∀ c∈l,isDg c)(h0:l.head?≠some 48):1≤dv l:=by
 cases l with
 |nil=>exact absurd rfl hne
 |cons c r=>
  have h1:=h c au;unfold isDg at h1;have h2:c.toNat≠48:=fun e=>h0 (by
   have:c=48:=by apply UInt8.toNat_inj.1;exact e
   rw[this];rfl)
  have:=qkd r (10*0+dg8 c);have h3:=qku c;show 1≤dvF (10*0+dg8 c) r;omega
theorem qr6:∀ (n:Nat) (l:List UInt8),l.length=n+1→(∀ c∈l,isDg c)→(1<l.length→l.head?≠some 48)→Lib.decDigits (dv l)=l
 |0,l,hl,h,h0=>by
  match l,hl with
  |[c],_=>
   have h1:=h c au;have e:dv [c]=c.toNat-48:=by show 10*0+dg8 c=_;rw[qku];omega
   rw[e,qqh (by have:=h1.2;omega),qrk h1]
 |n+1,l,hl,h,h0=>by
  have hne:l≠[]:=by intro e;rw[e]at hl;simp at hl
  obtain⟨r,c,rfl⟩:∃ r c,l=r++[c]:=⟨l.dropLast,l.getLast hne,(List.dropLast_concat_getLast hne).symm⟩
  have hr:r.length=n+1:=by simpa using hl
  have hrne:r≠[]:=by intro e;rw[e]at hr;simp at hr
  have hc:=h c (aS _ au);have hrd:∀ x∈r,isDg x:=fun x hx=>h x (aL _ hx);have hh:r.head?≠some 48:=by
   have:=h0 (by simp;omega);cases r with
   |nil=>exact absurd rfl hrne
   |cons a r=>exact this
  have hp:=qtf hrne hrd hh;have e:dv (r++[c])=10*dv r+(c.toNat-48):=qqG r 0 c;have h9:c.toNat-48<10:=by have:=hc.2;omega
  rw[e,qrj (by omega),show(10*dv r+(c.toNat-48)) / 10=dv r by omega,show(10*dv r+(c.toNat-48)) % 10=c.toNat-48 by omega,qrk hc,qr6 n r hr hrd (fun _=>hh)]
theorem qFw {u:Nat}(h:u<10):isDg (UInt8.ofNat (48+u)):=by
 unfold isDg;have:(UInt8.ofNat (48+u)).toNat=48+u:=by rw[UInt8.toNat_ofNat',Nat.mod_eq_of_lt (by omega)]
 omega
theorem qEU:∀ (n u:Nat),u<10 ^ (n+1)→∀ c∈Lib.decDigits u,isDg c
 |0,u,h=>by
  intro c hc;rw[qqh (by simpa using h)]at hc;have:u<10:=by simpa using h
  have hc:=aV.1 hc;rw[hc];exact qFw this
 |n+1,u,h=>by
  intro c hc;by_cases hu:u<10
  · exact qEU 0 u (by simpa using hu) c hc
  · rw[qrj hu]at hc;rcases List.mem_append.1 hc with hc|hc
    · exact qEU n (u / 10) (by rw[Nat.pow_succ]at h;omega) c hc
    · have hc:=aV.1 hc;rw[hc];exact qFw (Nat.mod_lt _ (by omega))
theorem qFu (u:Nat):Lib.decDigits u≠[]:=by
 by_cases h:u<10
 · rw[qqh h];simp
 · rw[qrj h];simp
def decS (u:Nat):ByteArray:=⟨(Lib.decDigits u).toArray⟩
def qra (n:Int):ByteArray:=⟨(Lib.itoa n).toArray⟩
theorem qo2 {a b:ByteArray}(h:a.data.toList=b.data.toList):a=b:=ByteArray.ext (Array.ext' h)
theorem YO (a b:ByteArray):(a++b).data.toList=a.data.toList++b.data.toList:=by rw[ByteArray.data_append,Array.toList_append]
theorem qko {s:ByteArray}(h:∀ i,i<s.size→isDi (bAt s i)=true):∀ c∈s.data.toList,isDg c:=by
 intro c hc;obtain⟨i,hi,rfl⟩:=List.getElem_of_mem hc;have hi':i<s.size:=by rw[← qD];exact hi
 have:=h i hi';unfold bAt at this;rw[List.getD_eq_getElem?_getD,ax hi,Option.getD_some]at this;simp only[isDi,aC,aX]at this;unfold isDg;omega
section
variable [vo]
theorem Xn {s:ByteArray}(h:∀ i,i<s.size→isDi (bAt s i)=true)(h1:1≤s.size)(h2:s.size≤4000):
  qag s=some (if dv s.data.toList<2 ^ 63 then some (dv s.data.toList:Int)else none):=by
 have hne:s.data.toList≠[]:=by intro e;have:=qD s;rw[e]at this;simp at this;omega
 unfold qag;rw[aD (by omega),qdz hne (qko h)];by_cases hv:dv s.data.toList<2 ^ 63
 · rw[aD hv,aD hv]
 · rw[aF hv,aF hv]
end
theorem qqS {s:ByteArray}(h1:1≤s.size):s.data.toList.head? = some (UInt8.ofNat (bAt s 0).toNat):=by rw[List.head?_eq_getElem?];exact qhT h1
theorem qrt {s:ByteArray}(h1:1≤s.size)(h:bAt s 0≠48):s.data.toList.head?≠some 48:=by
 rw[qqS h1];intro e;apply h;have e2:(UInt8.ofNat (bAt s 0).toNat).toNat=(48:UInt8).toNat:=by rw[aR e]
 rw[UInt8.toNat_ofNat',Nat.mod_eq_of_lt (by have:=qr2 s 0;have:=qj3 s 0;omega)]at e2;have:(48:UInt8).toNat=48:=rfl;have:=qj3 s 0;omega
def pre (s:ByteArray)(i:Nat):Nat:=dv (s.data.toList.take i)
structure Tk where
 kind:Int
 text:ByteArray
 n:Int
 scale:Int
def behN (s:ByteArray)(e:Nat):Nat:=if e<s.size∧bAt s e=46 then stop isDi s (e+1)-(e+1)else 0
def Zt (s:ByteArray)(p:Nat):Option (Tk×Nat):=
 if 1<stop isDi s p-p∧bAt s p=48 then none
 else if behN s (stop isDi s p)=0 then
  (if dv (s.extract p (stop isDi s p)).data.toList<2 ^ 63 then some (⟨3,strB [],(dv (s.extract p (stop isDi s p)).data.toList:Int),0⟩,stop isDi s p)else none)
 else if 15<(stop isDi s p-p)+behN s (stop isDi s p)then none
 else some (⟨4,strB [],(dv (s.extract p (stop isDi s p)++s.extract (stop isDi s p+1) (stop isDi s p+1+behN s (stop isDi s p))).data.toList:Int),(behN s (stop isDi s p):Int)⟩,stop isDi s p+1+behN s (stop isDi s p))
theorem qhx {s:ByteArray}{e:Nat}(h:e≤s.size):behN s e=0∨e+1+behN s e≤s.size:=by
 unfold behN;split
 · rename_i hh;have:=yQ (f:=isDi) (show e+1≤s.size by omega);have:=zC isDi s (e+1);right;omega
 · exact .inl rfl
theorem qiF {s:ByteArray}{p e:Nat}(he:e≤s.size)(h:∀ i,p≤i→i<e→isDi (bAt s i)=true):∀ i,i<(s.extract p e).size→isDi (bAt (s.extract p e) i)=true:=by intro i hi;rw[size_ext s p e he]at hi;rw[Qz he hi];exact h _ (by omega) (by omega)
theorem qkR (s:ByteArray)(p:Nat)(hp:p≤s.size):∀ i,i<(s.extract p (stop isDi s p)).size→isDi (bAt (s.extract p (stop isDi s p)) i)=true:=qiF (yQ hp) (fun i h1 h2=>Qj h1 h2)
theorem qkO {s:ByteArray}{e:Nat}(h:e≤s.size):∀ i,i<(s.extract (e+1) (e+1+behN s e)).size→isDi (bAt (s.extract (e+1) (e+1+behN s e)) i)=true:=by
 rcases qhx h with h0|h0
 · intro i hi;rw[h0,ByteArray.size_extract]at hi;omega
 ·
  refine qiF h0 fun i h1 h2=>?_;unfold behN at h2;split at h2
  · have:=zC isDi s (e+1);exact Qj h1 (by omega)
  · omega
theorem qlo {a b:ByteArray}(ha:∀ i,i<a.size→isDi (bAt a i)=true)(hb:∀ i,i<b.size→isDi (bAt b i)=true):∀ i,i<(a++b).size→isDi (bAt (a++b) i)=true:=by
 intro i hi;rw[ByteArray.size_append]at hi;unfold bAt;rw[YO,List.getD_eq_getElem?_getD];by_cases h:i<a.size
 · rw[aY (by rw[qD];exact h)];have:=ha i h;unfold bAt at this;rwa [List.getD_eq_getElem?_getD]at this
 · rw[aZ (by rw[qD];omega),qD];have:=hb (i-a.size) (by omega);unfold bAt at this;rwa [List.getD_eq_getElem?_getD]at this
theorem qid (b:ByteArray):(b.toList==(strB []).toList)=decide (b.size=0):=by
 by_cases h:b.size=0
 · have:b=strB []:=qcK (by rw[h];rfl) (fun i hi=>by omega);rw[aO h,this];exact beq_self_eq_true _
 · rw[aN h,beq_eq_false_iff_ne];intro e;apply h;rw[toList_inj e];rfl
theorem qgP {s:ByteArray}{p:Nat}(hp:p<s.size)(hd:isDi (bAt s p)=true):p+1≤stop isDi s p:=by rw[qo9 hp hd];exact zC _ _ _
def behS (s:ByteArray)(e:Nat):ByteArray:=if e<s.size∧bAt s e=46 then s.extract (e+1) (stop isDi s (e+1))else strB []
theorem qh3 {s:ByteArray}{e:Nat}(h:e≤s.size):(behS s e).size=behN s e:=by
 unfold behS behN;split
 · rename_i hh;rw[size_ext _ _ _ (yQ (show e+1≤s.size by omega))]
 · rfl
theorem qiX {s:ByteArray}{e:Nat}(h:e≤s.size)(h0:behN s e≠0):behS s e=s.extract (e+1) (e+1+behN s e):=by
 unfold behS behN at *;split
 · rename_i hh;congr 1;have:=zC isDi s (e+1);omega
 · rename_i hh;rw[aF hh]at h0;exact absurd rfl h0
section
variable [vo]
theorem qEd {s:ByteArray}{p:Nat}(hs:s.size≤4000)(hp:p<s.size)(hd:isDi (bAt s p)=true):
  ∃ z:Int,Tot (fun k=>g58 k s (p:Int)) (match Zt s p with
   |some (t,e)=>.inr (t.kind,t.text,t.n,t.scale,(p:Int),(e:Int))
   |none=>.inl ((p:Int),z)):=by
 obtain⟨e,he⟩:∃ e,e=stop isDi s p:=⟨_,rfl⟩
 have he1:e≤s.size:=by rw[he];exact yQ (Nat.le_of_lt hp)
 have he2:p+1≤e:=by rw[he];exact qgP hp hd
 have hds:(s.extract p e).size=e-p:=size_ext s p e he1;have hdd:∀ i,i<(s.extract p e).size→isDi (bAt (s.extract p e) i)=true:=by rw[he];exact qkR s p (Nat.le_of_lt hp)
 have hw:IntKind.i64.wrap ((p:Int)+((s.extract p e).size:Int))=(e:Int):=by rw[hds];exact qes (by omega) (by omega)
 have hb0:bAt (s.extract p e) 0=bAt s p:=Qz he1 (by omega);have hbl:=qhx he1;have hbs:=qh3 he1
 -- the end,from h1 on
 have fin:∃ z:Int,Goes qxN (.h1 (p:Int) (s.extract p e) (behS s e) 0 (strB []) 0 0 0 s (e:Int)) (match Zt s p with
   |some (t,e)=>.inr (t.kind,t.text,t.n,t.scale,(p:Int),(e:Int))
   |none=>.inl ((p:Int),z)):=by
  refine⟨(e:Int),?_⟩;have h2:∀ t r,Goes qxN (.h2 (p:Int) (s.extract p e) (behS s e) t 0 (strB []) 0 0 0 s (e:Int)) r→t=decide (1<e-p∧bAt s p=48)→Goes qxN (.h1 (p:Int) (s.extract p e) (behS s e) 0 (strB []) 0 0 0 s (e:Int)) r:=by
   intro t r hr ht;refine Goes.rec0 hr fun k rec=>?_;by_cases h1:1<e-p
   · simp only[qxN,show decide (((s.extract p e).size:Int)>1)=true from aO (by omega),ah,qol (show 0<(s.extract p e).size by omega),hb0,ht];congr 2;by_cases h48:bAt s p=48<;>simp[h1,h48]
   · simp only[qxN,show decide (((s.extract p e).size:Int)>1)=false from aN (by omega),af,ht];simp[h1]
  unfold Zt;rw[← he];by_cases h48:1<e-p∧bAt s p=48
  · rw[aD h48];refine h2 true _ (.fin0 fun k rec=>?_) (aO h48).symm;simp only[qxN,ah]
  ·
   rw[aF h48];refine h2 false _ ?_ (aN h48).symm;by_cases hm:behN s e=0
   · rw[aD hm];have hpr:=Xn hdd (by omega) (by omega);have en:((behS s e).toList==(strB []).toList)=true:=by rw[qid,hbs];exact aO hm
     refine .fin0 fun k rec=>?_;simp only[qxN,af,en,ah,hpr,ae];by_cases hv:dv (s.extract p e).data.toList<2 ^ 63
     · rw[aD hv,aD hv];rfl
     · rw[aF hv,aF hv];rfl
   ·
    rw[aF hm];have en:((behS s e).toList==(strB []).toList)=false:=by rw[qid,hbs];exact aN hm
    have hle:e+1+behN s e≤s.size:=by rcases hbl with h|h<;>omega
    have hw2:IntKind.i64.wrap (((s.extract p e).size:Int)+((behS s e).size:Int))=(((e-p)+behN s e:Nat):Int):=qes (by rw[hds,hbs];omega) (by omega);by_cases h15:15<(e-p)+behN s e
    · rw[aD h15];refine .fin0 fun k rec=>?_;simp only[qxN,af,en,hw2,show decide ((((e-p)+behN s e:Nat):Int)>15)=true from aO (by omega),ah]
    · rw[aF h15];have hbx:=qiX he1 hm;have hall:∀ i,i<(s.extract p e++behS s e).size→isDi (bAt (s.extract p e++behS s e) i)=true:=qlo hdd (by rw[hbx];exact qkO he1);have hsz:(s.extract p e++behS s e).size=(e-p)+behN s e:=by rw[ByteArray.size_append,hds,hbs]
      have hpr:=Xn hall (by omega) (by omega);have hlt:dv (s.extract p e++behS s e).data.toList<2 ^ 63:=by have h1:=qnu (qko hall);rw[qD,hsz]at h1;have h2:10 ^ ((e-p)+behN s e)≤10 ^ 15:=Nat.pow_le_pow_right (by omega) (by omega);omega
      rw[aD hlt]at hpr;refine .fin0 fun k rec=>?_;simp only[qxN,af,en,hw2,show decide ((((e-p)+behN s e:Nat):Int)>15)=false from aN (by omega),
       show decide ((s.extract p e).size+(behS s e).size≤1000000000)=true from aO (by omega),ZW,hpr,ae,optC]
      rw[hbs,← hbx];have w1:IntKind.i64.wrap ((1:Int)+(behN s e:Int))=((1+behN s e:Nat):Int):=qes (by omega) (by omega);rw[w1,qk7 e (1+behN s e) (by omega),Nat.add_assoc]
 obtain⟨z,hz⟩:=fin;refine⟨z,?_⟩;generalize (match Zt s p with
   |some (t,e)=>(.inr (t.kind,t.text,t.n,t.scale,(p:Int),(e:Int)):R58)
   |none=>.inl ((p:Int),z))=r at hz ⊢
 -- to h1
 have h0:Goes qxN (.h0 (p:Int) (s.extract p e) (strB []) (decide (e<s.size∧bAt s e=46)) 0 (strB []) 0 0 0 s (e:Int)) r:=by
  by_cases hc:e<s.size∧bAt s e=46
  · have hb:behS s e=s.extract (e+1) (stop isDi s (e+1)):=aD hc;rw[hb]at hz;refine Goes.call (qsd (s:=s) (p:=e+1) (q:=(e:Int)) hs (by omega)) hz fun k rec e1=>?_;simp only[qxN,aO hc,ah,zq e (by omega),e1,ae]
  · have hb:behS s e=strB []:=aF hc;rw[hb]at hz;refine Goes.rec0 hz fun k rec=>?_;simp only[qxN,aN hc,af]
 refine Goes.call (step:=qxN) (s:=.e s (p:Int)) (qsd (s:=s) (p:=p) (q:=(p:Int)) hs (Nat.le_of_lt hp)) h0 fun k rec e1=>?_;rw[← he]at e1;simp only[qxN,e1,ae,hw];by_cases hc:e<s.size
 · simp only[ltT hc,ah,yw hc];congr 2;by_cases h46:bAt s e=46<;>simp[hc,h46]
 · simp only[ltF hc,af];congr 2;simp[hc]
end
def twoB (s:ByteArray)(p:Nat):Bool:=decide (p+1<s.size)&&bAt s (p+1)==61
def isSg (c:Int):Bool:=c==40||(c==41||(c==44||(c==46||(c==43||(c==45||(c==42||(c==47||(c==37||(c==61||c==124)))))))))
def vR (s:ByteArray)(p:Nat):Nat:=if bAt s p=33∨bAt s p=60∨bAt s p=62 then(if twoB s p then 2 else 1)else if isSg (bAt s p)then 1 else 0
def qav (s:ByteArray)(p:Nat):Option (Tk×Nat):=if vR s p=0 then none else some (⟨6,s.extract p (p+vR s p),0,0⟩,p+vR s p)
def qd6 (s:ByteArray)(p:Nat):Option (Tk×Nat):=
 if YH (s.extract p (stop isNm s p))then some (⟨1,s.extract p (stop isNm s p),0,0⟩,stop isNm s p)
 else if nmOk (s.extract p (stop isNm s p))then some (⟨2,s.extract p (stop isNm s p),0,0⟩,stop isNm s p)else none
def qdt (s:ByteArray)(p:Nat):Option (Tk×Nat):=if nmOk (s.extract (p+1) (stop isNm s (p+1)))=true∧stop isNm s (p+1)<s.size∧bAt s (stop isNm s (p+1))=39 then some (⟨5,s.extract (p+1) (stop isNm s (p+1)),0,0⟩,stop isNm s (p+1)+1)else none
def tok (s:ByteArray)(p:Nat):Option (Tk×Nat):=if isLe (bAt s p)then qd6 s p else if isDi (bAt s p)then Zt s p else if bAt s p=39 then qdt s p else qav s p
theorem qkt (s:ByteArray)(p:Nat)(hp:p≤s.size):∀ i,i<(s.extract p (stop isNm s p)).size→isNm (bAt (s.extract p (stop isNm s p)) i)=true:=by intro i hi;have he:=yQ (f:=isNm) hp;rw[size_ext s _ _ he]at hi;rw[Qz he hi];exact Qj (p:=p) (i:=p+i) (by omega) (by omega)
section
variable [vo]
theorem qEc {s:ByteArray}{p:Nat}(hs:s.size≤4000)(hp:p<s.size):Tot (fun k=>g56 k s (p:Int)) (match qd6 s p with
   |some (t,e)=>.inl (t.kind,t.text,t.n,t.scale,(p:Int),(e:Int))
   |none=>.inr ((p:Int),(stop isNm s p:Int))):=by
 obtain⟨e,he⟩:∃ e,e=stop isNm s p:=⟨_,rfl⟩
 have he1:e≤s.size:=by rw[he];exact yQ (Nat.le_of_lt hp)
 have hge:=zC isNm s p;have hsz:(s.extract p e).size=e-p:=size_ext s p e he1;have hw:IntKind.i64.wrap ((p:Int)+((s.extract p e).size:Int))=(e:Int):=by rw[hsz];exact qes (by omega) (by omega)
 have hnm:qcL (s.extract p e)=nmOk (s.extract p e):=qe0 (by rw[he];exact qkt s p (Nat.le_of_lt hp));unfold qd6;rw[← he];refine Goes.done2 (step:=qsv) (s:=.e s (p:Int)) (qC7 (s:=s) (p:=p) (q:=(p:Int)) hs (Nat.le_of_lt hp)) (qty (s.extract p e)) fun k rec e1 e2=>?_;rw[← he]at e1;simp only[qsv,e1,ae,e2,hw,YF,hnm];cases hwd:YH (s.extract p e)with
 |true=>simp
 |false=>
  cases hn:nmOk (s.extract p e)with
  |true=>simp
  |false=>simp
theorem qEe {s:ByteArray}{p:Nat}(hs:s.size≤4000)(hp:p<s.size):Tot (fun k=>g59 k s (p:Int)) (match qdt s p with
   |some (t,e)=>.inr (t.kind,t.text,t.n,t.scale,(p:Int),(e:Int))
   |none=>.inl ((p:Int),(p:Int))):=by
 obtain⟨e,he⟩:∃ e,e=stop isNm s (p+1):=⟨_,rfl⟩
 have he1:e≤s.size:=by rw[he];exact yQ (by omega)
 have hge:=zC isNm s (p+1);have hsz:(s.extract (p+1) e).size=e-(p+1):=size_ext s (p+1) e he1;have hw:IntKind.i64.wrap (((p+1:Nat):Int)+((s.extract (p+1) e).size:Int))=(e:Int):=by rw[hsz];exact qes (by omega) (by omega)
 have hnm:qcL (s.extract (p+1) e)=nmOk (s.extract (p+1) e):=qe0 (by rw[he];exact qkt s (p+1) (by omega));unfold qdt;rw[← he];have no:Goes qxO (.h0 (p:Int) (s.extract (p+1) e) (e:Int) true 0 (strB []) 0 0 0 s (p:Int)) (.inl ((p:Int),(p:Int))):=.fin0 fun k rec=>by simp only[qxO,ah]
 have yes:Goes qxO (.h0 (p:Int) (s.extract (p+1) e) (e:Int) false 0 (strB []) 0 0 0 s (p:Int)) (.inr (5,s.extract (p+1) e,0,0,(p:Int),((e+1:Nat):Int))):=.fin0 fun k rec=>by simp only[qxO,af,zq e (by omega)]
 have hg:=qC7 (s:=s) (p:=p+1) (q:=(p:Int)) hs (by omega);rw[← he]at hg;have hw1:=zq p (by omega);cases hn:nmOk (s.extract (p+1) e)with
 |false=>rw[aF (by simp)];refine Goes.call (step:=qxO) (s:=.e s (p:Int)) hg no fun k rec e1=>?_;simp only[qxO,hw1,e1,ae,YF,hnm,hn,ak,ah,hw]
 |true=>
  by_cases hc:e<s.size
  ·
   have hne:((e:Int)==(s.size:Int))=false:=by rw[beq_eq_false_iff_ne];omega
   by_cases h39:bAt s e=39
   · rw[aD ⟨rfl,hc,h39⟩];refine Goes.call (step:=qxO) (s:=.e s (p:Int)) hg yes fun k rec e1=>?_;simp only[qxO,hw1,e1,ae,YF,hnm,hn,aj,af,hw,hne,yw hc];rw[show(bAt s e != 39)=false from by simpa using h39]
   · rw[aF (fun h=>h39 h.2.2)];refine Goes.call (step:=qxO) (s:=.e s (p:Int)) hg no fun k rec e1=>?_;simp only[qxO,hw1,e1,ae,YF,hnm,hn,aj,af,hw,hne,yw hc];rw[show(bAt s e != 39)=true from by simpa using h39]
  · rw[aF (fun h=>hc h.2.1)];have hne:((e:Int)==(s.size:Int))=true:=by rw[beq_iff_eq];omega
    refine Goes.call (step:=qxO) (s:=.e s (p:Int)) hg no fun k rec e1=>?_;simp only[qxO,hw1,e1,ae,YF,hnm,hn,aj,af,hw,hne,ah]
theorem ql8 {a b:Bool}{A N:Int}{S:ByteArray}(rec:S60→Option R60):(bif a then rec (.h2 A N true 0 (strB []) 0 0 0 S A)else rec (.h2 A N b 0 (strB []) 0 0 0 S A))=rec (.h2 A N (a||b) 0 (strB []) 0 0 0 S A):=by cases a<;>rfl
theorem qiE {s:ByteArray}{p:Nat}(hs:s.size≤4000)(hp:p<s.size):Tot (fun k=>g60 k s (p:Int)) (match qav s p with
   |some (t,e)=>.inl (t.kind,t.text,t.n,t.scale,(p:Int),(e:Int))
   |none=>.inr ((p:Int),(p:Int))):=by
 have end3:∀ n:Nat,p+n≤s.size→Goes Zz (.h3 (p:Int) (n:Int) 0 (strB []) 0 0 0 s (p:Int)) (.inl (6,s.extract p (p+n),0,0,(p:Int),((p+n:Nat):Int))):=fun n hn=>.fin0 fun k rec=>by simp only[Zz,qk7 p n (by omega),bnds (show p≤p+n by omega) hn,ZW,qc0]
 have one:=end3 1 (by omega);have h2:∀ b,Goes Zz (.h2 (p:Int) 1 b 0 (strB []) 0 0 0 s (p:Int)) (if b then .inl (6,s.extract p (p+1),0,0,(p:Int),((p+1:Nat):Int))else .inr ((p:Int),(p:Int))):=by
  intro b;cases b with
  |true=>exact Goes.rec0 one fun k rec=>by simp only[Zz,ah];rfl
  |false=>exact .fin0 fun k rec=>by simp only[Zz,af];rfl
 unfold qav;by_cases hc:bAt s p=33∨bAt s p=60∨bAt s p=62
 ·
  have hlen:vR s p=if twoB s p then 2 else 1:=aD hc
  have h0:Goes Zz (.h0 (p:Int) 1 (bAt s p) true 0 (strB []) 0 0 0 s (p:Int)) (.inl (6,s.extract p (p+vR s p),0,0,(p:Int),((p+vR s p:Nat):Int))):=by
   have h1f:Goes Zz (.h1 (p:Int) 1 false 0 (strB []) 0 0 0 s (p:Int)) (.inl (6,s.extract p (p+1),0,0,(p:Int),((p+1:Nat):Int))):=Goes.rec0 one fun k rec=>by simp only[Zz,af];rfl
   by_cases hn:p+1<s.size
   ·
    have h1t:Goes Zz (.h1 (p:Int) 1 true 0 (strB []) 0 0 0 s (p:Int)) (.inl (6,s.extract p (p+2),0,0,(p:Int),((p+2:Nat):Int))):=Goes.rec0 (end3 2 (by omega)) fun k rec=>by simp only[Zz,ah];rfl
    cases h61:(bAt s (p+1)==61)with
    |true=>
     have ht:twoB s p=true:=by unfold twoB;rw[h61,aO hn];rfl
     rw[hlen,aD ht];refine Goes.rec0 h1t fun k rec=>?_;simp only[Zz,ah,zq p (by omega),ltT hn,yw hn,h61]
    |false=>
     have ht:twoB s p=false:=by unfold twoB;rw[h61,Bool.and_false]
     rw[hlen,ht];refine Goes.rec0 h1f fun k rec=>?_;simp only[Zz,ah,zq p (by omega),ltT hn,yw hn,h61]
   · have ht:twoB s p=false:=by unfold twoB;rw[aN hn];rfl
     rw[hlen,ht];refine Goes.rec0 h1f fun k rec=>?_;simp only[Zz,ah,zq p (by omega),ltF hn,af]
  have hl0:vR s p≠0:=by rw[hlen];split<;>omega
  rw[aF hl0];refine Goes.rec0 (step:=Zz) (s:=.e s (p:Int)) h0 fun k rec=>?_;simp only[Zz,yw hp];rcases hc with h|h|h<;>rw[h]<;>rfl
 ·
  have hlen:vR s p=if isSg (bAt s p)then 1 else 0:=aF hc
  have n33:(bAt s p==33)=false:=by rw[beq_eq_false_iff_ne];exact fun h=>hc (.inl h)
  have n60:(bAt s p==60)=false:=by rw[beq_eq_false_iff_ne];exact fun h=>hc (.inr (.inl h))
  have n62:(bAt s p==62)=false:=by rw[beq_eq_false_iff_ne];exact fun h=>hc (.inr (.inr h))
  have h0:Goes Zz (.h0 (p:Int) 1 (bAt s p) false 0 (strB []) 0 0 0 s (p:Int)) (if isSg (bAt s p)then .inl (6,s.extract p (p+1),0,0,(p:Int),((p+1:Nat):Int))else .inr ((p:Int),(p:Int))):=by refine Goes.rec0 (h2 (isSg (bAt s p))) fun k rec=>?_;simp only[Zz,af,ql8];rfl
  have key:=Goes.rec0 (step:=Zz) (s:=.e s (p:Int)) h0 fun k rec=>by simp only[Zz,yw hp,n33,n60,n62,af]
  rw[hlen];cases hg:isSg (bAt s p)with
  |true=>rw[hg]at key;exact key
  |false=>rw[hg]at key;exact key
end
theorem qeR {s:ByteArray}{p:Nat}(hp:p<s.size){t:Tk}{e:Nat}(h:tok s p=some (t,e)):p<e∧e≤s.size:=by
 unfold tok at h;split at h
 ·
  rename_i hl;have hn:isNm (bAt s p)=true:=by unfold isNm;rw[hl];rfl
  have h1:p+1≤stop isNm s p:=by rw[qo9 hp hn];exact zC _ _ _
  have h2:=yQ (f:=isNm) (Nat.le_of_lt hp);unfold qd6 at h;split at h
  · cases h;exact⟨h1,h2⟩
  · split at h
    · cases h;exact⟨h1,h2⟩
    · cases h
 ·
  split at h
  ·
   rename_i hd;have h1:=qgP hp hd;have h2:=yQ (f:=isDi) (Nat.le_of_lt hp);have h3:=qhx h2;unfold Zt at h;split at h
   · cases h
   ·
    split at h
    · split at h
      · cases h;exact⟨h1,h2⟩
      · cases h
    ·
     rename_i hm;split at h
     · cases h
     · cases h;rcases h3 with h3|h3
       · exact absurd h3 hm
       · exact⟨by omega,h3⟩
  ·
   split at h
   · unfold qdt at h;split at h
     · rename_i hh;cases h;have:=zC isNm s (p+1);exact⟨by omega,hh.2.1⟩
     · cases h
   ·
    unfold qav at h;split at h
    · cases h
    ·
     rename_i h0;cases h;have h1:p+vR s p≤s.size:=by
      unfold vR at *;split
      · rename_i hc;rw[aD hc]at h0;split
        · rename_i h2;unfold twoB at h2;rw[aC,aX]at h2;omega
        · omega
      · split<;>omega
     exact⟨by omega,h1⟩
section
variable [vo]
def qcS (s:ByteArray)(p:Nat)(z:Int):R40:=
 if stop isBl s p=s.size then .inl (0,strB [],0,0,(s.size:Int),(s.size:Int))
 else match tok s (stop isBl s p)with
  |some (t,e)=>.inl (t.kind,t.text,t.n,t.scale,(stop isBl s p:Int),(e:Int))
  |none=>.inr ((stop isBl s p:Int),z)
theorem qB0 {s:ByteArray}{q:Nat}(hs:s.size≤4000)(hq:q≤s.size)(hb:q<s.size→isBl (bAt s q)=false):∃ z,Goes qjX (.h1 false 0 (strB []) 0 0 0 s (q:Int)) (qcS s q z):=by
 have hst:stop isBl s q=q:=zk hb;unfold qcS;rw[hst];by_cases he:q=s.size
 · refine⟨0,?_⟩;rw[aD he];refine .fin0 fun k rec=>?_;subst he;simp only[qjX,af,beq_self_eq_true,ah]
 ·
  have hp:q<s.size:=by omega
  have hne:((q:Int)==(s.size:Int))=false:=by rw[beq_eq_false_iff_ne];omega
  simp only[aF he];obtain⟨N1,h1⟩:=qB6 (bAt s q);obtain⟨N2,h2⟩:=qA5 (bAt s q);unfold tok;cases hl:isLe (bAt s q)with
  |true=>
   refine⟨(stop isNm s q:Int),?_⟩;rw[aD rfl];obtain⟨N3,h3⟩:=qEc hs hp;refine .fin ⟨N1+N2+N3,fun k hk rec=>?_⟩;have h1:=h1 k (by omega);have h3:=h3 k (by omega);rw[hl]at h1;simp only at h1 h3;simp only[qjX,af,hne,yw hp,h1,ae,ah,h3];cases qd6 s q with
   |none=>rfl
   |some x=>obtain⟨t,e⟩:=x;rfl
  |false=>
   rw[aF (by simp)];cases hd:isDi (bAt s q)with
   |true=>
    rw[aD rfl];obtain⟨z,N3,h3⟩:=qEd hs hp hd;refine⟨z,.fin ⟨N1+N2+N3,fun k hk rec=>?_⟩⟩;have h1:=h1 k (by omega);have h2:=h2 k (by omega);have h3:=h3 k (by omega);rw[hl]at h1;rw[hd]at h2;simp only at h1 h2 h3;simp only[qjX,af,hne,yw hp,h1,h2,ae,ah,h3];cases Zt s q with
    |none=>rfl
    |some x=>obtain⟨t,e⟩:=x;rfl
   |false=>
    rw[aF (by simp)];by_cases h39:bAt s q=39
    · rw[aD h39];obtain⟨N3,h3⟩:=qEe hs hp;refine⟨(q:Int),.fin ⟨N1+N2+N3,fun k hk rec=>?_⟩⟩;have h1:=h1 k (by omega);have h2:=h2 k (by omega);have h3:=h3 k (by omega);rw[hl]at h1;rw[hd]at h2;simp only at h1 h2 h3;simp only[qjX,af,hne,yw hp,h1,h2,ae,show(bAt s q==39)=true from beq_iff_eq.2 h39,ah,h3];cases qdt s q with
      |none=>rfl
      |some x=>obtain⟨t,e⟩:=x;rfl
    · rw[aF h39];obtain⟨N3,h3⟩:=qiE hs hp;refine⟨(q:Int),.fin ⟨N1+N2+N3,fun k hk rec=>?_⟩⟩;have h1:=h1 k (by omega);have h2:=h2 k (by omega);have h3:=h3 k (by omega);rw[hl]at h1;rw[hd]at h2;simp only at h1 h2 h3;simp only[qjX,af,hne,yw hp,h1,h2,ae,show(bAt s q==39)=false from beq_eq_false_iff_ne.2 h39,h3];cases qav s q with
      |none=>rfl
      |some x=>obtain⟨t,e⟩:=x;rfl
theorem qjv {s:ByteArray}{p:Nat}{z:Int}(hp:p<s.size)(hb:isBl (bAt s p)=true):qcS s p z=qcS s (p+1) z:=by unfold qcS;rw[qo9 hp hb]
theorem qqO {s:ByteArray}(hs:s.size≤4000):∀ (n p:Nat),s.size-p≤n→p≤s.size→∃ z,Goes qjX (.h0 0 (strB []) 0 0 0 s (p:Int)) (qcS s p z)
 |0,p,h1,h2=>by obtain⟨z,hz⟩:=qB0 hs h2 (fun h=>by omega);exact⟨z,Goes.rec0 hz fun k rec=>by simp only[qjX,ltF (show ¬ p<s.size by omega),af]⟩
 |n+1,p,h1,h2=>by
  by_cases hp:p<s.size
  ·
   cases hb:isBl (bAt s p)with
   |true=>
    obtain⟨z,hz⟩:=qqO hs n (p+1) (by omega) (by omega);rw[← qjv hp hb]at hz;have h3:Goes qjX (.h1 true 0 (strB []) 0 0 0 s (p:Int)) (qcS s p z):=Goes.rec0 hz fun k rec=>by simp only[qjX,ah,zq p (by omega)]
    exact⟨z,Goes.call (qC6 (bAt s p)) h3 fun k rec e=>by simp only[qjX,ltT hp,ah,yw hp,e,hb,ae]⟩
   |false=>obtain⟨z,hz⟩:=qB0 hs h2 (fun _=>hb);exact⟨z,Goes.call (qC6 (bAt s p)) hz fun k rec e=>by simp only[qjX,ltT hp,ah,yw hp,e,hb,ae]⟩
  · obtain⟨z,hz⟩:=qB0 hs h2 (fun h=>absurd h hp);exact⟨z,Goes.rec0 hz fun k rec=>by simp only[qjX,ltF hp,af]⟩
theorem qsa {s:ByteArray}{p:Nat}(hs:s.size≤4000)(hp:p≤s.size):∃ z,Tot (fun k=>g40 k s (p:Int)) (qcS s p z):=by obtain⟨z,hz⟩:=qqO hs _ p (Nat.le_refl _) hp;exact⟨z,Goes.rec0 (step:=qjX) (s:=.e s (p:Int)) hz fun k rec=>rfl⟩
end
def qiY (t:Tk)(p:Nat):List Cell:=[ic t.kind,sc t.text,ic t.n,ic t.scale,ic (p:Int)]
def qhe (p:Nat):List Cell:=[ic 0,sc (strB []),ic 0,ic 0,ic (p:Int)]
def qcV (s:ByteArray):Nat→Nat→Rs⊕Nat
 |0,p=>.inr p
 |n+1,p=>if stop isBl s p=s.size then .inl [qhe s.size]else match tok s (stop isBl s p)with
  |some (t,e)=>(match qcV s n e with
   |.inl l=>.inl (qiY t (stop isBl s p)::l)
   |.inr z=>.inr z)
  |none=>.inr (stop isBl s p)
section
variable [vo]
theorem ql4 {acc:Rs}{row:List Cell}(h1:acc.length≤5000)(h2:row.length=5):apOk 48 5 acc [row]=true:=by unfold apOk;simp[h2,lim];omega
def qAd (acc:Rs):Rs⊕Nat→R19
 |.inl l=>.inl (qG (acc++l),0,0)
 |.inr z=>.inr ((z:Int),12)
theorem qBt {s:ByteArray}(hs:s.size≤4000):∀ (n p:Nat) (acc:Rs),s.size-p<n→p≤s.size→acc.length≤p→Goes qxJ (.h1 s (p:Int) 0 0 acc) (qAd acc (qcV s n p))
 |0,p,acc,h,_,_=>by omega
 |n+1,p,acc,h1,h2,h3=>by
  obtain⟨z,hz⟩:=qsa (s:=s) (p:=p) hs h2;unfold qcS at hz;have hq:=zC isBl s p;have hq2:=yQ (f:=isBl) h2;unfold qcV;by_cases he:stop isBl s p=s.size
  · rw[aD he]at hz ⊢;have h4:Goes qxJ (.h2 0 0 (qG (acc++[qhe s.size]))) (qAd acc (.inl [qhe s.size])):=.fin0 fun k rec=>rfl;refine Goes.call hz h4 fun k rec e=>?_;simp only[qxJ,e,ae,altC,tup6,ql4 (show acc.length≤5000 by omega) (show [ic 0,sc (strB []),ic 0,ic 0,ic (s.size:Int)].length=5 from rfl),ZW,show((0:Int)==0)=true from rfl,ah];rfl
  ·
   rw[aF he]at hz ⊢;have hp:stop isBl s p<s.size:=by omega
   cases ht:tok s (stop isBl s p)with
   |none=>rw[ht]at hz;refine Goes.done hz fun k rec e=>?_;simp only[qxJ,e,ae,altC,tup2];rfl
   |some x=>
    obtain⟨t,e⟩:=x;rw[ht]at hz;have hend:=qeR hp ht;have hk:t.kind≠0:=by
     unfold tok qd6 Zt qdt qav at ht;intro hk
     repeat' split at ht
     all_goals first|(cases ht;done)|(cases ht;simp at hk)
    have ih:=qBt hs n e (acc++[qiY t (stop isBl s p)]) (by omega) hend.2 (by rw[List.length_append,List.length_singleton];omega);have e2:qAd (acc++[qiY t (stop isBl s p)]) (qcV s n e)=qAd acc (match qcV s n e with|.inl l=>.inl (qiY t (stop isBl s p)::l)|.inr z=>.inr z):=by
     cases qcV s n e with
     |inl l=>simp[qAd]
     |inr z=>rfl
    rw[e2]at ih;refine Goes.call hz ih fun k rec e=>?_;simp only[qxJ,e,ae,altC,tup6,ql4 (show acc.length≤5000 by omega) (show [ic t.kind,sc t.text,ic t.n,ic t.scale,ic (stop isBl s p:Int)].length=5 from rfl),ZW,beq_eq_false_iff_ne.2 hk,af];rfl
theorem qD1 {s:ByteArray}(hs:s.size≤4000):Tot (fun k=>g19 k s) (qAd [] (qcV s (s.size+1) 0)):=by have h:=qBt hs (s.size+1) 0 [] (by omega) (by omega) (Nat.le_refl _);refine Goes.rec0 (step:=qxJ) (s:=.e s) h fun k rec=>?_;simp only[qxJ,show decide ((s.size:Int)>4000)=false from aN (by omega),af];rfl
theorem qCF {s:ByteArray}(hs:¬ s.size≤4000):Tot (fun k=>g19 k s) (.inl ([],0,2)):=by have h:Goes qxJ (.h0 2 0 []) (.inl ([],0,2)):=.fin0 fun k rec=>rfl;refine Goes.rec0 (step:=qxJ) (s:=.e s) h fun k rec=>?_;simp only[qxJ,show decide ((s.size:Int)>4000)=true from aO (by omega),ah]
end
def isBr (c:Int):Bool:=isBl c||c==41
def Lik (s:ByteArray)(p:Nat)(u:ByteArray)(q n:Nat):Prop:=p+n≤s.size∧q+n≤u.size∧(∀ i,i<n→bAt u (q+i)=bAt s (p+i))∧(q+n<u.size→isBr (bAt u (q+n))=true)
theorem qej {c:Int}(h:isBr c=true):isNm c=false∧isDi c=false∧c≠46∧c≠61:=by
 unfold isBr isBl at h;have:c=32∨c=9∨c=10∨c=13∨c=41:=by simpa [Bool.or_eq_true,or_assoc]using h
 rcases this with rfl|rfl|rfl|rfl|rfl<;>exact⟨rfl,rfl,by omega,by omega⟩
theorem Xr {s u:ByteArray}{p q n:Nat}(h:Lik s p u q n){f:Int→Bool}(hf:∀ c,isBr c=true→f c=false){i e:Nat}(hs:stop f s (p+i)=p+e)(he:e≤n):stop f u (q+i)=q+e:=by
 obtain⟨h1,h2,h3,h4⟩:=h;have hg:=zC f s (p+i);refine qeN (by omega) (by omega) (fun j a b=>?_) (fun hlt=>?_)
 · have e1:=h3 (j-q) (by omega);rw[show q+(j-q)=j by omega]at e1;rw[e1];exact Qj (p:=p+i) (by omega) (by omega)
 ·
  by_cases hn:e<n
  · rw[h3 e hn,← hs];exact qeZ (by omega)
  · obtain rfl:e=n:=by omega
    exact hf _ (h4 hlt)
theorem Qt {s u:ByteArray}{p q n:Nat}(h:Lik s p u q n){i j:Nat}(hj:j≤n):u.extract (q+i) (q+j)=s.extract (p+i) (p+j):=by obtain⟨h1,h2,h3,h4⟩:=h;refine qcK (by rw[size_ext _ _ _ (by omega),size_ext _ _ _ (by omega)];omega) fun x hx=>?_;rw[size_ext _ _ _ (by omega)]at hx;rw[Qz (by omega) (by omega),Qz (by omega) (by omega),show q+i+x=q+(i+x)by omega,h3 _ (by omega),show p+(i+x)=p+i+x by omega]
theorem qiM {s u:ByteArray}{p q n m:Nat}(h:Lik s p u q n)(hm:m≤n)(hb:behN s (p+m)=0∨m+1+behN s (p+m)≤n):behN u (q+m)=behN s (p+m):=by
 have hl:=h;obtain⟨h1,h2,h3,h4⟩:=h;by_cases hmn:m<n
 ·
  have e1:=h3 m hmn;by_cases h46:bAt s (p+m)=46
  · obtain⟨d,hd⟩:∃ d,stop isDi s (p+(m+1))=p+d:=⟨stop isDi s (p+(m+1))-p,by have:=zC isDi s (p+(m+1));omega⟩
    have hg:=zC isDi s (p+(m+1));have hs:behN s (p+m)=d-(m+1):=by unfold behN;rw[aD ⟨by omega,h46⟩,show p+m+1=p+(m+1)by omega,hd];omega
    have hu:=Xr hl (f:=isDi) (fun c hc=>(qej hc).2.1) hd (by omega);rw[hs];unfold behN;rw[aD ⟨by omega,by rw[e1];exact h46⟩,show q+m+1=q+(m+1)by omega,hu];omega
  · have a1:¬ (q+m<u.size∧bAt u (q+m)=46):=fun x=>h46 (by rw[← e1];exact x.2);have a2:¬ (p+m<s.size∧bAt s (p+m)=46):=fun x=>h46 x.2;unfold behN;rw[aF a1,aF a2]
 ·
  obtain rfl:m=n:=by omega
  have h0:behN s (p+m)=0:=by omega
  rw[h0];unfold behN;exact aF fun x=>(qej (h4 x.1)).2.2.1 x.2
theorem ql2 {s u:ByteArray}{p q n:Nat}(h:Lik s p u q n)(hn:0<n){t:Tk}{e:Nat}(ht:Zt s p=some (t,e))(he:e≤p+n):Zt u q=some (t,e-p+q):=by
 have h0:bAt u q=bAt s p:=by have:=h.2.2.1 0 hn;simpa using this
 obtain⟨m,hm⟩:∃ m,stop isDi s p=p+m:=⟨stop isDi s p-p,by have:=zC isDi s p;omega⟩
 unfold Zt at ht ⊢;rw[hm]at ht;simp only[Nat.add_sub_cancel_left]at ht;by_cases hz:1<m∧bAt s p=48
 · rw[aD hz]at ht;cases ht
 ·
  rw[aF hz]at ht;by_cases hb0:behN s (p+m)=0
  ·
   rw[aD hb0]at ht;split at ht
   · rename_i hlt;cases ht;have hmn:m≤n:=by omega
     have hq:=Xr h (f:=isDi) (fun c hc=>(qej hc).2.1) (i:=0) (by simpa using hm) hmn;have hx:=Qt h (i:=0) hmn;have hb:=qiM h hmn (.inl hb0);simp only[Nat.add_zero]at hq hx;rw[hq,hb,hx,aF (by rw[h0,Nat.add_sub_cancel_left];exact hz),aD hb0,aD hlt];rw[show p+m-p+q=q+m by omega]
   · cases ht
  ·
   rw[aF hb0]at ht;split at ht
   · cases ht
   · rename_i hlt;cases ht;have hmn:m≤n:=by omega
     have hq:=Xr h (f:=isDi) (fun c hc=>(qej hc).2.1) (i:=0) (by simpa using hm) hmn;have hx:=Qt h (i:=0) hmn;have hb:=qiM h hmn (.inr (by omega));have hy:=Qt h (i:=m+1) (j:=m+1+behN s (p+m)) (by omega);simp only[Nat.add_zero]at hq hx;simp only[← Nat.add_assoc]at hy;rw[hq,hb,hx,hy,aF (by rw[h0,Nat.add_sub_cancel_left];exact hz),aF hb0,aF (by rw[Nat.add_sub_cancel_left];exact hlt)];rw[show p+m+1+behN s (p+m)-p+q=q+m+1+behN s (p+m)by omega]
theorem qnX {s u:ByteArray}{p q n:Nat}(h:Lik s p u q n)(hn:0<n){t:Tk}{e:Nat}(ht:qav s p=some (t,e))(he:e≤p+n):qav u q=some (t,e-p+q):=by
 have h0:bAt u q=bAt s p:=by have:=h.2.2.1 0 hn;simpa using this
 have hl:=h;obtain⟨h1,h2,h3,h4⟩:=h;unfold qav at ht;split at ht
 · cases ht
 ·
  rename_i hne;cases ht;have hlen:vR u q=vR s p:=by
   by_cases hc:bAt s p=33∨bAt s p=60∨bAt s p=62
   ·
    have e1:vR s p=if twoB s p then 2 else 1:=aD hc
    have e2:vR u q=if twoB u q then 2 else 1:=aD (by rw[h0];exact hc)
    have e3:twoB u q=twoB s p:=by
     by_cases h5:1<n
     · unfold twoB;rw[h3 1 h5,aO (show q+1<u.size by omega),aO (show p+1<s.size by omega)]
     ·
      obtain rfl:n=1:=by omega
      have f1:twoB s p=false:=by
       cases h6:twoB s p with
       |false=>rfl
       |true=>rw[h6,aD rfl]at e1;omega
      have f2:twoB u q=false:=by
       cases h6:twoB u q with
       |false=>rfl
       |true=>unfold twoB at h6;rw[aC,aX,beq_iff_eq]at h6;exact absurd h6.2 (qej (h4 h6.1)).2.2.2
      rw[f1,f2]
    rw[e1,e2,e3]
   · unfold vR;rw[aF hc,aF (by rw[h0];exact hc),h0]
  unfold qav;have hx:=Qt hl (i:=0) (j:=vR s p) (by omega);simp only[Nat.add_zero]at hx;rw[hlen,aF hne,hx,show p+vR s p-p+q=q+vR s p by omega]
theorem qmu {s u:ByteArray}{p q n:Nat}(h:Lik s p u q n)(hn:0<n){t:Tk}{e:Nat}(ht:tok s p=some (t,e))(he:e≤p+n):tok u q=some (t,e-p+q):=by
 have h0:bAt u q=bAt s p:=by have:=h.2.2.1 0 hn;simpa using this
 unfold tok at ht ⊢;rw[h0];cases hle:isLe (bAt s p)with
 |true=>
  rw[hle,aD rfl]at ht;rw[aD rfl];obtain⟨m,hm⟩:∃ m,stop isNm s p=p+m:=⟨stop isNm s p-p,by have:=zC isNm s p;omega⟩
  unfold qd6 at ht ⊢;rw[hm]at ht;have hme:e=p+m:=by
   split at ht
   · cases ht;rfl
   · split at ht
     · cases ht;rfl
     · cases ht
  subst hme;have hmn:m≤n:=by omega
  have hq:=Xr h (f:=isNm) (fun c hc=>(qej hc).1) (i:=0) (by simpa using hm) hmn;have hx:=Qt h (i:=0) hmn;simp only[Nat.add_zero]at hq hx;rw[hq,hx,show p+m-p+q=q+m by omega];by_cases hw:YH (s.extract p (p+m))=true
  · rw[aD hw]at ht ⊢;cases ht;rfl
  · rw[aF hw]at ht ⊢;by_cases hk:nmOk (s.extract p (p+m))=true
    · rw[aD hk]at ht ⊢;cases ht;rfl
    · rw[aF hk]at ht;cases ht
 |false=>
  rw[hle,aF (by simp)]at ht;rw[aF (by simp)];cases hd:isDi (bAt s p)with
  |true=>rw[hd,aD rfl]at ht;rw[aD rfl];exact ql2 h hn ht he
  |false=>
   rw[hd,aF (by simp)]at ht;rw[aF (by simp)];by_cases h39:bAt s p=39
   · rw[aD h39]at ht ⊢;obtain⟨m,hm⟩:∃ m,stop isNm s (p+1)=p+m:=⟨stop isNm s (p+1)-p,by have:=zC isNm s (p+1);omega⟩
     have hg:=zC isNm s (p+1);unfold qdt at ht ⊢;rw[hm]at ht;split at ht
     · rename_i hh;cases ht;have hq:=Xr h (f:=isNm) (fun c hc=>(qej hc).1) hm (by omega);have hx:=Qt h (i:=1) (j:=m) (by omega);have e1:=h.2.2.1 m (by omega);have e2:=h.2.1;rw[hq,hx,aD ⟨hh.1,by omega,by rw[e1];exact hh.2.2⟩,show p+m+1-p+q=q+m+1 by omega]
     · cases ht
   · rw[aF h39]at ht ⊢;exact qnX h hn ht he
end Ab
end Go.Proofs.YtpdhhkfllkgahaaGreatDoor

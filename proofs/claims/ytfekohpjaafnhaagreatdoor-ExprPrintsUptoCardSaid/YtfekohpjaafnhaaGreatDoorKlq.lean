/-
  A token within another text.
-/
import Derived.Test.YtfekohpjaafnhaaGreatDoorKtq
set_option linter.all false
namespace Go.Proofs.YtfekohpjaafnhaaGreatDoor
namespace Ab
def isBr (c:Int):Bool:=isBl c||c==41
def Lik (s:ByteArray)(p:Nat)(u:ByteArray)(q n:Nat):Prop:=p+n≤s.size∧q+n≤u.size∧(∀ i,i<n→bAt u (q+i)=bAt s (p+i))∧(q+n<u.size→isBr (bAt u (q+n))=true)
theorem qej {c:Int}(h:isBr c=true):isNm c=false∧isDi c=false∧c≠46∧c≠61:=by
 unfold isBr isBl at h;have:c=32∨c=9∨c=10∨c=13∨c=41:=by simpa [Bool.or_eq_true,or_assoc]using h
 rcases this with rfl|rfl|rfl|rfl|rfl<;>exact⟨rfl,rfl,by omega,by omega⟩
theorem Xr {s u:ByteArray}{p q n:Nat}(h:Lik s p u q n){f:Int→Bool}(hf:∀ c,isBr c=true→f c=false){i e:Nat}(hs:stop f s (p+i)=p+e)(he:e≤n):stop f u (q+i)=q+e:=by
 obtain⟨h1,h2,h3,h4⟩:=h;have hg:=zC f s (p+i);refine qeN (by omega) (by omega) (fun j a b=>?_) (fun hlt=>?_)
 · have e1:=h3 (j-q) (by omega);rw[show q+(j-q)=j by omega]at e1;rw[e1];exact Qj (p:=p+i) (by omega) (by omega)
 ·
  by_cases hn:e<n
  · rw[h3 e hn,← hs];exact qeZ (by omega)
  · obtain rfl:e=n:=by omega
    exact hf _ (h4 hlt)
theorem Qt {s u:ByteArray}{p q n:Nat}(h:Lik s p u q n){i j:Nat}(hj:j≤n):u.extract (q+i) (q+j)=s.extract (p+i) (p+j):=by obtain⟨h1,h2,h3,h4⟩:=h;refine qcK (by rw[size_ext _ _ _ (by omega),size_ext _ _ _ (by omega)];omega) fun x hx=>?_;rw[size_ext _ _ _ (by omega)]at hx;rw[Qz (by omega) (by omega),Qz (by omega) (by omega),show q+i+x=q+(i+x)by omega,h3 _ (by omega),show p+(i+x)=p+i+x by omega]
theorem qiM {s u:ByteArray}{p q n m:Nat}(h:Lik s p u q n)(hm:m≤n)(hb:behN s (p+m)=0∨m+1+behN s (p+m)≤n):behN u (q+m)=behN s (p+m):=by
 have hl:=h;obtain⟨h1,h2,h3,h4⟩:=h;by_cases hmn:m<n
 ·
  have e1:=h3 m hmn;by_cases h46:bAt s (p+m)=46
  · obtain⟨d,hd⟩:∃ d,stop isDi s (p+(m+1))=p+d:=⟨stop isDi s (p+(m+1))-p,by have:=zC isDi s (p+(m+1));omega⟩
    have hg:=zC isDi s (p+(m+1));have hs:behN s (p+m)=d-(m+1):=by unfold behN;rw[aD ⟨by omega,h46⟩,show p+m+1=p+(m+1)by omega,hd];omega
    have hu:=Xr hl (f:=isDi) (fun c hc=>(qej hc).2.1) hd (by omega);rw[hs];unfold behN;rw[aD ⟨by omega,by rw[e1];exact h46⟩,show q+m+1=q+(m+1)by omega,hu];omega
  · have a1:¬ (q+m<u.size∧bAt u (q+m)=46):=fun x=>h46 (by rw[← e1];exact x.2);have a2:¬ (p+m<s.size∧bAt s (p+m)=46):=fun x=>h46 x.2;unfold behN;rw[aF a1,aF a2]
 ·
  obtain rfl:m=n:=by omega
  have h0:behN s (p+m)=0:=by omega
  rw[h0];unfold behN;exact aF fun x=>(qej (h4 x.1)).2.2.1 x.2
theorem ql2 {s u:ByteArray}{p q n:Nat}(h:Lik s p u q n)(hn:0<n){t:Tk}{e:Nat}(ht:Zt s p=some (t,e))(he:e≤p+n):Zt u q=some (t,e-p+q):=by
 have h0:bAt u q=bAt s p:=by have:=h.2.2.1 0 hn;simpa using this
 obtain⟨m,hm⟩:∃ m,stop isDi s p=p+m:=⟨stop isDi s p-p,by have:=zC isDi s p;omega⟩
 unfold Zt at ht ⊢;rw[hm]at ht;simp only[Nat.add_sub_cancel_left]at ht;by_cases hz:1<m∧bAt s p=48
 · rw[aD hz]at ht;cases ht
 ·
  rw[aF hz]at ht;by_cases hb0:behN s (p+m)=0
  ·
   rw[aD hb0]at ht;split at ht
   · rename_i hlt;cases ht;have hmn:m≤n:=by omega
     have hq:=Xr h (f:=isDi) (fun c hc=>(qej hc).2.1) (i:=0) (by simpa using hm) hmn;have hx:=Qt h (i:=0) hmn;have hb:=qiM h hmn (.inl hb0);simp only[Nat.add_zero]at hq hx;rw[hq,hb,hx,aF (by rw[h0,Nat.add_sub_cancel_left];exact hz),aD hb0,aD hlt];rw[show p+m-p+q=q+m by omega]
   · cases ht
  ·
   rw[aF hb0]at ht;split at ht
   · cases ht
   · rename_i hlt;cases ht;have hmn:m≤n:=by omega
     have hq:=Xr h (f:=isDi) (fun c hc=>(qej hc).2.1) (i:=0) (by simpa using hm) hmn;have hx:=Qt h (i:=0) hmn;have hb:=qiM h hmn (.inr (by omega));have hy:=Qt h (i:=m+1) (j:=m+1+behN s (p+m)) (by omega);simp only[Nat.add_zero]at hq hx;simp only[← Nat.add_assoc]at hy;rw[hq,hb,hx,hy,aF (by rw[h0,Nat.add_sub_cancel_left];exact hz),aF hb0,aF (by rw[Nat.add_sub_cancel_left];exact hlt)];rw[show p+m+1+behN s (p+m)-p+q=q+m+1+behN s (p+m)by omega]
theorem qnX {s u:ByteArray}{p q n:Nat}(h:Lik s p u q n)(hn:0<n){t:Tk}{e:Nat}(ht:qav s p=some (t,e))(he:e≤p+n):qav u q=some (t,e-p+q):=by
 have h0:bAt u q=bAt s p:=by have:=h.2.2.1 0 hn;simpa using this
 have hl:=h;obtain⟨h1,h2,h3,h4⟩:=h;unfold qav at ht;split at ht
 · cases ht
 ·
  rename_i hne;cases ht;have hlen:vR u q=vR s p:=by
   by_cases hc:bAt s p=33∨bAt s p=60∨bAt s p=62
   ·
    have e1:vR s p=if twoB s p then 2 else 1:=aD hc
    have e2:vR u q=if twoB u q then 2 else 1:=aD (by rw[h0];exact hc)
    have e3:twoB u q=twoB s p:=by
     by_cases h5:1<n
     · unfold twoB;rw[h3 1 h5,aO (show q+1<u.size by omega),aO (show p+1<s.size by omega)]
     ·
      obtain rfl:n=1:=by omega
      have f1:twoB s p=false:=by
       cases h6:twoB s p with
       |false=>rfl
       |true=>rw[h6,aD rfl]at e1;omega
      have f2:twoB u q=false:=by
       cases h6:twoB u q with
       |false=>rfl
       |true=>unfold twoB at h6;rw[aC,aX,beq_iff_eq]at h6;exact absurd h6.2 (qej (h4 h6.1)).2.2.2
      rw[f1,f2]
    rw[e1,e2,e3]
   · unfold vR;rw[aF hc,aF (by rw[h0];exact hc),h0]
  unfold qav;have hx:=Qt hl (i:=0) (j:=vR s p) (by omega);simp only[Nat.add_zero]at hx;rw[hlen,aF hne,hx,show p+vR s p-p+q=q+vR s p by omega]
theorem qmu {s u:ByteArray}{p q n:Nat}(h:Lik s p u q n)(hn:0<n){t:Tk}{e:Nat}(ht:tok s p=some (t,e))(he:e≤p+n):tok u q=some (t,e-p+q):=by
 have h0:bAt u q=bAt s p:=by have:=h.2.2.1 0 hn;simpa using this
 unfold tok at ht ⊢;rw[h0];cases hle:isLe (bAt s p)with
 |true=>
  rw[hle,aD rfl]at ht;rw[aD rfl];obtain⟨m,hm⟩:∃ m,stop isNm s p=p+m:=⟨stop isNm s p-p,by have:=zC isNm s p;omega⟩
  unfold qd6 at ht ⊢;rw[hm]at ht;have hme:e=p+m:=by
   split at ht
   · cases ht;rfl
   · split at ht
     · cases ht;rfl
     · cases ht
  subst hme;have hmn:m≤n:=by omega
  have hq:=Xr h (f:=isNm) (fun c hc=>(qej hc).1) (i:=0) (by simpa using hm) hmn;have hx:=Qt h (i:=0) hmn;simp only[Nat.add_zero]at hq hx;rw[hq,hx,show p+m-p+q=q+m by omega];by_cases hw:YH (s.extract p (p+m))=true
  · rw[aD hw]at ht ⊢;cases ht;rfl
  · rw[aF hw]at ht ⊢;by_cases hk:nmOk (s.extract p (p+m))=true
    · rw[aD hk]at ht ⊢;cases ht;rfl
    · rw[aF hk]at ht;cases ht
 |false=>
  rw[hle,aF (by simp)]at ht;rw[aF (by simp)];cases hd:isDi (bAt s p)with
  |true=>rw[hd,aD rfl]at ht;rw[aD rfl];exact ql2 h hn ht he
  |false=>
   rw[hd,aF (by simp)]at ht;rw[aF (by simp)];by_cases h39:bAt s p=39
   · rw[aD h39]at ht ⊢;obtain⟨m,hm⟩:∃ m,stop isNm s (p+1)=p+m:=⟨stop isNm s (p+1)-p,by have:=zC isNm s (p+1);omega⟩
     have hg:=zC isNm s (p+1);unfold qdt at ht ⊢;rw[hm]at ht;split at ht
     · rename_i hh;cases ht;have hq:=Xr h (f:=isNm) (fun c hc=>(qej hc).1) hm (by omega);have hx:=Qt h (i:=1) (j:=m) (by omega);have e1:=h.2.2.1 m (by omega);have e2:=h.2.1;rw[hq,hx,aD ⟨hh.1,by omega,by rw[e1];exact hh.2.2⟩,show p+m+1-p+q=q+m+1 by omega]
     · cases ht
   · rw[aF h39]at ht ⊢;exact qnX h hn ht he
end Ab
end Go.Proofs.YtfekohpjaafnhaaGreatDoor

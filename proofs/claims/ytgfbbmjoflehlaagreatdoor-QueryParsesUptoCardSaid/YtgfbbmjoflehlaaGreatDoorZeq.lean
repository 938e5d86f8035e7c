/-
  The document's leaves, and its whole parser.
-/
import Derived.Test.YtgfbbmjoflehlaaGreatDoorZdq
import Derived.Test.YtgfbbmjoflehlaaGreatDoorPgq
set_option linter.all false
namespace Go.Proofs.YtgfbbmjoflehlaaGreatDoor
namespace Ab
section
variable [vo] {L:List Tok} {i o:Nat}
theorem bcomm (a b:List UInt8):(a==b)=(b==a):=by grind
theorem le_T:isLe (bAt (strB [84,82,85,69]) 0)=true:=by kernel_rfl
theorem le_F:isLe (bAt (strB [70,65,76,83,69]) 0)=true:=by kernel_rfl
theorem le_R:isLe (bAt (strB [82,69,65,76]) 0)=true:=by kernel_rfl
theorem le_I:isLe (bAt (strB [73,83,78,65,78]) 0)=true:=by kernel_rfl
theorem le_p:isLe (bAt (strB [40]) 0)=false:=by kernel_rfl
theorem sg (hL:TL L):isW (tkA L i) (strB [40])=bif (tkA L i).kind==6 then(tkA L i).text.toList==(strB [40]).toList else false:=by rw[qrv (hL.tw i) le_p,bcomm]
theorem wd0 (hL:TL L)(h1:((tkA L i).kind==1)=false){s}(hs:isLe (bAt s 0)=true):isW (tkA L i) s=false:=by rw[qrw (hL.tw i) hs,h1];rfl
theorem wd2 (hL:TL L)(h1:((tkA L i).kind==1)=true){s}(hs:isLe (bAt s 0)=true):isW (tkA L i) s=((tkA L i).text.toList==s.toList):=by rw[qrw (hL.tw i) hs,h1];rfl
theorem wd1 (hL:TL L)(h1:((tkA L i).kind==1)=true){s}(hs:isLe (bAt s 0)=true)(h:((tkA L i).text.toList==s.toList)=false):isW (tkA L i) s=false:=by rw[wd2 hL h1 hs,h]
theorem qt0 (hL:TL L)(hi:i<=Lm L)(h3:((tkA L i).kind==3)=false)(h4:((tkA L i).kind==4)=false)(h5:((tkA L i).kind==5)=false)(h2:((tkA L i).kind==2)=false)(hw:isW (tkA L i) (strB [40])=false)(h1:((tkA L i).kind==1)=false):Z L i o (.err (tkA L i).pos 13):=by
 obtain⟨r,a,b⟩:=qtZ (o:=o) hL hi;have e:agW L i=.err (tkA L i).pos 13:=by unfold agW;grind
 rw[e]at b;refine⟨r,qqE hL hi h3 h4 h5 h2 hw ?_,b⟩;rw[wd0 hL h1 le_T,wd0 hL h1 le_F];refine zw2 hL hi ?_;rw[wd0 hL h1 le_R,wd0 hL h1 le_I];exact a
section
variable (hL:TL L) (hi:i<=Lm L) (ho:o<100)
include hL hi
theorem quS {out}(h:vD L i=.con out):Z L i o out:=by
 have hen:=hL.en;have hlen:=hL.len;have hl:i<L.length:=by omega
 have t:=d50 L i hl o 0 0;unfold vD at h;simp only at h;cases h3:(tkA L i).kind==3 with
 |true=>rw[h3]at h;cases h;exact⟨_,.of2 t (z0' 20 [] (tkA L i).n 0 (strB []) (strB []) (tkA L i).pos 0 0 0 (strB []) (strB []) 0 ((i+1:Nat):Int) o 0 0) fun k b b2=>by simp only[nt,quY,b,h3,zq i (by omega),ae,ah,af,aj,ak,altC,tup2,tup3,tup4,tup5,tup6,tup8,qoG,zu];exact b2,rfl⟩
 |false=>
 cases h4:(tkA L i).kind==4 with
 |true=>rw[h3,h4]at h;cases h;exact⟨_,.of2 t (z0' 21 [] (tkA L i).n (tkA L i).scale (strB []) (strB []) (tkA L i).pos 0 0 0 (strB []) (strB []) 0 ((i+1:Nat):Int) o 0 0) fun k b b2=>by simp only[nt,quY,b,h3,h4,zq i (by omega),ae,ah,af,aj,ak,altC,tup2,tup3,tup4,tup5,tup6,tup8,qoG,zu];exact b2,rfl⟩
 |false=>
 cases h5:(tkA L i).kind==5 with
 |true=>rw[h3,h4,h5]at h;cases h;exact⟨_,.of2 t (z0' 23 [] 0 0 (tkA L i).text (strB []) (tkA L i).pos 0 0 0 (strB []) (strB []) 0 ((i+1:Nat):Int) o 0 0) fun k b b2=>by simp only[nt,quY,b,h3,h4,h5,zq i (by omega),ae,ah,af,aj,ak,altC,tup2,tup3,tup4,tup5,tup6,tup8,qoG,zu];exact b2,rfl⟩
 |false=>
 cases h2:(tkA L i).kind==2 with
 |true=>
  rw[h3,h4,h5,h2]at h;simp only[ah,af]at h;obtain⟨r,a1,a2⟩:=d70 L i hL hi (o:Int);unfold R124of at a2;split at h
  . rename_i p hp;cases h;rw[hp]at a2;obtain⟨n,b,j,rfl⟩:=a2;exact⟨_,.of3 t a1 (z0' 24 [] 0 0 n b (tkA L i).pos 0 0 0 (strB []) (strB []) 0 j o 13 p) fun k b1 b2 b3=>by simp only[nt,quY,b1,b2,h3,h4,h5,h2,ae,ah,af,aj,ak,altC,tup2,tup3,tup4,tup5,tup6,tup8,qoG,zu];exact b3,qo5⟩
  . rename_i a c hp;cases h;rw[hp]at a2;subst a2;exact⟨_,.of3 t a1 (z0' 24 [] 0 0 a c (tkA L i).pos 0 0 0 (strB []) (strB []) 0 ((i+3:Nat):Int) o 0 0) fun k b1 b2 b3=>by simp only[nt,quY,b1,b2,h3,h4,h5,h2,ae,ah,af,aj,ak,altC,tup2,tup3,tup4,tup5,tup6,tup8,qoG,zu];exact b3,rfl⟩
 |false=>
 cases h6:(tkA L i).kind==6 with
 |true=>
  rw[h3,h4,h5,h2,h6]at h;simp only[ah,af]at h;have h1:((tkA L i).kind==1)=false:=by grind
  cases h7:(tkA L i).text.toList==(strB [40]).toList with
  |true=>grind
  |false=>rw[h7]at h;cases h;exact qt0 hL hi h3 h4 h5 h2 (by rw[sg hL,h6,h7];rfl) h1
 |false=>
 cases h1:(tkA L i).kind==1 with
 |false=>rw[h3,h4,h5,h2,h6,h1]at h;cases h;exact qt0 hL hi h3 h4 h5 h2 (by rw[sg hL,h6];rfl) h1
 |true=>
  rw[h3,h4,h5,h2,h6,h1]at h;simp only[ah,af]at h;have hw:isW (tkA L i) (strB [40])=false:=by rw[sg hL,h6];rfl
  cases w0:(tkA L i).text.toList==(strB [84,82,85,69]).toList with
  |true=>rw[w0]at h;cases h;exact⟨_,qqE hL hi h3 h4 h5 h2 hw (by rw[wd2 hL h1 le_T,w0];exact zt hL hi (by rw[wd2 hL h1 le_T];exact w0)),rfl⟩
  |false=>
  cases w1:(tkA L i).text.toList==(strB [70,65,76,83,69]).toList with
  |true=>rw[w0,w1]at h;cases h;exact⟨_,qqE hL hi h3 h4 h5 h2 hw (by rw[wd1 hL h1 le_T w0,wd2 hL h1 le_F,w1];exact zf hL hi (wd1 hL h1 le_T w0)),rfl⟩
  |false=>
  have eT:=wd1 hL h1 le_T w0;have eF:=wd1 hL h1 le_F w1;cases w2:(tkA L i).text.toList==(strB [82,69,65,76]).toList||(tkA L i).text.toList==(strB [73,83,78,65,78]).toList with
  |true=>grind
  |false=>
   rw[w0,w1,w2]at h;simp only[af]at h;have eR:(isW (tkA L i) (strB [82,69,65,76])||isW (tkA L i) (strB [73,83,78,65,78]))=false:=by rw[wd2 hL h1 le_R,wd2 hL h1 le_I];exact w2
   obtain⟨r,a,b⟩:=qtZ (o:=o) hL hi;have e:agW L i=out:=by unfold agW;grind
   rw[e]at b;exact⟨r,qqE hL hi h3 h4 h5 h2 hw (by rw[eT,eF];exact zw2 hL hi (by grind)),b⟩
include ho
theorem quT {p}(h:vD L i=.ner p):((o==30)=true->Z L i o (.err (tkA L i).pos 14))/\((o==30)=false->Z L i o (.err p 13)):=by
 unfold vD at h;simp only at h;cases h3:(tkA L i).kind==3 with
 |true=>grind
 |false=>
 cases h4:(tkA L i).kind==4 with
 |true=>grind
 |false=>
 cases h5:(tkA L i).kind==5 with
 |true=>grind
 |false=>
 cases h2:(tkA L i).kind==2 with
 |true=>grind
 |false=>
 cases h6:(tkA L i).kind==6 with
 |true=>grind
 |false=>
 cases h1:(tkA L i).kind==1 with
 |false=>grind
 |true=>
  rw[h3,h4,h5,h2,h6,h1]at h;simp only[ah,af]at h;have hw:isW (tkA L i) (strB [40])=false:=by rw[sg hL,h6];rfl
  cases w0:(tkA L i).text.toList==(strB [84,82,85,69]).toList with
  |true=>grind
  |false=>
  cases w1:(tkA L i).text.toList==(strB [70,65,76,83,69]).toList with
  |true=>grind
  |false=>
  have eT:=wd1 hL h1 le_T w0;have eF:=wd1 hL h1 le_F w1;cases w2:(tkA L i).text.toList==(strB [82,69,65,76]).toList||(tkA L i).text.toList==(strB [73,83,78,65,78]).toList with
  |true=>
   rw[w0,w1,w2]at h;simp only[ah,af]at h;have eR:(isW (tkA L i) (strB [82,69,65,76])||isW (tkA L i) (strB [73,83,78,65,78]))=true:=by rw[wd2 hL h1 le_R,wd2 hL h1 le_I];exact w2
   have eI:opI L i=bif (tkA L i).text.toList==(strB [73,83,78,65,78]).toList then 17 else 16:=by unfold opI;rw[wd2 hL h1 le_I]
   have hin:i<Lm L:=ZU fun e=>by grind
   have into:∀ {out},(∃ r,Goes quY (.h5_106 (opI L i) 0 0 (strB []) (strB []) (tkA L i).pos 0 0 0 (strB []) (strB []) 0 (rwT L) i o 0 0) (K2 r)/\D7 L o out r)->Z L i o out:=fun ⟨r,a,b⟩=>⟨r,qqE hL hi h3 h4 h5 h2 hw (by rw[eT,eF];exact zw2 hL hi (by rw[eR];exact zw3 hL hi a)),b⟩
   cases w3:isW (tkA L (i+1)) (strB [40])with
   |true=>grind
   |false=>rw[w3]at h;cases h;exact⟨fun hd=>into (qrD hin hL ho hd),fun hd=>into (qt3 hin hL ho hd w3)⟩
  |false=>grind
theorem quR {d f}(h:vD L i=.brk d f):((o==30)=true->Z L i o (.err (tkA L i).pos 14))/\((o==30)=false->∀ out,X L 0 (i+d) (o+1) out->match out with
  |.err p e=>e≠0->Z L i o (.err p e)
  |.ok x j=>j<=Lm L->(isW (tkA L j) (strB [41])=false->Z L i o (.err (tkA L j).pos 13))/\(isW (tkA L j) (strB [41])=true->Z L i o (.ok (f x) (j+1)))):=by
 have hen:=hL.en;have hlen:=hL.len;have hl:i<L.length:=by omega
 unfold vD at h;simp only at h;cases h3:(tkA L i).kind==3 with
 |true=>grind
 |false=>
 cases h4:(tkA L i).kind==4 with
 |true=>grind
 |false=>
 cases h5:(tkA L i).kind==5 with
 |true=>grind
 |false=>
 cases h2:(tkA L i).kind==2 with
 |true=>grind
 |false=>
 cases h6:(tkA L i).kind==6 with
 |true=>
  rw[h3,h4,h5,h2,h6]at h;simp only[ah,af]at h;have h1:((tkA L i).kind==1)=false:=by grind
  cases h7:(tkA L i).text.toList==(strB [40]).toList with
  |true=>
   rw[h7]at h;cases h;have hw:isW (tkA L i) (strB [40])=true:=by rw[sg hL,h6];exact h7
   refine⟨fun hd=>qsO hl (by omega) ho h3 h4 h5 h2 hw hd,fun hd out hx=>?_⟩;cases out with
   |err p e=>exact fun he=>qt1 hl (by omega) ho h3 h4 h5 h2 hw hd he hx
   |ok x j=>exact fun hj=>⟨fun h8=>quU hl (by omega) ho h3 h4 h5 h2 hw hd (by omega) (by omega) hx h8,fun h8=>quV hl (by omega) ho h3 h4 h5 h2 hw hd (by omega) (by omega) hx h8⟩
  |false=>grind
 |false=>
 cases h1:(tkA L i).kind==1 with
 |false=>grind
 |true=>
  rw[h3,h4,h5,h2,h6,h1]at h;simp only[ah,af]at h;have hw:isW (tkA L i) (strB [40])=false:=by rw[sg hL,h6];rfl
  cases w0:(tkA L i).text.toList==(strB [84,82,85,69]).toList with
  |true=>grind
  |false=>
  cases w1:(tkA L i).text.toList==(strB [70,65,76,83,69]).toList with
  |true=>grind
  |false=>
  have eT:=wd1 hL h1 le_T w0;have eF:=wd1 hL h1 le_F w1;cases w2:(tkA L i).text.toList==(strB [82,69,65,76]).toList||(tkA L i).text.toList==(strB [73,83,78,65,78]).toList with
  |true=>
   rw[w0,w1,w2]at h;simp only[ah,af]at h;have eR:(isW (tkA L i) (strB [82,69,65,76])||isW (tkA L i) (strB [73,83,78,65,78]))=true:=by rw[wd2 hL h1 le_R,wd2 hL h1 le_I];exact w2
   have eI:opI L i=bif (tkA L i).text.toList==(strB [73,83,78,65,78]).toList then 17 else 16:=by unfold opI;rw[wd2 hL h1 le_I]
   have hin:i<Lm L:=ZU fun e=>by grind
   have into:∀ {out},(∃ r,Goes quY (.h5_106 (opI L i) 0 0 (strB []) (strB []) (tkA L i).pos 0 0 0 (strB []) (strB []) 0 (rwT L) i o 0 0) (K2 r)/\D7 L o out r)->Z L i o out:=fun ⟨r,a,b⟩=>⟨r,qqE hL hi h3 h4 h5 h2 hw (by rw[eT,eF];exact zw2 hL hi (by rw[eR];exact zw3 hL hi a)),b⟩
   cases w3:isW (tkA L (i+1)) (strB [40])with
   |true=>
    rw[w3]at h;cases h;refine⟨fun hd=>into (qrD hin hL ho hd),fun hd out hx=>?_⟩;rw[<- eI];cases out with
    |err p e=>exact fun he=>into (qt2 hin hL ho hd w3 he hx)
    |ok x j=>exact fun hj=>⟨fun h8=>into (quW hin hL ho hd w3 hj hx h8),fun h8=>into (quX hin hL ho hd w3 hj hx h8)⟩
   |false=>grind
  |false=>grind
end
theorem xw (hL:TL L):∀ n,(∀ l i o out,l<=7->i<=Lm L->o<=30->pp L n (.p l i o)=some out->X L l i o out)/\∀ l x i o out,l=0\/l=1\/l=4\/l=5->i<=Lm L->o<=30->pp L n (.lp l x i o)=some out->V L l x i o out
 |0=>⟨fun _ _ _ _ _ _ _ h=>(by cases h),fun _ _ _ _ _ _ _ _ h=>(by cases h)⟩
 |n+1=>by
  have hen:=hL.en;have hlen:=hL.len;obtain⟨ih,ihl⟩:=xw hL n;have hin:=qeh L n;have nz:∀ {s p e},pp L n s=some (.err p e)->e≠0:=fun h=>by rcases qix L n _ _ _ h with h|h<;>omega
  have deep:∀ o:Nat,o<=30->(o==30)=false->o+1<=30:=fun o h1 h2=>by grind
  have lev:∀ l i o out,(l=0\/l=1\/l=4\/l=5)->l<=7->i<=Lm L->o<=30->bnd (pp L n (.p (l+1) i o)) (fun x j=>pp L n (.lp l x j o))=some out->X L l i o out:=fun l i o out hl hl7 hi ho h=>by
   have hh:HL l:=by unfold HL;omega
   rcases ZV h with⟨p,z,h1,rfl⟩|⟨x,j,h1,h2⟩
   . exact xe (nz h1) hh (ih (l+1) i o _ (by omega) hi ho h1)
   . have hj:=hin.1 _ _ _ _ _ (by omega) h1;exact xk hh (ih (l+1) i o _ (by omega) hi ho h1) (ihl l _ _ _ _ hl hj.2 ho h2)
  have pre:∀ l i o out,(l=2\/l=6)->i<=Lm L->o<=30->unF (tkA L i) (pp L n) l (wP l).1 (wP l).2 i o=some out->X L l i o out:=fun l i o out hl hi ho h=>by
   unfold unF nst at h;refine quP hl ?_;cases hw:isW (tkA L i) (wP l).1 with
   |false=>rw[hw]at h;exact y_no hl (by omega) hw (ih (l+1) i o _ (by omega) hi ho h)
   |true=>
    rw[hw]at h;have hi2:=Zv hw;cases hb:o==30 with
    |true=>rw[hb]at h;cases h;exact qtY hl (by omega) (by omega) (by omega) hw hb
    |false=>
     rw[hb]at h;rcases ZV h with⟨p,z,h1,rfl⟩|⟨x,j,h1,h2⟩
     . exact quQ hl (by omega) (by omega) (by omega) hw hb (ih l (i+1) _ _ (by omega) (by omega) (deep o ho hb) h1)
     . cases h2;exact y_ok hl (by omega) (by omega) (by omega) hw hb (ih l (i+1) _ _ (by omega) (by omega) (deep o ho hb) h1)
  refine⟨fun l i o out hl hi ho h=>?_,fun l x i o out hl hi ho h=>?_⟩
  .
   match l,hl with
   |0,_=>exact lev 0 i o out (.inl rfl) (by omega) hi ho h
   |1,_=>exact lev 1 i o out (.inr (.inl rfl)) (by omega) hi ho h
   |4,_=>exact lev 4 i o out (.inr (.inr (.inl rfl))) (by omega) hi ho h
   |5,_=>exact lev 5 i o out (.inr (.inr (.inr rfl))) (by omega) hi ho h
   |3,_=>
    have hh:HL 3:=by unfold HL;omega
    rw[pp3]at h;rcases ZV h with⟨p,z,h1,rfl⟩|⟨x,j,h1,h2⟩
    . exact xe (nz h1) hh (ih 4 i o _ (by omega) hi ho h1)
    .
     have hj:=hin.1 _ _ _ _ _ (by omega) h1;refine xk hh (ih 4 i o _ (by omega) hi ho h1) ?_;cases hb:opA 3 (tkA L j)!=0 with
     |false=>rw[hb]at h2;cases h2;exact vf hL (by omega) hh (by grind)
     |true=>
      rw[hb]at h2;have h0:opA 3 (tkA L j)≠0:=by grind
      have hj2:=qfb (L:=L) (i:=j) (l:=3) (by grind);rcases ZV h2 with⟨p,z,h3,rfl⟩|⟨y,q,h3,h4⟩
      . exact ve hL (by omega) hh h0 (nz h3) (ih 4 (j+1) o _ (by omega) (by omega) ho h3)
      . cases h4;exact v3 hL (by omega) h0 (ih 4 (j+1) o _ (by omega) (by omega) ho h3)
   |2,_=>exact pre 2 i o out (.inl rfl) hi ho h
   |6,_=>exact pre 6 i o out (.inr rfl) hi ho h
   |7,_=>
    rw[pp7]at h;refine qtX ?_;unfold Qm nst at h;split at h
    . rename_i hk;cases h;exact quS hL hi hk
    . rename_i p hk;have a:=quT (o:=o) hL hi (by omega) hk
      grind
    .
     rename_i d f hk;have hd:=(xU.2 _ _ hk).1;have a:=quR (o:=o) hL hi (by omega) hk;cases hb:o==30 with
     |true=>grind
     |false=>
      rw[hb]at h;rcases ZV h with⟨p,z,h1,rfl⟩|⟨x,j,h1,h2⟩
      . exact a.2 hb _ (ih 0 _ _ _ (by omega) (by omega) (deep o ho hb) h1) (nz h1)
      . have hj:=hin.1 _ _ _ _ _ (by omega) h1;have b:=a.2 hb _ (ih 0 _ _ _ (by omega) (by omega) (deep o ho hb) h1) hj.2;unfold clo at h2
        grind
  .
   have hh:HL l:=by unfold HL;omega
   rw[ppl]at h;cases hb:opA l (tkA L i)==0 with
   |true=>rw[hb]at h;cases h;exact vf hL (by omega) hh (by grind)
   |false=>
    rw[hb]at h;have h0:opA l (tkA L i)≠0:=by grind
    have hi2:=qfb hb;rcases ZV h with⟨p,z,h1,rfl⟩|⟨y,q,h1,h2⟩
    . exact ve hL (by omega) hh h0 (nz h1) (ih (l+1) (i+1) o _ (by omega) (by omega) ho h1)
    . have hq:=hin.1 _ _ _ _ _ (by omega) h1;exact vk hL (by omega) hh (by omega) h0 (ih (l+1) (i+1) o _ (by omega) (by omega) ho h1) (ihl l _ _ _ _ hl hq.2 ho h2)
end
end Ab
end Go.Proofs.YtgfbbmjoflehlaaGreatDoor

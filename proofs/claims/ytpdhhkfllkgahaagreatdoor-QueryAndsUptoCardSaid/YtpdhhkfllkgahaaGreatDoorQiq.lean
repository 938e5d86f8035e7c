import Derived.Test.YtpdhhkfllkgahaaGreatDoorQgq
import Derived.Test.YtpdhhkfllkgahaaGreatDoorPgq
set_option linter.all false
namespace Go.Proofs.YtpdhhkfllkgahaaGreatDoor
namespace Ab
theorem qBr:∀ (l m:List Ex),cnts (l++m)=cnts l+cnts m
 |[],m=>by simp[cnts]
 |x::l,m=>by rw[List.cons_append,cnts,cnts,qBr l m];omega
theorem qBU {x:Ex}(h:Rg x):cnts (qzU x)≤cnt x:=by
 have one:∀ x:Ex,x.op≠13→cnts (qzU x)≤cnt x:=fun x h=>by rw[qzR h];simp[cnts]
 induction h with
 |leaf h=>rename_i op n s a b p;exact one _ (show op≠13 by unfold LfOk at h;omega)
 |una h hx ih=>rename_i op x p;exact one _ (show op≠13 by omega)
 |two h hx hy ihx ihy=>
  rename_i op x y p;by_cases h13:op=13
  · subst h13;rw[qz4,qBr,qiA];omega
  · exact one _ h13
theorem qCu [vo]{L:List Tok}(hT:TsOk L)(hL:L.length<5000){n:Nat}{q:Qu}(h:qz1 L n=some (.inr q)):Few q:=by
 unfold qz1 at h;cases h1:qzQ L ptB 0 with
 |inl x=>rw[h1]at h;cases h
 |inr m=>
  rw[h1]at h;simp only at h;cases hb:qzP L 0 m with
  |none=>rw[hb]at h;cases h
  |some ob=>
   rw[hb]at h
   match ob,hb,h with
   |.inr (b,j),hb,h=>
    simp only at h;cases hs:qzN L 4 [b] j with
    |none=>rw[hs]at h;cases h
    |some o=>
     rw[hs]at h
     match o,hs,h with
     |.inr (br,k),hs,h=>
      simp only at h;cases hw:qzV L n k with
      |none=>rw[hw]at h;cases h
      |some w=>
       rw[hw]at h
       match w,hw,h with
       |.inr (wh,j),hw,h=>
        simp only[qAu,aa]at h;cases ht:qAg L j with
        |inl x=>rw[ht]at h;cases h
        |inr t=>
         rw[ht]at h;simp only at h;cases h3:((tkA L t.2).kind != 0)with
         |true=>rw[h3]at h;cases h
         |false=>
          rw[h3]at h;cases h;have r1:=qAk hT 4 [b] _ _ _ (by simp) (fun c hc=>by rw[aV]at hc;subst hc;exact qAy hT hb) hs;refine⟨by have:=qz9 _ _ _ _ _ rfl hs;show br.length<_;omega,fun l hl=>by have:=(r1.2 l hl).2.1;omega,?_⟩;show cnts wh<_;unfold qzV at hw;cases ho:isW (tkA L k) whB with
          |false=>rw[ho]at hw;cases hw;simp[cnts]
          |true=>
           rw[ho]at hw;simp only[ah]at hw;cases hp:pp L n (.p 0 (k+1) 0)with
           |none=>rw[hp]at hw;cases hw
           |some r=>
            rw[hp]at hw
            match r,hp,hw with
            |.ok y k',hp,hw=>cases hw;have ne:=(qCK hT n).1 0 (k+1) 0 y j (by omega) (by omega) hp;have hc:=(qjS L n).1 0 (k+1) 0 y j (by omega) hp;have hj:=(qeh L n).1 0 (k+1) 0 y j (by omega) hp;have hLm:=qnp L;have:=qBU ne.1;omega
theorem qAJ (l:List (List It)):qG (zf l)=zf l:=by rw[Yr];simp only[zf,List.map_map];refine List.map_congr_left fun b _=>?_;show [immC (.imm (xe b))]=_;simp[immC,qvJ]
section
variable [vo]
def R8of (t:Qu×Int×Int)(r:R8):Prop:=r=.inl (zf t.1.br,qg t.1.wh,t.1.st,t.1.wd,t.1.key,t.1.ka,t.2.1,t.2.2)∨t.1=q0∧r=.inr (0,0,strB [],0,t.2.1,t.2.2)
theorem qEg {s:By}{n:Nat}{t:Qu×Int×Int}(h:parQ s n=some t):∃ r,Tot (fun k=>g8 k s) r∧R8of t r:=by
 have bad:∀ (p e:Int),e≠0→Goes qbD (.h0 [] (e != 0) e p 0 0 (strB []) 0) (.inl ([],[],0,0,strB [],0,p,e)):=fun p e he=>by
  have:(e != 0)=true:=by simpa using he
  rw[this];have s1:Goes qbD (.h1 e p [] [] 0 0 (strB []) 0) (.inl ([],[],0,0,strB [],0,p,e)):=.fin0 fun k rec=>rfl;exact .rec0 s1 fun k rec=>rfl
 unfold parQ at h;split at h
 ·
  rename_i hs;have sc:=qD1 hs;rw[qjQ]at sc;cases hT:yn s (s.size+1) 0 with
  |inr z=>rw[hT]at h sc;cases h;exact⟨_,Goes.of2 (step:=qbD) (s:=.e s) sc (bad z 12 (by omega)) fun k b b2=>by simp only[qbD,b,qAd,ae,altC,tup2];exact b2,.inl rfl⟩
  |inl L=>
   have ts:=qEx hs hT;rw[hT]at h sc;simp only at h;obtain⟨T,rfl,hk,hl⟩:=vE s _ _ _ (Nat.zero_le _) hT;have hE:Lm (T++[endT s])+1=(T++[endT s]).length:=by rw[qka];simp
   have hL:(T++[endT s]).length<5000:=by simp;omega
   generalize T++[endT s]=L at h sc ts hE hL;cases hq:qz1 L n with
   |none=>rw[hq]at h;cases h
   |some out=>
    rw[hq]at h;cases h;obtain⟨r,rd,hr⟩:=qDx hE hL ts hq;have sc':Tot (fun k=>g19 k s) (.inl (rwT L,0,0)):=by
     have:qAd [] (.inl (rwT L))=.inl (rwT L,0,0):=by show(Sum.inl (qG ([]++rwT L),0,0):R19)=_;rw[List.nil_append,qlr]
     rw[← this];exact sc
    have into:∀ r,Goes qbD (.h2 (rwT L) 0 [] [] 0 0 (strB []) 0 0 0 0 0 (strB []) 0) r→Tot (fun k=>g8 k s) r:=fun r h=>by have s1:Goes qbD (.h0 (rwT L) false 0 0 0 0 (strB []) 0) r:=.rec0 h fun k rec=>rfl;exact Goes.of2 (step:=qbD) (s:=.e s) sc' s1 fun k b b2=>by simp only[qbD,b,ae,altC,tup3];exact b2
    cases out with
    |inl er=>obtain⟨p,e⟩:=er;obtain⟨x1,x2,x3,x4,x5,x6,x7,x8,rfl⟩:=hr;refine⟨.inr (0,0,strB [],0,p,e),into _ (.of1 rd fun k b=>?_),.inr ⟨rfl,rfl⟩⟩;simp only[qbD,b,ae,altC,ql]
    |inr q=>
     obtain⟨j,rfl⟩:=hr;have nd:=qyS (qCu ts hL hq);unfold outQ;simp only;by_cases hn:qu2 q≤200
     · rw[aD hn];have s1:Goes qbD (.h4 0 0 (zf q.br) (qg q.wh) q.st q.wd q.key q.ka) (.inl (zf q.br,qg q.wh,q.st,q.wd,q.key,q.ka,0,0)):=.fin0 fun k rec=>rfl;refine⟨_,into _ (.of3 rd nd s1 fun k b b2 b3=>?_),.inl rfl⟩;simp only[qbD,b,ae,altC,tup8,qAJ,qvu,b2,show decide (((qu2 q:Nat):Int)>200)=false from aN (by omega),af];exact b3
     · rw[aF hn];have s1:Goes qbD (.h3 2 0 [] [] 0 0 (strB []) 0) (.inl ([],[],0,0,strB [],0,0,2)):=.fin0 fun k rec=>rfl;refine⟨_,into _ (.of3 rd nd s1 fun k b b2 b3=>?_),.inl rfl⟩;simp only[qbD,b,ae,altC,tup8,qAJ,qvu,b2,show decide (((qu2 q:Nat):Int)>200)=true from aO (by omega),ah];exact b3
 · rename_i hs;cases h;exact⟨_,Goes.of2 (step:=qbD) (s:=.e s) (qCF hs) (bad 0 2 (by omega)) fun k b b2=>by simp only[qbD,b,ae,altC,tup3];exact b2,.inl rfl⟩
end
def hdB:By:=strB [80,65,84,84,69,82,78,32,83,69,81,40,65,32,97,41,32,87,72,69,82,69,32]
def tlB:By:=strB [32,83,84,82,65,84,69,71,89,32,65,78,89,32,87,73,84,72,73,78,32,48]
def hdK:List Tk:=[wk ptB,wk seqB,lp,nk (strB [65]),nk (strB [97]),rp,wk whB]
def tlK3:List Tk:=tlK 3 0 (strB [])
theorem qFP:hdB=(((((((((ptB++strB [32])++seqB)++strB [40])++strB [65])++strB [32])++strB [97])++strB [41])++strB [32])++whB)++strB [32]:=by kernel_rfl
theorem qFY:tlB=((((((strB [32]++sgB)++strB [32])++s3B)++strB [32])++wiB)++strB [32])++strB [48]:=by kernel_rfl
theorem gn_A:GN (strB [65]):=⟨by kernel_rfl,fun i hi=>by
 have hz:(strB [65]).size=1:=rfl
 have h0:i=0:=by omega
 subst h0;rfl⟩
theorem gn_a:GN (strB [97]):=⟨by kernel_rfl,fun i hi=>by
 have hz:(strB [97]).size=1:=rfl
 have h0:i=0:=by omega
 subst h0;rfl⟩
theorem gn_x:GN (strB [120]):=⟨by kernel_rfl,fun i hi=>by
 have hz:(strB [120]).size=1:=rfl
 have h0:i=0:=by omega
 subst h0;rfl⟩
theorem qFW:Own ⟨3,strB [],0,0⟩ (strB [48]):=⟨strB [48],0,by decide,by decide,by kernel_rfl,by kernel_rfl⟩
theorem qF2:decS (0:Int).toNat=strB [48]:=by have h:Lib.decDigits 0=[48]:=qqh (by omega);show(⟨⟨Lib.decDigits 0⟩⟩:By)=_;rw[h];rfl
theorem qF8 {u:By}{q:Nat}(h:Has u q hdB){T:List Tk}{r:Nat}(hT:T≠[])(hr:Rd u (q+hdB.size) T r):Rd u q (hdK++T) r:=by
 rw[qFP]at h hr;obtain⟨h,h10⟩:=qzL h;obtain⟨h,h9⟩:=qzL h;obtain⟨h,h8⟩:=qzL h;obtain⟨h,h7⟩:=qzL h;obtain⟨h,h6⟩:=qzL h;obtain⟨h,h5⟩:=qzL h;obtain⟨h,h4⟩:=qzL h;obtain⟨h,h3⟩:=qzL h;obtain⟨h,h2⟩:=qzL h;obtain⟨h0,h1⟩:=qzL h;simp only[ByteArray.size_append,bsz1]at *;simp only[← Nat.add_assoc]at *;exact qzO (S:=[wk ptB]) (qz8 (by kernel_rfl) h0 (qz7 h1 (by decide) rfl)) (qAc h1 (by simp) (qzO (S:=[wk seqB]) (qz8 (by kernel_rfl) h2 (qz7 h3 (by decide) rfl)) (qzO (S:=[lp]) (qz2 (by omega) (by decide) h3)
  (qzO (S:=[nk (strB [65])]) (qBj gn_A h4 (qz7 h5 (by decide) rfl)) (qAc h5 (by simp) (qzO (S:=[nk (strB [97])]) (qBj gn_a h6 (qz7 h7 (by decide) rfl)) (qzO (S:=[rp]) (qz2 (by omega) (by decide) h7)
  (qAc h8 (by simp) (qzO (S:=[wk whB]) (qz8 (by kernel_rfl) h9 (qz7 h10 (by decide) rfl)) (qAc h10 hT hr))))))))))
theorem qGb {u:By}{q:Nat}(h:Has u q tlB)(he:q+tlB.size=u.size):Rd u q tlK3 (q+tlB.size):=by
 rw[qFY]at h he ⊢;obtain⟨h,h7⟩:=qzL h;obtain⟨h,h6⟩:=qzL h;obtain⟨h,h5⟩:=qzL h;obtain⟨h,h4⟩:=qzL h;obtain⟨h,h3⟩:=qzL h;obtain⟨h,h2⟩:=qzL h;obtain⟨h0,h1⟩:=qzL h;simp only[ByteArray.size_append,bsz1]at *;simp only[← Nat.add_assoc]at *;have e:tlK3=[wk sgB]++([wk s3B]++([wk wiB]++[⟨3,strB [],0,0⟩])):=rfl;rw[e];have h8:=qBF qFW h7 (fun hq=>by rw[bsz1]at hq;omega);rw[bsz1]at h8;exact qAc h0 (by simp) (qzO (qz8 (by kernel_rfl) h1 (qz7 h2 (by decide) rfl)) (qAc h2 (by simp) (qzO (qz8 (by kernel_rfl) h3 (qz7 h4 (by decide) rfl)) (qAc h4 (by simp) (qzO (qz8 (by kernel_rfl) h5 (qz7 h6 (by decide) rfl))
  (qAc h6 (by simp) h8))))))
theorem qFc {M:By}{K:List Tk}(hK:K≠[])(hM:∀ (u:By) (q:Nat),Has u q M→Fo u (q+M.size)→Rd u q K (q+M.size)):
  ∃ L,yn ((hdB++M)++tlB) (((hdB++M)++tlB).size+1) 0=.inl (L++[endT ((hdB++M)++tlB)])∧L.map nop=hdK++(K++tlK3):=by
 obtain⟨u,hu0⟩:∃ u,u=(hdB++M)++tlB:=⟨_,rfl⟩
 have hu:Has u 0 ((hdB++M)++tlB):=by rw[hu0];exact qCH _
 have he:0+((hdB++M)++tlB).size=u.size:=by rw[hu0,Nat.zero_add]
 obtain⟨h1,h3⟩:=qzL hu;obtain⟨h1,h2⟩:=qzL h1;have hf:Fo u (0+hdB.size+M.size):=by
  rw[show 0+hdB.size+M.size=0+(hdB++M).size by rw[ByteArray.size_append];omega];have e:tlB=strB [32]++strB [83,84,82,65,84,69,71,89,32,65,78,89,32,87,73,84,72,73,78,32,48]:=by kernel_rfl
  rw[e]at h3;exact qF4 h3
 have r2:=hM u _ h2 hf;rw[show 0+hdB.size+M.size=0+(hdB++M).size by rw[ByteArray.size_append];omega]at r2;have he3:0+(hdB++M).size+tlB.size=u.size:=by rw[← he,ByteArray.size_append (a:=hdB++M)];omega
 have r3:=qGb h3 he3;rw[he3]at r3;rw[← hu0];exact qCy u _ _ _ _ (by omega) (by omega) (qF8 h1 (by cases K with|nil=>exact absurd rfl hK|cons k K=>simp) (qzO r2 r3)) (zk fun hq=>by omega)
theorem qFa {L:List Tok}{K:List Tk}(h:At L 0 (hdK++(K++tlK3)))(he:(tkA L (hdK++(K++tlK3)).length).kind=0){n:Nat}{out:PO}(hp:pp L n (.p 0 7 0)=some out)(hj:∀ y j,out=.ok y j→j=7+K.length):
  (∀ p e,out=.err p e→qz1 L n=some (.inl (p,e)))∧∀ y j,out=.ok y j→∃ q,qz1 L n=some (.inr q)∧q.wh=qzU y:=by
 have h0:At L 0 (wk ptB::(brK [⟨1,strB [65],strB [97],0⟩]++(wk whB::(K++tlK3)))):=h;have h1:=(qzM h0).2;obtain⟨b',g1,_⟩:=qAx (l:=[⟨1,strB [65],strB [97],0⟩]) (by simp) (by simp) (fun x hx=>by rw[aV]at hx;subst hx;exact⟨.inl rfl,gn_A,gn_a⟩) (nb:=0) (by omega) h1;have h2:=(qAh h1).2;have h2:At L 6 (wk whB::(K++tlK3)):=h2;have g1:qzP L 0 1=some (.inr (b',6)):=g1;have hor:qzN L 4 [b'] 6=some (.inr ([b'],6)):=by unfold qzN;rw[qAi (at_1 h2) (s:=orB) (by kernel_rfl)];rfl
 have hwh:isW (tkA L 6) whB=true:=qA6 (at_1 h2);have hq:qz1 L n=(match qzV L n 6 with
   |none=>none
   |some (.inl e)=>some (.inl e)
   |some (.inr (wh,j))=>some (qAu L [b'] wh j)):=by
  unfold qz1;rw[qA9 (at_1 h0)];simp only;rw[show(0+1:Nat)=1 from rfl,g1];simp only;rw[hor];rfl
 constructor
 · rintro p e rfl
   rw[hq];unfold qzV;rw[hwh,ah,hp]
 ·
  rintro y j rfl
  have ej:=hj y j rfl;subst ej;have h3:=(qzM h2).2;have h4:=(qAh h3).2;obtain⟨ka,t1⟩:∃ ka,qAg L (7+K.length)=.inr (⟨3,0,strB [],ka⟩,7+K.length+tlK3.length):=by
   have hr:RgQ ⟨[[⟨1,strB [65],strB [97],0⟩]],[],3,0,strB [],0⟩:=⟨⟨by simp,by simp⟩,fun l hl=>by rw[aV]at hl;subst hl;exact⟨by simp,by simp,fun x hx=>by rw[aV]at hx;subst hx;exact⟨.inl rfl,gn_A,gn_a⟩⟩,by simp,fun _ _ e=>(by cases e),.inr (.inr rfl),⟨by decide,by decide,by show Own _ (decS (0:Int).toNat);rw[qF2];exact qFW⟩,.inl rfl,by decide⟩
   exact qCA hr (L:=L) (i:=7+K.length) h4 (by
    have e:(hdK++(K++tlK3)).length=7+K.length+(tlK 3 0 (strB [])).length:=by simp only[List.length_append,hdK,List.length_cons,List.length_nil,tlK3];omega
    rw[e]at he;exact he)
  have hk:((tkA L (7+K.length+tlK3.length)).kind != 0)=false:=by
   have e:(hdK++(K++tlK3)).length=7+K.length+tlK3.length:=by simp only[List.length_append,hdK,List.length_cons,List.length_nil];omega
   rw[e]at he;rw[he];rfl
  refine⟨⟨[b'],qzU y,3,0,strB [],ka⟩,?_,rfl⟩;rw[hq];unfold qzV;rw[hwh,ah,hp];simp only;unfold qAu;rw[t1];simp only;rw[hk];rfl
theorem qEX {x:Ex}(h:Rg x):cnts (qzU x)+((qzU x).length-1)=cnt x:=by
 induction h with
 |leaf h=>rename_i op n s a b p;rw[qzR (show(lit op n s a b p).op≠13 by show op≠13;unfold LfOk at h;omega)];simp[cnts]
 |una h hx ih=>rename_i op x p;rw[qzR (show(una op x p).op≠13 by show op≠13;omega)];simp[cnts]
 |two h hx hy ihx ihy=>
  rename_i op x y p;by_cases h13:op=13
  · subst h13;have h1:=List.length_pos_iff.2 (qDt hx).1;have h2:=List.length_pos_iff.2 (qDt hy).1;rw[qz4,qBr,qiA,List.length_append];omega
  · rw[qzR (show(two op x y p).op≠13 from h13)];simp[cnts]
theorem qE3 {M:By}{K:List Tk}(hs:((hdB++M)++tlB).size≤4000)(hK:K≠[])(hM:∀ (u:By) (q:Nat),Has u q M→Fo u (q+M.size)→Rd u q K (q+M.size)){P:PO→Prop}(hp:∀ L:List Tok,At L 7 (K++tlK3)→∃ n out,pp L n (.p 0 7 0)=some out∧(∀ y j,out=.ok y j→j=7+K.length)∧P out):
  ∃ n out t,P out∧parQ ((hdB++M)++tlB) n=some t∧(∀ p e,out=.err p e→t=(q0,p,e))∧∀ y j,out=.ok y j→∃ q,q.wh=qzU y∧t=if qu2 q≤200 then(q,0,0)else(q0,0,2):=by
 obtain⟨L,h1,h2⟩:=qFc hK hM;generalize he:endT ((hdB++M)++tlB)=e at h1;have hlen:(hdK++(K++tlK3)).length=L.length:=by rw[← h2,List.length_map]
 have hat:At (L++[e]) 0 (hdK++(K++tlK3)):=fun k t hk=>by rw[← h2]at hk;obtain⟨u,hu,rfl⟩:=aH .. ▸ hk |> aG.1;have hlt:=(az.1 hu).1;rw[Nat.zero_add,qle hlt];unfold tkA;rw[hu];rfl
 have hend:(tkA (L++[e]) (hdK++(K++tlK3)).length).kind=0:=by rw[hlen,qkE,← he];rfl
 obtain⟨n,out,p1,p2,p3⟩:=hp (L++[e]) (qAh hat).2;obtain⟨a1,a2⟩:=qFa hat hend p1 p2;cases out with
 |err p er=>refine⟨n,_,(q0,p,er),p3,?_,fun p' e' h=>(by cases h;rfl),fun y j h=>(by cases h)⟩;unfold parQ;rw[aD hs,h1];simp only[a1 p er rfl,av,outQ]
 |ok y j=>obtain⟨q,b1,b2⟩:=a2 y j rfl;refine⟨n,_,if qu2 q≤200 then(q,0,0)else(q0,0,2),p3,?_,fun p' e' h=>(by cases h),fun y' j' h=>(by cases h;exact⟨q,b2,rfl⟩)⟩;unfold parQ;rw[aD hs,h1];simp only[b1,av,outQ]
end Ab
end Go.Proofs.YtpdhhkfllkgahaaGreatDoor

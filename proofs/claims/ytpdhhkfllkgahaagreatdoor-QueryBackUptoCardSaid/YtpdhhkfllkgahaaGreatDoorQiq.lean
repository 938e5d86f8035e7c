/-
  QueryBack: what is read is printed, and read again as it was.
-/
import Derived.Test.YtpdhhkfllkgahaaGreatDoorQhq
set_option linter.all false
namespace Go.Proofs.YtpdhhkfllkgahaaGreatDoor
namespace Ab
theorem qBr:∀ (l m:List Ex),cnts (l++m)=cnts l+cnts m
 |[],m=>by simp[cnts]
 |x::l,m=>by rw[List.cons_append,cnts,cnts,qBr l m];omega
theorem qBU {x:Ex}(h:Rg x):cnts (qzU x)≤cnt x:=by
 have one:∀ x:Ex,x.op≠13→cnts (qzU x)≤cnt x:=fun x h=>by rw[qzR h];simp[cnts]
 induction h with
 |leaf h=>rename_i op n s a b p;exact one _ (show op≠13 by unfold LfOk at h;omega)
 |una h hx ih=>rename_i op x p;exact one _ (show op≠13 by omega)
 |two h hx hy ihx ihy=>
  rename_i op x y p;by_cases h13:op=13
  · subst h13;rw[qz4,qBr,qiA];omega
  · exact one _ h13
theorem qCu [vo]{L:List Tok}(hT:TsOk L)(hL:L.length<5000){n:Nat}{q:Qu}(h:qz1 L n=some (.inr q)):Few q:=by
 unfold qz1 at h;cases h1:qzQ L ptB 0 with
 |inl x=>rw[h1]at h;cases h
 |inr m=>
  rw[h1]at h;simp only at h;cases hb:qzP L 0 m with
  |none=>rw[hb]at h;cases h
  |some ob=>
   rw[hb]at h
   match ob,hb,h with
   |.inr (b,j),hb,h=>
    simp only at h;cases hs:qzN L 4 [b] j with
    |none=>rw[hs]at h;cases h
    |some o=>
     rw[hs]at h
     match o,hs,h with
     |.inr (br,k),hs,h=>
      simp only at h;cases hw:qzV L n k with
      |none=>rw[hw]at h;cases h
      |some w=>
       rw[hw]at h
       match w,hw,h with
       |.inr (wh,j),hw,h=>
        simp only[qAu,aa]at h;cases ht:qAg L j with
        |inl x=>rw[ht]at h;cases h
        |inr t=>
         rw[ht]at h;simp only at h;cases h3:((tkA L t.2).kind != 0)with
         |true=>rw[h3]at h;cases h
         |false=>
          rw[h3]at h;cases h;have r1:=qAk hT 4 [b] _ _ _ (by simp) (fun c hc=>by rw[aV]at hc;subst hc;exact qAy hT hb) hs;refine⟨by have:=qz9 _ _ _ _ _ rfl hs;show br.length<_;omega,fun l hl=>by have:=(r1.2 l hl).2.1;omega,?_⟩;show cnts wh<_;unfold qzV at hw;cases ho:isW (tkA L k) whB with
          |false=>rw[ho]at hw;cases hw;simp[cnts]
          |true=>
           rw[ho]at hw;simp only[ah]at hw;cases hp:pp L n (.p 0 (k+1) 0)with
           |none=>rw[hp]at hw;cases hw
           |some r=>
            rw[hp]at hw
            match r,hp,hw with
            |.ok y k',hp,hw=>cases hw;have ne:=(qCK hT n).1 0 (k+1) 0 y j (by omega) (by omega) hp;have hc:=(qjS L n).1 0 (k+1) 0 y j (by omega) hp;have hj:=(qeh L n).1 0 (k+1) 0 y j (by omega) hp;have hLm:=qnp L;have:=qBU ne.1;omega
theorem qAJ (l:List (List It)):qG (zf l)=zf l:=by rw[Yr];simp only[zf,List.map_map];refine List.map_congr_left fun b _=>?_;show [immC (.imm (xe b))]=_;simp[immC,qvJ]
section
variable [vo]
def R8of (t:Qu×Int×Int)(r:R8):Prop:=r=.inl (zf t.1.br,qg t.1.wh,t.1.st,t.1.wd,t.1.key,t.1.ka,t.2.1,t.2.2)∨t.1=q0∧r=.inr (0,0,strB [],0,t.2.1,t.2.2)
theorem qEg {s:By}{n:Nat}{t:Qu×Int×Int}(h:parQ s n=some t):∃ r,Tot (fun k=>g8 k s) r∧R8of t r:=by
 have bad:∀ (p e:Int),e≠0→Goes qbD (.h0 [] (e != 0) e p 0 0 (strB []) 0) (.inl ([],[],0,0,strB [],0,p,e)):=fun p e he=>by
  have:(e != 0)=true:=by simpa using he
  rw[this];have s1:Goes qbD (.h1 e p [] [] 0 0 (strB []) 0) (.inl ([],[],0,0,strB [],0,p,e)):=.fin0 fun k rec=>rfl;exact .rec0 s1 fun k rec=>rfl
 unfold parQ at h;split at h
 ·
  rename_i hs;have sc:=qD1 hs;rw[qjQ]at sc;cases hT:yn s (s.size+1) 0 with
  |inr z=>rw[hT]at h sc;cases h;exact⟨_,Goes.of2 (step:=qbD) (s:=.e s) sc (bad z 12 (by omega)) fun k b b2=>by simp only[qbD,b,qAd,ae,altC,tup2];exact b2,.inl rfl⟩
  |inl L=>
   have ts:=qEx hs hT;rw[hT]at h sc;simp only at h;obtain⟨T,rfl,hk,hl⟩:=vE s _ _ _ (Nat.zero_le _) hT;have hE:Lm (T++[endT s])+1=(T++[endT s]).length:=by rw[qka];simp
   have hL:(T++[endT s]).length<5000:=by simp;omega
   generalize T++[endT s]=L at h sc ts hE hL;cases hq:qz1 L n with
   |none=>rw[hq]at h;cases h
   |some out=>
    rw[hq]at h;cases h;obtain⟨r,rd,hr⟩:=qDx hE hL ts hq;have sc':Tot (fun k=>g19 k s) (.inl (rwT L,0,0)):=by
     have:qAd [] (.inl (rwT L))=.inl (rwT L,0,0):=by show(Sum.inl (qG ([]++rwT L),0,0):R19)=_;rw[List.nil_append,qlr]
     rw[← this];exact sc
    have into:∀ r,Goes qbD (.h2 (rwT L) 0 [] [] 0 0 (strB []) 0 0 0 0 0 (strB []) 0) r→Tot (fun k=>g8 k s) r:=fun r h=>by have s1:Goes qbD (.h0 (rwT L) false 0 0 0 0 (strB []) 0) r:=.rec0 h fun k rec=>rfl;exact Goes.of2 (step:=qbD) (s:=.e s) sc' s1 fun k b b2=>by simp only[qbD,b,ae,altC,tup3];exact b2
    cases out with
    |inl er=>obtain⟨p,e⟩:=er;obtain⟨x1,x2,x3,x4,x5,x6,x7,x8,rfl⟩:=hr;refine⟨.inr (0,0,strB [],0,p,e),into _ (.of1 rd fun k b=>?_),.inr ⟨rfl,rfl⟩⟩;simp only[qbD,b,ae,altC,ql]
    |inr q=>
     obtain⟨j,rfl⟩:=hr;have nd:=qyS (qCu ts hL hq);unfold outQ;simp only;by_cases hn:qu2 q≤200
     · rw[aD hn];have s1:Goes qbD (.h4 0 0 (zf q.br) (qg q.wh) q.st q.wd q.key q.ka) (.inl (zf q.br,qg q.wh,q.st,q.wd,q.key,q.ka,0,0)):=.fin0 fun k rec=>rfl;refine⟨_,into _ (.of3 rd nd s1 fun k b b2 b3=>?_),.inl rfl⟩;simp only[qbD,b,ae,altC,tup8,qAJ,qvu,b2,show decide (((qu2 q:Nat):Int)>200)=false from aN (by omega),af];exact b3
     · rw[aF hn];have s1:Goes qbD (.h3 2 0 [] [] 0 0 (strB []) 0) (.inl ([],[],0,0,strB [],0,0,2)):=.fin0 fun k rec=>rfl;refine⟨_,into _ (.of3 rd nd s1 fun k b b2 b3=>?_),.inl rfl⟩;simp only[qbD,b,ae,altC,tup8,qAJ,qvu,b2,show decide (((qu2 q:Nat):Int)>200)=true from aO (by omega),ah];exact b3
 · rename_i hs;cases h;exact⟨_,Goes.of2 (step:=qbD) (s:=.e s) (qCF hs) (bad 0 2 (by omega)) fun k b b2=>by simp only[qbD,b,ae,altC,tup3];exact b2,.inl rfl⟩
theorem qDE (s:By){n:Nat}(hn:90000≤n):∃ t,parQ s n=some t:=by
 unfold parQ;by_cases hs:s.size≤4000
 ·
  rw[aD hs];cases hT:yn s (s.size+1) 0 with
  |inr z=>exact⟨_,rfl⟩
  |inl L=>obtain⟨T,rfl,hk,hl⟩:=vE s _ _ _ (Nat.zero_le _) hT;obtain⟨out,ho⟩:=qCM (L:=T++[endT s]) (by simp;omega) (n:=n) (by omega);simp only[ho];exact⟨_,rfl⟩
 · rw[aF hs];exact⟨_,rfl⟩
theorem qBm {s:By}{n:Nat}{q:Qu}{a:Int}(h:parQ s n=some (q,a,0)):RgQ q:=by
 unfold parQ at h;split at h
 ·
  rename_i hs;cases hT:yn s (s.size+1) 0 with
  |inr z=>rw[hT]at h;simp at h
  |inl L=>
   have ts:=qEx hs hT;rw[hT]at h;simp only at h;cases hq:qz1 L n with
   |none=>rw[hq]at h;cases h
   |some out=>
    rw[hq]at h;simp only[av,aa]at h;cases out with
    |inl er=>obtain⟨p,e⟩:=er;simp only[outQ,ai]at h;have he:=qCt hq;obtain⟨_,_,rfl⟩:=h;unfold ErOk at he;omega
    |inr q'=>
     simp only[outQ]at h;split at h
     · rename_i hn;simp only[ai]at h;obtain⟨rfl,_⟩:=h;exact qCN ts hq hn
     · simp at h
 · simp at h
theorem qCr {q:Qu}(h:RgQ q)(hs:(quT q).size≤4000):∃ n q',parQ (quT q) n=some (q',0,0)∧qvX q' q=true:=by
 obtain⟨L,h1,h2⟩:=qDN h;generalize he:endT (quT q)=e at h1;have hlen:(quK q).length=L.length:=by rw[← h2,List.length_map]
 have hat:At (L++[e]) 0 (quK q):=fun k t hk=>by rw[← h2]at hk;obtain⟨u,hu,rfl⟩:=aH .. ▸ hk |> aG.1;have hlt:=(az.1 hu).1;rw[Nat.zero_add,qle hlt];unfold tkA;rw[hu];rfl
 have hend:(tkA (L++[e]) (quK q).length).kind=0:=by rw[hlen,qkE,← he];rfl
 obtain⟨n,q',g1,g2,g3⟩:=qBM h hat hend;refine⟨n,q',?_,g2⟩;unfold parQ;rw[aD hs,h1];simp only[g1,av,outQ];rw[aD (by have:=h.nd;omega)]
theorem qDo {q:Qu}(hs:¬ 4000<(quT q).size):prQ q=(quT q,0):=aF hs
theorem qEh {s:By}{n:Nat}{q:Qu}{a:Int}(h:parQ s n=some (q,a,0)):Tot (fun k=>g8 k s) (.inl (zf q.br,qg q.wh,q.st,q.wd,q.key,q.ka,a,0)):=by
 obtain⟨r,t,hr⟩:=qEg h;rcases hr with rfl|⟨e,_⟩
 · exact t
 · have:=(qBm h).br.1;simp only at e;rw[e]at this;exact absurd rfl this
theorem qBL (s:By):Tot (fun k=>g5 k s) true:=by
 obtain⟨⟨q,a,e⟩,h⟩:=qDE s (n:=90000) (by omega);have t7:Tot (fun k=>g7 k) true:=qjj 200 awk;by_cases he:e=0
 ·
  subst he;have hr:=qBm h;have t1:=qEh h;have p1:=qBc hr;have into:Goes Qq (.h0 false (zf q.br) (qg q.wh) q.st q.wd q.key q.ka) true→Tot (fun k=>g5 k s) true:=fun h0=>Goes.of3 (step:=Qq) (s:=.e s) t1 t7 h0 fun k b b2 b3=>by simp only[Qq,b,ae,altC,tup8,b2,aj,af];exact b3
  refine into ?_;by_cases hs:4000<(quT q).size
  · have e1:prQ q=(strB [],2):=aD hs;rw[e1]at p1;refine .of1 p1 fun k b=>?_;simp only[Qq,af,b,ae,tup2];rfl
  · rw[qDo hs]at p1;obtain⟨n,q',h2,h3⟩:=qCr hr (by omega);have hr2:=qBm h2;have p2:=qBc hr2;have e2:=qDI h3;rw[qDo (by rw[e2];exact hs),e2]at p2;have t10:=qtr q (qC2 hr2);rw[h3]at t10;refine .of4 p1 (qEh h2) p2 t10 fun k b b2 b3 b4=>?_;simp only[Qq,af,b,ae,tup2,show((0:Int)!=0)=false from rfl,b2,altC,tup8,b3,show((0:Int)==0)=true from rfl,ah,beq_self_eq_true,b4]
 ·
  obtain⟨r,t1,hr⟩:=qEg h;have hb:(e != 0)=true:=by simpa using he
  rcases hr with rfl|⟨_,rfl⟩
  · have out:Goes Qq (.h0 true (zf q.br) (qg q.wh) q.st q.wd q.key q.ka) true:=.of1 t7 fun k b=>by simp only[Qq,ah,b,ae]
    refine Goes.of3 (step:=Qq) (s:=.e s) t1 t7 out fun k b b2 b3=>?_;simp only[Qq,b,ae,altC,tup8,b2,aj,af,hb];exact b3
  · have out:Goes Qq (.h0 true [] [] 0 0 (strB []) 0) true:=.of1 t7 fun k b=>by simp only[Qq,ah,b,ae]
    refine Goes.of3 (step:=Qq) (s:=.e s) t1 t7 out fun k b b2 b3=>?_;simp only[Qq,b,ae,altC,tup6,b2,aj,af,hb];exact b3
end
end Ab
end Go.Proofs.YtpdhhkfllkgahaaGreatDoor

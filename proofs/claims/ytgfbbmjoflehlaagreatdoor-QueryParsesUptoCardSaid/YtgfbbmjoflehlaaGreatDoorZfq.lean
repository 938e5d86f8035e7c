/-
  Read and Parse of the program and of the document: the same.
-/
import Derived.Test.YtgfbbmjoflehlaaGreatDoorZeq
set_option linter.all false
namespace Go.Proofs.YtgfbbmjoflehlaaGreatDoor
namespace Ab
theorem qtW {s p}(hp:p<s.size){t e}(h:tok s p=some (t,e))(q):TW (mkT t q):=by
 have he:=qeR hp h;have no:∀ {a b:Int},a=b->(a==b)=false->False:=fun h1 h2=>by grind
 have c1:∀ {t:Tk} {k:Int},t.kind=k->(k==1)=false->(k==6)=false->TW (mkT t q):=fun h1 h2 h3=>⟨fun h=>(no (h1.symm.trans h) h2).elim,fun h=>(no (h1.symm.trans h) h3).elim⟩
 unfold tok at h;split at h
 .
  rename_i hl;unfold qd6 at h;split at h
  . cases h;refine⟨fun _=>?_,fun hk=>by cases hk⟩;show isLe (bAt (s.extract p (stop isNm s p)) 0)=true;rw[Qz he.2 (by omega)];exact hl
  . split at h
    . cases h;grind
    grind
 .
  rename_i hl;split at h
  . unfold Zt at h
    repeat' split at h
    all_goals first|(cases h;done)|(cases h;grind)
  .
   split at h
   . unfold qdt at h;split at h
     . cases h;grind
     grind
   .
    unfold qav at h;split at h
    . cases h
    . cases h;refine⟨fun hk=>(by cases hk),fun _=>?_⟩;show isLe (bAt (s.extract p (p+vR s p)) 0)=false;rw[Qz he.2 (by omega)]
      grind
theorem qqX (s):∀ n p L,p<=s.size->yn s n p=.inl L->∀ t∈L,TW t
 |0,_,_,_,h=>by cases h
 |n+1,p,L,hp,h=>by
  unfold yn at h;split at h
  . cases h;intro t ht;rw[aV]at ht;subst ht;exact⟨fun h=>(by cases h),fun h=>(by cases h)⟩
  .
   rename_i hne;have hz:stop isBl s p<s.size:=by have:=yQ (f:=isBl) hp;omega
   cases ht:tok s (stop isBl s p)with
   |none=>grind
   |some x=>
    obtain⟨t,e⟩:=x;rw[ht]at h;have he:=qeR hz ht;cases hs:yn s n e with
    |inr z=>simp only[hs,pfT]at h;cases h
    |inl L2=>
     simp only[hs,pfT]at h;cases h;intro u hu;rcases List.mem_cons.1 hu with rfl|hu
     . exact qtW hz ht _
     . exact qqX s n e L2 he.2 hs u hu
theorem quO {s}(hs:s.size<=4000){L}(h:yn s (s.size+1) 0=.inl L):TL L/\Lm L+1=L.length:=by
 have tw:=qqX s _ _ _ (Nat.zero_le _) h;obtain⟨T,rfl,hk,hl⟩:=vE s _ _ _ (Nat.zero_le _) h;have hlen:(T++[endT s]).length=T.length+1:=by simp
 have hm:Lm (T++[endT s])=T.length:=by unfold Lm;rw[aD (by rw[hlen];simp[tkA,endT])];omega
 refine⟨⟨by omega,by omega,fun i=>?_⟩,by omega⟩;unfold tkA;cases e:(T++[endT s])[i]? with
 |none=>exact⟨fun h=>(by cases h),fun h=>(by cases h)⟩
 |some t=>grind
section
variable [vo]
def rX (x:Ex)(j p e:Int):R53:=(x.op,qg x.args,x.n,x.scale,x.name,x.attr,x.pos,j,p,e)
def RD (L:List Tok):PO->R53
 |.err p e=>rX z0 0 p e
 |.ok x j=>rX x j 0 0
theorem qDI {L}(hL:TL L){i}(hi:i<=Lm L){n out}(h:pp L n (.p 0 i 0)=some out):Tot (fun k=>g53 k (rwT L) i) (RD L out):=by
 have hen:=hL.en;obtain⟨r,h1,h2⟩:=(xw hL n).1 0 i 0 out (by omega) hi (by omega) h;have a1:Tot (fun k=>g84 k 1 (rwT L) i 0 0 0) r:=by obtain⟨N,hN⟩:=h1;exact⟨N,fun k hk=>by have:=hN k hk;show qvb (itS quY k (.e_84 1 (rwT L) i 0 0 0))=some r;simp only at this;have e:((0:Nat):Int)=0:=rfl;rw[e]at this;have e2:(((0+1:Nat):Int))=1:=rfl;rw[e2]at this;rw[this];rfl⟩
 have nz:∀ {p e:Int},out=.err p e->(e != 0)=true:=fun {p e} h3=>by
  subst h3;have:e≠0:=by rcases qix L n _ _ _ h with h|h<;>omega
  grind
 have dd:decide ((i:Int)>=((rwT L).length:Int))=false:=aN (by rw[qhr];omega);have dl:decide ((i:Int)<0)=false:=aN (by omega);have into:∀ {r},Goes qst (.h0 (rwT L) i false 0 0 0 (strB []) (strB []) 0) r->Goes qst (.e (rwT L) i) r:=fun h=>.rec0 h fun k rec=>by simp only[nt,qst,dl,dd,af]
 cases out with
 |err p e=>
  have he:=nz rfl;have s4:Goes qst (.h4 0 p e 0 [] 0 0 (strB []) (strB []) 0) (RD L (.err p e)):=.fin0 fun k rec=>rfl;have s2:∀ n b1 o p' q t u v w x,Goes qst (.h2 (e != 0) n b1 o p' q t u v w x e p 0 0 0 (strB []) (strB []) 0) (RD L (.err p e)):=fun _ _ _ _ _ _ _ _ _ _=>.rec0 s4 fun k rec=>by simp only[nt,qst,he,ah]
  have s3:∀ n b1 o p' q t u v w x,Goes qst (.h3 (e != 0) n b1 o p' q t u v w x e p 0 0 0 (strB []) (strB []) 0) (RD L (.err p e)):=fun _ _ _ _ _ _ _ _ _ _=>.rec0 s4 fun k rec=>by simp only[nt,qst,he,ah]
  rcases h2 with⟨a,b,c,d,d',f,i',o',rfl⟩|⟨t',⟨a,R,b,c,d,d',f,i',o',rfl⟩,rfl⟩|⟨t',⟨a,R,b,c,d,d',f,i',o',rfl⟩,rfl⟩
  . exact into (.of2 a1 (s2 _ _ _ _ _ _ _ _ _ _) fun k b b2=>by simp only[nt,qst,af,b,ae,altC,qoG];exact b2)
  . exact into (.of2 a1 (s2 _ _ _ _ _ _ _ _ _ _) fun k b b2=>by simp only[nt,qst,af,b,ae,altC,zu];exact b2)
  . exact into (.of2 a1 (s3 _ _ _ _ _ _ _ _ _ _) fun k b b2=>by simp only[nt,qst,af,b,ae,altC,zu];exact b2)
 |ok x j=>
  have s5:Goes qst (.h5 j 0 0 x.op (qg x.args) x.n x.scale x.name x.attr x.pos) (RD L (.ok x j)):=.fin0 fun k rec=>rfl;rcases h2 with⟨R,hR,rfl⟩|rfl
  . have s2:Goes qst (.h2 ((0:Int)!=0) x.op R x.n x.scale x.name x.attr x.pos (rwT L) j 0 0 0 0 0 0 (strB []) (strB []) 0) (RD L (.ok x j)):=.rec0 s5 fun k rec=>by simp only[nt,qst,bne_self_eq_false,af,hR]
    exact into (.of2 a1 s2 fun k b b2=>by simp only[nt,qst,af,b,ae,altC,zu];exact b2)
  . have s3:Goes qst (.h3 ((0:Int)!=0) x.op (qg x.args) x.n x.scale x.name x.attr x.pos (rwT L) j 0 0 0 0 0 0 (strB []) (strB []) 0) (RD L (.ok x j)):=.rec0 s5 fun k rec=>by simp only[nt,qst,bne_self_eq_false,af]
    exact into (.of2 a1 s3 fun k b b2=>by simp only[nt,qst,af,b,ae,altC,zu];exact b2)
end
end Ab
end Go.Proofs.YtgfbbmjoflehlaaGreatDoor

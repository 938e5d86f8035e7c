/-
  Read and Parse of the program and of the document: the same.
-/
import Derived.Test.YtfekohpjaafnhaaGreatDoorZeq
set_option linter.all false
namespace Go.Proofs.YtfekohpjaafnhaaGreatDoor
namespace Ab
theorem qtW {s:ByteArray}{p:Nat}(hp:p<s.size){t:Tk}{e:Nat}(h:tok s p=some (t,e))(q:Nat):TW (mkT t q):=by
 have he:=qeR hp h;have no:∀ {a b:Int},a=b→(a==b)=false→False:=fun h1 h2=>by subst h1;simp at h2
 have c1:∀ {t:Tk} {k:Int},t.kind=k→(k==1)=false→(k==6)=false→TW (mkT t q):=fun h1 h2 h3=>⟨fun h=>(no (h1.symm.trans h) h2).elim,fun h=>(no (h1.symm.trans h) h3).elim⟩
 unfold tok at h;split at h
 ·
  rename_i hl;unfold qd6 at h;split at h
  · cases h;refine⟨fun _=>?_,fun hk=>by cases hk⟩;show isLe (bAt (s.extract p (stop isNm s p)) 0)=true;rw[Qz he.2 (by omega)];exact hl
  · split at h
    · cases h;exact c1 rfl rfl rfl
    · cases h
 ·
  rename_i hl;split at h
  · unfold Zt at h
    repeat' split at h
    all_goals first|(cases h;done)|(cases h;exact c1 rfl rfl rfl)
  ·
   split at h
   · unfold qdt at h;split at h
     · cases h;exact c1 rfl rfl rfl
     · cases h
   · unfold qav at h;split at h
     · cases h
     · cases h;refine⟨fun hk=>(by cases hk),fun _=>?_⟩;show isLe (bAt (s.extract p (p+vR s p)) 0)=false;rw[Qz he.2 (by omega)];simpa using hl
theorem qqX (s:ByteArray):∀ n p L,p≤s.size→yn s n p=.inl L→∀ t∈L,TW t
 |0,_,_,_,h=>by cases h
 |n+1,p,L,hp,h=>by
  unfold yn at h;split at h
  · cases h;intro t ht;rw[aV]at ht;subst ht;exact⟨fun h=>(by cases h),fun h=>(by cases h)⟩
  ·
   rename_i hne;have hz:stop isBl s p<s.size:=by have:=yQ (f:=isBl) hp;omega
   cases ht:tok s (stop isBl s p)with
   |none=>rw[ht]at h;cases h
   |some x=>
    obtain⟨t,e⟩:=x;rw[ht]at h;have he:=qeR hz ht;cases hs:yn s n e with
    |inr z=>simp only[hs,pfT]at h;cases h
    |inl L2=>
     simp only[hs,pfT]at h;cases h;intro u hu;rcases List.mem_cons.1 hu with rfl|hu
     · exact qtW hz ht _
     · exact qqX s n e L2 he.2 hs u hu
theorem quO {s:ByteArray}(hs:s.size≤4000){L:List Tok}(h:yn s (s.size+1) 0=.inl L):TL L∧Lm L+1=L.length:=by
 have tw:=qqX s _ _ _ (Nat.zero_le _) h;obtain⟨T,rfl,hk,hl⟩:=vE s _ _ _ (Nat.zero_le _) h;have hlen:(T++[endT s]).length=T.length+1:=by simp
 have hm:Lm (T++[endT s])=T.length:=by unfold Lm;rw[aD (by rw[hlen];simp[tkA,endT])];omega
 refine⟨⟨by omega,by omega,fun i=>?_⟩,by omega⟩;unfold tkA;cases e:(T++[endT s])[i]? with
 |none=>exact⟨fun h=>(by cases h),fun h=>(by cases h)⟩
 |some t=>exact tw t (aM e)
section
variable [vo]
def rX (x:Ex)(j p e:Int):R13:=(x.op,qg x.args,x.n,x.scale,x.name,x.attr,x.pos,j,p,e)
def RD (L:List Tok):PO→R13
 |.err p e=>rX z0 0 p e
 |.ok x j=>rX x j 0 0
theorem qtu {L:List Tok}(hL:TL L){i:Nat}(hi:i≤Lm L){n:Nat}{out:PO}(h:pp L n (.p 0 i 0)=some out):Tot (fun k=>g13 k (rwT L) i) (RD L out):=by
 have hen:=hL.en;obtain⟨r,h1,h2⟩:=(xw hL n).1 0 i 0 out (by omega) hi (by omega) h;have a1:Tot (fun k=>g25 k 1 (rwT L) i 0 0 0) r:=by obtain⟨N,hN⟩:=h1;exact⟨N,fun k hk=>by have:=hN k hk;show qoJ (itS qjZ k (.e_25 1 (rwT L) i 0 0 0))=some r;simp only at this;have e:((0:Nat):Int)=0:=rfl;rw[e]at this;have e2:(((0+1:Nat):Int))=1:=rfl;rw[e2]at this;rw[this];rfl⟩
 have nz:∀ {p e:Int},out=.err p e→(e != 0)=true:=fun {p e} h3=>by
  subst h3;have:e≠0:=by rcases qix L n _ _ _ h with h|h<;>omega
  simpa using this
 have dd:decide ((i:Int)≥((rwT L).length:Int))=false:=aN (by rw[qhr];omega);have dl:decide ((i:Int)<0)=false:=aN (by omega);have into:∀ {r},Goes zx (.h0 (rwT L) i false 0 0 0 (strB []) (strB []) 0) r→Goes zx (.e (rwT L) i) r:=fun h=>.rec0 h fun k rec=>by simp only[zx,dl,dd,af]
 cases out with
 |err p e=>
  have he:=nz rfl;have s4:Goes zx (.h4 0 p e 0 [] 0 0 (strB []) (strB []) 0) (RD L (.err p e)):=.fin0 fun k rec=>rfl;have s2:∀ n b1 o p' q t u v w x,Goes zx (.h2 (e != 0) n b1 o p' q t u v w x e p 0 0 0 (strB []) (strB []) 0) (RD L (.err p e)):=fun _ _ _ _ _ _ _ _ _ _=>.rec0 s4 fun k rec=>by simp only[zx,he,ah]
  have s3:∀ n b1 o p' q t u v w x,Goes zx (.h3 (e != 0) n b1 o p' q t u v w x e p 0 0 0 (strB []) (strB []) 0) (RD L (.err p e)):=fun _ _ _ _ _ _ _ _ _ _=>.rec0 s4 fun k rec=>by simp only[zx,he,ah]
  rcases h2 with⟨a,b,c,d,d',f,i',o',rfl⟩|⟨t',⟨a,R,b,c,d,d',f,i',o',rfl⟩,rfl⟩|⟨t',⟨a,R,b,c,d,d',f,i',o',rfl⟩,rfl⟩
  · exact into (.of2 a1 (s2 _ _ _ _ _ _ _ _ _ _) fun k b b2=>by simp only[zx,af,b,ae,altC,qoG];exact b2)
  · exact into (.of2 a1 (s2 _ _ _ _ _ _ _ _ _ _) fun k b b2=>by simp only[zx,af,b,ae,altC,zu];exact b2)
  · exact into (.of2 a1 (s3 _ _ _ _ _ _ _ _ _ _) fun k b b2=>by simp only[zx,af,b,ae,altC,zu];exact b2)
 |ok x j=>
  have s5:Goes zx (.h5 j 0 0 x.op (qg x.args) x.n x.scale x.name x.attr x.pos) (RD L (.ok x j)):=.fin0 fun k rec=>rfl;rcases h2 with⟨R,hR,rfl⟩|rfl
  · have s2:Goes zx (.h2 ((0:Int)!=0) x.op R x.n x.scale x.name x.attr x.pos (rwT L) j 0 0 0 0 0 0 (strB []) (strB []) 0) (RD L (.ok x j)):=.rec0 s5 fun k rec=>by simp only[zx,bne_self_eq_false,af,hR]
    exact into (.of2 a1 s2 fun k b b2=>by simp only[zx,af,b,ae,altC,zu];exact b2)
  · have s3:Goes zx (.h3 ((0:Int)!=0) x.op (qg x.args) x.n x.scale x.name x.attr x.pos (rwT L) j 0 0 0 0 0 0 (strB []) (strB []) 0) (RD L (.ok x j)):=.rec0 s5 fun k rec=>by simp only[zx,bne_self_eq_false,af]
    exact into (.of2 a1 s3 fun k b b2=>by simp only[zx,af,b,ae,altC,zu];exact b2)
theorem qpV {x:Ex}(h:cnt x<4000000000):Tot (fun k=>g9 k x.op (qg x.args) x.n x.scale x.name x.attr x.pos x.op (qg x.args) x.n x.scale x.name x.attr x.pos true) true:=qrq _ x (Nat.le_refl _) h
theorem g8_t:Tot (fun k=>g8 k) true:=qjj 100 awk
theorem qu5 {s:ByteArray}{n:Nat}{r:Ex×Int×Int}(h:parT s n=some r):Tot (fun k=>g7 k s) (exT r):=by
 unfold parT at h;have f0:∀ p e:Int,Goes qm4 (.h0 p e 0 [] 0 0 (strB []) (strB []) 0) (exT (z0,p,e)):=fun p e=>.fin0 fun k rec=>rfl;split at h
 ·
  rename_i hs;have sc:=qts hs;rw[qjQ]at sc;cases hT:yn s (s.size+1) 0 with
  |inr z=>rw[hT]at h sc;cases h;exact Goes.of2 (step:=qm4) (s:=.e s) sc (f0 z 12) fun k b b2=>by simp only[qm4,b,qoV,ae,tup3,show((12:Int)!=0)=true from rfl,ah];exact b2
  |inl L=>
   rw[hT]at h sc;simp only at h;obtain⟨hL,hm⟩:=quO hs hT;have hlen:=hL.len;have sc':Tot (fun k=>g11 k s) (rwT L,0,0):=by
    have:qoV [] (.inl (rwT L))=(rwT L,0,0):=by show(([]++rwT L,0,0):R11)=_;rw[List.nil_append]
    rw[← this];exact sc
   cases hp:pp L n (.p 0 0 0)with
   |none=>rw[hp]at h;cases h
   |some out=>
    rw[hp]at h;cases h;have rd:=qtu hL (Nat.zero_le _) hp;replace rd:Tot (fun k=>g13 k (rwT L) 0) (RD L out):=rd;cases out with
    |err p e=>
     have he:(e != 0)=true:=by
      have:e≠0:=by rcases qix _ _ _ _ _ hp with h|h<;>omega
      simpa using this
     have s1:Goes qm4 (.h1 p e 0 [] 0 0 (strB []) (strB []) 0) (exT (z0,p,e)):=.fin0 fun k rec=>rfl;exact Goes.of3 (step:=qm4) (s:=.e s) sc' rd s1 fun k b b2 b3=>by simp only[qm4,b,b2,qlr,RD,rX,ae,tup3,ql,bne_self_eq_false,af,he,ah];exact b3
    |ok x j=>
     have hj:=(qeh L n).1 0 0 0 x j (by omega) hp;have hc:=(qjS L n).1 0 0 0 x j (by omega) hp;have hjl:j<L.length:=by omega
     unfold outP;simp only;by_cases hk:(tkA L j).kind=0
     · rw[aD hk];have hkb:((tkA L j).kind != 0)=false:=by simpa using hk
       have nd:Tot (fun k=>g18 k x.op (qg x.args) x.n x.scale x.name x.attr x.pos) (cnt x:Int):=qu2 _ x (Nat.le_refl _) (by omega);by_cases hcn:cnt x≤200
       · rw[aD hcn];have s1:Goes qm4 (.h4 0 0 x.op (qg x.args) x.n x.scale x.name x.attr x.pos) (exT (x,0,0)):=.fin0 fun k rec=>rfl;refine Goes.of4 (step:=qm4) (s:=.e s) sc' rd nd s1 fun k b b2 b3 b4=>?_;simp only[qm4,b,b2,qlr,RD,rX,ae,tup3,ql,bne_self_eq_false,af,Yi (qfK hjl),qjp,hkb,b3,show decide (((cnt x:Nat):Int)>200)=false from aN (by omega)];exact b4
       · rw[aF hcn];have s1:Goes qm4 (.h3 0 2 0 [] 0 0 (strB []) (strB []) 0) (exT (z0,0,2)):=.fin0 fun k rec=>rfl;refine Goes.of4 (step:=qm4) (s:=.e s) sc' rd nd s1 fun k b b2 b3 b4=>?_;simp only[qm4,b,b2,qlr,RD,rX,ae,tup3,ql,bne_self_eq_false,af,Yi (qfK hjl),qjp,hkb,b3,show decide (((cnt x:Nat):Int)>200)=true from aO (by omega),ah];exact b4
     · rw[aF hk];have hkb:((tkA L j).kind != 0)=true:=by simpa using hk
       have s1:Goes qm4 (.h2 (tkA L j).pos 13 0 [] 0 0 (strB []) (strB []) 0) (exT (z0,(tkA L j).pos,13)):=.fin0 fun k rec=>rfl;refine Goes.of3 (step:=qm4) (s:=.e s) sc' rd s1 fun k b b2 b4=>?_;simp only[qm4,b,b2,qlr,RD,rX,ae,tup3,ql,bne_self_eq_false,af,Yi (qfK hjl),qjp,hkb,ah];exact b4
 · rename_i hs;cases h;exact Goes.of2 (step:=qm4) (s:=.e s) (qrO hs) (f0 0 2) fun k b b2=>by simp only[qm4,b,ae,tup3,show((2:Int)!=0)=true from rfl,ah];exact b2
theorem qu0 {s:ByteArray}{n:Nat}{r:Ex×Int×Int}(h:parT s n=some r):cnt r.1≤200:=by
 have h0:cnt z0≤200:=by decide
 unfold parT at h;split at h
 ·
  split at h
  · cases h;exact h0
  ·
   rename_i L _;cases hp:pp L n (.p 0 0 0)with
   |none=>rw[hp]at h;cases h
   |some out=>
    rw[hp]at h;cases h;cases out with
    |err p e=>exact h0
    |ok x j=>
     unfold outP;simp only;split
     · split
       · assumption
       · exact h0
     · exact h0
 · cases h;exact h0
theorem quZ (s:ByteArray):∃ n r,parT s n=some r:=by
 unfold parT;by_cases hs:s.size≤4000
 ·
  simp only[aD hs];cases hT:yn s (s.size+1) 0 with
  |inr z=>exact⟨0,_,rfl⟩
  |inl L=>obtain⟨hL,hm⟩:=quO hs hT;obtain⟨out,hp⟩:=(qh7 L (16*(Lm L-0)+13)).1 0 0 0 (by omega) (Nat.zero_le _) (by omega);exact⟨16*(Lm L-0)+13,outP L out,by simp only[hp];rfl⟩
 · exact⟨0,_,aF hs⟩
theorem quY (s:ByteArray):Tot (fun k=>g3 k s) true:=by obtain⟨n,r,h⟩:=quZ s;have sm:=qpV (x:=r.1) (Nat.lt_of_le_of_lt (qu0 h) (by decide));exact Goes.of4 (step:=qon) (s:=.e s) (qu4 h) (qu5 h) g8_t sm fun k b b2 b3 b4=>by simp only[qon,b,b2,b3,exT,ae,tup9,ah];refine(congrArg (fun o=>Option.bind o _) b4).trans ?_;simp only[ae,beq_self_eq_true,ah]
end
end Ab
end Go.Proofs.YtfekohpjaafnhaaGreatDoor

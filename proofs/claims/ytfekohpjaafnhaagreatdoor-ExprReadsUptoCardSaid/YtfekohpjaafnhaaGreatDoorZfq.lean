/-
  Read and Parse of the program and of the document: the same.
-/
import Derived.Test.YtfekohpjaafnhaaGreatDoorZeq
set_option linter.all false
namespace Go.Proofs.YtfekohpjaafnhaaGreatDoor
namespace Ab
theorem qtW {s:ByteArray}{p:Nat}(hp:p<s.size){t:Tk}{e:Nat}(h:tok s p=some (t,e))(q:Nat):TW (mkT t q):=by
 have he:=qeR hp h;have no:∀ {a b:Int},a=b→(a==b)=false→False:=fun h1 h2=>by subst h1;simp at h2
 have c1:∀ {t:Tk} {k:Int},t.kind=k→(k==1)=false→(k==6)=false→TW (mkT t q):=fun h1 h2 h3=>⟨fun h=>(no (h1.symm.trans h) h2).elim,fun h=>(no (h1.symm.trans h) h3).elim⟩
 unfold tok at h;split at h
 ·
  rename_i hl;unfold qd6 at h;split at h
  · cases h;refine⟨fun _=>?_,fun hk=>by cases hk⟩;show isLe (bAt (s.extract p (stop isNm s p)) 0)=true;rw[Qz he.2 (by omega)];exact hl
  · split at h
    · cases h;exact c1 rfl rfl rfl
    · cases h
 ·
  rename_i hl;split at h
  · unfold Zt at h
    repeat' split at h
    all_goals first|(cases h;done)|(cases h;exact c1 rfl rfl rfl)
  ·
   split at h
   · unfold qdt at h;split at h
     · cases h;exact c1 rfl rfl rfl
     · cases h
   · unfold qav at h;split at h
     · cases h
     · cases h;refine⟨fun hk=>(by cases hk),fun _=>?_⟩;show isLe (bAt (s.extract p (p+vR s p)) 0)=false;rw[Qz he.2 (by omega)];simpa using hl
theorem qqX (s:ByteArray):∀ n p L,p≤s.size→yn s n p=.inl L→∀ t∈L,TW t
 |0,_,_,_,h=>by cases h
 |n+1,p,L,hp,h=>by
  unfold yn at h;split at h
  · cases h;intro t ht;rw[aV]at ht;subst ht;exact⟨fun h=>(by cases h),fun h=>(by cases h)⟩
  ·
   rename_i hne;have hz:stop isBl s p<s.size:=by have:=yQ (f:=isBl) hp;omega
   cases ht:tok s (stop isBl s p)with
   |none=>rw[ht]at h;cases h
   |some x=>
    obtain⟨t,e⟩:=x;rw[ht]at h;have he:=qeR hz ht;cases hs:yn s n e with
    |inr z=>simp only[hs,pfT]at h;cases h
    |inl L2=>
     simp only[hs,pfT]at h;cases h;intro u hu;rcases List.mem_cons.1 hu with rfl|hu
     · exact qtW hz ht _
     · exact qqX s n e L2 he.2 hs u hu
theorem quO {s:ByteArray}(hs:s.size≤4000){L:List Tok}(h:yn s (s.size+1) 0=.inl L):TL L∧Lm L+1=L.length:=by
 have tw:=qqX s _ _ _ (Nat.zero_le _) h;obtain⟨T,rfl,hk,hl⟩:=vE s _ _ _ (Nat.zero_le _) h;have hlen:(T++[endT s]).length=T.length+1:=by simp
 have hm:Lm (T++[endT s])=T.length:=by unfold Lm;rw[aD (by rw[hlen];simp[tkA,endT])];omega
 refine⟨⟨by omega,by omega,fun i=>?_⟩,by omega⟩;unfold tkA;cases e:(T++[endT s])[i]? with
 |none=>exact⟨fun h=>(by cases h),fun h=>(by cases h)⟩
 |some t=>exact tw t (aM e)
section
variable [vo]
def rX (x:Ex)(j p e:Int):R13:=(x.op,qg x.args,x.n,x.scale,x.name,x.attr,x.pos,j,p,e)
def RD (L:List Tok):PO→R13
 |.err p e=>rX z0 0 p e
 |.ok x j=>rX x j 0 0
theorem qtu {L:List Tok}(hL:TL L){i:Nat}(hi:i≤Lm L){n:Nat}{out:PO}(h:pp L n (.p 0 i 0)=some out):Tot (fun k=>g13 k (rwT L) i) (RD L out):=by
 have hen:=hL.en;obtain⟨r,h1,h2⟩:=(xw hL n).1 0 i 0 out (by omega) hi (by omega) h;have a1:Tot (fun k=>g25 k 1 (rwT L) i 0 0 0) r:=by obtain⟨N,hN⟩:=h1;exact⟨N,fun k hk=>by have:=hN k hk;show qoJ (itS qjZ k (.e_25 1 (rwT L) i 0 0 0))=some r;simp only at this;have e:((0:Nat):Int)=0:=rfl;rw[e]at this;have e2:(((0+1:Nat):Int))=1:=rfl;rw[e2]at this;rw[this];rfl⟩
 have nz:∀ {p e:Int},out=.err p e→(e != 0)=true:=fun {p e} h3=>by
  subst h3;have:e≠0:=by rcases qix L n _ _ _ h with h|h<;>omega
  simpa using this
 have dd:decide ((i:Int)≥((rwT L).length:Int))=false:=aN (by rw[qhr];omega);have dl:decide ((i:Int)<0)=false:=aN (by omega);have into:∀ {r},Goes zx (.h0 (rwT L) i false 0 0 0 (strB []) (strB []) 0) r→Goes zx (.e (rwT L) i) r:=fun h=>.rec0 h fun k rec=>by simp only[zx,dl,dd,af]
 cases out with
 |err p e=>
  have he:=nz rfl;have s4:Goes zx (.h4 0 p e 0 [] 0 0 (strB []) (strB []) 0) (RD L (.err p e)):=.fin0 fun k rec=>rfl;have s2:∀ n b1 o p' q t u v w x,Goes zx (.h2 (e != 0) n b1 o p' q t u v w x e p 0 0 0 (strB []) (strB []) 0) (RD L (.err p e)):=fun _ _ _ _ _ _ _ _ _ _=>.rec0 s4 fun k rec=>by simp only[zx,he,ah]
  have s3:∀ n b1 o p' q t u v w x,Goes zx (.h3 (e != 0) n b1 o p' q t u v w x e p 0 0 0 (strB []) (strB []) 0) (RD L (.err p e)):=fun _ _ _ _ _ _ _ _ _ _=>.rec0 s4 fun k rec=>by simp only[zx,he,ah]
  rcases h2 with⟨a,b,c,d,d',f,i',o',rfl⟩|⟨t',⟨a,R,b,c,d,d',f,i',o',rfl⟩,rfl⟩|⟨t',⟨a,R,b,c,d,d',f,i',o',rfl⟩,rfl⟩
  · exact into (.of2 a1 (s2 _ _ _ _ _ _ _ _ _ _) fun k b b2=>by simp only[zx,af,b,ae,altC,qoG];exact b2)
  · exact into (.of2 a1 (s2 _ _ _ _ _ _ _ _ _ _) fun k b b2=>by simp only[zx,af,b,ae,altC,zu];exact b2)
  · exact into (.of2 a1 (s3 _ _ _ _ _ _ _ _ _ _) fun k b b2=>by simp only[zx,af,b,ae,altC,zu];exact b2)
 |ok x j=>
  have s5:Goes zx (.h5 j 0 0 x.op (qg x.args) x.n x.scale x.name x.attr x.pos) (RD L (.ok x j)):=.fin0 fun k rec=>rfl;rcases h2 with⟨R,hR,rfl⟩|rfl
  · have s2:Goes zx (.h2 ((0:Int)!=0) x.op R x.n x.scale x.name x.attr x.pos (rwT L) j 0 0 0 0 0 0 (strB []) (strB []) 0) (RD L (.ok x j)):=.rec0 s5 fun k rec=>by simp only[zx,bne_self_eq_false,af,hR]
    exact into (.of2 a1 s2 fun k b b2=>by simp only[zx,af,b,ae,altC,zu];exact b2)
  · have s3:Goes zx (.h3 ((0:Int)!=0) x.op (qg x.args) x.n x.scale x.name x.attr x.pos (rwT L) j 0 0 0 0 0 0 (strB []) (strB []) 0) (RD L (.ok x j)):=.rec0 s5 fun k rec=>by simp only[zx,bne_self_eq_false,af]
    exact into (.of2 a1 s3 fun k b b2=>by simp only[zx,af,b,ae,altC,zu];exact b2)
def RP (L:List Tok):PO→R12
 |.err p e=>.inl (0,0,0,strB [],strB [],0,0,p,e)
 |.ok x j=>.inr (x.op,qg x.args,x.n,x.scale,x.name,x.attr,x.pos,(j:Int),0,0)
theorem qtt {L:List Tok}(hL:TL L){i:Nat}(hi:i≤Lm L){n:Nat}{out:PO}(h:pp L n (.p 0 i 0)=some out):Tot (fun k=>g12 k (rwT L) i) (RP L out):=by
 have hen:=hL.en;have hlen:=hL.len;obtain⟨r,h1,h2⟩:=(pw (by omega) n).1 0 i 0 out (by omega) hi (by omega) h;have a1:Tot (fun k=>g24 k (rwT L) i 0) r:=by obtain⟨N,hN⟩:=h1;exact⟨N,fun k hk=>by have:=hN k hk;show qpO (itS qj6 k (.e_24 (rwT L) i 0))=some r;simp only at this;have e:((0:Nat):Int)=0:=rfl;rw[e]at this;rw[this];rfl⟩
 have dd:decide ((i:Int)≥((rwT L).length:Int))=false:=aN (by rw[qhr];omega);have dl:decide ((i:Int)<0)=false:=aN (by omega);have into:∀ {r},Goes qmH (.h0 (rwT L) i false 0 0 0 0 0 0 (strB []) (strB []) 0) r→Goes qmH (.e (rwT L) i) r:=fun h=>.rec0 h fun k rec=>by simp only[qmH,dl,dd,af]
 cases out with
 |err p e=>obtain⟨u,v,rfl⟩:=h2;exact into (.of1 a1 fun k b=>by simp only[qmH,af,b,ae,altC,tup5];rfl)
 |ok x j=>cases h2;have s0:Goes qmH (.h2 0 0 j x.op (qg x.args) x.n x.scale x.name x.attr x.pos) (RP L (.ok x j)):=.fin0 fun k rec=>rfl;exact into (.of2 a1 s0 fun k b b2=>by simp only[qmH,af,b,ae,altC,ql];exact b2)
theorem qsD {R:Rs}{b:Int}(h:b<0∨(R.length:Int)≤b):Tot (fun k=>g12 k R b) (.inr (0,[],0,0,strB [],strB [],0,0,0,1)):=by
 have s1:Goes qmH (.h0 R b true 0 0 0 0 0 0 (strB []) (strB []) 0) (.inr (0,[],0,0,strB [],strB [],0,0,0,1)):=.rec0 (s':=.h1 1 0 0 0 [] 0 0 (strB []) (strB []) 0) (.fin0 fun k rec=>rfl) fun k rec=>rfl;refine Goes.rec0 (step:=qmH) (s:=.e R b) s1 fun k rec=>?_;simp only[qmH];by_cases hb:b<0
 · rw[aO hb];rfl
 · rw[aN hb,aO (show b≥(R.length:Int)by omega)];rfl
theorem qsE {R:Rs}{b:Int}(h:b<0∨(R.length:Int)≤b):Tot (fun k=>g13 k R b) (rX z0 0 0 1):=by
 have s1:Goes zx (.h0 R b true 0 0 0 (strB []) (strB []) 0) (rX z0 0 0 1):=.rec0 (s':=.h1 0 0 1 0 [] 0 0 (strB []) (strB []) 0) (.fin0 fun k rec=>rfl) fun k rec=>rfl;refine Goes.rec0 (step:=zx) (s:=.e R b) s1 fun k rec=>?_;simp only[zx];by_cases hb:b<0
 · rw[aO hb];rfl
 · rw[aN hb,aO (show b≥(R.length:Int)by omega)];rfl
theorem qpV {x:Ex}(h:cnt x<4000000000):Tot (fun k=>g9 k x.op (qg x.args) x.n x.scale x.name x.attr x.pos x.op (qg x.args) x.n x.scale x.name x.attr x.pos true) true:=qrq _ x (Nat.le_refl _) h
theorem g8_t:Tot (fun k=>g8 k) true:=qjj 100 awk
theorem qrb (s:ByteArray)(b:Int):Tot (fun k=>g4 k s b) true:=by
 by_cases hs:s.size≤4000
 ·
  have sc:=qtr hs;have sd:=qts hs;rw[qjQ]at sc sd;cases hT:yn s (s.size+1) 0 with
  |inr z=>
   rw[hT]at sc sd;have s1:Goes qnB (.h0 b [] [] ((12:Int)!=0)) true:=.of1 g8_t fun k e=>by simp only[qnB,show((12:Int)!=0)=true from rfl,ah,e,ae]
   exact Goes.of3 (step:=qnB) (s:=.e s b) sc sd s1 fun k e1 e2 e3=>by simp only[qnB,e1,e2,qpo,qoV,ae,altC,tup2,tup3];exact e3
  |inl L=>
   rw[hT]at sc sd;obtain⟨hL,hm⟩:=quO hs hT;have sc':Tot (fun k=>g10 k s) (.inl (rwT L,0,0)):=by
    have:qpo [] (.inl (rwT L))=.inl (rwT L,0,0):=by show(Sum.inl (qG ([]++rwT L),0,0):R10)=_;rw[List.nil_append,qlr]
    rw[← this];exact sc
   have sd':Tot (fun k=>g11 k s) (rwT L,0,0):=by
    have:qoV [] (.inl (rwT L))=(rwT L,0,0):=by show(([]++rwT L,0,0):R11)=_;rw[List.nil_append]
    rw[← this];exact sd
   have into:Goes qnB (.h0 b (rwT L) (rwT L) false) true→Goes qnB (.e s b) true:=fun h=>.of3 sc' sd' h fun k e1 e2 e3=>by simp only[qnB,e1,e2,ae,altC,tup3];exact e3
   refine into ?_;by_cases hb:b<0∨(L.length:Int)≤b
   · have r1:=qsD (R:=rwT L) (b:=b) (by rw[qhr];exact hb);have r2:=qsE (R:=rwT L) (b:=b) (by rw[qhr];exact hb);have sm:Tot (fun k=>g9 k 0 [] 0 0 (strB []) (strB []) 0 0 [] 0 0 (strB []) (strB []) 0 true) true:=qpV (x:=z0) (by decide);exact .of4 r1 r2 g8_t sm fun k e1 e2 e3 e4=>by simp only[qnB,af,e1,qlr,e2,e3,ae,altC,ql,rX,ah];refine(congrArg (fun o=>Option.bind o _) e4).trans ?_;rfl
   ·
    obtain⟨i,rfl⟩:∃ i:Nat,b=i:=⟨b.toNat,by omega⟩
    have hi:i≤Lm L:=by omega
    obtain⟨out,hp⟩:=(qh7 L (16*(Lm L-i)+13)).1 0 i 0 (by omega) hi (by omega);have r1:=qtt hL hi hp;have r2:=qtu hL hi hp;cases out with
    |err p e=>have sm:Tot (fun k=>g9 k 0 [] 0 0 (strB []) (strB []) 0 0 [] 0 0 (strB []) (strB []) 0 true) true:=qpV (x:=z0) (by decide);exact .of4 r1 r2 g8_t sm fun k e1 e2 e3 e4=>by simp only[qnB,af,e1,qlr,e2,e3,ae,altC,tup9,ql,RP,RD,rX,ah];refine(congrArg (fun o=>Option.bind o _) e4).trans ?_;simp only[ae,beq_self_eq_true,ah]
    |ok x j=>have hc:=(qjS L _).1 0 i 0 x j (by omega) hp;have hj:=(qeh L _).1 0 i 0 x j (by omega) hp;have hlen:=hL.len;have sm:=qpV (x:=x) (by omega);exact .of4 r1 r2 g8_t sm fun k e1 e2 e3 e4=>by simp only[qnB,af,e1,qlr,e2,e3,ae,altC,tup9,ql,RP,RD,rX,ah];refine(congrArg (fun o=>Option.bind o _) e4).trans ?_;simp only[ae,beq_self_eq_true,ah]
 · have s1:Goes qnB (.h0 b [] [] ((2:Int)!=0)) true:=.of1 g8_t fun k e=>by simp only[qnB,show((2:Int)!=0)=true from rfl,ah,e,ae]
   exact Goes.of3 (step:=qnB) (s:=.e s b) (qrN hs) (qrO hs) s1 fun k e1 e2 e3=>by simp only[qnB,e1,e2,ae,altC,tup2,tup3];exact e3
end
end Ab
end Go.Proofs.YtfekohpjaafnhaaGreatDoor

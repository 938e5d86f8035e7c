/-
  A right tree's tokens are parsed as that tree, places aside.
-/
import Derived.Test.YtpdhhkfllkgahaaGreatDoorBbq
set_option linter.all false
namespace Go.Proofs.YtpdhhkfllkgahaaGreatDoor
namespace Ab
def mkN (t:Tk)(p:Int):Tok:=⟨t.kind,t.text,t.n,t.scale,p⟩
theorem qz3 {t:Tok}{k:Tk}(h:nop t=k):t=mkN k t.pos:=by subst h;rfl
def At (L:List Tok)(i:Nat)(T:List Tk):Prop:=∀ k t,T[k]? = some t→nop (tkA L (i+k))=t
theorem qAh {L:List Tok}{i:Nat}{A B:List Tk}(h:At L i (A++B)):At L i A∧At L (i+A.length) B:=by
 refine⟨fun k t e=>h k t ?_,fun k t e=>?_⟩
 · rw[aY (az.1 e).1];exact e
 · rw[Nat.add_assoc];refine h (A.length+k) t ?_;rw[aZ (by omega),Nat.add_sub_cancel_left];exact e
theorem qzM {L:List Tok}{i:Nat}{t:Tk}{T:List Tk}(h:At L i (t::T)):nop (tkA L i)=t∧At L (i+1) T:=⟨h 0 t rfl,fun k u e=>by rw[Nat.add_assoc,Nat.add_comm 1 k];exact h (k+1) u e⟩
def EO (L:List Tok)(j l:Nat):Prop:=∀ m,l≤m→opA m (tkA L j)=0
theorem EO.le {L:List Tok}{j l m:Nat}(h:EO L j l)(hm:l≤m):EO L j m:=fun k hk=>h k (by omega)
theorem qEL {op:Int}(h:1≤op∧op≤14∧op≠6)(p:Int):opA (lev op) (mkN (opk op) p)=op∧∀ m,lev op<m→opA m (mkN (opk op) p)=0:=by
 have hm:∀ m:Nat,m=0∨m=1∨m=2∨m=3∨m=4∨m=5∨∃ k,m=k+6:=fun m=>by
  rcases(by omega:m=0∨m=1∨m=2∨m=3∨m=4∨m=5∨6≤m)with e|e|e|e|e|e|e
  all_goals first|(simp only[e,true_or,or_true];done)|exact .inr (.inr (.inr (.inr (.inr (.inr ⟨m-6,by omega⟩)))))
 rcases(by omega:op=1∨op=2∨op=3∨op=4∨op=5∨op=7∨op=8∨op=9∨op=10∨op=11∨op=12∨op=13∨op=14)with rfl|rfl|rfl|rfl|rfl|rfl|rfl|rfl|rfl|rfl|rfl|rfl|rfl
 all_goals
  refine⟨by kernel_rfl,fun m h=>?_⟩;rcases hm m with rfl|rfl|rfl|rfl|rfl|rfl|⟨k,rfl⟩
 all_goals first|exact absurd h (by decide)|rfl|kernel_rfl
theorem qAF {L:List Tok}{i:Nat}{a:ByteArray}(h:nop (tkA L i)=nk a):nmF L i=.inr a:=by rw[nmF,qz3 h];rfl
theorem qAq {L:List Tok}{i:Nat}{a:ByteArray}(h:nop (tkA L i)=yk a):isW (tkA L i) a=true:=by rw[qz3 h];show(a.toList==a.toList)=true;exact beq_self_eq_true _
theorem qA6 {L:List Tok}{i:Nat}{a:ByteArray}(h:nop (tkA L i)=wk a):isW (tkA L i) a=true:=by rw[qz3 h];show(a.toList==a.toList)=true;exact beq_self_eq_true _
theorem at_at {L:List Tok}{i:Nat}{a b:ByteArray}(h1:nop (tkA L i)=nk a)(h2:nop (tkA L (i+1))=pt)(h3:nop (tkA L (i+2))=atk b):atF L i=.inr (a,b):=by
 unfold atF;rw[qAF h1];simp only;rw[qAq h2];simp only[aj,af];unfold atk at h3;by_cases hb:b.toList=qBO.toList
 · rw[aD hb]at h3;have e:=toList_inj hb;subst e;rw[show isW (tkA L (i+2)) (strB [84,73,77,69])=true from qA6 h3];rfl
 · rw[aF hb]at h3;have:isW (tkA L (i+2)) (strB [84,73,77,69])=false:=by rw[qz3 h3];rfl
   rw[this,af,qAF h3]
theorem qDq {op:Int}(h:26≤op∧op≤31):∃ q:Nat,agI agN 0 (agA op)=some q∧(q==0)=false∧(25+(q:Int))=op:=by
 rcases(by omega:op=26∨op=27∨op=28∨op=29∨op=30∨op=31)with rfl|rfl|rfl|rfl|rfl|rfl
 · exact⟨1,by kernel_rfl,rfl,rfl⟩
 · exact⟨2,by kernel_rfl,rfl,rfl⟩
 · exact⟨3,by kernel_rfl,rfl,rfl⟩
 · exact⟨4,by kernel_rfl,rfl,rfl⟩
 · exact⟨5,by kernel_rfl,rfl,rfl⟩
 · exact⟨6,by kernel_rfl,rfl,rfl⟩
theorem qDb {L:List Tok}{i:Nat}{w:ByteArray}(h:nop (tkA L i)=wk w)(h1:(w.toList==(strB [84,82,85,69]).toList)=false)(h2:(w.toList==(strB [70,65,76,83,69]).toList)=false)(h3:(w.toList==(strB [82,69,65,76]).toList||w.toList==(strB [73,83,78,65,78]).toList)=false):vD L i=.con (agO L i w):=by unfold vD;rw[qz3 h];show(bif w.toList==_ then _ else bif w.toList==_ then _ else bif w.toList==_||w.toList==_ then _ else _)=_;rw[h1,h2,h3];simp only[af];rfl
theorem lf_k {op n s:Int}{a b:ByteArray}(h:LfOk op n s a b){L:List Tok}{i:Nat}(hA:At L i (lfK op n s a b)):vD L i=.con (.ok (lit op n s a b (tkA L i).pos) (i+(lfK op n s a b).length)):=by
 rcases h with⟨rfl,h,rfl,rfl,rfl⟩|⟨rfl,h,rfl,rfl⟩|⟨rfl,h,rfl,rfl,rfl⟩|⟨rfl,h,h2,rfl,rfl,rfl⟩|⟨rfl,h,h2,rfl,rfl⟩|⟨rfl,h,rfl,rfl,rfl⟩|⟨h1,h3,h,h2,rfl,rfl⟩
 · rw[qDd]at hA ⊢;have:=qz3 (qzM hA).1;unfold vD;rw[this];rfl
 · rw[qDe]at hA ⊢;have:=qz3 (qzM hA).1;unfold vD;rw[this];rfl
 ·
  rw[qDf]at hA ⊢;have:=qz3 (qzM hA).1;rcases h with rfl|rfl
  · unfold vD;rw[this];show(_:LK)=_;kernel_rfl
  · unfold vD;rw[this];show(_:LK)=_;kernel_rfl
 · rw[qDg]at hA ⊢;have:=qz3 (qzM hA).1;unfold vD;rw[this];rfl
 · rw[qDh]at hA ⊢;obtain⟨t1,hA⟩:=qzM hA;obtain⟨t2,hA⟩:=qzM hA;have t3:=(qzM hA).1;have e:=at_at t1 t2 t3;have:=qz3 t1;unfold vD;simp only[e];rw[this];rfl
 · rw[qDi]at hA ⊢;obtain⟨t1,hA⟩:=qzM hA;obtain⟨t2,hA⟩:=qzM hA;obtain⟨t3,hA⟩:=qzM hA;have t4:=(qzM hA).1;rw[qDb t1 (by kernel_rfl) (by kernel_rfl) (by kernel_rfl)];have e:agI agN 0 (strB [67,79,85,78,84])=some 0:=by kernel_rfl
   simp only[agO,e,agF,show isW (tkA L (i+1)) (strB [40])=true from qAq t2,show nmF L (i+2)=.inr a from qAF t3,show isW (tkA L (i+3)) (strB [41])=true from qAq t4,aj,af];rfl
 ·
  rw[qCe ⟨h1,h3⟩]at hA ⊢;obtain⟨t1,hA⟩:=qzM hA;obtain⟨t2,hA⟩:=qzM hA;obtain⟨t3,hA⟩:=qzM hA;obtain⟨t4,hA⟩:=qzM hA;obtain⟨t5,hA⟩:=qzM hA;have t6:=(qzM hA).1;obtain⟨q,e1,e2,e3⟩:=qDq ⟨h1,h3⟩;have nn:((agA op).toList==(strB [84,82,85,69]).toList)=false∧((agA op).toList==(strB [70,65,76,83,69]).toList)=false∧((agA op).toList==(strB [82,69,65,76]).toList||(agA op).toList==(strB [73,83,78,65,78]).toList)=false:=by
   rcases(by omega:op=26∨op=27∨op=28∨op=29∨op=30∨op=31)with rfl|rfl|rfl|rfl|rfl|rfl
   all_goals exact⟨by kernel_rfl,by kernel_rfl,by kernel_rfl⟩
  rw[qDb t1 nn.1 nn.2.1 nn.2.2];simp only[agO,e1,agF,show isW (tkA L (i+1)) (strB [40])=true from qAq t2,e2,show atF L (i+2)=.inr (a,b)from at_at t3 t4 t5,show isW (tkA L (i+5)) (strB [41])=true from qAq t6,aj,af,e3];rfl
def PA (L:List Tok)(l i o:Nat)(x:Ex)(j:Nat):Prop:=∃ n y,pp L n (.p l i o)=some (.ok y j)∧qbA y x=true
def PB (L:List Tok)(l i o:Nat)(x:Ex)(j:Nat):Prop:=∃ y,qbA y x=true∧∀ n out,pp L n (.lp l y j o)=some out→∃ m,pp L m (.p l i o)=some out
def Lo (l:Nat):Prop:=l=0∨l=1∨l=4∨l=5
theorem p_lo {L:List Tok}{l:Nat}(hl:Lo l)(n i o:Nat):pp L (n+1) (.p l i o)=bnd (pp L n (.p (l+1) i o)) fun x j=>pp L n (.lp l x j o):=by rcases hl with rfl|rfl|rfl|rfl<;>rfl
theorem qDF {L:List Tok}{l i o j:Nat}{x:Ex}(hl:Lo l)(h:PA L (l+1) i o x j):PB L l i o x j:=by obtain⟨n,y,h1,h2⟩:=h;refine⟨y,h2,fun m out h3=>⟨max n m+1,?_⟩⟩;rw[p_lo hl,qor (by omega) h1];exact qor (by omega) h3
theorem qEp {L:List Tok}{l i o j:Nat}{x:Ex}(h:PB L l i o x j)(h0:opA l (tkA L j)=0):PA L l i o x j:=by obtain⟨y,h1,h2⟩:=h;obtain⟨m,h3⟩:=h2 1 (.ok y j) (by rw[ppl,h0];rfl);exact⟨m,y,h3,h1⟩
theorem up {L:List Tok}{l i o j:Nat}{x:Ex}(hl:l≤6)(h:PA L (l+1) i o x j)(h0:opA l (tkA L j)=0)(h6:l=6→isW (tkA L i) (strB [45])=false)(h2:l=2→isW (tkA L i) (strB [78,79,84])=false):PA L l i o x j:=by
 by_cases hlo:Lo l
 · exact qEp (qDF hlo h) h0
 ·
  obtain⟨n,y,h1,h3⟩:=h;have:l=2∨l=3∨l=6:=by unfold Lo at hlo;omega
  rcases this with rfl|rfl|rfl
  · exact⟨n+1,y,by rw[pp2];unfold unF;rw[h2 rfl];exact h1,h3⟩
  · refine⟨n+1,y,?_,h3⟩;rw[pp3,h1];show(bif _ then _ else _)=_;rw[h0];rfl
  · exact⟨n+1,y,by rw[pp6];unfold unF;rw[h6 rfl];exact h1,h3⟩
def Fst (t:Tk)(k:Nat):Prop:=(3≤k→∀ p,isW (mkN t p) (strB [78,79,84])=false)∧(7≤k→∀ p,isW (mkN t p) (strB [45])=false)
theorem lift {L:List Tok}{i o j:Nat}{x:Ex}{t:Tk}{k:Nat}(ht:nop (tkA L i)=t)(hf:Fst t k)(hk:k≤7)(h:PA L k i o x j):∀ (d l:Nat),k=l+d→EO L j l→PA L l i o x j
 |0,l,e,_=>by have:k=l:=e;rw[← this];exact h
 |d+1,l,e,ho=>by
  have r:=lift ht hf hk h d (l+1) (by omega) (ho.le (by omega));refine up (by omega) r (ho l (Nat.le_refl _)) (fun e=>?_) (fun e=>?_)
  · rw[qz3 ht];exact hf.2 (by omega) _
  · rw[qz3 ht];exact hf.1 (by omega) _
theorem Fst.le {t:Tk}{k m:Nat}(h:Fst t k)(hm:m≤k):Fst t m:=⟨fun h3=>h.1 (by omega),fun h7=>h.2 (by omega)⟩
def Fs (T:List Tk)(k:Nat):Prop:=∃ t U,T=t::U∧Fst t k
theorem Fs.app {T U:List Tk}{k m:Nat}(h:Fs T k)(hm:m≤k):Fs (T++U) m:=by obtain⟨t,V,rfl,h⟩:=h;exact⟨t,V++U,rfl,h.le hm⟩
theorem qDu:Fst lp 7:=⟨fun _ p=>by kernel_rfl,fun _ p=>by kernel_rfl⟩
theorem qEo {x:Ex}(ih:Fs (pr x).2.2 (lev x.op))(l:Nat)(hl:l≤7):Fs (opr l (x.op,pr x)).2.2 l:=by
 unfold opr;split
 · exact⟨lp,_,rfl,qDu.le hl⟩
 · rename_i h;obtain⟨t,U,e,h2⟩:=ih;exact⟨t,U,e,h2.le (by simp only at h;omega)⟩
theorem qDc (op:Int):lev op≤7:=by
 unfold lev
 repeat' split
 all_goals omega
theorem qEG {op n s:Int}{a b:ByteArray}(h:LfOk op n s a b):Fs (lfK op n s a b) 7:=by
 rcases h with⟨rfl,h,rfl,rfl,rfl⟩|⟨rfl,h,rfl,rfl⟩|⟨rfl,h,rfl,rfl,rfl⟩|⟨rfl,h,h2,rfl,rfl,rfl⟩|⟨rfl,h,h2,rfl,rfl⟩|⟨rfl,h,rfl,rfl,rfl⟩|⟨h1,h3,h,h2,rfl,rfl⟩
 · exact⟨_,_,rfl,fun _ p=>rfl,fun _ p=>rfl⟩
 · exact⟨_,_,rfl,fun _ p=>rfl,fun _ p=>rfl⟩
 ·
  rcases h with rfl|rfl
  · exact⟨_,_,rfl,fun _ p=>by kernel_rfl,fun _ p=>by kernel_rfl⟩
  · exact⟨_,_,rfl,fun _ p=>by kernel_rfl,fun _ p=>by kernel_rfl⟩
 · exact⟨_,_,rfl,fun _ p=>rfl,fun _ p=>rfl⟩
 · exact⟨_,_,rfl,fun _ p=>rfl,fun _ p=>rfl⟩
 · exact⟨_,_,rfl,fun _ p=>by kernel_rfl,fun _ p=>by kernel_rfl⟩
 · rw[qCe ⟨h1,h3⟩];refine⟨_,_,rfl,?_⟩;rcases(by omega:op=26∨op=27∨op=28∨op=29∨op=30∨op=31)with rfl|rfl|rfl|rfl|rfl|rfl
   all_goals exact⟨fun _ p=>by kernel_rfl,fun _ p=>by kernel_rfl⟩
theorem qCq {op:Int}(h:1≤op∧op≤14∧op≠6):lev op≤5∧(Lo (lev op)∧lsL op=lev op∧lsR op=lev op+1∨lev op=3∧lsL op=4∧lsR op=4):=by rcases(by omega:op=1∨op=2∨op=3∨op=4∨op=5∨op=7∨op=8∨op=9∨op=10∨op=11∨op=12∨op=13∨op=14)with rfl|rfl|rfl|rfl|rfl|rfl|rfl|rfl|rfl|rfl|rfl|rfl|rfl<;>(unfold Lo;decide)
theorem qDv {x:Ex}(h:Rg x):Fs (pr x).2.2 (lev x.op):=by
 induction h with
 |leaf h=>rw[qAt];obtain⟨t,U,e,h2⟩:=qEG h;exact⟨t,U,e,h2.le (qDc _)⟩
 |@una op x p h hx ih=>
  rw[qAp];rcases h with rfl|rfl|rfl|rfl
  · exact⟨_,_,rfl,fun _ p=>by kernel_rfl,fun h=>absurd h (by show ¬ 7≤lev 6;decide)⟩
  · exact⟨_,_,rfl,fun h=>absurd h (by show ¬ 3≤lev 15;decide),fun _ p=>by kernel_rfl⟩
  · exact⟨_,_,rfl,fun _ p=>by kernel_rfl,fun _ p=>by kernel_rfl⟩
  · exact⟨_,_,rfl,fun _ p=>by kernel_rfl,fun _ p=>by kernel_rfl⟩
 |@two op x y p h hx hy ihx ihy=>rw[qAj];have hl:=qCq h;refine(qEo ihx (lsL op) (by omega)).app ?_;show lev op≤lsL op;omega
theorem qAW {op:Int}{x y:Ex}{p q:Int}(h:qbA x y=true):qbA (una op x p) (una op y q)=true:=by unfold una;rw[qbA];simp[Zp,h]
theorem qAV {op:Int}{x y a b:Ex}{p q:Int}(h:qbA x a=true)(h2:qbA y b=true):qbA (two op x y p) (two op a b q)=true:=by unfold two;rw[qbA];simp[Zp,h,h2]
theorem qCP (op n s:Int)(a b:ByteArray)(p q:Int):qbA (lit op n s a b p) (lit op n s a b q)=true:=by unfold lit;rw[qbA];simp[Zp]
def RB (x:Ex):Prop:=∀ (L:List Tok) (i o:Nat),At L i (pr x).2.2→(pr x).2.1+o≤30 →
 (∀ l,l≤lev x.op→EO L (i+(pr x).2.2.length) l→PA L l i o x (i+(pr x).2.2.length)) ∧
 (∀ l,l≤lev x.op→Lo l→EO L (i+(pr x).2.2.length) (l+1)→PB L l i o x (i+(pr x).2.2.length))
theorem qDJ {x:Ex}(hr:Rg x)(h:∀ (L:List Tok) (i o:Nat),At L i (pr x).2.2→(pr x).2.1+o≤30 →
  (Lo (lev x.op)∧(EO L (i+(pr x).2.2.length) (lev x.op+1)→PB L (lev x.op) i o x (i+(pr x).2.2.length))∨¬ Lo (lev x.op)∧(EO L (i+(pr x).2.2.length) (lev x.op)→PA L (lev x.op) i o x (i+(pr x).2.2.length)))):RB x:=by
 intro L i o hA hn;obtain⟨t,U,e,hf⟩:=qDv hr;have ht:nop (tkA L i)=t:=by have h2:=hA;rw[e]at h2;exact(qzM h2).1
 have own:=h L i o hA hn;generalize i+(pr x).2.2.length=j at *;have a1:EO L j (lev x.op)→PA L (lev x.op) i o x j:=fun hE=>by
  rcases own with⟨_,h⟩|⟨_,h⟩
  · exact qEp (h (hE.le (by omega))) (hE _ (Nat.le_refl _))
  · exact h hE
 have a2:∀ l,l≤lev x.op→EO L j l→PA L l i o x j:=fun l hl hE=>lift ht hf (qDc _) (a1 (hE.le hl)) (lev x.op-l) l (by omega) hE;refine⟨a2,fun l hl hlo hE=>?_⟩;rcases Nat.lt_or_ge l (lev x.op)with h2|h2
 · exact qDF hlo (a2 (l+1) h2 hE)
 ·
  have:l=lev x.op:=by omega
  subst this;rcases own with⟨_,h⟩|⟨h,_⟩
  · exact h hE
  · exact absurd hlo h
theorem qEr {L:List Tok}{j:Nat}(h:nop (tkA L j)=rp):EO L j 0:=fun m _=>by rw[qz3 h];unfold opA;split<;>kernel_rfl
theorem qCX {L:List Tok}{i o d:Nat}{x y:Ex}{f:Ex→Ex}{j:Nat}(hk:vD L i=.brk d f)(h:PA L 0 (i+d) (o+1) x j)(ho:o<30)(hr:nop (tkA L j)=rp)(hf:∀ z,qbA z x=true→qbA (f z) y=true):PA L 7 i o y (j+1):=by
 obtain⟨n,z,h1,h2⟩:=h;refine⟨n+1,f z,?_,hf z h2⟩;rw[pp7];unfold Qm;rw[hk];have:(o==30)=false:=by simp;omega
 simp only[nst,this,af,h1,bnd,clo,show isW (tkA L j) (strB [41])=true from qAq hr,aj]
theorem opd {x:Ex}(hx:RB x){l:Nat}(hl:l≤7){L:List Tok}{i o:Nat}(hA:At L i (opr l (x.op,pr x)).2.2)(hn:(opr l (x.op,pr x)).2.1+o≤30):
  (EO L (i+(opr l (x.op,pr x)).2.2.length) l→PA L l i o x (i+(opr l (x.op,pr x)).2.2.length))∧(Lo l→EO L (i+(opr l (x.op,pr x)).2.2.length) (l+1)→PB L l i o x (i+(opr l (x.op,pr x)).2.2.length)):=by
 by_cases h:lev x.op<l
 ·
  have e:opr l (x.op,pr x)=((strB [40]++(pr x).1)++strB [41],(pr x).2.1+1,lp::(pr x).2.2++[rp]):=aD h;rw[e]at hA hn ⊢;simp only at hA hn ⊢;obtain⟨h1,h2⟩:=qAh hA;obtain⟨tl,h3⟩:=qzM h1;have tr:=(qzM h2).1;have hj:i+(lp::(pr x).2.2++[rp]).length=(i+1+(pr x).2.2.length)+1:=by simp only[List.length_append,List.length_cons,List.length_nil];omega
  have hj2:i+(lp::(pr x).2.2).length=i+1+(pr x).2.2.length:=by simp only[List.length_cons];omega
  rw[hj];rw[hj2]at tr;have k:vD L i=.brk 1 fun x=>x:=by unfold vD;rw[qz3 tl];kernel_rfl
  have b:=qCX k ((hx L (i+1) (o+1) h3 (by omega)).1 0 (Nat.zero_le _) (qEr tr)) (by omega) tr (fun z hz=>hz);refine⟨fun hE=>lift tl qDu (Nat.le_refl _) b (7-l) l (by omega) hE,fun hlo hE=>qDF hlo (lift tl qDu (Nat.le_refl _) b (7-(l+1)) (l+1) (by unfold Lo at hlo;omega) hE)⟩
 · have e:opr l (x.op,pr x)=pr x:=aF h;rw[e]at hA hn ⊢;have:=hx L i o hA hn;exact⟨this.1 l (by omega),this.2 l (by omega)⟩
theorem rb {x:Ex}(h:Rg x):RB x:=by
 induction h with
 |@leaf op n s a b p h=>
  refine qDJ (.leaf h) fun L i o hA hn=>.inr ?_;have hl:lev op=7:=by
   rcases h with⟨rfl,h,_⟩|⟨rfl,h,_⟩|⟨rfl,h,_⟩|⟨rfl,h,_⟩|⟨rfl,h,_⟩|⟨rfl,h,_⟩|⟨h1,h3,h,_⟩
   all_goals first|decide|skip
   unfold lev;rw[aF (by omega),aF (by omega),aF (by omega),aF (by omega),aF (by omega),aF (by omega),aF (by omega)]
  rw[qAt]at hA hn ⊢;show ¬ Lo (lev op)∧(_→PA L (lev op) _ _ _ _)
  rw[hl];refine⟨by unfold Lo;decide,fun _=>⟨1,_,?_,qCP op n s a b (tkA L i).pos p⟩⟩;rw[pp7];unfold Qm;rw[lf_k h hA]
 |@una op x p h hx ih=>
  refine qDJ (.una h hx) fun L i o hA hn=>.inr ?_;have e0:=qAp op x p;by_cases h16:op=16∨op=17
  ·
   rw[aD h16]at e0;rw[e0]at hA hn ⊢;simp only at hA hn ⊢;obtain⟨h1,h2⟩:=qAh hA;obtain⟨tw,h3⟩:=qzM h1;obtain⟨tl,h4⟩:=qzM h3;have tr:=(qzM h2).1;have hj:i+(opk op::lp::(o1 op x).2.2++[rp]).length=(i+2+(o1 op x).2.2.length)+1:=by simp only[List.length_append,List.length_cons,List.length_nil];omega
   have hj2:i+(opk op::lp::(o1 op x).2.2).length=i+2+(o1 op x).2.2.length:=by simp only[List.length_cons];omega
   rw[hj];rw[hj2]at tr;have w:isW (tkA L (i+1)) (strB [40])=true:=qAq tl;have ho:o<30:=by omega
   have l0:lsL op=0:=by rcases h16 with rfl|rfl<;>decide
   have pa:=(opd ih (l:=lsL op) (by omega) (L:=L) (i:=i+2) (o:=o+1) h4 (by unfold o1 at hn;omega)).1;rw[l0]at pa;have e1:(o1 op x)=opr 0 (x.op,pr x):=by unfold o1;rw[l0]
   rw[e1]at tr ⊢;have pa:=pa (qEr tr);show ¬ Lo (lev op)∧(_→PA L (lev op) _ _ _ _)
   have k:∃ f,vD L i=.brk 2 f∧∀ z,f z=una op z (tkA L i).pos:=by
    rcases h16 with rfl|rfl
    · refine⟨fun z=>una 16 z (tkA L i).pos,?_,fun z=>rfl⟩;unfold vD;simp only[w];rw[qz3 tw];kernel_rfl
    · refine⟨fun z=>una 17 z (tkA L i).pos,?_,fun z=>rfl⟩;unfold vD;simp only[w];rw[qz3 tw];kernel_rfl
   obtain⟨f,k1,k2⟩:=k;have l7:lev op=7:=by rcases h16 with rfl|rfl<;>decide
   rw[l7];exact⟨by unfold Lo;decide,fun _=>qCX k1 pa ho tr (fun z hz=>by rw[k2];exact qAW hz)⟩
  ·
   rw[aF h16]at e0;rw[e0]at hA hn ⊢;simp only at hA hn ⊢;obtain⟨tw,h3⟩:=qzM hA;have hj:i+(opk op::(o1 op x).2.2).length=i+1+(o1 op x).2.2.length:=by simp only[List.length_cons];omega
   rw[hj];have ho:(o==30)=false:=by simp;omega
   show ¬ Lo (lev op)∧(_→PA L (lev op) _ _ _ _)
   rcases h with rfl|rfl|rfl|rfl
   · have pa:=(opd ih (l:=lsL 6) (by decide) (L:=L) (i:=i+1) (o:=o+1) h3 (by unfold o1 at hn;omega)).1;refine⟨by unfold Lo;decide,fun hE=>?_⟩;obtain⟨n,y,g1,g2⟩:=pa hE;refine⟨n+1,una 6 y (tkA L i).pos,?_,qAW g2⟩;show pp L (n+1) (.p 6 i o)=_;rw[pp6];unfold unF;have w:isW (tkA L i) (strB [45])=true:=qAq tw;have g1:pp L n (.p 6 (i+1) (o+1))=some (.ok y (i+1+(o1 6 x).2.2.length)):=g1;simp only[w,aj,af,nst,ho,g1,bnd]
   · have pa:=(opd ih (l:=lsL 15) (by decide) (L:=L) (i:=i+1) (o:=o+1) h3 (by unfold o1 at hn;omega)).1;refine⟨by unfold Lo;decide,fun hE=>?_⟩;obtain⟨n,y,g1,g2⟩:=pa hE;refine⟨n+1,una 15 y (tkA L i).pos,?_,qAW g2⟩;show pp L (n+1) (.p 2 i o)=_;rw[pp2];unfold unF;have w:isW (tkA L i) (strB [78,79,84])=true:=qA6 tw;have g1:pp L n (.p 2 (i+1) (o+1))=some (.ok y (i+1+(o1 15 x).2.2.length)):=g1;simp only[w,aj,af,nst,ho,g1,bnd]
   · exact absurd (.inl rfl) h16
   · exact absurd (.inr rfl) h16
 |@two op x y p h hx hy ihx ihy=>
  refine qDJ (.two h hx hy) fun L i o hA hn=>?_;rw[qAj]at hA hn ⊢;simp only at hA hn ⊢;obtain⟨h1,h2⟩:=qAh hA;obtain⟨tw,h3⟩:=qzM h2;have hj:i+((o1 op x).2.2++opk op::(o2 op y).2.2).length=i+(o1 op x).2.2.length+1+(o2 op y).2.2.length:=by simp only[List.length_append,List.length_cons];omega
  rw[hj];obtain⟨hl5,hlv⟩:=qCq h;have oi:=qEL h (tkA L (i+(o1 op x).2.2.length)).pos;rw[← qz3 tw]at oi;have pa:=opd ihx (l:=lsL op) (by omega) (L:=L) (i:=i) (o:=o) h1 (by unfold o1 at hn;omega);have pb:=(opd ihy (l:=lsR op) (by omega) (L:=L) (i:=i+(o1 op x).2.2.length+1) (o:=o) h3 (by unfold o2 at hn;omega)).1;have op0:op≠0:=by omega
  show Lo (lev op)∧(_→PB L (lev op) _ _ _ _)∨¬ Lo (lev op)∧(_→PA L (lev op) _ _ _ _)
  rcases hlv with⟨hlo,e1,e2⟩|⟨e0,e1,e2⟩
  ·
   refine .inl ⟨hlo,fun hE=>?_⟩;have pa:=pa.2 (by rw[e1];exact hlo) (fun m hm=>oi.2 m (by omega));rw[e1]at pa;rw[e2]at pb;obtain⟨a,sa,ga⟩:=pa;have e3:o2 op y=opr (lev op+1) (y.op,pr y):=by unfold o2;rw[e2]
   rw[e3]at hE ⊢;obtain⟨n,b,gb,sb⟩:=pb hE;refine⟨two op a b (tkA L (i+(o1 op x).2.2.length)).pos,qAV sa sb,fun m out hm=>ga (max n m+1) out ?_⟩;have eo:o1 op x=opr (lev op) (x.op,pr x):=by unfold o1;rw[e1]
   rw[eo]at oi gb hm;rw[ppl,oi.1,qor (by omega) gb];have:(op==0)=false:=by simpa using op0
   rw[this];exact qor (by omega) hm
  ·
   refine .inr ⟨by rw[e0];unfold Lo;decide,fun hE=>?_⟩;have hE:EO L (i+(o1 op x).2.2.length+1+(o2 op y).2.2.length) (lev op):=hE;rw[e0]at hE oi ⊢;have pa:=pa.1 (fun m hm=>oi.2 m (by omega));rw[e1]at pa;rw[e2]at pb;obtain⟨n,a,ga,sa⟩:=pa;have e3:o2 op y=opr 4 (y.op,pr y):=by unfold o2;rw[e2]
   rw[e3]at hE ⊢;obtain⟨m,b,gb,sb⟩:=pb (hE.le (by omega));refine⟨max n m+1,two op a b (tkA L (i+(o1 op x).2.2.length)).pos,?_,qAV sa sb⟩;have eo:o1 op x=opr 4 (x.op,pr x):=by unfold o1;rw[e1]
   rw[eo]at oi gb ⊢;rw[pp3,qor (by omega) ga];show(bif opA 3 _ != 0 then _ else _)=_;have:(op != 0)=true:=by simpa using op0
   rw[oi.1,this,ah,qor (by omega) gb];rfl
end Ab
end Go.Proofs.YtpdhhkfllkgahaaGreatDoor

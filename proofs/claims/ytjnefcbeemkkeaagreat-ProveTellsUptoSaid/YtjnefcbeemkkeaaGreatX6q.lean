/-
  The document's operators of values end, and give what is clean. No claim stands here.
-/
import Derived.Test.YtjnefcbeemkkeaaGreatX1q
set_option linter.all false
namespace Go.Proofs.YtjnefcbeemkkeaaGreat
namespace Ab
variable [Glob]
def U64 (b:Int):Prop:=0<=b/\b<18446744073709551616
def Cl (p:Int×Int):Prop:=U64 p.2/\clB ⟨p.1,p.2⟩=p
def Has {R:Type}(f:Nat->Option R)(P:R->Prop):Prop:=∃ r,P r/\Tot f r
def Ends {S R:Type}(step:Nat->(S->Option R)->S->Option R)(s:S)(P:R->Prop):Prop:=∃ r,P r/\Goes step s r
theorem Ends.go {S R:Type}{step:Nat->(S->Option R)->S->Option R}{s s':S}{P:R->Prop}(h:Ends step s' P)(e:∀ k,step k (itS step k) s=itS step k s'):Ends step s P:=let ⟨r,h1,h2⟩:=h;⟨r,h1,h2.go e⟩
theorem Ends.fin {S R:Type}{step:Nat->(S->Option R)->S->Option R}{s:S}{P:R->Prop}(r:R)(h:P r)(e:∀ k,step k (itS step k) s=some r):Ends step s P:=⟨r,h,.fin e⟩
theorem cl0:Cl (0,0):=⟨⟨by simp,by simp⟩,by simp[clB]⟩
theorem cl1 {b:Int}(h:U64 b):Cl (1,b):=⟨h,by simp[clB]⟩
theorem cl2 (b:Bool):Cl (2,if b then 1 else 0):=by cases b<;>exact⟨⟨by simp,by simp⟩,by simp[clB]⟩
theorem cl4 {b:Int}(h:U64 b)(hc:canon b=b):Cl (4,b):=⟨h,by simp[clB,hc]⟩
theorem qFm {b:Int}(h:U64 b):U64 (canon b):=by
 unfold canon;split
 . exact⟨by omega,by omega⟩
 . exact h
theorem qFl (b:Int):canon (canon b)=canon b:=by
 unfold canon;split
 . rfl
 . rfl
theorem qE3 {x:Vl}(h:U64 x.bits):Cl (clB x):=by
 unfold clB;split
 . rename_i h1;exact⟨h,by unfold clB;rw[aF h1]⟩
 .
  split
  . exact cl4 (qFm h) (qFl _)
  . exact cl0
theorem Cl.four {b:Int}(h:Cl (4,b)):canon b=b:=by have:=h.2;simp[clB]at this;exact this
theorem qFi (n:Int):U64 (IntKind.u64.wrap n):=by rw[IntKind.wrap_u64];exact⟨by omega,by omega⟩
theorem qFS (n:Int): -9223372036854775808<=IntKind.i64.wrap n/\IntKind.i64.wrap n<9223372036854775808:=by rw[IntKind.wrap_i64];omega
theorem qFy (op:BinOp)(x y:Nat):U64 (resZ op x y)/\canon (resZ op x y)=resZ op x y:=by
 unfold resZ;cases hr:floatBits op .f64 x y with
 |none=>exact⟨⟨by simp,by simp⟩,by simp[canon]⟩
 |some r=>
  refine⟨qFm ⟨by omega,?_⟩,qFl _⟩;have:r<18446744073709551616:=by
   unfold floatBits at hr;split at hr
   . exact FloatKind.f64.format.add_lt hr
   . exact FloatKind.f64.format.sub_lt hr
   . exact FloatKind.f64.format.mul_lt hr
   . exact FloatKind.f64.format.div_lt hr
   . cases hr
  omega
theorem qF0 {op a b:Int}(ha:U64 a)(hb:U64 b):Tot (fun _=>doX op a b) (doF op a b):=⟨0,fun k _=>by simp only[doX];rw[aF ⟨ha.1,ha.2,hb.1,hb.2⟩]⟩
theorem qEV {a b:Int}(ha:U64 a)(hb:U64 b):Has (fun k=>g174 k a b) fun _=>True:=by
 have h1:∀ x,Ends qEK (.h1 x) fun _=>True:=fun x=>by cases x<;>exact .fin _ trivial fun k=>rfl
 have h2:∀ a b c d,Ends qEK (.h2 a b c d) fun _=>True:=fun a b c d=>by
  cases d
  . exact(h1 (decide (a<b))).go fun k=>rfl
  . exact(h1 c).go fun k=>rfl
 have h0:∀ a b c d e,Ends qEK (.h0 a b c d e) fun _=>True:=fun a b c d e=>by
  cases e
  . cases c
    . exact(h2 a b false d).go fun k=>rfl
    . exact(h2 a b true true).go fun k=>rfl
  . exact(h1 (decide (a>b))).go fun k=>rfl
 cases hc:(canon a==canon b)with
 |true=>exact⟨0,trivial,Goes.of2 (s:=S174.e ..) (qDm ha.1 ha.2) (qDm hb.1 hb.2) fun k q1 q2=>by simp only[qEK,nt,q1,q2,ae,hc,ah]⟩
 |false=>
  cases hd:decide (canon a>=9223372036854775808)with
  |true=>obtain⟨r,_,hr⟩:=h0 (canon a) (canon b) true (decide (canon b>=9223372036854775808)) (decide (canon b>=9223372036854775808));exact⟨r,trivial,Goes.of3 (s:=S174.e ..) (qDm ha.1 ha.2) (qDm hb.1 hb.2) hr fun k q1 q2 q3=>by simp only[qEK,nt,q1,q2,ae,hc,hd,ah,af];exact q3⟩
  |false=>obtain⟨r,_,hr⟩:=h0 (canon a) (canon b) false (decide (canon b>=9223372036854775808)) false;exact⟨r,trivial,Goes.of3 (s:=S174.e ..) (qDm ha.1 ha.2) (qDm hb.1 hb.2) hr fun k q1 q2 q3=>by simp only[qEK,nt,q1,q2,ae,hc,hd,af];exact q3⟩
theorem qFt (a:Int):Tot (fun k=>g175 k a) (a==0||a==9223372036854775808):=Goes.fin (s:=S175.e ..) fun k=>by simp only[qFc,nt];cases (a==0)<;>rfl
theorem qE5 {a b:Int}(ha:U64 a)(hb:U64 b):Has (fun k=>g129 k a b) fun _=>True:=by refine⟨_,trivial,Goes.alw (s:=S129.e ..) ((qCg ha.1 ha.2).and ((qCg hb.1 hb.2).and ((qFt a).and (qFt b)))) (r:=!decide (a % 9223372036854775808>9218868437227405312)&&(!decide (b % 9223372036854775808>9218868437227405312)&&(a==b||((a==0||a==9223372036854775808)&&(b==0||b==9223372036854775808))))) fun k q=>?_⟩;obtain⟨q1,q2,q3,q4⟩:=q;simp only[qFb,nt,q1,q2,q3,q4,ae];cases decide (a % 9223372036854775808>9218868437227405312)<;>cases decide (b % 9223372036854775808>9218868437227405312)<;>cases (a==b)<;>cases (a==0||a==9223372036854775808)<;>rfl
theorem qE4 {a b:Int}(ha:U64 a)(hb:U64 b):Has (fun k=>g128 k a b) fun _=>True:=by obtain⟨e,_,he⟩:=qE5 ha hb;obtain⟨f,_,hf⟩:=qEV ha hb;refine⟨_,trivial,Goes.alw (s:=S128.e ..) ((qCg ha.1 ha.2).and ((qCg hb.1 hb.2).and (he.and hf))) (r:=!decide (a % 9223372036854775808>9218868437227405312)&&(!decide (b % 9223372036854775808>9218868437227405312)&&(!e&&decide (f<0)))) fun k q=>?_⟩;obtain⟨q1,q2,q3,q4⟩:=q;simp only[qFa,nt,q1,q2,q3,q4,ae];cases decide (a % 9223372036854775808>9218868437227405312)<;>cases decide (b % 9223372036854775808>9218868437227405312)<;>cases e<;>rfl
theorem qFp {a:Int}(ha:U64 a):Has (fun k=>g130 k a) fun v=>U64 v/\canon v=v:=by
 cases hc:decide (a % 9223372036854775808>9218868437227405312)with
 |true=>exact⟨9221120237041090560,⟨⟨by simp,by simp⟩,by simp[canon]⟩,Goes.of1 (s:=S130.e ..) (qCg ha.1 ha.2) fun k q=>by simp only[qEX,nt,q,ae,hc,ah]⟩
 |false=>
  have hc':=of_decide_eq_false hc;obtain⟨a0,a1⟩:=ha;by_cases hd:a>=9223372036854775808
  . refine⟨a-9223372036854775808,⟨⟨by omega,by omega⟩,by unfold canon;rw[aG (by omega)]⟩,Goes.of1 (s:=S130.e ..) (qCg a0 a1) fun k q=>?_⟩;simp only[qEX,nt,q,ae,hc,af,xe,aF hd,IntKind.wrap_u64];rw[Int.emod_eq_of_lt (by omega) (by omega)]
  . refine⟨a+9223372036854775808,⟨⟨by omega,by omega⟩,by unfold canon;rw[aG (by omega)]⟩,Goes.of1 (s:=S130.e ..) (qCg a0 a1) fun k q=>?_⟩;simp only[qEX,nt,q,ae,hc,af,xe,aG hd,IntKind.wrap_u64];rw[Int.emod_eq_of_lt (by omega) (by omega)]
theorem qFs {a b:Int}{c:Bool}(ha:U64 a)(hb:U64 b)(ca:canon a=a)(cb:canon b=b):Has (fun k=>g135 k a b c) fun v=>U64 v/\canon v=v:=by
 obtain⟨e,_,he⟩:=qEV ha hb;have h0:∀ d,Ends qEP (.h0 a b c d) fun v=>U64 v/\canon v=v:=fun d=>by
  cases d
  .
   refine⟨bif (decide (e>0))!=c then b else a,?_,Goes.of1 he fun k q=>?_⟩
   . cases (decide (e>0))!=c
     . exact⟨ha,ca⟩
     . exact⟨hb,cb⟩
   . simp only[qEP,nt,af,q,ae];cases (decide (e>0))!=c<;>rfl
  . exact .fin 9221120237041090560 ⟨⟨by simp,by simp⟩,by simp[canon]⟩ fun k=>rfl
 cases hc:decide (a % 9223372036854775808>9218868437227405312)with
 |true=>obtain⟨r,h1,h2⟩:=h0 true;exact⟨r,h1,Goes.of2 (s:=S135.e ..) (qCg ha.1 ha.2) h2 fun k q1 q2=>by simp only[qEP,nt,q1,ae,hc,ah];exact q2⟩
 |false=>obtain⟨r,h1,h2⟩:=h0 (decide (b % 9223372036854775808>9218868437227405312));exact⟨r,h1,Goes.of3 (s:=S135.e ..) (qCg ha.1 ha.2) (qCg hb.1 hb.2) h2 fun k q1 q2 q3=>by simp only[qEP,nt,q1,q2,ae,hc,af];exact q3⟩
theorem qEZ (m:Nat)(h:m<18446744073709551616):(BitVec.ofInt 64 (m:Int) &&& BitVec.ofInt 64 2047).toNat=m % 2048:=by rw[show(2047:Int)=((2047:Nat):Int)by rfl,qAc _ _ (by omega),Nat.mod_eq_of_lt h,show(2047:Nat)=2 ^ 11-1 by decide,Nat.and_two_pow_sub_one_eq_mod]
theorem qFU (s:Int)(hs:s=0\/s=9223372036854775808):∀ (e:Nat) (m:Nat),e<=63->2 ^ (63-e)<=m->m<18446744073709551616->Ends qEB (.h1 (m:Int) s (e:Int)) fun v=>U64 v/\canon v=v:=by
 intro e
 induction e with
 |zero=>intro m he hm hlt;exact h2all s hs 0 m (by omega) (by simpa using hm) hlt
 |succ e ih=>
  intro m he hm hlt;by_cases hb:m<9223372036854775808
  .
   have hp:2 ^ (63-e)=2*2 ^ (63-(e+1)):=by rw[show 63-e=(63-(e+1))+1 by omega,Nat.pow_succ];omega
   refine(ih (2*m) (by omega) (by omega) (by omega)).go fun k=>?_;have h1:Int.fdiv (m:Int) (2 ^ 63)=0:=by rw[Int.fdiv_eq_ediv_of_nonneg _ (by decide)];omega
   simp only[qEB,nt,h1,beq_self_eq_true,ah,IntKind.wrap_u64];rw[wrapN (by omega) (by omega)];congr 2
   . omega
   . omega
  . exact h2all s hs (e+1) m (by omega) (by omega) hlt
where
 h2all (s:Int) (hs:s=0\/s=9223372036854775808) (e m:Nat) (he:e<=63) (hm:9223372036854775808<=m) (hlt:m<18446744073709551616):Ends qEB (.h1 (m:Int) s (e:Int)) fun v=>U64 v/\canon v=v:=by
  have h3:∀ q:Nat,q<=9007199254740992->Ends qEB (.h3 s (e:Int) (q:Int)) fun v=>U64 v/\canon v=v:=fun q hq=>by
   refine .fin (s+(1022+(e:Int))*4503599627370496+q) ⟨⟨by omega,by omega⟩,by rcases hs with rfl|rfl<;>(unfold canon;rw[aG (by omega)])⟩ fun k=>?_
   simp only[qEB,IntKind.wrap_u64]
   rw[wrapN (by omega) (by omega),aa]
   rw[show(2:Int) ^ 52=4503599627370496 by rfl,Int.emod_eq_of_lt (a:=1022+(e:Int)) (by omega) (by omega),Int.emod_eq_of_lt (a:=(1022+(e:Int))*4503599627370496) (by omega) (by omega)]
   rcases hs with rfl|rfl
   . rw[Int.emod_eq_of_lt (a:=0+(1022+(e:Int))*4503599627370496) (by omega) (by omega),Int.emod_eq_of_lt (by omega) (by omega)]
   . rw[Int.emod_eq_of_lt (a:=9223372036854775808+(1022+(e:Int))*4503599627370496) (by omega) (by omega),Int.emod_eq_of_lt (by omega) (by omega)]
  have hq:Int.fdiv (m:Int) (2 ^ 11)=((m / 2048:Nat):Int):=by
   rw[Int.fdiv_eq_ediv_of_nonneg _ (by decide)];rfl
  have h2:∀ d,Ends qEB (.h2 s (e:Int) ((m / 2048:Nat):Int) d) fun v=>U64 v/\canon v=v:=fun d=>by
   cases d
   . exact(h3 (m / 2048) (by omega)).go fun k=>rfl
   .
    refine(h3 (m / 2048+1) (by omega)).go fun k=>?_
    simp only[qEB,nt,ah,IntKind.wrap_u64]
    congr 2
    omega
  have h1:(Int.fdiv (m:Int) (2 ^ 63)==0)=false:=by
   rw[Int.fdiv_eq_ediv_of_nonneg _ (by decide),qxO,aO]
   omega
  by_cases c1:(m % 2048:Nat)>1024
  .
   refine(h2 true).go fun k=>?_
   simp only[qEB,nt,h1,af,qEZ m hlt,IntKind.wrap_u64,xe,hq]
   rw[aF (by omega)]
  .
   by_cases c2:(m % 2048:Nat)=1024
   .
    refine(h2 ((((BitVec.ofInt 64 ((m / 2048:Nat):Int) &&& BitVec.ofInt 64 1).toNat:Nat):Int) % 18446744073709551616==1)).go fun k=>?_
    simp only[qEB,nt,h1,af,qEZ m hlt,IntKind.wrap_u64,xe,zt,hq]
    rw[aG (by omega),aF (by omega)]
   .
    refine(h2 false).go fun k=>?_
    simp only[qEB,nt,h1,af,qEZ m hlt,IntKind.wrap_u64,xe,zt,hq]
    rw[aG (by omega),aG (by omega)]
theorem qFq {a:Int}(h0 : -9223372036854775808<=a)(h1:a<9223372036854775808):Has (fun k=>g133 k a) fun v=>U64 v/\canon v=v:=by
 by_cases ha:a=0
 . subst ha;exact⟨0,⟨⟨by simp,by simp⟩,by simp[canon]⟩,Goes.fin (s:=S133.e ..) fun k=>rfl⟩
 .
  have h:∀ (m:Nat) s,(s=0\/s=9223372036854775808)->1<=m->m<18446744073709551616->Ends qEB (.h0 (m:Int) s) fun v=>U64 v/\canon v=v:=fun m s hs hm hlt=>(qFU s hs 63 m (by omega) (by simpa using hm) hlt).go fun k=>rfl;by_cases hn:a<0
  . refine(h (-a).toNat 9223372036854775808 (.inr rfl) (by omega) (by omega)).go (s:=S133.e ..) fun k=>?_;simp only[qEB,nt,zt,aG ha,xe,aF hn,IntKind.wrap_u64];congr 2;omega
  . refine(h a.toNat 0 (.inl rfl) (by omega) (by omega)).go (s:=S133.e ..) fun k=>?_;simp only[qEB,nt,zt,aG ha,xe,aG hn,IntKind.wrap_u64];congr 2;omega
end Ab
end Go.Proofs.YtjnefcbeemkkeaaGreat

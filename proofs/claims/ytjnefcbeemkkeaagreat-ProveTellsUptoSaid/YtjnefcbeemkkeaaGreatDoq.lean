/-
  The document's operators of floats, by plain walks; what they give as a plain function; their way as the interpreter has it. No claim stands here.
-/
import Derived.Test.YtjnefcbeemkkeaaGreatStq
import Derived.WalkKit
import Derived.Laws.FloatArith
import Derived.Laws.Bits64
import Derived.Lib.OthersKept
namespace Go.Proofs
namespace YtjnefcbeemkkeaaGreat
namespace Ab
open Go.RowKit
def canon (b:Int):Int:=if b % 9223372036854775808>9218868437227405312 then 9221120237041090560 else b
theorem bits_nat (b m:Nat)(hb:b<18446744073709551616)(hm:m<18446744073709551616):bits .and .u64 (b:Int) (m:Int)=((b &&& m:Nat):Int):=by
 have h:(BitVec.ofInt 64 (b:Int) &&& BitVec.ofInt 64 (m:Int)).toNat=b &&& m:=by rw[BitVec.toNat_and,BitVec.toNat_ofInt,BitVec.toNat_ofInt];congr 1<;>omega
 have h2:b &&& m<=b:=Nat.and_le_left;show IntKind.u64.wrap (((BitVec.ofInt 64 (b:Int) &&& BitVec.ofInt 64 (m:Int)).toNat:Nat):Int)=_;rw[h,IntKind.wrap_u64];omega
set_option maxRecDepth 1000000 in
theorem qFv (b:Nat)(hb:b<18446744073709551616)(w:World):Calls Tryz.prog 131 #[.int .u64 (b:Int)] w fun e w'=>e=.returned (.bool (decide ((b:Int) % 9223372036854775808>9218868437227405312)))/\w=w':=by
 have e1:bits .and .u64 ((b:Int) / 4503599627370496) 2047=((b / 4503599627370496 % 2048:Nat):Int):=by rw[show(b:Int) / 4503599627370496=((b / 4503599627370496:Nat):Int)from rfl,show(2047:Int)=((2047:Nat):Int)from rfl,bits_nat _ _ (by omega) (by omega),show(2047:Nat)=2 ^ 11-1 by decide,Nat.and_two_pow_sub_one_eq_mod]
 have e2:bits .and .u64 (b:Int) 4503599627370495=((b % 4503599627370496:Nat):Int):=by rw[show(4503599627370495:Int)=((4503599627370495:Nat):Int)from rfl,bits_nat _ _ hb (by omega),show(4503599627370495:Nat)=2 ^ 52-1 by decide,Nat.and_two_pow_sub_one_eq_mod]
 go_enter Tryz.func131,Tryz.ntmps131
 go_wp2
 .
  rename_i h
  go_ret
  refine⟨?_,rfl⟩;show Ending.returned (.bool ((b:Int) % 4503599627370496 != 0))=_;congr 2;rw[Bool.eq_iff_iff];simp only[bne_iff_ne,aY];omega
 .
  rename_i h
  go_ret
  refine⟨?_,rfl⟩;show Ending.returned (.bool false)=_;congr 2;rw[eq_comm,decide_eq_false_iff_not];omega
set_option maxRecDepth 1000000 in
theorem qET (b:Nat)(hb:b<18446744073709551616)(w:World):Calls Tryz.prog 81 #[.int .u64 (b:Int)] w fun e w'=>e=.returned (.int .u64 (canon b))/\w=w':=by
 go_enter Tryz.func81,Tryz.ntmps81
 go_wp2_with (go_at_call 131;refine(qFv _ hb _).mono ?_;rintro e w' ⟨rfl,rfl⟩)
 .
  rename_i h
  go_ret
  refine⟨?_,rfl⟩;show Ending.returned (.int .u64 9221120237041090560)=_;rw[canon,aF (by omega)]
 .
  rename_i h
  go_ret
  refine⟨?_,rfl⟩;show Ending.returned (.int .u64 (b:Int))=_;rw[canon,aG (by omega)]
theorem qFn {P:Program}{f:Nat}{fn:Func}(hf:P.funcs[f]? = some fn)(hn:(fn.name == "runtime.NumGoroutine")=false)(hb:fn.body.isNone=true)(hx:Extern.findNext fn=none){row:Array Value->Sem Value}(hr:Extern.find fn=some row)(args:Array Value){v:Value}(hv:∀ w,(row args).run P w=.ok v w)(w:World):
  (callFunc f args).run P w=.ok (.value v) w:=by
 simp only[callFunc,program,bind,Sem.bind,Sem.run,hf,hn,hb,hx,hr,mark,aU,if_false,if_true];have:=aL (P:=P) (w:=w) (row args) fun v=>(pure (.value v):Sem Next)
 rw[hv w]at this;exact this
theorem qFD (n:Int)(w:World):(callFunc 214 #[.int .u64 n]).run Tryz.prog w=.ok (.value (.float .f64 n.toNat)) w:=qFn Tryz.func214 (by kernel_rfl) (by kernel_rfl) (by kernel_rfl) (row:=Extern.MathFloatBits.float64frombits) (by kernel_rfl) _ (fun w=>rfl) w
theorem qFB (n:Nat)(w:World):(callFunc 177 #[.float .f64 n]).run Tryz.prog w=.ok (.value (.int .u64 n)) w:=qFn Tryz.func177 (by kernel_rfl) (by kernel_rfl) (by kernel_rfl) (row:=Extern.MathFloatBits.float64bits) (by kernel_rfl) _ (fun w=>rfl) w
set_option maxRecDepth 1000000 in
theorem qEU (b:Nat)(hb:b<18446744073709551616)(w:World):Calls Tryz.prog 176 #[.int .u64 (b:Int)] w fun e w'=>e=.returned (.float .f64 (canon b).toNat)/\w=w':=by
 have hf:=qFD
 go_enter Tryz.func176,Tryz.ntmps176
 go_wp2_with (go_at_call 81;refine(qET _ hb _).mono ?_;rintro e w' ⟨rfl,rfl⟩)
 go_ret
 exact⟨rfl,rfl⟩
def zF (op:BinOp)(x y:Nat)(w:World):Nat:=match floatBits op .f64 x y with
 |some r=>r
 |none=>(Question.nanBits .f64 x y).cut (w.tape w.drawn (.nanBits .f64 x y))
def wF (op:BinOp)(x y:Nat)(w:World):World:=match floatBits op .f64 x y with
 |some _=>w
 |none=>w.drew
def arith:BinOp->Bool|.add|.sub|.mul|.quo=>true|_=>false
theorem qE0 {P:Program}{op:BinOp}(h:arith op=true)(t:TypeId)(x y:Nat)(w:World):(binOp op t (.float .f64 x) (.float .f64 y)).run P w=.ok (.float .f64 (zF op x y w)) (wF op x y w):=by
 unfold zF wF;cases hr:floatBits op .f64 x y with
 |some r=>exact run_float_arith w op t .f64 x y r hr
 |none=>cases op<;>first|(cases h;done)|(simp only[floatBits]at hr;simp[binOp,Op.floatArith,hr,Question.forced])
def resZ (op:BinOp)(x y:Nat):Int:=match floatBits op .f64 x y with
 |some r=>canon r
 |none=>9221120237041090560
theorem qGj (op:BinOp)(x y:Nat)(w:World):zF op x y w<18446744073709551616:=by
 unfold zF;cases hr:floatBits op .f64 x y with
 |some r=>
  unfold floatBits at hr;split at hr
  . exact FloatKind.f64.format.add_lt hr
  . exact FloatKind.f64.format.sub_lt hr
  . exact FloatKind.f64.format.mul_lt hr
  . exact FloatKind.f64.format.div_lt hr
  . cases hr
 |none=>simp only[Question.cut];omega
theorem qFW (t:Nat):(t % 2*9223372036854775808+9218868437227405312+1+t / 2 % 4503599627370495) % 9223372036854775808=9218868437227405313+t / 2 % 4503599627370495:=by omega
theorem qF6 (op:BinOp)(x y:Nat)(w:World):canon (zF op x y w)=resZ op x y:=by
 unfold zF resZ;cases hr:floatBits op .f64 x y with
 |some r=>rfl
 |none=>simp only[Question.cut,Nat.reducePow,Nat.reduceSub];generalize w.tape w.drawn _=q;have e:=qFW q;rw[canon,aF (by omega)]
theorem qE2 (op:BinOp)(x y:Nat)(w:World):Below w.heap.size w (wF op x y w):=by
 unfold wF;split
 . exact Below.refl _ _
 . exact(Below.refl _ _).drew
theorem qE8 {op:BinOp}{x y:Nat}{w v:World}(h:Below w.heap.size w v):Below w.heap.size w (wF op x y v):=by
 unfold wF;split
 . exact h
 . exact h.drew
def doF (op a b:Int):Int:=resZ (if op=2 then .sub else if op=3 then .mul else if op=4 then .quo else .add) (canon a).toNat (canon b).toNat
set_option maxRecDepth 1000000 in
theorem qFC (op:Int)(a b:Nat)(ha:a<18446744073709551616)(hb:b<18446744073709551616)(w:World):Calls Tryz.prog 132 #[.int .i64 op,.int .u64 (a:Int),.int .u64 (b:Int)] w fun e w'=>e=.returned (.int .u64 (doF op a b))/\Below w.heap.size w w':=by
 have hbit:=qFB;have hadd:=fun t x y w=>qE0 (P:=Tryz.prog) (op:=.add) rfl t x y w;have hsub:=fun t x y w=>qE0 (P:=Tryz.prog) (op:=.sub) rfl t x y w;have hmul:=fun t x y w=>qE0 (P:=Tryz.prog) (op:=.mul) rfl t x y w;have hquo:=fun t x y w=>qE0 (P:=Tryz.prog) (op:=.quo) rfl t x y w
 go_enter Tryz.func132,Tryz.ntmps132
 go_wp2_with (first|(go_at_call 81;refine(qET _ (qGj _ _ _ _) _).mono ?_;rintro e w' ⟨rfl,rfl⟩)|(go_at_call 176;refine(qEU _ ha _).mono ?_;rintro e w' ⟨rfl,rfl⟩)|(go_at_call 176;refine(qEU _ hb _).mono ?_;rintro e w' ⟨rfl,rfl⟩))
 all_goals
  go_ret
  refine⟨?_,?_⟩
 case refine_2=>exact qE8 (qE2 _ _ _ _)
 all_goals first|(show Ending.returned (.int .u64 (canon (zF _ _ _ _)))=_;rw[qF6];simp_all[doF];done)|exact qE8 (qE2 _ _ _ _)|exact qE2 _ _ _ _
variable [Glob]
theorem yG {G:Gh}{w:World}{F:Fr}{Vs:Array Value}(h:RelF G w F Vs){k:Nat}{x:Value}(e:F.slots[k]? = some (.c (.val x))):Vs[k]? = some x:=by
 obtain⟨V,hV,hr⟩:=h.slots k _ e;obtain⟨u,hu,hs⟩:=hr.2 0 0 (.val x) rfl;rcases hs with hs|hs
 . cases hs
 . have:V=u:=by simpa [AV.c,qX]using hu
   rw[hV,this,hs.1]
noncomputable def doX (op a b:Int):Option Int:=if 0<=a/\a<18446744073709551616/\0<=b/\b<18446744073709551616 then some (doF op a b)else none
theorem qFZ {op a b v:Int}(h:doX op a b=some v):Ev Tryz.prog noHand 132 [.c (ic op),.c (.val (.int .u64 a)),.c (.val (.int .u64 b))] [] (.ret (.c (.val (.int .u64 v)))) []:=by
 refine⟨⟨Tryz.f132,by kernel_rfl,by kernel_rfl,by kernel_rfl⟩,fun G w Vs hr=>?_⟩;unfold doX at h;split at h
 case isFalse=>cases h
 rename_i hb;cases h;have e0:=yG hr (k:=0) (x:=.int .i64 op) rfl;have e1:=yG hr (k:=1) (x:=.int .u64 a) rfl;have e2:=yG hr (k:=2) (x:=.int .u64 b) rfl;have hs:=hr.size;have hVs:Vs = #[.int .i64 op,.int .u64 a,.int .u64 b]:=by
  apply Array.ext_getElem?;intro i
  match i with
  |0=>rw[e0];rfl
  |1=>rw[e1];rfl
  |2=>rw[e2];rfl
  |i+3=>
   have:Vs.size<=i+3:=by rw[<- hs];simp
   rw[Array.getElem?_eq_none this];simp
 subst hVs;obtain⟨n,rfl⟩:∃ n:Nat,a=n:=⟨a.toNat,by omega⟩
 obtain⟨m,rfl⟩:∃ m:Nat,b=m:=⟨b.toNat,by omega⟩
 refine(qFC op n m (by omega) (by omega) w).mono fun e w' he=>?_;obtain⟨rfl,hbw⟩:=he;exact qfA hr hbw rfl
instance {op a b:Int}:EvI (doX op a b) 132 [.c (ic op),.c (.val (.int .u64 a)),.c (.val (.int .u64 b))] [] (fun v=>.ret (.c (.val (.int .u64 v)))) (fun _=>[]):=⟨fun _ h=>qFZ h⟩
end Ab
end YtjnefcbeemkkeaaGreat
end Go.Proofs

/-
  The document's operators of floats, by plain walks; what they give as a plain function; their way as the interpreter has it. No claim stands here.
-/
import Derived.Test.YtnnhdcidgfjfpaaGreatDoorStq
import Derived.WalkKit
import Derived.Laws.FloatArith
import Derived.Laws.Bits64
import Derived.Lib.OthersKept
namespace Go.Proofs
namespace YtnnhdcidgfjfpaaGreatDoor
namespace Ab
open Go.RowKit
def canon (b:Int):Int:=if b % 9223372036854775808>9218868437227405312 then 9221120237041090560 else b
theorem bits_nat (b m:Nat)(a:b<18446744073709551616)(c:m<18446744073709551616):bits .and .u64 (b:Int) (m:Int)=((b &&& m:Nat):Int):=by
 have h:(BitVec.ofInt 64 (b:Int) &&& BitVec.ofInt 64 (m:Int)).toNat=b &&& m:=by rw[BitVec.toNat_and,BitVec.toNat_ofInt,BitVec.toNat_ofInt];congr 1<;>omega
 have d:b &&& m<=b:=Nat.and_le_left;show IntKind.u64.wrap (((BitVec.ofInt 64 (b:Int) &&& BitVec.ofInt 64 (m:Int)).toNat:Nat):Int)=_;rw[h,IntKind.wrap_u64];omega
set_option maxRecDepth 1000000 in
theorem qB1 (b:Nat)(a:b<18446744073709551616)(w:World):Calls Tryz.prog 168 #[.int .u64 (b:Int)] w λe w'=>e=.returned (.bool (decide ((b:Int) % 9223372036854775808>9218868437227405312)))/\w=w':=by
 have c:bits .and .u64 ((b:Int) / 4503599627370496) 2047=((b / 4503599627370496 % 2048:Nat):Int):=by rw[show(b:Int) / 4503599627370496=((b / 4503599627370496:Nat):Int)from rfl,show(2047:Int)=((2047:Nat):Int)from rfl,bits_nat _ _ (by omega) (by omega),show(2047:Nat)=2 ^ 11-1 by decide,Nat.and_two_pow_sub_one_eq_mod]
 have d:bits .and .u64 (b:Int) 4503599627370495=((b % 4503599627370496:Nat):Int):=by rw[show(4503599627370495:Int)=((4503599627370495:Nat):Int)from rfl,bits_nat _ _ a (by omega),show(4503599627370495:Nat)=2 ^ 52-1 by decide,Nat.and_two_pow_sub_one_eq_mod]
 go_enter Tryz.func168,Tryz.ntmps168
 go_wp2
 .
  rename_i h
  go_ret
  refine⟨?_,rfl⟩;show Ending.returned (.bool ((b:Int) % 4503599627370496 != 0))=_;congr 2;rw[Bool.eq_iff_iff];simp only[bne_iff_ne,aW];omega
 .
  rename_i h
  go_ret
  refine⟨?_,rfl⟩;show Ending.returned (.bool false)=_;congr 2;rw[eq_comm,decide_eq_false_iff_not];omega
set_option maxRecDepth 1000000 in
theorem qxI (b:Nat)(a:b<18446744073709551616)(w:World):Calls Tryz.prog 159 #[.int .u64 (b:Int)] w λe w'=>e=.returned (.int .u64 (canon b))/\w=w':=by
 go_enter Tryz.func159,Tryz.ntmps159
 go_wp2_with (go_at_call 168;refine(qB1 _ a _).mono ?_;rintro e w' ⟨rfl,rfl⟩)
 .
  rename_i h
  go_ret
  refine⟨?_,rfl⟩;show Ending.returned (.int .u64 9221120237041090560)=_;rw[canon,aD (by omega)]
 .
  rename_i h
  go_ret
  refine⟨?_,rfl⟩;show Ending.returned (.int .u64 (b:Int))=_;rw[canon,aF (by omega)]
theorem qBI {P:Program}{f:Nat}{a:Func}(b:P.funcs[f]? = some a)(c:(a.name == "runtime.NumGoroutine")=false)(d:a.body.isNone=true)(e:Extern.findNext a=none){row:Array Value->Sem Value}(g:Extern.find a=some row)(args:Array Value){v:Value}(h:∀ w,(row args).run P w=.ok v w)(w:World):
  (callFunc f args).run P w=.ok (.value v) w:=by
 simp only[callFunc,program,bind,Sem.bind,Sem.run,b,c,d,e,g,mark,aS,if_false,if_true];have:=aK (P:=P) (w:=w) (row args) λv=>(pure (.value v):Sem Next)
 rw[h w]at this;exact this
theorem qCV (n:Int)(w:World):(callFunc 167 #[.int .u64 n]).run Tryz.prog w=.ok (.value (.float .f64 n.toNat)) w:=qBI Tryz.func167 (by kernel_rfl) (by kernel_rfl) (by kernel_rfl) (row:=Extern.MathFloatBits.float64frombits) (by kernel_rfl) _ (λw=>rfl) w
theorem qCN (n:Nat)(w:World):(callFunc 160 #[.float .f64 n]).run Tryz.prog w=.ok (.value (.int .u64 n)) w:=qBI Tryz.func160 (by kernel_rfl) (by kernel_rfl) (by kernel_rfl) (row:=Extern.MathFloatBits.float64bits) (by kernel_rfl) _ (λw=>rfl) w
set_option maxRecDepth 1000000 in
theorem qxO (b:Nat)(a:b<18446744073709551616)(w:World):Calls Tryz.prog 158 #[.int .u64 (b:Int)] w λe w'=>e=.returned (.float .f64 (canon b).toNat)/\w=w':=by
 have c:=qCV
 go_enter Tryz.func158,Tryz.ntmps158
 go_wp2_with (go_at_call 159;refine(qxI _ a _).mono ?_;rintro e w' ⟨rfl,rfl⟩)
 go_ret
 exact⟨rfl,rfl⟩
def zF (op:BinOp)(x y:Nat)(w:World):Nat:=match floatBits op .f64 x y with
 |some r=>r
 |none=>(Question.nanBits .f64 x y).cut (w.tape w.drawn (.nanBits .f64 x y))
def wF (op:BinOp)(x y:Nat)(w:World):World:=match floatBits op .f64 x y with
 |some _=>w
 |none=>w.drew
def arith:BinOp->Bool|.add|.sub|.mul|.quo=>true|_=>false
theorem qyJ {P:Program}{op:BinOp}(h:arith op=true)(t:TypeId)(x y:Nat)(w:World):(binOp op t (.float .f64 x) (.float .f64 y)).run P w=.ok (.float .f64 (zF op x y w)) (wF op x y w):=by
 unfold zF wF;cases a:floatBits op .f64 x y with
 |some r=>exact run_float_arith w op t .f64 x y r a
 |none=>cases op<;>first|(cases h;done)|(simp only[floatBits]at a;simp[binOp,Op.floatArith,a,Question.forced])
def resZ (op:BinOp)(x y:Nat):Int:=match floatBits op .f64 x y with
 |some r=>canon r
 |none=>9221120237041090560
theorem qFL (op:BinOp)(x y:Nat)(w:World):zF op x y w<18446744073709551616:=by
 unfold zF;cases a:floatBits op .f64 x y with
 |some r=>
  unfold floatBits at a;split at a
  . exact FloatKind.f64.format.add_lt a
  . exact FloatKind.f64.format.sub_lt a
  . exact FloatKind.f64.format.mul_lt a
  . exact FloatKind.f64.format.div_lt a
  . cases a
 |none=>simp only[Question.cut];omega
theorem qDX (t:Nat):(t % 2*9223372036854775808+9218868437227405312+1+t / 2 % 4503599627370495) % 9223372036854775808=9218868437227405313+t / 2 % 4503599627370495:=by omega
theorem qDy (op:BinOp)(x y:Nat)(w:World):canon (zF op x y w)=resZ op x y:=by
 unfold zF resZ;cases a:floatBits op .f64 x y with
 |some r=>rfl
 |none=>simp only[Question.cut,Nat.reducePow,Nat.reduceSub];generalize w.tape w.drawn _=q;have e:=qDX q;rw[canon,aD (by omega)]
theorem qyW (op:BinOp)(x y:Nat)(w:World):Below w.heap.size w (wF op x y w):=by
 unfold wF;split
 . exact Below.refl _ _
 . exact(Below.refl _ _).drew
theorem qzA {op:BinOp}{x y:Nat}{w v:World}(h:Below w.heap.size w v):Below w.heap.size w (wF op x y v):=by
 unfold wF;split
 . exact h
 . exact h.drew
def doF (op a b:Int):Int:=resZ (if op=2 then .sub else if op=3 then .mul else if op=4 then .quo else .add) (canon a).toNat (canon b).toNat
set_option maxRecDepth 1000000 in
theorem qCT (op:Int)(a b:Nat)(i:a<18446744073709551616)(j:b<18446744073709551616)(w:World):Calls Tryz.prog 139 #[.int .i64 op,.int .u64 (a:Int),.int .u64 (b:Int)] w λe w'=>e=.returned (.int .u64 (doF op a b))/\Below w.heap.size w w':=by
 have c:=qCN;have d:=λt x y w=>qyJ (P:=Tryz.prog) (op:=.add) rfl t x y w;have f:=λt x y w=>qyJ (P:=Tryz.prog) (op:=.sub) rfl t x y w;have g:=λt x y w=>qyJ (P:=Tryz.prog) (op:=.mul) rfl t x y w;have h:=λt x y w=>qyJ (P:=Tryz.prog) (op:=.quo) rfl t x y w
 go_enter Tryz.func139,Tryz.ntmps139
 go_wp2_with (first|(go_at_call 159;refine(qxI _ (qFL _ _ _ _) _).mono ?_;rintro e w' ⟨rfl,rfl⟩)|(go_at_call 158;refine(qxO _ i _).mono ?_;rintro e w' ⟨rfl,rfl⟩)|(go_at_call 158;refine(qxO _ j _).mono ?_;rintro e w' ⟨rfl,rfl⟩))
 all_goals
  go_ret
  refine⟨?_,?_⟩
 case refine_2=>exact qzA (qyW _ _ _ _)
 all_goals first|(show Ending.returned (.int .u64 (canon (zF _ _ _ _)))=_;rw[qDy];simp_all[doF];done)|exact qzA (qyW _ _ _ _)|exact qyW _ _ _ _
variable [Glob]
theorem yG {G:Gh}{w:World}{F:Fr}{Vs:Array Value}(h:RelF G w F Vs){k:Nat}{x:Value}(e:F.slots[k]? = some (.c (.val x))):Vs[k]? = some x:=by
 obtain⟨V,a,b⟩:=h.slots k _ e;obtain⟨u,c,hs⟩:=b.2 0 0 (.val x) rfl;rcases hs with hs|hs
 . cases hs
 . have:V=u:=by simpa [AV.c,qX]using c
   rw[a,this,hs.1]
noncomputable def doX (op a b:Int):Option Int:=if 0<=a/\a<18446744073709551616/\0<=b/\b<18446744073709551616 then some (doF op a b)else none
theorem qEF {op a b v:Int}(h:doX op a b=some v):Ev Tryz.prog noHand 139 [.c (ic op),.c (.val (.int .u64 a)),.c (.val (.int .u64 b))] [] (.ret (.c (.val (.int .u64 v)))) []:=by
 refine⟨⟨Tryz.f139,by kernel_rfl,by kernel_rfl,by kernel_rfl⟩,λG w Vs c=>?_⟩;unfold doX at h;split at h
 case isFalse=>cases h
 rename_i q;cases h;have g:=yG c (k:=0) (x:=.int .i64 op) rfl;have j:=yG c (k:=1) (x:=.int .u64 a) rfl;have l:=yG c (k:=2) (x:=.int .u64 b) rfl;have o:=c.size;have d:Vs = #[.int .i64 op,.int .u64 a,.int .u64 b]:=by
  apply Array.ext_getElem?;intro i
  match i with
  |0=>rw[g];rfl
  |1=>rw[j];rfl
  |2=>rw[l];rfl
  |i+3=>
   have:Vs.size<=i+3:=by rw[<- o];simp
   rw[Array.getElem?_eq_none this];simp
 subst d;obtain⟨n,rfl⟩:∃ n:Nat,a=n:=⟨a.toNat,by omega⟩
 obtain⟨m,rfl⟩:∃ m:Nat,b=m:=⟨b.toNat,by omega⟩
 refine(qCT op n m (by omega) (by omega) w).mono λe w' p=>?_;obtain⟨rfl,f⟩:=p;exact qfA c f rfl
instance {op a b:Int}:EvI (doX op a b) 139 [.c (ic op),.c (.val (.int .u64 a)),.c (.val (.int .u64 b))] [] (λv=>.ret (.c (.val (.int .u64 v)))) (λ_=>[]):=⟨λ_ h=>qEF h⟩
end Ab
end YtnnhdcidgfjfpaaGreatDoor
end Go.Proofs

/-
  Functions' ways, printed by a program: what each computes, and that this is what the interpreter computes.
-/
import Derived.Test.YtjnefcbeemkkeaaGreatFQTbq
import Derived.KernelRfl
set_option linter.all false
set_option maxRecDepth 10000
set_option maxHeartbeats 8000000
namespace Go.Proofs.YtjnefcbeemkkeaaGreat
namespace Ab
variable [Glob]
inductive S5 where
 |e (a b:Int)(c d e f g:Rs)(i:Int)
 |h0 (a:Rs)(b c:Int)(d:Rs)(e f g i:Int)(j l:Rs)(m n o:Int)(p q t:Rs)
abbrev R5:=Bool
attribute [local irreducible] cond gd ixR sxI aixS Option.bind
noncomputable section
noncomputable def Qq (k:Nat)(rec:S5->Option R5):S5->Option R5
 |.e a b c d e f g i=>
  (g7 k a b c d e).bind fun j=>
  tup8 j fun l m n o p q t u=>
  bif !u then
   some true
  else
   (g13 k f).bind fun v=>
   rec (.h0 (qG v) l m n o p q t f g i a b c d e)
 |.h0 a b c d e f g i _ j l m n o p q=>
  (g15 k m n o p q a j l).bind fun t=>
  (g14 k m n o p q (qG t)).bind fun u=>
  tup2 u fun v w=>
  (g16 k b c d e f g i a j l).bind fun x=>
  tup2 x fun y z=>
  some (v==y&&(w==z&&true))
noncomputable def g5 (k:Nat)(a b:Int)(c d e f g:Rs)(i:Int):Option R5:=itS Qq k (.e a b c d e f g i)
def P5:S5->R5->Prop
 |.e a b c d e f g i=>Fe Y5 qtJ nB [.ag [ic a,ic b,.imm c,.imm d,.imm e],.ag [.imm f,.imm g,ic i]] []
 |.h0 a b c d e f g i j l m n o p q t=>Fk Y5 qtJ nB [1,1,1,1,0,2] ([.deadv,.deadv,pL 2,pL 3,.deadv,pL 5,.deadv,cm a]++rd 36) [(.loc 5,[ic b,ic c,.imm d,ic e,.val (.int .u64 f),ic g,ic i]),(.loc 3,[.imm j,.imm l,ic m]),(.loc 2,[ic n,ic o,.imm p,.imm q,.imm t])]
abbrev E5 (a b:Int)(c d e f g:Rs)(i:Int)(r:R5):Prop:=Ev Tryz.prog noHand 5 [.ag [ic a,ic b,.imm c,.imm d,.imm e],.ag [.imm f,.imm g,ic i]] [] (qtJ r) (nB r)
theorem evr5 {a b:Int}{c d e f g:Rs}{i:Int}{r:R5}(h:P5 (.e a b c d e f g i) r):E5 a b c d e f g i r:=evF h
theorem ok5:∀ k s r,itS Qq k s=some r->P5 s r:=qF fun k rec ih s r h=>match s,h with
 |.e ..,h=>by
  obtain⟨_,a,h⟩:=b8 h;replace h:=qa h;rcases h with⟨b,h⟩|⟨b,h⟩
  . cases h;exact mF 0 [cA 10 (evI a),cA 13 clAw,tT 17 b,cA 19 clAw]
  . replace h:=qh h;obtain⟨_,c,h⟩:=h;exact mG 0 (ih _ _ h) 12 [cA 10 (evI a),cA 13 clAw,tF 17 b,cA 22 (evI c)] 44 17592186044243 [] [(⟨⟨.slot 7,[]⟩,0,0⟩,none)]
 |.h0 ..,h=>by replace h:=qh h;obtain⟨_,a,h⟩:=h;obtain⟨_,b,h⟩:=b2 h;obtain⟨_,c,h⟩:=b2 h;cases h;exact mF 0 [cA 32 (evI a),cT 33 (evI b) (rfl:true=true),cA 42 (evI c)]
theorem ev5 {k:Nat}{a b:Int}{c d e f g:Rs}{i:Int}{r:R5}(h:g5 k a b c d e f g i=some r):E5 a b c d e f g i r:=evr5 (ok5 _ _ _ h)
instance {k:Nat} {a b:Int} {c d e f g:Rs} {i:Int}:EvI (g5 k a b c d e f g i) 5 [.ag [ic a,ic b,.imm c,.imm d,.imm e],.ag [.imm f,.imm g,ic i]] [] qtJ nB:=⟨fun r h=>ev5 h⟩
end
end Ab
end Go.Proofs.YtjnefcbeemkkeaaGreat

/-
  Definitions alone: the bodies of the functions, and what stands about each.
-/
import Derived.Test.YtjnefcbeemkkeaaGreatLibEq
import Derived.KernelRfl
set_option linter.all false
set_option maxRecDepth 10000
set_option maxHeartbeats 8000000
namespace Go.Proofs.YtjnefcbeemkkeaaGreat
namespace Ab
noncomputable section
variable [Glob]
def sc (s:ByteArray):Cell:=.val (.string s)
structure Fc where
 cx:Cx
 fn:Func
 code:Code
abbrev mkF (fn:Func)(vs mv:List Nat):Fc:=⟨⟨Tryz.prog,noHand,vs,[],[],mv⟩,fn,fn.body.getD .skip⟩
theorem hmix:Tryz.prog.follows .mixedOrders=true:=by kernel_rfl
theorem okF (more:List (List Cell)){a:Prop}(h:a):a/\(false=true->more.isEmpty=false):=⟨h,fun e=>by cases e⟩
theorem okT {a q:Prop}(h:a)(hq:q):a/\(true=true->q):=⟨h,fun _=>hq⟩
def Y3:Fc:=mkF Tryz.f3 [2,4,6] []
def Y7:Fc:=mkF Tryz.f7 [3,4,5] [14,15]
def Y8:Fc:=mkF Tryz.f8 [3,4,5,6] []
def Y9:Fc:=mkF Tryz.f9 [4] []
def Y19:Fc:=mkF Tryz.f19 [2,7,8] []
def Y20:Fc:=mkF Tryz.f20 [17,44,66,81] []
def Y21:Fc:=mkF Tryz.f21 [3] []
def Y22:Fc:=mkF Tryz.f22 [2,3,4,9,10,11,13,15,132,142,173,191,209] []
def Y23:Fc:=mkF Tryz.f23 [8,9] []
def Y24:Fc:=mkF Tryz.f24 [4,5,6,8,10,47,58] []
def Y25:Fc:=mkF Tryz.f25 [9,11,23,43,58,67] []
def Y26:Fc:=mkF Tryz.f26 [4,5] []
def Y42:Fc:=mkF Tryz.f42 [2] []
def Y46:Fc:=mkF Tryz.f46 [] []
def Y55:Fc:=mkF Tryz.f55 [2,31,38] []
def Y56:Fc:=mkF Tryz.f56 [3,8,26] []
def Y57:Fc:=mkF Tryz.f57 [4,5,19,45,71,102,121,142] []
def Y58:Fc:=mkF Tryz.f58 [5,7] []
def Y59:Fc:=mkF Tryz.f59 [2,3] []
def Y60:Fc:=mkF Tryz.f60 [2] []
def Y61:Fc:=mkF Tryz.f61 [4,5,6] []
def Y81:Fc:=mkF Tryz.f81 [2] []
def Y104:Fc:=mkF Tryz.f104 [2] []
def Y105:Fc:=mkF Tryz.f105 [2,3] []
def Y106:Fc:=mkF Tryz.f106 [4,7,14] []
def Y107:Fc:=mkF Tryz.f107 [2] []
def Y131:Fc:=mkF Tryz.f131 [2] []
def Y157:Fc:=mkF Tryz.f157 [4,5,13,20,27] []
def Y158:Fc:=mkF Tryz.f158 [4,5,23,48] []
def Y200:Fc:=mkF Tryz.f200 [2] []
end
end Ab
end Go.Proofs.YtjnefcbeemkkeaaGreat

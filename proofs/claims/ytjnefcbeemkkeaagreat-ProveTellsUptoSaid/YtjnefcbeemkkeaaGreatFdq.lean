/-
  Definitions alone: the bodies of the functions, and what stands about each.
-/
import Derived.Test.YtjnefcbeemkkeaaGreatLibEq
import Derived.KernelRfl
set_option linter.all false
set_option maxRecDepth 10000
set_option maxHeartbeats 8000000
namespace Go.Proofs.YtjnefcbeemkkeaaGreat
namespace Ab
noncomputable section
variable [Glob]
def sc (s:ByteArray):Cell:=.val (.string s)
structure Fc where
 cx:Cx
 fn:Func
 code:Code
abbrev mkF (fn:Func)(vs mv:List Nat):Fc:=⟨⟨Tryz.prog,noHand,vs,[],[],mv⟩,fn,fn.body.getD .skip⟩
theorem hmix:Tryz.prog.follows .mixedOrders=true:=by kernel_rfl
theorem okF (more:List (List Cell)){a:Prop}(h:a):a/\(false=true->more.isEmpty=false):=⟨h,fun e=>by cases e⟩
theorem okT {a q:Prop}(h:a)(hq:q):a/\(true=true->q):=⟨h,fun _=>hq⟩
def Y5:Fc:=mkF Tryz.f5 [4,6,7] []
def Y7:Fc:=mkF Tryz.f7 [3,4,5] [14,15]
def Y13:Fc:=mkF Tryz.f13 [2,3] []
def Y14:Fc:=mkF Tryz.f14 [5,6,7,8,11,30,38,51,65,78,91] [12,13]
def Y15:Fc:=mkF Tryz.f15 [8,9] []
def Y16:Fc:=mkF Tryz.f16 [9,11,12,13] []
def Y19:Fc:=mkF Tryz.f19 [2,7,8] []
def Y20:Fc:=mkF Tryz.f20 [17,44,66,81] []
def Y21:Fc:=mkF Tryz.f21 [3] []
def Y41:Fc:=mkF Tryz.f41 [] []
def Y42:Fc:=mkF Tryz.f42 [2] []
def Y43:Fc:=mkF Tryz.f43 [] []
def Y44:Fc:=mkF Tryz.f44 [] []
def Y45:Fc:=mkF Tryz.f45 [5,6,10] []
def Y46:Fc:=mkF Tryz.f46 [] []
def Y47:Fc:=mkF Tryz.f47 [] []
def Y48:Fc:=mkF Tryz.f48 [18,26,30,37] []
def Y55:Fc:=mkF Tryz.f55 [2,31,38] []
def Y56:Fc:=mkF Tryz.f56 [3,8,26] []
def Y57:Fc:=mkF Tryz.f57 [4,5,19,45,71,102,121,142] []
def Y58:Fc:=mkF Tryz.f58 [5,7] []
def Y61:Fc:=mkF Tryz.f61 [4,5,6] []
def Y76:Fc:=mkF Tryz.f76 [] []
def Y77:Fc:=mkF Tryz.f77 [] []
def Y78:Fc:=mkF Tryz.f78 [7,8,9] []
def Y79:Fc:=mkF Tryz.f79 [8,13] []
def Y80:Fc:=mkF Tryz.f80 [0,1,2,7,8,10,15,20,24,47,70,78,94] []
def Y81:Fc:=mkF Tryz.f81 [2] []
def Y82:Fc:=mkF Tryz.f82 [] []
def Y83:Fc:=mkF Tryz.f83 [] []
def Y104:Fc:=mkF Tryz.f104 [2] []
def Y105:Fc:=mkF Tryz.f105 [2,3] []
def Y106:Fc:=mkF Tryz.f106 [4,7,14] []
def Y126:Fc:=mkF Tryz.f126 [] []
def Y127:Fc:=mkF Tryz.f127 [4,5,6] []
def Y128:Fc:=mkF Tryz.f128 [4] []
def Y129:Fc:=mkF Tryz.f129 [4] []
def Y130:Fc:=mkF Tryz.f130 [2] []
def Y131:Fc:=mkF Tryz.f131 [2] []
def Y133:Fc:=mkF Tryz.f133 [2,3,4,5,6,7] []
def Y134:Fc:=mkF Tryz.f134 [4,5,6] []
def Y135:Fc:=mkF Tryz.f135 [6] []
def Y157:Fc:=mkF Tryz.f157 [4,5,13,20,27] []
def Y158:Fc:=mkF Tryz.f158 [4,5,23,48] []
def Y174:Fc:=mkF Tryz.f174 [0,1,4,5,6,7,22,30] []
def Y175:Fc:=mkF Tryz.f175 [2] []
def Y200:Fc:=mkF Tryz.f200 [2] []
end
end Ab
end Go.Proofs.YtjnefcbeemkkeaaGreat

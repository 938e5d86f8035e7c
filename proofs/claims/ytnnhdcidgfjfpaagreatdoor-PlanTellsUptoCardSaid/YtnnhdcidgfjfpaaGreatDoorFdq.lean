/-
  Definitions alone: the bodies of the functions, and what stands about each.
-/
import Derived.Test.YtnnhdcidgfjfpaaGreatDoorLibEq
import Derived.KernelRfl
set_option linter.all false
set_option maxRecDepth 10000
set_option maxHeartbeats 8000000
namespace Go.Proofs.YtnnhdcidgfjfpaaGreatDoor
namespace Ab
noncomputable section
variable [Glob]
def sc (s:ByteArray):Cell:=.val (.string s)
structure Fc where
 cx:Cx
 fn:Func
 code:Code
abbrev mkF (a:Func)(vs mv:List Nat):Fc:=⟨⟨Tryz.prog,noHand,vs,[],[],mv⟩,a,a.body.getD .skip⟩
theorem hmix:Tryz.prog.follows .mixedOrders=true:=by kernel_rfl
theorem okF (more:List (List Cell)){a:Prop}(h:a):a/\(false=true->more.isEmpty=false):=⟨h,λe=>by cases e⟩
theorem okT {a q:Prop}(h:a)(b:q):a/\(true=true->q):=⟨h,λ_=>b⟩
def Y7:Fc:=mkF Tryz.f7 [4,6,7,9,10,12,13,15,16] []
def Y8:Fc:=mkF Tryz.f8 [3,4,5,6,7,8] []
def Y15:Fc:=mkF Tryz.f15 [4,5,6,9] []
def Y17:Fc:=mkF Tryz.f17 [5,6,7,8,9,10,12,13,14] []
def Y18:Fc:=mkF Tryz.f18 [4,5,6,9] []
def Y19:Fc:=mkF Tryz.f19 [6] []
def Y20:Fc:=mkF Tryz.f20 [2,3,4,5,6,8] []
def Y21:Fc:=mkF Tryz.f21 [] []
def Y22:Fc:=mkF Tryz.f22 [2] []
def Y23:Fc:=mkF Tryz.f23 [4] []
def Y24:Fc:=mkF Tryz.f24 [3,4,5] []
def Y25:Fc:=mkF Tryz.f25 [2,3] []
def Y26:Fc:=mkF Tryz.f26 [] []
def Y27:Fc:=mkF Tryz.f27 [2,3,4] []
def Y36:Fc:=mkF Tryz.f36 [4,5] []
def Y37:Fc:=mkF Tryz.f37 [2,3,4,5,6,11] []
def Y38:Fc:=mkF Tryz.f38 [2,3,4,5,6,7,8,9,10] []
def Y39:Fc:=mkF Tryz.f39 [10,11,13,15] [93]
def Y40:Fc:=mkF Tryz.f40 [4,5,8,9,10,11] []
def Y41:Fc:=mkF Tryz.f41 [6,7,8,9,11,12,15,20] []
def Y42:Fc:=mkF Tryz.f42 [4,5] []
def Y43:Fc:=mkF Tryz.f43 [2,3,4] []
def Y44:Fc:=mkF Tryz.f44 [2] []
def Y45:Fc:=mkF Tryz.f45 [5,6,7,8,9,10,12] []
def Y46:Fc:=mkF Tryz.f46 [] []
def Y47:Fc:=mkF Tryz.f47 [] []
def Y48:Fc:=mkF Tryz.f48 [5,6,7,8] []
def Y49:Fc:=mkF Tryz.f49 [2] []
def Y50:Fc:=mkF Tryz.f50 [] []
def Y51:Fc:=mkF Tryz.f51 [2] []
def Y52:Fc:=mkF Tryz.f52 [2,3,4] []
def Y72:Fc:=mkF Tryz.f72 [2,3,4,5] []
def Y73:Fc:=mkF Tryz.f73 [2,3,5,8] []
def Y74:Fc:=mkF Tryz.f74 [2,3,4] []
def Y75:Fc:=mkF Tryz.f75 [2,3,4,5,6,7,8,9,10,11,12,64,91,101,111,122] []
def Y76:Fc:=mkF Tryz.f76 [2,3,4] []
def Y77:Fc:=mkF Tryz.f77 [4,5] []
def Y78:Fc:=mkF Tryz.f78 [5] []
def Y79:Fc:=mkF Tryz.f79 [] []
def Y80:Fc:=mkF Tryz.f80 [6] []
def Y81:Fc:=mkF Tryz.f81 [6,7] []
def Y82:Fc:=mkF Tryz.f82 [4,5,6,7,30,34,38,42,59] []
def Y83:Fc:=mkF Tryz.f83 [6,7,9,10] []
def Y84:Fc:=mkF Tryz.f84 [8,11,41,46,59,73] []
def Y85:Fc:=mkF Tryz.f85 [2] []
def Y86:Fc:=mkF Tryz.f86 [6,7] []
def Y87:Fc:=mkF Tryz.f87 [2,4] []
def Y88:Fc:=mkF Tryz.f88 [2,3] []
def Y89:Fc:=mkF Tryz.f89 [2] []
def Y90:Fc:=mkF Tryz.f90 [5,6,7,8,9,10,11,13] []
def Y91:Fc:=mkF Tryz.f91 [6,7,8,9,10,11] []
def Y109:Fc:=mkF Tryz.f109 [2,3,4,5,6,7,22,36,45,57,83,100,112] []
def Y110:Fc:=mkF Tryz.f110 [2,3,6,9,12,19,26,33] []
def Y111:Fc:=mkF Tryz.f111 [2,3,5,8,11,14,17] []
def Y112:Fc:=mkF Tryz.f112 [2,5,10,17,22,28,36] []
def Y113:Fc:=mkF Tryz.f113 [4,5,6] []
def Y114:Fc:=mkF Tryz.f114 [4,6,7,8] []
def Y115:Fc:=mkF Tryz.f115 [4,5,6] []
def Y116:Fc:=mkF Tryz.f116 [4,5,6,7] []
def Y117:Fc:=mkF Tryz.f117 [0] []
def Y118:Fc:=mkF Tryz.f118 [2,3,4,5,6,7] []
def Y119:Fc:=mkF Tryz.f119 [5,6,7] []
def Y120:Fc:=mkF Tryz.f120 [12,27,45,60,72,88,106] []
def Y137:Fc:=mkF Tryz.f137 [4,5,6,7] []
def Y138:Fc:=mkF Tryz.f138 [0] []
def Y140:Fc:=mkF Tryz.f140 [2,3,4,5,6,7] []
def Y141:Fc:=mkF Tryz.f141 [2,3] []
def Y142:Fc:=mkF Tryz.f142 [2,3,4] []
def Y143:Fc:=mkF Tryz.f143 [4,5] []
def Y161:Fc:=mkF Tryz.f161 [2] []
end
end Ab
end Go.Proofs.YtnnhdcidgfjfpaaGreatDoor

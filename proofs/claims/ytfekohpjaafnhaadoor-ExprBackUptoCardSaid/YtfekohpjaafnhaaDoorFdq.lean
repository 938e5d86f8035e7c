/-
  Definitions alone: the bodies of the functions, and what stands about each.
-/
import Derived.Test.YtfekohpjaafnhaaDoorLibEq
import Derived.KernelRfl
set_option linter.all false
set_option maxRecDepth 10000
namespace Go.Proofs.YtfekohpjaafnhaaDoor
namespace Ab
variable [Glob]
def sc (s:ByteArray):Cell:=.val (.string s)
theorem hmix:Tryd.prog.follows .mixedOrders=true:=by kernel_rfl
theorem okF (more:List (List Cell)){a:Prop}(h:a):a∧(false=true→more.isEmpty=false):=⟨h,fun e=>by cases e⟩
noncomputable def qmJ:Code:=(Tryd.f3.body).getD .skip
noncomputable def cx3:Cx:=⟨Tryd.prog,noHand,[4],[],[],[]⟩
theorem c3 (nb:Nat){a:List AV}{b b2:List (List Cell)}{r:ARes}(ad:Advs){ps:List Prop}(e:mgo cx3 Tryd.f3 nb 1000000 [.code qmJ] (fr0 Tryd.f3 a b) ad=some (.fin r b2,ps))(hp:AllP ps):Ev Tryd.prog noHand 3 a b r b2:=qV (fn:=Tryd.f3) (body:=qmJ) (by kernel_rfl) (by kernel_rfl) (by kernel_rfl) rfl (zO hmix e hp)
noncomputable def qmq:Code:=(Tryd.f4.body).getD .skip
noncomputable def cx4:Cx:=⟨Tryd.prog,noHand,[2,4,5,6,7,9,10,11,12],[],[],[]⟩
theorem c4 (nb:Nat){a:List AV}{b b2:List (List Cell)}{r:ARes}(ad:Advs){ps:List Prop}(e:mgo cx4 Tryd.f4 nb 1000000 [.code qmq] (fr0 Tryd.f4 a b) ad=some (.fin r b2,ps))(hp:AllP ps):Ev Tryd.prog noHand 4 a b r b2:=qV (fn:=Tryd.f4) (body:=qmq) (by kernel_rfl) (by kernel_rfl) (by kernel_rfl) rfl (zO hmix e hp)
noncomputable def qiS:Code:=(Tryd.f5.body).getD .skip
noncomputable def cx5:Cx:=⟨Tryd.prog,noHand,[2,4,5,7,8,10,11,13,14],[],[],[]⟩
theorem c5 (nb:Nat){a:List AV}{b b2:List (List Cell)}{r:ARes}(ad:Advs){ps:List Prop}(e:mgo cx5 Tryd.f5 nb 1000000 [.code qiS] (fr0 Tryd.f5 a b) ad=some (.fin r b2,ps))(hp:AllP ps):Ev Tryd.prog noHand 5 a b r b2:=qV (fn:=Tryd.f5) (body:=qiS) (by kernel_rfl) (by kernel_rfl) (by kernel_rfl) rfl (zO hmix e hp)
noncomputable def ql1:Code:=(Tryd.f6.body).getD .skip
noncomputable def cx6:Cx:=⟨Tryd.prog,noHand,[6,8,9,11,12,13,14,15,17,18],[],[],[]⟩
theorem c6 (nb:Nat){a:List AV}{b b2:List (List Cell)}{r:ARes}(ad:Advs){ps:List Prop}(e:mgo cx6 Tryd.f6 nb 1000000 [.code ql1] (fr0 Tryd.f6 a b) ad=some (.fin r b2,ps))(hp:AllP ps):Ev Tryd.prog noHand 6 a b r b2:=qV (fn:=Tryd.f6) (body:=ql1) (by kernel_rfl) (by kernel_rfl) (by kernel_rfl) rfl (zO hmix e hp)
noncomputable def qnU:Code:=(Tryd.f7.body).getD .skip
noncomputable def cx7:Cx:=⟨Tryd.prog,noHand,[0,2,3,4,5],[],[],[]⟩
noncomputable def qk4:Code:=(Tryd.f8.body).getD .skip
noncomputable def cx8:Cx:=⟨Tryd.prog,noHand,[4,5],[],[],[]⟩
noncomputable def qmn:Code:=(Tryd.f9.body).getD .skip
noncomputable def cx9:Cx:=⟨Tryd.prog,noHand,[6,7],[],[],[]⟩
theorem c9 (nb:Nat){a:List AV}{b b2:List (List Cell)}{r:ARes}(ad:Advs){ps:List Prop}(e:mgo cx9 Tryd.f9 nb 1000000 [.code qmn] (fr0 Tryd.f9 a b) ad=some (.fin r b2,ps))(hp:AllP ps):Ev Tryd.prog noHand 9 a b r b2:=qV (fn:=Tryd.f9) (body:=qmn) (by kernel_rfl) (by kernel_rfl) (by kernel_rfl) rfl (zO hmix e hp)
noncomputable def qjO:Code:=(Tryd.f10.body).getD .skip
noncomputable def cx10:Cx:=⟨Tryd.prog,noHand,[2,3],[],[],[]⟩
noncomputable def qac:Code:=(Tryd.f13.body).getD .skip
noncomputable def cx13:Cx:=⟨Tryd.prog,noHand,[3,4,5,6,7,9,28,34,47],[],[],[]⟩
noncomputable def qmg:Code:=(Tryd.f14.body).getD .skip
noncomputable def cx14:Cx:=⟨Tryd.prog,noHand,[2,3,4,5,17,21],[],[],[]⟩
noncomputable def qbW:Code:=(Tryd.f15.body).getD .skip
noncomputable def cx15:Cx:=⟨Tryd.prog,noHand,[5],[],[],[]⟩
noncomputable def QZ:Code:=(Tryd.f16.body).getD .skip
noncomputable def cx16:Cx:=⟨Tryd.prog,noHand,[8],[],[],[]⟩
noncomputable def qiu:Code:=(Tryd.f17.body).getD .skip
noncomputable def cx17:Cx:=⟨Tryd.prog,noHand,[2],[],[],[]⟩
noncomputable def qne:Code:=(Tryd.f18.body).getD .skip
noncomputable def cx18:Cx:=⟨Tryd.prog,noHand,[2,3,4,5,6,7,8,9,10,11,12,23,52],[],[],[]⟩
noncomputable def qkw:Code:=(Tryd.f19.body).getD .skip
noncomputable def cx19:Cx:=⟨Tryd.prog,noHand,[3,5],[],[],[]⟩
noncomputable def qdw:Code:=(Tryd.f20.body).getD .skip
noncomputable def cx20:Cx:=⟨Tryd.prog,noHand,[3,57,62,67],[],[],[]⟩
theorem c20 (nb:Nat){a:List AV}{b b2:List (List Cell)}{r:ARes}(ad:Advs){ps:List Prop}(e:mgo cx20 Tryd.f20 nb 1000000 [.code qdw] (fr0 Tryd.f20 a b) ad=some (.fin r b2,ps))(hp:AllP ps):Ev Tryd.prog noHand 20 a b r b2:=qV (fn:=Tryd.f20) (body:=qdw) (by kernel_rfl) (by kernel_rfl) (by kernel_rfl) rfl (zO hmix e hp)
noncomputable def qfp:Code:=(Tryd.f21.body).getD .skip
noncomputable def cx21:Cx:=⟨Tryd.prog,noHand,[4,6],[],[],[]⟩
theorem c21 (nb:Nat){a:List AV}{b b2:List (List Cell)}{r:ARes}(ad:Advs){ps:List Prop}(e:mgo cx21 Tryd.f21 nb 1000000 [.code qfp] (fr0 Tryd.f21 a b) ad=some (.fin r b2,ps))(hp:AllP ps):Ev Tryd.prog noHand 21 a b r b2:=qV (fn:=Tryd.f21) (body:=qfp) (by kernel_rfl) (by kernel_rfl) (by kernel_rfl) rfl (zO hmix e hp)
noncomputable def qh1:Code:=(Tryd.f22.body).getD .skip
noncomputable def cx22:Cx:=⟨Tryd.prog,noHand,[],[],[],[]⟩
noncomputable def qe7:Code:=(Tryd.f23.body).getD .skip
noncomputable def cx23:Cx:=⟨Tryd.prog,noHand,[2,3,18,25],[],[],[]⟩
noncomputable def qj4:Code:=(Tryd.f24.body).getD .skip
noncomputable def cx24:Cx:=⟨Tryd.prog,noHand,[2,3,4,61,71,86],[],[],[]⟩
noncomputable def qfD:Code:=(Tryd.f25.body).getD .skip
noncomputable def cx25:Cx:=⟨Tryd.prog,noHand,[2,3,4,5,8,11,14,21,28,35],[],[],[]⟩
noncomputable def qlT:Code:=(Tryd.f26.body).getD .skip
noncomputable def cx26:Cx:=⟨Tryd.prog,noHand,[4,5,6,7,8,9,10],[],[],[]⟩
noncomputable def qmh:Code:=(Tryd.f27.body).getD .skip
noncomputable def cx27:Cx:=⟨Tryd.prog,noHand,[2],[],[],[]⟩
noncomputable def qlL:Code:=(Tryd.f28.body).getD .skip
noncomputable def cx28:Cx:=⟨Tryd.prog,noHand,[2,5,11,19,25,31,39],[],[],[]⟩
noncomputable def qme:Code:=(Tryd.f29.body).getD .skip
noncomputable def cx29:Cx:=⟨Tryd.prog,noHand,[2],[],[],[]⟩
noncomputable def qm5:Code:=(Tryd.f30.body).getD .skip
noncomputable def cx30:Cx:=⟨Tryd.prog,noHand,[2],[],[],[]⟩
noncomputable def qmA:Code:=(Tryd.f31.body).getD .skip
noncomputable def cx31:Cx:=⟨Tryd.prog,noHand,[3,4,24,30],[],[],[]⟩
noncomputable def qlB:Code:=(Tryd.f32.body).getD .skip
noncomputable def cx32:Cx:=⟨Tryd.prog,noHand,[2],[],[],[]⟩
noncomputable def qb7:Code:=(Tryd.f33.body).getD .skip
noncomputable def cx33:Cx:=⟨Tryd.prog,noHand,[3,4,5,6,7,8,9],[],[],[]⟩
noncomputable def qkb:Code:=(Tryd.f34.body).getD .skip
noncomputable def cx34:Cx:=⟨Tryd.prog,noHand,[3,4,5],[],[],[]⟩
noncomputable def qdc:Code:=(Tryd.f35.body).getD .skip
noncomputable def cx35:Cx:=⟨Tryd.prog,noHand,[3,4,5,17,21],[],[],[]⟩
noncomputable def qg4:Code:=(Tryd.f36.body).getD .skip
noncomputable def cx36:Cx:=⟨Tryd.prog,noHand,[],[],[],[]⟩
noncomputable def qhD:Code:=(Tryd.f37.body).getD .skip
noncomputable def cx37:Cx:=⟨Tryd.prog,noHand,[4],[],[],[]⟩
theorem c37 (nb:Nat){a:List AV}{b b2:List (List Cell)}{r:ARes}(ad:Advs){ps:List Prop}(e:mgo cx37 Tryd.f37 nb 1000000 [.code qhD] (fr0 Tryd.f37 a b) ad=some (.fin r b2,ps))(hp:AllP ps):Ev Tryd.prog noHand 37 a b r b2:=qV (fn:=Tryd.f37) (body:=qhD) (by kernel_rfl) (by kernel_rfl) (by kernel_rfl) rfl (zO hmix e hp)
noncomputable def qdY:Code:=(Tryd.f38.body).getD .skip
noncomputable def cx38:Cx:=⟨Tryd.prog,noHand,[9],[],[],[]⟩
noncomputable def qib:Code:=(Tryd.f40.body).getD .skip
noncomputable def cx40:Cx:=⟨Tryd.prog,noHand,[2,3,6,11,49],[],[],[]⟩
noncomputable def qg6:Code:=(Tryd.f41.body).getD .skip
noncomputable def cx41:Cx:=⟨Tryd.prog,noHand,[4,5],[],[],[]⟩
noncomputable def qj1:Code:=(Tryd.f42.body).getD .skip
noncomputable def cx42:Cx:=⟨Tryd.prog,noHand,[2,4],[],[],[]⟩
noncomputable def qgV:Code:=(Tryd.f43.body).getD .skip
noncomputable def cx43:Cx:=⟨Tryd.prog,noHand,[4,5],[],[],[]⟩
noncomputable def qm7:Code:=(Tryd.f45.body).getD .skip
noncomputable def cx45:Cx:=⟨Tryd.prog,noHand,[3],[],[],[]⟩
noncomputable def qg7:Code:=(Tryd.f46.body).getD .skip
noncomputable def cx46:Cx:=⟨Tryd.prog,noHand,[],[],[],[]⟩
theorem c46 (nb:Nat){a:List AV}{b b2:List (List Cell)}{r:ARes}(ad:Advs){ps:List Prop}(e:mgo cx46 Tryd.f46 nb 1000000 [.code qg7] (fr0 Tryd.f46 a b) ad=some (.fin r b2,ps))(hp:AllP ps):Ev Tryd.prog noHand 46 a b r b2:=qV (fn:=Tryd.f46) (body:=qg7) (by kernel_rfl) (by kernel_rfl) (by kernel_rfl) rfl (zO hmix e hp)
noncomputable def qhR:Code:=(Tryd.f51.body).getD .skip
noncomputable def cx51:Cx:=⟨Tryd.prog,noHand,[4],[],[],[]⟩
theorem c51 (nb:Nat){a:List AV}{b b2:List (List Cell)}{r:ARes}(ad:Advs){ps:List Prop}(e:mgo cx51 Tryd.f51 nb 1000000 [.code qhR] (fr0 Tryd.f51 a b) ad=some (.fin r b2,ps))(hp:AllP ps):Ev Tryd.prog noHand 51 a b r b2:=qV (fn:=Tryd.f51) (body:=qhR) (by kernel_rfl) (by kernel_rfl) (by kernel_rfl) rfl (zO hmix e hp)
noncomputable def qmV:Code:=(Tryd.f52.body).getD .skip
noncomputable def cx52:Cx:=⟨Tryd.prog,noHand,[2],[],[],[]⟩
noncomputable def qkg:Code:=(Tryd.f53.body).getD .skip
noncomputable def cx53:Cx:=⟨Tryd.prog,noHand,[4,6,7,8,9],[],[],[]⟩
theorem c53 (nb:Nat){a:List AV}{b b2:List (List Cell)}{r:ARes}(ad:Advs){ps:List Prop}(e:mgo cx53 Tryd.f53 nb 1000000 [.code qkg] (fr0 Tryd.f53 a b) ad=some (.fin r b2,ps))(hp:AllP ps):Ev Tryd.prog noHand 53 a b r b2:=qV (fn:=Tryd.f53) (body:=qkg) (by kernel_rfl) (by kernel_rfl) (by kernel_rfl) rfl (zO hmix e hp)
noncomputable def qgO:Code:=(Tryd.f59.body).getD .skip
noncomputable def cx59:Cx:=⟨Tryd.prog,noHand,[4],[],[],[]⟩
noncomputable def qhX:Code:=(Tryd.f60.body).getD .skip
noncomputable def cx60:Cx:=⟨Tryd.prog,noHand,[6,8,9],[],[],[]⟩
noncomputable def qhg:Code:=(Tryd.f70.body).getD .skip
noncomputable def cx70:Cx:=⟨Tryd.prog,noHand,[4],[],[],[]⟩
noncomputable def qke:Code:=(Tryd.f75.body).getD .skip
noncomputable def cx75:Cx:=⟨Tryd.prog,noHand,[2],[],[],[]⟩
theorem c75 (nb:Nat){a:List AV}{b b2:List (List Cell)}{r:ARes}(ad:Advs){ps:List Prop}(e:mgo cx75 Tryd.f75 nb 1000000 [.code qke] (fr0 Tryd.f75 a b) ad=some (.fin r b2,ps))(hp:AllP ps):Ev Tryd.prog noHand 75 a b r b2:=qV (fn:=Tryd.f75) (body:=qke) (by kernel_rfl) (by kernel_rfl) (by kernel_rfl) rfl (zO hmix e hp)
noncomputable def qfT:Code:=(Tryd.f78.body).getD .skip
noncomputable def cx78:Cx:=⟨Tryd.prog,noHand,[3],[],[],[]⟩
noncomputable def qkc:Code:=(Tryd.f80.body).getD .skip
noncomputable def cx80:Cx:=⟨Tryd.prog,noHand,[2,7],[],[],[]⟩
theorem c80 (nb:Nat){a:List AV}{b b2:List (List Cell)}{r:ARes}(ad:Advs){ps:List Prop}(e:mgo cx80 Tryd.f80 nb 1000000 [.code qkc] (fr0 Tryd.f80 a b) ad=some (.fin r b2,ps))(hp:AllP ps):Ev Tryd.prog noHand 80 a b r b2:=qV (fn:=Tryd.f80) (body:=qkc) (by kernel_rfl) (by kernel_rfl) (by kernel_rfl) rfl (zO hmix e hp)
noncomputable def qai:Code:=(Tryd.f83.body).getD .skip
noncomputable def cx83:Cx:=⟨Tryd.prog,noHand,[4,5,11,25,41,55,67,86],[],[],[]⟩
noncomputable def qhl:Code:=(Tryd.f85.body).getD .skip
noncomputable def cx85:Cx:=⟨Tryd.prog,noHand,[2,3,4],[],[],[]⟩
theorem c85 (nb:Nat){a:List AV}{b b2:List (List Cell)}{r:ARes}(ad:Advs){ps:List Prop}(e:mgo cx85 Tryd.f85 nb 1000000 [.code qhl] (fr0 Tryd.f85 a b) ad=some (.fin r b2,ps))(hp:AllP ps):Ev Tryd.prog noHand 85 a b r b2:=qV (fn:=Tryd.f85) (body:=qhl) (by kernel_rfl) (by kernel_rfl) (by kernel_rfl) rfl (zO hmix e hp)
noncomputable def qmI:Code:=(Tryd.f86.body).getD .skip
noncomputable def cx86:Cx:=⟨Tryd.prog,noHand,[],[],[],[]⟩
noncomputable def qa5:Code:=(Tryd.f87.body).getD .skip
noncomputable def cx87:Cx:=⟨Tryd.prog,noHand,[5,7,10,27],[],[],[]⟩
noncomputable def qmd:Code:=(Tryd.f90.body).getD .skip
noncomputable def cx90:Cx:=⟨Tryd.prog,noHand,[2],[],[],[]⟩
noncomputable def qh4:Code:=(Tryd.f91.body).getD .skip
noncomputable def cx91:Cx:=⟨Tryd.prog,noHand,[5,6],[],[],[]⟩
end Ab
end Go.Proofs.YtfekohpjaafnhaaDoor

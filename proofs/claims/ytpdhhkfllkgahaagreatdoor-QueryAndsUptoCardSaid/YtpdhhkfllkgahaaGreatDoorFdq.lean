/-
  Definitions alone: the bodies of the functions, and what stands about each.
-/
import Derived.Test.YtpdhhkfllkgahaaGreatDoorLibEq
import Derived.KernelRfl
set_option linter.all false
set_option maxRecDepth 10000
namespace Go.Proofs.YtpdhhkfllkgahaaGreatDoor
namespace Ab
variable [Glob]
def sc (s:ByteArray):Cell:=.val (.string s)
theorem hmix:Tryz.prog.follows .mixedOrders=true:=by kernel_rfl
theorem okF (more:List (List Cell)){a:Prop}(h:a):a∧(false=true→more.isEmpty=false):=⟨h,fun e=>by cases e⟩
noncomputable def qmJ:Code:=(Tryz.f3.body).getD .skip
noncomputable def cx3:Cx:=⟨Tryz.prog,noHand,[4,5,6,7,8,9,11,12,14,15,16,17],[],[],[]⟩
theorem c3 (nb:Nat){a:List AV}{b b2:List (List Cell)}{r:ARes}(ad:Advs){ps:List Prop}(e:mgo cx3 Tryz.f3 nb 1000000 [.code qmJ] (fr0 Tryz.f3 a b) ad=some (.fin r b2,ps))(hp:AllP ps):Ev Tryz.prog noHand 3 a b r b2:=qV (fn:=Tryz.f3) (body:=qmJ) (by kernel_rfl) (by kernel_rfl) (by kernel_rfl) rfl (zO hmix e hp)
noncomputable def qmq:Code:=(Tryz.f4.body).getD .skip
noncomputable def cx4:Cx:=⟨Tryz.prog,noHand,[4],[],[],[]⟩
theorem c4 (nb:Nat){a:List AV}{b b2:List (List Cell)}{r:ARes}(ad:Advs){ps:List Prop}(e:mgo cx4 Tryz.f4 nb 1000000 [.code qmq] (fr0 Tryz.f4 a b) ad=some (.fin r b2,ps))(hp:AllP ps):Ev Tryz.prog noHand 4 a b r b2:=qV (fn:=Tryz.f4) (body:=qmq) (by kernel_rfl) (by kernel_rfl) (by kernel_rfl) rfl (zO hmix e hp)
noncomputable def qiS:Code:=(Tryz.f5.body).getD .skip
noncomputable def cx5:Cx:=⟨Tryz.prog,noHand,[2,4,5,6,7,9,10,11,12],[],[],[]⟩
theorem c5 (nb:Nat){a:List AV}{b b2:List (List Cell)}{r:ARes}(ad:Advs){ps:List Prop}(e:mgo cx5 Tryz.f5 nb 1000000 [.code qiS] (fr0 Tryz.f5 a b) ad=some (.fin r b2,ps))(hp:AllP ps):Ev Tryz.prog noHand 5 a b r b2:=qV (fn:=Tryz.f5) (body:=qiS) (by kernel_rfl) (by kernel_rfl) (by kernel_rfl) rfl (zO hmix e hp)
noncomputable def ql1:Code:=(Tryz.f6.body).getD .skip
noncomputable def cx6:Cx:=⟨Tryz.prog,noHand,[2,3,4,5,17,21],[],[],[]⟩
theorem c6 (nb:Nat){a:List AV}{b b2:List (List Cell)}{r:ARes}(ad:Advs){ps:List Prop}(e:mgo cx6 Tryz.f6 nb 1000000 [.code ql1] (fr0 Tryz.f6 a b) ad=some (.fin r b2,ps))(hp:AllP ps):Ev Tryz.prog noHand 6 a b r b2:=qV (fn:=Tryz.f6) (body:=ql1) (by kernel_rfl) (by kernel_rfl) (by kernel_rfl) rfl (zO hmix e hp)
noncomputable def qnU:Code:=(Tryz.f7.body).getD .skip
noncomputable def cx7:Cx:=⟨Tryz.prog,noHand,[0,2,3,4,5],[],[],[]⟩
noncomputable def qk4:Code:=(Tryz.f8.body).getD .skip
noncomputable def cx8:Cx:=⟨Tryz.prog,noHand,[5,6],[],[],[]⟩
theorem c8 (nb:Nat){a:List AV}{b b2:List (List Cell)}{r:ARes}(ad:Advs){ps:List Prop}(e:mgo cx8 Tryz.f8 nb 1000000 [.code qk4] (fr0 Tryz.f8 a b) ad=some (.fin r b2,ps))(hp:AllP ps):Ev Tryz.prog noHand 8 a b r b2:=qV (fn:=Tryz.f8) (body:=qk4) (by kernel_rfl) (by kernel_rfl) (by kernel_rfl) rfl (zO hmix e hp)
noncomputable def qmn:Code:=(Tryz.f9.body).getD .skip
noncomputable def cx9:Cx:=⟨Tryz.prog,noHand,[6,7],[],[],[]⟩
theorem c9 (nb:Nat){a:List AV}{b b2:List (List Cell)}{r:ARes}(ad:Advs){ps:List Prop}(e:mgo cx9 Tryz.f9 nb 1000000 [.code qmn] (fr0 Tryz.f9 a b) ad=some (.fin r b2,ps))(hp:AllP ps):Ev Tryz.prog noHand 9 a b r b2:=qV (fn:=Tryz.f9) (body:=qmn) (by kernel_rfl) (by kernel_rfl) (by kernel_rfl) rfl (zO hmix e hp)
noncomputable def qpI:Code:=(Tryz.f12.body).getD .skip
noncomputable def cx12:Cx:=⟨Tryz.prog,noHand,[2,3],[],[],[]⟩
noncomputable def QZ:Code:=(Tryz.f16.body).getD .skip
noncomputable def cx16:Cx:=⟨Tryz.prog,noHand,[2],[],[],[]⟩
noncomputable def qiu:Code:=(Tryz.f17.body).getD .skip
noncomputable def cx17:Cx:=⟨Tryz.prog,noHand,[2,3],[],[],[]⟩
noncomputable def qne:Code:=(Tryz.f18.body).getD .skip
noncomputable def cx18:Cx:=⟨Tryz.prog,noHand,[2,3,4,5,6,7,8,9,10,11,12,23,52],[],[],[]⟩
noncomputable def qkw:Code:=(Tryz.f19.body).getD .skip
noncomputable def cx19:Cx:=⟨Tryz.prog,noHand,[5],[],[],[]⟩
noncomputable def qdw:Code:=(Tryz.f20.body).getD .skip
noncomputable def cx20:Cx:=⟨Tryz.prog,noHand,[3,5],[],[],[]⟩
theorem c20 (nb:Nat){a:List AV}{b b2:List (List Cell)}{r:ARes}(ad:Advs){ps:List Prop}(e:mgo cx20 Tryz.f20 nb 1000000 [.code qdw] (fr0 Tryz.f20 a b) ad=some (.fin r b2,ps))(hp:AllP ps):Ev Tryz.prog noHand 20 a b r b2:=qV (fn:=Tryz.f20) (body:=qdw) (by kernel_rfl) (by kernel_rfl) (by kernel_rfl) rfl (zO hmix e hp)
noncomputable def qfp:Code:=(Tryz.f21.body).getD .skip
noncomputable def cx21:Cx:=⟨Tryz.prog,noHand,[3,4,5],[],[],[]⟩
theorem c21 (nb:Nat){a:List AV}{b b2:List (List Cell)}{r:ARes}(ad:Advs){ps:List Prop}(e:mgo cx21 Tryz.f21 nb 1000000 [.code qfp] (fr0 Tryz.f21 a b) ad=some (.fin r b2,ps))(hp:AllP ps):Ev Tryz.prog noHand 21 a b r b2:=qV (fn:=Tryz.f21) (body:=qfp) (by kernel_rfl) (by kernel_rfl) (by kernel_rfl) rfl (zO hmix e hp)
noncomputable def qfD:Code:=(Tryz.f25.body).getD .skip
noncomputable def cx25:Cx:=⟨Tryz.prog,noHand,[2,4,9,10],[],[],[]⟩
noncomputable def qlT:Code:=(Tryz.f26.body).getD .skip
noncomputable def cx26:Cx:=⟨Tryz.prog,noHand,[2,4],[],[],[]⟩
noncomputable def qlL:Code:=(Tryz.f28.body).getD .skip
noncomputable def cx28:Cx:=⟨Tryz.prog,noHand,[2,3],[],[],[]⟩
noncomputable def qme:Code:=(Tryz.f29.body).getD .skip
noncomputable def cx29:Cx:=⟨Tryz.prog,noHand,[2,3,7,8],[],[],[]⟩
noncomputable def qb7:Code:=(Tryz.f33.body).getD .skip
noncomputable def cx33:Cx:=⟨Tryz.prog,noHand,[2,3,18,25],[],[],[]⟩
noncomputable def qkb:Code:=(Tryz.f34.body).getD .skip
noncomputable def cx34:Cx:=⟨Tryz.prog,noHand,[2,3,4,61,71,86],[],[],[]⟩
noncomputable def qdc:Code:=(Tryz.f35.body).getD .skip
noncomputable def cx35:Cx:=⟨Tryz.prog,noHand,[2,3,4,5,8,11,14,21,28,35],[],[],[]⟩
noncomputable def qg4:Code:=(Tryz.f36.body).getD .skip
noncomputable def cx36:Cx:=⟨Tryz.prog,noHand,[4,5,6,7,8,9,10],[],[],[]⟩
noncomputable def qhD:Code:=(Tryz.f37.body).getD .skip
noncomputable def cx37:Cx:=⟨Tryz.prog,noHand,[2],[],[],[]⟩
theorem c37 (nb:Nat){a:List AV}{b b2:List (List Cell)}{r:ARes}(ad:Advs){ps:List Prop}(e:mgo cx37 Tryz.f37 nb 1000000 [.code qhD] (fr0 Tryz.f37 a b) ad=some (.fin r b2,ps))(hp:AllP ps):Ev Tryz.prog noHand 37 a b r b2:=qV (fn:=Tryz.f37) (body:=qhD) (by kernel_rfl) (by kernel_rfl) (by kernel_rfl) rfl (zO hmix e hp)
noncomputable def qdY:Code:=(Tryz.f38.body).getD .skip
noncomputable def cx38:Cx:=⟨Tryz.prog,noHand,[2,5,11,19,25,31,39],[],[],[]⟩
noncomputable def qr3:Code:=(Tryz.f39.body).getD .skip
noncomputable def cx39:Cx:=⟨Tryz.prog,noHand,[3,5],[],[],[]⟩
noncomputable def qib:Code:=(Tryz.f40.body).getD .skip
noncomputable def cx40:Cx:=⟨Tryz.prog,noHand,[3,57,62,67],[],[],[]⟩
noncomputable def qg6:Code:=(Tryz.f41.body).getD .skip
noncomputable def cx41:Cx:=⟨Tryz.prog,noHand,[],[],[],[]⟩
noncomputable def qj1:Code:=(Tryz.f42.body).getD .skip
noncomputable def cx42:Cx:=⟨Tryz.prog,noHand,[2],[],[],[]⟩
noncomputable def qgV:Code:=(Tryz.f43.body).getD .skip
noncomputable def cx43:Cx:=⟨Tryz.prog,noHand,[4],[],[],[]⟩
noncomputable def qsQ:Code:=(Tryz.f44.body).getD .skip
noncomputable def cx44:Cx:=⟨Tryz.prog,noHand,[8],[],[],[]⟩
noncomputable def qm7:Code:=(Tryz.f45.body).getD .skip
noncomputable def cx45:Cx:=⟨Tryz.prog,noHand,[4],[],[],[]⟩
noncomputable def qg7:Code:=(Tryz.f46.body).getD .skip
noncomputable def cx46:Cx:=⟨Tryz.prog,noHand,[11,20,29,55,63],[],[],[]⟩
theorem c46 (nb:Nat){a:List AV}{b b2:List (List Cell)}{r:ARes}(ad:Advs){ps:List Prop}(e:mgo cx46 Tryz.f46 nb 1000000 [.code qg7] (fr0 Tryz.f46 a b) ad=some (.fin r b2,ps))(hp:AllP ps):Ev Tryz.prog noHand 46 a b r b2:=qV (fn:=Tryz.f46) (body:=qg7) (by kernel_rfl) (by kernel_rfl) (by kernel_rfl) rfl (zO hmix e hp)
noncomputable def qpJ:Code:=(Tryz.f47.body).getD .skip
noncomputable def cx47:Cx:=⟨Tryz.prog,noHand,[],[],[],[]⟩
noncomputable def qpT:Code:=(Tryz.f48.body).getD .skip
noncomputable def cx48:Cx:=⟨Tryz.prog,noHand,[],[],[],[]⟩
noncomputable def qhR:Code:=(Tryz.f51.body).getD .skip
noncomputable def cx51:Cx:=⟨Tryz.prog,noHand,[4,5,7,10,13,15],[],[],[]⟩
theorem c51 (nb:Nat){a:List AV}{b b2:List (List Cell)}{r:ARes}(ad:Advs){ps:List Prop}(e:mgo cx51 Tryz.f51 nb 1000000 [.code qhR] (fr0 Tryz.f51 a b) ad=some (.fin r b2,ps))(hp:AllP ps):Ev Tryz.prog noHand 51 a b r b2:=qV (fn:=Tryz.f51) (body:=qhR) (by kernel_rfl) (by kernel_rfl) (by kernel_rfl) rfl (zO hmix e hp)
noncomputable def qkg:Code:=(Tryz.f53.body).getD .skip
noncomputable def cx53:Cx:=⟨Tryz.prog,noHand,[2,3,6,11,49],[],[],[]⟩
theorem c53 (nb:Nat){a:List AV}{b b2:List (List Cell)}{r:ARes}(ad:Advs){ps:List Prop}(e:mgo cx53 Tryz.f53 nb 1000000 [.code qkg] (fr0 Tryz.f53 a b) ad=some (.fin r b2,ps))(hp:AllP ps):Ev Tryz.prog noHand 53 a b r b2:=qV (fn:=Tryz.f53) (body:=qkg) (by kernel_rfl) (by kernel_rfl) (by kernel_rfl) rfl (zO hmix e hp)
noncomputable def qsT:Code:=(Tryz.f54.body).getD .skip
noncomputable def cx54:Cx:=⟨Tryz.prog,noHand,[2],[],[],[]⟩
noncomputable def qsU:Code:=(Tryz.f55.body).getD .skip
noncomputable def cx55:Cx:=⟨Tryz.prog,noHand,[2],[],[],[]⟩
noncomputable def qsV:Code:=(Tryz.f56.body).getD .skip
noncomputable def cx56:Cx:=⟨Tryz.prog,noHand,[3,4,24,30],[],[],[]⟩
noncomputable def qx9:Code:=(Tryz.f57.body).getD .skip
noncomputable def cx57:Cx:=⟨Tryz.prog,noHand,[2],[],[],[]⟩
noncomputable def qvK:Code:=(Tryz.f58.body).getD .skip
noncomputable def cx58:Cx:=⟨Tryz.prog,noHand,[3,4,5,6,7,8,9],[],[],[]⟩
noncomputable def qgO:Code:=(Tryz.f59.body).getD .skip
noncomputable def cx59:Cx:=⟨Tryz.prog,noHand,[3,4,5],[],[],[]⟩
noncomputable def qhX:Code:=(Tryz.f60.body).getD .skip
noncomputable def cx60:Cx:=⟨Tryz.prog,noHand,[3,4,5,17,21],[],[],[]⟩
noncomputable def qr4:Code:=(Tryz.f61.body).getD .skip
noncomputable def cx61:Cx:=⟨Tryz.prog,noHand,[],[],[],[]⟩
noncomputable def qxm:Code:=(Tryz.f62.body).getD .skip
noncomputable def cx62:Cx:=⟨Tryz.prog,noHand,[4,6],[],[],[]⟩
noncomputable def qre:Code:=(Tryz.f63.body).getD .skip
noncomputable def cx63:Cx:=⟨Tryz.prog,noHand,[],[],[],[]⟩
noncomputable def qya:Code:=(Tryz.f64.body).getD .skip
noncomputable def cx64:Cx:=⟨Tryz.prog,noHand,[2],[],[],[]⟩
noncomputable def qsW:Code:=(Tryz.f65.body).getD .skip
noncomputable def cx65:Cx:=⟨Tryz.prog,noHand,[2,4],[],[],[]⟩
noncomputable def qrf:Code:=(Tryz.f73.body).getD .skip
noncomputable def cx73:Cx:=⟨Tryz.prog,noHand,[4,5],[],[],[]⟩
noncomputable def qrg:Code:=(Tryz.f74.body).getD .skip
noncomputable def cx74:Cx:=⟨Tryz.prog,noHand,[4,5],[],[],[]⟩
noncomputable def qke:Code:=(Tryz.f75.body).getD .skip
noncomputable def cx75:Cx:=⟨Tryz.prog,noHand,[6,7,8],[],[],[]⟩
theorem c75 (nb:Nat){a:List AV}{b b2:List (List Cell)}{r:ARes}(ad:Advs){ps:List Prop}(e:mgo cx75 Tryz.f75 nb 1000000 [.code qke] (fr0 Tryz.f75 a b) ad=some (.fin r b2,ps))(hp:AllP ps):Ev Tryz.prog noHand 75 a b r b2:=qV (fn:=Tryz.f75) (body:=qke) (by kernel_rfl) (by kernel_rfl) (by kernel_rfl) rfl (zO hmix e hp)
noncomputable def qwB:Code:=(Tryz.f76.body).getD .skip
noncomputable def cx76:Cx:=⟨Tryz.prog,noHand,[],[],[],[]⟩
noncomputable def qyb:Code:=(Tryz.f77.body).getD .skip
noncomputable def cx77:Cx:=⟨Tryz.prog,noHand,[4],[],[],[]⟩
noncomputable def qfT:Code:=(Tryz.f78.body).getD .skip
noncomputable def cx78:Cx:=⟨Tryz.prog,noHand,[9],[],[],[]⟩
noncomputable def qkc:Code:=(Tryz.f80.body).getD .skip
noncomputable def cx80:Cx:=⟨Tryz.prog,noHand,[2],[],[],[]⟩
theorem c80 (nb:Nat){a:List AV}{b b2:List (List Cell)}{r:ARes}(ad:Advs){ps:List Prop}(e:mgo cx80 Tryz.f80 nb 1000000 [.code qkc] (fr0 Tryz.f80 a b) ad=some (.fin r b2,ps))(hp:AllP ps):Ev Tryz.prog noHand 80 a b r b2:=qV (fn:=Tryz.f80) (body:=qkc) (by kernel_rfl) (by kernel_rfl) (by kernel_rfl) rfl (zO hmix e hp)
noncomputable def qhl:Code:=(Tryz.f85.body).getD .skip
noncomputable def cx85:Cx:=⟨Tryz.prog,noHand,[0,2,6,7,8,9,10,11,17,21],[],[],[]⟩
theorem c85 (nb:Nat){a:List AV}{b b2:List (List Cell)}{r:ARes}(ad:Advs){ps:List Prop}(e:mgo cx85 Tryz.f85 nb 1000000 [.code qhl] (fr0 Tryz.f85 a b) ad=some (.fin r b2,ps))(hp:AllP ps):Ev Tryz.prog noHand 85 a b r b2:=qV (fn:=Tryz.f85) (body:=qhl) (by kernel_rfl) (by kernel_rfl) (by kernel_rfl) rfl (zO hmix e hp)
noncomputable def qa5:Code:=(Tryz.f87.body).getD .skip
noncomputable def cx87:Cx:=⟨Tryz.prog,noHand,[3],[],[],[]⟩
noncomputable def qyc:Code:=(Tryz.f88.body).getD .skip
noncomputable def cx88:Cx:=⟨Tryz.prog,noHand,[],[],[],[]⟩
noncomputable def qri:Code:=(Tryz.f97.body).getD .skip
noncomputable def cx97:Cx:=⟨Tryz.prog,noHand,[4],[],[],[]⟩
noncomputable def qyd:Code:=(Tryz.f98.body).getD .skip
noncomputable def cx98:Cx:=⟨Tryz.prog,noHand,[2],[],[],[]⟩
noncomputable def qp4:Code:=(Tryz.f104.body).getD .skip
noncomputable def qrI:Cx:=⟨Tryz.prog,noHand,[4],[],[],[]⟩
noncomputable def qv2:Code:=(Tryz.f105.body).getD .skip
noncomputable def qxX:Cx:=⟨Tryz.prog,noHand,[6,8,9],[],[],[]⟩
noncomputable def qv3:Code:=(Tryz.f107.body).getD .skip
noncomputable def qxY:Cx:=⟨Tryz.prog,noHand,[4],[],[],[]⟩
noncomputable def qvP:Code:=(Tryz.f109.body).getD .skip
noncomputable def qw6:Cx:=⟨Tryz.prog,noHand,[3],[],[],[]⟩
noncomputable def qpm:Code:=(Tryz.f112.body).getD .skip
noncomputable def qqg:Cx:=⟨Tryz.prog,noHand,[4,5,11,25,41,55,67,86],[],[],[]⟩
noncomputable def qxT:Code:=(Tryz.f114.body).getD .skip
noncomputable def qzb:Cx:=⟨Tryz.prog,noHand,[2,3,4],[],[],[]⟩
noncomputable def qxU:Code:=(Tryz.f115.body).getD .skip
noncomputable def qzc:Cx:=⟨Tryz.prog,noHand,[],[],[],[]⟩
noncomputable def qsy:Code:=(Tryz.f116.body).getD .skip
noncomputable def qt9:Cx:=⟨Tryz.prog,noHand,[5,7,10,27],[],[],[]⟩
noncomputable def qxV:Code:=(Tryz.f119.body).getD .skip
noncomputable def qzd:Cx:=⟨Tryz.prog,noHand,[2],[],[],[]⟩
noncomputable def qv4:Code:=(Tryz.f120.body).getD .skip
noncomputable def qxZ:Cx:=⟨Tryz.prog,noHand,[5,6],[],[],[]⟩
end Ab
end Go.Proofs.YtpdhhkfllkgahaaGreatDoor

/-
  Definitions alone: the bodies of the functions, and what stands about each.
-/
import Derived.Test.YtfekohpjaafnhaaDoorLibEq
import Derived.KernelRfl
set_option linter.unusedVariables false
set_option linter.unusedSimpArgs false
set_option linter.unusedSectionVars false
namespace Go.Proofs.YtfekohpjaafnhaaDoor
namespace Ab
variable [Glob]
def sc (s : ByteArray) : Cell := .val (.string s)
theorem hmix : Tryd.prog.follows .mixedOrders = true := by kernel_rfl
theorem okF (more : List (List Cell)) {a : Prop} (h : a) : a ∧ (false = true → more.isEmpty = false) := ⟨h, fun e => by cases e⟩
noncomputable def body3 : Code := (Tryd.f3.body).getD .skip
noncomputable def cx3 : Cx := ⟨Tryd.prog, noHand, [4], [], [], []⟩
theorem c3 (nb : Nat) {a : List AV} {b b2 : List (List Cell)} {r : ARes} (ad : Advs) {ps : List Prop} (e : mgo cx3 Tryd.f3 nb 1000000 [.code body3] (fr0 Tryd.f3 a b) ad = some (.fin r b2, ps)) (hp : AllP ps) : Ev Tryd.prog noHand 3 a b r b2 := ev_of_fin (fn := Tryd.f3) (body := body3) (by kernel_rfl) (by kernel_rfl) (by kernel_rfl) rfl (mgo_fin hmix e hp)
noncomputable def body4 : Code := (Tryd.f4.body).getD .skip
noncomputable def cx4 : Cx := ⟨Tryd.prog, noHand, [2, 4, 5, 6, 7, 9, 10, 11, 12], [], [], []⟩
theorem c4 (nb : Nat) {a : List AV} {b b2 : List (List Cell)} {r : ARes} (ad : Advs) {ps : List Prop} (e : mgo cx4 Tryd.f4 nb 1000000 [.code body4] (fr0 Tryd.f4 a b) ad = some (.fin r b2, ps)) (hp : AllP ps) : Ev Tryd.prog noHand 4 a b r b2 := ev_of_fin (fn := Tryd.f4) (body := body4) (by kernel_rfl) (by kernel_rfl) (by kernel_rfl) rfl (mgo_fin hmix e hp)
noncomputable def body5 : Code := (Tryd.f5.body).getD .skip
noncomputable def cx5 : Cx := ⟨Tryd.prog, noHand, [2, 4, 5, 7, 8, 10, 11, 13, 14], [], [], []⟩
theorem c5 (nb : Nat) {a : List AV} {b b2 : List (List Cell)} {r : ARes} (ad : Advs) {ps : List Prop} (e : mgo cx5 Tryd.f5 nb 1000000 [.code body5] (fr0 Tryd.f5 a b) ad = some (.fin r b2, ps)) (hp : AllP ps) : Ev Tryd.prog noHand 5 a b r b2 := ev_of_fin (fn := Tryd.f5) (body := body5) (by kernel_rfl) (by kernel_rfl) (by kernel_rfl) rfl (mgo_fin hmix e hp)
noncomputable def body6 : Code := (Tryd.f6.body).getD .skip
noncomputable def cx6 : Cx := ⟨Tryd.prog, noHand, [6, 8, 9, 11, 12, 13, 14, 15, 17, 18], [], [], []⟩
theorem c6 (nb : Nat) {a : List AV} {b b2 : List (List Cell)} {r : ARes} (ad : Advs) {ps : List Prop} (e : mgo cx6 Tryd.f6 nb 1000000 [.code body6] (fr0 Tryd.f6 a b) ad = some (.fin r b2, ps)) (hp : AllP ps) : Ev Tryd.prog noHand 6 a b r b2 := ev_of_fin (fn := Tryd.f6) (body := body6) (by kernel_rfl) (by kernel_rfl) (by kernel_rfl) rfl (mgo_fin hmix e hp)
noncomputable def body7 : Code := (Tryd.f7.body).getD .skip
noncomputable def cx7 : Cx := ⟨Tryd.prog, noHand, [0, 2, 3, 4, 5], [], [], []⟩
noncomputable def body8 : Code := (Tryd.f8.body).getD .skip
noncomputable def cx8 : Cx := ⟨Tryd.prog, noHand, [4, 5], [], [], []⟩
noncomputable def body9 : Code := (Tryd.f9.body).getD .skip
noncomputable def cx9 : Cx := ⟨Tryd.prog, noHand, [6, 7], [], [], []⟩
theorem c9 (nb : Nat) {a : List AV} {b b2 : List (List Cell)} {r : ARes} (ad : Advs) {ps : List Prop} (e : mgo cx9 Tryd.f9 nb 1000000 [.code body9] (fr0 Tryd.f9 a b) ad = some (.fin r b2, ps)) (hp : AllP ps) : Ev Tryd.prog noHand 9 a b r b2 := ev_of_fin (fn := Tryd.f9) (body := body9) (by kernel_rfl) (by kernel_rfl) (by kernel_rfl) rfl (mgo_fin hmix e hp)
noncomputable def body10 : Code := (Tryd.f10.body).getD .skip
noncomputable def cx10 : Cx := ⟨Tryd.prog, noHand, [2, 3], [], [], []⟩
noncomputable def body11 : Code := (Tryd.f11.body).getD .skip
noncomputable def cx11 : Cx := ⟨Tryd.prog, noHand, [2, 3, 4], [], [], []⟩
noncomputable def body12 : Code := (Tryd.f12.body).getD .skip
noncomputable def cx12 : Cx := ⟨Tryd.prog, noHand, [3, 4], [], [], []⟩
noncomputable def body13 : Code := (Tryd.f13.body).getD .skip
noncomputable def cx13 : Cx := ⟨Tryd.prog, noHand, [3, 4, 5, 6, 7, 9, 28, 34, 47], [], [], []⟩
noncomputable def body14 : Code := (Tryd.f14.body).getD .skip
noncomputable def cx14 : Cx := ⟨Tryd.prog, noHand, [2, 3, 4, 5, 17, 21], [], [], []⟩
noncomputable def body15 : Code := (Tryd.f15.body).getD .skip
noncomputable def cx15 : Cx := ⟨Tryd.prog, noHand, [5], [], [], []⟩
noncomputable def body16 : Code := (Tryd.f16.body).getD .skip
noncomputable def cx16 : Cx := ⟨Tryd.prog, noHand, [8], [], [], []⟩
noncomputable def body17 : Code := (Tryd.f17.body).getD .skip
noncomputable def cx17 : Cx := ⟨Tryd.prog, noHand, [2], [], [], []⟩
noncomputable def body18 : Code := (Tryd.f18.body).getD .skip
noncomputable def cx18 : Cx := ⟨Tryd.prog, noHand, [2, 3, 4, 5, 6, 7, 8, 9, 10, 11, 12, 23, 52], [], [], []⟩
noncomputable def body19 : Code := (Tryd.f19.body).getD .skip
noncomputable def cx19 : Cx := ⟨Tryd.prog, noHand, [3, 5], [], [], []⟩
noncomputable def body20 : Code := (Tryd.f20.body).getD .skip
noncomputable def cx20 : Cx := ⟨Tryd.prog, noHand, [3, 57, 62, 67], [], [], []⟩
theorem c20 (nb : Nat) {a : List AV} {b b2 : List (List Cell)} {r : ARes} (ad : Advs) {ps : List Prop} (e : mgo cx20 Tryd.f20 nb 1000000 [.code body20] (fr0 Tryd.f20 a b) ad = some (.fin r b2, ps)) (hp : AllP ps) : Ev Tryd.prog noHand 20 a b r b2 := ev_of_fin (fn := Tryd.f20) (body := body20) (by kernel_rfl) (by kernel_rfl) (by kernel_rfl) rfl (mgo_fin hmix e hp)
noncomputable def body21 : Code := (Tryd.f21.body).getD .skip
noncomputable def cx21 : Cx := ⟨Tryd.prog, noHand, [4, 6], [], [], []⟩
theorem c21 (nb : Nat) {a : List AV} {b b2 : List (List Cell)} {r : ARes} (ad : Advs) {ps : List Prop} (e : mgo cx21 Tryd.f21 nb 1000000 [.code body21] (fr0 Tryd.f21 a b) ad = some (.fin r b2, ps)) (hp : AllP ps) : Ev Tryd.prog noHand 21 a b r b2 := ev_of_fin (fn := Tryd.f21) (body := body21) (by kernel_rfl) (by kernel_rfl) (by kernel_rfl) rfl (mgo_fin hmix e hp)
noncomputable def body22 : Code := (Tryd.f22.body).getD .skip
noncomputable def cx22 : Cx := ⟨Tryd.prog, noHand, [], [], [], []⟩
noncomputable def body23 : Code := (Tryd.f23.body).getD .skip
noncomputable def cx23 : Cx := ⟨Tryd.prog, noHand, [2, 3, 18, 25], [], [], []⟩
noncomputable def body24 : Code := (Tryd.f24.body).getD .skip
noncomputable def cx24 : Cx := ⟨Tryd.prog, noHand, [2, 3, 4, 61, 71, 86], [], [], []⟩
noncomputable def body25 : Code := (Tryd.f25.body).getD .skip
noncomputable def cx25 : Cx := ⟨Tryd.prog, noHand, [2, 3, 4, 5, 8, 11, 14, 21, 28, 35], [], [], []⟩
noncomputable def body26 : Code := (Tryd.f26.body).getD .skip
noncomputable def cx26 : Cx := ⟨Tryd.prog, noHand, [4, 5, 6, 7, 8, 9, 10], [], [], []⟩
noncomputable def body27 : Code := (Tryd.f27.body).getD .skip
noncomputable def cx27 : Cx := ⟨Tryd.prog, noHand, [2], [], [], []⟩
noncomputable def body28 : Code := (Tryd.f28.body).getD .skip
noncomputable def cx28 : Cx := ⟨Tryd.prog, noHand, [2, 5, 11, 19, 25, 31, 39], [], [], []⟩
noncomputable def body29 : Code := (Tryd.f29.body).getD .skip
noncomputable def cx29 : Cx := ⟨Tryd.prog, noHand, [2], [], [], []⟩
noncomputable def body30 : Code := (Tryd.f30.body).getD .skip
noncomputable def cx30 : Cx := ⟨Tryd.prog, noHand, [2], [], [], []⟩
noncomputable def body31 : Code := (Tryd.f31.body).getD .skip
noncomputable def cx31 : Cx := ⟨Tryd.prog, noHand, [3, 4, 24, 30], [], [], []⟩
noncomputable def body32 : Code := (Tryd.f32.body).getD .skip
noncomputable def cx32 : Cx := ⟨Tryd.prog, noHand, [2], [], [], []⟩
noncomputable def body33 : Code := (Tryd.f33.body).getD .skip
noncomputable def cx33 : Cx := ⟨Tryd.prog, noHand, [3, 4, 5, 6, 7, 8, 9], [], [], []⟩
noncomputable def body34 : Code := (Tryd.f34.body).getD .skip
noncomputable def cx34 : Cx := ⟨Tryd.prog, noHand, [3, 4, 5], [], [], []⟩
noncomputable def body35 : Code := (Tryd.f35.body).getD .skip
noncomputable def cx35 : Cx := ⟨Tryd.prog, noHand, [3, 4, 5, 17, 21], [], [], []⟩
noncomputable def body36 : Code := (Tryd.f36.body).getD .skip
noncomputable def cx36 : Cx := ⟨Tryd.prog, noHand, [], [], [], []⟩
noncomputable def body37 : Code := (Tryd.f37.body).getD .skip
noncomputable def cx37 : Cx := ⟨Tryd.prog, noHand, [4], [], [], []⟩
theorem c37 (nb : Nat) {a : List AV} {b b2 : List (List Cell)} {r : ARes} (ad : Advs) {ps : List Prop} (e : mgo cx37 Tryd.f37 nb 1000000 [.code body37] (fr0 Tryd.f37 a b) ad = some (.fin r b2, ps)) (hp : AllP ps) : Ev Tryd.prog noHand 37 a b r b2 := ev_of_fin (fn := Tryd.f37) (body := body37) (by kernel_rfl) (by kernel_rfl) (by kernel_rfl) rfl (mgo_fin hmix e hp)
noncomputable def body38 : Code := (Tryd.f38.body).getD .skip
noncomputable def cx38 : Cx := ⟨Tryd.prog, noHand, [9], [], [], []⟩
noncomputable def body40 : Code := (Tryd.f40.body).getD .skip
noncomputable def cx40 : Cx := ⟨Tryd.prog, noHand, [2, 3, 6, 11, 49], [], [], []⟩
noncomputable def body41 : Code := (Tryd.f41.body).getD .skip
noncomputable def cx41 : Cx := ⟨Tryd.prog, noHand, [4, 5], [], [], []⟩
noncomputable def body42 : Code := (Tryd.f42.body).getD .skip
noncomputable def cx42 : Cx := ⟨Tryd.prog, noHand, [2, 4], [], [], []⟩
noncomputable def body43 : Code := (Tryd.f43.body).getD .skip
noncomputable def cx43 : Cx := ⟨Tryd.prog, noHand, [4, 5], [], [], []⟩
noncomputable def body45 : Code := (Tryd.f45.body).getD .skip
noncomputable def cx45 : Cx := ⟨Tryd.prog, noHand, [3], [], [], []⟩
noncomputable def body46 : Code := (Tryd.f46.body).getD .skip
noncomputable def cx46 : Cx := ⟨Tryd.prog, noHand, [], [], [], []⟩
theorem c46 (nb : Nat) {a : List AV} {b b2 : List (List Cell)} {r : ARes} (ad : Advs) {ps : List Prop} (e : mgo cx46 Tryd.f46 nb 1000000 [.code body46] (fr0 Tryd.f46 a b) ad = some (.fin r b2, ps)) (hp : AllP ps) : Ev Tryd.prog noHand 46 a b r b2 := ev_of_fin (fn := Tryd.f46) (body := body46) (by kernel_rfl) (by kernel_rfl) (by kernel_rfl) rfl (mgo_fin hmix e hp)
noncomputable def body51 : Code := (Tryd.f51.body).getD .skip
noncomputable def cx51 : Cx := ⟨Tryd.prog, noHand, [4], [], [], []⟩
theorem c51 (nb : Nat) {a : List AV} {b b2 : List (List Cell)} {r : ARes} (ad : Advs) {ps : List Prop} (e : mgo cx51 Tryd.f51 nb 1000000 [.code body51] (fr0 Tryd.f51 a b) ad = some (.fin r b2, ps)) (hp : AllP ps) : Ev Tryd.prog noHand 51 a b r b2 := ev_of_fin (fn := Tryd.f51) (body := body51) (by kernel_rfl) (by kernel_rfl) (by kernel_rfl) rfl (mgo_fin hmix e hp)
noncomputable def body52 : Code := (Tryd.f52.body).getD .skip
noncomputable def cx52 : Cx := ⟨Tryd.prog, noHand, [2], [], [], []⟩
noncomputable def body53 : Code := (Tryd.f53.body).getD .skip
noncomputable def cx53 : Cx := ⟨Tryd.prog, noHand, [4, 6, 7, 8, 9], [], [], []⟩
theorem c53 (nb : Nat) {a : List AV} {b b2 : List (List Cell)} {r : ARes} (ad : Advs) {ps : List Prop} (e : mgo cx53 Tryd.f53 nb 1000000 [.code body53] (fr0 Tryd.f53 a b) ad = some (.fin r b2, ps)) (hp : AllP ps) : Ev Tryd.prog noHand 53 a b r b2 := ev_of_fin (fn := Tryd.f53) (body := body53) (by kernel_rfl) (by kernel_rfl) (by kernel_rfl) rfl (mgo_fin hmix e hp)
noncomputable def body59 : Code := (Tryd.f59.body).getD .skip
noncomputable def cx59 : Cx := ⟨Tryd.prog, noHand, [4], [], [], []⟩
noncomputable def body60 : Code := (Tryd.f60.body).getD .skip
noncomputable def cx60 : Cx := ⟨Tryd.prog, noHand, [6, 8, 9], [], [], []⟩
noncomputable def body70 : Code := (Tryd.f70.body).getD .skip
noncomputable def cx70 : Cx := ⟨Tryd.prog, noHand, [4], [], [], []⟩
noncomputable def body75 : Code := (Tryd.f75.body).getD .skip
noncomputable def cx75 : Cx := ⟨Tryd.prog, noHand, [2], [], [], []⟩
theorem c75 (nb : Nat) {a : List AV} {b b2 : List (List Cell)} {r : ARes} (ad : Advs) {ps : List Prop} (e : mgo cx75 Tryd.f75 nb 1000000 [.code body75] (fr0 Tryd.f75 a b) ad = some (.fin r b2, ps)) (hp : AllP ps) : Ev Tryd.prog noHand 75 a b r b2 := ev_of_fin (fn := Tryd.f75) (body := body75) (by kernel_rfl) (by kernel_rfl) (by kernel_rfl) rfl (mgo_fin hmix e hp)
noncomputable def body78 : Code := (Tryd.f78.body).getD .skip
noncomputable def cx78 : Cx := ⟨Tryd.prog, noHand, [3], [], [], []⟩
noncomputable def body80 : Code := (Tryd.f80.body).getD .skip
noncomputable def cx80 : Cx := ⟨Tryd.prog, noHand, [2, 7], [], [], []⟩
theorem c80 (nb : Nat) {a : List AV} {b b2 : List (List Cell)} {r : ARes} (ad : Advs) {ps : List Prop} (e : mgo cx80 Tryd.f80 nb 1000000 [.code body80] (fr0 Tryd.f80 a b) ad = some (.fin r b2, ps)) (hp : AllP ps) : Ev Tryd.prog noHand 80 a b r b2 := ev_of_fin (fn := Tryd.f80) (body := body80) (by kernel_rfl) (by kernel_rfl) (by kernel_rfl) rfl (mgo_fin hmix e hp)
noncomputable def body83 : Code := (Tryd.f83.body).getD .skip
noncomputable def cx83 : Cx := ⟨Tryd.prog, noHand, [4, 5, 11, 25, 41, 55, 67, 86], [], [], []⟩
noncomputable def body85 : Code := (Tryd.f85.body).getD .skip
noncomputable def cx85 : Cx := ⟨Tryd.prog, noHand, [2, 3, 4], [], [], []⟩
theorem c85 (nb : Nat) {a : List AV} {b b2 : List (List Cell)} {r : ARes} (ad : Advs) {ps : List Prop} (e : mgo cx85 Tryd.f85 nb 1000000 [.code body85] (fr0 Tryd.f85 a b) ad = some (.fin r b2, ps)) (hp : AllP ps) : Ev Tryd.prog noHand 85 a b r b2 := ev_of_fin (fn := Tryd.f85) (body := body85) (by kernel_rfl) (by kernel_rfl) (by kernel_rfl) rfl (mgo_fin hmix e hp)
noncomputable def body86 : Code := (Tryd.f86.body).getD .skip
noncomputable def cx86 : Cx := ⟨Tryd.prog, noHand, [], [], [], []⟩
noncomputable def body87 : Code := (Tryd.f87.body).getD .skip
noncomputable def cx87 : Cx := ⟨Tryd.prog, noHand, [5, 7, 10, 27], [], [], []⟩
noncomputable def body90 : Code := (Tryd.f90.body).getD .skip
noncomputable def cx90 : Cx := ⟨Tryd.prog, noHand, [2], [], [], []⟩
noncomputable def body91 : Code := (Tryd.f91.body).getD .skip
noncomputable def cx91 : Cx := ⟨Tryd.prog, noHand, [5, 6], [], [], []⟩
end Ab
end Go.Proofs.YtfekohpjaafnhaaDoor

/-
  Definitions alone: the bodies of the functions, and what stands about each.
-/
import Derived.Test.YtniibdfnijeaeaaDoorLibEq
import Derived.KernelRfl
set_option linter.unusedVariables false
set_option linter.unusedSimpArgs false
set_option linter.unusedSectionVars false
namespace Go.Proofs.YtniibdfnijeaeaaDoor
namespace Ab
variable [Glob]
def sc (s : ByteArray) : Cell := .val (.string s)
theorem hmix : Tryd.prog.follows .mixedOrders = true := by kernel_rfl
theorem okF (more : List (List Cell)) {a : Prop} (h : a) : a ∧ (false = true → more.isEmpty = false) := ⟨h, fun e => by cases e⟩
noncomputable def body3 : Code := (Tryd.f3.body).getD .skip
noncomputable def cx3 : Cx := ⟨Tryd.prog, noHand, [2, 3, 4, 5, 6, 7, 8], [], [], []⟩
theorem c3 (nb : Nat) {a : List AV} {b b2 : List (List Cell)} {r : ARes} (ad : Advs) {ps : List Prop} (e : mgo cx3 Tryd.f3 nb 1000000 [.code body3] (fr0 Tryd.f3 a b) ad = some (.fin r b2, ps)) (hp : AllP ps) : Ev Tryd.prog noHand 3 a b r b2 := ev_of_fin (fn := Tryd.f3) (body := body3) (by kernel_rfl) (by kernel_rfl) (by kernel_rfl) rfl (mgo_fin hmix e hp)
noncomputable def body4 : Code := (Tryd.f4.body).getD .skip
noncomputable def cx4 : Cx := ⟨Tryd.prog, noHand, [2, 3, 4, 5], [], [], []⟩
theorem c4 (nb : Nat) {a : List AV} {b b2 : List (List Cell)} {r : ARes} (ad : Advs) {ps : List Prop} (e : mgo cx4 Tryd.f4 nb 1000000 [.code body4] (fr0 Tryd.f4 a b) ad = some (.fin r b2, ps)) (hp : AllP ps) : Ev Tryd.prog noHand 4 a b r b2 := ev_of_fin (fn := Tryd.f4) (body := body4) (by kernel_rfl) (by kernel_rfl) (by kernel_rfl) rfl (mgo_fin hmix e hp)
noncomputable def body5 : Code := (Tryd.f5.body).getD .skip
noncomputable def cx5 : Cx := ⟨Tryd.prog, noHand, [2, 3, 4, 5, 6, 7, 8, 9, 10, 11], [], [], []⟩
theorem c5 (nb : Nat) {a : List AV} {b b2 : List (List Cell)} {r : ARes} (ad : Advs) {ps : List Prop} (e : mgo cx5 Tryd.f5 nb 1000000 [.code body5] (fr0 Tryd.f5 a b) ad = some (.fin r b2, ps)) (hp : AllP ps) : Ev Tryd.prog noHand 5 a b r b2 := ev_of_fin (fn := Tryd.f5) (body := body5) (by kernel_rfl) (by kernel_rfl) (by kernel_rfl) rfl (mgo_fin hmix e hp)
noncomputable def body6 : Code := (Tryd.f6.body).getD .skip
noncomputable def cx6 : Cx := ⟨Tryd.prog, noHand, [2, 3, 4, 5, 6, 7, 8, 9, 11], [], [], []⟩
theorem c6 (nb : Nat) {a : List AV} {b b2 : List (List Cell)} {r : ARes} (ad : Advs) {ps : List Prop} (e : mgo cx6 Tryd.f6 nb 1000000 [.code body6] (fr0 Tryd.f6 a b) ad = some (.fin r b2, ps)) (hp : AllP ps) : Ev Tryd.prog noHand 6 a b r b2 := ev_of_fin (fn := Tryd.f6) (body := body6) (by kernel_rfl) (by kernel_rfl) (by kernel_rfl) rfl (mgo_fin hmix e hp)
noncomputable def body7 : Code := (Tryd.f7.body).getD .skip
noncomputable def cx7 : Cx := ⟨Tryd.prog, noHand, [4, 5, 6, 7, 8, 11, 12, 13, 14], [], [], []⟩
noncomputable def body8 : Code := (Tryd.f8.body).getD .skip
noncomputable def cx8 : Cx := ⟨Tryd.prog, noHand, [5], [], [], []⟩
noncomputable def body9 : Code := (Tryd.f9.body).getD .skip
noncomputable def cx9 : Cx := ⟨Tryd.prog, noHand, [2, 3, 4, 5, 6, 8], [], [], []⟩
theorem c9 (nb : Nat) {a : List AV} {b b2 : List (List Cell)} {r : ARes} (ad : Advs) {ps : List Prop} (e : mgo cx9 Tryd.f9 nb 1000000 [.code body9] (fr0 Tryd.f9 a b) ad = some (.fin r b2, ps)) (hp : AllP ps) : Ev Tryd.prog noHand 9 a b r b2 := ev_of_fin (fn := Tryd.f9) (body := body9) (by kernel_rfl) (by kernel_rfl) (by kernel_rfl) rfl (mgo_fin hmix e hp)
noncomputable def body10 : Code := (Tryd.f10.body).getD .skip
noncomputable def cx10 : Cx := ⟨Tryd.prog, noHand, [0, 1, 2, 3], [], [], []⟩
noncomputable def body12 : Code := (Tryd.f12.body).getD .skip
noncomputable def cx12 : Cx := ⟨Tryd.prog, noHand, [2], [], [], []⟩
noncomputable def body14 : Code := (Tryd.f14.body).getD .skip
noncomputable def cx14 : Cx := ⟨Tryd.prog, noHand, [2, 3, 6, 11, 49], [], [], []⟩
noncomputable def body16 : Code := (Tryd.f16.body).getD .skip
noncomputable def cx16 : Cx := ⟨Tryd.prog, noHand, [3, 5], [], [], []⟩
noncomputable def body17 : Code := (Tryd.f17.body).getD .skip
noncomputable def cx17 : Cx := ⟨Tryd.prog, noHand, [3, 57, 62, 67], [], [], []⟩
noncomputable def body20 : Code := (Tryd.f20.body).getD .skip
noncomputable def cx20 : Cx := ⟨Tryd.prog, noHand, [2, 3, 4], [], [], []⟩
theorem c20 (nb : Nat) {a : List AV} {b b2 : List (List Cell)} {r : ARes} (ad : Advs) {ps : List Prop} (e : mgo cx20 Tryd.f20 nb 1000000 [.code body20] (fr0 Tryd.f20 a b) ad = some (.fin r b2, ps)) (hp : AllP ps) : Ev Tryd.prog noHand 20 a b r b2 := ev_of_fin (fn := Tryd.f20) (body := body20) (by kernel_rfl) (by kernel_rfl) (by kernel_rfl) rfl (mgo_fin hmix e hp)
noncomputable def body21 : Code := (Tryd.f21.body).getD .skip
noncomputable def cx21 : Cx := ⟨Tryd.prog, noHand, [4, 5, 6, 7], [], [], []⟩
theorem c21 (nb : Nat) {a : List AV} {b b2 : List (List Cell)} {r : ARes} (ad : Advs) {ps : List Prop} (e : mgo cx21 Tryd.f21 nb 1000000 [.code body21] (fr0 Tryd.f21 a b) ad = some (.fin r b2, ps)) (hp : AllP ps) : Ev Tryd.prog noHand 21 a b r b2 := ev_of_fin (fn := Tryd.f21) (body := body21) (by kernel_rfl) (by kernel_rfl) (by kernel_rfl) rfl (mgo_fin hmix e hp)
noncomputable def body22 : Code := (Tryd.f22.body).getD .skip
noncomputable def cx22 : Cx := ⟨Tryd.prog, noHand, [2], [], [], []⟩
noncomputable def body23 : Code := (Tryd.f23.body).getD .skip
noncomputable def cx23 : Cx := ⟨Tryd.prog, noHand, [3, 4, 24, 30], [], [], []⟩
noncomputable def body24 : Code := (Tryd.f24.body).getD .skip
noncomputable def cx24 : Cx := ⟨Tryd.prog, noHand, [2], [], [], []⟩
noncomputable def body25 : Code := (Tryd.f25.body).getD .skip
noncomputable def cx25 : Cx := ⟨Tryd.prog, noHand, [3, 4, 5, 6, 7, 8, 9], [], [], []⟩
noncomputable def body26 : Code := (Tryd.f26.body).getD .skip
noncomputable def cx26 : Cx := ⟨Tryd.prog, noHand, [3, 4, 5], [], [], []⟩
noncomputable def body27 : Code := (Tryd.f27.body).getD .skip
noncomputable def cx27 : Cx := ⟨Tryd.prog, noHand, [3, 4, 5, 17, 21], [], [], []⟩
noncomputable def body35 : Code := (Tryd.f35.body).getD .skip
noncomputable def cx35 : Cx := ⟨Tryd.prog, noHand, [4, 5], [], [], []⟩
noncomputable def body36 : Code := (Tryd.f36.body).getD .skip
noncomputable def cx36 : Cx := ⟨Tryd.prog, noHand, [2, 4], [], [], []⟩
noncomputable def body37 : Code := (Tryd.f37.body).getD .skip
noncomputable def cx37 : Cx := ⟨Tryd.prog, noHand, [2, 3, 4, 5], [], [], []⟩
theorem c37 (nb : Nat) {a : List AV} {b b2 : List (List Cell)} {r : ARes} (ad : Advs) {ps : List Prop} (e : mgo cx37 Tryd.f37 nb 1000000 [.code body37] (fr0 Tryd.f37 a b) ad = some (.fin r b2, ps)) (hp : AllP ps) : Ev Tryd.prog noHand 37 a b r b2 := ev_of_fin (fn := Tryd.f37) (body := body37) (by kernel_rfl) (by kernel_rfl) (by kernel_rfl) rfl (mgo_fin hmix e hp)
noncomputable def body38 : Code := (Tryd.f38.body).getD .skip
noncomputable def cx38 : Cx := ⟨Tryd.prog, noHand, [4, 5], [], [], []⟩
noncomputable def body46 : Code := (Tryd.f46.body).getD .skip
noncomputable def cx46 : Cx := ⟨Tryd.prog, noHand, [2, 3, 10, 17, 24], [], [], []⟩
theorem c46 (nb : Nat) {a : List AV} {b b2 : List (List Cell)} {r : ARes} (ad : Advs) {ps : List Prop} (e : mgo cx46 Tryd.f46 nb 1000000 [.code body46] (fr0 Tryd.f46 a b) ad = some (.fin r b2, ps)) (hp : AllP ps) : Ev Tryd.prog noHand 46 a b r b2 := ev_of_fin (fn := Tryd.f46) (body := body46) (by kernel_rfl) (by kernel_rfl) (by kernel_rfl) rfl (mgo_fin hmix e hp)
noncomputable def body51 : Code := (Tryd.f51.body).getD .skip
noncomputable def cx51 : Cx := ⟨Tryd.prog, noHand, [2], [], [], []⟩
theorem c51 (nb : Nat) {a : List AV} {b b2 : List (List Cell)} {r : ARes} (ad : Advs) {ps : List Prop} (e : mgo cx51 Tryd.f51 nb 1000000 [.code body51] (fr0 Tryd.f51 a b) ad = some (.fin r b2, ps)) (hp : AllP ps) : Ev Tryd.prog noHand 51 a b r b2 := ev_of_fin (fn := Tryd.f51) (body := body51) (by kernel_rfl) (by kernel_rfl) (by kernel_rfl) rfl (mgo_fin hmix e hp)
noncomputable def body53 : Code := (Tryd.f53.body).getD .skip
noncomputable def cx53 : Cx := ⟨Tryd.prog, noHand, [2], [], [], []⟩
theorem c53 (nb : Nat) {a : List AV} {b b2 : List (List Cell)} {r : ARes} (ad : Advs) {ps : List Prop} (e : mgo cx53 Tryd.f53 nb 1000000 [.code body53] (fr0 Tryd.f53 a b) ad = some (.fin r b2, ps)) (hp : AllP ps) : Ev Tryd.prog noHand 53 a b r b2 := ev_of_fin (fn := Tryd.f53) (body := body53) (by kernel_rfl) (by kernel_rfl) (by kernel_rfl) rfl (mgo_fin hmix e hp)
end Ab
end Go.Proofs.YtniibdfnijeaeaaDoor

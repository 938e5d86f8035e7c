/-
  Definitions alone: the bodies of the functions, and what stands about each.
-/
import Derived.Test.YtniibdfnijeaeaaDoorLibE
import Derived.KernelRfl
set_option linter.unusedVariables false
set_option linter.unusedSimpArgs false
set_option linter.unusedSectionVars false
namespace Go.Proofs.YtniibdfnijeaeaaDoor
namespace Ab
variable [Glob]
def sc (s : ByteArray) : Cell := .val (.string s)
theorem hmix : Tryd.prog.follows .mixedOrders = true := by kernel_rfl
theorem okF (more : List (List Cell)) {a : Prop} (h : a) : a ∧ (false = true → more.isEmpty = false) := ⟨h, fun e => by cases e⟩
theorem okT {a q : Prop} (h : a) (hq : q) : a ∧ (true = true → q) := ⟨h, fun _ => hq⟩
noncomputable def body3 : Code := (Tryd.f3.body).getD .skip
noncomputable def cx3 : Cx := ⟨Tryd.prog, noHand, [2, 3, 4, 5, 6, 7, 8], [], [], []⟩
theorem c3 (nb : Nat) {a : List AV} {b b2 : List (List Cell)} {r : ARes} (ad : Advs) {ps : List Prop} (e : mgo cx3 Tryd.f3 nb 1000000 [.code body3] (fr0 Tryd.f3 a b) ad = some (.fin r b2, ps)) (hp : AllP ps) : Ev Tryd.prog noHand 3 a b r b2 := ev_of_fin (fn := Tryd.f3) (body := body3) (by kernel_rfl) (by kernel_rfl) (by kernel_rfl) rfl (mgo_fin hmix e hp)
noncomputable def body4 : Code := (Tryd.f4.body).getD .skip
noncomputable def cx4 : Cx := ⟨Tryd.prog, noHand, [2, 3, 4, 5], [], [], []⟩
theorem c4 (nb : Nat) {a : List AV} {b b2 : List (List Cell)} {r : ARes} (ad : Advs) {ps : List Prop} (e : mgo cx4 Tryd.f4 nb 1000000 [.code body4] (fr0 Tryd.f4 a b) ad = some (.fin r b2, ps)) (hp : AllP ps) : Ev Tryd.prog noHand 4 a b r b2 := ev_of_fin (fn := Tryd.f4) (body := body4) (by kernel_rfl) (by kernel_rfl) (by kernel_rfl) rfl (mgo_fin hmix e hp)
noncomputable def body5 : Code := (Tryd.f5.body).getD .skip
noncomputable def cx5 : Cx := ⟨Tryd.prog, noHand, [2, 3, 4, 5, 6, 7, 8, 9, 10, 11], [], [], []⟩
theorem c5 (nb : Nat) {a : List AV} {b b2 : List (List Cell)} {r : ARes} (ad : Advs) {ps : List Prop} (e : mgo cx5 Tryd.f5 nb 1000000 [.code body5] (fr0 Tryd.f5 a b) ad = some (.fin r b2, ps)) (hp : AllP ps) : Ev Tryd.prog noHand 5 a b r b2 := ev_of_fin (fn := Tryd.f5) (body := body5) (by kernel_rfl) (by kernel_rfl) (by kernel_rfl) rfl (mgo_fin hmix e hp)
noncomputable def body6 : Code := (Tryd.f6.body).getD .skip
noncomputable def cx6 : Cx := ⟨Tryd.prog, noHand, [2, 3, 4, 5, 6, 7, 8, 9, 11], [], [], []⟩
theorem c6 (nb : Nat) {a : List AV} {b b2 : List (List Cell)} {r : ARes} (ad : Advs) {ps : List Prop} (e : mgo cx6 Tryd.f6 nb 1000000 [.code body6] (fr0 Tryd.f6 a b) ad = some (.fin r b2, ps)) (hp : AllP ps) : Ev Tryd.prog noHand 6 a b r b2 := ev_of_fin (fn := Tryd.f6) (body := body6) (by kernel_rfl) (by kernel_rfl) (by kernel_rfl) rfl (mgo_fin hmix e hp)
noncomputable def body7 : Code := (Tryd.f7.body).getD .skip
noncomputable def cx7 : Cx := ⟨Tryd.prog, noHand, [4, 5, 6, 7, 8, 11, 12, 13, 14], [], [], []⟩
theorem c7 (nb : Nat) {a : List AV} {b b2 : List (List Cell)} {r : ARes} (ad : Advs) {ps : List Prop} (e : mgo cx7 Tryd.f7 nb 1000000 [.code body7] (fr0 Tryd.f7 a b) ad = some (.fin r b2, ps)) (hp : AllP ps) : Ev Tryd.prog noHand 7 a b r b2 := ev_of_fin (fn := Tryd.f7) (body := body7) (by kernel_rfl) (by kernel_rfl) (by kernel_rfl) rfl (mgo_fin hmix e hp)
noncomputable def body8 : Code := (Tryd.f8.body).getD .skip
noncomputable def cx8 : Cx := ⟨Tryd.prog, noHand, [5], [], [], []⟩
theorem c8 (nb : Nat) {a : List AV} {b b2 : List (List Cell)} {r : ARes} (ad : Advs) {ps : List Prop} (e : mgo cx8 Tryd.f8 nb 1000000 [.code body8] (fr0 Tryd.f8 a b) ad = some (.fin r b2, ps)) (hp : AllP ps) : Ev Tryd.prog noHand 8 a b r b2 := ev_of_fin (fn := Tryd.f8) (body := body8) (by kernel_rfl) (by kernel_rfl) (by kernel_rfl) rfl (mgo_fin hmix e hp)
noncomputable def body9 : Code := (Tryd.f9.body).getD .skip
noncomputable def cx9 : Cx := ⟨Tryd.prog, noHand, [2, 3, 4, 5, 6, 8], [], [], []⟩
theorem c9 (nb : Nat) {a : List AV} {b b2 : List (List Cell)} {r : ARes} (ad : Advs) {ps : List Prop} (e : mgo cx9 Tryd.f9 nb 1000000 [.code body9] (fr0 Tryd.f9 a b) ad = some (.fin r b2, ps)) (hp : AllP ps) : Ev Tryd.prog noHand 9 a b r b2 := ev_of_fin (fn := Tryd.f9) (body := body9) (by kernel_rfl) (by kernel_rfl) (by kernel_rfl) rfl (mgo_fin hmix e hp)
noncomputable def body10 : Code := (Tryd.f10.body).getD .skip
noncomputable def cx10 : Cx := ⟨Tryd.prog, noHand, [0, 1, 2, 3], [], [], []⟩
theorem c10 (nb : Nat) {a : List AV} {b b2 : List (List Cell)} {r : ARes} (ad : Advs) {ps : List Prop} (e : mgo cx10 Tryd.f10 nb 1000000 [.code body10] (fr0 Tryd.f10 a b) ad = some (.fin r b2, ps)) (hp : AllP ps) : Ev Tryd.prog noHand 10 a b r b2 := ev_of_fin (fn := Tryd.f10) (body := body10) (by kernel_rfl) (by kernel_rfl) (by kernel_rfl) rfl (mgo_fin hmix e hp)
noncomputable def body11 : Code := (Tryd.f11.body).getD .skip
noncomputable def cx11 : Cx := ⟨Tryd.prog, noHand, [4, 5], [], [], []⟩
theorem c11 (nb : Nat) {a : List AV} {b b2 : List (List Cell)} {r : ARes} (ad : Advs) {ps : List Prop} (e : mgo cx11 Tryd.f11 nb 1000000 [.code body11] (fr0 Tryd.f11 a b) ad = some (.fin r b2, ps)) (hp : AllP ps) : Ev Tryd.prog noHand 11 a b r b2 := ev_of_fin (fn := Tryd.f11) (body := body11) (by kernel_rfl) (by kernel_rfl) (by kernel_rfl) rfl (mgo_fin hmix e hp)
noncomputable def body12 : Code := (Tryd.f12.body).getD .skip
noncomputable def cx12 : Cx := ⟨Tryd.prog, noHand, [2], [], [], []⟩
theorem c12 (nb : Nat) {a : List AV} {b b2 : List (List Cell)} {r : ARes} (ad : Advs) {ps : List Prop} (e : mgo cx12 Tryd.f12 nb 1000000 [.code body12] (fr0 Tryd.f12 a b) ad = some (.fin r b2, ps)) (hp : AllP ps) : Ev Tryd.prog noHand 12 a b r b2 := ev_of_fin (fn := Tryd.f12) (body := body12) (by kernel_rfl) (by kernel_rfl) (by kernel_rfl) rfl (mgo_fin hmix e hp)
noncomputable def body13 : Code := (Tryd.f13.body).getD .skip
noncomputable def cx13 : Cx := ⟨Tryd.prog, noHand, [2], [], [], []⟩
theorem c13 (nb : Nat) {a : List AV} {b b2 : List (List Cell)} {r : ARes} (ad : Advs) {ps : List Prop} (e : mgo cx13 Tryd.f13 nb 1000000 [.code body13] (fr0 Tryd.f13 a b) ad = some (.fin r b2, ps)) (hp : AllP ps) : Ev Tryd.prog noHand 13 a b r b2 := ev_of_fin (fn := Tryd.f13) (body := body13) (by kernel_rfl) (by kernel_rfl) (by kernel_rfl) rfl (mgo_fin hmix e hp)
noncomputable def body14 : Code := (Tryd.f14.body).getD .skip
noncomputable def cx14 : Cx := ⟨Tryd.prog, noHand, [2, 3, 6, 11, 49], [], [], []⟩
theorem c14 (nb : Nat) {a : List AV} {b b2 : List (List Cell)} {r : ARes} (ad : Advs) {ps : List Prop} (e : mgo cx14 Tryd.f14 nb 1000000 [.code body14] (fr0 Tryd.f14 a b) ad = some (.fin r b2, ps)) (hp : AllP ps) : Ev Tryd.prog noHand 14 a b r b2 := ev_of_fin (fn := Tryd.f14) (body := body14) (by kernel_rfl) (by kernel_rfl) (by kernel_rfl) rfl (mgo_fin hmix e hp)
noncomputable def body15 : Code := (Tryd.f15.body).getD .skip
noncomputable def cx15 : Cx := ⟨Tryd.prog, noHand, [2, 5, 10, 17], [], [], []⟩
theorem c15 (nb : Nat) {a : List AV} {b b2 : List (List Cell)} {r : ARes} (ad : Advs) {ps : List Prop} (e : mgo cx15 Tryd.f15 nb 1000000 [.code body15] (fr0 Tryd.f15 a b) ad = some (.fin r b2, ps)) (hp : AllP ps) : Ev Tryd.prog noHand 15 a b r b2 := ev_of_fin (fn := Tryd.f15) (body := body15) (by kernel_rfl) (by kernel_rfl) (by kernel_rfl) rfl (mgo_fin hmix e hp)
noncomputable def body16 : Code := (Tryd.f16.body).getD .skip
noncomputable def cx16 : Cx := ⟨Tryd.prog, noHand, [3, 5], [], [], []⟩
theorem c16 (nb : Nat) {a : List AV} {b b2 : List (List Cell)} {r : ARes} (ad : Advs) {ps : List Prop} (e : mgo cx16 Tryd.f16 nb 1000000 [.code body16] (fr0 Tryd.f16 a b) ad = some (.fin r b2, ps)) (hp : AllP ps) : Ev Tryd.prog noHand 16 a b r b2 := ev_of_fin (fn := Tryd.f16) (body := body16) (by kernel_rfl) (by kernel_rfl) (by kernel_rfl) rfl (mgo_fin hmix e hp)
noncomputable def body17 : Code := (Tryd.f17.body).getD .skip
noncomputable def cx17 : Cx := ⟨Tryd.prog, noHand, [3, 57, 62, 67], [], [], []⟩
theorem c17 (nb : Nat) {a : List AV} {b b2 : List (List Cell)} {r : ARes} (ad : Advs) {ps : List Prop} (e : mgo cx17 Tryd.f17 nb 1000000 [.code body17] (fr0 Tryd.f17 a b) ad = some (.fin r b2, ps)) (hp : AllP ps) : Ev Tryd.prog noHand 17 a b r b2 := ev_of_fin (fn := Tryd.f17) (body := body17) (by kernel_rfl) (by kernel_rfl) (by kernel_rfl) rfl (mgo_fin hmix e hp)
noncomputable def body18 : Code := (Tryd.f18.body).getD .skip
noncomputable def cx18 : Cx := ⟨Tryd.prog, noHand, [5, 6, 7, 8, 9, 10, 12], [], [], []⟩
theorem c18 (nb : Nat) {a : List AV} {b b2 : List (List Cell)} {r : ARes} (ad : Advs) {ps : List Prop} (e : mgo cx18 Tryd.f18 nb 1000000 [.code body18] (fr0 Tryd.f18 a b) ad = some (.fin r b2, ps)) (hp : AllP ps) : Ev Tryd.prog noHand 18 a b r b2 := ev_of_fin (fn := Tryd.f18) (body := body18) (by kernel_rfl) (by kernel_rfl) (by kernel_rfl) rfl (mgo_fin hmix e hp)
noncomputable def body19 : Code := (Tryd.f19.body).getD .skip
noncomputable def cx19 : Cx := ⟨Tryd.prog, noHand, [4], [], [], []⟩
theorem c19 (nb : Nat) {a : List AV} {b b2 : List (List Cell)} {r : ARes} (ad : Advs) {ps : List Prop} (e : mgo cx19 Tryd.f19 nb 1000000 [.code body19] (fr0 Tryd.f19 a b) ad = some (.fin r b2, ps)) (hp : AllP ps) : Ev Tryd.prog noHand 19 a b r b2 := ev_of_fin (fn := Tryd.f19) (body := body19) (by kernel_rfl) (by kernel_rfl) (by kernel_rfl) rfl (mgo_fin hmix e hp)
noncomputable def body20 : Code := (Tryd.f20.body).getD .skip
noncomputable def cx20 : Cx := ⟨Tryd.prog, noHand, [2, 3, 4], [], [], []⟩
theorem c20 (nb : Nat) {a : List AV} {b b2 : List (List Cell)} {r : ARes} (ad : Advs) {ps : List Prop} (e : mgo cx20 Tryd.f20 nb 1000000 [.code body20] (fr0 Tryd.f20 a b) ad = some (.fin r b2, ps)) (hp : AllP ps) : Ev Tryd.prog noHand 20 a b r b2 := ev_of_fin (fn := Tryd.f20) (body := body20) (by kernel_rfl) (by kernel_rfl) (by kernel_rfl) rfl (mgo_fin hmix e hp)
noncomputable def body21 : Code := (Tryd.f21.body).getD .skip
noncomputable def cx21 : Cx := ⟨Tryd.prog, noHand, [4, 5, 6, 7], [], [], []⟩
theorem c21 (nb : Nat) {a : List AV} {b b2 : List (List Cell)} {r : ARes} (ad : Advs) {ps : List Prop} (e : mgo cx21 Tryd.f21 nb 1000000 [.code body21] (fr0 Tryd.f21 a b) ad = some (.fin r b2, ps)) (hp : AllP ps) : Ev Tryd.prog noHand 21 a b r b2 := ev_of_fin (fn := Tryd.f21) (body := body21) (by kernel_rfl) (by kernel_rfl) (by kernel_rfl) rfl (mgo_fin hmix e hp)
noncomputable def body22 : Code := (Tryd.f22.body).getD .skip
noncomputable def cx22 : Cx := ⟨Tryd.prog, noHand, [2], [], [], []⟩
theorem c22 (nb : Nat) {a : List AV} {b b2 : List (List Cell)} {r : ARes} (ad : Advs) {ps : List Prop} (e : mgo cx22 Tryd.f22 nb 1000000 [.code body22] (fr0 Tryd.f22 a b) ad = some (.fin r b2, ps)) (hp : AllP ps) : Ev Tryd.prog noHand 22 a b r b2 := ev_of_fin (fn := Tryd.f22) (body := body22) (by kernel_rfl) (by kernel_rfl) (by kernel_rfl) rfl (mgo_fin hmix e hp)
noncomputable def body23 : Code := (Tryd.f23.body).getD .skip
noncomputable def cx23 : Cx := ⟨Tryd.prog, noHand, [3, 4, 24, 30], [], [], []⟩
theorem c23 (nb : Nat) {a : List AV} {b b2 : List (List Cell)} {r : ARes} (ad : Advs) {ps : List Prop} (e : mgo cx23 Tryd.f23 nb 1000000 [.code body23] (fr0 Tryd.f23 a b) ad = some (.fin r b2, ps)) (hp : AllP ps) : Ev Tryd.prog noHand 23 a b r b2 := ev_of_fin (fn := Tryd.f23) (body := body23) (by kernel_rfl) (by kernel_rfl) (by kernel_rfl) rfl (mgo_fin hmix e hp)
noncomputable def body24 : Code := (Tryd.f24.body).getD .skip
noncomputable def cx24 : Cx := ⟨Tryd.prog, noHand, [2], [], [], []⟩
theorem c24 (nb : Nat) {a : List AV} {b b2 : List (List Cell)} {r : ARes} (ad : Advs) {ps : List Prop} (e : mgo cx24 Tryd.f24 nb 1000000 [.code body24] (fr0 Tryd.f24 a b) ad = some (.fin r b2, ps)) (hp : AllP ps) : Ev Tryd.prog noHand 24 a b r b2 := ev_of_fin (fn := Tryd.f24) (body := body24) (by kernel_rfl) (by kernel_rfl) (by kernel_rfl) rfl (mgo_fin hmix e hp)
noncomputable def body25 : Code := (Tryd.f25.body).getD .skip
noncomputable def cx25 : Cx := ⟨Tryd.prog, noHand, [3, 4, 5, 6, 7, 8, 9], [], [], []⟩
theorem c25 (nb : Nat) {a : List AV} {b b2 : List (List Cell)} {r : ARes} (ad : Advs) {ps : List Prop} (e : mgo cx25 Tryd.f25 nb 1000000 [.code body25] (fr0 Tryd.f25 a b) ad = some (.fin r b2, ps)) (hp : AllP ps) : Ev Tryd.prog noHand 25 a b r b2 := ev_of_fin (fn := Tryd.f25) (body := body25) (by kernel_rfl) (by kernel_rfl) (by kernel_rfl) rfl (mgo_fin hmix e hp)
noncomputable def body26 : Code := (Tryd.f26.body).getD .skip
noncomputable def cx26 : Cx := ⟨Tryd.prog, noHand, [3, 4, 5], [], [], []⟩
theorem c26 (nb : Nat) {a : List AV} {b b2 : List (List Cell)} {r : ARes} (ad : Advs) {ps : List Prop} (e : mgo cx26 Tryd.f26 nb 1000000 [.code body26] (fr0 Tryd.f26 a b) ad = some (.fin r b2, ps)) (hp : AllP ps) : Ev Tryd.prog noHand 26 a b r b2 := ev_of_fin (fn := Tryd.f26) (body := body26) (by kernel_rfl) (by kernel_rfl) (by kernel_rfl) rfl (mgo_fin hmix e hp)
noncomputable def body27 : Code := (Tryd.f27.body).getD .skip
noncomputable def cx27 : Cx := ⟨Tryd.prog, noHand, [3, 4, 5, 17, 21], [], [], []⟩
theorem c27 (nb : Nat) {a : List AV} {b b2 : List (List Cell)} {r : ARes} (ad : Advs) {ps : List Prop} (e : mgo cx27 Tryd.f27 nb 1000000 [.code body27] (fr0 Tryd.f27 a b) ad = some (.fin r b2, ps)) (hp : AllP ps) : Ev Tryd.prog noHand 27 a b r b2 := ev_of_fin (fn := Tryd.f27) (body := body27) (by kernel_rfl) (by kernel_rfl) (by kernel_rfl) rfl (mgo_fin hmix e hp)
noncomputable def body28 : Code := (Tryd.f28.body).getD .skip
noncomputable def cx28 : Cx := ⟨Tryd.prog, noHand, [2], [], [], []⟩
theorem c28 (nb : Nat) {a : List AV} {b b2 : List (List Cell)} {r : ARes} (ad : Advs) {ps : List Prop} (e : mgo cx28 Tryd.f28 nb 1000000 [.code body28] (fr0 Tryd.f28 a b) ad = some (.fin r b2, ps)) (hp : AllP ps) : Ev Tryd.prog noHand 28 a b r b2 := ev_of_fin (fn := Tryd.f28) (body := body28) (by kernel_rfl) (by kernel_rfl) (by kernel_rfl) rfl (mgo_fin hmix e hp)
noncomputable def body29 : Code := (Tryd.f29.body).getD .skip
noncomputable def cx29 : Cx := ⟨Tryd.prog, noHand, [6, 7], [], [], []⟩
theorem c29 (nb : Nat) {a : List AV} {b b2 : List (List Cell)} {r : ARes} (ad : Advs) {ps : List Prop} (e : mgo cx29 Tryd.f29 nb 1000000 [.code body29] (fr0 Tryd.f29 a b) ad = some (.fin r b2, ps)) (hp : AllP ps) : Ev Tryd.prog noHand 29 a b r b2 := ev_of_fin (fn := Tryd.f29) (body := body29) (by kernel_rfl) (by kernel_rfl) (by kernel_rfl) rfl (mgo_fin hmix e hp)
noncomputable def body30 : Code := (Tryd.f30.body).getD .skip
noncomputable def cx30 : Cx := ⟨Tryd.prog, noHand, [2, 4], [], [], []⟩
theorem c30 (nb : Nat) {a : List AV} {b b2 : List (List Cell)} {r : ARes} (ad : Advs) {ps : List Prop} (e : mgo cx30 Tryd.f30 nb 1000000 [.code body30] (fr0 Tryd.f30 a b) ad = some (.fin r b2, ps)) (hp : AllP ps) : Ev Tryd.prog noHand 30 a b r b2 := ev_of_fin (fn := Tryd.f30) (body := body30) (by kernel_rfl) (by kernel_rfl) (by kernel_rfl) rfl (mgo_fin hmix e hp)
noncomputable def body31 : Code := (Tryd.f31.body).getD .skip
noncomputable def cx31 : Cx := ⟨Tryd.prog, noHand, [2, 3], [], [], []⟩
theorem c31 (nb : Nat) {a : List AV} {b b2 : List (List Cell)} {r : ARes} (ad : Advs) {ps : List Prop} (e : mgo cx31 Tryd.f31 nb 1000000 [.code body31] (fr0 Tryd.f31 a b) ad = some (.fin r b2, ps)) (hp : AllP ps) : Ev Tryd.prog noHand 31 a b r b2 := ev_of_fin (fn := Tryd.f31) (body := body31) (by kernel_rfl) (by kernel_rfl) (by kernel_rfl) rfl (mgo_fin hmix e hp)
noncomputable def body32 : Code := (Tryd.f32.body).getD .skip
noncomputable def cx32 : Cx := ⟨Tryd.prog, noHand, [2], [], [], []⟩
theorem c32 (nb : Nat) {a : List AV} {b b2 : List (List Cell)} {r : ARes} (ad : Advs) {ps : List Prop} (e : mgo cx32 Tryd.f32 nb 1000000 [.code body32] (fr0 Tryd.f32 a b) ad = some (.fin r b2, ps)) (hp : AllP ps) : Ev Tryd.prog noHand 32 a b r b2 := ev_of_fin (fn := Tryd.f32) (body := body32) (by kernel_rfl) (by kernel_rfl) (by kernel_rfl) rfl (mgo_fin hmix e hp)
noncomputable def body33 : Code := (Tryd.f33.body).getD .skip
noncomputable def cx33 : Cx := ⟨Tryd.prog, noHand, [5, 6, 7, 8, 9, 10, 11, 13], [], [], []⟩
theorem c33 (nb : Nat) {a : List AV} {b b2 : List (List Cell)} {r : ARes} (ad : Advs) {ps : List Prop} (e : mgo cx33 Tryd.f33 nb 1000000 [.code body33] (fr0 Tryd.f33 a b) ad = some (.fin r b2, ps)) (hp : AllP ps) : Ev Tryd.prog noHand 33 a b r b2 := ev_of_fin (fn := Tryd.f33) (body := body33) (by kernel_rfl) (by kernel_rfl) (by kernel_rfl) rfl (mgo_fin hmix e hp)
noncomputable def body34 : Code := (Tryd.f34.body).getD .skip
noncomputable def cx34 : Cx := ⟨Tryd.prog, noHand, [4, 6, 7, 8, 9], [], [], []⟩
theorem c34 (nb : Nat) {a : List AV} {b b2 : List (List Cell)} {r : ARes} (ad : Advs) {ps : List Prop} (e : mgo cx34 Tryd.f34 nb 1000000 [.code body34] (fr0 Tryd.f34 a b) ad = some (.fin r b2, ps)) (hp : AllP ps) : Ev Tryd.prog noHand 34 a b r b2 := ev_of_fin (fn := Tryd.f34) (body := body34) (by kernel_rfl) (by kernel_rfl) (by kernel_rfl) rfl (mgo_fin hmix e hp)
noncomputable def body35 : Code := (Tryd.f35.body).getD .skip
noncomputable def cx35 : Cx := ⟨Tryd.prog, noHand, [4, 5], [], [], []⟩
theorem c35 (nb : Nat) {a : List AV} {b b2 : List (List Cell)} {r : ARes} (ad : Advs) {ps : List Prop} (e : mgo cx35 Tryd.f35 nb 1000000 [.code body35] (fr0 Tryd.f35 a b) ad = some (.fin r b2, ps)) (hp : AllP ps) : Ev Tryd.prog noHand 35 a b r b2 := ev_of_fin (fn := Tryd.f35) (body := body35) (by kernel_rfl) (by kernel_rfl) (by kernel_rfl) rfl (mgo_fin hmix e hp)
noncomputable def body36 : Code := (Tryd.f36.body).getD .skip
noncomputable def cx36 : Cx := ⟨Tryd.prog, noHand, [2, 4], [], [], []⟩
theorem c36 (nb : Nat) {a : List AV} {b b2 : List (List Cell)} {r : ARes} (ad : Advs) {ps : List Prop} (e : mgo cx36 Tryd.f36 nb 1000000 [.code body36] (fr0 Tryd.f36 a b) ad = some (.fin r b2, ps)) (hp : AllP ps) : Ev Tryd.prog noHand 36 a b r b2 := ev_of_fin (fn := Tryd.f36) (body := body36) (by kernel_rfl) (by kernel_rfl) (by kernel_rfl) rfl (mgo_fin hmix e hp)
noncomputable def body37 : Code := (Tryd.f37.body).getD .skip
noncomputable def cx37 : Cx := ⟨Tryd.prog, noHand, [2, 3, 4, 5], [], [], []⟩
theorem c37 (nb : Nat) {a : List AV} {b b2 : List (List Cell)} {r : ARes} (ad : Advs) {ps : List Prop} (e : mgo cx37 Tryd.f37 nb 1000000 [.code body37] (fr0 Tryd.f37 a b) ad = some (.fin r b2, ps)) (hp : AllP ps) : Ev Tryd.prog noHand 37 a b r b2 := ev_of_fin (fn := Tryd.f37) (body := body37) (by kernel_rfl) (by kernel_rfl) (by kernel_rfl) rfl (mgo_fin hmix e hp)
noncomputable def body38 : Code := (Tryd.f38.body).getD .skip
noncomputable def cx38 : Cx := ⟨Tryd.prog, noHand, [4, 5], [], [], []⟩
theorem c38 (nb : Nat) {a : List AV} {b b2 : List (List Cell)} {r : ARes} (ad : Advs) {ps : List Prop} (e : mgo cx38 Tryd.f38 nb 1000000 [.code body38] (fr0 Tryd.f38 a b) ad = some (.fin r b2, ps)) (hp : AllP ps) : Ev Tryd.prog noHand 38 a b r b2 := ev_of_fin (fn := Tryd.f38) (body := body38) (by kernel_rfl) (by kernel_rfl) (by kernel_rfl) rfl (mgo_fin hmix e hp)
noncomputable def body39 : Code := (Tryd.f39.body).getD .skip
noncomputable def cx39 : Cx := ⟨Tryd.prog, noHand, [6, 7, 8], [], [], []⟩
theorem c39 (nb : Nat) {a : List AV} {b b2 : List (List Cell)} {r : ARes} (ad : Advs) {ps : List Prop} (e : mgo cx39 Tryd.f39 nb 1000000 [.code body39] (fr0 Tryd.f39 a b) ad = some (.fin r b2, ps)) (hp : AllP ps) : Ev Tryd.prog noHand 39 a b r b2 := ev_of_fin (fn := Tryd.f39) (body := body39) (by kernel_rfl) (by kernel_rfl) (by kernel_rfl) rfl (mgo_fin hmix e hp)
noncomputable def body40 : Code := (Tryd.f40.body).getD .skip
noncomputable def cx40 : Cx := ⟨Tryd.prog, noHand, [0], [], [], []⟩
theorem c40 (nb : Nat) {a : List AV} {b b2 : List (List Cell)} {r : ARes} (ad : Advs) {ps : List Prop} (e : mgo cx40 Tryd.f40 nb 1000000 [.code body40] (fr0 Tryd.f40 a b) ad = some (.fin r b2, ps)) (hp : AllP ps) : Ev Tryd.prog noHand 40 a b r b2 := ev_of_fin (fn := Tryd.f40) (body := body40) (by kernel_rfl) (by kernel_rfl) (by kernel_rfl) rfl (mgo_fin hmix e hp)
noncomputable def body41 : Code := (Tryd.f41.body).getD .skip
noncomputable def cx41 : Cx := ⟨Tryd.prog, noHand, [2, 3, 4, 5, 6, 7], [], [], []⟩
theorem c41 (nb : Nat) {a : List AV} {b b2 : List (List Cell)} {r : ARes} (ad : Advs) {ps : List Prop} (e : mgo cx41 Tryd.f41 nb 1000000 [.code body41] (fr0 Tryd.f41 a b) ad = some (.fin r b2, ps)) (hp : AllP ps) : Ev Tryd.prog noHand 41 a b r b2 := ev_of_fin (fn := Tryd.f41) (body := body41) (by kernel_rfl) (by kernel_rfl) (by kernel_rfl) rfl (mgo_fin hmix e hp)
noncomputable def body42 : Code := (Tryd.f42.body).getD .skip
noncomputable def cx42 : Cx := ⟨Tryd.prog, noHand, [2], [], [], []⟩
theorem c42 (nb : Nat) {a : List AV} {b b2 : List (List Cell)} {r : ARes} (ad : Advs) {ps : List Prop} (e : mgo cx42 Tryd.f42 nb 1000000 [.code body42] (fr0 Tryd.f42 a b) ad = some (.fin r b2, ps)) (hp : AllP ps) : Ev Tryd.prog noHand 42 a b r b2 := ev_of_fin (fn := Tryd.f42) (body := body42) (by kernel_rfl) (by kernel_rfl) (by kernel_rfl) rfl (mgo_fin hmix e hp)
noncomputable def body43 : Code := (Tryd.f43.body).getD .skip
noncomputable def cx43 : Cx := ⟨Tryd.prog, noHand, [2, 3], [], [], []⟩
theorem c43 (nb : Nat) {a : List AV} {b b2 : List (List Cell)} {r : ARes} (ad : Advs) {ps : List Prop} (e : mgo cx43 Tryd.f43 nb 1000000 [.code body43] (fr0 Tryd.f43 a b) ad = some (.fin r b2, ps)) (hp : AllP ps) : Ev Tryd.prog noHand 43 a b r b2 := ev_of_fin (fn := Tryd.f43) (body := body43) (by kernel_rfl) (by kernel_rfl) (by kernel_rfl) rfl (mgo_fin hmix e hp)
noncomputable def body44 : Code := (Tryd.f44.body).getD .skip
noncomputable def cx44 : Cx := ⟨Tryd.prog, noHand, [1, 4, 5, 6, 7, 8, 9, 10, 11, 12, 13, 14, 15, 16], [], [], []⟩
theorem c44 (nb : Nat) {a : List AV} {b b2 : List (List Cell)} {r : ARes} (ad : Advs) {ps : List Prop} (e : mgo cx44 Tryd.f44 nb 1000000 [.code body44] (fr0 Tryd.f44 a b) ad = some (.fin r b2, ps)) (hp : AllP ps) : Ev Tryd.prog noHand 44 a b r b2 := ev_of_fin (fn := Tryd.f44) (body := body44) (by kernel_rfl) (by kernel_rfl) (by kernel_rfl) rfl (mgo_fin hmix e hp)
noncomputable def body45 : Code := (Tryd.f45.body).getD .skip
noncomputable def cx45 : Cx := ⟨Tryd.prog, noHand, [1, 10, 11, 13, 14, 15, 16, 17, 18], [], [], []⟩
theorem c45 (nb : Nat) {a : List AV} {b b2 : List (List Cell)} {r : ARes} (ad : Advs) {ps : List Prop} (e : mgo cx45 Tryd.f45 nb 1000000 [.code body45] (fr0 Tryd.f45 a b) ad = some (.fin r b2, ps)) (hp : AllP ps) : Ev Tryd.prog noHand 45 a b r b2 := ev_of_fin (fn := Tryd.f45) (body := body45) (by kernel_rfl) (by kernel_rfl) (by kernel_rfl) rfl (mgo_fin hmix e hp)
noncomputable def body46 : Code := (Tryd.f46.body).getD .skip
noncomputable def cx46 : Cx := ⟨Tryd.prog, noHand, [2, 3, 10, 17, 24], [], [], []⟩
theorem c46 (nb : Nat) {a : List AV} {b b2 : List (List Cell)} {r : ARes} (ad : Advs) {ps : List Prop} (e : mgo cx46 Tryd.f46 nb 1000000 [.code body46] (fr0 Tryd.f46 a b) ad = some (.fin r b2, ps)) (hp : AllP ps) : Ev Tryd.prog noHand 46 a b r b2 := ev_of_fin (fn := Tryd.f46) (body := body46) (by kernel_rfl) (by kernel_rfl) (by kernel_rfl) rfl (mgo_fin hmix e hp)
noncomputable def body47 : Code := (Tryd.f47.body).getD .skip
noncomputable def cx47 : Cx := ⟨Tryd.prog, noHand, [0, 2, 6, 7, 8, 9, 10, 11, 17, 21], [], [], []⟩
theorem c47 (nb : Nat) {a : List AV} {b b2 : List (List Cell)} {r : ARes} (ad : Advs) {ps : List Prop} (e : mgo cx47 Tryd.f47 nb 1000000 [.code body47] (fr0 Tryd.f47 a b) ad = some (.fin r b2, ps)) (hp : AllP ps) : Ev Tryd.prog noHand 47 a b r b2 := ev_of_fin (fn := Tryd.f47) (body := body47) (by kernel_rfl) (by kernel_rfl) (by kernel_rfl) rfl (mgo_fin hmix e hp)
noncomputable def body48 : Code := (Tryd.f48.body).getD .skip
noncomputable def cx48 : Cx := ⟨Tryd.prog, noHand, [10, 12, 19, 26, 34], [], [], []⟩
theorem c48 (nb : Nat) {a : List AV} {b b2 : List (List Cell)} {r : ARes} (ad : Advs) {ps : List Prop} (e : mgo cx48 Tryd.f48 nb 1000000 [.code body48] (fr0 Tryd.f48 a b) ad = some (.fin r b2, ps)) (hp : AllP ps) : Ev Tryd.prog noHand 48 a b r b2 := ev_of_fin (fn := Tryd.f48) (body := body48) (by kernel_rfl) (by kernel_rfl) (by kernel_rfl) rfl (mgo_fin hmix e hp)
noncomputable def body49 : Code := (Tryd.f49.body).getD .skip
noncomputable def cx49 : Cx := ⟨Tryd.prog, noHand, [2], [], [], []⟩
theorem c49 (nb : Nat) {a : List AV} {b b2 : List (List Cell)} {r : ARes} (ad : Advs) {ps : List Prop} (e : mgo cx49 Tryd.f49 nb 1000000 [.code body49] (fr0 Tryd.f49 a b) ad = some (.fin r b2, ps)) (hp : AllP ps) : Ev Tryd.prog noHand 49 a b r b2 := ev_of_fin (fn := Tryd.f49) (body := body49) (by kernel_rfl) (by kernel_rfl) (by kernel_rfl) rfl (mgo_fin hmix e hp)
noncomputable def body50 : Code := (Tryd.f50.body).getD .skip
noncomputable def cx50 : Cx := ⟨Tryd.prog, noHand, [0, 2], [], [], []⟩
theorem c50 (nb : Nat) {a : List AV} {b b2 : List (List Cell)} {r : ARes} (ad : Advs) {ps : List Prop} (e : mgo cx50 Tryd.f50 nb 1000000 [.code body50] (fr0 Tryd.f50 a b) ad = some (.fin r b2, ps)) (hp : AllP ps) : Ev Tryd.prog noHand 50 a b r b2 := ev_of_fin (fn := Tryd.f50) (body := body50) (by kernel_rfl) (by kernel_rfl) (by kernel_rfl) rfl (mgo_fin hmix e hp)
noncomputable def body51 : Code := (Tryd.f51.body).getD .skip
noncomputable def cx51 : Cx := ⟨Tryd.prog, noHand, [2], [], [], []⟩
theorem c51 (nb : Nat) {a : List AV} {b b2 : List (List Cell)} {r : ARes} (ad : Advs) {ps : List Prop} (e : mgo cx51 Tryd.f51 nb 1000000 [.code body51] (fr0 Tryd.f51 a b) ad = some (.fin r b2, ps)) (hp : AllP ps) : Ev Tryd.prog noHand 51 a b r b2 := ev_of_fin (fn := Tryd.f51) (body := body51) (by kernel_rfl) (by kernel_rfl) (by kernel_rfl) rfl (mgo_fin hmix e hp)
noncomputable def body52 : Code := (Tryd.f52.body).getD .skip
noncomputable def cx52 : Cx := ⟨Tryd.prog, noHand, [2], [], [], []⟩
theorem c52 (nb : Nat) {a : List AV} {b b2 : List (List Cell)} {r : ARes} (ad : Advs) {ps : List Prop} (e : mgo cx52 Tryd.f52 nb 1000000 [.code body52] (fr0 Tryd.f52 a b) ad = some (.fin r b2, ps)) (hp : AllP ps) : Ev Tryd.prog noHand 52 a b r b2 := ev_of_fin (fn := Tryd.f52) (body := body52) (by kernel_rfl) (by kernel_rfl) (by kernel_rfl) rfl (mgo_fin hmix e hp)
noncomputable def body53 : Code := (Tryd.f53.body).getD .skip
noncomputable def cx53 : Cx := ⟨Tryd.prog, noHand, [2], [], [], []⟩
theorem c53 (nb : Nat) {a : List AV} {b b2 : List (List Cell)} {r : ARes} (ad : Advs) {ps : List Prop} (e : mgo cx53 Tryd.f53 nb 1000000 [.code body53] (fr0 Tryd.f53 a b) ad = some (.fin r b2, ps)) (hp : AllP ps) : Ev Tryd.prog noHand 53 a b r b2 := ev_of_fin (fn := Tryd.f53) (body := body53) (by kernel_rfl) (by kernel_rfl) (by kernel_rfl) rfl (mgo_fin hmix e hp)
noncomputable def body54 : Code := (Tryd.f54.body).getD .skip
noncomputable def cx54 : Cx := ⟨Tryd.prog, noHand, [0, 1, 2, 6, 7, 8, 9, 10, 11, 12, 13, 15, 16, 17, 25, 32, 40, 52, 64, 90, 92, 106, 112, 121], [], [], []⟩
theorem c54 (nb : Nat) {a : List AV} {b b2 : List (List Cell)} {r : ARes} (ad : Advs) {ps : List Prop} (e : mgo cx54 Tryd.f54 nb 1000000 [.code body54] (fr0 Tryd.f54 a b) ad = some (.fin r b2, ps)) (hp : AllP ps) : Ev Tryd.prog noHand 54 a b r b2 := ev_of_fin (fn := Tryd.f54) (body := body54) (by kernel_rfl) (by kernel_rfl) (by kernel_rfl) rfl (mgo_fin hmix e hp)
noncomputable def body55 : Code := (Tryd.f55.body).getD .skip
noncomputable def cx55 : Cx := ⟨Tryd.prog, noHand, [4], [], [], []⟩
theorem c55 (nb : Nat) {a : List AV} {b b2 : List (List Cell)} {r : ARes} (ad : Advs) {ps : List Prop} (e : mgo cx55 Tryd.f55 nb 1000000 [.code body55] (fr0 Tryd.f55 a b) ad = some (.fin r b2, ps)) (hp : AllP ps) : Ev Tryd.prog noHand 55 a b r b2 := ev_of_fin (fn := Tryd.f55) (body := body55) (by kernel_rfl) (by kernel_rfl) (by kernel_rfl) rfl (mgo_fin hmix e hp)
noncomputable def body56 : Code := (Tryd.f56.body).getD .skip
noncomputable def cx56 : Cx := ⟨Tryd.prog, noHand, [4], [], [], []⟩
theorem c56 (nb : Nat) {a : List AV} {b b2 : List (List Cell)} {r : ARes} (ad : Advs) {ps : List Prop} (e : mgo cx56 Tryd.f56 nb 1000000 [.code body56] (fr0 Tryd.f56 a b) ad = some (.fin r b2, ps)) (hp : AllP ps) : Ev Tryd.prog noHand 56 a b r b2 := ev_of_fin (fn := Tryd.f56) (body := body56) (by kernel_rfl) (by kernel_rfl) (by kernel_rfl) rfl (mgo_fin hmix e hp)
noncomputable def body57 : Code := (Tryd.f57.body).getD .skip
noncomputable def cx57 : Cx := ⟨Tryd.prog, noHand, [6], [], [], []⟩
theorem c57 (nb : Nat) {a : List AV} {b b2 : List (List Cell)} {r : ARes} (ad : Advs) {ps : List Prop} (e : mgo cx57 Tryd.f57 nb 1000000 [.code body57] (fr0 Tryd.f57 a b) ad = some (.fin r b2, ps)) (hp : AllP ps) : Ev Tryd.prog noHand 57 a b r b2 := ev_of_fin (fn := Tryd.f57) (body := body57) (by kernel_rfl) (by kernel_rfl) (by kernel_rfl) rfl (mgo_fin hmix e hp)
noncomputable def body58 : Code := (Tryd.f58.body).getD .skip
noncomputable def cx58 : Cx := ⟨Tryd.prog, noHand, [6], [], [], []⟩
theorem c58 (nb : Nat) {a : List AV} {b b2 : List (List Cell)} {r : ARes} (ad : Advs) {ps : List Prop} (e : mgo cx58 Tryd.f58 nb 1000000 [.code body58] (fr0 Tryd.f58 a b) ad = some (.fin r b2, ps)) (hp : AllP ps) : Ev Tryd.prog noHand 58 a b r b2 := ev_of_fin (fn := Tryd.f58) (body := body58) (by kernel_rfl) (by kernel_rfl) (by kernel_rfl) rfl (mgo_fin hmix e hp)
noncomputable def body59 : Code := (Tryd.f59.body).getD .skip
noncomputable def cx59 : Cx := ⟨Tryd.prog, noHand, [2], [], [], []⟩
theorem c59 (nb : Nat) {a : List AV} {b b2 : List (List Cell)} {r : ARes} (ad : Advs) {ps : List Prop} (e : mgo cx59 Tryd.f59 nb 1000000 [.code body59] (fr0 Tryd.f59 a b) ad = some (.fin r b2, ps)) (hp : AllP ps) : Ev Tryd.prog noHand 59 a b r b2 := ev_of_fin (fn := Tryd.f59) (body := body59) (by kernel_rfl) (by kernel_rfl) (by kernel_rfl) rfl (mgo_fin hmix e hp)
noncomputable def body60 : Code := (Tryd.f60.body).getD .skip
noncomputable def cx60 : Cx := ⟨Tryd.prog, noHand, [2], [], [], []⟩
theorem c60 (nb : Nat) {a : List AV} {b b2 : List (List Cell)} {r : ARes} (ad : Advs) {ps : List Prop} (e : mgo cx60 Tryd.f60 nb 1000000 [.code body60] (fr0 Tryd.f60 a b) ad = some (.fin r b2, ps)) (hp : AllP ps) : Ev Tryd.prog noHand 60 a b r b2 := ev_of_fin (fn := Tryd.f60) (body := body60) (by kernel_rfl) (by kernel_rfl) (by kernel_rfl) rfl (mgo_fin hmix e hp)
noncomputable def body61 : Code := (Tryd.f61.body).getD .skip
noncomputable def cx61 : Cx := ⟨Tryd.prog, noHand, [2], [], [], []⟩
theorem c61 (nb : Nat) {a : List AV} {b b2 : List (List Cell)} {r : ARes} (ad : Advs) {ps : List Prop} (e : mgo cx61 Tryd.f61 nb 1000000 [.code body61] (fr0 Tryd.f61 a b) ad = some (.fin r b2, ps)) (hp : AllP ps) : Ev Tryd.prog noHand 61 a b r b2 := ev_of_fin (fn := Tryd.f61) (body := body61) (by kernel_rfl) (by kernel_rfl) (by kernel_rfl) rfl (mgo_fin hmix e hp)
noncomputable def body62 : Code := (Tryd.f62.body).getD .skip
noncomputable def cx62 : Cx := ⟨Tryd.prog, noHand, [0, 2, 3, 4, 5], [], [], []⟩
theorem c62 (nb : Nat) {a : List AV} {b b2 : List (List Cell)} {r : ARes} (ad : Advs) {ps : List Prop} (e : mgo cx62 Tryd.f62 nb 1000000 [.code body62] (fr0 Tryd.f62 a b) ad = some (.fin r b2, ps)) (hp : AllP ps) : Ev Tryd.prog noHand 62 a b r b2 := ev_of_fin (fn := Tryd.f62) (body := body62) (by kernel_rfl) (by kernel_rfl) (by kernel_rfl) rfl (mgo_fin hmix e hp)
noncomputable def body63 : Code := (Tryd.f63.body).getD .skip
noncomputable def cx63 : Cx := ⟨Tryd.prog, noHand, [2, 3], [], [], []⟩
theorem c63 (nb : Nat) {a : List AV} {b b2 : List (List Cell)} {r : ARes} (ad : Advs) {ps : List Prop} (e : mgo cx63 Tryd.f63 nb 1000000 [.code body63] (fr0 Tryd.f63 a b) ad = some (.fin r b2, ps)) (hp : AllP ps) : Ev Tryd.prog noHand 63 a b r b2 := ev_of_fin (fn := Tryd.f63) (body := body63) (by kernel_rfl) (by kernel_rfl) (by kernel_rfl) rfl (mgo_fin hmix e hp)
noncomputable def body64 : Code := (Tryd.f64.body).getD .skip
noncomputable def cx64 : Cx := ⟨Tryd.prog, noHand, [2], [], [], []⟩
theorem c64 (nb : Nat) {a : List AV} {b b2 : List (List Cell)} {r : ARes} (ad : Advs) {ps : List Prop} (e : mgo cx64 Tryd.f64 nb 1000000 [.code body64] (fr0 Tryd.f64 a b) ad = some (.fin r b2, ps)) (hp : AllP ps) : Ev Tryd.prog noHand 64 a b r b2 := ev_of_fin (fn := Tryd.f64) (body := body64) (by kernel_rfl) (by kernel_rfl) (by kernel_rfl) rfl (mgo_fin hmix e hp)
noncomputable def body65 : Code := (Tryd.f65.body).getD .skip
noncomputable def cx65 : Cx := ⟨Tryd.prog, noHand, [2], [], [], []⟩
theorem c65 (nb : Nat) {a : List AV} {b b2 : List (List Cell)} {r : ARes} (ad : Advs) {ps : List Prop} (e : mgo cx65 Tryd.f65 nb 1000000 [.code body65] (fr0 Tryd.f65 a b) ad = some (.fin r b2, ps)) (hp : AllP ps) : Ev Tryd.prog noHand 65 a b r b2 := ev_of_fin (fn := Tryd.f65) (body := body65) (by kernel_rfl) (by kernel_rfl) (by kernel_rfl) rfl (mgo_fin hmix e hp)
noncomputable def body66 : Code := (Tryd.f66.body).getD .skip
noncomputable def cx66 : Cx := ⟨Tryd.prog, noHand, [2], [], [], []⟩
theorem c66 (nb : Nat) {a : List AV} {b b2 : List (List Cell)} {r : ARes} (ad : Advs) {ps : List Prop} (e : mgo cx66 Tryd.f66 nb 1000000 [.code body66] (fr0 Tryd.f66 a b) ad = some (.fin r b2, ps)) (hp : AllP ps) : Ev Tryd.prog noHand 66 a b r b2 := ev_of_fin (fn := Tryd.f66) (body := body66) (by kernel_rfl) (by kernel_rfl) (by kernel_rfl) rfl (mgo_fin hmix e hp)
end Ab
end Go.Proofs.YtniibdfnijeaeaaDoor

/-
  Definitions alone: the bodies of the functions, and what stands about each.
-/
import Derived.Test.YtgghingfdcmelaaGreatLibD
import Derived.KernelRfl
set_option linter.unusedVariables false
set_option linter.unusedSimpArgs false
namespace Go.Proofs.YtgghingfdcmelaaGreat
namespace Ab
theorem hmix : Tryz.prog.follows .mixedOrders = true := by kernel_rfl
theorem okF (more : List (List Cell)) {a : Prop} (h : a) : a ∧ (false = true → more.isEmpty = false) := ⟨h, fun e => by cases e⟩
theorem okT {a q : Prop} (h : a) (hq : q) : a ∧ (true = true → q) := ⟨h, fun _ => hq⟩
noncomputable def body3 : Code := (Tryz.f3.body).getD .skip
noncomputable def cx3 : Cx := ⟨Tryz.prog, noHand, [2], [], [], []⟩
theorem c3 (nb : Nat) {a : List AV} {b b2 : List (List Cell)} {r : ARes} (ad : Advs) {ps : List Prop} (e : mgo cx3 Tryz.f3 nb 1000000 [.code body3] (fr0 Tryz.f3 a b) ad = some (.fin r b2, ps)) (hp : AllP ps) : Ev Tryz.prog noHand 3 a b r b2 := ev_of_fin (fn := Tryz.f3) (body := body3) (by kernel_rfl) (by kernel_rfl) (by kernel_rfl) rfl (mgo_fin hmix e hp)
noncomputable def body4 : Code := (Tryz.f4.body).getD .skip
noncomputable def cx4 : Cx := ⟨Tryz.prog, noHand, [2, 3, 4], [], [], []⟩
theorem c4 (nb : Nat) {a : List AV} {b b2 : List (List Cell)} {r : ARes} (ad : Advs) {ps : List Prop} (e : mgo cx4 Tryz.f4 nb 1000000 [.code body4] (fr0 Tryz.f4 a b) ad = some (.fin r b2, ps)) (hp : AllP ps) : Ev Tryz.prog noHand 4 a b r b2 := ev_of_fin (fn := Tryz.f4) (body := body4) (by kernel_rfl) (by kernel_rfl) (by kernel_rfl) rfl (mgo_fin hmix e hp)
noncomputable def body5 : Code := (Tryz.f5.body).getD .skip
noncomputable def cx5 : Cx := ⟨Tryz.prog, noHand, [0, 2, 4], [], [], []⟩
theorem c5 (nb : Nat) {a : List AV} {b b2 : List (List Cell)} {r : ARes} (ad : Advs) {ps : List Prop} (e : mgo cx5 Tryz.f5 nb 1000000 [.code body5] (fr0 Tryz.f5 a b) ad = some (.fin r b2, ps)) (hp : AllP ps) : Ev Tryz.prog noHand 5 a b r b2 := ev_of_fin (fn := Tryz.f5) (body := body5) (by kernel_rfl) (by kernel_rfl) (by kernel_rfl) rfl (mgo_fin hmix e hp)
noncomputable def body6 : Code := (Tryz.f6.body).getD .skip
noncomputable def cx6 : Cx := ⟨Tryz.prog, noHand, [], [], [], [58, 63]⟩
theorem c6 (nb : Nat) {a : List AV} {b b2 : List (List Cell)} {r : ARes} (ad : Advs) {ps : List Prop} (e : mgo cx6 Tryz.f6 nb 1000000 [.code body6] (fr0 Tryz.f6 a b) ad = some (.fin r b2, ps)) (hp : AllP ps) : Ev Tryz.prog noHand 6 a b r b2 := ev_of_fin (fn := Tryz.f6) (body := body6) (by kernel_rfl) (by kernel_rfl) (by kernel_rfl) rfl (mgo_fin hmix e hp)
noncomputable def body7 : Code := (Tryz.f7.body).getD .skip
noncomputable def cx7 : Cx := ⟨Tryz.prog, noHand, [4, 5, 6, 9], [], [], []⟩
theorem c7 (nb : Nat) {a : List AV} {b b2 : List (List Cell)} {r : ARes} (ad : Advs) {ps : List Prop} (e : mgo cx7 Tryz.f7 nb 1000000 [.code body7] (fr0 Tryz.f7 a b) ad = some (.fin r b2, ps)) (hp : AllP ps) : Ev Tryz.prog noHand 7 a b r b2 := ev_of_fin (fn := Tryz.f7) (body := body7) (by kernel_rfl) (by kernel_rfl) (by kernel_rfl) rfl (mgo_fin hmix e hp)
noncomputable def body8 : Code := (Tryz.f8.body).getD .skip
noncomputable def cx8 : Cx := ⟨Tryz.prog, noHand, [4, 5, 7, 8], [], [], []⟩
theorem c8 (nb : Nat) {a : List AV} {b b2 : List (List Cell)} {r : ARes} (ad : Advs) {ps : List Prop} (e : mgo cx8 Tryz.f8 nb 1000000 [.code body8] (fr0 Tryz.f8 a b) ad = some (.fin r b2, ps)) (hp : AllP ps) : Ev Tryz.prog noHand 8 a b r b2 := ev_of_fin (fn := Tryz.f8) (body := body8) (by kernel_rfl) (by kernel_rfl) (by kernel_rfl) rfl (mgo_fin hmix e hp)
noncomputable def body9 : Code := (Tryz.f9.body).getD .skip
noncomputable def cx9 : Cx := ⟨Tryz.prog, noHand, [5, 8, 9], [], [], [23, 55]⟩
theorem c9 (nb : Nat) {a : List AV} {b b2 : List (List Cell)} {r : ARes} (ad : Advs) {ps : List Prop} (e : mgo cx9 Tryz.f9 nb 1000000 [.code body9] (fr0 Tryz.f9 a b) ad = some (.fin r b2, ps)) (hp : AllP ps) : Ev Tryz.prog noHand 9 a b r b2 := ev_of_fin (fn := Tryz.f9) (body := body9) (by kernel_rfl) (by kernel_rfl) (by kernel_rfl) rfl (mgo_fin hmix e hp)
noncomputable def body10 : Code := (Tryz.f10.body).getD .skip
noncomputable def cx10 : Cx := ⟨Tryz.prog, noHand, [5, 7, 8, 10, 11], [], [], []⟩
theorem c10 (nb : Nat) {a : List AV} {b b2 : List (List Cell)} {r : ARes} (ad : Advs) {ps : List Prop} (e : mgo cx10 Tryz.f10 nb 1000000 [.code body10] (fr0 Tryz.f10 a b) ad = some (.fin r b2, ps)) (hp : AllP ps) : Ev Tryz.prog noHand 10 a b r b2 := ev_of_fin (fn := Tryz.f10) (body := body10) (by kernel_rfl) (by kernel_rfl) (by kernel_rfl) rfl (mgo_fin hmix e hp)
noncomputable def body11 : Code := (Tryz.f11.body).getD .skip
noncomputable def cx11 : Cx := ⟨Tryz.prog, noHand, [], [], [], []⟩
theorem c11 (nb : Nat) {a : List AV} {b b2 : List (List Cell)} {r : ARes} (ad : Advs) {ps : List Prop} (e : mgo cx11 Tryz.f11 nb 1000000 [.code body11] (fr0 Tryz.f11 a b) ad = some (.fin r b2, ps)) (hp : AllP ps) : Ev Tryz.prog noHand 11 a b r b2 := ev_of_fin (fn := Tryz.f11) (body := body11) (by kernel_rfl) (by kernel_rfl) (by kernel_rfl) rfl (mgo_fin hmix e hp)
noncomputable def body12 : Code := (Tryz.f12.body).getD .skip
noncomputable def cx12 : Cx := ⟨Tryz.prog, noHand, [3, 7, 8, 9], [], [], []⟩
theorem c12 (nb : Nat) {a : List AV} {b b2 : List (List Cell)} {r : ARes} (ad : Advs) {ps : List Prop} (e : mgo cx12 Tryz.f12 nb 1000000 [.code body12] (fr0 Tryz.f12 a b) ad = some (.fin r b2, ps)) (hp : AllP ps) : Ev Tryz.prog noHand 12 a b r b2 := ev_of_fin (fn := Tryz.f12) (body := body12) (by kernel_rfl) (by kernel_rfl) (by kernel_rfl) rfl (mgo_fin hmix e hp)
noncomputable def body13 : Code := (Tryz.f13.body).getD .skip
noncomputable def cx13 : Cx := ⟨Tryz.prog, noHand, [2, 3], [], [], []⟩
theorem c13 (nb : Nat) {a : List AV} {b b2 : List (List Cell)} {r : ARes} (ad : Advs) {ps : List Prop} (e : mgo cx13 Tryz.f13 nb 1000000 [.code body13] (fr0 Tryz.f13 a b) ad = some (.fin r b2, ps)) (hp : AllP ps) : Ev Tryz.prog noHand 13 a b r b2 := ev_of_fin (fn := Tryz.f13) (body := body13) (by kernel_rfl) (by kernel_rfl) (by kernel_rfl) rfl (mgo_fin hmix e hp)
noncomputable def body14 : Code := (Tryz.f14.body).getD .skip
noncomputable def cx14 : Cx := ⟨Tryz.prog, noHand, [2, 3], [], [], []⟩
theorem c14 (nb : Nat) {a : List AV} {b b2 : List (List Cell)} {r : ARes} (ad : Advs) {ps : List Prop} (e : mgo cx14 Tryz.f14 nb 1000000 [.code body14] (fr0 Tryz.f14 a b) ad = some (.fin r b2, ps)) (hp : AllP ps) : Ev Tryz.prog noHand 14 a b r b2 := ev_of_fin (fn := Tryz.f14) (body := body14) (by kernel_rfl) (by kernel_rfl) (by kernel_rfl) rfl (mgo_fin hmix e hp)
noncomputable def body15 : Code := (Tryz.f15.body).getD .skip
noncomputable def cx15 : Cx := ⟨Tryz.prog, noHand, [2, 3, 4], [], [], []⟩
theorem c15 (nb : Nat) {a : List AV} {b b2 : List (List Cell)} {r : ARes} (ad : Advs) {ps : List Prop} (e : mgo cx15 Tryz.f15 nb 1000000 [.code body15] (fr0 Tryz.f15 a b) ad = some (.fin r b2, ps)) (hp : AllP ps) : Ev Tryz.prog noHand 15 a b r b2 := ev_of_fin (fn := Tryz.f15) (body := body15) (by kernel_rfl) (by kernel_rfl) (by kernel_rfl) rfl (mgo_fin hmix e hp)
noncomputable def body16 : Code := (Tryz.f16.body).getD .skip
noncomputable def cx16 : Cx := ⟨Tryz.prog, noHand, [4], [], [], []⟩
theorem c16 (nb : Nat) {a : List AV} {b b2 : List (List Cell)} {r : ARes} (ad : Advs) {ps : List Prop} (e : mgo cx16 Tryz.f16 nb 1000000 [.code body16] (fr0 Tryz.f16 a b) ad = some (.fin r b2, ps)) (hp : AllP ps) : Ev Tryz.prog noHand 16 a b r b2 := ev_of_fin (fn := Tryz.f16) (body := body16) (by kernel_rfl) (by kernel_rfl) (by kernel_rfl) rfl (mgo_fin hmix e hp)
noncomputable def body17 : Code := (Tryz.f17.body).getD .skip
noncomputable def cx17 : Cx := ⟨Tryz.prog, noHand, [4, 5], [], [], []⟩
theorem c17 (nb : Nat) {a : List AV} {b b2 : List (List Cell)} {r : ARes} (ad : Advs) {ps : List Prop} (e : mgo cx17 Tryz.f17 nb 1000000 [.code body17] (fr0 Tryz.f17 a b) ad = some (.fin r b2, ps)) (hp : AllP ps) : Ev Tryz.prog noHand 17 a b r b2 := ev_of_fin (fn := Tryz.f17) (body := body17) (by kernel_rfl) (by kernel_rfl) (by kernel_rfl) rfl (mgo_fin hmix e hp)
noncomputable def body18 : Code := (Tryz.f18.body).getD .skip
noncomputable def cx18 : Cx := ⟨Tryz.prog, noHand, [4, 5], [], [], []⟩
theorem c18 (nb : Nat) {a : List AV} {b b2 : List (List Cell)} {r : ARes} (ad : Advs) {ps : List Prop} (e : mgo cx18 Tryz.f18 nb 1000000 [.code body18] (fr0 Tryz.f18 a b) ad = some (.fin r b2, ps)) (hp : AllP ps) : Ev Tryz.prog noHand 18 a b r b2 := ev_of_fin (fn := Tryz.f18) (body := body18) (by kernel_rfl) (by kernel_rfl) (by kernel_rfl) rfl (mgo_fin hmix e hp)
noncomputable def body19 : Code := (Tryz.f19.body).getD .skip
noncomputable def cx19 : Cx := ⟨Tryz.prog, noHand, [2, 3], [], [], []⟩
theorem c19 (nb : Nat) {a : List AV} {b b2 : List (List Cell)} {r : ARes} (ad : Advs) {ps : List Prop} (e : mgo cx19 Tryz.f19 nb 1000000 [.code body19] (fr0 Tryz.f19 a b) ad = some (.fin r b2, ps)) (hp : AllP ps) : Ev Tryz.prog noHand 19 a b r b2 := ev_of_fin (fn := Tryz.f19) (body := body19) (by kernel_rfl) (by kernel_rfl) (by kernel_rfl) rfl (mgo_fin hmix e hp)
noncomputable def body20 : Code := (Tryz.f20.body).getD .skip
noncomputable def cx20 : Cx := ⟨Tryz.prog, noHand, [2, 3], [], [], []⟩
theorem c20 (nb : Nat) {a : List AV} {b b2 : List (List Cell)} {r : ARes} (ad : Advs) {ps : List Prop} (e : mgo cx20 Tryz.f20 nb 1000000 [.code body20] (fr0 Tryz.f20 a b) ad = some (.fin r b2, ps)) (hp : AllP ps) : Ev Tryz.prog noHand 20 a b r b2 := ev_of_fin (fn := Tryz.f20) (body := body20) (by kernel_rfl) (by kernel_rfl) (by kernel_rfl) rfl (mgo_fin hmix e hp)
noncomputable def body21 : Code := (Tryz.f21.body).getD .skip
noncomputable def cx21 : Cx := ⟨Tryz.prog, noHand, [4, 5], [], [], []⟩
theorem c21 (nb : Nat) {a : List AV} {b b2 : List (List Cell)} {r : ARes} (ad : Advs) {ps : List Prop} (e : mgo cx21 Tryz.f21 nb 1000000 [.code body21] (fr0 Tryz.f21 a b) ad = some (.fin r b2, ps)) (hp : AllP ps) : Ev Tryz.prog noHand 21 a b r b2 := ev_of_fin (fn := Tryz.f21) (body := body21) (by kernel_rfl) (by kernel_rfl) (by kernel_rfl) rfl (mgo_fin hmix e hp)
noncomputable def body22 : Code := (Tryz.f22.body).getD .skip
noncomputable def cx22 : Cx := ⟨Tryz.prog, noHand, [3, 4, 5, 6, 7, 8], [], [], []⟩
theorem c22 (nb : Nat) {a : List AV} {b b2 : List (List Cell)} {r : ARes} (ad : Advs) {ps : List Prop} (e : mgo cx22 Tryz.f22 nb 1000000 [.code body22] (fr0 Tryz.f22 a b) ad = some (.fin r b2, ps)) (hp : AllP ps) : Ev Tryz.prog noHand 22 a b r b2 := ev_of_fin (fn := Tryz.f22) (body := body22) (by kernel_rfl) (by kernel_rfl) (by kernel_rfl) rfl (mgo_fin hmix e hp)
noncomputable def body23 : Code := (Tryz.f23.body).getD .skip
noncomputable def cx23 : Cx := ⟨Tryz.prog, noHand, [5, 6, 7, 8, 9, 10, 12, 13, 14], [], [], []⟩
theorem c23 (nb : Nat) {a : List AV} {b b2 : List (List Cell)} {r : ARes} (ad : Advs) {ps : List Prop} (e : mgo cx23 Tryz.f23 nb 1000000 [.code body23] (fr0 Tryz.f23 a b) ad = some (.fin r b2, ps)) (hp : AllP ps) : Ev Tryz.prog noHand 23 a b r b2 := ev_of_fin (fn := Tryz.f23) (body := body23) (by kernel_rfl) (by kernel_rfl) (by kernel_rfl) rfl (mgo_fin hmix e hp)
noncomputable def body24 : Code := (Tryz.f24.body).getD .skip
noncomputable def cx24 : Cx := ⟨Tryz.prog, noHand, [2, 3, 4], [], [], []⟩
theorem c24 (nb : Nat) {a : List AV} {b b2 : List (List Cell)} {r : ARes} (ad : Advs) {ps : List Prop} (e : mgo cx24 Tryz.f24 nb 1000000 [.code body24] (fr0 Tryz.f24 a b) ad = some (.fin r b2, ps)) (hp : AllP ps) : Ev Tryz.prog noHand 24 a b r b2 := ev_of_fin (fn := Tryz.f24) (body := body24) (by kernel_rfl) (by kernel_rfl) (by kernel_rfl) rfl (mgo_fin hmix e hp)
noncomputable def body25 : Code := (Tryz.f25.body).getD .skip
noncomputable def cx25 : Cx := ⟨Tryz.prog, noHand, [6, 7, 8], [], [], []⟩
theorem c25 (nb : Nat) {a : List AV} {b b2 : List (List Cell)} {r : ARes} (ad : Advs) {ps : List Prop} (e : mgo cx25 Tryz.f25 nb 1000000 [.code body25] (fr0 Tryz.f25 a b) ad = some (.fin r b2, ps)) (hp : AllP ps) : Ev Tryz.prog noHand 25 a b r b2 := ev_of_fin (fn := Tryz.f25) (body := body25) (by kernel_rfl) (by kernel_rfl) (by kernel_rfl) rfl (mgo_fin hmix e hp)
noncomputable def body26 : Code := (Tryz.f26.body).getD .skip
noncomputable def cx26 : Cx := ⟨Tryz.prog, noHand, [4], [], [], []⟩
theorem c26 (nb : Nat) {a : List AV} {b b2 : List (List Cell)} {r : ARes} (ad : Advs) {ps : List Prop} (e : mgo cx26 Tryz.f26 nb 1000000 [.code body26] (fr0 Tryz.f26 a b) ad = some (.fin r b2, ps)) (hp : AllP ps) : Ev Tryz.prog noHand 26 a b r b2 := ev_of_fin (fn := Tryz.f26) (body := body26) (by kernel_rfl) (by kernel_rfl) (by kernel_rfl) rfl (mgo_fin hmix e hp)
noncomputable def body27 : Code := (Tryz.f27.body).getD .skip
noncomputable def cx27 : Cx := ⟨Tryz.prog, noHand, [2, 3, 4, 5, 6, 8], [], [], []⟩
theorem c27 (nb : Nat) {a : List AV} {b b2 : List (List Cell)} {r : ARes} (ad : Advs) {ps : List Prop} (e : mgo cx27 Tryz.f27 nb 1000000 [.code body27] (fr0 Tryz.f27 a b) ad = some (.fin r b2, ps)) (hp : AllP ps) : Ev Tryz.prog noHand 27 a b r b2 := ev_of_fin (fn := Tryz.f27) (body := body27) (by kernel_rfl) (by kernel_rfl) (by kernel_rfl) rfl (mgo_fin hmix e hp)
noncomputable def body28 : Code := (Tryz.f28.body).getD .skip
noncomputable def cx28 : Cx := ⟨Tryz.prog, noHand, [], [], [], []⟩
theorem c28 (nb : Nat) {a : List AV} {b b2 : List (List Cell)} {r : ARes} (ad : Advs) {ps : List Prop} (e : mgo cx28 Tryz.f28 nb 1000000 [.code body28] (fr0 Tryz.f28 a b) ad = some (.fin r b2, ps)) (hp : AllP ps) : Ev Tryz.prog noHand 28 a b r b2 := ev_of_fin (fn := Tryz.f28) (body := body28) (by kernel_rfl) (by kernel_rfl) (by kernel_rfl) rfl (mgo_fin hmix e hp)
noncomputable def body29 : Code := (Tryz.f29.body).getD .skip
noncomputable def cx29 : Cx := ⟨Tryz.prog, noHand, [2], [], [], []⟩
theorem c29 (nb : Nat) {a : List AV} {b b2 : List (List Cell)} {r : ARes} (ad : Advs) {ps : List Prop} (e : mgo cx29 Tryz.f29 nb 1000000 [.code body29] (fr0 Tryz.f29 a b) ad = some (.fin r b2, ps)) (hp : AllP ps) : Ev Tryz.prog noHand 29 a b r b2 := ev_of_fin (fn := Tryz.f29) (body := body29) (by kernel_rfl) (by kernel_rfl) (by kernel_rfl) rfl (mgo_fin hmix e hp)
noncomputable def body30 : Code := (Tryz.f30.body).getD .skip
noncomputable def cx30 : Cx := ⟨Tryz.prog, noHand, [4], [], [], []⟩
theorem c30 (nb : Nat) {a : List AV} {b b2 : List (List Cell)} {r : ARes} (ad : Advs) {ps : List Prop} (e : mgo cx30 Tryz.f30 nb 1000000 [.code body30] (fr0 Tryz.f30 a b) ad = some (.fin r b2, ps)) (hp : AllP ps) : Ev Tryz.prog noHand 30 a b r b2 := ev_of_fin (fn := Tryz.f30) (body := body30) (by kernel_rfl) (by kernel_rfl) (by kernel_rfl) rfl (mgo_fin hmix e hp)
noncomputable def body31 : Code := (Tryz.f31.body).getD .skip
noncomputable def cx31 : Cx := ⟨Tryz.prog, noHand, [3, 4, 5], [], [], []⟩
theorem c31 (nb : Nat) {a : List AV} {b b2 : List (List Cell)} {r : ARes} (ad : Advs) {ps : List Prop} (e : mgo cx31 Tryz.f31 nb 1000000 [.code body31] (fr0 Tryz.f31 a b) ad = some (.fin r b2, ps)) (hp : AllP ps) : Ev Tryz.prog noHand 31 a b r b2 := ev_of_fin (fn := Tryz.f31) (body := body31) (by kernel_rfl) (by kernel_rfl) (by kernel_rfl) rfl (mgo_fin hmix e hp)
noncomputable def body32 : Code := (Tryz.f32.body).getD .skip
noncomputable def cx32 : Cx := ⟨Tryz.prog, noHand, [2, 3], [], [], []⟩
theorem c32 (nb : Nat) {a : List AV} {b b2 : List (List Cell)} {r : ARes} (ad : Advs) {ps : List Prop} (e : mgo cx32 Tryz.f32 nb 1000000 [.code body32] (fr0 Tryz.f32 a b) ad = some (.fin r b2, ps)) (hp : AllP ps) : Ev Tryz.prog noHand 32 a b r b2 := ev_of_fin (fn := Tryz.f32) (body := body32) (by kernel_rfl) (by kernel_rfl) (by kernel_rfl) rfl (mgo_fin hmix e hp)
noncomputable def body33 : Code := (Tryz.f33.body).getD .skip
noncomputable def cx33 : Cx := ⟨Tryz.prog, noHand, [], [], [], []⟩
theorem c33 (nb : Nat) {a : List AV} {b b2 : List (List Cell)} {r : ARes} (ad : Advs) {ps : List Prop} (e : mgo cx33 Tryz.f33 nb 1000000 [.code body33] (fr0 Tryz.f33 a b) ad = some (.fin r b2, ps)) (hp : AllP ps) : Ev Tryz.prog noHand 33 a b r b2 := ev_of_fin (fn := Tryz.f33) (body := body33) (by kernel_rfl) (by kernel_rfl) (by kernel_rfl) rfl (mgo_fin hmix e hp)
noncomputable def body34 : Code := (Tryz.f34.body).getD .skip
noncomputable def cx34 : Cx := ⟨Tryz.prog, noHand, [2, 3, 4], [], [], []⟩
theorem c34 (nb : Nat) {a : List AV} {b b2 : List (List Cell)} {r : ARes} (ad : Advs) {ps : List Prop} (e : mgo cx34 Tryz.f34 nb 1000000 [.code body34] (fr0 Tryz.f34 a b) ad = some (.fin r b2, ps)) (hp : AllP ps) : Ev Tryz.prog noHand 34 a b r b2 := ev_of_fin (fn := Tryz.f34) (body := body34) (by kernel_rfl) (by kernel_rfl) (by kernel_rfl) rfl (mgo_fin hmix e hp)
noncomputable def body35 : Code := (Tryz.f35.body).getD .skip
noncomputable def cx35 : Cx := ⟨Tryz.prog, noHand, [2, 3, 4, 5, 6, 11], [], [], []⟩
theorem c35 (nb : Nat) {a : List AV} {b b2 : List (List Cell)} {r : ARes} (ad : Advs) {ps : List Prop} (e : mgo cx35 Tryz.f35 nb 1000000 [.code body35] (fr0 Tryz.f35 a b) ad = some (.fin r b2, ps)) (hp : AllP ps) : Ev Tryz.prog noHand 35 a b r b2 := ev_of_fin (fn := Tryz.f35) (body := body35) (by kernel_rfl) (by kernel_rfl) (by kernel_rfl) rfl (mgo_fin hmix e hp)
noncomputable def body36 : Code := (Tryz.f36.body).getD .skip
noncomputable def cx36 : Cx := ⟨Tryz.prog, noHand, [2, 3, 4, 5, 6, 7, 8, 9, 10], [], [], []⟩
theorem c36 (nb : Nat) {a : List AV} {b b2 : List (List Cell)} {r : ARes} (ad : Advs) {ps : List Prop} (e : mgo cx36 Tryz.f36 nb 1000000 [.code body36] (fr0 Tryz.f36 a b) ad = some (.fin r b2, ps)) (hp : AllP ps) : Ev Tryz.prog noHand 36 a b r b2 := ev_of_fin (fn := Tryz.f36) (body := body36) (by kernel_rfl) (by kernel_rfl) (by kernel_rfl) rfl (mgo_fin hmix e hp)
noncomputable def body37 : Code := (Tryz.f37.body).getD .skip
noncomputable def cx37 : Cx := ⟨Tryz.prog, noHand, [10, 11, 13, 15], [], [], []⟩
theorem c37 (nb : Nat) {a : List AV} {b b2 : List (List Cell)} {r : ARes} (ad : Advs) {ps : List Prop} (e : mgo cx37 Tryz.f37 nb 1000000 [.code body37] (fr0 Tryz.f37 a b) ad = some (.fin r b2, ps)) (hp : AllP ps) : Ev Tryz.prog noHand 37 a b r b2 := ev_of_fin (fn := Tryz.f37) (body := body37) (by kernel_rfl) (by kernel_rfl) (by kernel_rfl) rfl (mgo_fin hmix e hp)
noncomputable def body38 : Code := (Tryz.f38.body).getD .skip
noncomputable def cx38 : Cx := ⟨Tryz.prog, noHand, [4, 5, 8, 9, 10, 11], [], [], []⟩
theorem c38 (nb : Nat) {a : List AV} {b b2 : List (List Cell)} {r : ARes} (ad : Advs) {ps : List Prop} (e : mgo cx38 Tryz.f38 nb 1000000 [.code body38] (fr0 Tryz.f38 a b) ad = some (.fin r b2, ps)) (hp : AllP ps) : Ev Tryz.prog noHand 38 a b r b2 := ev_of_fin (fn := Tryz.f38) (body := body38) (by kernel_rfl) (by kernel_rfl) (by kernel_rfl) rfl (mgo_fin hmix e hp)
noncomputable def body39 : Code := (Tryz.f39.body).getD .skip
noncomputable def cx39 : Cx := ⟨Tryz.prog, noHand, [6, 7, 8, 9, 11, 12, 15, 20], [], [], []⟩
theorem c39 (nb : Nat) {a : List AV} {b b2 : List (List Cell)} {r : ARes} (ad : Advs) {ps : List Prop} (e : mgo cx39 Tryz.f39 nb 1000000 [.code body39] (fr0 Tryz.f39 a b) ad = some (.fin r b2, ps)) (hp : AllP ps) : Ev Tryz.prog noHand 39 a b r b2 := ev_of_fin (fn := Tryz.f39) (body := body39) (by kernel_rfl) (by kernel_rfl) (by kernel_rfl) rfl (mgo_fin hmix e hp)
noncomputable def body40 : Code := (Tryz.f40.body).getD .skip
noncomputable def cx40 : Cx := ⟨Tryz.prog, noHand, [], [], [], []⟩
theorem c40 (nb : Nat) {a : List AV} {b b2 : List (List Cell)} {r : ARes} (ad : Advs) {ps : List Prop} (e : mgo cx40 Tryz.f40 nb 1000000 [.code body40] (fr0 Tryz.f40 a b) ad = some (.fin r b2, ps)) (hp : AllP ps) : Ev Tryz.prog noHand 40 a b r b2 := ev_of_fin (fn := Tryz.f40) (body := body40) (by kernel_rfl) (by kernel_rfl) (by kernel_rfl) rfl (mgo_fin hmix e hp)
noncomputable def body41 : Code := (Tryz.f41.body).getD .skip
noncomputable def cx41 : Cx := ⟨Tryz.prog, noHand, [4], [], [], []⟩
theorem c41 (nb : Nat) {a : List AV} {b b2 : List (List Cell)} {r : ARes} (ad : Advs) {ps : List Prop} (e : mgo cx41 Tryz.f41 nb 1000000 [.code body41] (fr0 Tryz.f41 a b) ad = some (.fin r b2, ps)) (hp : AllP ps) : Ev Tryz.prog noHand 41 a b r b2 := ev_of_fin (fn := Tryz.f41) (body := body41) (by kernel_rfl) (by kernel_rfl) (by kernel_rfl) rfl (mgo_fin hmix e hp)
noncomputable def body42 : Code := (Tryz.f42.body).getD .skip
noncomputable def cx42 : Cx := ⟨Tryz.prog, noHand, [], [], [], []⟩
theorem c42 (nb : Nat) {a : List AV} {b b2 : List (List Cell)} {r : ARes} (ad : Advs) {ps : List Prop} (e : mgo cx42 Tryz.f42 nb 1000000 [.code body42] (fr0 Tryz.f42 a b) ad = some (.fin r b2, ps)) (hp : AllP ps) : Ev Tryz.prog noHand 42 a b r b2 := ev_of_fin (fn := Tryz.f42) (body := body42) (by kernel_rfl) (by kernel_rfl) (by kernel_rfl) rfl (mgo_fin hmix e hp)
noncomputable def body43 : Code := (Tryz.f43.body).getD .skip
noncomputable def cx43 : Cx := ⟨Tryz.prog, noHand, [2], [], [], []⟩
theorem c43 (nb : Nat) {a : List AV} {b b2 : List (List Cell)} {r : ARes} (ad : Advs) {ps : List Prop} (e : mgo cx43 Tryz.f43 nb 1000000 [.code body43] (fr0 Tryz.f43 a b) ad = some (.fin r b2, ps)) (hp : AllP ps) : Ev Tryz.prog noHand 43 a b r b2 := ev_of_fin (fn := Tryz.f43) (body := body43) (by kernel_rfl) (by kernel_rfl) (by kernel_rfl) rfl (mgo_fin hmix e hp)
noncomputable def body44 : Code := (Tryz.f44.body).getD .skip
noncomputable def cx44 : Cx := ⟨Tryz.prog, noHand, [5, 6, 7, 8, 9, 10, 12], [], [], []⟩
theorem c44 (nb : Nat) {a : List AV} {b b2 : List (List Cell)} {r : ARes} (ad : Advs) {ps : List Prop} (e : mgo cx44 Tryz.f44 nb 1000000 [.code body44] (fr0 Tryz.f44 a b) ad = some (.fin r b2, ps)) (hp : AllP ps) : Ev Tryz.prog noHand 44 a b r b2 := ev_of_fin (fn := Tryz.f44) (body := body44) (by kernel_rfl) (by kernel_rfl) (by kernel_rfl) rfl (mgo_fin hmix e hp)
noncomputable def body45 : Code := (Tryz.f45.body).getD .skip
noncomputable def cx45 : Cx := ⟨Tryz.prog, noHand, [], [], [], []⟩
theorem c45 (nb : Nat) {a : List AV} {b b2 : List (List Cell)} {r : ARes} (ad : Advs) {ps : List Prop} (e : mgo cx45 Tryz.f45 nb 1000000 [.code body45] (fr0 Tryz.f45 a b) ad = some (.fin r b2, ps)) (hp : AllP ps) : Ev Tryz.prog noHand 45 a b r b2 := ev_of_fin (fn := Tryz.f45) (body := body45) (by kernel_rfl) (by kernel_rfl) (by kernel_rfl) rfl (mgo_fin hmix e hp)
noncomputable def body46 : Code := (Tryz.f46.body).getD .skip
noncomputable def cx46 : Cx := ⟨Tryz.prog, noHand, [], [], [], []⟩
theorem c46 (nb : Nat) {a : List AV} {b b2 : List (List Cell)} {r : ARes} (ad : Advs) {ps : List Prop} (e : mgo cx46 Tryz.f46 nb 1000000 [.code body46] (fr0 Tryz.f46 a b) ad = some (.fin r b2, ps)) (hp : AllP ps) : Ev Tryz.prog noHand 46 a b r b2 := ev_of_fin (fn := Tryz.f46) (body := body46) (by kernel_rfl) (by kernel_rfl) (by kernel_rfl) rfl (mgo_fin hmix e hp)
noncomputable def body47 : Code := (Tryz.f47.body).getD .skip
noncomputable def cx47 : Cx := ⟨Tryz.prog, noHand, [5, 6, 7, 8], [], [], []⟩
theorem c47 (nb : Nat) {a : List AV} {b b2 : List (List Cell)} {r : ARes} (ad : Advs) {ps : List Prop} (e : mgo cx47 Tryz.f47 nb 1000000 [.code body47] (fr0 Tryz.f47 a b) ad = some (.fin r b2, ps)) (hp : AllP ps) : Ev Tryz.prog noHand 47 a b r b2 := ev_of_fin (fn := Tryz.f47) (body := body47) (by kernel_rfl) (by kernel_rfl) (by kernel_rfl) rfl (mgo_fin hmix e hp)
noncomputable def body48 : Code := (Tryz.f48.body).getD .skip
noncomputable def cx48 : Cx := ⟨Tryz.prog, noHand, [2], [], [], []⟩
theorem c48 (nb : Nat) {a : List AV} {b b2 : List (List Cell)} {r : ARes} (ad : Advs) {ps : List Prop} (e : mgo cx48 Tryz.f48 nb 1000000 [.code body48] (fr0 Tryz.f48 a b) ad = some (.fin r b2, ps)) (hp : AllP ps) : Ev Tryz.prog noHand 48 a b r b2 := ev_of_fin (fn := Tryz.f48) (body := body48) (by kernel_rfl) (by kernel_rfl) (by kernel_rfl) rfl (mgo_fin hmix e hp)
noncomputable def body49 : Code := (Tryz.f49.body).getD .skip
noncomputable def cx49 : Cx := ⟨Tryz.prog, noHand, [], [], [], []⟩
theorem c49 (nb : Nat) {a : List AV} {b b2 : List (List Cell)} {r : ARes} (ad : Advs) {ps : List Prop} (e : mgo cx49 Tryz.f49 nb 1000000 [.code body49] (fr0 Tryz.f49 a b) ad = some (.fin r b2, ps)) (hp : AllP ps) : Ev Tryz.prog noHand 49 a b r b2 := ev_of_fin (fn := Tryz.f49) (body := body49) (by kernel_rfl) (by kernel_rfl) (by kernel_rfl) rfl (mgo_fin hmix e hp)
noncomputable def body50 : Code := (Tryz.f50.body).getD .skip
noncomputable def cx50 : Cx := ⟨Tryz.prog, noHand, [2], [], [], []⟩
theorem c50 (nb : Nat) {a : List AV} {b b2 : List (List Cell)} {r : ARes} (ad : Advs) {ps : List Prop} (e : mgo cx50 Tryz.f50 nb 1000000 [.code body50] (fr0 Tryz.f50 a b) ad = some (.fin r b2, ps)) (hp : AllP ps) : Ev Tryz.prog noHand 50 a b r b2 := ev_of_fin (fn := Tryz.f50) (body := body50) (by kernel_rfl) (by kernel_rfl) (by kernel_rfl) rfl (mgo_fin hmix e hp)
noncomputable def body51 : Code := (Tryz.f51.body).getD .skip
noncomputable def cx51 : Cx := ⟨Tryz.prog, noHand, [2, 3, 4], [], [], []⟩
theorem c51 (nb : Nat) {a : List AV} {b b2 : List (List Cell)} {r : ARes} (ad : Advs) {ps : List Prop} (e : mgo cx51 Tryz.f51 nb 1000000 [.code body51] (fr0 Tryz.f51 a b) ad = some (.fin r b2, ps)) (hp : AllP ps) : Ev Tryz.prog noHand 51 a b r b2 := ev_of_fin (fn := Tryz.f51) (body := body51) (by kernel_rfl) (by kernel_rfl) (by kernel_rfl) rfl (mgo_fin hmix e hp)
noncomputable def body52 : Code := (Tryz.f52.body).getD .skip
noncomputable def cx52 : Cx := ⟨Tryz.prog, noHand, [2, 3, 4, 5], [], [], []⟩
theorem c52 (nb : Nat) {a : List AV} {b b2 : List (List Cell)} {r : ARes} (ad : Advs) {ps : List Prop} (e : mgo cx52 Tryz.f52 nb 1000000 [.code body52] (fr0 Tryz.f52 a b) ad = some (.fin r b2, ps)) (hp : AllP ps) : Ev Tryz.prog noHand 52 a b r b2 := ev_of_fin (fn := Tryz.f52) (body := body52) (by kernel_rfl) (by kernel_rfl) (by kernel_rfl) rfl (mgo_fin hmix e hp)
noncomputable def body53 : Code := (Tryz.f53.body).getD .skip
noncomputable def cx53 : Cx := ⟨Tryz.prog, noHand, [2, 3, 5, 8], [], [], []⟩
theorem c53 (nb : Nat) {a : List AV} {b b2 : List (List Cell)} {r : ARes} (ad : Advs) {ps : List Prop} (e : mgo cx53 Tryz.f53 nb 1000000 [.code body53] (fr0 Tryz.f53 a b) ad = some (.fin r b2, ps)) (hp : AllP ps) : Ev Tryz.prog noHand 53 a b r b2 := ev_of_fin (fn := Tryz.f53) (body := body53) (by kernel_rfl) (by kernel_rfl) (by kernel_rfl) rfl (mgo_fin hmix e hp)
noncomputable def body54 : Code := (Tryz.f54.body).getD .skip
noncomputable def cx54 : Cx := ⟨Tryz.prog, noHand, [2, 3, 4], [], [], []⟩
theorem c54 (nb : Nat) {a : List AV} {b b2 : List (List Cell)} {r : ARes} (ad : Advs) {ps : List Prop} (e : mgo cx54 Tryz.f54 nb 1000000 [.code body54] (fr0 Tryz.f54 a b) ad = some (.fin r b2, ps)) (hp : AllP ps) : Ev Tryz.prog noHand 54 a b r b2 := ev_of_fin (fn := Tryz.f54) (body := body54) (by kernel_rfl) (by kernel_rfl) (by kernel_rfl) rfl (mgo_fin hmix e hp)
noncomputable def body55 : Code := (Tryz.f55.body).getD .skip
noncomputable def cx55 : Cx := ⟨Tryz.prog, noHand, [2, 3, 4, 5, 6, 7, 8, 9, 10, 11, 12, 64, 91, 101, 111, 122], [], [], []⟩
theorem c55 (nb : Nat) {a : List AV} {b b2 : List (List Cell)} {r : ARes} (ad : Advs) {ps : List Prop} (e : mgo cx55 Tryz.f55 nb 1000000 [.code body55] (fr0 Tryz.f55 a b) ad = some (.fin r b2, ps)) (hp : AllP ps) : Ev Tryz.prog noHand 55 a b r b2 := ev_of_fin (fn := Tryz.f55) (body := body55) (by kernel_rfl) (by kernel_rfl) (by kernel_rfl) rfl (mgo_fin hmix e hp)
noncomputable def body56 : Code := (Tryz.f56.body).getD .skip
noncomputable def cx56 : Cx := ⟨Tryz.prog, noHand, [2, 3, 4], [], [], []⟩
theorem c56 (nb : Nat) {a : List AV} {b b2 : List (List Cell)} {r : ARes} (ad : Advs) {ps : List Prop} (e : mgo cx56 Tryz.f56 nb 1000000 [.code body56] (fr0 Tryz.f56 a b) ad = some (.fin r b2, ps)) (hp : AllP ps) : Ev Tryz.prog noHand 56 a b r b2 := ev_of_fin (fn := Tryz.f56) (body := body56) (by kernel_rfl) (by kernel_rfl) (by kernel_rfl) rfl (mgo_fin hmix e hp)
noncomputable def body57 : Code := (Tryz.f57.body).getD .skip
noncomputable def cx57 : Cx := ⟨Tryz.prog, noHand, [4, 5], [], [], []⟩
theorem c57 (nb : Nat) {a : List AV} {b b2 : List (List Cell)} {r : ARes} (ad : Advs) {ps : List Prop} (e : mgo cx57 Tryz.f57 nb 1000000 [.code body57] (fr0 Tryz.f57 a b) ad = some (.fin r b2, ps)) (hp : AllP ps) : Ev Tryz.prog noHand 57 a b r b2 := ev_of_fin (fn := Tryz.f57) (body := body57) (by kernel_rfl) (by kernel_rfl) (by kernel_rfl) rfl (mgo_fin hmix e hp)
noncomputable def body58 : Code := (Tryz.f58.body).getD .skip
noncomputable def cx58 : Cx := ⟨Tryz.prog, noHand, [5], [], [], []⟩
theorem c58 (nb : Nat) {a : List AV} {b b2 : List (List Cell)} {r : ARes} (ad : Advs) {ps : List Prop} (e : mgo cx58 Tryz.f58 nb 1000000 [.code body58] (fr0 Tryz.f58 a b) ad = some (.fin r b2, ps)) (hp : AllP ps) : Ev Tryz.prog noHand 58 a b r b2 := ev_of_fin (fn := Tryz.f58) (body := body58) (by kernel_rfl) (by kernel_rfl) (by kernel_rfl) rfl (mgo_fin hmix e hp)
noncomputable def body59 : Code := (Tryz.f59.body).getD .skip
noncomputable def cx59 : Cx := ⟨Tryz.prog, noHand, [], [], [], []⟩
theorem c59 (nb : Nat) {a : List AV} {b b2 : List (List Cell)} {r : ARes} (ad : Advs) {ps : List Prop} (e : mgo cx59 Tryz.f59 nb 1000000 [.code body59] (fr0 Tryz.f59 a b) ad = some (.fin r b2, ps)) (hp : AllP ps) : Ev Tryz.prog noHand 59 a b r b2 := ev_of_fin (fn := Tryz.f59) (body := body59) (by kernel_rfl) (by kernel_rfl) (by kernel_rfl) rfl (mgo_fin hmix e hp)
noncomputable def body60 : Code := (Tryz.f60.body).getD .skip
noncomputable def cx60 : Cx := ⟨Tryz.prog, noHand, [6], [], [], []⟩
theorem c60 (nb : Nat) {a : List AV} {b b2 : List (List Cell)} {r : ARes} (ad : Advs) {ps : List Prop} (e : mgo cx60 Tryz.f60 nb 1000000 [.code body60] (fr0 Tryz.f60 a b) ad = some (.fin r b2, ps)) (hp : AllP ps) : Ev Tryz.prog noHand 60 a b r b2 := ev_of_fin (fn := Tryz.f60) (body := body60) (by kernel_rfl) (by kernel_rfl) (by kernel_rfl) rfl (mgo_fin hmix e hp)
noncomputable def body61 : Code := (Tryz.f61.body).getD .skip
noncomputable def cx61 : Cx := ⟨Tryz.prog, noHand, [6, 7], [], [], []⟩
theorem c61 (nb : Nat) {a : List AV} {b b2 : List (List Cell)} {r : ARes} (ad : Advs) {ps : List Prop} (e : mgo cx61 Tryz.f61 nb 1000000 [.code body61] (fr0 Tryz.f61 a b) ad = some (.fin r b2, ps)) (hp : AllP ps) : Ev Tryz.prog noHand 61 a b r b2 := ev_of_fin (fn := Tryz.f61) (body := body61) (by kernel_rfl) (by kernel_rfl) (by kernel_rfl) rfl (mgo_fin hmix e hp)
noncomputable def body62 : Code := (Tryz.f62.body).getD .skip
noncomputable def cx62 : Cx := ⟨Tryz.prog, noHand, [4, 5, 6, 7, 30, 34, 38, 42, 59], [], [], []⟩
theorem c62 (nb : Nat) {a : List AV} {b b2 : List (List Cell)} {r : ARes} (ad : Advs) {ps : List Prop} (e : mgo cx62 Tryz.f62 nb 1000000 [.code body62] (fr0 Tryz.f62 a b) ad = some (.fin r b2, ps)) (hp : AllP ps) : Ev Tryz.prog noHand 62 a b r b2 := ev_of_fin (fn := Tryz.f62) (body := body62) (by kernel_rfl) (by kernel_rfl) (by kernel_rfl) rfl (mgo_fin hmix e hp)
noncomputable def body63 : Code := (Tryz.f63.body).getD .skip
noncomputable def cx63 : Cx := ⟨Tryz.prog, noHand, [6, 7, 9, 10], [], [], []⟩
theorem c63 (nb : Nat) {a : List AV} {b b2 : List (List Cell)} {r : ARes} (ad : Advs) {ps : List Prop} (e : mgo cx63 Tryz.f63 nb 1000000 [.code body63] (fr0 Tryz.f63 a b) ad = some (.fin r b2, ps)) (hp : AllP ps) : Ev Tryz.prog noHand 63 a b r b2 := ev_of_fin (fn := Tryz.f63) (body := body63) (by kernel_rfl) (by kernel_rfl) (by kernel_rfl) rfl (mgo_fin hmix e hp)
noncomputable def body64 : Code := (Tryz.f64.body).getD .skip
noncomputable def cx64 : Cx := ⟨Tryz.prog, noHand, [8, 11, 41, 46, 59, 73], [], [], []⟩
theorem c64 (nb : Nat) {a : List AV} {b b2 : List (List Cell)} {r : ARes} (ad : Advs) {ps : List Prop} (e : mgo cx64 Tryz.f64 nb 1000000 [.code body64] (fr0 Tryz.f64 a b) ad = some (.fin r b2, ps)) (hp : AllP ps) : Ev Tryz.prog noHand 64 a b r b2 := ev_of_fin (fn := Tryz.f64) (body := body64) (by kernel_rfl) (by kernel_rfl) (by kernel_rfl) rfl (mgo_fin hmix e hp)
noncomputable def body65 : Code := (Tryz.f65.body).getD .skip
noncomputable def cx65 : Cx := ⟨Tryz.prog, noHand, [4, 5], [], [], []⟩
theorem c65 (nb : Nat) {a : List AV} {b b2 : List (List Cell)} {r : ARes} (ad : Advs) {ps : List Prop} (e : mgo cx65 Tryz.f65 nb 1000000 [.code body65] (fr0 Tryz.f65 a b) ad = some (.fin r b2, ps)) (hp : AllP ps) : Ev Tryz.prog noHand 65 a b r b2 := ev_of_fin (fn := Tryz.f65) (body := body65) (by kernel_rfl) (by kernel_rfl) (by kernel_rfl) rfl (mgo_fin hmix e hp)
noncomputable def body66 : Code := (Tryz.f66.body).getD .skip
noncomputable def cx66 : Cx := ⟨Tryz.prog, noHand, [6, 7], [], [], []⟩
theorem c66 (nb : Nat) {a : List AV} {b b2 : List (List Cell)} {r : ARes} (ad : Advs) {ps : List Prop} (e : mgo cx66 Tryz.f66 nb 1000000 [.code body66] (fr0 Tryz.f66 a b) ad = some (.fin r b2, ps)) (hp : AllP ps) : Ev Tryz.prog noHand 66 a b r b2 := ev_of_fin (fn := Tryz.f66) (body := body66) (by kernel_rfl) (by kernel_rfl) (by kernel_rfl) rfl (mgo_fin hmix e hp)
noncomputable def body67 : Code := (Tryz.f67.body).getD .skip
noncomputable def cx67 : Cx := ⟨Tryz.prog, noHand, [4], [], [], []⟩
theorem c67 (nb : Nat) {a : List AV} {b b2 : List (List Cell)} {r : ARes} (ad : Advs) {ps : List Prop} (e : mgo cx67 Tryz.f67 nb 1000000 [.code body67] (fr0 Tryz.f67 a b) ad = some (.fin r b2, ps)) (hp : AllP ps) : Ev Tryz.prog noHand 67 a b r b2 := ev_of_fin (fn := Tryz.f67) (body := body67) (by kernel_rfl) (by kernel_rfl) (by kernel_rfl) rfl (mgo_fin hmix e hp)
noncomputable def body68 : Code := (Tryz.f68.body).getD .skip
noncomputable def cx68 : Cx := ⟨Tryz.prog, noHand, [4], [], [], []⟩
theorem c68 (nb : Nat) {a : List AV} {b b2 : List (List Cell)} {r : ARes} (ad : Advs) {ps : List Prop} (e : mgo cx68 Tryz.f68 nb 1000000 [.code body68] (fr0 Tryz.f68 a b) ad = some (.fin r b2, ps)) (hp : AllP ps) : Ev Tryz.prog noHand 68 a b r b2 := ev_of_fin (fn := Tryz.f68) (body := body68) (by kernel_rfl) (by kernel_rfl) (by kernel_rfl) rfl (mgo_fin hmix e hp)
noncomputable def body69 : Code := (Tryz.f69.body).getD .skip
noncomputable def cx69 : Cx := ⟨Tryz.prog, noHand, [4], [], [], []⟩
theorem c69 (nb : Nat) {a : List AV} {b b2 : List (List Cell)} {r : ARes} (ad : Advs) {ps : List Prop} (e : mgo cx69 Tryz.f69 nb 1000000 [.code body69] (fr0 Tryz.f69 a b) ad = some (.fin r b2, ps)) (hp : AllP ps) : Ev Tryz.prog noHand 69 a b r b2 := ev_of_fin (fn := Tryz.f69) (body := body69) (by kernel_rfl) (by kernel_rfl) (by kernel_rfl) rfl (mgo_fin hmix e hp)
noncomputable def body70 : Code := (Tryz.f70.body).getD .skip
noncomputable def cx70 : Cx := ⟨Tryz.prog, noHand, [6, 7], [], [], []⟩
theorem c70 (nb : Nat) {a : List AV} {b b2 : List (List Cell)} {r : ARes} (ad : Advs) {ps : List Prop} (e : mgo cx70 Tryz.f70 nb 1000000 [.code body70] (fr0 Tryz.f70 a b) ad = some (.fin r b2, ps)) (hp : AllP ps) : Ev Tryz.prog noHand 70 a b r b2 := ev_of_fin (fn := Tryz.f70) (body := body70) (by kernel_rfl) (by kernel_rfl) (by kernel_rfl) rfl (mgo_fin hmix e hp)
noncomputable def body71 : Code := (Tryz.f71.body).getD .skip
noncomputable def cx71 : Cx := ⟨Tryz.prog, noHand, [4], [], [], []⟩
theorem c71 (nb : Nat) {a : List AV} {b b2 : List (List Cell)} {r : ARes} (ad : Advs) {ps : List Prop} (e : mgo cx71 Tryz.f71 nb 1000000 [.code body71] (fr0 Tryz.f71 a b) ad = some (.fin r b2, ps)) (hp : AllP ps) : Ev Tryz.prog noHand 71 a b r b2 := ev_of_fin (fn := Tryz.f71) (body := body71) (by kernel_rfl) (by kernel_rfl) (by kernel_rfl) rfl (mgo_fin hmix e hp)
noncomputable def body72 : Code := (Tryz.f72.body).getD .skip
noncomputable def cx72 : Cx := ⟨Tryz.prog, noHand, [2], [], [], []⟩
theorem c72 (nb : Nat) {a : List AV} {b b2 : List (List Cell)} {r : ARes} (ad : Advs) {ps : List Prop} (e : mgo cx72 Tryz.f72 nb 1000000 [.code body72] (fr0 Tryz.f72 a b) ad = some (.fin r b2, ps)) (hp : AllP ps) : Ev Tryz.prog noHand 72 a b r b2 := ev_of_fin (fn := Tryz.f72) (body := body72) (by kernel_rfl) (by kernel_rfl) (by kernel_rfl) rfl (mgo_fin hmix e hp)
noncomputable def body73 : Code := (Tryz.f73.body).getD .skip
noncomputable def cx73 : Cx := ⟨Tryz.prog, noHand, [6, 7], [], [], []⟩
theorem c73 (nb : Nat) {a : List AV} {b b2 : List (List Cell)} {r : ARes} (ad : Advs) {ps : List Prop} (e : mgo cx73 Tryz.f73 nb 1000000 [.code body73] (fr0 Tryz.f73 a b) ad = some (.fin r b2, ps)) (hp : AllP ps) : Ev Tryz.prog noHand 73 a b r b2 := ev_of_fin (fn := Tryz.f73) (body := body73) (by kernel_rfl) (by kernel_rfl) (by kernel_rfl) rfl (mgo_fin hmix e hp)
noncomputable def body74 : Code := (Tryz.f74.body).getD .skip
noncomputable def cx74 : Cx := ⟨Tryz.prog, noHand, [2, 4], [], [], []⟩
theorem c74 (nb : Nat) {a : List AV} {b b2 : List (List Cell)} {r : ARes} (ad : Advs) {ps : List Prop} (e : mgo cx74 Tryz.f74 nb 1000000 [.code body74] (fr0 Tryz.f74 a b) ad = some (.fin r b2, ps)) (hp : AllP ps) : Ev Tryz.prog noHand 74 a b r b2 := ev_of_fin (fn := Tryz.f74) (body := body74) (by kernel_rfl) (by kernel_rfl) (by kernel_rfl) rfl (mgo_fin hmix e hp)
noncomputable def body75 : Code := (Tryz.f75.body).getD .skip
noncomputable def cx75 : Cx := ⟨Tryz.prog, noHand, [2, 3], [], [], []⟩
theorem c75 (nb : Nat) {a : List AV} {b b2 : List (List Cell)} {r : ARes} (ad : Advs) {ps : List Prop} (e : mgo cx75 Tryz.f75 nb 1000000 [.code body75] (fr0 Tryz.f75 a b) ad = some (.fin r b2, ps)) (hp : AllP ps) : Ev Tryz.prog noHand 75 a b r b2 := ev_of_fin (fn := Tryz.f75) (body := body75) (by kernel_rfl) (by kernel_rfl) (by kernel_rfl) rfl (mgo_fin hmix e hp)
noncomputable def body76 : Code := (Tryz.f76.body).getD .skip
noncomputable def cx76 : Cx := ⟨Tryz.prog, noHand, [2], [], [], []⟩
theorem c76 (nb : Nat) {a : List AV} {b b2 : List (List Cell)} {r : ARes} (ad : Advs) {ps : List Prop} (e : mgo cx76 Tryz.f76 nb 1000000 [.code body76] (fr0 Tryz.f76 a b) ad = some (.fin r b2, ps)) (hp : AllP ps) : Ev Tryz.prog noHand 76 a b r b2 := ev_of_fin (fn := Tryz.f76) (body := body76) (by kernel_rfl) (by kernel_rfl) (by kernel_rfl) rfl (mgo_fin hmix e hp)
noncomputable def body77 : Code := (Tryz.f77.body).getD .skip
noncomputable def cx77 : Cx := ⟨Tryz.prog, noHand, [5, 6, 7, 8, 9, 10, 11, 13], [], [], []⟩
theorem c77 (nb : Nat) {a : List AV} {b b2 : List (List Cell)} {r : ARes} (ad : Advs) {ps : List Prop} (e : mgo cx77 Tryz.f77 nb 1000000 [.code body77] (fr0 Tryz.f77 a b) ad = some (.fin r b2, ps)) (hp : AllP ps) : Ev Tryz.prog noHand 77 a b r b2 := ev_of_fin (fn := Tryz.f77) (body := body77) (by kernel_rfl) (by kernel_rfl) (by kernel_rfl) rfl (mgo_fin hmix e hp)
noncomputable def body78 : Code := (Tryz.f78.body).getD .skip
noncomputable def cx78 : Cx := ⟨Tryz.prog, noHand, [6, 7, 8, 9, 10, 11], [], [], []⟩
theorem c78 (nb : Nat) {a : List AV} {b b2 : List (List Cell)} {r : ARes} (ad : Advs) {ps : List Prop} (e : mgo cx78 Tryz.f78 nb 1000000 [.code body78] (fr0 Tryz.f78 a b) ad = some (.fin r b2, ps)) (hp : AllP ps) : Ev Tryz.prog noHand 78 a b r b2 := ev_of_fin (fn := Tryz.f78) (body := body78) (by kernel_rfl) (by kernel_rfl) (by kernel_rfl) rfl (mgo_fin hmix e hp)
noncomputable def body79 : Code := (Tryz.f79.body).getD .skip
noncomputable def cx79 : Cx := ⟨Tryz.prog, noHand, [2, 3, 4, 5, 6, 7, 22, 36, 45, 57, 83, 100, 112], [], [], []⟩
theorem c79 (nb : Nat) {a : List AV} {b b2 : List (List Cell)} {r : ARes} (ad : Advs) {ps : List Prop} (e : mgo cx79 Tryz.f79 nb 1000000 [.code body79] (fr0 Tryz.f79 a b) ad = some (.fin r b2, ps)) (hp : AllP ps) : Ev Tryz.prog noHand 79 a b r b2 := ev_of_fin (fn := Tryz.f79) (body := body79) (by kernel_rfl) (by kernel_rfl) (by kernel_rfl) rfl (mgo_fin hmix e hp)
noncomputable def body80 : Code := (Tryz.f80.body).getD .skip
noncomputable def cx80 : Cx := ⟨Tryz.prog, noHand, [2, 3, 6, 9, 12, 19, 26, 33], [], [], []⟩
theorem c80 (nb : Nat) {a : List AV} {b b2 : List (List Cell)} {r : ARes} (ad : Advs) {ps : List Prop} (e : mgo cx80 Tryz.f80 nb 1000000 [.code body80] (fr0 Tryz.f80 a b) ad = some (.fin r b2, ps)) (hp : AllP ps) : Ev Tryz.prog noHand 80 a b r b2 := ev_of_fin (fn := Tryz.f80) (body := body80) (by kernel_rfl) (by kernel_rfl) (by kernel_rfl) rfl (mgo_fin hmix e hp)
noncomputable def body81 : Code := (Tryz.f81.body).getD .skip
noncomputable def cx81 : Cx := ⟨Tryz.prog, noHand, [2, 3, 5, 8, 11, 14, 17], [], [], []⟩
theorem c81 (nb : Nat) {a : List AV} {b b2 : List (List Cell)} {r : ARes} (ad : Advs) {ps : List Prop} (e : mgo cx81 Tryz.f81 nb 1000000 [.code body81] (fr0 Tryz.f81 a b) ad = some (.fin r b2, ps)) (hp : AllP ps) : Ev Tryz.prog noHand 81 a b r b2 := ev_of_fin (fn := Tryz.f81) (body := body81) (by kernel_rfl) (by kernel_rfl) (by kernel_rfl) rfl (mgo_fin hmix e hp)
noncomputable def body82 : Code := (Tryz.f82.body).getD .skip
noncomputable def cx82 : Cx := ⟨Tryz.prog, noHand, [2, 5, 10, 17, 22, 28, 36], [], [], []⟩
theorem c82 (nb : Nat) {a : List AV} {b b2 : List (List Cell)} {r : ARes} (ad : Advs) {ps : List Prop} (e : mgo cx82 Tryz.f82 nb 1000000 [.code body82] (fr0 Tryz.f82 a b) ad = some (.fin r b2, ps)) (hp : AllP ps) : Ev Tryz.prog noHand 82 a b r b2 := ev_of_fin (fn := Tryz.f82) (body := body82) (by kernel_rfl) (by kernel_rfl) (by kernel_rfl) rfl (mgo_fin hmix e hp)
noncomputable def body83 : Code := (Tryz.f83.body).getD .skip
noncomputable def cx83 : Cx := ⟨Tryz.prog, noHand, [4, 5, 6], [], [], []⟩
theorem c83 (nb : Nat) {a : List AV} {b b2 : List (List Cell)} {r : ARes} (ad : Advs) {ps : List Prop} (e : mgo cx83 Tryz.f83 nb 1000000 [.code body83] (fr0 Tryz.f83 a b) ad = some (.fin r b2, ps)) (hp : AllP ps) : Ev Tryz.prog noHand 83 a b r b2 := ev_of_fin (fn := Tryz.f83) (body := body83) (by kernel_rfl) (by kernel_rfl) (by kernel_rfl) rfl (mgo_fin hmix e hp)
noncomputable def body84 : Code := (Tryz.f84.body).getD .skip
noncomputable def cx84 : Cx := ⟨Tryz.prog, noHand, [4, 6, 7, 8], [], [], []⟩
theorem c84 (nb : Nat) {a : List AV} {b b2 : List (List Cell)} {r : ARes} (ad : Advs) {ps : List Prop} (e : mgo cx84 Tryz.f84 nb 1000000 [.code body84] (fr0 Tryz.f84 a b) ad = some (.fin r b2, ps)) (hp : AllP ps) : Ev Tryz.prog noHand 84 a b r b2 := ev_of_fin (fn := Tryz.f84) (body := body84) (by kernel_rfl) (by kernel_rfl) (by kernel_rfl) rfl (mgo_fin hmix e hp)
noncomputable def body85 : Code := (Tryz.f85.body).getD .skip
noncomputable def cx85 : Cx := ⟨Tryz.prog, noHand, [4, 5, 6], [], [], []⟩
theorem c85 (nb : Nat) {a : List AV} {b b2 : List (List Cell)} {r : ARes} (ad : Advs) {ps : List Prop} (e : mgo cx85 Tryz.f85 nb 1000000 [.code body85] (fr0 Tryz.f85 a b) ad = some (.fin r b2, ps)) (hp : AllP ps) : Ev Tryz.prog noHand 85 a b r b2 := ev_of_fin (fn := Tryz.f85) (body := body85) (by kernel_rfl) (by kernel_rfl) (by kernel_rfl) rfl (mgo_fin hmix e hp)
noncomputable def body86 : Code := (Tryz.f86.body).getD .skip
noncomputable def cx86 : Cx := ⟨Tryz.prog, noHand, [4, 5, 6, 7], [], [], []⟩
theorem c86 (nb : Nat) {a : List AV} {b b2 : List (List Cell)} {r : ARes} (ad : Advs) {ps : List Prop} (e : mgo cx86 Tryz.f86 nb 1000000 [.code body86] (fr0 Tryz.f86 a b) ad = some (.fin r b2, ps)) (hp : AllP ps) : Ev Tryz.prog noHand 86 a b r b2 := ev_of_fin (fn := Tryz.f86) (body := body86) (by kernel_rfl) (by kernel_rfl) (by kernel_rfl) rfl (mgo_fin hmix e hp)
noncomputable def body87 : Code := (Tryz.f87.body).getD .skip
noncomputable def cx87 : Cx := ⟨Tryz.prog, noHand, [6, 7], [], [], []⟩
theorem c87 (nb : Nat) {a : List AV} {b b2 : List (List Cell)} {r : ARes} (ad : Advs) {ps : List Prop} (e : mgo cx87 Tryz.f87 nb 1000000 [.code body87] (fr0 Tryz.f87 a b) ad = some (.fin r b2, ps)) (hp : AllP ps) : Ev Tryz.prog noHand 87 a b r b2 := ev_of_fin (fn := Tryz.f87) (body := body87) (by kernel_rfl) (by kernel_rfl) (by kernel_rfl) rfl (mgo_fin hmix e hp)
noncomputable def body88 : Code := (Tryz.f88.body).getD .skip
noncomputable def cx88 : Cx := ⟨Tryz.prog, noHand, [4], [], [], []⟩
theorem c88 (nb : Nat) {a : List AV} {b b2 : List (List Cell)} {r : ARes} (ad : Advs) {ps : List Prop} (e : mgo cx88 Tryz.f88 nb 1000000 [.code body88] (fr0 Tryz.f88 a b) ad = some (.fin r b2, ps)) (hp : AllP ps) : Ev Tryz.prog noHand 88 a b r b2 := ev_of_fin (fn := Tryz.f88) (body := body88) (by kernel_rfl) (by kernel_rfl) (by kernel_rfl) rfl (mgo_fin hmix e hp)
noncomputable def body89 : Code := (Tryz.f89.body).getD .skip
noncomputable def cx89 : Cx := ⟨Tryz.prog, noHand, [6, 7], [], [], []⟩
theorem c89 (nb : Nat) {a : List AV} {b b2 : List (List Cell)} {r : ARes} (ad : Advs) {ps : List Prop} (e : mgo cx89 Tryz.f89 nb 1000000 [.code body89] (fr0 Tryz.f89 a b) ad = some (.fin r b2, ps)) (hp : AllP ps) : Ev Tryz.prog noHand 89 a b r b2 := ev_of_fin (fn := Tryz.f89) (body := body89) (by kernel_rfl) (by kernel_rfl) (by kernel_rfl) rfl (mgo_fin hmix e hp)
noncomputable def body90 : Code := (Tryz.f90.body).getD .skip
noncomputable def cx90 : Cx := ⟨Tryz.prog, noHand, [4], [], [], []⟩
theorem c90 (nb : Nat) {a : List AV} {b b2 : List (List Cell)} {r : ARes} (ad : Advs) {ps : List Prop} (e : mgo cx90 Tryz.f90 nb 1000000 [.code body90] (fr0 Tryz.f90 a b) ad = some (.fin r b2, ps)) (hp : AllP ps) : Ev Tryz.prog noHand 90 a b r b2 := ev_of_fin (fn := Tryz.f90) (body := body90) (by kernel_rfl) (by kernel_rfl) (by kernel_rfl) rfl (mgo_fin hmix e hp)
noncomputable def body91 : Code := (Tryz.f91.body).getD .skip
noncomputable def cx91 : Cx := ⟨Tryz.prog, noHand, [0], [], [], []⟩
theorem c91 (nb : Nat) {a : List AV} {b b2 : List (List Cell)} {r : ARes} (ad : Advs) {ps : List Prop} (e : mgo cx91 Tryz.f91 nb 1000000 [.code body91] (fr0 Tryz.f91 a b) ad = some (.fin r b2, ps)) (hp : AllP ps) : Ev Tryz.prog noHand 91 a b r b2 := ev_of_fin (fn := Tryz.f91) (body := body91) (by kernel_rfl) (by kernel_rfl) (by kernel_rfl) rfl (mgo_fin hmix e hp)
noncomputable def body92 : Code := (Tryz.f92.body).getD .skip
noncomputable def cx92 : Cx := ⟨Tryz.prog, noHand, [2, 3, 4, 5, 6, 7], [], [], []⟩
theorem c92 (nb : Nat) {a : List AV} {b b2 : List (List Cell)} {r : ARes} (ad : Advs) {ps : List Prop} (e : mgo cx92 Tryz.f92 nb 1000000 [.code body92] (fr0 Tryz.f92 a b) ad = some (.fin r b2, ps)) (hp : AllP ps) : Ev Tryz.prog noHand 92 a b r b2 := ev_of_fin (fn := Tryz.f92) (body := body92) (by kernel_rfl) (by kernel_rfl) (by kernel_rfl) rfl (mgo_fin hmix e hp)
noncomputable def body93 : Code := (Tryz.f93.body).getD .skip
noncomputable def cx93 : Cx := ⟨Tryz.prog, noHand, [5, 6, 7], [], [], []⟩
theorem c93 (nb : Nat) {a : List AV} {b b2 : List (List Cell)} {r : ARes} (ad : Advs) {ps : List Prop} (e : mgo cx93 Tryz.f93 nb 1000000 [.code body93] (fr0 Tryz.f93 a b) ad = some (.fin r b2, ps)) (hp : AllP ps) : Ev Tryz.prog noHand 93 a b r b2 := ev_of_fin (fn := Tryz.f93) (body := body93) (by kernel_rfl) (by kernel_rfl) (by kernel_rfl) rfl (mgo_fin hmix e hp)
noncomputable def body94 : Code := (Tryz.f94.body).getD .skip
noncomputable def cx94 : Cx := ⟨Tryz.prog, noHand, [12, 27, 45, 60, 72, 88, 106], [], [], []⟩
theorem c94 (nb : Nat) {a : List AV} {b b2 : List (List Cell)} {r : ARes} (ad : Advs) {ps : List Prop} (e : mgo cx94 Tryz.f94 nb 1000000 [.code body94] (fr0 Tryz.f94 a b) ad = some (.fin r b2, ps)) (hp : AllP ps) : Ev Tryz.prog noHand 94 a b r b2 := ev_of_fin (fn := Tryz.f94) (body := body94) (by kernel_rfl) (by kernel_rfl) (by kernel_rfl) rfl (mgo_fin hmix e hp)
noncomputable def body95 : Code := (Tryz.f95.body).getD .skip
noncomputable def cx95 : Cx := ⟨Tryz.prog, noHand, [4, 5, 6, 7], [], [], []⟩
theorem c95 (nb : Nat) {a : List AV} {b b2 : List (List Cell)} {r : ARes} (ad : Advs) {ps : List Prop} (e : mgo cx95 Tryz.f95 nb 1000000 [.code body95] (fr0 Tryz.f95 a b) ad = some (.fin r b2, ps)) (hp : AllP ps) : Ev Tryz.prog noHand 95 a b r b2 := ev_of_fin (fn := Tryz.f95) (body := body95) (by kernel_rfl) (by kernel_rfl) (by kernel_rfl) rfl (mgo_fin hmix e hp)
noncomputable def body96 : Code := (Tryz.f96.body).getD .skip
noncomputable def cx96 : Cx := ⟨Tryz.prog, noHand, [0], [], [], []⟩
theorem c96 (nb : Nat) {a : List AV} {b b2 : List (List Cell)} {r : ARes} (ad : Advs) {ps : List Prop} (e : mgo cx96 Tryz.f96 nb 1000000 [.code body96] (fr0 Tryz.f96 a b) ad = some (.fin r b2, ps)) (hp : AllP ps) : Ev Tryz.prog noHand 96 a b r b2 := ev_of_fin (fn := Tryz.f96) (body := body96) (by kernel_rfl) (by kernel_rfl) (by kernel_rfl) rfl (mgo_fin hmix e hp)
noncomputable def body97 : Code := (Tryz.f97.body).getD .skip
noncomputable def cx97 : Cx := ⟨Tryz.prog, noHand, [6, 7, 8, 9, 18, 23, 28], [], [], []⟩
theorem c97 (nb : Nat) {a : List AV} {b b2 : List (List Cell)} {r : ARes} (ad : Advs) {ps : List Prop} (e : mgo cx97 Tryz.f97 nb 1000000 [.code body97] (fr0 Tryz.f97 a b) ad = some (.fin r b2, ps)) (hp : AllP ps) : Ev Tryz.prog noHand 97 a b r b2 := ev_of_fin (fn := Tryz.f97) (body := body97) (by kernel_rfl) (by kernel_rfl) (by kernel_rfl) rfl (mgo_fin hmix e hp)
noncomputable def body98 : Code := (Tryz.f98.body).getD .skip
noncomputable def cx98 : Cx := ⟨Tryz.prog, noHand, [2, 3, 4, 5, 6, 7], [], [], []⟩
theorem c98 (nb : Nat) {a : List AV} {b b2 : List (List Cell)} {r : ARes} (ad : Advs) {ps : List Prop} (e : mgo cx98 Tryz.f98 nb 1000000 [.code body98] (fr0 Tryz.f98 a b) ad = some (.fin r b2, ps)) (hp : AllP ps) : Ev Tryz.prog noHand 98 a b r b2 := ev_of_fin (fn := Tryz.f98) (body := body98) (by kernel_rfl) (by kernel_rfl) (by kernel_rfl) rfl (mgo_fin hmix e hp)
noncomputable def body99 : Code := (Tryz.f99.body).getD .skip
noncomputable def cx99 : Cx := ⟨Tryz.prog, noHand, [2, 3], [], [], []⟩
theorem c99 (nb : Nat) {a : List AV} {b b2 : List (List Cell)} {r : ARes} (ad : Advs) {ps : List Prop} (e : mgo cx99 Tryz.f99 nb 1000000 [.code body99] (fr0 Tryz.f99 a b) ad = some (.fin r b2, ps)) (hp : AllP ps) : Ev Tryz.prog noHand 99 a b r b2 := ev_of_fin (fn := Tryz.f99) (body := body99) (by kernel_rfl) (by kernel_rfl) (by kernel_rfl) rfl (mgo_fin hmix e hp)
noncomputable def body100 : Code := (Tryz.f100.body).getD .skip
noncomputable def cx100 : Cx := ⟨Tryz.prog, noHand, [2, 3, 4], [], [], []⟩
theorem c100 (nb : Nat) {a : List AV} {b b2 : List (List Cell)} {r : ARes} (ad : Advs) {ps : List Prop} (e : mgo cx100 Tryz.f100 nb 1000000 [.code body100] (fr0 Tryz.f100 a b) ad = some (.fin r b2, ps)) (hp : AllP ps) : Ev Tryz.prog noHand 100 a b r b2 := ev_of_fin (fn := Tryz.f100) (body := body100) (by kernel_rfl) (by kernel_rfl) (by kernel_rfl) rfl (mgo_fin hmix e hp)
noncomputable def body101 : Code := (Tryz.f101.body).getD .skip
noncomputable def cx101 : Cx := ⟨Tryz.prog, noHand, [4, 5], [], [], []⟩
theorem c101 (nb : Nat) {a : List AV} {b b2 : List (List Cell)} {r : ARes} (ad : Advs) {ps : List Prop} (e : mgo cx101 Tryz.f101 nb 1000000 [.code body101] (fr0 Tryz.f101 a b) ad = some (.fin r b2, ps)) (hp : AllP ps) : Ev Tryz.prog noHand 101 a b r b2 := ev_of_fin (fn := Tryz.f101) (body := body101) (by kernel_rfl) (by kernel_rfl) (by kernel_rfl) rfl (mgo_fin hmix e hp)
noncomputable def body102 : Code := (Tryz.f102.body).getD .skip
noncomputable def cx102 : Cx := ⟨Tryz.prog, noHand, [2], [], [], []⟩
theorem c102 (nb : Nat) {a : List AV} {b b2 : List (List Cell)} {r : ARes} (ad : Advs) {ps : List Prop} (e : mgo cx102 Tryz.f102 nb 1000000 [.code body102] (fr0 Tryz.f102 a b) ad = some (.fin r b2, ps)) (hp : AllP ps) : Ev Tryz.prog noHand 102 a b r b2 := ev_of_fin (fn := Tryz.f102) (body := body102) (by kernel_rfl) (by kernel_rfl) (by kernel_rfl) rfl (mgo_fin hmix e hp)
noncomputable def body103 : Code := (Tryz.f103.body).getD .skip
noncomputable def cx103 : Cx := ⟨Tryz.prog, noHand, [2], [], [], []⟩
theorem c103 (nb : Nat) {a : List AV} {b b2 : List (List Cell)} {r : ARes} (ad : Advs) {ps : List Prop} (e : mgo cx103 Tryz.f103 nb 1000000 [.code body103] (fr0 Tryz.f103 a b) ad = some (.fin r b2, ps)) (hp : AllP ps) : Ev Tryz.prog noHand 103 a b r b2 := ev_of_fin (fn := Tryz.f103) (body := body103) (by kernel_rfl) (by kernel_rfl) (by kernel_rfl) rfl (mgo_fin hmix e hp)
noncomputable def body105 : Code := (Tryz.f105.body).getD .skip
noncomputable def cx105 : Cx := ⟨Tryz.prog, noHand, [2], [], [], []⟩
theorem c105 (nb : Nat) {a : List AV} {b b2 : List (List Cell)} {r : ARes} (ad : Advs) {ps : List Prop} (e : mgo cx105 Tryz.f105 nb 1000000 [.code body105] (fr0 Tryz.f105 a b) ad = some (.fin r b2, ps)) (hp : AllP ps) : Ev Tryz.prog noHand 105 a b r b2 := ev_of_fin (fn := Tryz.f105) (body := body105) (by kernel_rfl) (by kernel_rfl) (by kernel_rfl) rfl (mgo_fin hmix e hp)
noncomputable def body107 : Code := (Tryz.f107.body).getD .skip
noncomputable def cx107 : Cx := ⟨Tryz.prog, noHand, [2], [], [], []⟩
theorem c107 (nb : Nat) {a : List AV} {b b2 : List (List Cell)} {r : ARes} (ad : Advs) {ps : List Prop} (e : mgo cx107 Tryz.f107 nb 1000000 [.code body107] (fr0 Tryz.f107 a b) ad = some (.fin r b2, ps)) (hp : AllP ps) : Ev Tryz.prog noHand 107 a b r b2 := ev_of_fin (fn := Tryz.f107) (body := body107) (by kernel_rfl) (by kernel_rfl) (by kernel_rfl) rfl (mgo_fin hmix e hp)
end Ab
end Go.Proofs.YtgghingfdcmelaaGreat

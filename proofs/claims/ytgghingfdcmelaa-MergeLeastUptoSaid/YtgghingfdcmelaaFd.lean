/-
  Definitions alone: the bodies of the functions, and what stands about each.
-/
import Derived.Test.YtgghingfdcmelaaLibD
import Derived.KernelRfl
set_option linter.unusedVariables false
set_option linter.unusedSimpArgs false
namespace Go.Proofs.Ytgghingfdcmelaa
namespace Ab
theorem hmix : Try.prog.follows .mixedOrders = true := by kernel_rfl
theorem okF (more : List (List Cell)) {a : Prop} (h : a) : a ∧ (false = true → more.isEmpty = false) := ⟨h, fun e => by cases e⟩
theorem okT {a q : Prop} (h : a) (hq : q) : a ∧ (true = true → q) := ⟨h, fun _ => hq⟩
noncomputable def body3 : Code := (Try.f3.body).getD .skip
noncomputable def cx3 : Cx := ⟨Try.prog, noHand, [2, 4], [], []⟩
theorem c3 (nb : Nat) {a : List AV} {b b2 : List (List Cell)} {r : ARes} (ad : Advs) {ps : List Prop} (e : mgo cx3 Try.f3 nb 1000000 [.code body3] (fr0 Try.f3 a b) ad = some (.fin r b2, ps)) (hp : AllP ps) : Ev Try.prog noHand 3 a b r b2 := ev_of_fin (fn := Try.f3) (body := body3) (by kernel_rfl) (by kernel_rfl) (by kernel_rfl) rfl (mgo_fin hmix e hp)
noncomputable def body4 : Code := (Try.f4.body).getD .skip
noncomputable def cx4 : Cx := ⟨Try.prog, noHand, [0, 2, 4], [], []⟩
theorem c4 (nb : Nat) {a : List AV} {b b2 : List (List Cell)} {r : ARes} (ad : Advs) {ps : List Prop} (e : mgo cx4 Try.f4 nb 1000000 [.code body4] (fr0 Try.f4 a b) ad = some (.fin r b2, ps)) (hp : AllP ps) : Ev Try.prog noHand 4 a b r b2 := ev_of_fin (fn := Try.f4) (body := body4) (by kernel_rfl) (by kernel_rfl) (by kernel_rfl) rfl (mgo_fin hmix e hp)
noncomputable def body5 : Code := (Try.f5.body).getD .skip
noncomputable def cx5 : Cx := ⟨Try.prog, noHand, [2, 3], [], []⟩
theorem c5 (nb : Nat) {a : List AV} {b b2 : List (List Cell)} {r : ARes} (ad : Advs) {ps : List Prop} (e : mgo cx5 Try.f5 nb 1000000 [.code body5] (fr0 Try.f5 a b) ad = some (.fin r b2, ps)) (hp : AllP ps) : Ev Try.prog noHand 5 a b r b2 := ev_of_fin (fn := Try.f5) (body := body5) (by kernel_rfl) (by kernel_rfl) (by kernel_rfl) rfl (mgo_fin hmix e hp)
noncomputable def body6 : Code := (Try.f6.body).getD .skip
noncomputable def cx6 : Cx := ⟨Try.prog, noHand, [4, 5, 7, 8], [], []⟩
theorem c6 (nb : Nat) {a : List AV} {b b2 : List (List Cell)} {r : ARes} (ad : Advs) {ps : List Prop} (e : mgo cx6 Try.f6 nb 1000000 [.code body6] (fr0 Try.f6 a b) ad = some (.fin r b2, ps)) (hp : AllP ps) : Ev Try.prog noHand 6 a b r b2 := ev_of_fin (fn := Try.f6) (body := body6) (by kernel_rfl) (by kernel_rfl) (by kernel_rfl) rfl (mgo_fin hmix e hp)
noncomputable def body7 : Code := (Try.f7.body).getD .skip
noncomputable def cx7 : Cx := ⟨Try.prog, noHand, [2, 3], [], []⟩
theorem c7 (nb : Nat) {a : List AV} {b b2 : List (List Cell)} {r : ARes} (ad : Advs) {ps : List Prop} (e : mgo cx7 Try.f7 nb 1000000 [.code body7] (fr0 Try.f7 a b) ad = some (.fin r b2, ps)) (hp : AllP ps) : Ev Try.prog noHand 7 a b r b2 := ev_of_fin (fn := Try.f7) (body := body7) (by kernel_rfl) (by kernel_rfl) (by kernel_rfl) rfl (mgo_fin hmix e hp)
noncomputable def body8 : Code := (Try.f8.body).getD .skip
noncomputable def cx8 : Cx := ⟨Try.prog, noHand, [4], [], []⟩
theorem c8 (nb : Nat) {a : List AV} {b b2 : List (List Cell)} {r : ARes} (ad : Advs) {ps : List Prop} (e : mgo cx8 Try.f8 nb 1000000 [.code body8] (fr0 Try.f8 a b) ad = some (.fin r b2, ps)) (hp : AllP ps) : Ev Try.prog noHand 8 a b r b2 := ev_of_fin (fn := Try.f8) (body := body8) (by kernel_rfl) (by kernel_rfl) (by kernel_rfl) rfl (mgo_fin hmix e hp)
noncomputable def body9 : Code := (Try.f9.body).getD .skip
noncomputable def cx9 : Cx := ⟨Try.prog, noHand, [5, 7, 8, 10, 11], [], []⟩
theorem c9 (nb : Nat) {a : List AV} {b b2 : List (List Cell)} {r : ARes} (ad : Advs) {ps : List Prop} (e : mgo cx9 Try.f9 nb 1000000 [.code body9] (fr0 Try.f9 a b) ad = some (.fin r b2, ps)) (hp : AllP ps) : Ev Try.prog noHand 9 a b r b2 := ev_of_fin (fn := Try.f9) (body := body9) (by kernel_rfl) (by kernel_rfl) (by kernel_rfl) rfl (mgo_fin hmix e hp)
noncomputable def body10 : Code := (Try.f10.body).getD .skip
noncomputable def cx10 : Cx := ⟨Try.prog, noHand, [], [], []⟩
theorem c10 (nb : Nat) {a : List AV} {b b2 : List (List Cell)} {r : ARes} (ad : Advs) {ps : List Prop} (e : mgo cx10 Try.f10 nb 1000000 [.code body10] (fr0 Try.f10 a b) ad = some (.fin r b2, ps)) (hp : AllP ps) : Ev Try.prog noHand 10 a b r b2 := ev_of_fin (fn := Try.f10) (body := body10) (by kernel_rfl) (by kernel_rfl) (by kernel_rfl) rfl (mgo_fin hmix e hp)
noncomputable def body11 : Code := (Try.f11.body).getD .skip
noncomputable def cx11 : Cx := ⟨Try.prog, noHand, [3, 7, 8, 9], [], []⟩
theorem c11 (nb : Nat) {a : List AV} {b b2 : List (List Cell)} {r : ARes} (ad : Advs) {ps : List Prop} (e : mgo cx11 Try.f11 nb 1000000 [.code body11] (fr0 Try.f11 a b) ad = some (.fin r b2, ps)) (hp : AllP ps) : Ev Try.prog noHand 11 a b r b2 := ev_of_fin (fn := Try.f11) (body := body11) (by kernel_rfl) (by kernel_rfl) (by kernel_rfl) rfl (mgo_fin hmix e hp)
noncomputable def body12 : Code := (Try.f12.body).getD .skip
noncomputable def cx12 : Cx := ⟨Try.prog, noHand, [2, 3], [], []⟩
theorem c12 (nb : Nat) {a : List AV} {b b2 : List (List Cell)} {r : ARes} (ad : Advs) {ps : List Prop} (e : mgo cx12 Try.f12 nb 1000000 [.code body12] (fr0 Try.f12 a b) ad = some (.fin r b2, ps)) (hp : AllP ps) : Ev Try.prog noHand 12 a b r b2 := ev_of_fin (fn := Try.f12) (body := body12) (by kernel_rfl) (by kernel_rfl) (by kernel_rfl) rfl (mgo_fin hmix e hp)
noncomputable def body13 : Code := (Try.f13.body).getD .skip
noncomputable def cx13 : Cx := ⟨Try.prog, noHand, [2, 3], [], []⟩
theorem c13 (nb : Nat) {a : List AV} {b b2 : List (List Cell)} {r : ARes} (ad : Advs) {ps : List Prop} (e : mgo cx13 Try.f13 nb 1000000 [.code body13] (fr0 Try.f13 a b) ad = some (.fin r b2, ps)) (hp : AllP ps) : Ev Try.prog noHand 13 a b r b2 := ev_of_fin (fn := Try.f13) (body := body13) (by kernel_rfl) (by kernel_rfl) (by kernel_rfl) rfl (mgo_fin hmix e hp)
noncomputable def body14 : Code := (Try.f14.body).getD .skip
noncomputable def cx14 : Cx := ⟨Try.prog, noHand, [4, 5], [], []⟩
theorem c14 (nb : Nat) {a : List AV} {b b2 : List (List Cell)} {r : ARes} (ad : Advs) {ps : List Prop} (e : mgo cx14 Try.f14 nb 1000000 [.code body14] (fr0 Try.f14 a b) ad = some (.fin r b2, ps)) (hp : AllP ps) : Ev Try.prog noHand 14 a b r b2 := ev_of_fin (fn := Try.f14) (body := body14) (by kernel_rfl) (by kernel_rfl) (by kernel_rfl) rfl (mgo_fin hmix e hp)
noncomputable def body15 : Code := (Try.f15.body).getD .skip
noncomputable def cx15 : Cx := ⟨Try.prog, noHand, [4, 5], [], []⟩
theorem c15 (nb : Nat) {a : List AV} {b b2 : List (List Cell)} {r : ARes} (ad : Advs) {ps : List Prop} (e : mgo cx15 Try.f15 nb 1000000 [.code body15] (fr0 Try.f15 a b) ad = some (.fin r b2, ps)) (hp : AllP ps) : Ev Try.prog noHand 15 a b r b2 := ev_of_fin (fn := Try.f15) (body := body15) (by kernel_rfl) (by kernel_rfl) (by kernel_rfl) rfl (mgo_fin hmix e hp)
noncomputable def body16 : Code := (Try.f16.body).getD .skip
noncomputable def cx16 : Cx := ⟨Try.prog, noHand, [6, 7], [], []⟩
theorem c16 (nb : Nat) {a : List AV} {b b2 : List (List Cell)} {r : ARes} (ad : Advs) {ps : List Prop} (e : mgo cx16 Try.f16 nb 1000000 [.code body16] (fr0 Try.f16 a b) ad = some (.fin r b2, ps)) (hp : AllP ps) : Ev Try.prog noHand 16 a b r b2 := ev_of_fin (fn := Try.f16) (body := body16) (by kernel_rfl) (by kernel_rfl) (by kernel_rfl) rfl (mgo_fin hmix e hp)
noncomputable def body17 : Code := (Try.f17.body).getD .skip
noncomputable def cx17 : Cx := ⟨Try.prog, noHand, [4], [], []⟩
theorem c17 (nb : Nat) {a : List AV} {b b2 : List (List Cell)} {r : ARes} (ad : Advs) {ps : List Prop} (e : mgo cx17 Try.f17 nb 1000000 [.code body17] (fr0 Try.f17 a b) ad = some (.fin r b2, ps)) (hp : AllP ps) : Ev Try.prog noHand 17 a b r b2 := ev_of_fin (fn := Try.f17) (body := body17) (by kernel_rfl) (by kernel_rfl) (by kernel_rfl) rfl (mgo_fin hmix e hp)
noncomputable def body18 : Code := (Try.f18.body).getD .skip
noncomputable def cx18 : Cx := ⟨Try.prog, noHand, [4], [], []⟩
theorem c18 (nb : Nat) {a : List AV} {b b2 : List (List Cell)} {r : ARes} (ad : Advs) {ps : List Prop} (e : mgo cx18 Try.f18 nb 1000000 [.code body18] (fr0 Try.f18 a b) ad = some (.fin r b2, ps)) (hp : AllP ps) : Ev Try.prog noHand 18 a b r b2 := ev_of_fin (fn := Try.f18) (body := body18) (by kernel_rfl) (by kernel_rfl) (by kernel_rfl) rfl (mgo_fin hmix e hp)
noncomputable def body19 : Code := (Try.f19.body).getD .skip
noncomputable def cx19 : Cx := ⟨Try.prog, noHand, [4], [], []⟩
theorem c19 (nb : Nat) {a : List AV} {b b2 : List (List Cell)} {r : ARes} (ad : Advs) {ps : List Prop} (e : mgo cx19 Try.f19 nb 1000000 [.code body19] (fr0 Try.f19 a b) ad = some (.fin r b2, ps)) (hp : AllP ps) : Ev Try.prog noHand 19 a b r b2 := ev_of_fin (fn := Try.f19) (body := body19) (by kernel_rfl) (by kernel_rfl) (by kernel_rfl) rfl (mgo_fin hmix e hp)
noncomputable def body20 : Code := (Try.f20.body).getD .skip
noncomputable def cx20 : Cx := ⟨Try.prog, noHand, [6, 7], [], []⟩
theorem c20 (nb : Nat) {a : List AV} {b b2 : List (List Cell)} {r : ARes} (ad : Advs) {ps : List Prop} (e : mgo cx20 Try.f20 nb 1000000 [.code body20] (fr0 Try.f20 a b) ad = some (.fin r b2, ps)) (hp : AllP ps) : Ev Try.prog noHand 20 a b r b2 := ev_of_fin (fn := Try.f20) (body := body20) (by kernel_rfl) (by kernel_rfl) (by kernel_rfl) rfl (mgo_fin hmix e hp)
noncomputable def body21 : Code := (Try.f21.body).getD .skip
noncomputable def cx21 : Cx := ⟨Try.prog, noHand, [4], [], []⟩
theorem c21 (nb : Nat) {a : List AV} {b b2 : List (List Cell)} {r : ARes} (ad : Advs) {ps : List Prop} (e : mgo cx21 Try.f21 nb 1000000 [.code body21] (fr0 Try.f21 a b) ad = some (.fin r b2, ps)) (hp : AllP ps) : Ev Try.prog noHand 21 a b r b2 := ev_of_fin (fn := Try.f21) (body := body21) (by kernel_rfl) (by kernel_rfl) (by kernel_rfl) rfl (mgo_fin hmix e hp)
noncomputable def body22 : Code := (Try.f22.body).getD .skip
noncomputable def cx22 : Cx := ⟨Try.prog, noHand, [3, 4, 5, 6, 7, 8], [], []⟩
theorem c22 (nb : Nat) {a : List AV} {b b2 : List (List Cell)} {r : ARes} (ad : Advs) {ps : List Prop} (e : mgo cx22 Try.f22 nb 1000000 [.code body22] (fr0 Try.f22 a b) ad = some (.fin r b2, ps)) (hp : AllP ps) : Ev Try.prog noHand 22 a b r b2 := ev_of_fin (fn := Try.f22) (body := body22) (by kernel_rfl) (by kernel_rfl) (by kernel_rfl) rfl (mgo_fin hmix e hp)
noncomputable def body23 : Code := (Try.f23.body).getD .skip
noncomputable def cx23 : Cx := ⟨Try.prog, noHand, [5, 6, 7, 8, 9, 10, 12, 13, 14], [], []⟩
theorem c23 (nb : Nat) {a : List AV} {b b2 : List (List Cell)} {r : ARes} (ad : Advs) {ps : List Prop} (e : mgo cx23 Try.f23 nb 1000000 [.code body23] (fr0 Try.f23 a b) ad = some (.fin r b2, ps)) (hp : AllP ps) : Ev Try.prog noHand 23 a b r b2 := ev_of_fin (fn := Try.f23) (body := body23) (by kernel_rfl) (by kernel_rfl) (by kernel_rfl) rfl (mgo_fin hmix e hp)
noncomputable def body24 : Code := (Try.f24.body).getD .skip
noncomputable def cx24 : Cx := ⟨Try.prog, noHand, [2, 3, 4], [], []⟩
theorem c24 (nb : Nat) {a : List AV} {b b2 : List (List Cell)} {r : ARes} (ad : Advs) {ps : List Prop} (e : mgo cx24 Try.f24 nb 1000000 [.code body24] (fr0 Try.f24 a b) ad = some (.fin r b2, ps)) (hp : AllP ps) : Ev Try.prog noHand 24 a b r b2 := ev_of_fin (fn := Try.f24) (body := body24) (by kernel_rfl) (by kernel_rfl) (by kernel_rfl) rfl (mgo_fin hmix e hp)
noncomputable def body25 : Code := (Try.f25.body).getD .skip
noncomputable def cx25 : Cx := ⟨Try.prog, noHand, [2, 3, 4], [], []⟩
theorem c25 (nb : Nat) {a : List AV} {b b2 : List (List Cell)} {r : ARes} (ad : Advs) {ps : List Prop} (e : mgo cx25 Try.f25 nb 1000000 [.code body25] (fr0 Try.f25 a b) ad = some (.fin r b2, ps)) (hp : AllP ps) : Ev Try.prog noHand 25 a b r b2 := ev_of_fin (fn := Try.f25) (body := body25) (by kernel_rfl) (by kernel_rfl) (by kernel_rfl) rfl (mgo_fin hmix e hp)
noncomputable def body26 : Code := (Try.f26.body).getD .skip
noncomputable def cx26 : Cx := ⟨Try.prog, noHand, [6, 7, 8], [], []⟩
theorem c26 (nb : Nat) {a : List AV} {b b2 : List (List Cell)} {r : ARes} (ad : Advs) {ps : List Prop} (e : mgo cx26 Try.f26 nb 1000000 [.code body26] (fr0 Try.f26 a b) ad = some (.fin r b2, ps)) (hp : AllP ps) : Ev Try.prog noHand 26 a b r b2 := ev_of_fin (fn := Try.f26) (body := body26) (by kernel_rfl) (by kernel_rfl) (by kernel_rfl) rfl (mgo_fin hmix e hp)
noncomputable def body27 : Code := (Try.f27.body).getD .skip
noncomputable def cx27 : Cx := ⟨Try.prog, noHand, [4], [], []⟩
theorem c27 (nb : Nat) {a : List AV} {b b2 : List (List Cell)} {r : ARes} (ad : Advs) {ps : List Prop} (e : mgo cx27 Try.f27 nb 1000000 [.code body27] (fr0 Try.f27 a b) ad = some (.fin r b2, ps)) (hp : AllP ps) : Ev Try.prog noHand 27 a b r b2 := ev_of_fin (fn := Try.f27) (body := body27) (by kernel_rfl) (by kernel_rfl) (by kernel_rfl) rfl (mgo_fin hmix e hp)
noncomputable def body28 : Code := (Try.f28.body).getD .skip
noncomputable def cx28 : Cx := ⟨Try.prog, noHand, [6, 7], [], []⟩
theorem c28 (nb : Nat) {a : List AV} {b b2 : List (List Cell)} {r : ARes} (ad : Advs) {ps : List Prop} (e : mgo cx28 Try.f28 nb 1000000 [.code body28] (fr0 Try.f28 a b) ad = some (.fin r b2, ps)) (hp : AllP ps) : Ev Try.prog noHand 28 a b r b2 := ev_of_fin (fn := Try.f28) (body := body28) (by kernel_rfl) (by kernel_rfl) (by kernel_rfl) rfl (mgo_fin hmix e hp)
noncomputable def body29 : Code := (Try.f29.body).getD .skip
noncomputable def cx29 : Cx := ⟨Try.prog, noHand, [4], [], []⟩
theorem c29 (nb : Nat) {a : List AV} {b b2 : List (List Cell)} {r : ARes} (ad : Advs) {ps : List Prop} (e : mgo cx29 Try.f29 nb 1000000 [.code body29] (fr0 Try.f29 a b) ad = some (.fin r b2, ps)) (hp : AllP ps) : Ev Try.prog noHand 29 a b r b2 := ev_of_fin (fn := Try.f29) (body := body29) (by kernel_rfl) (by kernel_rfl) (by kernel_rfl) rfl (mgo_fin hmix e hp)
noncomputable def body30 : Code := (Try.f30.body).getD .skip
noncomputable def cx30 : Cx := ⟨Try.prog, noHand, [6, 7], [], []⟩
theorem c30 (nb : Nat) {a : List AV} {b b2 : List (List Cell)} {r : ARes} (ad : Advs) {ps : List Prop} (e : mgo cx30 Try.f30 nb 1000000 [.code body30] (fr0 Try.f30 a b) ad = some (.fin r b2, ps)) (hp : AllP ps) : Ev Try.prog noHand 30 a b r b2 := ev_of_fin (fn := Try.f30) (body := body30) (by kernel_rfl) (by kernel_rfl) (by kernel_rfl) rfl (mgo_fin hmix e hp)
noncomputable def body31 : Code := (Try.f31.body).getD .skip
noncomputable def cx31 : Cx := ⟨Try.prog, noHand, [4], [], []⟩
theorem c31 (nb : Nat) {a : List AV} {b b2 : List (List Cell)} {r : ARes} (ad : Advs) {ps : List Prop} (e : mgo cx31 Try.f31 nb 1000000 [.code body31] (fr0 Try.f31 a b) ad = some (.fin r b2, ps)) (hp : AllP ps) : Ev Try.prog noHand 31 a b r b2 := ev_of_fin (fn := Try.f31) (body := body31) (by kernel_rfl) (by kernel_rfl) (by kernel_rfl) rfl (mgo_fin hmix e hp)
noncomputable def body32 : Code := (Try.f32.body).getD .skip
noncomputable def cx32 : Cx := ⟨Try.prog, noHand, [2, 3, 4, 5, 6, 8], [], []⟩
theorem c32 (nb : Nat) {a : List AV} {b b2 : List (List Cell)} {r : ARes} (ad : Advs) {ps : List Prop} (e : mgo cx32 Try.f32 nb 1000000 [.code body32] (fr0 Try.f32 a b) ad = some (.fin r b2, ps)) (hp : AllP ps) : Ev Try.prog noHand 32 a b r b2 := ev_of_fin (fn := Try.f32) (body := body32) (by kernel_rfl) (by kernel_rfl) (by kernel_rfl) rfl (mgo_fin hmix e hp)
noncomputable def body33 : Code := (Try.f33.body).getD .skip
noncomputable def cx33 : Cx := ⟨Try.prog, noHand, [], [], []⟩
theorem c33 (nb : Nat) {a : List AV} {b b2 : List (List Cell)} {r : ARes} (ad : Advs) {ps : List Prop} (e : mgo cx33 Try.f33 nb 1000000 [.code body33] (fr0 Try.f33 a b) ad = some (.fin r b2, ps)) (hp : AllP ps) : Ev Try.prog noHand 33 a b r b2 := ev_of_fin (fn := Try.f33) (body := body33) (by kernel_rfl) (by kernel_rfl) (by kernel_rfl) rfl (mgo_fin hmix e hp)
noncomputable def body34 : Code := (Try.f34.body).getD .skip
noncomputable def cx34 : Cx := ⟨Try.prog, noHand, [2], [], []⟩
theorem c34 (nb : Nat) {a : List AV} {b b2 : List (List Cell)} {r : ARes} (ad : Advs) {ps : List Prop} (e : mgo cx34 Try.f34 nb 1000000 [.code body34] (fr0 Try.f34 a b) ad = some (.fin r b2, ps)) (hp : AllP ps) : Ev Try.prog noHand 34 a b r b2 := ev_of_fin (fn := Try.f34) (body := body34) (by kernel_rfl) (by kernel_rfl) (by kernel_rfl) rfl (mgo_fin hmix e hp)
noncomputable def body35 : Code := (Try.f35.body).getD .skip
noncomputable def cx35 : Cx := ⟨Try.prog, noHand, [4], [], []⟩
theorem c35 (nb : Nat) {a : List AV} {b b2 : List (List Cell)} {r : ARes} (ad : Advs) {ps : List Prop} (e : mgo cx35 Try.f35 nb 1000000 [.code body35] (fr0 Try.f35 a b) ad = some (.fin r b2, ps)) (hp : AllP ps) : Ev Try.prog noHand 35 a b r b2 := ev_of_fin (fn := Try.f35) (body := body35) (by kernel_rfl) (by kernel_rfl) (by kernel_rfl) rfl (mgo_fin hmix e hp)
noncomputable def body36 : Code := (Try.f36.body).getD .skip
noncomputable def cx36 : Cx := ⟨Try.prog, noHand, [3, 4, 5], [], []⟩
theorem c36 (nb : Nat) {a : List AV} {b b2 : List (List Cell)} {r : ARes} (ad : Advs) {ps : List Prop} (e : mgo cx36 Try.f36 nb 1000000 [.code body36] (fr0 Try.f36 a b) ad = some (.fin r b2, ps)) (hp : AllP ps) : Ev Try.prog noHand 36 a b r b2 := ev_of_fin (fn := Try.f36) (body := body36) (by kernel_rfl) (by kernel_rfl) (by kernel_rfl) rfl (mgo_fin hmix e hp)
noncomputable def body37 : Code := (Try.f37.body).getD .skip
noncomputable def cx37 : Cx := ⟨Try.prog, noHand, [2, 3], [], []⟩
theorem c37 (nb : Nat) {a : List AV} {b b2 : List (List Cell)} {r : ARes} (ad : Advs) {ps : List Prop} (e : mgo cx37 Try.f37 nb 1000000 [.code body37] (fr0 Try.f37 a b) ad = some (.fin r b2, ps)) (hp : AllP ps) : Ev Try.prog noHand 37 a b r b2 := ev_of_fin (fn := Try.f37) (body := body37) (by kernel_rfl) (by kernel_rfl) (by kernel_rfl) rfl (mgo_fin hmix e hp)
noncomputable def body38 : Code := (Try.f38.body).getD .skip
noncomputable def cx38 : Cx := ⟨Try.prog, noHand, [], [], []⟩
theorem c38 (nb : Nat) {a : List AV} {b b2 : List (List Cell)} {r : ARes} (ad : Advs) {ps : List Prop} (e : mgo cx38 Try.f38 nb 1000000 [.code body38] (fr0 Try.f38 a b) ad = some (.fin r b2, ps)) (hp : AllP ps) : Ev Try.prog noHand 38 a b r b2 := ev_of_fin (fn := Try.f38) (body := body38) (by kernel_rfl) (by kernel_rfl) (by kernel_rfl) rfl (mgo_fin hmix e hp)
noncomputable def body39 : Code := (Try.f39.body).getD .skip
noncomputable def cx39 : Cx := ⟨Try.prog, noHand, [2, 3, 4], [], []⟩
theorem c39 (nb : Nat) {a : List AV} {b b2 : List (List Cell)} {r : ARes} (ad : Advs) {ps : List Prop} (e : mgo cx39 Try.f39 nb 1000000 [.code body39] (fr0 Try.f39 a b) ad = some (.fin r b2, ps)) (hp : AllP ps) : Ev Try.prog noHand 39 a b r b2 := ev_of_fin (fn := Try.f39) (body := body39) (by kernel_rfl) (by kernel_rfl) (by kernel_rfl) rfl (mgo_fin hmix e hp)
noncomputable def body40 : Code := (Try.f40.body).getD .skip
noncomputable def cx40 : Cx := ⟨Try.prog, noHand, [2, 3, 4, 5, 6, 11], [], []⟩
theorem c40 (nb : Nat) {a : List AV} {b b2 : List (List Cell)} {r : ARes} (ad : Advs) {ps : List Prop} (e : mgo cx40 Try.f40 nb 1000000 [.code body40] (fr0 Try.f40 a b) ad = some (.fin r b2, ps)) (hp : AllP ps) : Ev Try.prog noHand 40 a b r b2 := ev_of_fin (fn := Try.f40) (body := body40) (by kernel_rfl) (by kernel_rfl) (by kernel_rfl) rfl (mgo_fin hmix e hp)
noncomputable def body41 : Code := (Try.f41.body).getD .skip
noncomputable def cx41 : Cx := ⟨Try.prog, noHand, [2, 3, 4, 5, 6, 7, 8, 9, 10], [], []⟩
theorem c41 (nb : Nat) {a : List AV} {b b2 : List (List Cell)} {r : ARes} (ad : Advs) {ps : List Prop} (e : mgo cx41 Try.f41 nb 1000000 [.code body41] (fr0 Try.f41 a b) ad = some (.fin r b2, ps)) (hp : AllP ps) : Ev Try.prog noHand 41 a b r b2 := ev_of_fin (fn := Try.f41) (body := body41) (by kernel_rfl) (by kernel_rfl) (by kernel_rfl) rfl (mgo_fin hmix e hp)
noncomputable def body42 : Code := (Try.f42.body).getD .skip
noncomputable def cx42 : Cx := ⟨Try.prog, noHand, [10, 11, 13, 15], [], []⟩
theorem c42 (nb : Nat) {a : List AV} {b b2 : List (List Cell)} {r : ARes} (ad : Advs) {ps : List Prop} (e : mgo cx42 Try.f42 nb 1000000 [.code body42] (fr0 Try.f42 a b) ad = some (.fin r b2, ps)) (hp : AllP ps) : Ev Try.prog noHand 42 a b r b2 := ev_of_fin (fn := Try.f42) (body := body42) (by kernel_rfl) (by kernel_rfl) (by kernel_rfl) rfl (mgo_fin hmix e hp)
noncomputable def body43 : Code := (Try.f43.body).getD .skip
noncomputable def cx43 : Cx := ⟨Try.prog, noHand, [4, 5, 8, 9, 10, 11], [], []⟩
theorem c43 (nb : Nat) {a : List AV} {b b2 : List (List Cell)} {r : ARes} (ad : Advs) {ps : List Prop} (e : mgo cx43 Try.f43 nb 1000000 [.code body43] (fr0 Try.f43 a b) ad = some (.fin r b2, ps)) (hp : AllP ps) : Ev Try.prog noHand 43 a b r b2 := ev_of_fin (fn := Try.f43) (body := body43) (by kernel_rfl) (by kernel_rfl) (by kernel_rfl) rfl (mgo_fin hmix e hp)
noncomputable def body44 : Code := (Try.f44.body).getD .skip
noncomputable def cx44 : Cx := ⟨Try.prog, noHand, [6, 7, 8, 9, 11, 12, 15, 20], [], []⟩
theorem c44 (nb : Nat) {a : List AV} {b b2 : List (List Cell)} {r : ARes} (ad : Advs) {ps : List Prop} (e : mgo cx44 Try.f44 nb 1000000 [.code body44] (fr0 Try.f44 a b) ad = some (.fin r b2, ps)) (hp : AllP ps) : Ev Try.prog noHand 44 a b r b2 := ev_of_fin (fn := Try.f44) (body := body44) (by kernel_rfl) (by kernel_rfl) (by kernel_rfl) rfl (mgo_fin hmix e hp)
noncomputable def body45 : Code := (Try.f45.body).getD .skip
noncomputable def cx45 : Cx := ⟨Try.prog, noHand, [], [], []⟩
theorem c45 (nb : Nat) {a : List AV} {b b2 : List (List Cell)} {r : ARes} (ad : Advs) {ps : List Prop} (e : mgo cx45 Try.f45 nb 1000000 [.code body45] (fr0 Try.f45 a b) ad = some (.fin r b2, ps)) (hp : AllP ps) : Ev Try.prog noHand 45 a b r b2 := ev_of_fin (fn := Try.f45) (body := body45) (by kernel_rfl) (by kernel_rfl) (by kernel_rfl) rfl (mgo_fin hmix e hp)
noncomputable def body46 : Code := (Try.f46.body).getD .skip
noncomputable def cx46 : Cx := ⟨Try.prog, noHand, [], [], []⟩
theorem c46 (nb : Nat) {a : List AV} {b b2 : List (List Cell)} {r : ARes} (ad : Advs) {ps : List Prop} (e : mgo cx46 Try.f46 nb 1000000 [.code body46] (fr0 Try.f46 a b) ad = some (.fin r b2, ps)) (hp : AllP ps) : Ev Try.prog noHand 46 a b r b2 := ev_of_fin (fn := Try.f46) (body := body46) (by kernel_rfl) (by kernel_rfl) (by kernel_rfl) rfl (mgo_fin hmix e hp)
noncomputable def body47 : Code := (Try.f47.body).getD .skip
noncomputable def cx47 : Cx := ⟨Try.prog, noHand, [2], [], []⟩
theorem c47 (nb : Nat) {a : List AV} {b b2 : List (List Cell)} {r : ARes} (ad : Advs) {ps : List Prop} (e : mgo cx47 Try.f47 nb 1000000 [.code body47] (fr0 Try.f47 a b) ad = some (.fin r b2, ps)) (hp : AllP ps) : Ev Try.prog noHand 47 a b r b2 := ev_of_fin (fn := Try.f47) (body := body47) (by kernel_rfl) (by kernel_rfl) (by kernel_rfl) rfl (mgo_fin hmix e hp)
noncomputable def body48 : Code := (Try.f48.body).getD .skip
noncomputable def cx48 : Cx := ⟨Try.prog, noHand, [5, 6, 7, 8, 9, 10, 12], [], []⟩
theorem c48 (nb : Nat) {a : List AV} {b b2 : List (List Cell)} {r : ARes} (ad : Advs) {ps : List Prop} (e : mgo cx48 Try.f48 nb 1000000 [.code body48] (fr0 Try.f48 a b) ad = some (.fin r b2, ps)) (hp : AllP ps) : Ev Try.prog noHand 48 a b r b2 := ev_of_fin (fn := Try.f48) (body := body48) (by kernel_rfl) (by kernel_rfl) (by kernel_rfl) rfl (mgo_fin hmix e hp)
noncomputable def body49 : Code := (Try.f49.body).getD .skip
noncomputable def cx49 : Cx := ⟨Try.prog, noHand, [], [], []⟩
theorem c49 (nb : Nat) {a : List AV} {b b2 : List (List Cell)} {r : ARes} (ad : Advs) {ps : List Prop} (e : mgo cx49 Try.f49 nb 1000000 [.code body49] (fr0 Try.f49 a b) ad = some (.fin r b2, ps)) (hp : AllP ps) : Ev Try.prog noHand 49 a b r b2 := ev_of_fin (fn := Try.f49) (body := body49) (by kernel_rfl) (by kernel_rfl) (by kernel_rfl) rfl (mgo_fin hmix e hp)
noncomputable def body50 : Code := (Try.f50.body).getD .skip
noncomputable def cx50 : Cx := ⟨Try.prog, noHand, [], [], []⟩
theorem c50 (nb : Nat) {a : List AV} {b b2 : List (List Cell)} {r : ARes} (ad : Advs) {ps : List Prop} (e : mgo cx50 Try.f50 nb 1000000 [.code body50] (fr0 Try.f50 a b) ad = some (.fin r b2, ps)) (hp : AllP ps) : Ev Try.prog noHand 50 a b r b2 := ev_of_fin (fn := Try.f50) (body := body50) (by kernel_rfl) (by kernel_rfl) (by kernel_rfl) rfl (mgo_fin hmix e hp)
noncomputable def body51 : Code := (Try.f51.body).getD .skip
noncomputable def cx51 : Cx := ⟨Try.prog, noHand, [5, 6, 7, 8], [], []⟩
theorem c51 (nb : Nat) {a : List AV} {b b2 : List (List Cell)} {r : ARes} (ad : Advs) {ps : List Prop} (e : mgo cx51 Try.f51 nb 1000000 [.code body51] (fr0 Try.f51 a b) ad = some (.fin r b2, ps)) (hp : AllP ps) : Ev Try.prog noHand 51 a b r b2 := ev_of_fin (fn := Try.f51) (body := body51) (by kernel_rfl) (by kernel_rfl) (by kernel_rfl) rfl (mgo_fin hmix e hp)
noncomputable def body52 : Code := (Try.f52.body).getD .skip
noncomputable def cx52 : Cx := ⟨Try.prog, noHand, [2], [], []⟩
theorem c52 (nb : Nat) {a : List AV} {b b2 : List (List Cell)} {r : ARes} (ad : Advs) {ps : List Prop} (e : mgo cx52 Try.f52 nb 1000000 [.code body52] (fr0 Try.f52 a b) ad = some (.fin r b2, ps)) (hp : AllP ps) : Ev Try.prog noHand 52 a b r b2 := ev_of_fin (fn := Try.f52) (body := body52) (by kernel_rfl) (by kernel_rfl) (by kernel_rfl) rfl (mgo_fin hmix e hp)
noncomputable def body53 : Code := (Try.f53.body).getD .skip
noncomputable def cx53 : Cx := ⟨Try.prog, noHand, [], [], []⟩
theorem c53 (nb : Nat) {a : List AV} {b b2 : List (List Cell)} {r : ARes} (ad : Advs) {ps : List Prop} (e : mgo cx53 Try.f53 nb 1000000 [.code body53] (fr0 Try.f53 a b) ad = some (.fin r b2, ps)) (hp : AllP ps) : Ev Try.prog noHand 53 a b r b2 := ev_of_fin (fn := Try.f53) (body := body53) (by kernel_rfl) (by kernel_rfl) (by kernel_rfl) rfl (mgo_fin hmix e hp)
noncomputable def body54 : Code := (Try.f54.body).getD .skip
noncomputable def cx54 : Cx := ⟨Try.prog, noHand, [2], [], []⟩
theorem c54 (nb : Nat) {a : List AV} {b b2 : List (List Cell)} {r : ARes} (ad : Advs) {ps : List Prop} (e : mgo cx54 Try.f54 nb 1000000 [.code body54] (fr0 Try.f54 a b) ad = some (.fin r b2, ps)) (hp : AllP ps) : Ev Try.prog noHand 54 a b r b2 := ev_of_fin (fn := Try.f54) (body := body54) (by kernel_rfl) (by kernel_rfl) (by kernel_rfl) rfl (mgo_fin hmix e hp)
noncomputable def body55 : Code := (Try.f55.body).getD .skip
noncomputable def cx55 : Cx := ⟨Try.prog, noHand, [2, 3, 4], [], []⟩
theorem c55 (nb : Nat) {a : List AV} {b b2 : List (List Cell)} {r : ARes} (ad : Advs) {ps : List Prop} (e : mgo cx55 Try.f55 nb 1000000 [.code body55] (fr0 Try.f55 a b) ad = some (.fin r b2, ps)) (hp : AllP ps) : Ev Try.prog noHand 55 a b r b2 := ev_of_fin (fn := Try.f55) (body := body55) (by kernel_rfl) (by kernel_rfl) (by kernel_rfl) rfl (mgo_fin hmix e hp)
noncomputable def body56 : Code := (Try.f56.body).getD .skip
noncomputable def cx56 : Cx := ⟨Try.prog, noHand, [2, 3, 4, 5], [], []⟩
theorem c56 (nb : Nat) {a : List AV} {b b2 : List (List Cell)} {r : ARes} (ad : Advs) {ps : List Prop} (e : mgo cx56 Try.f56 nb 1000000 [.code body56] (fr0 Try.f56 a b) ad = some (.fin r b2, ps)) (hp : AllP ps) : Ev Try.prog noHand 56 a b r b2 := ev_of_fin (fn := Try.f56) (body := body56) (by kernel_rfl) (by kernel_rfl) (by kernel_rfl) rfl (mgo_fin hmix e hp)
noncomputable def body57 : Code := (Try.f57.body).getD .skip
noncomputable def cx57 : Cx := ⟨Try.prog, noHand, [2, 3, 5, 8], [], []⟩
theorem c57 (nb : Nat) {a : List AV} {b b2 : List (List Cell)} {r : ARes} (ad : Advs) {ps : List Prop} (e : mgo cx57 Try.f57 nb 1000000 [.code body57] (fr0 Try.f57 a b) ad = some (.fin r b2, ps)) (hp : AllP ps) : Ev Try.prog noHand 57 a b r b2 := ev_of_fin (fn := Try.f57) (body := body57) (by kernel_rfl) (by kernel_rfl) (by kernel_rfl) rfl (mgo_fin hmix e hp)
noncomputable def body58 : Code := (Try.f58.body).getD .skip
noncomputable def cx58 : Cx := ⟨Try.prog, noHand, [2, 3, 4], [], []⟩
theorem c58 (nb : Nat) {a : List AV} {b b2 : List (List Cell)} {r : ARes} (ad : Advs) {ps : List Prop} (e : mgo cx58 Try.f58 nb 1000000 [.code body58] (fr0 Try.f58 a b) ad = some (.fin r b2, ps)) (hp : AllP ps) : Ev Try.prog noHand 58 a b r b2 := ev_of_fin (fn := Try.f58) (body := body58) (by kernel_rfl) (by kernel_rfl) (by kernel_rfl) rfl (mgo_fin hmix e hp)
noncomputable def body59 : Code := (Try.f59.body).getD .skip
noncomputable def cx59 : Cx := ⟨Try.prog, noHand, [2, 3, 4, 5, 6, 7, 8, 9, 10, 11, 12, 64, 91, 101, 111, 122], [], []⟩
theorem c59 (nb : Nat) {a : List AV} {b b2 : List (List Cell)} {r : ARes} (ad : Advs) {ps : List Prop} (e : mgo cx59 Try.f59 nb 1000000 [.code body59] (fr0 Try.f59 a b) ad = some (.fin r b2, ps)) (hp : AllP ps) : Ev Try.prog noHand 59 a b r b2 := ev_of_fin (fn := Try.f59) (body := body59) (by kernel_rfl) (by kernel_rfl) (by kernel_rfl) rfl (mgo_fin hmix e hp)
noncomputable def body60 : Code := (Try.f60.body).getD .skip
noncomputable def cx60 : Cx := ⟨Try.prog, noHand, [2, 3, 4], [], []⟩
theorem c60 (nb : Nat) {a : List AV} {b b2 : List (List Cell)} {r : ARes} (ad : Advs) {ps : List Prop} (e : mgo cx60 Try.f60 nb 1000000 [.code body60] (fr0 Try.f60 a b) ad = some (.fin r b2, ps)) (hp : AllP ps) : Ev Try.prog noHand 60 a b r b2 := ev_of_fin (fn := Try.f60) (body := body60) (by kernel_rfl) (by kernel_rfl) (by kernel_rfl) rfl (mgo_fin hmix e hp)
noncomputable def body61 : Code := (Try.f61.body).getD .skip
noncomputable def cx61 : Cx := ⟨Try.prog, noHand, [4, 5], [], []⟩
theorem c61 (nb : Nat) {a : List AV} {b b2 : List (List Cell)} {r : ARes} (ad : Advs) {ps : List Prop} (e : mgo cx61 Try.f61 nb 1000000 [.code body61] (fr0 Try.f61 a b) ad = some (.fin r b2, ps)) (hp : AllP ps) : Ev Try.prog noHand 61 a b r b2 := ev_of_fin (fn := Try.f61) (body := body61) (by kernel_rfl) (by kernel_rfl) (by kernel_rfl) rfl (mgo_fin hmix e hp)
noncomputable def body62 : Code := (Try.f62.body).getD .skip
noncomputable def cx62 : Cx := ⟨Try.prog, noHand, [5], [], []⟩
theorem c62 (nb : Nat) {a : List AV} {b b2 : List (List Cell)} {r : ARes} (ad : Advs) {ps : List Prop} (e : mgo cx62 Try.f62 nb 1000000 [.code body62] (fr0 Try.f62 a b) ad = some (.fin r b2, ps)) (hp : AllP ps) : Ev Try.prog noHand 62 a b r b2 := ev_of_fin (fn := Try.f62) (body := body62) (by kernel_rfl) (by kernel_rfl) (by kernel_rfl) rfl (mgo_fin hmix e hp)
noncomputable def body63 : Code := (Try.f63.body).getD .skip
noncomputable def cx63 : Cx := ⟨Try.prog, noHand, [], [], []⟩
theorem c63 (nb : Nat) {a : List AV} {b b2 : List (List Cell)} {r : ARes} (ad : Advs) {ps : List Prop} (e : mgo cx63 Try.f63 nb 1000000 [.code body63] (fr0 Try.f63 a b) ad = some (.fin r b2, ps)) (hp : AllP ps) : Ev Try.prog noHand 63 a b r b2 := ev_of_fin (fn := Try.f63) (body := body63) (by kernel_rfl) (by kernel_rfl) (by kernel_rfl) rfl (mgo_fin hmix e hp)
noncomputable def body64 : Code := (Try.f64.body).getD .skip
noncomputable def cx64 : Cx := ⟨Try.prog, noHand, [6], [], []⟩
theorem c64 (nb : Nat) {a : List AV} {b b2 : List (List Cell)} {r : ARes} (ad : Advs) {ps : List Prop} (e : mgo cx64 Try.f64 nb 1000000 [.code body64] (fr0 Try.f64 a b) ad = some (.fin r b2, ps)) (hp : AllP ps) : Ev Try.prog noHand 64 a b r b2 := ev_of_fin (fn := Try.f64) (body := body64) (by kernel_rfl) (by kernel_rfl) (by kernel_rfl) rfl (mgo_fin hmix e hp)
noncomputable def body65 : Code := (Try.f65.body).getD .skip
noncomputable def cx65 : Cx := ⟨Try.prog, noHand, [6, 7], [], []⟩
theorem c65 (nb : Nat) {a : List AV} {b b2 : List (List Cell)} {r : ARes} (ad : Advs) {ps : List Prop} (e : mgo cx65 Try.f65 nb 1000000 [.code body65] (fr0 Try.f65 a b) ad = some (.fin r b2, ps)) (hp : AllP ps) : Ev Try.prog noHand 65 a b r b2 := ev_of_fin (fn := Try.f65) (body := body65) (by kernel_rfl) (by kernel_rfl) (by kernel_rfl) rfl (mgo_fin hmix e hp)
noncomputable def body66 : Code := (Try.f66.body).getD .skip
noncomputable def cx66 : Cx := ⟨Try.prog, noHand, [4, 5, 6, 7, 30, 34, 38, 42, 59], [], []⟩
theorem c66 (nb : Nat) {a : List AV} {b b2 : List (List Cell)} {r : ARes} (ad : Advs) {ps : List Prop} (e : mgo cx66 Try.f66 nb 1000000 [.code body66] (fr0 Try.f66 a b) ad = some (.fin r b2, ps)) (hp : AllP ps) : Ev Try.prog noHand 66 a b r b2 := ev_of_fin (fn := Try.f66) (body := body66) (by kernel_rfl) (by kernel_rfl) (by kernel_rfl) rfl (mgo_fin hmix e hp)
noncomputable def body67 : Code := (Try.f67.body).getD .skip
noncomputable def cx67 : Cx := ⟨Try.prog, noHand, [6, 7, 9, 10], [], []⟩
theorem c67 (nb : Nat) {a : List AV} {b b2 : List (List Cell)} {r : ARes} (ad : Advs) {ps : List Prop} (e : mgo cx67 Try.f67 nb 1000000 [.code body67] (fr0 Try.f67 a b) ad = some (.fin r b2, ps)) (hp : AllP ps) : Ev Try.prog noHand 67 a b r b2 := ev_of_fin (fn := Try.f67) (body := body67) (by kernel_rfl) (by kernel_rfl) (by kernel_rfl) rfl (mgo_fin hmix e hp)
noncomputable def body68 : Code := (Try.f68.body).getD .skip
noncomputable def cx68 : Cx := ⟨Try.prog, noHand, [8, 11, 41, 46, 59, 73], [], []⟩
theorem c68 (nb : Nat) {a : List AV} {b b2 : List (List Cell)} {r : ARes} (ad : Advs) {ps : List Prop} (e : mgo cx68 Try.f68 nb 1000000 [.code body68] (fr0 Try.f68 a b) ad = some (.fin r b2, ps)) (hp : AllP ps) : Ev Try.prog noHand 68 a b r b2 := ev_of_fin (fn := Try.f68) (body := body68) (by kernel_rfl) (by kernel_rfl) (by kernel_rfl) rfl (mgo_fin hmix e hp)
noncomputable def body69 : Code := (Try.f69.body).getD .skip
noncomputable def cx69 : Cx := ⟨Try.prog, noHand, [2], [], []⟩
theorem c69 (nb : Nat) {a : List AV} {b b2 : List (List Cell)} {r : ARes} (ad : Advs) {ps : List Prop} (e : mgo cx69 Try.f69 nb 1000000 [.code body69] (fr0 Try.f69 a b) ad = some (.fin r b2, ps)) (hp : AllP ps) : Ev Try.prog noHand 69 a b r b2 := ev_of_fin (fn := Try.f69) (body := body69) (by kernel_rfl) (by kernel_rfl) (by kernel_rfl) rfl (mgo_fin hmix e hp)
noncomputable def body70 : Code := (Try.f70.body).getD .skip
noncomputable def cx70 : Cx := ⟨Try.prog, noHand, [6, 7], [], []⟩
theorem c70 (nb : Nat) {a : List AV} {b b2 : List (List Cell)} {r : ARes} (ad : Advs) {ps : List Prop} (e : mgo cx70 Try.f70 nb 1000000 [.code body70] (fr0 Try.f70 a b) ad = some (.fin r b2, ps)) (hp : AllP ps) : Ev Try.prog noHand 70 a b r b2 := ev_of_fin (fn := Try.f70) (body := body70) (by kernel_rfl) (by kernel_rfl) (by kernel_rfl) rfl (mgo_fin hmix e hp)
noncomputable def body71 : Code := (Try.f71.body).getD .skip
noncomputable def cx71 : Cx := ⟨Try.prog, noHand, [2, 4], [], []⟩
theorem c71 (nb : Nat) {a : List AV} {b b2 : List (List Cell)} {r : ARes} (ad : Advs) {ps : List Prop} (e : mgo cx71 Try.f71 nb 1000000 [.code body71] (fr0 Try.f71 a b) ad = some (.fin r b2, ps)) (hp : AllP ps) : Ev Try.prog noHand 71 a b r b2 := ev_of_fin (fn := Try.f71) (body := body71) (by kernel_rfl) (by kernel_rfl) (by kernel_rfl) rfl (mgo_fin hmix e hp)
noncomputable def body72 : Code := (Try.f72.body).getD .skip
noncomputable def cx72 : Cx := ⟨Try.prog, noHand, [2, 3], [], []⟩
theorem c72 (nb : Nat) {a : List AV} {b b2 : List (List Cell)} {r : ARes} (ad : Advs) {ps : List Prop} (e : mgo cx72 Try.f72 nb 1000000 [.code body72] (fr0 Try.f72 a b) ad = some (.fin r b2, ps)) (hp : AllP ps) : Ev Try.prog noHand 72 a b r b2 := ev_of_fin (fn := Try.f72) (body := body72) (by kernel_rfl) (by kernel_rfl) (by kernel_rfl) rfl (mgo_fin hmix e hp)
noncomputable def body73 : Code := (Try.f73.body).getD .skip
noncomputable def cx73 : Cx := ⟨Try.prog, noHand, [2], [], []⟩
theorem c73 (nb : Nat) {a : List AV} {b b2 : List (List Cell)} {r : ARes} (ad : Advs) {ps : List Prop} (e : mgo cx73 Try.f73 nb 1000000 [.code body73] (fr0 Try.f73 a b) ad = some (.fin r b2, ps)) (hp : AllP ps) : Ev Try.prog noHand 73 a b r b2 := ev_of_fin (fn := Try.f73) (body := body73) (by kernel_rfl) (by kernel_rfl) (by kernel_rfl) rfl (mgo_fin hmix e hp)
noncomputable def body74 : Code := (Try.f74.body).getD .skip
noncomputable def cx74 : Cx := ⟨Try.prog, noHand, [5, 6, 7, 8, 9, 10, 11, 13], [], []⟩
theorem c74 (nb : Nat) {a : List AV} {b b2 : List (List Cell)} {r : ARes} (ad : Advs) {ps : List Prop} (e : mgo cx74 Try.f74 nb 1000000 [.code body74] (fr0 Try.f74 a b) ad = some (.fin r b2, ps)) (hp : AllP ps) : Ev Try.prog noHand 74 a b r b2 := ev_of_fin (fn := Try.f74) (body := body74) (by kernel_rfl) (by kernel_rfl) (by kernel_rfl) rfl (mgo_fin hmix e hp)
noncomputable def body75 : Code := (Try.f75.body).getD .skip
noncomputable def cx75 : Cx := ⟨Try.prog, noHand, [6, 7, 8, 9, 10, 11], [], []⟩
theorem c75 (nb : Nat) {a : List AV} {b b2 : List (List Cell)} {r : ARes} (ad : Advs) {ps : List Prop} (e : mgo cx75 Try.f75 nb 1000000 [.code body75] (fr0 Try.f75 a b) ad = some (.fin r b2, ps)) (hp : AllP ps) : Ev Try.prog noHand 75 a b r b2 := ev_of_fin (fn := Try.f75) (body := body75) (by kernel_rfl) (by kernel_rfl) (by kernel_rfl) rfl (mgo_fin hmix e hp)
noncomputable def body76 : Code := (Try.f76.body).getD .skip
noncomputable def cx76 : Cx := ⟨Try.prog, noHand, [2, 3, 4, 5, 6, 7, 22, 36, 45, 57, 83, 100, 112], [], []⟩
theorem c76 (nb : Nat) {a : List AV} {b b2 : List (List Cell)} {r : ARes} (ad : Advs) {ps : List Prop} (e : mgo cx76 Try.f76 nb 1000000 [.code body76] (fr0 Try.f76 a b) ad = some (.fin r b2, ps)) (hp : AllP ps) : Ev Try.prog noHand 76 a b r b2 := ev_of_fin (fn := Try.f76) (body := body76) (by kernel_rfl) (by kernel_rfl) (by kernel_rfl) rfl (mgo_fin hmix e hp)
noncomputable def body77 : Code := (Try.f77.body).getD .skip
noncomputable def cx77 : Cx := ⟨Try.prog, noHand, [2, 3, 6, 9, 12, 19, 26, 33], [], []⟩
theorem c77 (nb : Nat) {a : List AV} {b b2 : List (List Cell)} {r : ARes} (ad : Advs) {ps : List Prop} (e : mgo cx77 Try.f77 nb 1000000 [.code body77] (fr0 Try.f77 a b) ad = some (.fin r b2, ps)) (hp : AllP ps) : Ev Try.prog noHand 77 a b r b2 := ev_of_fin (fn := Try.f77) (body := body77) (by kernel_rfl) (by kernel_rfl) (by kernel_rfl) rfl (mgo_fin hmix e hp)
noncomputable def body78 : Code := (Try.f78.body).getD .skip
noncomputable def cx78 : Cx := ⟨Try.prog, noHand, [2, 3, 5, 8, 11, 14, 17], [], []⟩
theorem c78 (nb : Nat) {a : List AV} {b b2 : List (List Cell)} {r : ARes} (ad : Advs) {ps : List Prop} (e : mgo cx78 Try.f78 nb 1000000 [.code body78] (fr0 Try.f78 a b) ad = some (.fin r b2, ps)) (hp : AllP ps) : Ev Try.prog noHand 78 a b r b2 := ev_of_fin (fn := Try.f78) (body := body78) (by kernel_rfl) (by kernel_rfl) (by kernel_rfl) rfl (mgo_fin hmix e hp)
noncomputable def body79 : Code := (Try.f79.body).getD .skip
noncomputable def cx79 : Cx := ⟨Try.prog, noHand, [2, 5, 10, 17, 22, 28, 36], [], []⟩
theorem c79 (nb : Nat) {a : List AV} {b b2 : List (List Cell)} {r : ARes} (ad : Advs) {ps : List Prop} (e : mgo cx79 Try.f79 nb 1000000 [.code body79] (fr0 Try.f79 a b) ad = some (.fin r b2, ps)) (hp : AllP ps) : Ev Try.prog noHand 79 a b r b2 := ev_of_fin (fn := Try.f79) (body := body79) (by kernel_rfl) (by kernel_rfl) (by kernel_rfl) rfl (mgo_fin hmix e hp)
noncomputable def body80 : Code := (Try.f80.body).getD .skip
noncomputable def cx80 : Cx := ⟨Try.prog, noHand, [4, 5, 6], [], []⟩
theorem c80 (nb : Nat) {a : List AV} {b b2 : List (List Cell)} {r : ARes} (ad : Advs) {ps : List Prop} (e : mgo cx80 Try.f80 nb 1000000 [.code body80] (fr0 Try.f80 a b) ad = some (.fin r b2, ps)) (hp : AllP ps) : Ev Try.prog noHand 80 a b r b2 := ev_of_fin (fn := Try.f80) (body := body80) (by kernel_rfl) (by kernel_rfl) (by kernel_rfl) rfl (mgo_fin hmix e hp)
noncomputable def body81 : Code := (Try.f81.body).getD .skip
noncomputable def cx81 : Cx := ⟨Try.prog, noHand, [4, 6, 7, 8], [], []⟩
theorem c81 (nb : Nat) {a : List AV} {b b2 : List (List Cell)} {r : ARes} (ad : Advs) {ps : List Prop} (e : mgo cx81 Try.f81 nb 1000000 [.code body81] (fr0 Try.f81 a b) ad = some (.fin r b2, ps)) (hp : AllP ps) : Ev Try.prog noHand 81 a b r b2 := ev_of_fin (fn := Try.f81) (body := body81) (by kernel_rfl) (by kernel_rfl) (by kernel_rfl) rfl (mgo_fin hmix e hp)
noncomputable def body82 : Code := (Try.f82.body).getD .skip
noncomputable def cx82 : Cx := ⟨Try.prog, noHand, [4, 5, 6], [], []⟩
theorem c82 (nb : Nat) {a : List AV} {b b2 : List (List Cell)} {r : ARes} (ad : Advs) {ps : List Prop} (e : mgo cx82 Try.f82 nb 1000000 [.code body82] (fr0 Try.f82 a b) ad = some (.fin r b2, ps)) (hp : AllP ps) : Ev Try.prog noHand 82 a b r b2 := ev_of_fin (fn := Try.f82) (body := body82) (by kernel_rfl) (by kernel_rfl) (by kernel_rfl) rfl (mgo_fin hmix e hp)
noncomputable def body83 : Code := (Try.f83.body).getD .skip
noncomputable def cx83 : Cx := ⟨Try.prog, noHand, [4, 5, 6, 7], [], []⟩
theorem c83 (nb : Nat) {a : List AV} {b b2 : List (List Cell)} {r : ARes} (ad : Advs) {ps : List Prop} (e : mgo cx83 Try.f83 nb 1000000 [.code body83] (fr0 Try.f83 a b) ad = some (.fin r b2, ps)) (hp : AllP ps) : Ev Try.prog noHand 83 a b r b2 := ev_of_fin (fn := Try.f83) (body := body83) (by kernel_rfl) (by kernel_rfl) (by kernel_rfl) rfl (mgo_fin hmix e hp)
noncomputable def body84 : Code := (Try.f84.body).getD .skip
noncomputable def cx84 : Cx := ⟨Try.prog, noHand, [0], [], []⟩
theorem c84 (nb : Nat) {a : List AV} {b b2 : List (List Cell)} {r : ARes} (ad : Advs) {ps : List Prop} (e : mgo cx84 Try.f84 nb 1000000 [.code body84] (fr0 Try.f84 a b) ad = some (.fin r b2, ps)) (hp : AllP ps) : Ev Try.prog noHand 84 a b r b2 := ev_of_fin (fn := Try.f84) (body := body84) (by kernel_rfl) (by kernel_rfl) (by kernel_rfl) rfl (mgo_fin hmix e hp)
noncomputable def body85 : Code := (Try.f85.body).getD .skip
noncomputable def cx85 : Cx := ⟨Try.prog, noHand, [2, 3, 4, 5, 6, 7], [], []⟩
theorem c85 (nb : Nat) {a : List AV} {b b2 : List (List Cell)} {r : ARes} (ad : Advs) {ps : List Prop} (e : mgo cx85 Try.f85 nb 1000000 [.code body85] (fr0 Try.f85 a b) ad = some (.fin r b2, ps)) (hp : AllP ps) : Ev Try.prog noHand 85 a b r b2 := ev_of_fin (fn := Try.f85) (body := body85) (by kernel_rfl) (by kernel_rfl) (by kernel_rfl) rfl (mgo_fin hmix e hp)
noncomputable def body86 : Code := (Try.f86.body).getD .skip
noncomputable def cx86 : Cx := ⟨Try.prog, noHand, [5, 6, 7], [], []⟩
theorem c86 (nb : Nat) {a : List AV} {b b2 : List (List Cell)} {r : ARes} (ad : Advs) {ps : List Prop} (e : mgo cx86 Try.f86 nb 1000000 [.code body86] (fr0 Try.f86 a b) ad = some (.fin r b2, ps)) (hp : AllP ps) : Ev Try.prog noHand 86 a b r b2 := ev_of_fin (fn := Try.f86) (body := body86) (by kernel_rfl) (by kernel_rfl) (by kernel_rfl) rfl (mgo_fin hmix e hp)
noncomputable def body87 : Code := (Try.f87.body).getD .skip
noncomputable def cx87 : Cx := ⟨Try.prog, noHand, [12, 27, 45, 60, 72, 88, 106], [], []⟩
theorem c87 (nb : Nat) {a : List AV} {b b2 : List (List Cell)} {r : ARes} (ad : Advs) {ps : List Prop} (e : mgo cx87 Try.f87 nb 1000000 [.code body87] (fr0 Try.f87 a b) ad = some (.fin r b2, ps)) (hp : AllP ps) : Ev Try.prog noHand 87 a b r b2 := ev_of_fin (fn := Try.f87) (body := body87) (by kernel_rfl) (by kernel_rfl) (by kernel_rfl) rfl (mgo_fin hmix e hp)
noncomputable def body88 : Code := (Try.f88.body).getD .skip
noncomputable def cx88 : Cx := ⟨Try.prog, noHand, [4, 5, 6, 7], [], []⟩
theorem c88 (nb : Nat) {a : List AV} {b b2 : List (List Cell)} {r : ARes} (ad : Advs) {ps : List Prop} (e : mgo cx88 Try.f88 nb 1000000 [.code body88] (fr0 Try.f88 a b) ad = some (.fin r b2, ps)) (hp : AllP ps) : Ev Try.prog noHand 88 a b r b2 := ev_of_fin (fn := Try.f88) (body := body88) (by kernel_rfl) (by kernel_rfl) (by kernel_rfl) rfl (mgo_fin hmix e hp)
noncomputable def body89 : Code := (Try.f89.body).getD .skip
noncomputable def cx89 : Cx := ⟨Try.prog, noHand, [0], [], []⟩
theorem c89 (nb : Nat) {a : List AV} {b b2 : List (List Cell)} {r : ARes} (ad : Advs) {ps : List Prop} (e : mgo cx89 Try.f89 nb 1000000 [.code body89] (fr0 Try.f89 a b) ad = some (.fin r b2, ps)) (hp : AllP ps) : Ev Try.prog noHand 89 a b r b2 := ev_of_fin (fn := Try.f89) (body := body89) (by kernel_rfl) (by kernel_rfl) (by kernel_rfl) rfl (mgo_fin hmix e hp)
noncomputable def body90 : Code := (Try.f90.body).getD .skip
noncomputable def cx90 : Cx := ⟨Try.prog, noHand, [6, 7, 8, 9, 18, 23, 28], [], []⟩
theorem c90 (nb : Nat) {a : List AV} {b b2 : List (List Cell)} {r : ARes} (ad : Advs) {ps : List Prop} (e : mgo cx90 Try.f90 nb 1000000 [.code body90] (fr0 Try.f90 a b) ad = some (.fin r b2, ps)) (hp : AllP ps) : Ev Try.prog noHand 90 a b r b2 := ev_of_fin (fn := Try.f90) (body := body90) (by kernel_rfl) (by kernel_rfl) (by kernel_rfl) rfl (mgo_fin hmix e hp)
noncomputable def body91 : Code := (Try.f91.body).getD .skip
noncomputable def cx91 : Cx := ⟨Try.prog, noHand, [2, 3, 4, 5, 6, 7], [], []⟩
theorem c91 (nb : Nat) {a : List AV} {b b2 : List (List Cell)} {r : ARes} (ad : Advs) {ps : List Prop} (e : mgo cx91 Try.f91 nb 1000000 [.code body91] (fr0 Try.f91 a b) ad = some (.fin r b2, ps)) (hp : AllP ps) : Ev Try.prog noHand 91 a b r b2 := ev_of_fin (fn := Try.f91) (body := body91) (by kernel_rfl) (by kernel_rfl) (by kernel_rfl) rfl (mgo_fin hmix e hp)
noncomputable def body92 : Code := (Try.f92.body).getD .skip
noncomputable def cx92 : Cx := ⟨Try.prog, noHand, [2, 3], [], []⟩
theorem c92 (nb : Nat) {a : List AV} {b b2 : List (List Cell)} {r : ARes} (ad : Advs) {ps : List Prop} (e : mgo cx92 Try.f92 nb 1000000 [.code body92] (fr0 Try.f92 a b) ad = some (.fin r b2, ps)) (hp : AllP ps) : Ev Try.prog noHand 92 a b r b2 := ev_of_fin (fn := Try.f92) (body := body92) (by kernel_rfl) (by kernel_rfl) (by kernel_rfl) rfl (mgo_fin hmix e hp)
noncomputable def body93 : Code := (Try.f93.body).getD .skip
noncomputable def cx93 : Cx := ⟨Try.prog, noHand, [2, 3, 4], [], []⟩
theorem c93 (nb : Nat) {a : List AV} {b b2 : List (List Cell)} {r : ARes} (ad : Advs) {ps : List Prop} (e : mgo cx93 Try.f93 nb 1000000 [.code body93] (fr0 Try.f93 a b) ad = some (.fin r b2, ps)) (hp : AllP ps) : Ev Try.prog noHand 93 a b r b2 := ev_of_fin (fn := Try.f93) (body := body93) (by kernel_rfl) (by kernel_rfl) (by kernel_rfl) rfl (mgo_fin hmix e hp)
noncomputable def body94 : Code := (Try.f94.body).getD .skip
noncomputable def cx94 : Cx := ⟨Try.prog, noHand, [4, 5], [], []⟩
theorem c94 (nb : Nat) {a : List AV} {b b2 : List (List Cell)} {r : ARes} (ad : Advs) {ps : List Prop} (e : mgo cx94 Try.f94 nb 1000000 [.code body94] (fr0 Try.f94 a b) ad = some (.fin r b2, ps)) (hp : AllP ps) : Ev Try.prog noHand 94 a b r b2 := ev_of_fin (fn := Try.f94) (body := body94) (by kernel_rfl) (by kernel_rfl) (by kernel_rfl) rfl (mgo_fin hmix e hp)
noncomputable def body95 : Code := (Try.f95.body).getD .skip
noncomputable def cx95 : Cx := ⟨Try.prog, noHand, [2], [], []⟩
theorem c95 (nb : Nat) {a : List AV} {b b2 : List (List Cell)} {r : ARes} (ad : Advs) {ps : List Prop} (e : mgo cx95 Try.f95 nb 1000000 [.code body95] (fr0 Try.f95 a b) ad = some (.fin r b2, ps)) (hp : AllP ps) : Ev Try.prog noHand 95 a b r b2 := ev_of_fin (fn := Try.f95) (body := body95) (by kernel_rfl) (by kernel_rfl) (by kernel_rfl) rfl (mgo_fin hmix e hp)
noncomputable def body96 : Code := (Try.f96.body).getD .skip
noncomputable def cx96 : Cx := ⟨Try.prog, noHand, [2], [], []⟩
theorem c96 (nb : Nat) {a : List AV} {b b2 : List (List Cell)} {r : ARes} (ad : Advs) {ps : List Prop} (e : mgo cx96 Try.f96 nb 1000000 [.code body96] (fr0 Try.f96 a b) ad = some (.fin r b2, ps)) (hp : AllP ps) : Ev Try.prog noHand 96 a b r b2 := ev_of_fin (fn := Try.f96) (body := body96) (by kernel_rfl) (by kernel_rfl) (by kernel_rfl) rfl (mgo_fin hmix e hp)
noncomputable def body98 : Code := (Try.f98.body).getD .skip
noncomputable def cx98 : Cx := ⟨Try.prog, noHand, [2], [], []⟩
theorem c98 (nb : Nat) {a : List AV} {b b2 : List (List Cell)} {r : ARes} (ad : Advs) {ps : List Prop} (e : mgo cx98 Try.f98 nb 1000000 [.code body98] (fr0 Try.f98 a b) ad = some (.fin r b2, ps)) (hp : AllP ps) : Ev Try.prog noHand 98 a b r b2 := ev_of_fin (fn := Try.f98) (body := body98) (by kernel_rfl) (by kernel_rfl) (by kernel_rfl) rfl (mgo_fin hmix e hp)
noncomputable def body100 : Code := (Try.f100.body).getD .skip
noncomputable def cx100 : Cx := ⟨Try.prog, noHand, [2], [], []⟩
theorem c100 (nb : Nat) {a : List AV} {b b2 : List (List Cell)} {r : ARes} (ad : Advs) {ps : List Prop} (e : mgo cx100 Try.f100 nb 1000000 [.code body100] (fr0 Try.f100 a b) ad = some (.fin r b2, ps)) (hp : AllP ps) : Ev Try.prog noHand 100 a b r b2 := ev_of_fin (fn := Try.f100) (body := body100) (by kernel_rfl) (by kernel_rfl) (by kernel_rfl) rfl (mgo_fin hmix e hp)
end Ab
end Go.Proofs.Ytgghingfdcmelaa

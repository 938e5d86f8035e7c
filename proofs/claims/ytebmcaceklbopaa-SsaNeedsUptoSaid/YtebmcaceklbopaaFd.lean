/-
  Definitions alone: the bodies of the functions, and what stands about each.
-/
import Derived.Test.YtebmcaceklbopaaLibD
import Derived.KernelRfl
set_option linter.unusedVariables false
set_option linter.unusedSimpArgs false
namespace Go.Proofs.Ytebmcaceklbopaa
namespace Ab
theorem hmix : Try.prog.follows .mixedOrders = true := by kernel_rfl
theorem okF (more : List (List Cell)) {a : Prop} (h : a) : a ∧ (false = true → more.isEmpty = false) := ⟨h, fun e => by cases e⟩
theorem okT {a q : Prop} (h : a) (hq : q) : a ∧ (true = true → q) := ⟨h, fun _ => hq⟩
noncomputable def body3 : Code := (Try.f3.body).getD .skip
noncomputable def cx3 : Cx := ⟨Try.prog, noHand, [4, 5, 6, 7, 9, 11], [], []⟩
noncomputable def body4 : Code := (Try.f4.body).getD .skip
noncomputable def cx4 : Cx := ⟨Try.prog, noHand, [2], [], []⟩
noncomputable def body5 : Code := (Try.f5.body).getD .skip
noncomputable def cx5 : Cx := ⟨Try.prog, noHand, [2, 4, 6, 7], [], []⟩
noncomputable def body6 : Code := (Try.f6.body).getD .skip
noncomputable def cx6 : Cx := ⟨Try.prog, noHand, [2], [], []⟩
noncomputable def body7 : Code := (Try.f7.body).getD .skip
noncomputable def cx7 : Cx := ⟨Try.prog, noHand, [6, 8], [], []⟩
noncomputable def body8 : Code := (Try.f8.body).getD .skip
noncomputable def cx8 : Cx := ⟨Try.prog, noHand, [2, 3, 4], [], []⟩
noncomputable def body9 : Code := (Try.f9.body).getD .skip
noncomputable def cx9 : Cx := ⟨Try.prog, noHand, [0, 2, 3, 5, 7], [], []⟩
noncomputable def body10 : Code := (Try.f10.body).getD .skip
noncomputable def cx10 : Cx := ⟨Try.prog, noHand, [2, 3, 4], [], []⟩
noncomputable def body11 : Code := (Try.f11.body).getD .skip
noncomputable def cx11 : Cx := ⟨Try.prog, noHand, [5, 8, 9, 10, 12], [], []⟩
noncomputable def body12 : Code := (Try.f12.body).getD .skip
noncomputable def cx12 : Cx := ⟨Try.prog, noHand, [5, 6, 7, 8, 9, 10, 11], [], []⟩
noncomputable def body13 : Code := (Try.f13.body).getD .skip
noncomputable def cx13 : Cx := ⟨Try.prog, noHand, [4, 5, 6, 7], [], []⟩
noncomputable def body14 : Code := (Try.f14.body).getD .skip
noncomputable def cx14 : Cx := ⟨Try.prog, noHand, [4, 5], [], []⟩
noncomputable def body15 : Code := (Try.f15.body).getD .skip
noncomputable def cx15 : Cx := ⟨Try.prog, noHand, [2, 3, 5, 35, 55, 75, 94], [], []⟩
noncomputable def body16 : Code := (Try.f16.body).getD .skip
noncomputable def cx16 : Cx := ⟨Try.prog, noHand, [2, 3, 5, 6, 39, 72, 116], [], []⟩
noncomputable def body17 : Code := (Try.f17.body).getD .skip
noncomputable def cx17 : Cx := ⟨Try.prog, noHand, [2, 3, 4, 5, 6, 7], [], []⟩
noncomputable def body18 : Code := (Try.f18.body).getD .skip
noncomputable def cx18 : Cx := ⟨Try.prog, noHand, [2, 3, 4, 5, 6, 7, 8, 10], [], []⟩
noncomputable def body19 : Code := (Try.f19.body).getD .skip
noncomputable def cx19 : Cx := ⟨Try.prog, noHand, [], [], []⟩
noncomputable def body20 : Code := (Try.f20.body).getD .skip
noncomputable def cx20 : Cx := ⟨Try.prog, noHand, [3, 4, 6, 8, 9, 11, 97, 108], [], []⟩
noncomputable def body21 : Code := (Try.f21.body).getD .skip
noncomputable def cx21 : Cx := ⟨Try.prog, noHand, [3, 4, 6, 7, 8, 9, 11, 12], [], []⟩
noncomputable def body22 : Code := (Try.f22.body).getD .skip
noncomputable def cx22 : Cx := ⟨Try.prog, noHand, [], [], []⟩
noncomputable def body23 : Code := (Try.f23.body).getD .skip
noncomputable def cx23 : Cx := ⟨Try.prog, noHand, [], [], []⟩
noncomputable def body24 : Code := (Try.f24.body).getD .skip
noncomputable def cx24 : Cx := ⟨Try.prog, noHand, [2], [], []⟩
noncomputable def body25 : Code := (Try.f25.body).getD .skip
noncomputable def cx25 : Cx := ⟨Try.prog, noHand, [4], [], []⟩
noncomputable def body26 : Code := (Try.f26.body).getD .skip
noncomputable def cx26 : Cx := ⟨Try.prog, noHand, [4, 6, 7], [], []⟩
noncomputable def body27 : Code := (Try.f27.body).getD .skip
noncomputable def cx27 : Cx := ⟨Try.prog, noHand, [2, 3, 4], [], []⟩
noncomputable def body28 : Code := (Try.f28.body).getD .skip
noncomputable def cx28 : Cx := ⟨Try.prog, noHand, [6, 7, 8], [], []⟩
noncomputable def body29 : Code := (Try.f29.body).getD .skip
noncomputable def cx29 : Cx := ⟨Try.prog, noHand, [10, 11], [], []⟩
noncomputable def body30 : Code := (Try.f30.body).getD .skip
noncomputable def cx30 : Cx := ⟨Try.prog, noHand, [2, 3, 16], [], []⟩
noncomputable def body31 : Code := (Try.f31.body).getD .skip
noncomputable def cx31 : Cx := ⟨Try.prog, noHand, [2], [], []⟩
noncomputable def body32 : Code := (Try.f32.body).getD .skip
noncomputable def cx32 : Cx := ⟨Try.prog, noHand, [2, 3, 4, 5, 8], [], []⟩
noncomputable def body33 : Code := (Try.f33.body).getD .skip
noncomputable def cx33 : Cx := ⟨Try.prog, noHand, [2], [], []⟩
noncomputable def body34 : Code := (Try.f34.body).getD .skip
noncomputable def cx34 : Cx := ⟨Try.prog, noHand, [2, 3, 16], [], []⟩
noncomputable def body35 : Code := (Try.f35.body).getD .skip
noncomputable def cx35 : Cx := ⟨Try.prog, noHand, [4, 5], [], []⟩
noncomputable def body36 : Code := (Try.f36.body).getD .skip
noncomputable def cx36 : Cx := ⟨Try.prog, noHand, [4, 5], [], []⟩
noncomputable def body37 : Code := (Try.f37.body).getD .skip
noncomputable def cx37 : Cx := ⟨Try.prog, noHand, [4, 5], [], []⟩
noncomputable def body38 : Code := (Try.f38.body).getD .skip
noncomputable def cx38 : Cx := ⟨Try.prog, noHand, [4, 5], [], []⟩
noncomputable def body39 : Code := (Try.f39.body).getD .skip
noncomputable def cx39 : Cx := ⟨Try.prog, noHand, [2], [], []⟩
noncomputable def body40 : Code := (Try.f40.body).getD .skip
noncomputable def cx40 : Cx := ⟨Try.prog, noHand, [2], [], []⟩
noncomputable def body41 : Code := (Try.f41.body).getD .skip
noncomputable def cx41 : Cx := ⟨Try.prog, noHand, [4, 7, 14], [], []⟩
noncomputable def body42 : Code := (Try.f42.body).getD .skip
noncomputable def cx42 : Cx := ⟨Try.prog, noHand, [4, 5, 13, 20, 27], [], []⟩
noncomputable def body43 : Code := (Try.f43.body).getD .skip
noncomputable def cx43 : Cx := ⟨Try.prog, noHand, [4, 5, 23, 48], [], []⟩
noncomputable def body44 : Code := (Try.f44.body).getD .skip
noncomputable def cx44 : Cx := ⟨Try.prog, noHand, [2], [], []⟩
end Ab
end Go.Proofs.Ytebmcaceklbopaa

/-
  RunNil returns true: the program's runner, held against what is not there.
  Conditions: the row's own alone (the bound on what is read, which is nothing here).
-/
import Derived.Test.YtcclhfgbkohidaaGreatED
import Derived.Test.YtcclhfgbkohidaaGreatRows
import Derived.SevenTiedAt
set_option linter.all false
namespace Go.Proofs.YtcclhfgbkohidaaGreat
namespace E
open Go.ChangeShapes Go.WideShapes Go.ChangeAt Go.RowKit
theorem own : ownKnob Tryz.prog.godebug = none := by kernel_rfl
/-- what the kernel runs. -/
theorem nil_true : isTrue (call Tryz.prog 3 100000 (.fn 3) [] (.mk 0 .e)) = true := by kernel_rfl
theorem ne_ok : NE Tryz.prog 3 := fun fn h hb => by
  obtain rfl : fn = Tryz.f3 := (Option.some.inj (Tryz.func3.symm.trans h)).symm
  have h1 : Tryz.f3.body.isSome = true := by kernel_rfl
  rw [hb] at h1
  cases h1
theorem ut4 : ∃ t, Tryz.f3.resultTypes = #[t] ∧ Tryz.prog.underlying t = some .bool := ⟨_, rfl, by kernel_rfl⟩
set_option maxRecDepth 100000 in
theorem law_lifted (os : Os) (started : os.Started) (H : Type) (enc : TypeId × Value → H) (F : Stop.Interp) :
    ReturnsInHanded {} Tryz.checked os 3 .any ((Rows.OpenSpec.upto Rows.runNilSpec).pre6 enc Tryz.prog Tryz.f3 Rows.runNilUptoRow.domain false) (((Rows.OpenSpec.upto Rows.runNilSpec).at F).post enc Tryz.prog Tryz.f3 false true false false) := by
  refine returnsInHanded_of_cond (C := Tryz.checked) (s := Rows.OpenSpec.upto Rows.runNilSpec) (k := Rows.uptoSmall) rfl own started (by kernel_rfl) Tryz.func3
    (OpenSpec.witness (enc := enc) (C := Tryz.checked) (s := Rows.OpenSpec.upto Rows.runNilSpec) (k := Rows.uptoSmall) rfl false ⟨#[], #[], []⟩ 8 (by kernel_rfl) (by kernel_rfl) (by kernel_rfl)
      (x := ([], [], [])) (by kernel_rfl) rfl (by kernel_rfl)) ?_
  intro W base args ds gs before hval hW _ hk _
  have hW' : DataW.Whole enc Tryz.prog Tryz.f3.params.toList Rows.runNilSpec.vars false W args.toList ds gs before := hW
  obtain ⟨p, q, hA, _⟩ := hW
  have hA : DataW.TrodAll enc Tryz.prog W 0 (fun _ => true) true Tryz.f3.params.toList args.toList ds p := hA
  rw [Tryz.params3] at hA
  obtain ⟨ha, _, _⟩ := trodAll_nil hA
  obtain rfl : args = #[] := Array.toList_inj.1 ha
  refine (closed_calls nil_true ne_ok (by kernel_rfl) (by kernel_rfl) Tryz.func3 (by kernel_rfl) W).mono fun e W' ⟨he, _, h3, h1, h2⟩ => ?_
  exact ⟨_, he, closed_post (s := Rows.runNilSpec) (by rw [Tryz.params3]) rfl rfl ut4 hW' h1 h2 h3⟩
end E
theorem runNil_holds : Rows.RunNilUptoSaid :=
  OpenClaim.holds_of_cond 3 Tryz.f3 rfl rfl rfl rfl rfl rfl rfl ⟨rfl, rfl, rfl, rfl, rfl⟩ rfl rfl rfl rfl rfl (by kernel_rfl) Tryz.func3 (by kernel_rfl)
    (of_decide_eq_true (by kernel_rfl)) (by unfold Func.isWrapper; first | (rw [if_pos (by decide +kernel)]; kernel_rfl) | (rw [if_neg (by decide +kernel)]; exact ⟨rfl, rfl⟩))
    (fun os started H enc _ F => E.law_lifted os started H enc F)
end Go.Proofs.YtcclhfgbkohidaaGreat

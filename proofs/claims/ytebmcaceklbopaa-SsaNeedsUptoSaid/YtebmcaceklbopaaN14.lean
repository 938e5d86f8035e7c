/-
  SsaMakes: true of any conditions.
-/
import Derived.Test.YtebmcaceklbopaaN13
set_option linter.unusedVariables false
set_option linter.unusedSimpArgs false
namespace Go.Proofs.Ytebmcaceklbopaa
namespace Ab

theorem go_plain {sh : Bool} : ∀ (l : List Nd) (i : Nat) (a : Int) (t : SR), PI t → rightBs l = true → 0 ≤ a → (0 < i → a < (t.L.length : Int)) → (l = [] → 0 < i) →
    PI (goR sh l i a t).2 ∧ 0 ≤ (goR sh l i a t).1 ∧ (goR sh l i a t).1 < ((goR sh l i a t).2.L.length : Int)
  | [], i, a, t, h, _, ha, hb, hi => ⟨h, ha, hb (hi rfl)⟩
  | n :: l, i, a, t, h, hr, ha, hb, _ => by
    simp only [rightBs, Bool.and_eq_true] at hr
    obtain ⟨p1, _, p2, p3⟩ := node_plain (sh := sh) n t h hr.1
    have hle := (nodeR_bd sh n t).le
    simp only [goR]
    split
    · exact go_plain l 1 _ _ p1 hr.2 p2 (fun _ => p3) (fun _ => Nat.one_pos)
    · rename_i hi
      have hlt := hb (by omega)
      obtain ⟨q1, q2, q3⟩ := put_plain (sh := sh) (op := 13) (a := a) (b := (nodeR sh n t).1) p1 ⟨rfl, .inr (.inr (.inr ⟨rfl, ha, by simp only; omega, p2, p3⟩))⟩
      exact go_plain l (i + 1) _ _ q1 hr.2 q2 (fun _ => q3) (fun _ => Nat.succ_pos _)

/-- what is made is plain. -/
theorem end_plain {x : Int × SR} (h : PI x.2) (h0 : 0 ≤ x.1) (h1 : x.1 < (x.2.L.length : Int)) : PlainP (x.2.L.length : Int) 0 (x.2.I.length : Int) (x.2.C.length : Int) (x.2.L ++ [(⟨52, 0, x.1, 0⟩ : Ins4)]) := by
  refine ⟨rfl, by omega, by simp, fun i y e hi => ?_, ⟨52, 0, x.1, 0⟩, by simp, rfl, rfl, rfl, h0, h1⟩
  rw [List.getElem?_append_left (by omega)] at e
  exact h i y e
end Ab
end Go.Proofs.Ytebmcaceklbopaa

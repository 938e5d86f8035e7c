/-
  The code of any conditions: what the program makes is what the document's answer makes.
-/
import Derived.Test.YtebmcaceklbopaaN10
set_option linter.unusedVariables false
set_option linter.unusedSimpArgs false
namespace Go.Proofs.Ytebmcaceklbopaa
namespace Ab

def s0 : SS := ⟨[], [], [], [], false⟩
def t0 : SR := ⟨[], [], []⟩
def okL (l : List Nd) : Bool := !l.isEmpty && rightBs l
def makeB (sh : Bool) (l : List Nd) : R12 := if okL l = true then endR (goR sh l 0 0 t0) else (0, 0, [], [], [], 1)
theorem rl0 (sh : Bool) : Rl sh s0 t0 := ⟨fun h => (by cases h), fun _ => ⟨rfl, rfl, rfl, Nat.zero_le _, fun _ => rfl⟩, fun i x h => (by simp [s0] at h)⟩

theorem g11_make (sh : Bool) (l : List Nd) (hb : cnts l < 1048577) : Tot (fun k => g11 k (ndRows l) sh) (makeB sh l) := by
  by_cases h0 : l = []
  · subst h0
    refine Tot.of_goes (s := S11.e _ _) ((Goes.fin0 (step := step11) (s := .h0 1 0 0 [] [] []) fun k rec => rfl).rec0 fun k rec => rfl)
  · have hl : l.length ≠ 0 := fun e => h0 (List.eq_nil_of_length_eq_zero e)
    have h := g11_right (sh := sh) l hb (r := makeB sh l) l.length 0 (by omega) (fun hr => by
      rw [List.drop_zero] at hr
      have ho : okL l = true := by simp [okL, hr, h0]
      have hgo := rel_go l 0 0 0 s0 t0 (rl0 sh) hr (fun _ => rfl)
      have e : makeB sh l = endS (goS sh l 0 0 s0) := by unfold makeB; rw [if_pos ho]; exact (end_same hgo.1 hgo.2.1).symm
      rw [e]
      have bd := goS_bd sh l 0 0 s0
      have b3 := bd.L
      simp only [s0, List.length_nil] at b3
      have hend := g11_end (goS sh l 0 0 s0) (by simp only [s0]; omega)
      exact g11_loop (sh := sh) l hr (by omega) l.length 0 0 s0 (by omega) (by simp only [s0, List.drop_zero, List.length_nil]; omega) (by simp only [s0, List.drop_zero, List.length_nil]; omega) (by simp only [s0, List.drop_zero, List.length_nil]; omega) (by rw [List.drop_zero]; exact hend))
      (fun hr => by
        rw [List.drop_zero] at hr
        have ho : ¬ okL l = true := by simp [okL, hr]
        unfold makeB; rw [if_neg ho])
    refine Tot.of_goes (s := S11.e _ _) (h.rec0 fun k rec => ?_)
    show t11_e k rec _ _ = _
    unfold t11_e
    have e : (((ndRows l).length : Int) == 0) = false := by rw [ndRows_len]; simp; omega
    rw [e, cond_false, ndRows_len]
    rfl

end Ab
end Go.Proofs.Ytebmcaceklbopaa

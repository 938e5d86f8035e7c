/-
  The code of a node: what the document's answer does, exactly.
-/
import Derived.Test.YtebmcaceklbopaaN5
set_option linter.unusedVariables false
set_option linter.unusedSimpArgs false
namespace Go.Proofs.Ytebmcaceklbopaa
namespace Ab

structure SR where
  I : List In4
  C : List Vl
  L : List Ins4
def putRR (sh : Bool) (op a b : Int) (s : SR) : Int × SR := ((putR sh op a b s.L).1, ⟨s.I, s.C, (putR sh op a b s.L).2⟩)
def nodeR (sh : Bool) : Nd → SR → Int × SR
  | .mk op kind [] vk vb pos attr, s => if 3000 < s.L.length then (0, s) else
      if op = 40 then putRR sh 51 (plc ⟨vk, vb⟩ s.C).1 0 { s with C := (plc ⟨vk, vb⟩ s.C).2 }
      else putRR sh 50 (plc ⟨op, kind, pos, attr⟩ s.I).1 0 { s with I := (plc ⟨op, kind, pos, attr⟩ s.I).2 }
  | .mk op _ [x] _ _ _ _, s => if 3000 < s.L.length then (0, s) else putRR sh op (nodeR sh x s).1 0 (nodeR sh x s).2
  | .mk op _ [x, y] _ _ _ _, s => if 3000 < s.L.length then (0, s) else putRR sh op (nodeR sh x s).1 (nodeR sh y (nodeR sh x s).2).1 (nodeR sh y (nodeR sh x s).2).2
  | .mk _ _ (_ :: _ :: _ :: _) _ _ _ _, s => (0, s)
structure BdR (s t : SR) (n : Nat) : Prop where
  I : t.I.length ≤ s.I.length + n
  C : t.C.length ≤ s.C.length + n
  L : t.L.length ≤ s.L.length + n
  le : s.L.length ≤ t.L.length
theorem BdR.refl (s : SR) (n : Nat) : BdR s s n := ⟨by omega, by omega, by omega, by omega⟩
theorem BdR.trans {s t u : SR} {n m k : Nat} (h1 : BdR s t n) (h2 : BdR t u m) (h : n + m ≤ k) : BdR s u k :=
  ⟨by have := h1.I; have := h2.I; omega, by have := h1.C; have := h2.C; omega, by have := h1.L; have := h2.L; omega, by have := h1.le; have := h2.le; omega⟩
theorem putR_len (sh : Bool) (op a b : Int) (L : List Ins4) : (putR sh op a b L).2.length ≤ L.length + 1 ∧ L.length ≤ (putR sh op a b L).2.length := by
  unfold putR; split <;> simp
theorem putRR_bd (sh : Bool) (op a b : Int) (s : SR) : BdR s (putRR sh op a b s).2 1 := ⟨by simp [putRR], by simp [putRR], (putR_len _ _ _ _ _).1, (putR_len _ _ _ _ _).2⟩
theorem nodeR_bd (sh : Bool) (n : Nd) (s : SR) : BdR s (nodeR sh n s).2 (cnt n) := by
  fun_induction nodeR sh n s
  · exact BdR.refl _ _
  · refine BdR.trans (t := _) (n := 1) (m := 0) ⟨?_, ?_, ?_, ?_⟩ (BdR.refl _ _) (by simp [cnt])
    · simp [putRR]
    · simp only [putRR]; exact plc_len _ _
    · exact (putR_len _ _ _ _ _).1
    · exact (putR_len _ _ _ _ _).2
  · refine BdR.trans (t := _) (n := 1) (m := 0) ⟨?_, ?_, ?_, ?_⟩ (BdR.refl _ _) (by simp [cnt])
    · simp only [putRR]; exact plc_len _ _
    · simp [putRR]
    · exact (putR_len _ _ _ _ _).1
    · exact (putR_len _ _ _ _ _).2
  · exact BdR.refl _ _
  · rename_i ih
    exact ih.trans (putRR_bd _ _ _ _ _) (by simp [cnt, cnts])
  · exact BdR.refl _ _
  · rename_i ih1 ih2
    exact (ih1.trans ih2 (Nat.le_refl _)).trans (putRR_bd _ _ _ _ _) (by simp [cnt, cnts])
  · exact BdR.refl _ _

theorem right_40 {n : Nd} (h : rightB n = true) (h0 : n.args ≠ []) : n.op ≠ 40 := by
  rw [rightB_node h0, Bool.and_eq_true, beq_iff_eq] at h
  intro e
  rw [e] at h
  have : nOps 40 = 0 := rfl
  rw [this] at h
  have : n.args.length ≠ 0 := fun e => h0 (List.eq_nil_of_length_eq_zero e)
  omega

end Ab
end Go.Proofs.Ytebmcaceklbopaa

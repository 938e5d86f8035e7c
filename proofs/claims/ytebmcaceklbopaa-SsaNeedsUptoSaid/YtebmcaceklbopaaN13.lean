/-
  What is made is plain.
-/
import Derived.Test.YtebmcaceklbopaaN12
set_option linter.unusedVariables false
set_option linter.unusedSimpArgs false
namespace Go.Proofs.Ytebmcaceklbopaa
namespace Ab

theorem fi_lt {α : Type} {p : α → Bool} : ∀ {l : List α} {i j : Nat}, fi p l i = some j → j < i + l.length
  | [], _, _, h => by cases h
  | x :: l, i, j, h => by
    simp only [fi] at h
    split at h
    · cases h; simp
    · have := fi_lt h; simp only [List.length_cons]; omega
theorem plc_lt {α : Type} [DecidableEq α] (x : α) (l : List α) : (plc x l).1 < (plc x l).2.length ∧ l.length ≤ (plc x l).2.length := by
  unfold plc
  split
  · rename_i i h; have := fi_lt h; simp; omega
  · simp
/-- plain so far. -/
def PI (t : SR) : Prop := ∀ (i : Nat) x, t.L[i]? = some x → okI x i t.I.length t.C.length
theorem okI_mono {x : Ins4} {i a b a' b' : Int} (h : okI x i a b) (ha : a ≤ a') (hb : b ≤ b') : okI x i a' b' := by
  obtain ⟨h0, h⟩ := h
  refine ⟨h0, ?_⟩
  rcases h with ⟨h1, h2, h3, h4⟩ | ⟨h1, h2, h3, h4⟩ | h | h
  · exact .inl ⟨h1, h2, by omega, h4⟩
  · exact .inr (.inl ⟨h1, h2, by omega, h4⟩)
  · exact .inr (.inr (.inl h))
  · exact .inr (.inr (.inr h))
theorem put_plain {sh : Bool} {op a b : Int} {t : SR} (h : PI t) (hok : okI ⟨op, t.L.length, a, b⟩ t.L.length t.I.length t.C.length) :
    PI (putRR sh op a b t).2 ∧ 0 ≤ (putRR sh op a b t).1 ∧ (putRR sh op a b t).1 < ((putRR sh op a b t).2.L.length : Int) := by
  unfold putRR putR
  split
  · rename_i i hi
    have := fi_lt hi
    exact ⟨h, by simp, by simp; omega⟩
  · refine ⟨fun i x e => ?_, by simp, by simp; omega⟩
    simp only at e ⊢
    by_cases hi : i < t.L.length
    · rw [List.getElem?_append_left hi] at e; exact h i x e
    · rw [List.getElem?_append_right (by omega)] at e
      have h0 : i - t.L.length = 0 := by
        rcases Nat.eq_zero_or_pos (i - t.L.length) with h | h
        · exact h
        · rw [List.getElem?_eq_none (by simp only [List.length_singleton]; omega)] at e; cases e
      rw [h0] at e
      simp at e
      subst e
      have : i = t.L.length := by omega
      rw [this]; exact hok

theorem node_plain {sh : Bool} (n : Nd) (t : SR) : PI t → rightB n = true →
    PI (nodeR sh n t).2 ∧ (nodeR sh n t).2.L.length ≤ (nodeR sh n t).2.L.length ∧ 0 ≤ (nodeR sh n t).1 ∧ (nodeR sh n t).1 < ((nodeR sh n t).2.L.length : Int) := by
  fun_induction nodeR sh n t <;> intro h hr
  · exact ⟨h, Nat.le_refl _, Int.le_refl _, by simp only; omega⟩
  · rename_i kind vk vb pos attr t hl
    have hp := plc_lt (⟨vk, vb⟩ : Vl) t.C
    obtain ⟨q1, q2, q3⟩ := put_plain (sh := sh) (op := 51) (a := (plc ⟨vk, vb⟩ t.C).1) (b := 0) (t := { t with C := (plc ⟨vk, vb⟩ t.C).2 }) (fun i x e => okI_mono (h i x e) (Int.le_refl _) (by simp only; omega)) ⟨rfl, .inr (.inl ⟨rfl, by simp, by simp only; omega, rfl⟩)⟩
    exact ⟨q1, Nat.le_refl _, q2, q3⟩
  · rename_i op kind vk vb pos attr t hl h40
    have hp := plc_lt (⟨op, kind, pos, attr⟩ : In4) t.I
    obtain ⟨q1, q2, q3⟩ := put_plain (sh := sh) (op := 50) (a := (plc ⟨op, kind, pos, attr⟩ t.I).1) (b := 0) (t := { t with I := (plc ⟨op, kind, pos, attr⟩ t.I).2 }) (fun i x e => okI_mono (h i x e) (by simp only; omega) (Int.le_refl _)) ⟨rfl, .inl ⟨rfl, by simp, by simp only; omega, rfl⟩⟩
    exact ⟨q1, Nat.le_refl _, q2, q3⟩
  · exact ⟨h, Nat.le_refl _, Int.le_refl _, by simp only; omega⟩
  · rename_i op kind x vk vb pos attr t hl ih
    have hx : rightB x = true := by
      rcases rightB_len hr with h | ⟨_, h, h1⟩ | ⟨_, _, h, _⟩ <;> simp [Nd.args] at h
      rw [h]; exact h1
    have hop : nOps op = 1 := by
      have := rightB_node (n := .mk op kind [x] vk vb pos attr) (by simp [Nd.args])
      rw [hr] at this
      have := this.symm
      simp only [Bool.and_eq_true, beq_iff_eq] at this
      simpa [Nd.op, Nd.args] using this.1
    obtain ⟨p1, _, p2, p3⟩ := ih h hx
    obtain ⟨q1, q2, q3⟩ := put_plain (sh := sh) (op := op) (a := (nodeR sh x t).1) (b := 0) p1 ⟨rfl, .inr (.inr (.inl ⟨hop, p2, p3, rfl⟩))⟩
    exact ⟨q1, Nat.le_refl _, q2, q3⟩
  · exact ⟨h, Nat.le_refl _, Int.le_refl _, by simp only; omega⟩
  · rename_i op kind x y vk vb pos attr t hl ih1 ih2
    have hxy : rightB x = true ∧ rightB y = true := by
      rcases rightB_len hr with h | ⟨_, h, _⟩ | ⟨_, _, h, h1, h2⟩ <;> simp [Nd.args] at h
      rw [h.1, h.2]; exact ⟨h1, h2⟩
    have hop : nOps op = 2 := by
      have := rightB_node (n := .mk op kind [x, y] vk vb pos attr) (by simp [Nd.args])
      rw [hr] at this
      have := this.symm
      simp only [Bool.and_eq_true, beq_iff_eq] at this
      simpa [Nd.op, Nd.args] using this.1
    obtain ⟨p1, _, p2, p3⟩ := ih1 h hxy.1
    obtain ⟨r1, _, r2, r3⟩ := ih2 p1 hxy.2
    have hle := (nodeR_bd sh y (nodeR sh x t).2).le
    obtain ⟨q1, q2, q3⟩ := put_plain (sh := sh) (op := op) (a := (nodeR sh x t).1) (b := (nodeR sh y (nodeR sh x t).2).1) r1 ⟨rfl, .inr (.inr (.inr ⟨hop, p2, by simp only; omega, r2, r3⟩))⟩
    exact ⟨q1, Nat.le_refl _, q2, q3⟩
  · rcases rightB_len hr with h | ⟨_, h, _⟩ | ⟨_, _, h, _⟩ <;> simp [Nd.args] at h
end Ab
end Go.Proofs.Ytebmcaceklbopaa

/-
  What is made of conditions is tight: nothing of it is dropped.
-/
import Derived.Test.YtebmcaceklbopaaP1
set_option linter.unusedVariables false
set_option linter.unusedSimpArgs false
namespace Go.Proofs.Ytebmcaceklbopaa
namespace Ab

theorem fi_some {α : Type} {p : α → Bool} : ∀ {l : List α} {i j : Nat}, fi p l i = some j → ∃ x, l[j - i]? = some x ∧ p x = true ∧ i ≤ j
  | [], _, _, h => by cases h
  | y :: l, i, j, h => by
    simp only [fi] at h
    split at h
    · rename_i hp
      cases h
      exact ⟨y, by simp, hp, Nat.le_refl _⟩
    · obtain ⟨x, h1, h2, h3⟩ := fi_some h
      refine ⟨x, ?_, h2, by omega⟩
      have e : j - i = (j - (i + 1)) + 1 := by omega
      rw [e, List.getElem?_cons_succ]; exact h1

theorem put_ti_other {sh : Bool} {op a b : Int} {t : SR} (h : TI t) (h50 : op ≠ 50) (h51 : op ≠ 51) : TI (putRR sh op a b t).2 := by
  unfold putRR putR
  split
  · exact h
  · exact ⟨use_other h.I h50, use_other h.C h51, h.nI, h.nC⟩
theorem put_ti_in {sh : Bool} (y : In4) {t : SR} (h : TI t) : TI (putRR sh 50 (plc y t.I).1 0 { t with I := (plc y t.I).2 }).2 := by
  rcases plc_or y h.nI with ⟨e1, e2⟩ | ⟨hn, e⟩
  · rw [e1]
    unfold putRR putR
    split
    · exact h
    · exact ⟨use_same h.I rfl (by simp only; omega) (by simp only; omega), use_other h.C (by simp), h.nI, h.nC⟩
  · rw [e]
    unfold putRR putR
    split
    · rename_i j hj
      obtain ⟨x, h1, h2, _⟩ := fi_some hj
      simp only [Bool.and_eq_true, same3, beq_iff_eq] at h2
      have := useI_mem h1 h2.2.1 ((List.getElem?_eq_some_iff.1 h1).1)
      have ht := h.I.top
      simp only at h1 ht
      rw [h.I.top] at this
      have := h2.2.2.1
      omega
    · exact ⟨use_same h.I rfl (by simp) (by simp), use_other h.C (by simp), nodup_snoc h.nI hn, h.nC⟩
theorem put_ti_vl {sh : Bool} (y : Vl) {t : SR} (h : TI t) : TI (putRR sh 51 (plc y t.C).1 0 { t with C := (plc y t.C).2 }).2 := by
  rcases plc_or y h.nC with ⟨e1, e2⟩ | ⟨hn, e⟩
  · rw [e1]
    unfold putRR putR
    split
    · exact h
    · exact ⟨use_other h.I (by simp), use_same h.C rfl (by simp only; omega) (by simp only; omega), h.nI, h.nC⟩
  · rw [e]
    unfold putRR putR
    split
    · rename_i j hj
      obtain ⟨x, h1, h2, _⟩ := fi_some hj
      simp only [Bool.and_eq_true, same3, beq_iff_eq] at h2
      have := useI_mem h1 h2.2.1 ((List.getElem?_eq_some_iff.1 h1).1)
      rw [h.C.top] at this
      have := h2.2.2.1
      omega
    · exact ⟨use_other h.I (by simp), use_same h.C rfl (by simp) (by simp), h.nI, nodup_snoc h.nC hn⟩

theorem right_one {op kind vk vb pos attr : Int} {x : Nd} (hr : rightB (.mk op kind [x] vk vb pos attr) = true) : rightB x = true ∧ nOps op = 1 := by
  have := rightB_node (n := .mk op kind [x] vk vb pos attr) (by simp [Nd.args])
  rw [hr] at this
  have := this.symm
  simp only [Bool.and_eq_true, beq_iff_eq, Nd.op, Nd.args, rightBs, Bool.and_true] at this
  exact ⟨this.2, by simpa using this.1⟩
theorem right_two {op kind vk vb pos attr : Int} {x y : Nd} (hr : rightB (.mk op kind [x, y] vk vb pos attr) = true) : rightB x = true ∧ rightB y = true ∧ nOps op = 2 := by
  have := rightB_node (n := .mk op kind [x, y] vk vb pos attr) (by simp [Nd.args])
  rw [hr] at this
  have := this.symm
  simp only [Bool.and_eq_true, beq_iff_eq, Nd.op, Nd.args, rightBs, Bool.and_true] at this
  exact ⟨this.2.1, this.2.2, by simpa using this.1⟩
theorem nOps_no {op : Int} (h : nOps op ≠ 0) : op ≠ 50 ∧ op ≠ 51 ∧ op ≠ 52 := by
  refine ⟨?_, ?_, ?_⟩ <;> (intro e; subst e; exact h rfl)

theorem node_ti {sh : Bool} (n : Nd) (t : SR) : TI t → rightB n = true → TI (nodeR sh n t).2 := by
  fun_induction nodeR sh n t <;> intro h hr
  · exact h
  · exact put_ti_vl _ h
  · exact put_ti_in _ h
  · exact h
  · rename_i ih
    obtain ⟨h1, h2⟩ := right_one hr
    have := nOps_no (op := _) (show nOps _ ≠ 0 by rw [h2]; decide)
    exact put_ti_other (ih h h1) this.1 this.2.1
  · exact h
  · rename_i ih1 ih2
    obtain ⟨h1, h2, h3⟩ := right_two hr
    have := nOps_no (op := _) (show nOps _ ≠ 0 by rw [h3]; decide)
    exact put_ti_other (ih2 (ih1 h h1) h2) this.1 this.2.1
  · exact h
theorem go_ti {sh : Bool} : ∀ (l : List Nd) (i : Nat) (a : Int) (t : SR), TI t → rightBs l = true → TI (goR sh l i a t).2
  | [], _, _, _, h, _ => h
  | n :: l, i, a, t, h, hr => by
    simp only [rightBs, Bool.and_eq_true] at hr
    have h1 := node_ti (sh := sh) n t h hr.1
    simp only [goR]
    split
    · exact go_ti l 1 _ _ h1 hr.2
    · exact go_ti l (i + 1) _ _ (put_ti_other h1 (by decide) (by decide)) hr.2

/-! what is not read yet -/
def Unr (L : List Ins4) (j : Nat) : Prop := j < L.length ∧ ∀ m, (j : Int) ∉ readsAt L m
theorem readsAt_app {L : List Ins4} {y : Ins4} {m : Nat} (h : m < L.length) : readsAt (L ++ [y]) m = readsAt L m := by
  unfold readsAt
  rw [List.getElem?_append_left h]
theorem readsAt_snoc {L : List Ins4} {y : Ins4} : readsAt (L ++ [y]) L.length = reads y := by
  unfold readsAt
  rw [show (L ++ [y])[L.length]? = some y by simp]
theorem readsAt_out {L : List Ins4} {m : Nat} (h : L.length ≤ m) : readsAt L m = [] := by
  unfold readsAt
  rw [List.getElem?_eq_none h]
def rds (op a b : Int) : List Int := reads ⟨op, 0, a, b⟩
theorem rds_eq (x : Ins4) : reads x = rds x.op x.a x.b := rfl
theorem put_un {sh : Bool} {op a b : Int} {t : SR} {j : Nat} (h : Unr (putRR sh op a b t).2.L j) : (Unr t.L j ∧ (j : Int) ∉ rds op a b) ∨ (j : Int) = (putRR sh op a b t).1 := by
  unfold putRR putR at *
  split
  · rename_i p hp
    rw [hp] at h
    obtain ⟨x, h1, h2, _⟩ := fi_some hp
    simp only [Bool.and_eq_true, same3, beq_iff_eq] at h2
    refine .inl ⟨h, ?_⟩
    have := h.2 (p - 0)
    simp only [readsAt, h1] at this
    rw [rds_eq, h2.2.1, h2.2.2.1, h2.2.2.2] at this
    exact this
  · rename_i hp
    rw [hp] at h
    simp only at h ⊢
    obtain ⟨hl, hr⟩ := h
    rw [List.length_append, List.length_singleton] at hl
    by_cases hj : j = t.L.length
    · exact .inr (by rw [hj])
    · refine .inl ⟨⟨by omega, fun m => ?_⟩, ?_⟩
      · by_cases hm : m < t.L.length
        · have := hr m
          rwa [readsAt_app hm] at this
        · rw [readsAt_out (by omega)]; simp
      · have := hr t.L.length
        rwa [readsAt_snoc] at this
theorem rds_one {op a b : Int} (h : nOps op = 1) : rds op a b = [a] := by unfold rds reads; rw [if_pos (.inr h)]
theorem rds_two {op a b : Int} (h : nOps op = 2) : rds op a b = [a, b] := by
  have := nOps_no (op := op) (by omega)
  unfold rds reads
  rw [if_neg (by simp only; omega), if_pos h]
theorem node_un {sh : Bool} (n : Nd) (t : SR) : rightB n = true → ∀ j, Unr (nodeR sh n t).2.L j → Unr t.L j ∨ (j : Int) = (nodeR sh n t).1 := by
  fun_induction nodeR sh n t <;> intro hr j h
  · exact .inl h
  · rcases put_un h with h | h
    · exact .inl h.1
    · exact .inr h
  · rcases put_un h with h | h
    · exact .inl h.1
    · exact .inr h
  · exact .inl h
  · rename_i ih
    obtain ⟨h1, h2⟩ := right_one hr
    rcases put_un h with ⟨h, hn⟩ | h
    · rw [rds_one h2] at hn
      rcases ih h1 j h with h | h
      · exact .inl h
      · exact absurd (by rw [h]; simp) hn
    · exact .inr h
  · exact .inl h
  · rename_i ih1 ih2
    obtain ⟨h1, h2, h3⟩ := right_two hr
    rcases put_un h with ⟨h, hn⟩ | h
    · rw [rds_two h3] at hn
      rcases ih2 h2 j h with h | h
      · rcases ih1 h1 j h with h | h
        · exact .inl h
        · exact absurd (by rw [h]; simp) hn
      · exact absurd (by rw [h]; simp) hn
    · exact .inr h
  · exact .inl h
theorem go_un {sh : Bool} : ∀ (l : List Nd) (i : Nat) (a : Int) (t : SR), rightBs l = true → ∀ j, Unr (goR sh l i a t).2.L j → (Unr t.L j ∧ (0 < i → (j : Int) ≠ a)) ∨ (j : Int) = (goR sh l i a t).1
  | [], i, a, t, _, j, h => by
    by_cases hj : (j : Int) = a
    · exact .inr hj
    · exact .inl ⟨h, fun _ => hj⟩
  | n :: l, i, a, t, hr, j, h => by
    simp only [rightBs, Bool.and_eq_true] at hr
    simp only [goR] at h ⊢
    by_cases hi : i = 0
    · rw [if_pos hi] at h ⊢
      rcases go_un l 1 _ _ hr.2 j h with ⟨h1, h2⟩ | h1
      · rcases node_un n t hr.1 j h1 with h3 | h3
        · exact .inl ⟨h3, fun h0 => absurd hi (by omega)⟩
        · exact absurd h3 (h2 Nat.one_pos)
      · exact .inr h1
    · rw [if_neg hi] at h ⊢
      rcases go_un l (i + 1) _ _ hr.2 j h with ⟨h1, h2⟩ | h1
      · rcases put_un h1 with ⟨h3, h4⟩ | h3
        · rw [rds_two rfl] at h4
          rcases node_un n t hr.1 j h3 with h5 | h5
          · exact .inl ⟨h5, fun _ e => h4 (by rw [e]; simp)⟩
          · exact absurd (by rw [h5]; simp) h4
        · exact absurd h3 (h2 (Nat.succ_pos _))
      · exact .inr h1

theorem ti0 : TI t0 := ⟨⟨fun i x h => by simp [t0] at h, rfl⟩, ⟨fun i x h => by simp [t0] at h, rfl⟩, by simp [t0], by simp [t0]⟩
theorem rd_of {L : List Ins4} {t : Ins4} (h : ∀ j, Unr L j → (j : Int) ∈ reads t) (j : Nat) (hj : j < L.length) : ∃ m, m ≤ L.length ∧ (j : Int) ∈ readsAt (L ++ [t]) m := by
  open Classical in
  by_cases hu : Unr L j
  · exact ⟨L.length, Nat.le_refl _, by rw [readsAt_snoc]; exact h j hu⟩
  · have : ∃ m, (j : Int) ∈ readsAt L m := by
      apply Classical.byContradiction
      intro hn
      exact hu ⟨hj, fun m hm => hn ⟨m, hm⟩⟩
    obtain ⟨m, hm⟩ := this
    have hml : m < L.length := by
      by_cases h : m < L.length
      · exact h
      · rw [readsAt_out (by omega)] at hm; cases hm
    exact ⟨m, by omega, by rw [readsAt_app hml]; exact hm⟩
theorem made_tight {sh : Bool} {l : List Nd} (ho : okL l = true) : Tight (goR sh l 0 0 t0).2.I (goR sh l 0 0 t0).2.C (goR sh l 0 0 t0).2.L ⟨52, 0, (goR sh l 0 0 t0).1, 0⟩ := by
  simp only [okL, Bool.and_eq_true] at ho
  obtain ⟨q1, q2, q3⟩ := go_plain (sh := sh) l 0 0 t0 pi0 ho.2 (Int.le_refl _) (fun h => absurd h (Nat.lt_irrefl _)) (fun h => by subst h; simp at ho)
  refine ⟨end_plain q1 q2 q3, go_ti l 0 0 t0 ti0 ho.2, rd_of fun j hj => ?_⟩
  rcases go_un l 0 0 t0 ho.2 j hj with ⟨h, _⟩ | h
  · have := h.1; simp [t0] at this
  · rw [h]; simp [reads]
end Ab
end Go.Proofs.Ytebmcaceklbopaa

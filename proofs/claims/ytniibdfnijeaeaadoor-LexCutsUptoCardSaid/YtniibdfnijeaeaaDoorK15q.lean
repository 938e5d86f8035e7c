/-
  LexCuts: ahead of the first thing that is no token stand tokens, and with it there is none.
-/
import Derived.Test.YtniibdfnijeaeaaDoorK14q
set_option linter.unusedVariables false
set_option linter.unusedSimpArgs false
set_option linter.unusedSectionVars false
namespace Go.Proofs.YtniibdfnijeaeaaDoor
namespace Ab
theorem scan_err (s : ByteArray) : ∀ (n p : Nat) (z : Nat), s.size - p < n → p ≤ s.size → scanF s n p = .inr z → p ≤ z ∧ z < s.size ∧ isBl (bAt s z) = false ∧ tok s z = none
  | 0, p, z, h, _, _ => by omega
  | n + 1, p, z, h1, h2, h => by
    have hq := ge_stop isBl s p
    have hq2 := le_stop (f := isBl) h2
    unfold scanF at h
    by_cases he : stop isBl s p = s.size
    · rw [if_pos he] at h; cases h
    · rw [if_neg he] at h
      cases ht : tok s (stop isBl s p) with
      | none =>
        rw [ht] at h
        cases h
        exact ⟨hq, by omega, end_stop (by omega), ht⟩
      | some x =>
        obtain ⟨t, e⟩ := x
        rw [ht] at h
        have hend := tok_end (by omega) ht
        simp only at h
        cases hs : scanF s n e with
        | inl l => rw [hs] at h; cases h
        | inr y =>
          rw [hs] at h
          have hyz : y = z := by injection h
          subst hyz
          have := scan_err s n e y (by omega) hend.2 hs
          exact ⟨by omega, this.2⟩
theorem lik_cut {s : ByteArray} {p z : Nat} (h1 : p ≤ z) (h2 : z ≤ s.size) : Lik s p (s.extract 0 z) p (z - p) := by
  have hz := size_ext s 0 z h2
  refine ⟨by omega, by omega, fun i hi => ?_, fun h => by omega⟩
  rw [bAt_ext h2 (by omega), Nat.zero_add]
theorem stop_cut {s : ByteArray} {p z e : Nat} (h1 : p ≤ z) (h2 : z ≤ s.size) (h : stop isBl s p = e) (he : e ≤ z) : stop isBl (s.extract 0 z) p = e := by
  have hz := size_ext s 0 z h2
  have hg := ge_stop isBl s p
  refine stop_is (by omega) (by omega) (fun j a b => ?_) (fun hlt => ?_)
  · rw [bAt_ext h2 (by omega), Nat.zero_add]
    exact in_stop (p := p) (by omega) (by omega)
  · rw [bAt_ext h2 (by omega), Nat.zero_add, ← h]
    exact end_stop (by omega)
theorem scan_cut (s : ByteArray) {z : Nat} : ∀ (n p : Nat), s.size - p < n → p ≤ s.size → scanF s n p = .inr z → ∀ m, z - p < m → ∃ l, scanF (s.extract 0 z) m p = .inl l
  | 0, p, h, _, _ => by omega
  | n + 1, p, h1, h2, h => by
    intro m hm
    obtain ⟨m, rfl⟩ : ∃ j, m = j + 1 := ⟨m - 1, by omega⟩
    have he := scan_err s _ p z h1 h2 h
    have hq := ge_stop isBl s p
    have hq2 := le_stop (f := isBl) h2
    have hz := size_ext s 0 z (by omega)
    unfold scanF at h ⊢
    by_cases hn : stop isBl s p = s.size
    · rw [if_pos hn] at h; cases h
    · rw [if_neg hn] at h
      cases ht : tok s (stop isBl s p) with
      | none =>
        rw [ht] at h
        have hze : stop isBl s p = z := by injection h
        rw [stop_cut he.1 (by omega) hze (Nat.le_refl _), if_pos (by omega)]
        exact ⟨_, rfl⟩
      | some x =>
        obtain ⟨t, e⟩ := x
        rw [ht] at h
        have hend := tok_end (by omega) ht
        simp only at h
        cases hs : scanF s n e with
        | inl l => rw [hs] at h; cases h
        | inr y =>
          rw [hs] at h
          have hyz : y = z := by injection h
          subst hyz
          have h5 := scan_err s n e y (by omega) hend.2 hs
          have ht2 := tok_mv (lik_cut (s := s) (p := stop isBl s p) (z := y) (by omega) (by omega)) (by omega) ht (by omega)
          obtain ⟨l, hl⟩ := scan_cut s n e (by omega) hend.2 hs m (by omega)
          rw [stop_cut he.1 (by omega) rfl (by omega), if_neg (by omega), ht2]
          simp only [show e - stop isBl s p + stop isBl s p = e by omega, hl]
          exact ⟨_, rfl⟩
theorem scan_rest {s : ByteArray} {z : Nat} (h1 : z < s.size) (h2 : isBl (bAt s z) = false) (h3 : tok s z = none) : scanF (s.extract z s.size) ((s.extract z s.size).size + 1) 0 = .inr 0 := by
  have hz := size_ext s z s.size (Nat.le_refl _)
  have hs : stop isBl (s.extract z s.size) 0 = 0 := stop_no fun h => by rw [bAt_ext (Nat.le_refl _) (by omega), Nat.add_zero]; exact h2
  unfold scanF
  rw [hs, if_neg (by omega)]
  cases ht : tok (s.extract z s.size) 0 with
  | none => rfl
  | some x =>
    obtain ⟨t, e⟩ := x
    have hend := tok_end (s := s.extract z s.size) (p := 0) (by omega) ht
    have hl : Lik (s.extract z s.size) 0 s z (s.size - z) := by
      refine ⟨by omega, by omega, fun i hi => ?_, fun h => by omega⟩
      rw [Nat.zero_add, bAt_ext (Nat.le_refl _) (by omega)]
    have := tok_mv hl (by omega) ht (by omega)
    rw [h3] at this
    cases this
section
variable [Laid2]
theorem awake_is : Tot (fun k => g10 k) true := tot_deep 60 fun j => by kernel_rfl
theorem cuts_true (s : ByteArray) : Tot (fun k => g5 k s) true := by
  obtain ⟨N4, h4⟩ := awake_is
  by_cases hs : s.size ≤ 4000
  · obtain ⟨N1, h1⟩ := g8_is hs
    cases hq : scanF s (s.size + 1) 0 with
    | inl l =>
      rw [hq] at h1
      refine Goes.rec (step := step5) (s := .e s) (s' := .h0 s 0 0 true) (.fin ⟨N4, fun k hk rec => ?_⟩) ⟨N1 + N4, fun k hk rec => ?_⟩
      · have h4 := h4 k hk
        simp only at h4
        simp only [step5, t5_h0, h4, Option.bind_some, cond_true, beq_self_eq_true]
      · have h1 := h1 k (by omega); have h4 := h4 k (by omega)
        simp only at h1 h4
        simp only [step5, t5_e, h1, h4, Option.bind_some, res8of, altC, tup3, Bool.not_true, cond_false, show ((0 : Int) != 12) = true from rfl]
    | inr z =>
      have he := scan_err s _ 0 z (by omega) (Nat.zero_le _) hq
      obtain ⟨l, hl⟩ := scan_cut s _ 0 (by omega) (Nat.zero_le _) hq ((s.extract 0 z).size + 1) (by rw [size_ext s 0 z (by omega)]; omega)
      have hr := scan_rest he.2.1 he.2.2.1 he.2.2.2
      obtain ⟨N2, h2⟩ := g8_is (s := s.extract 0 z) (by rw [size_ext s 0 z (by omega)]; omega)
      obtain ⟨N3, h3⟩ := g8_is (s := s.extract z s.size) (by rw [size_ext s z s.size (Nat.le_refl _)]; omega)
      rw [hq] at h1
      rw [hl] at h2
      rw [hr] at h3
      refine Goes.rec (step := step5) (s := .e s) (s' := .h0 s (z : Int) 12 false) (.rec (s' := .h1 s (z : Int) false) (.fin ⟨N2 + N3, fun k hk rec => ?_⟩) ⟨0, fun k hk rec => ?_⟩) ⟨N1 + N4, fun k hk rec => ?_⟩
      · have h2 := h2 k (by omega); have h3 := h3 k (by omega)
        simp only at h2 h3
        simp only [step5, t5_h1, cond_false, show decide (0 ≤ (0 : Int) ∧ (0 : Int) ≤ (z : Int) ∧ (z : Int) ≤ (s.size : Int)) = true from decide_eq_true (by omega), show decide (0 ≤ (z : Int) ∧ (z : Int) ≤ (s.size : Int) ∧ (s.size : Int) ≤ (s.size : Int)) = true from decide_eq_true (by omega), gd_true, show Int.toNat (0 : Int) = 0 from rfl, Int.toNat_natCast, h2, h3, Option.bind_some, res8of, altC, tup3, tup2]
        rfl
      · simp only [step5, t5_h0, cond_false, show decide ((z : Int) < 0) = false from decide_eq_false (by omega), show decide ((z : Int) ≥ (s.size : Int)) = false from decide_eq_false (by omega)]
      · have h1 := h1 k (by omega); have h4 := h4 k (by omega)
        simp only at h1 h4
        simp only [step5, t5_e, h1, h4, Option.bind_some, res8of, altC, tup2, Bool.not_true, cond_false, show ((12 : Int) != 12) = false from rfl]
  · obtain ⟨N1, h1⟩ := g8_long hs
    refine Goes.rec (step := step5) (s := .e s) (s' := .h0 s 0 2 true) (.fin ⟨N4, fun k hk rec => ?_⟩) ⟨N1 + N4, fun k hk rec => ?_⟩
    · have h4 := h4 k hk
      simp only at h4
      simp only [step5, t5_h0, h4, Option.bind_some, cond_true, show decide ((s.size : Int) > 4000) = true from decide_eq_true (by omega)]
      rfl
    · have h1 := h1 k (by omega); have h4 := h4 k (by omega)
      simp only at h1 h4
      simp only [step5, t5_e, h1, h4, Option.bind_some, altC, tup3, Bool.not_true, cond_false, show ((2 : Int) != 12) = true from rfl]
end
end Ab
end Go.Proofs.YtniibdfnijeaeaaDoor

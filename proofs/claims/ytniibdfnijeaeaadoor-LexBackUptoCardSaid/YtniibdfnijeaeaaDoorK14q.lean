/-
  A token stands where its bytes stand: moved to another text, it is the token there.
-/
import Derived.Test.YtniibdfnijeaeaaDoorK12q
set_option linter.unusedVariables false
set_option linter.unusedSimpArgs false
set_option linter.unusedSectionVars false
namespace Go.Proofs.YtniibdfnijeaeaaDoor
namespace Ab
/-- the same bytes at two places, and at their end in the second text nothing or a blank. -/
def Lik (s : ByteArray) (p : Nat) (u : ByteArray) (q n : Nat) : Prop := p + n ≤ s.size ∧ q + n ≤ u.size ∧ (∀ i, i < n → bAt u (q + i) = bAt s (p + i)) ∧ (q + n < u.size → isBl (bAt u (q + n)) = true)
theorem bl_no {c : Int} (h : isBl c = true) : isNm c = false ∧ isDi c = false ∧ c ≠ 46 ∧ c ≠ 61 := by
  unfold isBl at h
  have : c = 32 ∨ c = 9 ∨ c = 10 ∨ c = 13 := by simpa [Bool.or_eq_true, or_assoc] using h
  rcases this with rfl | rfl | rfl | rfl <;> exact ⟨rfl, rfl, by omega, by omega⟩
theorem lik_stop {s u : ByteArray} {p q n : Nat} (h : Lik s p u q n) {f : Int → Bool} (hf : ∀ c, isBl c = true → f c = false) {i e : Nat} (hs : stop f s (p + i) = p + e) (he : e ≤ n) : stop f u (q + i) = q + e := by
  obtain ⟨h1, h2, h3, h4⟩ := h
  have hg := ge_stop f s (p + i)
  refine stop_is (by omega) (by omega) (fun j a b => ?_) (fun hlt => ?_)
  · have e1 := h3 (j - q) (by omega)
    rw [show q + (j - q) = j by omega] at e1
    rw [e1]
    exact in_stop (p := p + i) (by omega) (by omega)
  · by_cases hn : e < n
    · rw [h3 e hn, ← hs]
      exact end_stop (by omega)
    · obtain rfl : e = n := by omega
      exact hf _ (h4 hlt)
theorem lik_ext {s u : ByteArray} {p q n : Nat} (h : Lik s p u q n) {i j : Nat} (hj : j ≤ n) : u.extract (q + i) (q + j) = s.extract (p + i) (p + j) := by
  obtain ⟨h1, h2, h3, h4⟩ := h
  refine bytes_eq (by rw [size_ext _ _ _ (by omega), size_ext _ _ _ (by omega)]; omega) fun x hx => ?_
  rw [size_ext _ _ _ (by omega)] at hx
  rw [bAt_ext (by omega) (by omega), bAt_ext (by omega) (by omega), show q + i + x = q + (i + x) by omega, h3 _ (by omega), show p + (i + x) = p + i + x by omega]
theorem lik_beh {s u : ByteArray} {p q n m : Nat} (h : Lik s p u q n) (hm : m ≤ n) (hb : behN s (p + m) = 0 ∨ m + 1 + behN s (p + m) ≤ n) : behN u (q + m) = behN s (p + m) := by
  have hl := h
  obtain ⟨h1, h2, h3, h4⟩ := h
  by_cases hmn : m < n
  · have e1 := h3 m hmn
    by_cases h46 : bAt s (p + m) = 46
    · obtain ⟨d, hd⟩ : ∃ d, stop isDi s (p + (m + 1)) = p + d := ⟨stop isDi s (p + (m + 1)) - p, by have := ge_stop isDi s (p + (m + 1)); omega⟩
      have hg := ge_stop isDi s (p + (m + 1))
      have hs : behN s (p + m) = d - (m + 1) := by
        unfold behN
        rw [if_pos ⟨by omega, h46⟩, show p + m + 1 = p + (m + 1) by omega, hd]; omega
      have hu := lik_stop hl (f := isDi) (fun c hc => (bl_no hc).2.1) hd (by omega)
      rw [hs]
      unfold behN
      rw [if_pos ⟨by omega, by rw [e1]; exact h46⟩, show q + m + 1 = q + (m + 1) by omega, hu]; omega
    · have a1 : ¬ (q + m < u.size ∧ bAt u (q + m) = 46) := fun x => h46 (by rw [← e1]; exact x.2)
      have a2 : ¬ (p + m < s.size ∧ bAt s (p + m) = 46) := fun x => h46 x.2
      unfold behN
      rw [if_neg a1, if_neg a2]
  · obtain rfl : m = n := by omega
    have h0 : behN s (p + m) = 0 := by omega
    rw [h0]
    unfold behN
    exact if_neg fun x => (bl_no (h4 x.1)).2.2.1 x.2
theorem num_mv {s u : ByteArray} {p q n : Nat} (h : Lik s p u q n) (hn : 0 < n) {t : Tk} {e : Nat} (ht : numTok s p = some (t, e)) (he : e ≤ p + n) : numTok u q = some (t, e - p + q) := by
  have h0 : bAt u q = bAt s p := by have := h.2.2.1 0 hn; simpa using this
  obtain ⟨m, hm⟩ : ∃ m, stop isDi s p = p + m := ⟨stop isDi s p - p, by have := ge_stop isDi s p; omega⟩
  unfold numTok at ht ⊢
  rw [hm] at ht
  simp only [Nat.add_sub_cancel_left] at ht
  by_cases hz : 1 < m ∧ bAt s p = 48
  · rw [if_pos hz] at ht; cases ht
  · rw [if_neg hz] at ht
    by_cases hb0 : behN s (p + m) = 0
    · rw [if_pos hb0] at ht
      split at ht
      · rename_i hlt
        cases ht
        have hmn : m ≤ n := by omega
        have hq := lik_stop h (f := isDi) (fun c hc => (bl_no hc).2.1) (i := 0) (by simpa using hm) hmn
        have hx := lik_ext h (i := 0) hmn
        have hb := lik_beh h hmn (.inl hb0)
        simp only [Nat.add_zero] at hq hx
        rw [hq, hb, hx, if_neg (by rw [h0, Nat.add_sub_cancel_left]; exact hz), if_pos hb0, if_pos hlt]
        rw [show p + m - p + q = q + m by omega]
      · cases ht
    · rw [if_neg hb0] at ht
      split at ht
      · cases ht
      · rename_i hlt
        cases ht
        have hmn : m ≤ n := by omega
        have hq := lik_stop h (f := isDi) (fun c hc => (bl_no hc).2.1) (i := 0) (by simpa using hm) hmn
        have hx := lik_ext h (i := 0) hmn
        have hb := lik_beh h hmn (.inr (by omega))
        have hy := lik_ext h (i := m + 1) (j := m + 1 + behN s (p + m)) (by omega)
        simp only [Nat.add_zero] at hq hx
        simp only [← Nat.add_assoc] at hy
        rw [hq, hb, hx, hy, if_neg (by rw [h0, Nat.add_sub_cancel_left]; exact hz), if_neg hb0, if_neg (by rw [Nat.add_sub_cancel_left]; exact hlt)]
        rw [show p + m + 1 + behN s (p + m) - p + q = q + m + 1 + behN s (p + m) by omega]
theorem sg_mv {s u : ByteArray} {p q n : Nat} (h : Lik s p u q n) (hn : 0 < n) {t : Tk} {e : Nat} (ht : sgTok s p = some (t, e)) (he : e ≤ p + n) : sgTok u q = some (t, e - p + q) := by
  have h0 : bAt u q = bAt s p := by have := h.2.2.1 0 hn; simpa using this
  have hl := h
  obtain ⟨h1, h2, h3, h4⟩ := h
  unfold sgTok at ht
  split at ht
  · cases ht
  · rename_i hne
    cases ht
    have hlen : sgLen u q = sgLen s p := by
      by_cases hc : bAt s p = 33 ∨ bAt s p = 60 ∨ bAt s p = 62
      · have e1 : sgLen s p = if twoB s p then 2 else 1 := if_pos hc
        have e2 : sgLen u q = if twoB u q then 2 else 1 := if_pos (by rw [h0]; exact hc)
        have e3 : twoB u q = twoB s p := by
          by_cases h5 : 1 < n
          · unfold twoB
            rw [h3 1 h5, decide_eq_true (show q + 1 < u.size by omega), decide_eq_true (show p + 1 < s.size by omega)]
          · obtain rfl : n = 1 := by omega
            have f1 : twoB s p = false := by
              cases h6 : twoB s p with
              | false => rfl
              | true => rw [h6, if_pos rfl] at e1; omega
            have f2 : twoB u q = false := by
              cases h6 : twoB u q with
              | false => rfl
              | true =>
                unfold twoB at h6
                rw [Bool.and_eq_true, decide_eq_true_eq, beq_iff_eq] at h6
                exact absurd h6.2 (bl_no (h4 h6.1)).2.2.2
            rw [f1, f2]
        rw [e1, e2, e3]
      · unfold sgLen
        rw [if_neg hc, if_neg (by rw [h0]; exact hc), h0]
    unfold sgTok
    have hx := lik_ext hl (i := 0) (j := sgLen s p) (by omega)
    simp only [Nat.add_zero] at hx
    rw [hlen, if_neg hne, hx, show p + sgLen s p - p + q = q + sgLen s p by omega]
theorem tok_mv {s u : ByteArray} {p q n : Nat} (h : Lik s p u q n) (hn : 0 < n) {t : Tk} {e : Nat} (ht : tok s p = some (t, e)) (he : e ≤ p + n) : tok u q = some (t, e - p + q) := by
  have h0 : bAt u q = bAt s p := by have := h.2.2.1 0 hn; simpa using this
  unfold tok at ht ⊢
  rw [h0]
  cases hle : isLe (bAt s p) with
  | true =>
    rw [hle, if_pos rfl] at ht
    rw [if_pos rfl]
    obtain ⟨m, hm⟩ : ∃ m, stop isNm s p = p + m := ⟨stop isNm s p - p, by have := ge_stop isNm s p; omega⟩
    unfold wdTok at ht ⊢
    rw [hm] at ht
    have hme : e = p + m := by
      split at ht
      · cases ht; rfl
      · split at ht
        · cases ht; rfl
        · cases ht
    subst hme
    have hmn : m ≤ n := by omega
    have hq := lik_stop h (f := isNm) (fun c hc => (bl_no hc).1) (i := 0) (by simpa using hm) hmn
    have hx := lik_ext h (i := 0) hmn
    simp only [Nat.add_zero] at hq hx
    rw [hq, hx, show p + m - p + q = q + m by omega]
    by_cases hw : wordB (s.extract p (p + m)) = true
    · rw [if_pos hw] at ht ⊢
      cases ht; rfl
    · rw [if_neg hw] at ht ⊢
      by_cases hk : nmOk (s.extract p (p + m)) = true
      · rw [if_pos hk] at ht ⊢
        cases ht; rfl
      · rw [if_neg hk] at ht
        cases ht
  | false =>
    rw [hle, if_neg (by simp)] at ht
    rw [if_neg (by simp)]
    cases hd : isDi (bAt s p) with
    | true =>
      rw [hd, if_pos rfl] at ht
      rw [if_pos rfl]
      exact num_mv h hn ht he
    | false =>
      rw [hd, if_neg (by simp)] at ht
      rw [if_neg (by simp)]
      by_cases h39 : bAt s p = 39
      · rw [if_pos h39] at ht ⊢
        obtain ⟨m, hm⟩ : ∃ m, stop isNm s (p + 1) = p + m := ⟨stop isNm s (p + 1) - p, by have := ge_stop isNm s (p + 1); omega⟩
        have hg := ge_stop isNm s (p + 1)
        unfold syTok at ht ⊢
        rw [hm] at ht
        split at ht
        · rename_i hh
          cases ht
          have hq := lik_stop h (f := isNm) (fun c hc => (bl_no hc).1) hm (by omega)
          have hx := lik_ext h (i := 1) (j := m) (by omega)
          have e1 := h.2.2.1 m (by omega)
          have e2 := h.2.1
          rw [hq, hx, if_pos ⟨hh.1, by omega, by rw [e1]; exact hh.2.2⟩, show p + m + 1 - p + q = q + m + 1 by omega]
        · cases ht
      · rw [if_neg h39] at ht ⊢
        exact sg_mv h hn ht he
end Ab
end Go.Proofs.YtniibdfnijeaeaaDoor

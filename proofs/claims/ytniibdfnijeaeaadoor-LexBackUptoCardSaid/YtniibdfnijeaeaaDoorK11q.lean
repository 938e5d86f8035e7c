/-
  The document's one; the program's next; where tokens end.
-/
import Derived.Test.YtniibdfnijeaeaaDoorK10q
set_option linter.unusedVariables false
set_option linter.unusedSimpArgs false
set_option linter.unusedSectionVars false
namespace Go.Proofs.YtniibdfnijeaeaaDoor
namespace Ab
theorem tok_end {s : ByteArray} {p : Nat} (hp : p < s.size) {t : Tk} {e : Nat} (h : tok s p = some (t, e)) : p < e ∧ e ≤ s.size := by
  unfold tok at h
  split at h
  · rename_i hl
    have hn : isNm (bAt s p) = true := by unfold isNm; rw [hl]; rfl
    have h1 : p + 1 ≤ stop isNm s p := by rw [stop_on hp hn]; exact ge_stop _ _ _
    have h2 := le_stop (f := isNm) (Nat.le_of_lt hp)
    unfold wdTok at h
    split at h
    · cases h; exact ⟨h1, h2⟩
    · split at h
      · cases h; exact ⟨h1, h2⟩
      · cases h
  · split at h
    · rename_i hd
      have h1 := run_pos hp hd
      have h2 := le_stop (f := isDi) (Nat.le_of_lt hp)
      have h3 := beh_le h2
      unfold numTok at h
      split at h
      · cases h
      · split at h
        · split at h
          · cases h; exact ⟨h1, h2⟩
          · cases h
        · rename_i hm
          split at h
          · cases h
          · cases h
            rcases h3 with h3 | h3
            · exact absurd h3 hm
            · exact ⟨by omega, h3⟩
    · split at h
      · unfold syTok at h
        split at h
        · rename_i hh
          cases h
          have := ge_stop isNm s (p + 1)
          exact ⟨by omega, hh.2.1⟩
        · cases h
      · unfold sgTok at h
        split at h
        · cases h
        · rename_i h0
          cases h
          have h1 : p + sgLen s p ≤ s.size := by
            unfold sgLen at *
            split
            · rename_i hc
              rw [if_pos hc] at h0
              split
              · rename_i h2
                unfold twoB at h2
                rw [Bool.and_eq_true, decide_eq_true_eq] at h2
                omega
              · omega
            · split <;> omega
          exact ⟨by omega, h1⟩
section
variable [Laid2]
/-- what next gives at a place. -/
def nextR (s : ByteArray) (p : Nat) (z : Int) : R17 :=
  if stop isBl s p = s.size then .inl (0, strB [], 0, 0, (s.size : Int), (s.size : Int))
  else match tok s (stop isBl s p) with
    | some (t, e) => .inl (t.kind, t.text, t.n, t.scale, (stop isBl s p : Int), (e : Int))
    | none => .inr ((stop isBl s p : Int), z)
theorem g17_at {s : ByteArray} {q : Nat} (hs : s.size ≤ 4000) (hq : q ≤ s.size) (hb : q < s.size → isBl (bAt s q) = false) : ∃ z, Goes step17 (.h1 false 0 (strB []) 0 0 0 s (q : Int)) (nextR s q z) := by
  have hst : stop isBl s q = q := stop_no hb
  unfold nextR
  rw [hst]
  by_cases he : q = s.size
  · refine ⟨0, ?_⟩
    rw [if_pos he]
    refine .fin0 fun k rec => ?_
    subst he
    simp only [step17, t17_h1, cond_false, beq_self_eq_true, cond_true]
  · have hp : q < s.size := by omega
    have hne : ((q : Int) == (s.size : Int)) = false := by rw [beq_eq_false_iff_ne]; omega
    simp only [if_neg he]
    obtain ⟨N1, h1⟩ := g22_is (bAt s q)
    obtain ⟨N2, h2⟩ := g24_is (bAt s q)
    unfold tok
    cases hl : isLe (bAt s q) with
    | true =>
      refine ⟨(stop isNm s q : Int), ?_⟩
      rw [if_pos rfl]
      obtain ⟨N3, h3⟩ := g23_is hs hp
      refine .fin ⟨N1 + N2 + N3, fun k hk rec => ?_⟩
      have h1 := h1 k (by omega); have h3 := h3 k (by omega)
      rw [hl] at h1
      simp only at h1 h3
      simp only [step17, t17_h1, cond_false, hne, sxI_at hp, h1, Option.bind_some, cond_true, h3]
      cases wdTok s q with
      | none => rfl
      | some x => obtain ⟨t, e⟩ := x; rfl
    | false =>
      rw [if_neg (by simp)]
      cases hd : isDi (bAt s q) with
      | true =>
        rw [if_pos rfl]
        obtain ⟨z, N3, h3⟩ := g25_is hs hp hd
        refine ⟨z, .fin ⟨N1 + N2 + N3, fun k hk rec => ?_⟩⟩
        have h1 := h1 k (by omega); have h2 := h2 k (by omega); have h3 := h3 k (by omega)
        rw [hl] at h1
        rw [hd] at h2
        simp only at h1 h2 h3
        simp only [step17, t17_h1, cond_false, hne, sxI_at hp, h1, h2, Option.bind_some, cond_true, h3]
        cases numTok s q with
        | none => rfl
        | some x => obtain ⟨t, e⟩ := x; rfl
      | false =>
        rw [if_neg (by simp)]
        by_cases h39 : bAt s q = 39
        · rw [if_pos h39]
          obtain ⟨N3, h3⟩ := g26_is hs hp
          refine ⟨(q : Int), .fin ⟨N1 + N2 + N3, fun k hk rec => ?_⟩⟩
          have h1 := h1 k (by omega); have h2 := h2 k (by omega); have h3 := h3 k (by omega)
          rw [hl] at h1
          rw [hd] at h2
          simp only at h1 h2 h3
          simp only [step17, t17_h1, cond_false, hne, sxI_at hp, h1, h2, Option.bind_some, show (bAt s q == 39) = true from beq_iff_eq.2 h39, cond_true, h3]
          cases syTok s q with
          | none => rfl
          | some x => obtain ⟨t, e⟩ := x; rfl
        · rw [if_neg h39]
          obtain ⟨N3, h3⟩ := g27_is hs hp
          refine ⟨(q : Int), .fin ⟨N1 + N2 + N3, fun k hk rec => ?_⟩⟩
          have h1 := h1 k (by omega); have h2 := h2 k (by omega); have h3 := h3 k (by omega)
          rw [hl] at h1
          rw [hd] at h2
          simp only at h1 h2 h3
          simp only [step17, t17_h1, cond_false, hne, sxI_at hp, h1, h2, Option.bind_some, show (bAt s q == 39) = false from beq_eq_false_iff_ne.2 h39, h3]
          cases sgTok s q with
          | none => rfl
          | some x => obtain ⟨t, e⟩ := x; rfl
theorem nextR_on {s : ByteArray} {p : Nat} {z : Int} (hp : p < s.size) (hb : isBl (bAt s p) = true) : nextR s p z = nextR s (p + 1) z := by
  unfold nextR
  rw [stop_on hp hb]
theorem g17_loop {s : ByteArray} (hs : s.size ≤ 4000) : ∀ (n p : Nat), s.size - p ≤ n → p ≤ s.size → ∃ z, Goes step17 (.h0 0 (strB []) 0 0 0 s (p : Int)) (nextR s p z)
  | 0, p, h1, h2 => by
    obtain ⟨z, hz⟩ := g17_at hs h2 (fun h => by omega)
    exact ⟨z, Goes.rec0 hz fun k rec => by simp only [step17, t17_h0, ltF (show ¬ p < s.size by omega), cond_false]⟩
  | n + 1, p, h1, h2 => by
    by_cases hp : p < s.size
    · cases hb : isBl (bAt s p) with
      | true =>
        obtain ⟨z, hz⟩ := g17_loop hs n (p + 1) (by omega) (by omega)
        rw [← nextR_on hp hb] at hz
        have h3 : Goes step17 (.h1 true 0 (strB []) 0 0 0 s (p : Int)) (nextR s p z) := Goes.rec0 hz fun k rec => by simp only [step17, t17_h1, cond_true, wrap1 p (by omega)]
        exact ⟨z, Goes.call (g12_is (bAt s p)) h3 fun k rec e => by simp only [step17, t17_h0, ltT hp, cond_true, sxI_at hp, e, hb, Option.bind_some]⟩
      | false =>
        obtain ⟨z, hz⟩ := g17_at hs h2 (fun _ => hb)
        exact ⟨z, Goes.call (g12_is (bAt s p)) hz fun k rec e => by simp only [step17, t17_h0, ltT hp, cond_true, sxI_at hp, e, hb, Option.bind_some]⟩
    · obtain ⟨z, hz⟩ := g17_at hs h2 (fun h => absurd h hp)
      exact ⟨z, Goes.rec0 hz fun k rec => by simp only [step17, t17_h0, ltF hp, cond_false]⟩
theorem g17_is {s : ByteArray} {p : Nat} (hs : s.size ≤ 4000) (hp : p ≤ s.size) : ∃ z, Tot (fun k => g17 k s (p : Int)) (nextR s p z) := by
  obtain ⟨z, hz⟩ := g17_loop hs _ p (Nat.le_refl _) hp
  exact ⟨z, Goes.rec0 (step := step17) (s := .e s (p : Int)) hz fun k rec => rfl⟩
end
end Ab
end Go.Proofs.YtniibdfnijeaeaaDoor

/-
  LexScans: the two scans are alike.
-/
import Derived.Test.YtniibdfnijeaeaaDoorK12
set_option linter.unusedVariables false
set_option linter.unusedSimpArgs false
set_option linter.unusedSectionVars false
namespace Go.Proofs.YtniibdfnijeaeaaDoor
namespace Ab
/-- a row of a token's shape. -/
def tkShape (r : List Cell) : Prop := ∃ a b c d e, r = [ic a, sc b, ic c, ic d, ic e]
theorem scan_shape (s : ByteArray) : ∀ (n p : Nat) l, scanF s n p = .inl l → ∀ r ∈ l, tkShape r
  | 0, p, l, h => by cases h
  | n + 1, p, l, h => by
    unfold scanF at h
    split at h
    · cases h
      intro r hr
      rw [List.mem_singleton.1 hr]
      exact ⟨_, _, _, _, _, rfl⟩
    · split at h
      · cases hq : scanF s n _ with
        | inl l' =>
          rw [hq] at h
          cases h
          intro r hr
          rcases List.mem_cons.1 hr with rfl | hr
          · exact ⟨_, _, _, _, _, rfl⟩
          · exact scan_shape s n _ l' hq r hr
        | inr z => rw [hq] at h; cases h
      · cases h
theorem scan_len (s : ByteArray) : ∀ (n p : Nat) l, p ≤ s.size → scanF s n p = .inl l → l.length ≤ s.size - p + 1
  | 0, p, l, _, h => by cases h
  | n + 1, p, l, hp, h => by
    have h1 := ge_stop isBl s p
    have h2 := le_stop (f := isBl) hp
    unfold scanF at h
    split at h
    · cases h; simp
    · rename_i hne
      split at h
      · rename_i t e ht
        have he := tok_end (by omega) ht
        cases hq : scanF s n e with
        | inl l' =>
          rw [hq] at h
          cases h
          have := scan_len s n e l' he.2 hq
          rw [List.length_cons]
          omega
        | inr z => rw [hq] at h; cases h
      · cases h
section
variable [Laid2]
theorem awake_is : Tot (fun k => g10 k) true := tot_deep 60 fun j => by kernel_rfl
theorem g11_loop {L : Rs} (hL : ∀ r ∈ L, tkShape r) (hl : L.length ≤ 5000) : ∀ (n i : Nat), L.length - i ≤ n → Goes step11 (.h0 L L (L.length : Int) (i : Int)) true
  | 0, i, h => .fin0 fun k rec => by simp only [step11, t11_h0, ltF (show ¬ i < L.length by omega), cond_false]
  | n + 1, i, h => by
    by_cases hi : i < L.length
    · have hrow := List.getElem?_eq_getElem hi
      obtain ⟨a, b, c, d, e, hr⟩ := hL _ (List.getElem_mem hi)
      rw [hr] at hrow
      refine Goes.rec0 (g11_loop hL hl n (i + 1) (by omega)) fun k rec => ?_
      simp only [step11, t11_h0, ltT hi, cond_true, ixR_at hrow]
      show (bif !(a == a && (b.toList == b.toList && (c == c && (d == d && (e == e && true))))) then some false else rec _) = _
      simp only [beq_self_eq_true, Bool.true_and, Bool.not_true, cond_false, wrap1 i (by omega)]
    · exact .fin0 fun k rec => by simp only [step11, t11_h0, ltF hi, cond_false]
theorem g11_same {L : Rs} (hL : ∀ r ∈ L, tkShape r) (hl : L.length ≤ 5000) : Tot (fun k => g11 k L L) true := by
  refine Goes.rec0 (step := step11) (s := .e L L) (g11_loop hL hl _ 0 (Nat.le_refl _)) fun k rec => ?_
  simp only [step11, t11_e]
  rw [show ((L.length : Int) != (L.length : Int)) = false from by simp]
  rfl
theorem scans_true (s : ByteArray) : Tot (fun k => g3 k s) true := by
  obtain ⟨N4, h4⟩ := awake_is
  have both : ∀ (r8 : R8) (r9 : R9) (L : Rs), Tot (fun k => g8 k s) r8 → Tot (fun k => g9 k s) r9 → (∀ r ∈ L, tkShape r) → L.length ≤ 5000 → immRs r9.1 = L →
      ((∃ a b : Int, r8 = .inl (L, a, b) ∧ r9.2 = (a, b)) ∨ (L = [] ∧ ∃ a b : Int, r8 = .inr (a, b) ∧ r9.2 = (a, b))) → Tot (fun k => g3 k s) true := by
    intro r8 r9 L h8 h9 hL hl hi hc
    obtain ⟨N1, h1⟩ := h8
    obtain ⟨N2, h2⟩ := h9
    obtain ⟨N3, h3⟩ := g11_same hL hl
    refine Goes.fin (step := step3) (s := .e s) ⟨N1 + N2 + N3 + N4, fun k hk rec => ?_⟩
    have h1 := h1 k (by omega); have h2 := h2 k (by omega); have h3 := h3 k (by omega); have h4 := h4 k (by omega)
    simp only at h1 h2 h3 h4
    obtain ⟨l9, a9, b9⟩ := r9
    simp only at hi hc
    rcases hc with ⟨a, b, rfl, hab⟩ | ⟨rfl, a, b, rfl, hab⟩
    · cases hab
      simp only [step3, t3_e, h1, h2, h4, Option.bind_some, altC, tup3, hi, h3, cond_true, beq_self_eq_true]
    · cases hab
      simp only [step3, t3_e, h1, h2, h4, Option.bind_some, altC, tup2, tup3, hi, h3, cond_true, beq_self_eq_true]
  by_cases hs : s.size ≤ 4000
  · cases hq : scanF s (s.size + 1) 0 with
    | inl l =>
      have hi := imm_scan s _ _ l hq
      refine both _ _ l (g8_is hs) (g9_is hs) (scan_shape s _ _ l hq) (by have := scan_len s _ _ l (Nat.zero_le _) hq; omega) ?_ (.inl ⟨0, 0, ?_, ?_⟩)
      · rw [hq]; exact hi
      · rw [hq]
        show Sum.inl (immRs l, 0, 0) = _
        rw [hi]
      · rw [hq]; rfl
    | inr z =>
      refine both _ _ [] (g8_is hs) (g9_is hs) (fun r hr => by cases hr) (by simp) ?_ (.inr ⟨rfl, (z : Int), 12, ?_, ?_⟩)
      · rw [hq]; rfl
      · rw [hq]; rfl
      · rw [hq]; rfl
  · exact both _ _ [] (g8_long hs) (g9_long hs) (fun r hr => by cases hr) (by simp) rfl (.inl ⟨0, 2, rfl, rfl⟩)
end
end Ab
end Go.Proofs.YtniibdfnijeaeaaDoor

/-
  The scans: the program's and the document's alike; LexScans' law.
-/
import Derived.Test.YtniibdfnijeaeaaDoorK11q
set_option linter.unusedVariables false
set_option linter.unusedSimpArgs false
set_option linter.unusedSectionVars false
namespace Go.Proofs.YtniibdfnijeaeaaDoor
namespace Ab
def tkRow (t : Tk) (p : Nat) : List Cell := [ic t.kind, sc t.text, ic t.n, ic t.scale, ic (p : Int)]
def endRow (p : Nat) : List Cell := [ic 0, sc (strB []), ic 0, ic 0, ic (p : Int)]
/-- the tokens from a place on, or where the first thing stands that is none. -/
def scanF (s : ByteArray) : Nat → Nat → Rs ⊕ Nat
  | 0, p => .inr p
  | n + 1, p => if stop isBl s p = s.size then .inl [endRow s.size] else match tok s (stop isBl s p) with
    | some (t, e) => (match scanF s n e with
      | .inl l => .inl (tkRow t (stop isBl s p) :: l)
      | .inr z => .inr z)
    | none => .inr (stop isBl s p)
theorem imm_scan (s : ByteArray) : ∀ (n p : Nat) l, scanF s n p = .inl l → immRs l = l
  | 0, p, l, h => by cases h
  | n + 1, p, l, h => by
    unfold scanF at h
    split at h
    · cases h; rw [immRs_eq]; rfl
    · split at h
      · rename_i t e he
        cases hq : scanF s n e with
        | inl l' =>
          rw [hq] at h
          cases h
          have := imm_scan s n e l' hq
          rw [immRs_eq] at this ⊢
          rw [List.map_cons, this]; rfl
        | inr z => rw [hq] at h; cases h
      · cases h
section
variable [Laid2]
theorem ap_ok {acc : Rs} {row : List Cell} (h1 : acc.length ≤ 5000) (h2 : row.length = 5) : apOk 48 5 acc [row] = true := by
  unfold apOk
  simp [h2, lim]
  omega
def res8of (acc : Rs) : Rs ⊕ Nat → R8
  | .inl l => .inl (immRs (acc ++ l), 0, 0)
  | .inr z => .inr ((z : Int), 12)
theorem g8_loop {s : ByteArray} (hs : s.size ≤ 4000) : ∀ (n p : Nat) (acc : Rs), s.size - p < n → p ≤ s.size → acc.length ≤ p → Goes step8 (.h1 s (p : Int) 0 0 acc) (res8of acc (scanF s n p))
  | 0, p, acc, h, _, _ => by omega
  | n + 1, p, acc, h1, h2, h3 => by
    obtain ⟨z, hz⟩ := g17_is (s := s) (p := p) hs h2
    unfold nextR at hz
    have hq := ge_stop isBl s p
    have hq2 := le_stop (f := isBl) h2
    unfold scanF
    by_cases he : stop isBl s p = s.size
    · rw [if_pos he] at hz ⊢
      have h4 : Goes step8 (.h2 0 0 (immRs (acc ++ [endRow s.size]))) (res8of acc (.inl [endRow s.size])) := .fin0 fun k rec => rfl
      refine Goes.call hz h4 fun k rec e => ?_
      simp only [step8, t8_h1, e, Option.bind_some, altC, tup6, ap_ok (show acc.length ≤ 5000 by omega) (show [ic 0, sc (strB []), ic 0, ic 0, ic (s.size : Int)].length = 5 from rfl), gd_true, show ((0 : Int) == 0) = true from rfl, cond_true]
      rfl
    · rw [if_neg he] at hz ⊢
      have hp : stop isBl s p < s.size := by omega
      cases ht : tok s (stop isBl s p) with
      | none =>
        rw [ht] at hz
        refine Goes.done hz fun k rec e => ?_
        simp only [step8, t8_h1, e, Option.bind_some, altC, tup2]
        rfl
      | some x =>
        obtain ⟨t, e⟩ := x
        rw [ht] at hz
        have hend := tok_end hp ht
        have hk : t.kind ≠ 0 := by
          unfold tok wdTok numTok syTok sgTok at ht
          intro hk
          repeat' split at ht
          all_goals first | (cases ht; done) | (cases ht; simp at hk)
        have ih := g8_loop hs n e (acc ++ [tkRow t (stop isBl s p)]) (by omega) hend.2 (by rw [List.length_append, List.length_singleton]; omega)
        have e2 : res8of (acc ++ [tkRow t (stop isBl s p)]) (scanF s n e) = res8of acc (match scanF s n e with | .inl l => .inl (tkRow t (stop isBl s p) :: l) | .inr z => .inr z) := by
          cases scanF s n e with
          | inl l => simp [res8of]
          | inr z => rfl
        rw [e2] at ih
        refine Goes.call hz ih fun k rec e => ?_
        simp only [step8, t8_h1, e, Option.bind_some, altC, tup6, ap_ok (show acc.length ≤ 5000 by omega) (show [ic t.kind, sc t.text, ic t.n, ic t.scale, ic (stop isBl s p : Int)].length = 5 from rfl), gd_true, beq_eq_false_iff_ne.2 hk, cond_false]
        rfl
theorem g8_is {s : ByteArray} (hs : s.size ≤ 4000) : Tot (fun k => g8 k s) (res8of [] (scanF s (s.size + 1) 0)) := by
  have h := g8_loop hs (s.size + 1) 0 [] (by omega) (by omega) (Nat.le_refl _)
  refine Goes.rec0 (step := step8) (s := .e s) h fun k rec => ?_
  simp only [step8, t8_e, show decide ((s.size : Int) > 4000) = false from decide_eq_false (by omega), cond_false]
  rfl
theorem g8_long {s : ByteArray} (hs : ¬ s.size ≤ 4000) : Tot (fun k => g8 k s) (.inl ([], 0, 2)) := by
  have h : Goes step8 (.h0 2 0 []) (.inl ([], 0, 2)) := .fin0 fun k rec => rfl
  refine Goes.rec0 (step := step8) (s := .e s) h fun k rec => ?_
  simp only [step8, t8_e, show decide ((s.size : Int) > 4000) = true from decide_eq_true (by omega), cond_true]
end
end Ab
end Go.Proofs.YtniibdfnijeaeaaDoor

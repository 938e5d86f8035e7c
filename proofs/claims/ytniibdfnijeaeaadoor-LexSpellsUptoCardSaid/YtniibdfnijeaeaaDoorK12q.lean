/-
  The scans: the program's and the document's alike; LexScans' law.
-/
import Derived.Test.YtniibdfnijeaeaaDoorK11q
set_option linter.unusedVariables false
set_option linter.unusedSimpArgs false
set_option linter.unusedSectionVars false
namespace Go.Proofs.YtniibdfnijeaeaaDoor
namespace Ab
def tkRow (t : Tk) (p : Nat) : List Cell := [ic t.kind, sc t.text, ic t.n, ic t.scale, ic (p : Int)]
def endRow (p : Nat) : List Cell := [ic 0, sc (strB []), ic 0, ic 0, ic (p : Int)]
/-- the tokens from a place on, or where the first thing stands that is none. -/
def scanF (s : ByteArray) : Nat → Nat → Rs ⊕ Nat
  | 0, p => .inr p
  | n + 1, p => if stop isBl s p = s.size then .inl [endRow s.size] else match tok s (stop isBl s p) with
    | some (t, e) => (match scanF s n e with
      | .inl l => .inl (tkRow t (stop isBl s p) :: l)
      | .inr z => .inr z)
    | none => .inr (stop isBl s p)
theorem imm_scan (s : ByteArray) : ∀ (n p : Nat) l, scanF s n p = .inl l → immRs l = l
  | 0, p, l, h => by cases h
  | n + 1, p, l, h => by
    unfold scanF at h
    split at h
    · cases h; rw [immRs_eq]; rfl
    · split at h
      · rename_i t e he
        cases hq : scanF s n e with
        | inl l' =>
          rw [hq] at h
          cases h
          have := imm_scan s n e l' hq
          rw [immRs_eq] at this ⊢
          rw [List.map_cons, this]; rfl
        | inr z => rw [hq] at h; cases h
      · cases h
section
variable [Laid2]
theorem ap_ok {acc : Rs} {row : List Cell} (h1 : acc.length ≤ 5000) (h2 : row.length = 5) : apOk 48 5 acc [row] = true := by
  unfold apOk
  simp [h2, lim]
  omega
def res8of (acc : Rs) : Rs ⊕ Nat → R8
  | .inl l => .inl (immRs (acc ++ l), 0, 0)
  | .inr z => .inr ((z : Int), 12)
theorem g8_loop {s : ByteArray} (hs : s.size ≤ 4000) : ∀ (n p : Nat) (acc : Rs), s.size - p < n → p ≤ s.size → acc.length ≤ p → Goes step8 (.h1 s (p : Int) 0 0 acc) (res8of acc (scanF s n p))
  | 0, p, acc, h, _, _ => by omega
  | n + 1, p, acc, h1, h2, h3 => by
    obtain ⟨z, hz⟩ := g17_is (s := s) (p := p) hs h2
    unfold nextR at hz
    have hq := ge_stop isBl s p
    have hq2 := le_stop (f := isBl) h2
    unfold scanF
    by_cases he : stop isBl s p = s.size
    · rw [if_pos he] at hz ⊢
      have h4 : Goes step8 (.h2 0 0 (immRs (acc ++ [endRow s.size]))) (res8of acc (.inl [endRow s.size])) := .fin0 fun k rec => rfl
      refine Goes.call hz h4 fun k rec e => ?_
      simp only [step8, t8_h1, e, Option.bind_some, altC, tup6, ap_ok (show acc.length ≤ 5000 by omega) (show [ic 0, sc (strB []), ic 0, ic 0, ic (s.size : Int)].length = 5 from rfl), gd_true, show ((0 : Int) == 0) = true from rfl, cond_true]
      rfl
    · rw [if_neg he] at hz ⊢
      have hp : stop isBl s p < s.size := by omega
      cases ht : tok s (stop isBl s p) with
      | none =>
        rw [ht] at hz
        refine Goes.done hz fun k rec e => ?_
        simp only [step8, t8_h1, e, Option.bind_some, altC, tup2]
        rfl
      | some x =>
        obtain ⟨t, e⟩ := x
        rw [ht] at hz
        have hend := tok_end hp ht
        have hk : t.kind ≠ 0 := by
          unfold tok wdTok numTok syTok sgTok at ht
          intro hk
          repeat' split at ht
          all_goals first | (cases ht; done) | (cases ht; simp at hk)
        have ih := g8_loop hs n e (acc ++ [tkRow t (stop isBl s p)]) (by omega) hend.2 (by rw [List.length_append, List.length_singleton]; omega)
        have e2 : res8of (acc ++ [tkRow t (stop isBl s p)]) (scanF s n e) = res8of acc (match scanF s n e with | .inl l => .inl (tkRow t (stop isBl s p) :: l) | .inr z => .inr z) := by
          cases scanF s n e with
          | inl l => simp [res8of]
          | inr z => rfl
        rw [e2] at ih
        refine Goes.call hz ih fun k rec e => ?_
        simp only [step8, t8_h1, e, Option.bind_some, altC, tup6, ap_ok (show acc.length ≤ 5000 by omega) (show [ic t.kind, sc t.text, ic t.n, ic t.scale, ic (stop isBl s p : Int)].length = 5 from rfl), gd_true, beq_eq_false_iff_ne.2 hk, cond_false]
        rfl
theorem g8_is {s : ByteArray} (hs : s.size ≤ 4000) : Tot (fun k => g8 k s) (res8of [] (scanF s (s.size + 1) 0)) := by
  have h := g8_loop hs (s.size + 1) 0 [] (by omega) (by omega) (Nat.le_refl _)
  refine Goes.rec0 (step := step8) (s := .e s) h fun k rec => ?_
  simp only [step8, t8_e, show decide ((s.size : Int) > 4000) = false from decide_eq_false (by omega), cond_false]
  rfl
theorem g8_long {s : ByteArray} (hs : ¬ s.size ≤ 4000) : Tot (fun k => g8 k s) (.inl ([], 0, 2)) := by
  have h : Goes step8 (.h0 2 0 []) (.inl ([], 0, 2)) := .fin0 fun k rec => rfl
  refine Goes.rec0 (step := step8) (s := .e s) h fun k rec => ?_
  simp only [step8, t8_e, show decide ((s.size : Int) > 4000) = true from decide_eq_true (by omega), cond_true]
def res9of (acc : Rs) : Rs ⊕ Nat → R9
  | .inl l => (acc ++ l, 0, 0)
  | .inr z => ([], (z : Int), 12)
theorem g9_loop {s : ByteArray} (hs : s.size ≤ 4000) : ∀ (n p : Nat) (acc : Rs), s.size - p < n → p ≤ s.size → acc.length ≤ p → Goes step9 (.h1 s acc (p : Int)) (res9of acc (scanF s n p))
  | 0, p, acc, h, _, _ => by omega
  | n + 1, p, acc, h1, h2, h3 => by
    have hq := ge_stop isBl s p
    have hq2 := le_stop (f := isBl) h2
    have h5 : acc.length ≤ 5000 := by omega
    -- behind the blanks
    have main : Goes step9 (.h3 s acc (stop isBl s p : Int) false) (res9of acc (scanF s (n + 1) p)) := by
      unfold scanF
      by_cases he : stop isBl s p = s.size
      · rw [if_pos he]
        have h4 : Goes step9 (.h4 (acc ++ [endRow s.size]) 0 0) (res9of acc (.inl [endRow s.size])) := .fin0 fun k rec => rfl
        refine Goes.rec0 h4 fun k rec => ?_
        simp only [step9, t9_h3, cond_false, he, beq_self_eq_true, cond_true, ap_ok h5 (show [ic 0, sc (strB []), ic 0, ic 0, ic (s.size : Int)].length = 5 from rfl), gd_true]
        rfl
      · rw [if_neg he]
        have hp : stop isBl s p < s.size := by omega
        have hne : ((stop isBl s p : Int) == (s.size : Int)) = false := by rw [beq_eq_false_iff_ne]; omega
        have hg := g18_is hs hp
        cases ht : tok s (stop isBl s p) with
        | none =>
          rw [ht] at hg
          have h4 : Goes step9 (.h5 [] (stop isBl s p : Int) 12) (res9of acc (.inr (stop isBl s p))) := .fin0 fun k rec => rfl
          refine Goes.call hg h4 fun k rec e => ?_
          simp only [step9, t9_h3, cond_false, hne, e, Option.bind_some, oneR, tup6, show ((0 : Int) == 0) = true from rfl, cond_true]
        | some x =>
          obtain ⟨t, e⟩ := x
          rw [ht] at hg
          have hend := tok_end hp ht
          have ih := g9_loop hs n e (acc ++ [tkRow t (stop isBl s p)]) (by omega) hend.2 (by rw [List.length_append, List.length_singleton]; omega)
          have e2 : res9of (acc ++ [tkRow t (stop isBl s p)]) (scanF s n e) = res9of acc (match scanF s n e with | .inl l => .inl (tkRow t (stop isBl s p) :: l) | .inr z => .inr z) := by
            cases scanF s n e with
            | inl l => simp [res9of]
            | inr z => rfl
          rw [e2] at ih
          have hz : (((e : Int) - (stop isBl s p : Int)) == 0) = false := by rw [beq_eq_false_iff_ne]; omega
          have hw : IntKind.i64.wrap ((stop isBl s p : Int) + ((e : Int) - (stop isBl s p : Int))) = (e : Int) := wrapI (by omega) (by omega)
          refine Goes.call hg ih fun k rec e => ?_
          simp only [step9, t9_h3, cond_false, hne, e, Option.bind_some, oneR, tup6, hz, ap_ok h5 (show [ic t.kind, sc t.text, ic t.n, ic t.scale, ic (stop isBl s p : Int)].length = 5 from rfl), gd_true, hw]
          rfl
    -- the blanks
    have bl : ∀ (j q : Nat), s.size - q ≤ j → q ≤ s.size → stop isBl s q = stop isBl s p → Goes step9 (.h2 s acc (q : Int)) (res9of acc (scanF s (n + 1) p)) := by
      intro j
      induction j with
      | zero =>
        intro q a b c
        have : stop isBl s p = q := by rw [← c]; exact stop_no (fun h => by omega)
        rw [this] at main
        exact Goes.rec0 main fun k rec => by simp only [step9, t9_h2, ltF (show ¬ q < s.size by omega), cond_false]
      | succ j ih =>
        intro q a b c
        by_cases hp : q < s.size
        · cases hb : isBl (bAt s q) with
          | true =>
            have h3 : Goes step9 (.h3 s acc (q : Int) true) (res9of acc (scanF s (n + 1) p)) := Goes.rec0 (ih (q + 1) (by omega) (by omega) (by rw [← c, stop_on hp hb])) fun k rec => by simp only [step9, t9_h3, cond_true, wrap1 q (by omega)]
            exact Goes.call (g13_is (bAt s q)) h3 fun k rec e => by simp only [step9, t9_h2, ltT hp, cond_true, sxI_at hp, e, hb, Option.bind_some]
          | false =>
            have : stop isBl s p = q := by rw [← c]; exact stop_no (fun _ => hb)
            rw [this] at main
            exact Goes.call (g13_is (bAt s q)) main fun k rec e => by simp only [step9, t9_h2, ltT hp, cond_true, sxI_at hp, e, hb, Option.bind_some]
        · have : stop isBl s p = q := by rw [← c]; exact stop_no (fun h => absurd h hp)
          rw [this] at main
          exact Goes.rec0 main fun k rec => by simp only [step9, t9_h2, ltF hp, cond_false]
    exact Goes.rec0 (bl _ p (Nat.le_refl _) h2 rfl) fun k rec => rfl
theorem g9_is {s : ByteArray} (hs : s.size ≤ 4000) : Tot (fun k => g9 k s) (res9of [] (scanF s (s.size + 1) 0)) := by
  have h := g9_loop hs (s.size + 1) 0 [] (by omega) (by omega) (Nat.le_refl _)
  refine Goes.rec0 (step := step9) (s := .e s) h fun k rec => ?_
  simp only [step9, t9_e, show decide ((s.size : Int) > 4000) = false from decide_eq_false (by omega), cond_false]
  rfl
theorem g9_long {s : ByteArray} (hs : ¬ s.size ≤ 4000) : Tot (fun k => g9 k s) ([], 0, 2) := by
  have h : Goes step9 (.h0 [] 0 2) ([], 0, 2) := .fin0 fun k rec => rfl
  refine Goes.rec0 (step := step9) (s := .e s) h fun k rec => ?_
  simp only [step9, t9_e, show decide ((s.size : Int) > 4000) = true from decide_eq_true (by omega), cond_true]
end
end Ab
end Go.Proofs.YtniibdfnijeaeaaDoor

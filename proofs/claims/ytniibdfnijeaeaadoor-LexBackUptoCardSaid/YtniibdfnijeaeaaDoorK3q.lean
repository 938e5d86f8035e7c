/-
  Runs of letters, digits and strokes: what the program's functions and the document's give.
-/
import Derived.Test.YtniibdfnijeaeaaDoorK2q
set_option linter.unusedVariables false
set_option linter.unusedSimpArgs false
set_option linter.unusedSectionVars false
namespace Go.Proofs.YtniibdfnijeaeaaDoor
namespace Ab
section
variable [Laid2]
theorem ltT {a b : Nat} (h : a < b) : decide ((a : Int) < (b : Int)) = true := decide_eq_true (by omega)
theorem ltF {a b : Nat} (h : ¬ a < b) : decide ((a : Int) < (b : Int)) = false := decide_eq_false (by omega)
theorem bnds {s : ByteArray} {a b : Nat} (h1 : a ≤ b) (h2 : b ≤ s.size) : decide (0 ≤ (a : Int) ∧ (a : Int) ≤ (b : Int) ∧ (b : Int) ≤ (s.size : Int)) = true := decide_eq_true (by omega)
theorem gd_true {α : Type} (x : Option α) : gd true x = x := rfl
theorem ext_cast (s : ByteArray) (a b : Nat) : s.extract (Int.toNat (a : Int)) (Int.toNat (b : Int)) = s.extract a b := rfl
theorem g35_loop {s : ByteArray} {p : Nat} {q : Int} (hs : s.size ≤ 4000) : ∀ (n e : Nat), s.size - e ≤ n → p ≤ e → e ≤ s.size → Goes step35 (.h0 (p : Int) (e : Int) s q) (s.extract p (stop isNm s e)) := by
  have fin : ∀ e : Nat, p ≤ e → e ≤ s.size → Goes step35 (.h1 (p : Int) (e : Int) false s q) (s.extract p e) := fun e h1 h2 => .fin0 fun k rec => by
    simp only [step35, t35_h1, cond_false, bnds h1 h2, gd_true, ext_cast]
  intro n
  induction n with
  | zero =>
    intro e h1 h2 h3
    rw [stop_no (fun h => by omega)]
    exact Goes.rec0 (fin e h2 h3) fun k rec => by simp only [step35, t35_h0, ltF (show ¬ e < s.size by omega), cond_false]
  | succ n ih =>
    intro e h1 h2 h3
    by_cases he : e < s.size
    · cases hb : isNm (bAt s e) with
      | true =>
        rw [stop_on he hb]
        have h4 : Goes step35 (.h1 (p : Int) (e : Int) true s q) (s.extract p (stop isNm s (e + 1))) := Goes.rec0 (ih (e + 1) (by omega) (by omega) (by omega)) fun k rec => by
          simp only [step35, t35_h1, cond_true, wrap1 e (by omega)]
        refine Goes.call2 (g22_is (bAt s e)) (g24_is (bAt s e)) h4 fun k rec e1 e2 => ?_
        simp only [step35, t35_h0, ltT he, cond_true, sxI_at he, e1, e2, Option.bind_some]
        simp only [isNm, Bool.or_eq_true, beq_iff_eq] at hb
        cases hl : isLe (bAt s e) with
        | true => rfl
        | false =>
          cases hd : isDi (bAt s e) with
          | true => rfl
          | false =>
            rw [hl, hd] at hb
            have : bAt s e = 95 := by simpa using hb
            rw [this]; rfl
      | false =>
        rw [stop_no (fun _ => hb)]
        refine Goes.call2 (g22_is (bAt s e)) (g24_is (bAt s e)) (fin e h2 h3) fun k rec e1 e2 => ?_
        simp only [isNm, Bool.or_eq_false_iff] at hb
        simp only [step35, t35_h0, ltT he, cond_true, sxI_at he, e1, e2, Option.bind_some, hb.1.1, hb.1.2, hb.2, cond_false]
    · rw [stop_no (fun h => absurd h he)]
      exact Goes.rec0 (fin e h2 h3) fun k rec => by simp only [step35, t35_h0, ltF he, cond_false]
theorem g35_is {s : ByteArray} {p : Nat} {q : Int} (hs : s.size ≤ 4000) (hp : p ≤ s.size) : Tot (fun k => g35 k (p : Int) s q) (s.extract p (stop isNm s p)) :=
  Goes.rec0 (step := step35) (s := .e (p : Int) s q) (g35_loop (p := p) hs _ p (Nat.le_refl _) (Nat.le_refl _) hp) fun k rec => rfl
theorem g38_loop {s : ByteArray} {p : Nat} {q : Int} (hs : s.size ≤ 4000) : ∀ (n e : Nat), s.size - e ≤ n → p ≤ e → e ≤ s.size → Goes step38 (.h0 (p : Int) (e : Int) s q) (s.extract p (stop isDi s e)) := by
  have fin : ∀ e : Nat, p ≤ e → e ≤ s.size → Goes step38 (.h1 (p : Int) (e : Int) false s q) (s.extract p e) := fun e h1 h2 => .fin0 fun k rec => by
    simp only [step38, t38_h1, cond_false, bnds h1 h2, gd_true, ext_cast]
  intro n
  induction n with
  | zero =>
    intro e h1 h2 h3
    rw [stop_no (fun h => by omega)]
    exact Goes.rec0 (fin e h2 h3) fun k rec => by simp only [step38, t38_h0, ltF (show ¬ e < s.size by omega), cond_false]
  | succ n ih =>
    intro e h1 h2 h3
    by_cases he : e < s.size
    · cases hb : isDi (bAt s e) with
      | true =>
        rw [stop_on he hb]
        have h4 : Goes step38 (.h1 (p : Int) (e : Int) true s q) (s.extract p (stop isDi s (e + 1))) := Goes.rec0 (ih (e + 1) (by omega) (by omega) (by omega)) fun k rec => by
          simp only [step38, t38_h1, cond_true, wrap1 e (by omega)]
        refine Goes.call (g24_is (bAt s e)) h4 fun k rec e1 => ?_
        simp only [step38, t38_h0, ltT he, cond_true, sxI_at he, e1, hb, Option.bind_some]
      | false =>
        rw [stop_no (fun _ => hb)]
        refine Goes.call (g24_is (bAt s e)) (fin e h2 h3) fun k rec e1 => ?_
        simp only [step38, t38_h0, ltT he, cond_true, sxI_at he, e1, hb, Option.bind_some]
    · rw [stop_no (fun h => absurd h he)]
      exact Goes.rec0 (fin e h2 h3) fun k rec => by simp only [step38, t38_h0, ltF he, cond_false]
theorem g38_is {s : ByteArray} {p : Nat} {q : Int} (hs : s.size ≤ 4000) (hp : p ≤ s.size) : Tot (fun k => g38 k (p : Int) s q) (s.extract p (stop isDi s p)) :=
  Goes.rec0 (step := step38) (s := .e (p : Int) s q) (g38_loop (p := p) hs _ p (Nat.le_refl _) (Nat.le_refl _) hp) fun k rec => rfl
end
end Ab
end Go.Proofs.YtniibdfnijeaeaaDoor

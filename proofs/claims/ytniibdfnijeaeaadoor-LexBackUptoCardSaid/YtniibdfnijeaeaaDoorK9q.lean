/-
  The token at a place: what the program's next and the document's one tell.
-/
import Derived.Test.YtniibdfnijeaeaaDoorK8q
set_option linter.unusedVariables false
set_option linter.unusedSimpArgs false
set_option linter.unusedSectionVars false
namespace Go.Proofs.YtniibdfnijeaeaaDoor
namespace Ab
def twoB (s : ByteArray) (p : Nat) : Bool := decide (p + 1 < s.size) && bAt s (p + 1) == 61
def isSg (c : Int) : Bool := c == 40 || (c == 41 || (c == 44 || (c == 46 || (c == 43 || (c == 45 || (c == 42 || (c == 47 || (c == 37 || (c == 61 || c == 124)))))))))
/-- how long the sign at a place is. -/
def sgLen (s : ByteArray) (p : Nat) : Nat := if bAt s p = 33 ∨ bAt s p = 60 ∨ bAt s p = 62 then (if twoB s p then 2 else 1) else if isSg (bAt s p) then 1 else 0
def sgTok (s : ByteArray) (p : Nat) : Option (Tk × Nat) := if sgLen s p = 0 then none else some (⟨6, s.extract p (p + sgLen s p), 0, 0⟩, p + sgLen s p)
def wdTok (s : ByteArray) (p : Nat) : Option (Tk × Nat) :=
  if wordB (s.extract p (stop isNm s p)) then some (⟨1, s.extract p (stop isNm s p), 0, 0⟩, stop isNm s p)
  else if nmOk (s.extract p (stop isNm s p)) then some (⟨2, s.extract p (stop isNm s p), 0, 0⟩, stop isNm s p) else none
def syTok (s : ByteArray) (p : Nat) : Option (Tk × Nat) :=
  if nmOk (s.extract (p + 1) (stop isNm s (p + 1))) = true ∧ stop isNm s (p + 1) < s.size ∧ bAt s (stop isNm s (p + 1)) = 39 then some (⟨5, s.extract (p + 1) (stop isNm s (p + 1)), 0, 0⟩, stop isNm s (p + 1) + 1) else none
/-- the token at a place, and where it ends. -/
def tok (s : ByteArray) (p : Nat) : Option (Tk × Nat) :=
  if isLe (bAt s p) then wdTok s p else if isDi (bAt s p) then numTok s p else if bAt s p = 39 then syTok s p else sgTok s p
theorem run_nm (s : ByteArray) (p : Nat) (hp : p ≤ s.size) : ∀ i, i < (s.extract p (stop isNm s p)).size → isNm (bAt (s.extract p (stop isNm s p)) i) = true := by
  intro i hi
  have he := le_stop (f := isNm) hp
  rw [size_ext s _ _ he] at hi
  rw [bAt_ext he hi]
  exact in_stop (p := p) (i := p + i) (by omega) (by omega)
section
variable [Laid2]
theorem g23_is {s : ByteArray} {p : Nat} (hs : s.size ≤ 4000) (hp : p < s.size) : Tot (fun k => g23 k s (p : Int)) (match wdTok s p with
      | some (t, e) => .inl (t.kind, t.text, t.n, t.scale, (p : Int), (e : Int))
      | none => .inr ((p : Int), (stop isNm s p : Int))) := by
  obtain ⟨e, he⟩ : ∃ e, e = stop isNm s p := ⟨_, rfl⟩
  have he1 : e ≤ s.size := by rw [he]; exact le_stop (Nat.le_of_lt hp)
  have hge := ge_stop isNm s p
  have hsz : (s.extract p e).size = e - p := size_ext s p e he1
  have hw : IntKind.i64.wrap ((p : Int) + ((s.extract p e).size : Int)) = (e : Int) := by rw [hsz]; exact wrapI (by omega) (by omega)
  have hnm : nameB (s.extract p e) = nmOk (s.extract p e) := nameB_nm (by rw [he]; exact run_nm s p (Nat.le_of_lt hp))
  unfold wdTok
  rw [← he]
  have h0 : Goes step23 (.h0 (s.extract p e) (p : Int) (wordB (s.extract p e)) 0 (strB []) 0 0 0 s (e : Int)) (match (if wordB (s.extract p e) then some ((⟨1, s.extract p e, 0, 0⟩ : Tk), e) else if nmOk (s.extract p e) then some (⟨2, s.extract p e, 0, 0⟩, e) else none) with
      | some (t, e) => .inl (t.kind, t.text, t.n, t.scale, (p : Int), (e : Int))
      | none => .inr ((p : Int), (e : Int))) := by
    refine .fin0 fun k rec => ?_
    simp only [step23, t23_h0, nameX, Option.bind_some, hnm]
    cases hwd : wordB (s.extract p e) with
    | true => simp
    | false =>
      cases hn : nmOk (s.extract p e) with
      | true => simp
      | false => simp
  refine Goes.call2 (step := step23) (s := .e s (p : Int)) (g35_is (s := s) (p := p) (q := (p : Int)) hs (Nat.le_of_lt hp)) (g36_is (s.extract p e)) h0 fun k rec e1 e2 => ?_
  rw [← he] at e1
  simp only [step23, t23_e, e1, Option.bind_some, e2, hw]
theorem g26_is {s : ByteArray} {p : Nat} (hs : s.size ≤ 4000) (hp : p < s.size) : Tot (fun k => g26 k s (p : Int)) (match syTok s p with
      | some (t, e) => .inr (t.kind, t.text, t.n, t.scale, (p : Int), (e : Int))
      | none => .inl ((p : Int), (p : Int))) := by
  obtain ⟨e, he⟩ : ∃ e, e = stop isNm s (p + 1) := ⟨_, rfl⟩
  have he1 : e ≤ s.size := by rw [he]; exact le_stop (by omega)
  have hge := ge_stop isNm s (p + 1)
  have hsz : (s.extract (p + 1) e).size = e - (p + 1) := size_ext s (p + 1) e he1
  have hw : IntKind.i64.wrap (((p + 1 : Nat) : Int) + ((s.extract (p + 1) e).size : Int)) = (e : Int) := by rw [hsz]; exact wrapI (by omega) (by omega)
  have hnm : nameB (s.extract (p + 1) e) = nmOk (s.extract (p + 1) e) := nameB_nm (by rw [he]; exact run_nm s (p + 1) (by omega))
  unfold syTok
  rw [← he]
  have no : Goes step26 (.h0 (p : Int) (s.extract (p + 1) e) (e : Int) true 0 (strB []) 0 0 0 s (p : Int)) (.inl ((p : Int), (p : Int))) := .fin0 fun k rec => by simp only [step26, t26_h0, cond_true]
  have yes : Goes step26 (.h0 (p : Int) (s.extract (p + 1) e) (e : Int) false 0 (strB []) 0 0 0 s (p : Int)) (.inr (5, s.extract (p + 1) e, 0, 0, (p : Int), ((e + 1 : Nat) : Int))) := .fin0 fun k rec => by simp only [step26, t26_h0, cond_false, wrap1 e (by omega)]
  have hg := g35_is (s := s) (p := p + 1) (q := (p : Int)) hs (by omega)
  rw [← he] at hg
  have hw1 := wrap1 p (by omega)
  cases hn : nmOk (s.extract (p + 1) e) with
  | false =>
    rw [if_neg (by simp)]
    refine Goes.call (step := step26) (s := .e s (p : Int)) hg no fun k rec e1 => ?_
    simp only [step26, t26_e, hw1, e1, Option.bind_some, nameX, hnm, hn, Bool.not_false, cond_true, hw]
  | true =>
    by_cases hc : e < s.size
    · have hne : ((e : Int) == (s.size : Int)) = false := by rw [beq_eq_false_iff_ne]; omega
      by_cases h39 : bAt s e = 39
      · rw [if_pos ⟨rfl, hc, h39⟩]
        refine Goes.call (step := step26) (s := .e s (p : Int)) hg yes fun k rec e1 => ?_
        simp only [step26, t26_e, hw1, e1, Option.bind_some, nameX, hnm, hn, Bool.not_true, cond_false, hw, hne, sxI_at hc]
        rw [show (bAt s e != 39) = false from by simpa using h39]
      · rw [if_neg (fun h => h39 h.2.2)]
        refine Goes.call (step := step26) (s := .e s (p : Int)) hg no fun k rec e1 => ?_
        simp only [step26, t26_e, hw1, e1, Option.bind_some, nameX, hnm, hn, Bool.not_true, cond_false, hw, hne, sxI_at hc]
        rw [show (bAt s e != 39) = true from by simpa using h39]
    · rw [if_neg (fun h => hc h.2.1)]
      have hne : ((e : Int) == (s.size : Int)) = true := by rw [beq_iff_eq]; omega
      refine Goes.call (step := step26) (s := .e s (p : Int)) hg no fun k rec e1 => ?_
      simp only [step26, t26_e, hw1, e1, Option.bind_some, nameX, hnm, hn, Bool.not_true, cond_false, hw, hne, cond_true]
theorem bif_h2 {a b : Bool} {A N : Int} {S : ByteArray} (rec : S27 → Option R27) : (bif a then rec (.h2 A N true 0 (strB []) 0 0 0 S A) else rec (.h2 A N b 0 (strB []) 0 0 0 S A)) = rec (.h2 A N (a || b) 0 (strB []) 0 0 0 S A) := by cases a <;> rfl
theorem g27_is {s : ByteArray} {p : Nat} (hs : s.size ≤ 4000) (hp : p < s.size) : Tot (fun k => g27 k s (p : Int)) (match sgTok s p with
      | some (t, e) => .inl (t.kind, t.text, t.n, t.scale, (p : Int), (e : Int))
      | none => .inr ((p : Int), (p : Int))) := by
  have end3 : ∀ n : Nat, p + n ≤ s.size → Goes step27 (.h3 (p : Int) (n : Int) 0 (strB []) 0 0 0 s (p : Int)) (.inl (6, s.extract p (p + n), 0, 0, (p : Int), ((p + n : Nat) : Int))) := fun n hn => .fin0 fun k rec => by
    simp only [step27, t27_h3, wrapA p n (by omega), bnds (show p ≤ p + n by omega) hn, gd_true, ext_cast]
  have one := end3 1 (by omega)
  have h2 : ∀ b, Goes step27 (.h2 (p : Int) 1 b 0 (strB []) 0 0 0 s (p : Int)) (if b then .inl (6, s.extract p (p + 1), 0, 0, (p : Int), ((p + 1 : Nat) : Int)) else .inr ((p : Int), (p : Int))) := by
    intro b
    cases b with
    | true => exact Goes.rec0 one fun k rec => by simp only [step27, t27_h2, cond_true]; rfl
    | false => exact .fin0 fun k rec => by simp only [step27, t27_h2, cond_false]; rfl
  unfold sgTok
  by_cases hc : bAt s p = 33 ∨ bAt s p = 60 ∨ bAt s p = 62
  · have hlen : sgLen s p = if twoB s p then 2 else 1 := if_pos hc
    have h0 : Goes step27 (.h0 (p : Int) 1 (bAt s p) true 0 (strB []) 0 0 0 s (p : Int)) (.inl (6, s.extract p (p + sgLen s p), 0, 0, (p : Int), ((p + sgLen s p : Nat) : Int))) := by
      have h1f : Goes step27 (.h1 (p : Int) 1 false 0 (strB []) 0 0 0 s (p : Int)) (.inl (6, s.extract p (p + 1), 0, 0, (p : Int), ((p + 1 : Nat) : Int))) := Goes.rec0 one fun k rec => by simp only [step27, t27_h1, cond_false]; rfl
      by_cases hn : p + 1 < s.size
      · have h1t : Goes step27 (.h1 (p : Int) 1 true 0 (strB []) 0 0 0 s (p : Int)) (.inl (6, s.extract p (p + 2), 0, 0, (p : Int), ((p + 2 : Nat) : Int))) := Goes.rec0 (end3 2 (by omega)) fun k rec => by simp only [step27, t27_h1, cond_true]; rfl
        cases h61 : (bAt s (p + 1) == 61) with
        | true =>
          have ht : twoB s p = true := by unfold twoB; rw [h61, decide_eq_true hn]; rfl
          rw [hlen, if_pos ht]
          refine Goes.rec0 h1t fun k rec => ?_
          simp only [step27, t27_h0, cond_true, wrap1 p (by omega), ltT hn, sxI_at hn, h61]
        | false =>
          have ht : twoB s p = false := by unfold twoB; rw [h61, Bool.and_false]
          rw [hlen, ht]
          refine Goes.rec0 h1f fun k rec => ?_
          simp only [step27, t27_h0, cond_true, wrap1 p (by omega), ltT hn, sxI_at hn, h61]
      · have ht : twoB s p = false := by unfold twoB; rw [decide_eq_false hn]; rfl
        rw [hlen, ht]
        refine Goes.rec0 h1f fun k rec => ?_
        simp only [step27, t27_h0, cond_true, wrap1 p (by omega), ltF hn, cond_false]
    have hl0 : sgLen s p ≠ 0 := by rw [hlen]; split <;> omega
    rw [if_neg hl0]
    refine Goes.rec0 (step := step27) (s := .e s (p : Int)) h0 fun k rec => ?_
    simp only [step27, t27_e, sxI_at hp]
    rcases hc with h | h | h <;> rw [h] <;> rfl
  · have hlen : sgLen s p = if isSg (bAt s p) then 1 else 0 := if_neg hc
    have n33 : (bAt s p == 33) = false := by rw [beq_eq_false_iff_ne]; exact fun h => hc (.inl h)
    have n60 : (bAt s p == 60) = false := by rw [beq_eq_false_iff_ne]; exact fun h => hc (.inr (.inl h))
    have n62 : (bAt s p == 62) = false := by rw [beq_eq_false_iff_ne]; exact fun h => hc (.inr (.inr h))
    have h0 : Goes step27 (.h0 (p : Int) 1 (bAt s p) false 0 (strB []) 0 0 0 s (p : Int)) (if isSg (bAt s p) then .inl (6, s.extract p (p + 1), 0, 0, (p : Int), ((p + 1 : Nat) : Int)) else .inr ((p : Int), (p : Int))) := by
      refine Goes.rec0 (h2 (isSg (bAt s p))) fun k rec => ?_
      simp only [step27, t27_h0, cond_false, bif_h2]
      rfl
    have key := Goes.rec0 (step := step27) (s := .e s (p : Int)) h0 fun k rec => by
      simp only [step27, t27_e, sxI_at hp, n33, n60, n62, cond_false]
    rw [hlen]
    cases hg : isSg (bAt s p) with
    | true => rw [hg] at key; exact key
    | false => rw [hg] at key; exact key
end
end Ab
end Go.Proofs.YtniibdfnijeaeaaDoor

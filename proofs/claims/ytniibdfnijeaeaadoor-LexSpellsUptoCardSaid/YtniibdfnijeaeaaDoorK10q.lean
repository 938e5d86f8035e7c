/-
  The token at a place, as the document's one tells it; blanks, and the next token.
-/
import Derived.Test.YtniibdfnijeaeaaDoorK9q
set_option linter.unusedVariables false
set_option linter.unusedSimpArgs false
set_option linter.unusedSectionVars false
namespace Go.Proofs.YtniibdfnijeaeaaDoor
namespace Ab
/-- the signs, as the document lists them. -/
def signsB : List ByteArray := [strB [33, 61], strB [60, 61], strB [62, 61], strB [40], strB [41], strB [44], strB [46], strB [43], strB [45], strB [42], strB [47], strB [37], strB [61], strB [60], strB [62], strB [33], strB [124]]
def pfx (s : ByteArray) (p : Nat) (x : ByteArray) : Bool := decide (p + x.size ≤ s.size) && (s.extract p (p + x.size)).toList == x.toList
theorem pfx_eq {s : ByteArray} {p : Nat} {x : ByteArray} (h : pfx s p x = true) : x = s.extract p (p + x.size) := by
  unfold pfx at h
  rw [Bool.and_eq_true] at h
  exact (toList_inj (by simpa using h.2)).symm
theorem bAt_strB (l : List Nat) (i : Nat) (h : i < l.length) (hl : ∀ x ∈ l, x < 256) : bAt (strB l) i = (l[i] : Int) := by
  unfold bAt strB
  show ((((l.map UInt8.ofNat).toArray.toList).getD i 0).toNat : Int) = _
  rw [List.getD_eq_getElem?_getD, List.getElem?_map, List.getElem?_eq_getElem h]
  show ((UInt8.ofNat l[i]).toNat : Int) = _
  rw [UInt8.toNat_ofNat', Nat.mod_eq_of_lt (hl _ (List.getElem_mem h))]
theorem size_strB (l : List Nat) : (strB l).size = l.length := by
  show (l.map UInt8.ofNat).toArray.size = _
  simp
theorem pfx1 {s : ByteArray} {p a : Nat} (hp : p < s.size) (ha : a < 256) : pfx s p (strB [a]) = (bAt s p == (a : Int)) := by
  unfold pfx
  rw [size_strB]
  have hsz : (s.extract p (p + 1)).size = 1 := by rw [size_ext _ _ _ (by omega)]; omega
  have h0 : bAt (s.extract p (p + 1)) 0 = bAt s p := bAt_ext (by omega) (by omega)
  have hs : bAt (strB [a]) 0 = (a : Int) := bAt_strB [a] 0 (by simp) (by simp; omega)
  rw [show decide (p + [a].length ≤ s.size) = true from decide_eq_true (by simp; omega), Bool.true_and]
  cases hc : (bAt s p == (a : Int)) with
  | true =>
    have hc := eq_of_beq hc
    have : s.extract p (p + [a].length) = strB [a] := bytes_eq (by rw [size_strB]; exact hsz) (fun i hi => by
      have : i = 0 := by have : (s.extract p (p + [a].length)).size = 1 := hsz
                         omega
      subst this
      rw [hs, ← hc]; exact h0)
    rw [this]; exact beq_self_eq_true _
  | false =>
    have hc := ne_of_beq_false hc
    rw [beq_eq_false_iff_ne]
    intro e
    apply hc
    rw [← h0, ← hs]
    congr 1
    exact toList_inj e
theorem pfx2 {s : ByteArray} {p a : Nat} (hp : p < s.size) (ha : a < 256) : pfx s p (strB [a, 61]) = (bAt s p == (a : Int) && twoB s p) := by
  unfold pfx twoB
  rw [size_strB]
  by_cases hn : p + 1 < s.size
  · have hsz : (s.extract p (p + 2)).size = 2 := by rw [size_ext _ _ _ (by omega)]; omega
    have h0 : bAt (s.extract p (p + 2)) 0 = bAt s p := bAt_ext (by omega) (by omega)
    have h1 : bAt (s.extract p (p + 2)) 1 = bAt s (p + 1) := bAt_ext (by omega) (by omega)
    have hs : bAt (strB [a, 61]) 0 = (a : Int) := bAt_strB [a, 61] 0 (by simp) (by simp; omega)
    have hs1 : bAt (strB [a, 61]) 1 = 61 := bAt_strB [a, 61] 1 (by simp) (by simp; omega)
    rw [show decide (p + [a, 61].length ≤ s.size) = true from decide_eq_true (by simp; omega), Bool.true_and, decide_eq_true hn, Bool.true_and]
    cases hc : (bAt s p == (a : Int) && bAt s (p + 1) == 61) with
    | true =>
      rw [Bool.and_eq_true] at hc
      have hc0 := eq_of_beq hc.1
      have hc1 := eq_of_beq hc.2
      have : s.extract p (p + [a, 61].length) = strB [a, 61] := bytes_eq (by rw [size_strB]; exact hsz) (fun i hi => by
        have h2 : (s.extract p (p + [a, 61].length)).size = 2 := hsz
        rcases (show i = 0 ∨ i = 1 by omega) with rfl | rfl
        · rw [hs, ← hc0]; exact h0
        · rw [hs1, ← hc1]; exact h1)
      rw [this]; exact beq_self_eq_true _
    | false =>
      rw [beq_eq_false_iff_ne]
      intro e
      have e := toList_inj e
      have e0 : bAt s p = (a : Int) := by rw [← h0, ← hs]; exact congrArg (bAt · 0) e
      have e1 : bAt s (p + 1) = 61 := by rw [← h1, ← hs1]; exact congrArg (bAt · 1) e
      rw [e0, e1] at hc
      simp at hc
  · rw [show decide (p + [a, 61].length ≤ s.size) = false from decide_eq_false (by simp; omega), decide_eq_false hn]
    simp
/-- the sign that the document finds is the longest one. -/
theorem find_len {s : ByteArray} {p : Nat} (hp : p < s.size) : (signsB.find? (pfx s p)).map (·.size) = if sgLen s p = 0 then none else some (sgLen s p) := by
  simp only [signsB, List.find?_cons, List.find?_nil, pfx1 hp (show 40 < 256 by omega), pfx1 hp (show 41 < 256 by omega), pfx1 hp (show 44 < 256 by omega), pfx1 hp (show 46 < 256 by omega), pfx1 hp (show 43 < 256 by omega), pfx1 hp (show 45 < 256 by omega),
    pfx1 hp (show 42 < 256 by omega), pfx1 hp (show 47 < 256 by omega), pfx1 hp (show 37 < 256 by omega), pfx1 hp (show 61 < 256 by omega), pfx1 hp (show 60 < 256 by omega), pfx1 hp (show 62 < 256 by omega), pfx1 hp (show 33 < 256 by omega), pfx1 hp (show 124 < 256 by omega),
    pfx2 hp (show 33 < 256 by omega), pfx2 hp (show 60 < 256 by omega), pfx2 hp (show 62 < 256 by omega)]
  unfold sgLen isSg
  generalize bAt s p = c
  generalize twoB s p = t
  by_cases h33 : c = 33
  · subst h33; cases t <;> rfl
  by_cases h60 : c = 60
  · subst h60; cases t <;> rfl
  by_cases h62 : c = 62
  · subst h62; cases t <;> rfl
  have n33 : (c == 33) = false := beq_eq_false_iff_ne.2 h33
  have n60 : (c == 60) = false := beq_eq_false_iff_ne.2 h60
  have n62 : (c == 62) = false := beq_eq_false_iff_ne.2 h62
  have nn : ¬ (c = 33 ∨ c = 60 ∨ c = 62) := by rintro (h | h | h); · exact h33 h
                                               · exact h60 h
                                               · exact h62 h
  rw [if_neg nn]
  simp only [n33, n60, n62, Bool.false_and, Int.cast_ofNat_Int]
  cases a1 : (c == 40)
  case true => simp [size_strB]
  cases a2 : (c == 41)
  case true => simp [size_strB]
  cases a3 : (c == 44)
  case true => simp [size_strB]
  cases a4 : (c == 46)
  case true => simp [size_strB]
  cases a5 : (c == 43)
  case true => simp [size_strB]
  cases a6 : (c == 45)
  case true => simp [size_strB]
  cases a7 : (c == 42)
  case true => simp [size_strB]
  cases a8 : (c == 47)
  case true => simp [size_strB]
  cases a9 : (c == 37)
  case true => simp [size_strB]
  cases a10 : (c == 61)
  case true => simp [size_strB]
  cases a11 : (c == 124)
  case true => simp [size_strB]
  simp
section
variable [Laid2]
def sgR (s : ByteArray) (p : Nat) : Option ByteArray → R18
  | some x => (6, x, 0, 0, 0, (x.size : Int))
  | none => (0, strB [], 0, 0, 0, 0)
theorem g18_signs {s : ByteArray} {p : Nat} (hs : s.size ≤ 4000) (hp : p ≤ s.size) {L : List ByteArray} (hL : L.length < 1000) (hx : ∀ x ∈ L, x.size ≤ 2) : ∀ (n i : Nat), L.length - i ≤ n →
    Goes step18 (.h1 s (p : Int) (L.map fun x => [sc x]) (L.length : Int) (i : Int) 0 (strB []) 0 0 0) (sgR s p ((L.drop i).find? (pfx s p)))
  | 0, i, h => by
    rw [List.drop_eq_nil_of_le (by omega)]
    refine .fin0 fun k rec => ?_
    simp only [step18, t18_h1, ltF (show ¬ i < L.length by omega), cond_false]
    rfl
  | n + 1, i, h => by
    by_cases hi : i < L.length
    · rw [List.drop_eq_getElem_cons hi, List.find?_cons]
      have hrow : (L.map fun x => [sc x])[i]? = some [sc L[i]] := map_at (List.getElem?_eq_getElem hi)
      have h2 := hx _ (List.getElem_mem hi)
      generalize L[i] = x at hrow h2
      have hw := wrapA p x.size (by omega)
      have key : Goes step18 (.h2 s (p : Int) x (L.map fun x => [sc x]) (L.length : Int) (i : Int) (pfx s p x) 0 (strB []) 0 0 0) (sgR s p (match pfx s p x with | true => some x | false => (L.drop (i + 1)).find? (pfx s p))) := by
        cases hq : pfx s p x with
        | true => exact .fin0 fun k rec => by simp only [step18, t18_h2, cond_true, sgR]
        | false => exact Goes.rec0 (g18_signs hs hp hL hx n (i + 1) (by omega)) fun k rec => by simp only [step18, t18_h2, cond_false, wrap1 i (by omega)]
      refine Goes.rec0 key fun k rec => ?_
      simp only [step18, t18_h1, ltT hi, cond_true, ixR_at hrow, un_s_at, hw]
      unfold pfx
      by_cases hl : p + x.size ≤ s.size
      · rw [show decide (((p + x.size : Nat) : Int) ≤ (s.size : Int)) = true from decide_eq_true (by omega), cond_true, bnds (show p ≤ p + x.size by omega) hl, gd_true, ext_cast, decide_eq_true hl, Bool.true_and]
      · rw [show decide (((p + x.size : Nat) : Int) ≤ (s.size : Int)) = false from decide_eq_false (by omega), cond_false, decide_eq_false hl, Bool.false_and]
    · rw [List.drop_eq_nil_of_le (by omega)]
      refine .fin0 fun k rec => ?_
      simp only [step18, t18_h1, ltF hi, cond_false]
      rfl
end
end Ab
end Go.Proofs.YtniibdfnijeaeaaDoor

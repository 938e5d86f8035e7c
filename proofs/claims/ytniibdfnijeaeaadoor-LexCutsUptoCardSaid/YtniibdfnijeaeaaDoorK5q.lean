/-
  Numbers and their texts: the document's Decimal; ParseInt on a text of digits.
-/
import Derived.Test.YtniibdfnijeaeaaDoorK4q
set_option linter.unusedVariables false
set_option linter.unusedSimpArgs false
set_option linter.unusedSectionVars false
namespace Go.Proofs.YtniibdfnijeaeaaDoor
namespace Ab
theorem toList_append' (a b : ByteArray) : (a ++ b).data.toList = a.data.toList ++ b.data.toList := by rw [ByteArray.data_append, Array.toList_append]
theorem all_dg {s : ByteArray} (h : ∀ i, i < s.size → isDi (bAt s i) = true) : ∀ c ∈ s.data.toList, isDg c := by
  intro c hc
  obtain ⟨i, hi, rfl⟩ := List.getElem_of_mem hc
  have hi' : i < s.size := by rw [← size_toList]; exact hi
  have := h i hi'
  unfold bAt at this
  rw [List.getD_eq_getElem?_getD, List.getElem?_eq_getElem hi, Option.getD_some] at this
  simp only [isDi, Bool.and_eq_true, decide_eq_true_eq] at this
  unfold isDg
  omega
section
variable [Laid2]
theorem parseR_digits {s : ByteArray} (h : ∀ i, i < s.size → isDi (bAt s i) = true) (h1 : 1 ≤ s.size) (h2 : s.size ≤ 4000) :
    parseR s = some (if dv s.data.toList < 2 ^ 63 then some (dv s.data.toList : Int) else none) := by
  have hne : s.data.toList ≠ [] := by
    intro e
    have := size_toList s
    rw [e] at this
    simp at this
    omega
  unfold parseR
  rw [if_pos (by omega), parse_digits hne (all_dg h)]
  by_cases hv : dv s.data.toList < 2 ^ 63
  · rw [if_pos hv, if_pos hv]
  · rw [if_neg hv, if_neg hv]
end
end Ab
end Go.Proofs.YtniibdfnijeaeaaDoor

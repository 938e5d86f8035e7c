/-
  Runs, words and names: what the program's functions and the document's tell of them.
-/
import Derived.Test.YtniibdfnijeaeaaDoorK0q
set_option linter.unusedVariables false
set_option linter.unusedSimpArgs false
set_option linter.unusedSectionVars false
namespace Go.Proofs.YtniibdfnijeaeaaDoor
namespace Ab
theorem isNm_bits {c : Int} (h : isNm c = true) : sortI c ≠ 4 ∧ (sortI c > 1 ↔ isLe c = false) := by
  simp only [isNm, isLe, isDi, Bool.or_eq_true, Bool.and_eq_true, decide_eq_true_eq, beq_iff_eq, Bool.or_eq_false_iff, Bool.and_eq_false_iff, decide_eq_false_iff_not] at *
  unfold sortI
  repeat' split
  all_goals omega
theorem nm_ascii {c : Int} (h : isNm c = true) : c < 128 := by
  simp only [isNm, isLe, isDi, Bool.or_eq_true, Bool.and_eq_true, decide_eq_true_eq, beq_iff_eq] at *
  omega
theorem decode_at {s : ByteArray} {p : Nat} (hp : p < s.size) (h : bAt s p < 128) : Utf8.decode s p = ((bAt s p).toNat, 1) := by
  have e := bAt_elem hp
  rw [decode_ascii s p hp (by omega)]
  congr 1
  omega
theorem nameL_nm {s : ByteArray} (hn : ∀ i, i < s.size → isNm (bAt s i) = true) : ∀ (n pos : Nat), 1 ≤ pos → nameL s n pos = true
  | 0, _, _ => rfl
  | n + 1, pos, h1 => by
    by_cases hp : pos < s.size
    · have hb := hn pos hp
      have hd := decode_at hp (nm_ascii hb)
      have e : ((Utf8.decode s pos).1 : Int) = bAt s pos := by rw [hd]; have := bAt_lo s pos; simp; omega
      have := isNm_bits hb
      rw [nameL_on hp (by rw [e]; rintro (h | ⟨h, _⟩); · exact this.1 h
                          · omega), hd]
      exact nameL_nm hn n (pos + 1) (by omega)
    · exact if_neg hp
/-- a name, of letters, digits and strokes alone. -/
def nmOk (w : ByteArray) : Bool := decide (1 ≤ w.size) && decide (w.size ≤ 24) && isLe (bAt w 0) && !wordB w
theorem nameB_nm {s : ByteArray} (hn : ∀ i, i < s.size → isNm (bAt s i) = true) : nameB s = nmOk s := by
  have hz : s.toList = [] ↔ s.size = 0 := by
    rw [toList_eq', ← List.length_eq_zero_iff, size_toList]
  unfold nameB nmOk
  by_cases h : s.toList = [] ∨ 24 < (s.size : Int) ∨ wordB s = true
  · rw [if_pos h]
    rcases h with h | h | h
    · rw [hz] at h; simp [h]
    · have : ¬ s.size ≤ 24 := by omega
      simp [this]
    · simp [h]
  · rw [if_neg h]
    have h1 : s.size ≠ 0 := fun e => h (.inl (hz.2 e))
    have h2 : s.size ≤ 24 := by
      rcases Nat.lt_or_ge 24 s.size with h' | h'
      · exact absurd (.inr (.inl (by omega))) h
      · exact h'
    have h3 : wordB s = false := by
      cases hw : wordB s with
      | true => exact absurd (.inr (.inr hw)) h
      | false => rfl
    obtain ⟨n, hn1⟩ : ∃ n, s.size = n + 1 := ⟨s.size - 1, by omega⟩
    have hp : 0 < s.size := by omega
    have hb := hn 0 hp
    have hd := decode_at hp (nm_ascii hb)
    have e : ((Utf8.decode s 0).1 : Int) = bAt s 0 := by rw [hd]; have := bAt_lo s 0; simp; omega
    have hbits := isNm_bits hb
    rw [hn1]
    cases hl : isLe (bAt s 0) with
    | true =>
      have : ¬ sortI (bAt s 0) > 1 := fun hh => by rw [hbits.2.1 hh] at hl; cases hl
      rw [nameL_on hp (by rw [e]; rintro (h | ⟨_, h⟩); · exact hbits.1 h
                          · exact this h), hd, nameL_nm hn n _ (by omega)]
      simp [h3]; omega
    | false =>
      rw [nameL_no hp (by rw [e]; exact .inr ⟨rfl, hbits.2.2 hl⟩)]
      simp
def wordsB : List ByteArray := wordL.map fun l => strB (l.map UInt8.toNat)
theorem words_lists : wordsB.map (fun x => x.toList) = wordL := by kernel_rfl
theorem wordB_eq (s : ByteArray) : wordB s = wordsB.any fun x => s.toList == x.toList := by
  unfold wordB
  rw [← words_lists, List.any_map]
  rfl
section
variable [Laid2]
theorem bif_h0 {a b : Bool} (rec : S36 → Option R36) : (bif a then rec (.h0 true) else rec (.h0 b)) = rec (.h0 (a || b)) := by cases a <;> rfl
theorem g36_is (s : ByteArray) : Tot (fun k => g36 k s) (wordB s) := by
  refine Goes.rec0 (step := step36) (s := .e s) (s' := .h0 (wordB s)) (Goes.fin0 fun k rec => ?_) fun k rec => ?_
  · simp only [step36, t36_h0]
    cases wordB s <;> rfl
  · simp only [step36, t36_e, bif_h0]
    rw [wordB_eq]
    simp only [show wordsB = [strB [80, 65, 84, 84, 69, 82, 78], strB [83, 69, 81], strB [87, 72, 69, 82, 69], strB [83, 84, 82, 65, 84, 69, 71, 89], strB [87, 73, 84, 72, 73, 78], strB [80, 65, 82, 84, 73, 84, 73, 79, 78], strB [66, 89], strB [83, 84, 82, 73, 67, 84], strB [78, 69, 88, 84], strB [65, 78, 89], strB [65, 78, 68], strB [79, 82], strB [78, 79, 84], strB [84, 82, 85, 69], strB [70, 65, 76, 83, 69], strB [84, 73, 77, 69], strB [82, 69, 65, 76], strB [73, 83, 78, 65, 78], strB [67, 79, 85, 78, 84], strB [70, 73, 82, 83, 84], strB [76, 65, 83, 84], strB [83, 85, 77], strB [77, 73, 78], strB [77, 65, 88], strB [77, 69, 65, 78]] from by kernel_rfl, List.any_cons, List.any_nil, Bool.or_false]
end
end Ab
end Go.Proofs.YtniibdfnijeaeaaDoor

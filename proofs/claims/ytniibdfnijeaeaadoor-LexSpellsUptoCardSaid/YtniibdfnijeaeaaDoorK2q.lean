/-
  Runs, words and names: what the program's functions and the document's tell of them.
-/
import Derived.Test.YtniibdfnijeaeaaDoorK0q
set_option linter.unusedVariables false
set_option linter.unusedSimpArgs false
set_option linter.unusedSectionVars false
namespace Go.Proofs.YtniibdfnijeaeaaDoor
namespace Ab
theorem isNm_bits {c : Int} (h : isNm c = true) : sortI c ≠ 4 ∧ (sortI c > 1 ↔ isLe c = false) := by
  simp only [isNm, isLe, isDi, Bool.or_eq_true, Bool.and_eq_true, decide_eq_true_eq, beq_iff_eq, Bool.or_eq_false_iff, Bool.and_eq_false_iff, decide_eq_false_iff_not] at *
  unfold sortI
  repeat' split
  all_goals omega
theorem nm_ascii {c : Int} (h : isNm c = true) : c < 128 := by
  simp only [isNm, isLe, isDi, Bool.or_eq_true, Bool.and_eq_true, decide_eq_true_eq, beq_iff_eq] at *
  omega
theorem decode_at {s : ByteArray} {p : Nat} (hp : p < s.size) (h : bAt s p < 128) : Utf8.decode s p = ((bAt s p).toNat, 1) := by
  have e := bAt_elem hp
  rw [decode_ascii s p hp (by omega)]
  congr 1
  omega
theorem nameL_nm {s : ByteArray} (hn : ∀ i, i < s.size → isNm (bAt s i) = true) : ∀ (n pos : Nat), 1 ≤ pos → nameL s n pos = true
  | 0, _, _ => rfl
  | n + 1, pos, h1 => by
    by_cases hp : pos < s.size
    · have hb := hn pos hp
      have hd := decode_at hp (nm_ascii hb)
      have e : ((Utf8.decode s pos).1 : Int) = bAt s pos := by rw [hd]; have := bAt_lo s pos; simp; omega
      have := isNm_bits hb
      rw [nameL_on hp (by rw [e]; rintro (h | ⟨h, _⟩); · exact this.1 h
                          · omega), hd]
      exact nameL_nm hn n (pos + 1) (by omega)
    · exact if_neg hp
/-- a name, of letters, digits and strokes alone. -/
def nmOk (w : ByteArray) : Bool := decide (1 ≤ w.size) && decide (w.size ≤ 24) && isLe (bAt w 0) && !wordB w
theorem nameB_nm {s : ByteArray} (hn : ∀ i, i < s.size → isNm (bAt s i) = true) : nameB s = nmOk s := by
  have hz : s.toList = [] ↔ s.size = 0 := by
    rw [toList_eq', ← List.length_eq_zero_iff, size_toList]
  unfold nameB nmOk
  by_cases h : s.toList = [] ∨ 24 < (s.size : Int) ∨ wordB s = true
  · rw [if_pos h]
    rcases h with h | h | h
    · rw [hz] at h; simp [h]
    · have : ¬ s.size ≤ 24 := by omega
      simp [this]
    · simp [h]
  · rw [if_neg h]
    have h1 : s.size ≠ 0 := fun e => h (.inl (hz.2 e))
    have h2 : s.size ≤ 24 := by
      rcases Nat.lt_or_ge 24 s.size with h' | h'
      · exact absurd (.inr (.inl (by omega))) h
      · exact h'
    have h3 : wordB s = false := by
      cases hw : wordB s with
      | true => exact absurd (.inr (.inr hw)) h
      | false => rfl
    obtain ⟨n, hn1⟩ : ∃ n, s.size = n + 1 := ⟨s.size - 1, by omega⟩
    have hp : 0 < s.size := by omega
    have hb := hn 0 hp
    have hd := decode_at hp (nm_ascii hb)
    have e : ((Utf8.decode s 0).1 : Int) = bAt s 0 := by rw [hd]; have := bAt_lo s 0; simp; omega
    have hbits := isNm_bits hb
    rw [hn1]
    cases hl : isLe (bAt s 0) with
    | true =>
      have : ¬ sortI (bAt s 0) > 1 := fun hh => by rw [hbits.2.1 hh] at hl; cases hl
      rw [nameL_on hp (by rw [e]; rintro (h | ⟨_, h⟩); · exact hbits.1 h
                          · exact this h), hd, nameL_nm hn n _ (by omega)]
      simp [h3]; omega
    | false =>
      rw [nameL_no hp (by rw [e]; exact .inr ⟨rfl, hbits.2.2 hl⟩)]
      simp
def wordsB : List ByteArray := wordL.map fun l => strB (l.map UInt8.toNat)
theorem words_lists : wordsB.map (fun x => x.toList) = wordL := by kernel_rfl
theorem wordB_eq (s : ByteArray) : wordB s = wordsB.any fun x => s.toList == x.toList := by
  unfold wordB
  rw [← words_lists, List.any_map]
  rfl
section
variable [Laid2]
theorem bif_h0 {a b : Bool} (rec : S36 → Option R36) : (bif a then rec (.h0 true) else rec (.h0 b)) = rec (.h0 (a || b)) := by cases a <;> rfl
theorem g36_is (s : ByteArray) : Tot (fun k => g36 k s) (wordB s) := by
  refine Goes.rec0 (step := step36) (s := .e s) (s' := .h0 (wordB s)) (Goes.fin0 fun k rec => ?_) fun k rec => ?_
  · simp only [step36, t36_h0]
    cases wordB s <;> rfl
  · simp only [step36, t36_e, bif_h0]
    rw [wordB_eq]
    simp only [show wordsB = [strB [80, 65, 84, 84, 69, 82, 78], strB [83, 69, 81], strB [87, 72, 69, 82, 69], strB [83, 84, 82, 65, 84, 69, 71, 89], strB [87, 73, 84, 72, 73, 78], strB [80, 65, 82, 84, 73, 84, 73, 79, 78], strB [66, 89], strB [83, 84, 82, 73, 67, 84], strB [78, 69, 88, 84], strB [65, 78, 89], strB [65, 78, 68], strB [79, 82], strB [78, 79, 84], strB [84, 82, 85, 69], strB [70, 65, 76, 83, 69], strB [84, 73, 77, 69], strB [82, 69, 65, 76], strB [73, 83, 78, 65, 78], strB [67, 79, 85, 78, 84], strB [70, 73, 82, 83, 84], strB [76, 65, 83, 84], strB [83, 85, 77], strB [77, 73, 78], strB [77, 65, 88], strB [77, 69, 65, 78]] from by kernel_rfl, List.any_cons, List.any_nil, Bool.or_false]
theorem un_s_at {α : Type} (x : ByteArray) (k : ByteArray → Option α) : un_s [sc x] k = k x := rfl
theorem g30_loop (s : ByteArray) {L : List ByteArray} (hL : L.length < 1000) : ∀ (n i : Nat), L.length - i ≤ n → Goes step30 (.h0 s (L.map fun x => [sc x]) (L.length : Int) (i : Int)) ((L.drop i).any fun x => s.toList == x.toList)
  | 0, i, h => by
    rw [List.drop_eq_nil_of_le (by omega)]
    refine .fin0 fun k rec => ?_
    simp only [step30, t30_h0, show decide ((i : Int) < (L.length : Int)) = false from decide_eq_false (by omega), cond_false]
    rfl
  | n + 1, i, h => by
    by_cases hi : i < L.length
    · rw [List.drop_eq_getElem_cons hi, List.any_cons]
      have hrow : (L.map fun x => [sc x])[i]? = some [sc L[i]] := map_at (List.getElem?_eq_getElem hi)
      have hd : decide ((i : Int) < (L.length : Int)) = true := decide_eq_true (by omega)
      have he : (L[i].toList == s.toList) = (s.toList == L[i].toList) := Bool.beq_comm
      cases hq : (s.toList == L[i].toList) with
      | true =>
        refine .fin0 fun k rec => ?_
        simp only [step30, t30_h0, hd, cond_true, ixR_at hrow, un_s_at, he, hq, Bool.true_or]
      | false =>
        refine Goes.rec0 (g30_loop s hL n (i + 1) (by omega)) fun k rec => ?_
        simp only [step30, t30_h0, hd, cond_true, ixR_at hrow, un_s_at, he, hq, cond_false, wrap1 i (by omega)]
    · rw [List.drop_eq_nil_of_le (by omega)]
      refine .fin0 fun k rec => ?_
      simp only [step30, t30_h0, show decide ((i : Int) < (L.length : Int)) = false from decide_eq_false (by omega), cond_false]
      rfl
theorem g40_is : Tot (fun k => g40 k) (wordsB.map fun x => [sc x]) := Goes.fin0 (step := step40) (s := .e) fun k rec => by
  kernel_rfl
theorem g30_is (s : ByteArray) : Tot (fun k => g30 k s) (wordB s) := by
  have h := g30_loop s (L := wordsB) (by rw [show wordsB.length = 25 from by kernel_rfl]; omega) 25 0 (by rw [show wordsB.length = 25 from by kernel_rfl]; omega)
  rw [List.drop_zero, ← wordB_eq] at h
  refine Goes.call (step := step30) (s := .e s) g40_is h fun k rec e => ?_
  simp only [step30, t30_e, e, Option.bind_some, List.length_map]
  rfl
theorem g31_loop {s : ByteArray} (hn : ∀ i, i < s.size → isNm (bAt s i) = true) (hs : s.size ≤ 4000) : ∀ (n i : Nat), s.size - i ≤ n → Goes step31 (.h1 s (i : Int)) true
  | 0, i, h => .fin0 fun k rec => by
    simp only [step31, t31_h1, show decide ((i : Int) < (s.size : Int)) = false from decide_eq_false (by omega), cond_false]
  | n + 1, i, h => by
    by_cases hi : i < s.size
    · have hd : decide ((i : Int) < (s.size : Int)) = true := decide_eq_true (by omega)
      have hb := hn i hi
      have h2 : Goes step31 (.h2 s (i : Int) false) true := by
        refine Goes.rec0 (g31_loop hn hs n (i + 1) (by omega)) fun k rec => ?_
        simp only [step31, t31_h2, cond_false, wrap1 i (by omega)]
      refine Goes.call2 (g28_is (bAt s i)) (g32_is (bAt s i)) h2 fun k rec e1 e2 => ?_
      simp only [step31, t31_h1, hd, cond_true, sxI_at hi, e1, e2, Option.bind_some]
      simp only [isNm, Bool.or_eq_true, beq_iff_eq] at hb
      cases hl : isLe (bAt s i) with
      | true => simp
      | false =>
        cases hdg : isDi (bAt s i) with
        | true => simp
        | false =>
          rw [hl, hdg] at hb
          have : bAt s i = 95 := by simpa using hb
          simp [this]
    · exact .fin0 fun k rec => by
        simp only [step31, t31_h1, show decide ((i : Int) < (s.size : Int)) = false from decide_eq_false (by omega), cond_false]
theorem g31_is {s : ByteArray} (hn : ∀ i, i < s.size → isNm (bAt s i) = true) (hs : s.size ≤ 4000) : Tot (fun k => g31 k s) (nmOk s) := by
  have no : Goes step31 (.h0 s true) false := .fin0 fun k rec => by simp only [step31, t31_h0, cond_true]
  have yes : Goes step31 (.h0 s false) true := Goes.rec0 (g31_loop hn hs s.size 0 (Nat.sub_le _ _)) fun k rec => by simp only [step31, t31_h0, cond_false]; rfl
  unfold nmOk
  by_cases h1 : s.size < 1
  · have e1 : decide (1 ≤ s.size) = false := decide_eq_false (by omega)
    rw [e1]
    refine Goes.rec0 (step := step31) (s := .e s) no fun k rec => ?_
    simp only [step31, t31_e, show decide ((s.size : Int) < 1) = true from decide_eq_true (by omega), cond_true]
  · have e1 : decide (1 ≤ s.size) = true := decide_eq_true (by omega)
    have d1 : decide ((s.size : Int) < 1) = false := decide_eq_false (by omega)
    by_cases h2 : 24 < s.size
    · have e2 : decide (s.size ≤ 24) = false := decide_eq_false (by omega)
      rw [e1, e2]
      refine Goes.rec0 (step := step31) (s := .e s) no fun k rec => ?_
      simp only [step31, t31_e, d1, show decide ((s.size : Int) > 24) = true from decide_eq_true (by omega), cond_true, cond_false]
    · have e2 : decide (s.size ≤ 24) = true := decide_eq_true (by omega)
      have d2 : decide ((s.size : Int) > 24) = false := decide_eq_false (by omega)
      rw [e1, e2]
      have h0 : (0 : Nat) < s.size := by omega
      cases hl : isLe (bAt s 0) with
      | false =>
        refine Goes.call (step := step31) (s := .e s) (g28_is (bAt s 0)) no fun k rec e => ?_
        rw [hl] at e
        simp only [step31, t31_e, d1, d2, cond_false, show ((0 : Int)) = ((0 : Nat) : Int) from rfl, sxI_at h0, e, Option.bind_some, Bool.not_false, cond_true]
      | true =>
        cases hw : wordB s with
        | true =>
          refine Goes.call2 (step := step31) (s := .e s) (g28_is (bAt s 0)) (g30_is s) no fun k rec e e' => ?_
          rw [hl] at e; rw [hw] at e'
          simp only [step31, t31_e, d1, d2, cond_false, show ((0 : Int)) = ((0 : Nat) : Int) from rfl, sxI_at h0, e, e', Option.bind_some, Bool.not_true, cond_false]
        | false =>
          refine Goes.call2 (step := step31) (s := .e s) (g28_is (bAt s 0)) (g30_is s) yes fun k rec e e' => ?_
          rw [hl] at e; rw [hw] at e'
          simp only [step31, t31_e, d1, d2, cond_false, show ((0 : Int)) = ((0 : Nat) : Int) from rfl, sxI_at h0, e, e', Option.bind_some, Bool.not_true, cond_false]
end
end Ab
end Go.Proofs.YtniibdfnijeaeaaDoor

/-
  Numbers and their texts: the document's Decimal; ParseInt on a text of digits.
-/
import Derived.Test.YtniibdfnijeaeaaDoorK4q
set_option linter.unusedVariables false
set_option linter.unusedSimpArgs false
set_option linter.unusedSectionVars false
namespace Go.Proofs.YtniibdfnijeaeaaDoor
namespace Ab
theorem u64w {n : Nat} (h : n < 18446744073709551616) : IntKind.u64.wrap (n : Int) = (n : Int) := by
  unfold IntKind.wrap
  simp [IntKind.bits, IntKind.signed]
  omega
theorem u8w {n : Nat} (h : n < 256) : IntKind.u8.wrap (n : Int) = (n : Int) := by
  unfold IntKind.wrap
  simp [IntKind.bits, IntKind.signed]
  omega
def decS (u : Nat) : ByteArray := ⟨(Lib.decDigits u).toArray⟩
def itoaS (n : Int) : ByteArray := ⟨(Lib.itoa n).toArray⟩
theorem bytes_ext {a b : ByteArray} (h : a.data.toList = b.data.toList) : a = b := ByteArray.ext (Array.ext' h)
theorem toList_append' (a b : ByteArray) : (a ++ b).data.toList = a.data.toList ++ b.data.toList := by rw [ByteArray.data_append, Array.toList_append]
theorem strOfL_one (n : Nat) : (strOfL [(n : Int)]).data.toList = [UInt8.ofNat n] := by
  simp [strOfL]
theorem decS_small {u : Nat} (h : u < 10) : decS u = strOfL [((48 + u : Nat) : Int)] := by
  apply bytes_ext
  rw [strOfL_one]
  show (Lib.decDigits u).toArray.toList = _
  rw [dec_small h]
theorem decS_big {u : Nat} (h : ¬ u < 10) : decS u = decS (u / 10) ++ strOfL [((48 + u % 10 : Nat) : Int)] := by
  apply bytes_ext
  rw [toList_append', strOfL_one]
  show (Lib.decDigits u).toArray.toList = (Lib.decDigits (u / 10)).toArray.toList ++ _
  rw [dec_big h]
theorem app_assoc (a b c : ByteArray) : (a ++ b) ++ c = a ++ (b ++ c) := by
  apply bytes_ext
  simp only [toList_append', List.append_assoc]
theorem app_nil (a : ByteArray) : a ++ strB [] = a := by
  apply bytes_ext
  rw [toList_append']
  exact List.append_nil _
theorem one_size (n : Int) : (strOfL [n]).size = 1 := rfl
theorem all_dg {s : ByteArray} (h : ∀ i, i < s.size → isDi (bAt s i) = true) : ∀ c ∈ s.data.toList, isDg c := by
  intro c hc
  obtain ⟨i, hi, rfl⟩ := List.getElem_of_mem hc
  have hi' : i < s.size := by rw [← size_toList]; exact hi
  have := h i hi'
  unfold bAt at this
  rw [List.getD_eq_getElem?_getD, List.getElem?_eq_getElem hi, Option.getD_some] at this
  simp only [isDi, Bool.and_eq_true, decide_eq_true_eq] at this
  unfold isDg
  omega
section
variable [Laid2]
theorem dig_wrap {d : Nat} (h : d < 10) : IntKind.u8.wrap (IntKind.u64.wrap ((48 : Int) + (d : Int))) = ((48 + d : Nat) : Int) := by
  rw [show (48 : Int) + (d : Int) = ((48 + d : Nat) : Int) by omega, u64w (by omega), u8w (by omega)]
theorem g20_loop (n : Int) : ∀ (j u : Nat) (s : ByteArray), u < 10 ^ (j + 1) → u < 18446744073709551616 → s.size + j ≤ 1000 → Goes step20 (.h1 n s (u : Int)) (if n < 0 then strB [45] ++ (decS u ++ s) else decS u ++ s)
  | 0, u, s, h, hu, hs => by
    have h9 : u < 10 := by simpa using h
    refine .fin0 fun k rec => ?_
    have d9 : decide ((u : Int) > 9) = false := decide_eq_false (by omega)
    simp only [step20, t20_h1, d9, cond_false, dig_wrap h9, ← decS_small h9]
    have z1 : decide ((decS u).size + s.size ≤ 1000000000) = true := decide_eq_true (by rw [decS_small h9, one_size]; omega)
    by_cases hn : n < 0
    · have z2 : decide ((strB [45]).size + (decS u ++ s).size ≤ 1000000000) = true := decide_eq_true (by rw [ByteArray.size_append, decS_small h9, one_size]; show 1 + (1 + s.size) ≤ _; omega)
      simp only [z1, gd_true, decide_eq_true hn, cond_true, z2, if_pos hn]
    · simp only [z1, gd_true, decide_eq_false hn, cond_false, if_neg hn]
  | j + 1, u, s, h, hu, hs => by
    by_cases h9 : u < 10
    · exact g20_loop n 0 u s (by simpa using h9) hu (by omega)
    · have ih := g20_loop n j (u / 10) (strOfL [((48 + u % 10 : Nat) : Int)] ++ s) (by rw [Nat.pow_succ] at h; omega) (by omega) (by rw [ByteArray.size_append, one_size]; omega)
      rw [← app_assoc (decS (u / 10)), ← decS_big h9] at ih
      refine Goes.rec0 ih fun k rec => ?_
      have d9 : decide ((u : Int) > 9) = true := decide_eq_true (by omega)
      have e1 : Int.tmod (u : Int) 10 = ((u % 10 : Nat) : Int) := rfl
      have e2 : Int.tdiv (u : Int) 10 = ((u / 10 : Nat) : Int) := rfl
      simp only [step20, t20_h1, d9, cond_true, e1, e2, dig_wrap (Nat.mod_lt u (show 10 > 0 by omega)), u64w (show u / 10 < 18446744073709551616 by omega)]
      have z1 : decide ((strOfL [((48 + u % 10 : Nat) : Int)]).size + s.size ≤ 1000000000) = true := decide_eq_true (by rw [one_size]; omega)
      rw [z1, gd_true]
theorem g20_is {n : Int} (h1 : -9223372036854775808 ≤ n) (h2 : n ≤ 9223372036854775807) : Tot (fun k => g20 k n) (itoaS n) := by
  have key : ∀ u : Nat, u < 18446744073709551616 → Goes step20 (.h0 n (strB []) (u : Int)) (if n < 0 then strB [45] ++ decS u else decS u) := by
    intro u hu
    have := g20_loop n 20 u (strB []) (by omega) hu (by show 0 + 20 ≤ 1000; omega)
    rw [app_nil] at this
    exact Goes.rec0 this fun k rec => rfl
  by_cases hn : n < 0
  · have e : IntKind.u64.wrap ((0 : Int) - IntKind.u64.wrap n) = (n.natAbs : Int) := by
      have e1 : IntKind.u64.wrap n = n + 18446744073709551616 := by
        unfold IntKind.wrap
        simp [IntKind.bits, IntKind.signed]
        omega
      rw [e1]
      unfold IntKind.wrap
      simp [IntKind.bits, IntKind.signed]
      omega
    have hk := key n.natAbs (by omega)
    rw [if_pos hn] at hk
    have e3 : strB [45] ++ decS n.natAbs = itoaS n := by
      apply bytes_ext
      rw [toList_append']
      show _ ++ (Lib.decDigits n.natAbs).toArray.toList = (Lib.itoa n).toArray.toList
      unfold Lib.itoa
      rw [if_pos hn]
      rfl
    rw [e3] at hk
    refine Goes.rec0 (step := step20) (s := .e n) hk fun k rec => ?_
    simp only [step20, t20_e, decide_eq_true hn, cond_true, e]
  · obtain ⟨u, rfl⟩ := Int.eq_ofNat_of_zero_le (Int.not_lt.1 hn)
    have hk := key u (by omega)
    rw [if_neg hn] at hk
    have e3 : decS u = itoaS (u : Int) := by
      apply bytes_ext
      show (Lib.decDigits u).toArray.toList = (Lib.itoa (u : Int)).toArray.toList
      unfold Lib.itoa
      rw [if_neg hn]
      rfl
    rw [e3] at hk
    refine Goes.rec0 (step := step20) (s := .e (u : Int)) hk fun k rec => ?_
    simp only [step20, t20_e, decide_eq_false hn, cond_false, u64w (show u < 18446744073709551616 by omega)]
theorem parseR_digits {s : ByteArray} (h : ∀ i, i < s.size → isDi (bAt s i) = true) (h1 : 1 ≤ s.size) (h2 : s.size ≤ 4000) :
    parseR s = some (if dv s.data.toList < 2 ^ 63 then some (dv s.data.toList : Int) else none) := by
  have hne : s.data.toList ≠ [] := by
    intro e
    have := size_toList s
    rw [e] at this
    simp at this
    omega
  unfold parseR
  rw [if_pos (by omega), parse_digits hne (all_dg h)]
  by_cases hv : dv s.data.toList < 2 ^ 63
  · rw [if_pos hv, if_pos hv]
  · rw [if_neg hv, if_neg hv]
end
end Ab
end Go.Proofs.YtniibdfnijeaeaaDoor

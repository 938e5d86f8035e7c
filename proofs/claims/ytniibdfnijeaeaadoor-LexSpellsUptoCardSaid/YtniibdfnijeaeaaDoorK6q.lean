/-
  The document's Number, on digits in the one way.
-/
import Derived.Test.YtniibdfnijeaeaaDoorK5q
set_option linter.unusedVariables false
set_option linter.unusedSimpArgs false
set_option linter.unusedSectionVars false
namespace Go.Proofs.YtniibdfnijeaeaaDoor
namespace Ab
theorem dvF_low : ∀ (l : List UInt8) (x : Nat), x * 10 ^ l.length ≤ dvF x l
  | [], x => by
    show x * 10 ^ 0 ≤ x
    rw [Nat.pow_zero]; omega
  | c :: l, x => by
    have ih := dvF_low l (10 * x + dg8 c)
    rw [dvF_cons]
    refine Nat.le_trans ?_ ih
    show x * 10 ^ (l.length + 1) ≤ _
    rw [Nat.pow_succ]
    generalize 10 ^ l.length = z
    have h3 : (10 * x) * z ≤ (10 * x + dg8 c) * z := Nat.mul_le_mul_right z (by omega)
    have h4 : x * (z * 10) = (10 * x) * z := by rw [Nat.mul_comm 10 x, Nat.mul_assoc, Nat.mul_comm z 10]
    rw [h4]; exact h3
theorem dv_low {l : List UInt8} {n : Nat} (hl : l.length = n + 1) (h : ∀ c ∈ l, isDg c) (h0 : l.head? ≠ some 48) : 10 ^ n ≤ dv l := by
  cases l with
  | nil => simp at hl
  | cons c r =>
    have h1 := h c List.mem_cons_self
    unfold isDg at h1
    have h2 : c.toNat ≠ 48 := fun e => h0 (by
      have : c = 48 := by apply UInt8.toNat_inj.1; exact e
      rw [this]; rfl)
    have h3 := dvF_low r (10 * 0 + dg8 c)
    have h4 : 1 ≤ 10 * 0 + dg8 c := by have := dg8_eq c; omega
    have hr : r.length = n := by simpa using hl
    rw [hr] at h3
    show 10 ^ n ≤ dvF (10 * 0 + dg8 c) r
    exact Nat.le_trans (by have := Nat.mul_le_mul_right (10 ^ n) h4; rwa [Nat.one_mul] at this) h3
theorem head_bAt {s : ByteArray} (h1 : 1 ≤ s.size) : s.data.toList.head? = some (UInt8.ofNat (bAt s 0).toNat) := by
  rw [List.head?_eq_getElem?]
  exact bAt_get h1
theorem head_48 {s : ByteArray} (h1 : 1 ≤ s.size) (h : bAt s 0 ≠ 48) : s.data.toList.head? ≠ some 48 := by
  rw [head_bAt h1]
  intro e
  apply h
  have e2 : (UInt8.ofNat (bAt s 0).toNat).toNat = (48 : UInt8).toNat := by rw [Option.some.inj e]
  rw [UInt8.toNat_ofNat', Nat.mod_eq_of_lt (by have := bAt_hi s 0; have := bAt_lo s 0; omega)] at e2
  have : (48 : UInt8).toNat = 48 := rfl
  have := bAt_lo s 0
  omega
/-- the value of the first digits. -/
def pre (s : ByteArray) (i : Nat) : Nat := dv (s.data.toList.take i)
theorem pre_succ {s : ByteArray} {i : Nat} (hi : i < s.size) (hd : isDi (bAt s i) = true) : ((pre s (i + 1) : Nat) : Int) = 10 * (pre s i : Int) + (bAt s i - 48) := by
  have hi' : i < s.data.toList.length := by rw [size_toList]; exact hi
  unfold pre
  rw [List.take_add_one, List.getElem?_eq_getElem hi']
  show ((dvF 0 (_ ++ [_]) : Nat) : Int) = _
  rw [dvF_snoc]
  have e : bAt s i = ((s.data.toList[i]).toNat : Int) := by
    unfold bAt
    rw [List.getD_eq_getElem?_getD, List.getElem?_eq_getElem hi', Option.getD_some]
  simp only [isDi, Bool.and_eq_true, decide_eq_true_eq] at hd
  have h8 := dg8_eq (s.data.toList[i])
  unfold dv
  omega
theorem pre_zero (s : ByteArray) : pre s 0 = 0 := by unfold pre; rw [List.take_zero]; rfl
theorem pre_all (s : ByteArray) : pre s s.size = dv s.data.toList := by unfold pre; rw [← size_toList, List.take_length]
theorem pre_lt {s : ByteArray} (h : ∀ i, i < s.size → isDi (bAt s i) = true) {i : Nat} (hi : i ≤ s.size) : pre s i < 10 ^ i := by
  have := dv_lt (l := s.data.toList.take i) (fun c hc => all_dg h c (List.mem_of_mem_take hc))
  rw [List.length_take, size_toList, Nat.min_eq_left hi] at this
  exact this
theorem pow_le_19 {i : Nat} (h : i ≤ 19) : 10 ^ i ≤ 10 ^ 19 := Nat.pow_le_pow_right (by omega) h
section
variable [Laid2]
theorem g41_loop {s : ByteArray} (h : ∀ i, i < s.size → isDi (bAt s i) = true) (hs : s.size ≤ 19) : ∀ (n i : Nat), s.size - i = n → i ≤ s.size → ∀ r, Goes step41 (.h4 s s (IntKind.i64.wrap (dv s.data.toList : Int))) r →
    Goes step41 (.h2 s s (pre s i : Int) (i : Int)) r
  | 0, i, h1, h2, r, hr => by
    obtain rfl : i = s.size := by omega
    rw [pre_all]
    refine Goes.rec0 hr fun k rec => ?_
    simp only [step41, t41_h2, ltF (Nat.lt_irrefl s.size), cond_false]
  | n + 1, i, h1, h2, r, hr => by
    have hi : i < s.size := by omega
    have ih := g41_loop h hs n (i + 1) (by omega) (by omega) r hr
    have hd := h i hi
    have hp := pre_lt h (Nat.le_of_lt hi)
    have hp2 := pow_le_19 (show i + 1 ≤ 19 by omega)
    have hp3 := pre_lt h (show i + 1 ≤ s.size by omega)
    have hd' := hd
    simp only [isDi, Bool.and_eq_true, decide_eq_true_eq] at hd'
    have e := pre_succ hi hd
    have h3 : Goes step41 (.h3 s s (pre s i : Int) (i : Int) false) r := by
      refine Goes.rec0 ih fun k rec => ?_
      simp only [step41, t41_h3, cond_false, sxI_at hi, wrap1 i (by omega)]
      have e1 : IntKind.u64.wrap ((10 : Int) * (pre s i : Int)) = ((10 * pre s i : Nat) : Int) := by
        rw [show (10 : Int) * (pre s i : Int) = ((10 * pre s i : Nat) : Int) by omega, u64w (by omega)]
      obtain ⟨d, hdd⟩ : ∃ d : Nat, bAt s i - 48 = (d : Int) := ⟨(bAt s i - 48).toNat, by omega⟩
      have e2 : IntKind.u64.wrap (IntKind.u8.wrap (bAt s i - 48)) = (d : Int) := by
        rw [hdd, u8w (by omega), u64w (by omega)]
      rw [e1, e2, show ((10 * pre s i : Nat) : Int) + (d : Int) = ((pre s (i + 1) : Nat) : Int) by omega, u64w (by omega)]
    refine Goes.call (g32_is (bAt s i)) h3 fun k rec e => ?_
    simp only [step41, t41_h2, ltT hi, cond_true, sxI_at hi, e, hd, Option.bind_some, Bool.not_true, cond_false, show decide ((i : Int) > 18) = false from decide_eq_false (by omega)]
theorem g41_is {s : ByteArray} (h : ∀ i, i < s.size → isDi (bAt s i) = true) (h1 : 1 ≤ s.size) (hs : s.size ≤ 19) (h0 : 1 < s.size → bAt s 0 ≠ 48) :
    ∃ m : Int, Tot (fun k => g41 k s) (m, decide (dv s.data.toList < 2 ^ 63)) ∧ (dv s.data.toList < 2 ^ 63 → m = (dv s.data.toList : Int)) := by
  have hv : dv s.data.toList < 10 ^ 19 := by
    have := pre_lt h (Nat.le_refl s.size)
    rw [pre_all] at this
    exact Nat.lt_of_lt_of_le this (pow_le_19 hs)
  have hp : decide ((s.size : Int) > 0) = true := decide_eq_true (by omega)
  have hc : bAt s 0 ≠ 45 := by
    have := h 0 (by omega)
    simp only [isDi, Bool.and_eq_true, decide_eq_true_eq] at this
    omega
  have start : ∀ r, Goes step41 (.h4 s s (IntKind.i64.wrap (dv s.data.toList : Int))) r → Tot (fun k => g41 k s) r := by
    intro r hr
    have hl := g41_loop h hs s.size 0 rfl (by omega) r hr
    rw [pre_zero] at hl
    have h1' : Goes step41 (.h1 s s) r := Goes.rec0 hl fun k rec => rfl
    have h0' : Goes step41 (.h0 s s false) r := Goes.rec0 h1' fun k rec => rfl
    refine Goes.rec0 (step := step41) (s := .e s) h0' fun k rec => ?_
    simp only [step41, t41_e, hp, cond_true, sxI_0 (show 0 < s.size by omega)]
    rw [show (bAt s 0 == 45) = false from by simpa using hc]
  have hne : s.data.toList ≠ [] := by
    intro e
    have := size_toList s
    rw [e] at this
    simp at this
    omega
  by_cases hb : dv s.data.toList < 2 ^ 63
  · refine ⟨(dv s.data.toList : Int), start _ ?_, fun _ => rfl⟩
    rw [wrapN (by omega)]
    refine Goes.done (g20_is (n := (dv s.data.toList : Int)) (by omega) (by omega)) fun k rec e => ?_
    simp only [step41, t41_h4, hp, cond_true, e, Option.bind_some]
    have e2 : itoaS (dv s.data.toList : Int) = s := by
      apply bytes_ext
      show (Lib.itoa (dv s.data.toList : Int)).toArray.toList = _
      unfold Lib.itoa
      rw [if_neg (by omega)]
      have := dec_dv (s.size - 1) s.data.toList (by rw [size_toList]; omega) (all_dg h) (fun hh => head_48 h1 (h0 (by rw [size_toList] at hh; exact hh)))
      simpa using this
    rw [e2, decide_eq_true hb]
    simp
  · refine ⟨IntKind.i64.wrap (dv s.data.toList : Int), start _ ?_, fun hh => absurd hh hb⟩
    have hm : IntKind.i64.wrap (dv s.data.toList : Int) = (dv s.data.toList : Int) - 18446744073709551616 := by rw [IntKind.wrap_i64]; omega
    refine Goes.done (g20_is (n := IntKind.i64.wrap (dv s.data.toList : Int)) (by rw [hm]; omega) (by rw [hm]; omega)) fun k rec e => ?_
    simp only [step41, t41_h4, hp, cond_true, e, Option.bind_some]
    rw [decide_eq_false hb]
    have : ((itoaS (IntKind.i64.wrap (dv s.data.toList : Int))).toList == s.toList) = false := by
      rw [beq_eq_false_iff_ne]
      intro e2
      rw [toList_eq', toList_eq'] at e2
      have e3 : (itoaS (IntKind.i64.wrap (dv s.data.toList : Int))).data.toList.head? = some 45 := by
        show (Lib.itoa _).toArray.toList.head? = _
        unfold Lib.itoa
        rw [if_pos (by rw [hm]; omega)]
        rfl
      rw [e2, head_bAt h1] at e3
      have e4 : (UInt8.ofNat (bAt s 0).toNat).toNat = (45 : UInt8).toNat := by rw [Option.some.inj e3]
      rw [UInt8.toNat_ofNat', Nat.mod_eq_of_lt (by have := bAt_hi s 0; have := bAt_lo s 0; omega)] at e4
      have : (45 : UInt8).toNat = 45 := rfl
      have := bAt_lo s 0
      omega
    rw [this]
end
end Ab
end Go.Proofs.YtniibdfnijeaeaaDoor

/-
  Numbers: digits and their values; ParseInt on digits; the document's Decimal and Number.
-/
import Derived.Test.YtniibdfnijeaeaaDoorK3q
import Derived.Lib.ItoaNum
set_option linter.unusedVariables false
set_option linter.unusedSimpArgs false
set_option linter.unusedSectionVars false
namespace Go.Proofs.YtniibdfnijeaeaaDoor
namespace Ab
/-- the number that digits spell, behind one. -/
def dg8 (c : UInt8) : Nat := c.toNat - 48
def dvF (x : Nat) (l : List UInt8) : Nat := l.foldl (fun x c => 10 * x + dg8 c) x
theorem dvF_cons (x : Nat) (c : UInt8) (l : List UInt8) : dvF x (c :: l) = dvF (10 * x + dg8 c) l := by
  unfold dvF
  rw [List.foldl_cons]
theorem dg8_eq (c : UInt8) : dg8 c = c.toNat - 48 := rfl
def dv (l : List UInt8) : Nat := dvF 0 l
def isDg (c : UInt8) : Prop := 48 ≤ c.toNat ∧ c.toNat ≤ 57
theorem dvF_ge : ∀ (l : List UInt8) (x : Nat), x ≤ dvF x l
  | [], x => Nat.le_refl _
  | c :: l, x => Nat.le_trans (by omega) (dvF_ge l (10 * x + dg8 c))
theorem dvF_snoc (l : List UInt8) (x : Nat) (c : UInt8) : dvF x (l ++ [c]) = 10 * dvF x l + dg8 c := by
  unfold dvF
  rw [List.foldl_append]
  rfl
theorem dvF_lt : ∀ (l : List UInt8) (x : Nat), (∀ c ∈ l, isDg c) → dvF x l < (x + 1) * 10 ^ l.length
  | [], x, h => by
    show x < (x + 1) * 10 ^ 0
    rw [Nat.pow_zero]; omega
  | c :: l, x, h => by
    have h1 := h c List.mem_cons_self
    have h0 := dg8_eq c
    have := dvF_lt l (10 * x + dg8 c) (fun c hc => h c (List.mem_cons_of_mem _ hc))
    have h2 : 10 * x + dg8 c + 1 ≤ 10 * (x + 1) := by have := h1.2; omega
    show dvF (10 * x + dg8 c) l < (x + 1) * 10 ^ (l.length + 1)
    rw [Nat.pow_succ]
    generalize 10 ^ l.length = z at this ⊢
    have h3 := Nat.mul_le_mul_right z h2
    have h4 : 10 * (x + 1) * z = (x + 1) * (z * 10) := by rw [Nat.mul_comm 10 (x + 1), Nat.mul_assoc, Nat.mul_comm 10 z]
    rw [h4] at h3
    exact Nat.lt_of_lt_of_le this h3
theorem dv_lt {l : List UInt8} (h : ∀ c ∈ l, isDg c) : dv l < 10 ^ l.length := by have := dvF_lt l 0 h; simpa [dv] using this
theorem parseM : ∀ (l : List UInt8) (x : Nat), (∀ c ∈ l, isDg c) → Lib.parseUintM (2 ^ 64 - 1) x l = if dvF x l ≤ 2 ^ 64 - 1 then .ok (dvF x l) else (if x ≤ 2 ^ 64 - 1 then .range else Lib.parseUintM (2 ^ 64 - 1) x l)
  | [], x, h => by
    by_cases hx : x ≤ 2 ^ 64 - 1
    · rw [if_pos (show dvF x [] ≤ 2 ^ 64 - 1 from hx)]; rfl
    · rw [if_neg (show ¬ dvF x [] ≤ 2 ^ 64 - 1 from hx), if_neg hx]
  | c :: l, x, h => by
    have h1 : 48 ≤ c.toNat ∧ c.toNat ≤ 57 := h c List.mem_cons_self
    have ih := parseM l (x * 10 + (c.toNat - 48)) (fun c hc => h c (List.mem_cons_of_mem _ hc))
    have e : 10 * x + dg8 c = x * 10 + (c.toNat - 48) := by have := dg8_eq c; omega
    have hge := dvF_ge l (x * 10 + (c.toNat - 48))
    rw [dvF_cons, e]
    by_cases hv : dvF (x * 10 + (c.toNat - 48)) l ≤ 2 ^ 64 - 1
    · rw [if_pos hv] at ih ⊢
      unfold Lib.parseUintM
      rw [if_pos h1, if_neg (by omega), if_neg (by omega)]
      exact ih
    · rw [if_neg hv] at ih ⊢
      by_cases hx : x ≤ 2 ^ 64 - 1
      · rw [if_pos hx]
        unfold Lib.parseUintM
        rw [if_pos h1]
        split
        · rfl
        · split
          · rfl
          · rw [ih, if_pos (by omega)]
      · rw [if_neg hx]
theorem parse_digits {l : List UInt8} (hne : l ≠ []) (h : ∀ c ∈ l, isDg c) : Lib.parseIntB 64 l = if dv l < 2 ^ 63 then .ok (dv l : Int) else .range := by
  cases l with
  | nil => exact absurd rfl hne
  | cons c r =>
    have h1 := h c List.mem_cons_self
    unfold isDg at h1
    have hu : Lib.parseUintB 64 (c :: r) = if dv (c :: r) ≤ 2 ^ 64 - 1 then .ok (dv (c :: r)) else .range := by
      unfold Lib.parseUintB
      rw [if_neg (by simp), parseM _ 0 h]
      unfold dv
      split
      · rfl
      · rw [if_pos (by omega)]
    unfold Lib.parseIntB
    simp only [if_neg (show ¬ (c.toNat = 43 ∨ c.toNat = 45) by omega), hu]
    have hn : ¬ c.toNat = 45 := by omega
    by_cases h2 : dv (c :: r) ≤ 2 ^ 64 - 1
    · rw [if_pos h2]
      simp only [hn, not_false_eq_true, true_and, false_and, if_false]
      by_cases h3 : dv (c :: r) < 2 ^ 63
      · rw [if_neg (show ¬ 2 ^ (64 - 1) ≤ dv (c :: r) by omega), if_pos h3]
      · rw [if_pos (show 2 ^ (64 - 1) ≤ dv (c :: r) by omega), if_neg h3]
    · rw [if_neg h2, if_neg (by omega)]
theorem dec_small {u : Nat} (h : u < 10) : Lib.decDigits u = [UInt8.ofNat (48 + u)] := by rw [Lib.decDigits, dif_pos h]
theorem dec_big {u : Nat} (h : ¬ u < 10) : Lib.decDigits u = Lib.decDigits (u / 10) ++ [UInt8.ofNat (48 + u % 10)] := by rw [Lib.decDigits, dif_neg h]
theorem dg_back {c : UInt8} (h : isDg c) : UInt8.ofNat (48 + (c.toNat - 48)) = c := by
  unfold isDg at h
  rw [show 48 + (c.toNat - 48) = c.toNat by omega]
  exact UInt8.ofNat_toNat
theorem dv_pos {l : List UInt8} (hne : l ≠ []) (h : ∀ c ∈ l, isDg c) (h0 : l.head? ≠ some 48) : 1 ≤ dv l := by
  cases l with
  | nil => exact absurd rfl hne
  | cons c r =>
    have h1 := h c List.mem_cons_self
    unfold isDg at h1
    have h2 : c.toNat ≠ 48 := fun e => h0 (by
      have : c = 48 := by apply UInt8.toNat_inj.1; exact e
      rw [this]; rfl)
    have := dvF_ge r (10 * 0 + dg8 c)
    have h3 := dg8_eq c
    show 1 ≤ dvF (10 * 0 + dg8 c) r
    omega
/-- digits in the one way are the number's own. -/
theorem dec_dv : ∀ (n : Nat) (l : List UInt8), l.length = n + 1 → (∀ c ∈ l, isDg c) → (1 < l.length → l.head? ≠ some 48) → Lib.decDigits (dv l) = l
  | 0, l, hl, h, h0 => by
    match l, hl with
    | [c], _ =>
      have h1 := h c List.mem_cons_self
      have e : dv [c] = c.toNat - 48 := by show 10 * 0 + dg8 c = _; rw [dg8_eq]; omega
      rw [e, dec_small (by have := h1.2; omega), dg_back h1]
  | n + 1, l, hl, h, h0 => by
    have hne : l ≠ [] := by intro e; rw [e] at hl; simp at hl
    obtain ⟨r, c, rfl⟩ : ∃ r c, l = r ++ [c] := ⟨l.dropLast, l.getLast hne, (List.dropLast_concat_getLast hne).symm⟩
    have hr : r.length = n + 1 := by simpa using hl
    have hrne : r ≠ [] := by intro e; rw [e] at hr; simp at hr
    have hc := h c (List.mem_append_right _ List.mem_cons_self)
    have hrd : ∀ x ∈ r, isDg x := fun x hx => h x (List.mem_append_left _ hx)
    have hh : r.head? ≠ some 48 := by
      have := h0 (by simp; omega)
      cases r with
      | nil => exact absurd rfl hrne
      | cons a r => exact this
    have hp := dv_pos hrne hrd hh
    have e : dv (r ++ [c]) = 10 * dv r + (c.toNat - 48) := dvF_snoc r 0 c
    have h9 : c.toNat - 48 < 10 := by have := hc.2; omega
    rw [e, dec_big (by omega), show (10 * dv r + (c.toNat - 48)) / 10 = dv r by omega, show (10 * dv r + (c.toNat - 48)) % 10 = c.toNat - 48 by omega, dg_back hc, dec_dv n r hr hrd (fun _ => hh)]
end Ab
end Go.Proofs.YtniibdfnijeaeaaDoor

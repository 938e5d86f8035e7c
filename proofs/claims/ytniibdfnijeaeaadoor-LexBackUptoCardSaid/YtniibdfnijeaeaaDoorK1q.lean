/-
  Bytes of a text, and runs of them: plain definitions and laws.
-/
import Derived.Test.YtniibdfnijeaeaaDoorSnq
set_option linter.unusedVariables false
set_option linter.unusedSimpArgs false
namespace Go.Proofs.YtniibdfnijeaeaaDoor
namespace Ab
/-- a byte of a text. -/
def bAt (s : ByteArray) (p : Nat) : Int := ((s.data.toList.getD p 0).toNat : Int)
def isLe (c : Int) : Bool := (decide (97 ≤ c) && decide (c ≤ 122)) || (decide (65 ≤ c) && decide (c ≤ 90))
def isDi (c : Int) : Bool := decide (48 ≤ c) && decide (c ≤ 57)
def isNm (c : Int) : Bool := isLe c || isDi c || c == 95
def isBl (c : Int) : Bool := c == 32 || c == 9 || c == 10 || c == 13
theorem bAt_lo (s : ByteArray) (p : Nat) : 0 ≤ bAt s p := by unfold bAt; omega
theorem bAt_hi (s : ByteArray) (p : Nat) : bAt s p ≤ 255 := by
  unfold bAt
  have := (s.data.toList.getD p 0).toNat_lt
  omega
theorem size_toList (s : ByteArray) : s.data.toList.length = s.size := by rw [Array.length_toList]; rfl
theorem bAt_get {s : ByteArray} {p : Nat} (h : p < s.size) : s.data.toList[p]? = some (UInt8.ofNat (bAt s p).toNat) := by
  have h' : p < s.data.toList.length := by rw [size_toList]; exact h
  rw [List.getElem?_eq_getElem h']
  unfold bAt
  rw [List.getD_eq_getElem?_getD, List.getElem?_eq_getElem h']
  simp
theorem byteAt_eq {s : ByteArray} {p : Nat} (h : p < s.size) : byteAt s p = some (bAt s p) := by
  unfold byteAt bAt
  have h1 : s[p]? = some (s[p]'h) := by simp [h]
  have h' : p < s.data.toList.length := by rw [size_toList]; exact h
  rw [h1, List.getD_eq_getElem?_getD, List.getElem?_eq_getElem h']
  rfl
theorem bAt_elem {s : ByteArray} {p : Nat} (h : p < s.size) : ((s[p]'h).toNat : Int) = bAt s p := by
  have := byteAt_eq h
  unfold byteAt at this
  have h1 : s[p]? = some (s[p]'h) := by simp [h]
  rw [h1] at this
  simpa using this
theorem sxI_at {α : Type} {s : ByteArray} {p : Nat} (h : p < s.size) (k : Int → Option α) : sxI s (p : Int) k = k (bAt s p) := by
  have : decide ((0 : Int) ≤ (p : Int)) = true := by simp
  simp [sxI, byteAt_eq h]
theorem sxI_0 {α : Type} {s : ByteArray} (h : 0 < s.size) (k : Int → Option α) : sxI s 0 k = k (bAt s 0) := sxI_at h k
/-- where a run from a place on ends. -/
def stop (f : Int → Bool) (s : ByteArray) (p : Nat) : Nat := if p < s.size then (if f (bAt s p) then stop f s (p + 1) else p) else p
termination_by s.size - p
theorem stop_no {f : Int → Bool} {s : ByteArray} {p : Nat} (h : p < s.size → f (bAt s p) = false) : stop f s p = p := by
  rw [stop]
  split
  · rename_i hp
    rw [h hp]; rfl
  · rfl
theorem stop_on {f : Int → Bool} {s : ByteArray} {p : Nat} (hp : p < s.size) (h : f (bAt s p) = true) : stop f s p = stop f s (p + 1) := by
  rw [stop, if_pos hp, h]; rfl
theorem stop_ge (f : Int → Bool) (s : ByteArray) : ∀ (n p : Nat), s.size - p ≤ n → p ≤ stop f s p
  | 0, p, h => by rw [stop_no (fun hp => by omega)]; exact Nat.le_refl _
  | n + 1, p, h => by
    by_cases hp : p < s.size
    · cases hf : f (bAt s p) with
      | true => rw [stop_on hp hf]; have := stop_ge f s n (p + 1) (by omega); omega
      | false => rw [stop_no (fun _ => hf)]; exact Nat.le_refl _
    · rw [stop_no (fun h => absurd h hp)]; exact Nat.le_refl _
theorem ge_stop (f : Int → Bool) (s : ByteArray) (p : Nat) : p ≤ stop f s p := stop_ge f s _ p (Nat.le_refl _)
theorem stop_le (f : Int → Bool) (s : ByteArray) : ∀ (n p : Nat), s.size - p ≤ n → p ≤ s.size → stop f s p ≤ s.size
  | 0, p, h, hs => by rw [stop_no (fun hp => by omega)]; exact hs
  | n + 1, p, h, hs => by
    by_cases hp : p < s.size
    · cases hf : f (bAt s p) with
      | true => rw [stop_on hp hf]; exact stop_le f s n (p + 1) (by omega) (by omega)
      | false => rw [stop_no (fun _ => hf)]; exact hs
    · rw [stop_no (fun h => absurd h hp)]; exact hs
theorem le_stop {f : Int → Bool} {s : ByteArray} {p : Nat} (h : p ≤ s.size) : stop f s p ≤ s.size := stop_le f s _ p (Nat.le_refl _) h
theorem stop_in {f : Int → Bool} {s : ByteArray} : ∀ {n p : Nat}, s.size - p ≤ n → ∀ i, p ≤ i → i < stop f s p → f (bAt s i) = true
  | 0, p, h, i, h1, h2 => by rw [stop_no (fun hp => by omega)] at h2; omega
  | n + 1, p, h, i, h1, h2 => by
    by_cases hp : p < s.size
    · cases hf : f (bAt s p) with
      | true =>
        rw [stop_on hp hf] at h2
        by_cases e : i = p
        · subst e; exact hf
        · exact stop_in (n := n) (by omega) i (by omega) h2
      | false => rw [stop_no (fun _ => hf)] at h2; omega
    · rw [stop_no (fun h => absurd h hp)] at h2; omega
theorem in_stop {f : Int → Bool} {s : ByteArray} {p i : Nat} (h1 : p ≤ i) (h2 : i < stop f s p) : f (bAt s i) = true := stop_in (Nat.le_refl _) i h1 h2
theorem stop_end {f : Int → Bool} {s : ByteArray} : ∀ {n p : Nat}, s.size - p ≤ n → stop f s p < s.size → f (bAt s (stop f s p)) = false
  | 0, p, h, h2 => by
    rw [stop_no (fun hp => by omega)] at h2; omega
  | n + 1, p, h, h2 => by
    by_cases hp : p < s.size
    · cases hf : f (bAt s p) with
      | true =>
        rw [stop_on hp hf] at h2 ⊢
        exact stop_end (n := n) (by omega) h2
      | false => rw [stop_no (fun _ => hf)]; exact hf
    · rw [stop_no (fun h => absurd h hp)] at h2; omega
theorem end_stop {f : Int → Bool} {s : ByteArray} {p : Nat} (h : stop f s p < s.size) : f (bAt s (stop f s p)) = false := stop_end (Nat.le_refl _) h
theorem stop_uniq {f : Int → Bool} {s : ByteArray} {e : Nat} : ∀ {n p : Nat}, e - p ≤ n → p ≤ e → e ≤ s.size → (∀ i, p ≤ i → i < e → f (bAt s i) = true) → (e < s.size → f (bAt s e) = false) → stop f s p = e
  | 0, p, h, h1, h2, h3, h4 => by
    obtain rfl : p = e := by omega
    exact stop_no h4
  | n + 1, p, h, h1, h2, h3, h4 => by
    by_cases e0 : p = e
    · subst e0; exact stop_no h4
    · rw [stop_on (by omega) (h3 p (Nat.le_refl _) (by omega))]
      exact stop_uniq (n := n) (by omega) (by omega) h2 (fun i a b => h3 i (by omega) b) h4
theorem stop_is {f : Int → Bool} {s : ByteArray} {p e : Nat} (h1 : p ≤ e) (h2 : e ≤ s.size) (h3 : ∀ i, p ≤ i → i < e → f (bAt s i) = true) (h4 : e < s.size → f (bAt s e) = false) : stop f s p = e :=
  stop_uniq (Nat.le_refl _) h1 h2 h3 h4
theorem size_ext (s : ByteArray) (a b : Nat) (hb : b ≤ s.size) : (s.extract a b).size = b - a := by rw [ByteArray.size_extract]; omega
theorem bAt_ext {s : ByteArray} {a b i : Nat} (hb : b ≤ s.size) (h : i < b - a) : bAt (s.extract a b) i = bAt s (a + i) := by
  unfold bAt
  rw [ByteArray.data_extract, Array.toList_extract]
  congr 2
  rw [List.getD_eq_getElem?_getD, List.getD_eq_getElem?_getD, List.extract_eq_take_drop, List.getElem?_take, if_pos h, List.getElem?_drop]
theorem bytes_eq {a b : ByteArray} (hs : a.size = b.size) (h : ∀ i, i < a.size → bAt a i = bAt b i) : a = b := by
  apply ByteArray.ext
  apply Array.ext'
  apply List.ext_getElem?
  intro i
  by_cases hi : i < a.size
  · rw [bAt_get hi, bAt_get (by omega), h i hi]
  · rw [List.getElem?_eq_none (by rw [size_toList]; omega), List.getElem?_eq_none (by rw [size_toList]; omega)]
theorem toList_eq' (s : ByteArray) : s.toList = s.data.toList := ByteArray.toList_eq s
theorem toList_inj {a b : ByteArray} (h : a.toList = b.toList) : a = b := by
  apply ByteArray.ext
  apply Array.ext'
  rw [← toList_eq', ← toList_eq', h]
theorem wrapN {n : Nat} (h : n < 9223372036854775808) : IntKind.i64.wrap (n : Int) = (n : Int) := by rw [IntKind.wrap_i64]; omega
theorem wrapI {x : Int} {n : Nat} (e : x = n) (h : n < 9223372036854775808) : IntKind.i64.wrap x = (n : Int) := by rw [e]; exact wrapN h
end Ab
end Go.Proofs.YtniibdfnijeaeaaDoor

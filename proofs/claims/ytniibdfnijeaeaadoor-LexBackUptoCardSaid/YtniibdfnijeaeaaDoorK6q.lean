/-
  The document's Number, on digits in the one way.
-/
import Derived.Test.YtniibdfnijeaeaaDoorK5q
set_option linter.unusedVariables false
set_option linter.unusedSimpArgs false
set_option linter.unusedSectionVars false
namespace Go.Proofs.YtniibdfnijeaeaaDoor
namespace Ab
theorem head_bAt {s : ByteArray} (h1 : 1 ≤ s.size) : s.data.toList.head? = some (UInt8.ofNat (bAt s 0).toNat) := by
  rw [List.head?_eq_getElem?]
  exact bAt_get h1
theorem head_48 {s : ByteArray} (h1 : 1 ≤ s.size) (h : bAt s 0 ≠ 48) : s.data.toList.head? ≠ some 48 := by
  rw [head_bAt h1]
  intro e
  apply h
  have e2 : (UInt8.ofNat (bAt s 0).toNat).toNat = (48 : UInt8).toNat := by rw [Option.some.inj e]
  rw [UInt8.toNat_ofNat', Nat.mod_eq_of_lt (by have := bAt_hi s 0; have := bAt_lo s 0; omega)] at e2
  have : (48 : UInt8).toNat = 48 := rfl
  have := bAt_lo s 0
  omega
/-- the value of the first digits. -/
def pre (s : ByteArray) (i : Nat) : Nat := dv (s.data.toList.take i)
section
variable [Laid2]
end
end Ab
end Go.Proofs.YtniibdfnijeaeaaDoor

/-
  LexScans: the two scans are alike.
-/
import Derived.Test.YtniibdfnijeaeaaDoorK12q
set_option linter.unusedVariables false
set_option linter.unusedSimpArgs false
set_option linter.unusedSectionVars false
namespace Go.Proofs.YtniibdfnijeaeaaDoor
namespace Ab
theorem scan_len (s : ByteArray) : ∀ (n p : Nat) l, p ≤ s.size → scanF s n p = .inl l → l.length ≤ s.size - p + 1
  | 0, p, l, _, h => by cases h
  | n + 1, p, l, hp, h => by
    have h1 := ge_stop isBl s p
    have h2 := le_stop (f := isBl) hp
    unfold scanF at h
    split at h
    · cases h; simp
    · rename_i hne
      split at h
      · rename_i t e ht
        have he := tok_end (by omega) ht
        cases hq : scanF s n e with
        | inl l' =>
          rw [hq] at h
          cases h
          have := scan_len s n e l' he.2 hq
          rw [List.length_cons]
          omega
        | inr z => rw [hq] at h; cases h
      · cases h
section
variable [Laid2]
end
end Ab
end Go.Proofs.YtniibdfnijeaeaaDoor

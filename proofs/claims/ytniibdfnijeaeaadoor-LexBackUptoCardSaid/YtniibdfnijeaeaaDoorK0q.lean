/-
  Functions by steps, from some depth on.
-/
import Derived.Test.YtniibdfnijeaeaaDoorFSbq
import Derived.Test.YtniibdfnijeaeaaDoorK1q
set_option linter.unusedVariables false
set_option linter.unusedSimpArgs false
set_option linter.unusedSectionVars false
namespace Go.Proofs.YtniibdfnijeaeaaDoor
namespace Ab
/-- from some depth on. -/
def Tot {α : Type} (f : Nat → Option α) (r : α) : Prop := ∃ N, ∀ k, N ≤ k → f k = some r
/-- from a state on, a function by steps comes to an answer. -/
def Goes {S R : Type} (step : Nat → (S → Option R) → S → Option R) (s : S) (r : R) : Prop := Tot (fun k => itS step k s) r
theorem Goes.rec {S R : Type} {step : Nat → (S → Option R) → S → Option R} {s s' : S} {r : R} (h : Goes step s' r) (e : ∃ N, ∀ k, N ≤ k → ∀ rec, step k rec s = rec s') : Goes step s r := by
  obtain ⟨N, hN⟩ := h
  obtain ⟨M, hM⟩ := e
  refine ⟨max N M + 1, fun k hk => ?_⟩
  obtain ⟨j, rfl⟩ : ∃ j, k = j + 1 := ⟨k - 1, by omega⟩
  show step j (itS step j) s = some r
  rw [hM j (by omega)]
  exact hN j (by omega)
theorem Goes.rec0 {S R : Type} {step : Nat → (S → Option R) → S → Option R} {s s' : S} {r : R} (h : Goes step s' r) (e : ∀ k rec, step k rec s = rec s') : Goes step s r := h.rec ⟨0, fun k _ => e k⟩
theorem Goes.fin {S R : Type} {step : Nat → (S → Option R) → S → Option R} {s : S} {r : R} (e : ∃ N, ∀ k, N ≤ k → ∀ rec, step k rec s = some r) : Goes step s r := by
  obtain ⟨M, hM⟩ := e
  refine ⟨M + 1, fun k hk => ?_⟩
  obtain ⟨j, rfl⟩ : ∃ j, k = j + 1 := ⟨k - 1, by omega⟩
  exact hM j (by omega) _
theorem Goes.fin0 {S R : Type} {step : Nat → (S → Option R) → S → Option R} {s : S} {r : R} (e : ∀ k rec, step k rec s = some r) : Goes step s r := .fin ⟨0, fun k _ => e k⟩
theorem tot_deep {α : Type} {f : Nat → Option α} {r : α} (N : Nat) (h : ∀ j, f (j + N) = some r) : Tot f r :=
  ⟨N, fun k hk => by obtain ⟨j, rfl⟩ : ∃ j, k = j + N := ⟨k - N, by omega⟩; exact h j⟩
/-- a call's answer, from some depth on, within a stretch. -/
theorem Goes.call {S R A : Type} {step : Nat → (S → Option R) → S → Option R} {s s' : S} {r : R} {g : Nat → Option A} {a : A} (hg : Tot g a) (h : Goes step s' r) (e : ∀ k rec, g k = some a → step k rec s = rec s') : Goes step s r := by
  obtain ⟨N, hN⟩ := hg
  exact h.rec ⟨N, fun k hk rec => e k rec (hN k hk)⟩
theorem Goes.call2 {S R A B : Type} {step : Nat → (S → Option R) → S → Option R} {s s' : S} {r : R} {g : Nat → Option A} {a : A} {g2 : Nat → Option B} {b : B} (hg : Tot g a) (hg2 : Tot g2 b) (h : Goes step s' r) (e : ∀ k rec, g k = some a → g2 k = some b → step k rec s = rec s') : Goes step s r := by
  obtain ⟨N, hN⟩ := hg
  obtain ⟨M, hM⟩ := hg2
  exact h.rec ⟨max N M, fun k hk rec => e k rec (hN k (by omega)) (hM k (by omega))⟩
theorem Goes.done {S R A : Type} {step : Nat → (S → Option R) → S → Option R} {s : S} {r : R} {g : Nat → Option A} {a : A} (hg : Tot g a) (e : ∀ k rec, g k = some a → step k rec s = some r) : Goes step s r := by
  obtain ⟨N, hN⟩ := hg
  exact .fin ⟨N, fun k hk rec => e k rec (hN k hk)⟩
theorem ixR_at {α : Type} {rows : Rs} {i : Nat} {row : List Cell} (h : rows[i]? = some row) (k : List Cell → Option α) : ixR rows (i : Int) k = k row := by
  have : decide ((0 : Int) ≤ (i : Int)) = true := by simp
  simp [ixR, h]
theorem wrap1 (i : Nat) (h : i < 4611686018427387904) : IntKind.i64.wrap ((i : Int) + 1) = ((i + 1 : Nat) : Int) := wrapI (by omega) (by omega)
theorem wrapA (i j : Nat) (h : i + j < 4611686018427387904) : IntKind.i64.wrap ((i : Int) + (j : Int)) = ((i + j : Nat) : Int) := wrapI (by omega) (by omega)
section
variable [Laid2]
theorem g12_is (c : Int) : Tot (fun k => g12 k c) (isBl c) := Goes.fin0 (step := step12) (s := .e c) fun k rec => by
  simp only [step12, t12_e, isBl]
  cases h1 : c == 32 <;> cases h2 : c == 9 <;> cases h3 : c == 10 <;> rfl
theorem g22_is (c : Int) : Tot (fun k => g22 k c) (isLe c) := Goes.fin0 (step := step22) (s := .e c) fun k rec => by
  simp only [step22, t22_e, isLe, ge_iff_le]
  cases h1 : decide (97 ≤ c) <;> cases h2 : decide (c ≤ 122) <;> cases h3 : decide (65 ≤ c) <;> rfl
theorem g24_is (c : Int) : Tot (fun k => g24 k c) (isDi c) := Goes.fin0 (step := step24) (s := .e c) fun k rec => by
  simp only [step24, t24_e, isDi, ge_iff_le]
  cases h1 : decide (48 ≤ c) <;> rfl
end
end Ab
end Go.Proofs.YtniibdfnijeaeaaDoor

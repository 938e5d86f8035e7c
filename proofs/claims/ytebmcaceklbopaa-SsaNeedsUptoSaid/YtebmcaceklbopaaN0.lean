/-
  Functions by steps, from some depth on; how many operands an operator has.
-/
import Derived.Test.YtebmcaceklbopaaF7b
set_option linter.unusedVariables false
set_option linter.unusedSimpArgs false
namespace Go.Proofs.Ytebmcaceklbopaa
namespace Ab

/-- from some depth on. -/
def Tot {α : Type} (f : Nat → Option α) (r : α) : Prop := ∃ N, ∀ k, N ≤ k → f k = some r
/-- from a state on, a function by steps comes to an answer. -/
def Goes {S R : Type} (step : Nat → (S → Option R) → S → Option R) (s : S) (r : R) : Prop := Tot (fun k => itS step k s) r
theorem Goes.rec {S R : Type} {step : Nat → (S → Option R) → S → Option R} {s s' : S} {r : R} (h : Goes step s' r) (e : ∃ N, ∀ k, N ≤ k → ∀ rec, step k rec s = rec s') : Goes step s r := by
  obtain ⟨N, hN⟩ := h
  obtain ⟨M, hM⟩ := e
  refine ⟨max N M + 1, fun k hk => ?_⟩
  obtain ⟨j, rfl⟩ : ∃ j, k = j + 1 := ⟨k - 1, by omega⟩
  show step j (itS step j) s = some r
  rw [hM j (by omega)]
  exact hN j (by omega)
theorem Goes.rec0 {S R : Type} {step : Nat → (S → Option R) → S → Option R} {s s' : S} {r : R} (h : Goes step s' r) (e : ∀ k rec, step k rec s = rec s') : Goes step s r := h.rec ⟨0, fun k _ => e k⟩
theorem Goes.fin {S R : Type} {step : Nat → (S → Option R) → S → Option R} {s : S} {r : R} (e : ∃ N, ∀ k, N ≤ k → ∀ rec, step k rec s = some r) : Goes step s r := by
  obtain ⟨M, hM⟩ := e
  refine ⟨M + 1, fun k hk => ?_⟩
  obtain ⟨j, rfl⟩ : ∃ j, k = j + 1 := ⟨k - 1, by omega⟩
  exact hM j (by omega) _
theorem Goes.fin0 {S R : Type} {step : Nat → (S → Option R) → S → Option R} {s : S} {r : R} (e : ∀ k rec, step k rec s = some r) : Goes step s r := .fin ⟨0, fun k _ => e k⟩

def nOps (op : Int) : Int := if op = 6 ∨ op = 15 ∨ op = 16 ∨ op = 17 then 1 else if 1 ≤ op ∧ op ≤ 14 then 2 else 0

theorem tot_deep {α : Type} {f : Nat → Option α} {r : α} (N : Nat) (h : ∀ j, f (j + N) = some r) : Tot f r :=
  ⟨N, fun k hk => by obtain ⟨j, rfl⟩ : ∃ j, k = j + N := ⟨k - N, by omega⟩; exact h j⟩

theorem op_cases (op : Int) : (op = 1 ∨ op = 2 ∨ op = 3 ∨ op = 4 ∨ op = 5 ∨ op = 6 ∨ op = 7 ∨ op = 8 ∨ op = 9 ∨ op = 10 ∨ op = 11 ∨ op = 12 ∨ op = 13 ∨ op = 14 ∨ op = 15 ∨ op = 16 ∨ op = 17) ∨ (op < 1 ∨ 17 < op) := by omega

theorem g30_nOps (op : Int) : Tot (fun k => g30 k op) (nOps op) := by
  refine tot_deep 20 fun j => ?_
  rcases op_cases op with h | h
  · rcases h with rfl | rfl | rfl | rfl | rfl | rfl | rfl | rfl | rfl | rfl | rfl | rfl | rfl | rfl | rfl | rfl | rfl <;> rfl
  · have e6 : (op == 6) = false := by simp; omega
    have e15 : (op == 15) = false := by simp; omega
    have e16 : (op == 16) = false := by simp; omega
    have e17 : (op == 17) = false := by simp; omega
    have en : nOps op = 0 := by unfold nOps; rw [if_neg (by omega), if_neg (by omega)]
    have one : ∀ (k : Nat) (x : Int), g42 (k + 6) op x = some 0 := by
      intro k x
      simp [g42, itS, step42, t42_e, t42_h0, t42_h1, t42_h2, t42_h3, e6, e15, e16, e17]
    have res : ∀ (k : Nat) (x : Int), g41 (k + 7) op [[ic x]] = some 0 := by
      intro k x
      have := one k x
      simp [g41, itS, step41, t41_e, ixR, un_i, one]
    have r1 : ∀ x, g41 (j + 19) op [[ic x]] = some 0 := fun x => res (j + 12) x
    rw [en]
    by_cases h1 : op ≥ 1
    · have h2 : decide (op ≤ 14) = false := by simp; omega
      simp [g30, itS, step30, t30_e, t30_h0, t30_h1, r1, h1, h2]
    · simp [g30, itS, step30, t30_e, t30_h0, t30_h1, r1, h1]

structure Ins4 where
  op : Int
  dst : Int
  a : Int
  b : Int
def insR (x : Ins4) : List Cell := [ic x.op, ic x.dst, ic x.a, ic x.b]

def oneR (n : Int) : List Cell := [ic n]
theorem nOps_cases (op : Int) : nOps op = 0 ∨ nOps op = 1 ∨ nOps op = 2 := by unfold nOps; split <;> (try split) <;> simp
theorem nOps_52 : nOps 52 = 0 := rfl
theorem ixR_at {α : Type} {rows : Rs} {i : Nat} {row : List Cell} (h : rows[i]? = some row) (k : List Cell → Option α) : ixR rows (i : Int) k = k row := by
  have : decide ((0 : Int) ≤ (i : Int)) = true := by simp
  simp [ixR, h]
theorem map_at {α : Type} {L : List α} {f : α → List Cell} {i : Nat} {x : α} (h : L[i]? = some x) : (L.map f)[i]? = some (f x) := by rw [List.getElem?_map, h]; rfl
theorem un_ins {α : Type} (x : Ins4) (k : Int → Int → Int → Int → Option α) : un_i4 (insR x) k = k x.op x.dst x.a x.b := rfl
theorem wrap1 (i : Nat) (h : i < 4611686018427387904) : IntKind.i64.wrap ((i : Int) + 1) = ((i + 1 : Nat) : Int) := by
  rw [IntKind.wrap_i64]
  omega

end Ab
end Go.Proofs.Ytebmcaceklbopaa

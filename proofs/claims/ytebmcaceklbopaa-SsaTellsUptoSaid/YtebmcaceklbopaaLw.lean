/-
  Plain and Width, the pure law: what the program tells and what the document tells are one thing.
-/
import Derived.Test.YtebmcaceklbopaaFt
/-
  What the small functions give: how many operands an operator has, and which registers an instruction reads.
-/
namespace Go.Proofs.Ytebmcaceklbopaa
namespace Ab

/-- from some depth on. -/
def Tot {α : Type} (f : Nat → Option α) (r : α) : Prop := ∃ N, ∀ k, N ≤ k → f k = some r
/-- from a state on, a function by steps comes to an answer. -/
def Goes {S R : Type} (step : Nat → (S → Option R) → S → Option R) (s : S) (r : R) : Prop := Tot (fun k => itS step k s) r
theorem Goes.rec {S R : Type} {step : Nat → (S → Option R) → S → Option R} {s s' : S} {r : R} (h : Goes step s' r) (e : ∃ N, ∀ k, N ≤ k → ∀ rec, step k rec s = rec s') : Goes step s r := by
  obtain ⟨N, hN⟩ := h
  obtain ⟨M, hM⟩ := e
  refine ⟨max N M + 1, fun k hk => ?_⟩
  obtain ⟨j, rfl⟩ : ∃ j, k = j + 1 := ⟨k - 1, by omega⟩
  show step j (itS step j) s = some r
  rw [hM j (by omega)]
  exact hN j (by omega)
theorem Goes.rec0 {S R : Type} {step : Nat → (S → Option R) → S → Option R} {s s' : S} {r : R} (h : Goes step s' r) (e : ∀ k rec, step k rec s = rec s') : Goes step s r := h.rec ⟨0, fun k _ => e k⟩
theorem Goes.fin {S R : Type} {step : Nat → (S → Option R) → S → Option R} {s : S} {r : R} (e : ∃ N, ∀ k, N ≤ k → ∀ rec, step k rec s = some r) : Goes step s r := by
  obtain ⟨M, hM⟩ := e
  refine ⟨M + 1, fun k hk => ?_⟩
  obtain ⟨j, rfl⟩ : ∃ j, k = j + 1 := ⟨k - 1, by omega⟩
  exact hM j (by omega) _
theorem Goes.fin0 {S R : Type} {step : Nat → (S → Option R) → S → Option R} {s : S} {r : R} (e : ∀ k rec, step k rec s = some r) : Goes step s r := .fin ⟨0, fun k _ => e k⟩

def nOps (op : Int) : Int := if op = 6 ∨ op = 15 ∨ op = 16 ∨ op = 17 then 1 else if 1 ≤ op ∧ op ≤ 14 then 2 else 0

theorem tot_deep {α : Type} {f : Nat → Option α} {r : α} (N : Nat) (h : ∀ j, f (j + N) = some r) : Tot f r :=
  ⟨N, fun k hk => by obtain ⟨j, rfl⟩ : ∃ j, k = j + N := ⟨k - N, by omega⟩; exact h j⟩

theorem op_cases (op : Int) : (op = 1 ∨ op = 2 ∨ op = 3 ∨ op = 4 ∨ op = 5 ∨ op = 6 ∨ op = 7 ∨ op = 8 ∨ op = 9 ∨ op = 10 ∨ op = 11 ∨ op = 12 ∨ op = 13 ∨ op = 14 ∨ op = 15 ∨ op = 16 ∨ op = 17) ∨ (op < 1 ∨ 17 < op) := by omega

theorem g31_nOps (op : Int) : Tot (fun k => g31 k op) (nOps op) := by
  refine tot_deep 4 fun j => ?_
  rcases op_cases op with h | h
  · rcases h with rfl | rfl | rfl | rfl | rfl | rfl | rfl | rfl | rfl | rfl | rfl | rfl | rfl | rfl | rfl | rfl | rfl <;> rfl
  · have e6 : (op == 6) = false := by simp; omega
    have e15 : (op == 15) = false := by simp; omega
    have e16 : (op == 16) = false := by simp; omega
    have e17 : (op == 17) = false := by simp; omega
    have en : nOps op = 0 := by unfold nOps; rw [if_neg (by omega), if_neg (by omega)]
    rw [en]
    by_cases h1 : op ≥ 1
    · have h2 : decide (op ≤ 14) = false := by simp; omega
      simp [g31, itS, step31, t31_e, t31_h0, t31_h1, e6, e15, e16, e17, h1, h2]
    · simp [g31, itS, step31, t31_e, t31_h0, t31_h1, e6, e15, e16, e17, h1]

theorem g30_nOps (op : Int) : Tot (fun k => g30 k op) (nOps op) := by
  refine tot_deep 20 fun j => ?_
  rcases op_cases op with h | h
  · rcases h with rfl | rfl | rfl | rfl | rfl | rfl | rfl | rfl | rfl | rfl | rfl | rfl | rfl | rfl | rfl | rfl | rfl <;> rfl
  · have e6 : (op == 6) = false := by simp; omega
    have e15 : (op == 15) = false := by simp; omega
    have e16 : (op == 16) = false := by simp; omega
    have e17 : (op == 17) = false := by simp; omega
    have en : nOps op = 0 := by unfold nOps; rw [if_neg (by omega), if_neg (by omega)]
    have one : ∀ (k : Nat) (x : Int), g42 (k + 6) op x = some 0 := by
      intro k x
      simp [g42, itS, step42, t42_e, t42_h0, t42_h1, t42_h2, t42_h3, e6, e15, e16, e17]
    have res : ∀ (k : Nat) (x : Int), g41 (k + 7) op [[ic x]] = some 0 := by
      intro k x
      have := one k x
      simp [g41, itS, step41, t41_e, ixR, un_i, one]
    have r1 : ∀ x, g41 (j + 19) op [[ic x]] = some 0 := fun x => res (j + 12) x
    rw [en]
    by_cases h1 : op ≥ 1
    · have h2 : decide (op ≤ 14) = false := by simp; omega
      simp [g30, itS, step30, t30_e, t30_h0, t30_h1, r1, h1, h2]
    · simp [g30, itS, step30, t30_e, t30_h0, t30_h1, r1, h1]

structure Ins4 where
  op : Int
  dst : Int
  a : Int
  b : Int
def insR (x : Ins4) : List Cell := [ic x.op, ic x.dst, ic x.a, ic x.b]
def reads (x : Ins4) : List Int := if x.op = 52 ∨ nOps x.op = 1 then [x.a] else if nOps x.op = 2 then [x.a, x.b] else []
def oneR (n : Int) : List Cell := [ic n]

theorem nOps_cases (op : Int) : nOps op = 0 ∨ nOps op = 1 ∨ nOps op = 2 := by unfold nOps; split <;> (try split) <;> simp
theorem nOps_52 : nOps 52 = 0 := rfl

theorem g34_reads (x : Ins4) : Tot (fun k => g34 k x.op x.dst x.a x.b) (if x.op = 52 ∨ nOps x.op ≠ 0 then .inl ((reads x).map oneR) else .inr ()) := by
  obtain ⟨N, hN⟩ := g30_nOps x.op
  refine tot_deep (N + 2) fun j => ?_
  have h30 : ∀ k, N ≤ k → g30 k x.op = some (nOps x.op) := hN
  by_cases h52 : x.op = 52
  · simp [g34, itS, step34, t34_e, t34_h0, reads, h52, oneR]
  · have e52 : (x.op == 52) = false := by simpa using h52
    have a1 := h30 (j + N + 1) (by omega)
    have a2 := h30 (j + N) (by omega)
    have e : g34 (j + (N + 2)) x.op x.dst x.a x.b = itS step34 (j + N + 1 + 1) (.e x.op x.dst x.a x.b) := rfl
    rw [e]
    rcases nOps_cases x.op with hn | hn | hn <;> simp [itS, step34, t34_e, t34_h0, a1, a2, reads, h52, hn, oneR, e52]

theorem g33_reads (x : Ins4) : Tot (fun k => g33 k x.op x.dst x.a x.b) (if x.op = 52 then .inl ((reads x).map oneR) else .inr ((reads x).map oneR)) := by
  obtain ⟨N, hN⟩ := g31_nOps x.op
  refine tot_deep (N + 1) fun j => ?_
  by_cases h52 : x.op = 52
  · simp [g33, itS, step33, t33_e, reads, h52, oneR]
  · have e52 : (x.op == 52) = false := by simpa using h52
    have a1 : g31 (j + N) x.op = some (nOps x.op) := hN (j + N) (by omega)
    have e : g33 (j + (N + 1)) x.op x.dst x.a x.b = itS step33 (j + N + 1) (.e x.op x.dst x.a x.b) := rfl
    rw [e]
    rcases nOps_cases x.op with hn | hn | hn <;> simp [itS, step33, t33_e, a1, reads, h52, hn, oneR, slOk, gd, e52]
end Ab
end Go.Proofs.Ytebmcaceklbopaa

/-
  Whether code is plain: what the program tells and what the document's answer tells are one thing.
-/
namespace Go.Proofs.Ytebmcaceklbopaa
namespace Ab

theorem ixR_at {α : Type} {rows : Rs} {i : Nat} {row : List Cell} (h : rows[i]? = some row) (k : List Cell → Option α) : ixR rows (i : Int) k = k row := by
  have : decide ((0 : Int) ≤ (i : Int)) = true := by simp
  simp [ixR, h]
theorem map_at {α : Type} {L : List α} {f : α → List Cell} {i : Nat} {x : α} (h : L[i]? = some x) : (L.map f)[i]? = some (f x) := by rw [List.getElem?_map, h]; rfl
theorem un_ins {α : Type} (x : Ins4) (k : Int → Int → Int → Int → Option α) : un_i4 (insR x) k = k x.op x.dst x.a x.b := rfl
theorem wrap1 (i : Nat) (h : i < 4611686018427387904) : IntKind.i64.wrap ((i : Int) + 1) = ((i + 1 : Nat) : Int) := by
  rw [IntKind.wrap_i64]
  omega

/-- is an instruction plain at its place? -/
def okI (x : Ins4) (i nI nC : Int) : Prop :=
  x.dst = i ∧ ((x.op = 50 ∧ 0 ≤ x.a ∧ x.a < nI ∧ x.b = 0) ∨ (x.op = 51 ∧ 0 ≤ x.a ∧ x.a < nC ∧ x.b = 0) ∨ (nOps x.op = 1 ∧ 0 ≤ x.a ∧ x.a < i ∧ x.b = 0) ∨ (nOps x.op = 2 ∧ 0 ≤ x.a ∧ x.a < i ∧ 0 ≤ x.b ∧ x.b < i))
def tellI (x : Ins4) (regs : Int) : Prop := x.op = 52 ∧ x.dst = 0 ∧ x.b = 0 ∧ 0 ≤ x.a ∧ x.a < regs
def PlainP (regs slots nI nC : Int) (L : List Ins4) : Prop :=
  slots = 0 ∧ 1 ≤ regs ∧ (L.length : Int) = regs + 1 ∧ (∀ (i : Nat) x, L[i]? = some x → (i : Int) < regs → okI x i nI nC) ∧ ∃ t, L[regs.toNat]? = some t ∧ tellI t regs

theorem nOps_50 : nOps 50 = 0 := rfl
theorem nOps_51 : nOps 51 = 0 := rfl

open Classical in
theorem g15_row {regs slots : Int} {ins cs l V : Rs} {n : Int} {i : Nat} {x : Ins4} {r : Bool} (hi : (i : Int) < n) (hV : V[i]? = some (insR x)) (hs : i < 4611686018427387904)
    (h : if okI x i ins.length cs.length then Goes step15 (.h1 V n ((i + 1 : Nat) : Int) regs slots ins cs l) r else r = false) : Goes step15 (.h1 V n (i : Int) regs slots ins cs l) r := by
  obtain ⟨N, hN⟩ := g30_nOps x.op
  have a0 : ∀ b : Bool, (b = true ↔ (x.op = 50 ∧ 0 ≤ x.a ∧ x.a < (ins.length : Int) ∧ x.b = 0) ∨ (x.op = 51 ∧ 0 ≤ x.a ∧ x.a < (cs.length : Int) ∧ x.b = 0) ∨ (nOps x.op = 1 ∧ 0 ≤ x.a ∧ x.a < (i : Int) ∧ x.b = 0) ∨ (nOps x.op = 2 ∧ 0 ≤ x.a ∧ x.a < (i : Int) ∧ 0 ≤ x.b ∧ x.b < (i : Int))) →
      Goes step15 (.h2 (i : Int) b V n (i : Int) x.op x.dst x.a x.b regs slots ins cs l) r := by
    intro b hb
    cases b with
    | false =>
      refine (Goes.fin0 (step := step15) (s := .h3 V n (i : Int) true regs slots ins cs l) fun k rec => ?_).rec0 (fun k rec => rfl)
      rw [if_neg] at h
      · rw [h]; rfl
      · rintro ⟨_, h2⟩
        have := hb.2 h2
        cases this
    | true =>
      by_cases hd : x.dst = (i : Int)
      · rw [if_pos ⟨hd, hb.1 rfl⟩] at h
        refine Goes.rec0 (s' := .h3 V n (i : Int) (x.dst != (i : Int)) regs slots ins cs l) ?_ (fun k rec => rfl)
        have e : (x.dst != (i : Int)) = false := by simp [hd]
        rw [e]
        refine h.rec0 fun k rec => ?_
        show rec (.h1 V n (IntKind.i64.wrap ((i : Int) + 1)) regs slots ins cs l) = _
        rw [wrap1 i hs]
      · rw [if_neg fun hh => hd hh.1] at h
        refine Goes.rec0 (s' := .h3 V n (i : Int) (x.dst != (i : Int)) regs slots ins cs l) ?_ (fun k rec => rfl)
        have e : (x.dst != (i : Int)) = true := by simp [hd]
        rw [e, h]
        exact Goes.fin0 fun k rec => rfl
  have hlt : decide ((i : Int) < n) = true := by simpa using hi
  have fin : ∀ (b : Bool), (b = true ↔ (x.op = 50 ∧ 0 ≤ x.a ∧ x.a < (ins.length : Int) ∧ x.b = 0) ∨ (x.op = 51 ∧ 0 ≤ x.a ∧ x.a < (cs.length : Int) ∧ x.b = 0) ∨ (nOps x.op = 1 ∧ 0 ≤ x.a ∧ x.a < (i : Int) ∧ x.b = 0) ∨ (nOps x.op = 2 ∧ 0 ≤ x.a ∧ x.a < (i : Int) ∧ 0 ≤ x.b ∧ x.b < (i : Int))) →
      (∀ k, N ≤ k → ∀ rec, step15 k rec (.h1 V n (i : Int) regs slots ins cs l) = rec (.h2 (i : Int) b V n (i : Int) x.op x.dst x.a x.b regs slots ins cs l)) → Goes step15 (.h1 V n (i : Int) regs slots ins cs l) r :=
    fun b hb e => (a0 b hb).rec ⟨N, e⟩
  have open1 : ∀ k (rec : S15 → Option R15), step15 k rec (.h1 V n (i : Int) regs slots ins cs l) = t15_h1 k rec V n (i : Int) regs slots ins cs l := fun _ _ => rfl
  by_cases h50 : x.op = 50
  · have e50 : (x.op == 50) = true := by simpa using h50
    have hn : nOps x.op = 0 := by rw [h50]; rfl
    by_cases h1 : 0 ≤ x.a
    · by_cases h2 : x.a < (ins.length : Int)
      · refine fin (x.b == 0) (by simp [h50, h1, h2, hn, nOps_50]) fun k hk rec => ?_
        rw [open1]; unfold t15_h1; rw [hlt, cond_true, ixR_at hV, un_ins]; simp [e50, h1, h2]
      · refine fin false (by simp [h50, h1, h2, hn, nOps_50]) fun k hk rec => ?_
        rw [open1]; unfold t15_h1; rw [hlt, cond_true, ixR_at hV, un_ins]; simp [e50, h1, h2]
    · refine fin false (by simp [h50, h1, hn, nOps_50]) fun k hk rec => ?_
      rw [open1]; unfold t15_h1; rw [hlt, cond_true, ixR_at hV, un_ins]; simp [e50, h1]
  · have e50 : (x.op == 50) = false := by simpa using h50
    by_cases h51 : x.op = 51
    · have e51 : (x.op == 51) = true := by simpa using h51
      have hn : nOps x.op = 0 := by rw [h51]; rfl
      by_cases h1 : 0 ≤ x.a
      · by_cases h2 : x.a < (cs.length : Int)
        · refine fin (x.b == 0) (by simp [h51, h1, h2, nOps_51]) fun k hk rec => ?_
          rw [open1]; unfold t15_h1; rw [hlt, cond_true, ixR_at hV, un_ins]; simp [e50, e51, h1, h2]
        · refine fin false (by simp [h51, h1, h2, nOps_51]) fun k hk rec => ?_
          rw [open1]; unfold t15_h1; rw [hlt, cond_true, ixR_at hV, un_ins]; simp [e50, e51, h1, h2]
      · refine fin false (by simp [h51, h1, nOps_51]) fun k hk rec => ?_
        rw [open1]; unfold t15_h1; rw [hlt, cond_true, ixR_at hV, un_ins]; simp [e50, e51, h1]
    · have e51 : (x.op == 51) = false := by simpa using h51
      have h30 : ∀ k, N ≤ k → g30 k x.op = some (nOps x.op) := hN
      rcases nOps_cases x.op with hn | hn | hn
      · refine fin false (by simp [h50, h51, hn]) fun k hk rec => ?_
        rw [open1]; unfold t15_h1; rw [hlt, cond_true, ixR_at hV, un_ins]; simp [e50, e51, h30 k hk, hn]
      · by_cases h1 : 0 ≤ x.a
        · by_cases h2 : x.a < (i : Int)
          · refine fin (x.b == 0) (by simp [h50, h51, h1, h2, hn]) fun k hk rec => ?_
            rw [open1]; unfold t15_h1; rw [hlt, cond_true, ixR_at hV, un_ins]; simp [e50, e51, h30 k hk, hn, h1, h2]
          · refine fin false (by simp [h50, h51, h1, h2, hn]) fun k hk rec => ?_
            rw [open1]; unfold t15_h1; rw [hlt, cond_true, ixR_at hV, un_ins]; simp [e50, e51, h30 k hk, hn, h1, h2]
        · refine fin false (by simp [h50, h51, h1, hn]) fun k hk rec => ?_
          rw [open1]; unfold t15_h1; rw [hlt, cond_true, ixR_at hV, un_ins]; simp [e50, e51, h30 k hk, hn, h1]
      · by_cases h1 : 0 ≤ x.a
        · by_cases h2 : x.a < (i : Int)
          · by_cases h3 : 0 ≤ x.b
            · refine fin (decide (x.b < (i : Int))) (by simp [h50, h51, h1, h2, h3, hn]) fun k hk rec => ?_
              rw [open1]; unfold t15_h1; rw [hlt, cond_true, ixR_at hV, un_ins]; simp [e50, e51, h30 k hk, hn, h1, h2, h3]
            · refine fin false (by simp [h50, h51, h1, h2, h3, hn]) fun k hk rec => ?_
              rw [open1]; unfold t15_h1; rw [hlt, cond_true, ixR_at hV, un_ins]; simp [e50, e51, h30 k hk, hn, h1, h2, h3]
          · refine fin false (by simp [h50, h51, h1, h2, hn]) fun k hk rec => ?_
            rw [open1]; unfold t15_h1; rw [hlt, cond_true, ixR_at hV, un_ins]; simp [e50, e51, h30 k hk, hn, h1, h2]
        · refine fin false (by simp [h50, h51, h1, hn]) fun k hk rec => ?_
          rw [open1]; unfold t15_h1; rw [hlt, cond_true, ixR_at hV, un_ins]; simp [e50, e51, h30 k hk, hn, h1]

theorem g15_end {regs slots : Int} {ins cs l V : Rs} {n : Int} {i : Nat} {t : Ins4} (hi : ¬ (i : Int) < n) {rk : Nat} (hr : regs = (rk : Int)) (hl : l[rk]? = some (insR t)) {b : Bool} (hb : b = true ↔ tellI t regs) :
    Goes step15 (.h1 V n (i : Int) regs slots ins cs l) b := by
  have hlt : decide ((i : Int) < n) = false := by simpa using hi
  refine Goes.fin0 fun k rec => ?_
  show t15_h1 k rec V n (i : Int) regs slots ins cs l = _
  unfold t15_h1
  rw [hlt, cond_false, hr, ixR_at hl, un_ins]
  have no : ¬ tellI t regs → b = false := fun h => by
    cases b with
    | false => rfl
    | true => exact absurd (hb.1 rfl) h
  by_cases h1 : t.op = 52
  · have e1 : (t.op == 52) = true := by simpa using h1
    by_cases h2 : t.dst = 0
    · have e2 : (t.dst == 0) = true := by simpa using h2
      by_cases h3 : t.b = 0
      · have e3 : (t.b == 0) = true := by simpa using h3
        by_cases h4 : 0 ≤ t.a
        · have : b = decide (t.a < (rk : Int)) := by
            by_cases h5 : t.a < (rk : Int)
            · rw [decide_eq_true h5]; exact hb.2 ⟨h1, h2, h3, h4, by rw [hr]; exact h5⟩
            · rw [decide_eq_false h5]; exact no fun h => h5 (by rw [← hr]; exact h.2.2.2.2)
          rw [this]
          simp [e1, e2, e3, h4]
        · rw [no fun h => h4 h.2.2.2.1]; simp [e1, e2, e3, h4]
      · have e3 : (t.b == 0) = false := by simpa using h3
        rw [no fun h => h3 h.2.2.1]; simp [e1, e2, e3]
    · have e2 : (t.dst == 0) = false := by simpa using h2
      rw [no fun h => h2 h.2.1]; simp [e1, e2]
  · have e1 : (t.op == 52) = false := by simpa using h1
    rw [no fun h => h1 h.1]; simp [e1]

theorem g15_loop {regs slots : Int} {ins cs : Rs} {L : List Ins4} {rk : Nat} (hr : regs = (rk : Int)) (hlen : L.length = rk + 1) (hs : L.length < 4611686018427387904) {t : Ins4} (ht : L[rk]? = some t) :
    ∀ (m i : Nat), i + m = rk → ∀ b : Bool, (b = true ↔ (∀ (j : Nat) x, i ≤ j → L[j]? = some x → (j : Int) < regs → okI x j ins.length cs.length) ∧ tellI t regs) →
      Goes step15 (.h1 ((L.map insR).take rk) (rk : Int) (i : Int) regs slots ins cs (L.map insR)) b
  | 0, i, hi, b, hb => by
    refine g15_end (by omega) hr (map_at ht) (hb.trans ?_)
    exact ⟨fun h => h.2, fun h => ⟨fun j x h1 _ h3 => by omega, h⟩⟩
  | m + 1, i, hi, b, hb => by
    have hx : L[i]? = some (L[i]'(by omega)) := List.getElem?_eq_getElem _
    refine g15_row (x := L[i]'(by omega)) (by omega) (by rw [List.getElem?_take_of_lt (by omega)]; exact map_at hx) (by omega) ?_
    split
    · rename_i hok
      refine g15_loop (slots := slots) (ins := ins) (cs := cs) hr hlen hs ht m (i + 1) (by omega) b (hb.trans ?_)
      refine ⟨fun h => ⟨fun j x h1 h2 h3 => h.1 j x (by omega) h2 h3, h.2⟩, fun h => ⟨fun j x h1 h2 h3 => ?_, h.2⟩⟩
      by_cases hj : j = i
      · subst hj
        rw [hx] at h2
        cases h2
        exact hok
      · exact h.1 j x (by omega) h2 h3
    · rename_i hok
      cases b with
      | false => rfl
      | true => exact absurd ((hb.1 rfl).1 i _ (Nat.le_refl _) hx (by omega)) hok

theorem g15_plain {regs slots : Int} {ins cs : Rs} {L : List Ins4} (hr : -9223372036854775808 ≤ regs ∧ regs ≤ 9223372036854775807) (hs : L.length < 4611686018427387904) {b : Bool} (hb : b = true ↔ PlainP regs slots ins.length cs.length L) :
    Tot (fun k => g15 k regs slots ins cs (L.map insR)) b := by
  show Goes step15 (.e regs slots ins cs (L.map insR)) _
  have no : ¬ PlainP regs slots ins.length cs.length L → Goes step15 (.h0 true regs slots ins cs (L.map insR)) b := by
    intro hn
    have : b = false := by
      cases b with
      | false => rfl
      | true => exact absurd (hb.1 rfl) hn
    rw [this]
    exact Goes.fin0 fun k rec => rfl
  by_cases h1 : slots = 0
  · have e1 : (slots != 0) = false := by simp [h1]
    by_cases h2 : regs < 1
    · refine (no fun h => ?_).rec0 (fun k rec => ?_)
      · have := h.2.1; omega
      · show t15_e k rec regs slots ins cs (L.map insR) = _
        unfold t15_e
        simp [e1, h2]
    · refine Goes.rec0 (s' := .h0 (((L.map insR).length : Int) != (IntKind.i64.wrap (regs + 1))) regs slots ins cs (L.map insR)) ?_ (fun k rec => ?_)
      · by_cases h3 : (L.length : Int) = IntKind.i64.wrap (regs + 1)
        · have e : (((L.map insR).length : Int) != (IntKind.i64.wrap (regs + 1))) = false := by rw [List.length_map]; simp [h3]
          rw [e]
          have hl : (L.length : Int) = regs + 1 := by
            rw [IntKind.wrap_i64] at h3
            omega
          obtain ⟨rk, rfl⟩ : ∃ rk : Nat, regs = (rk : Int) := ⟨regs.toNat, by omega⟩
          have hlen : L.length = rk + 1 := by omega
          have ht : L[rk]? = some (L[rk]'(by omega)) := List.getElem?_eq_getElem _
          refine (g15_loop (regs := (rk : Int)) (slots := slots) (ins := ins) (cs := cs) rfl hlen hs ht rk 0 (by omega) b (hb.trans ?_)).rec0 (fun k rec => ?_)
          · constructor
            · rintro ⟨_, _, _, q1, t, q2, q3⟩
              refine ⟨fun j x _ h4 h5 => q1 j x h4 h5, ?_⟩
              rw [Int.toNat_natCast, ht] at q2
              cases q2
              exact q3
            · rintro ⟨q1, q2⟩
              exact ⟨h1, by omega, hl, fun j x h4 h5 => q1 j x (Nat.zero_le _) h4 h5, _, by rw [Int.toNat_natCast]; exact ht, q2⟩
          · show t15_h0 k rec false (rk : Int) slots ins cs (L.map insR) = _
            unfold t15_h0
            have sl : slOk 0 (rk : Int) (L.map insR) 4 = true := by
              unfold slOk
              apply decide_eq_true
              refine ⟨by omega, by omega, by rw [List.length_map]; omega, ?_⟩
              cases L <;> rfl
            have hl2 : (List.take rk (L.map insR)).length = rk := by rw [List.length_take, List.length_map]; omega
            rw [cond_false, sl]
            show rec (.h1 (List.drop 0 (List.take rk (L.map insR))) ((List.drop 0 (List.take rk (L.map insR))).length : Int) 0 (rk : Int) slots ins cs (L.map insR)) = _
            rw [List.drop_zero, hl2]
            rfl
        · have e : (((L.map insR).length : Int) != (IntKind.i64.wrap (regs + 1))) = true := by rw [List.length_map]; simp [h3]
          rw [e]
          refine no fun h => h3 ?_
          have := h.2.2.1
          rw [IntKind.wrap_i64]
          omega
      · show t15_e k rec regs slots ins cs (L.map insR) = _
        unfold t15_e
        simp [e1, h2]
  · have e1 : (slots != 0) = true := by simp [h1]
    refine (no fun h => h1 h.1).rec0 (fun k rec => ?_)
    show t15_e k rec regs slots ins cs (L.map insR) = _
    unfold t15_e
    simp [e1]
end Ab
end Go.Proofs.Ytebmcaceklbopaa

/-
  Whether code is plain, by the document's answer.
-/
namespace Go.Proofs.Ytebmcaceklbopaa
namespace Ab
theorem no_or {A : Prop} (h : A → False) : ¬ (false = true ∨ A) := fun hh => hh.elim (fun h' => by cases h') h
section
variable {regs slots : Int} {ins cs l V : Rs} {n : Int} {i : Nat} {op dst a b : Int} {r : Bool}

theorem r9 (hs : i < 4611686018427387904) {t : Bool} (h1 : t = true → r = false) (h2 : t = false → Goes step16 (.h1 V n ((i + 1 : Nat) : Int) regs slots ins cs l) r) :
    Goes step16 (.h9 V n (i : Int) t regs slots ins cs l) r := by
  cases t with
  | true => rw [h1 rfl]; exact Goes.fin0 fun k rec => rfl
  | false =>
    refine (h2 rfl).rec0 fun k rec => ?_
    show rec (.h1 V n (IntKind.i64.wrap ((i : Int) + 1)) regs slots ins cs l) = _
    rw [wrap1 i hs]

def bad6 (nn op : Int) : Prop := nn = 0 ∧ op ≠ 50 ∧ op ≠ 51 ∧ op ≠ 52
theorem r6 (hs : i < 4611686018427387904) {nn : Int} {t : Bool} (h1 : t = true ∨ bad6 nn op → r = false) (h2 : ¬ (t = true ∨ bad6 nn op) → Goes step16 (.h1 V n ((i + 1 : Nat) : Int) regs slots ins cs l) r) :
    Goes step16 (.h6 nn V n (i : Int) t op dst a b regs slots ins cs l) r := by
  cases t with
  | true => rw [h1 (.inl rfl)]; exact Goes.fin0 fun k rec => rfl
  | false =>
    have go : ∀ t' : Bool, (t' = true ↔ bad6 nn op) → (∀ k rec, step16 k rec (.h6 nn V n (i : Int) false op dst a b regs slots ins cs l) = rec (.h9 V n (i : Int) t' regs slots ins cs l)) →
        Goes step16 (.h6 nn V n (i : Int) false op dst a b regs slots ins cs l) r := fun t' ht e =>
      (r9 hs (fun h => h1 (.inr (ht.1 h))) (fun h => h2 (no_or fun h' => by rw [ht.2 h'] at h; cases h))).rec0 e
    have op1 : ∀ k rec, step16 k rec (.h6 nn V n (i : Int) false op dst a b regs slots ins cs l) = t16_h6 k rec nn V n (i : Int) false op dst a b regs slots ins cs l := fun _ _ => rfl
    by_cases c1 : nn = 0
    · by_cases c2 : op = 50
      · exact go false (by simp [bad6, c2]) fun k rec => by rw [op1]; unfold t16_h6; simp [c1, c2]
      · have e2 : (op != 50) = true := by simpa using c2
        by_cases c3 : op = 51
        · exact go false (by simp [bad6, c3]) fun k rec => by rw [op1]; unfold t16_h6; simp [c1, c3]
        · have e3 : (op != 51) = true := by simpa using c3
          exact go (op != 52) (by simp [bad6, c1, c2, c3]) fun k rec => by rw [op1]; unfold t16_h6; simp [c1, e2, e3]
    · have e1 : (nn == 0) = false := by simpa using c1
      exact go false (by simp [bad6, c1]) fun k rec => by rw [op1]; unfold t16_h6; simp [e1]

def bad10 (nn op a nC : Int) : Prop := (op = 51 ∧ a ≥ nC) ∨ bad6 nn op
theorem r10 (hs : i < 4611686018427387904) {nn : Int} {t : Bool} (h1 : t = true ∨ bad10 nn op a cs.length → r = false) (h2 : ¬ (t = true ∨ bad10 nn op a cs.length) → Goes step16 (.h1 V n ((i + 1 : Nat) : Int) regs slots ins cs l) r) :
    Goes step16 (.h10 nn V n (i : Int) t op dst a b regs slots ins cs l) r := by
  cases t with
  | true => exact (r6 (op := op) (dst := dst) (a := a) (b := b) (V := V) (n := n) (i := i) (regs := regs) (slots := slots) (ins := ins) (cs := cs) (l := l) (r := r) hs (t := true) (fun _ => h1 (.inl rfl)) (fun h => absurd (.inl rfl) h)).rec0 fun k rec => rfl
  | false =>
    have go : ∀ t' : Bool, (t' = true ↔ (op = 51 ∧ a ≥ (cs.length : Int))) → (∀ k rec, step16 k rec (.h10 nn V n (i : Int) false op dst a b regs slots ins cs l) = rec (.h6 nn V n (i : Int) t' op dst a b regs slots ins cs l)) →
        Goes step16 (.h10 nn V n (i : Int) false op dst a b regs slots ins cs l) r := fun t' ht e =>
      (r6 hs (t := t') (fun h => h1 (.inr (h.imp ht.1 id))) (fun h => h2 (no_or fun h' => h (h'.imp ht.2 id)))).rec0 e
    have op1 : ∀ k rec, step16 k rec (.h10 nn V n (i : Int) false op dst a b regs slots ins cs l) = t16_h10 k rec nn V n (i : Int) false op dst a b regs slots ins cs l := fun _ _ => rfl
    by_cases c1 : op = 51
    · exact go (decide (a ≥ (cs.length : Int))) (by simp [c1]) fun k rec => by rw [op1]; unfold t16_h10; simp [c1]
    · have e1 : (op == 51) = false := by simpa using c1
      exact go false (by simp [c1]) fun k rec => by rw [op1]; unfold t16_h10; simp [e1]

def bad7 (nn op a nI nC : Int) : Prop := (op = 50 ∧ a ≥ nI) ∨ bad10 nn op a nC
theorem r7 (hs : i < 4611686018427387904) {nn : Int} {t : Bool} (h1 : t = true ∨ bad7 nn op a ins.length cs.length → r = false) (h2 : ¬ (t = true ∨ bad7 nn op a ins.length cs.length) → Goes step16 (.h1 V n ((i + 1 : Nat) : Int) regs slots ins cs l) r) :
    Goes step16 (.h7 nn V n (i : Int) t op dst a b regs slots ins cs l) r := by
  cases t with
  | true => exact (r6 (op := op) (dst := dst) (a := a) (b := b) (V := V) (n := n) (i := i) (regs := regs) (slots := slots) (ins := ins) (cs := cs) (l := l) (r := r) hs (t := true) (fun _ => h1 (.inl rfl)) (fun h => absurd (.inl rfl) h)).rec0 fun k rec => rfl
  | false =>
    have go : ∀ t' : Bool, (t' = true ↔ (op = 50 ∧ a ≥ (ins.length : Int))) → (∀ k rec, step16 k rec (.h7 nn V n (i : Int) false op dst a b regs slots ins cs l) = rec (.h10 nn V n (i : Int) t' op dst a b regs slots ins cs l)) →
        Goes step16 (.h7 nn V n (i : Int) false op dst a b regs slots ins cs l) r := fun t' ht e =>
      (r10 hs (t := t') (fun h => h1 (.inr (h.imp ht.1 id))) (fun h => h2 (no_or fun h' => h (h'.imp ht.2 id)))).rec0 e
    have op1 : ∀ k rec, step16 k rec (.h7 nn V n (i : Int) false op dst a b regs slots ins cs l) = t16_h7 k rec nn V n (i : Int) false op dst a b regs slots ins cs l := fun _ _ => rfl
    by_cases c1 : op = 50
    · exact go (decide (a ≥ (ins.length : Int))) (by simp [c1]) fun k rec => by rw [op1]; unfold t16_h7; simp [c1]
    · have e1 : (op == 50) = false := by simpa using c1
      exact go false (by simp [c1]) fun k rec => by rw [op1]; unfold t16_h7; simp [e1]

def bad4 (en : Bool) (i : Int) (nn op a nI nC : Int) : Prop := (en = true ∧ a ≥ i) ∨ bad7 nn op a nI nC
theorem r4 (hs : i < 4611686018427387904) {nn : Int} {en t : Bool} (h1 : t = true ∨ bad4 en i nn op a ins.length cs.length → r = false) (h2 : ¬ (t = true ∨ bad4 en i nn op a ins.length cs.length) → Goes step16 (.h1 V n ((i + 1 : Nat) : Int) regs slots ins cs l) r) :
    Goes step16 (.h4 (i : Int) nn en V n (i : Int) t op dst a b regs slots ins cs l) r := by
  cases t with
  | true => exact (r6 (op := op) (dst := dst) (a := a) (b := b) (V := V) (n := n) (i := i) (regs := regs) (slots := slots) (ins := ins) (cs := cs) (l := l) (r := r) hs (t := true) (fun _ => h1 (.inl rfl)) (fun h => absurd (.inl rfl) h)).rec0 fun k rec => rfl
  | false =>
    have go : ∀ t' : Bool, (t' = true ↔ (en = true ∧ a ≥ (i : Int))) → (∀ k rec, step16 k rec (.h4 (i : Int) nn en V n (i : Int) false op dst a b regs slots ins cs l) = rec (.h7 nn V n (i : Int) t' op dst a b regs slots ins cs l)) →
        Goes step16 (.h4 (i : Int) nn en V n (i : Int) false op dst a b regs slots ins cs l) r := fun t' ht e =>
      (r7 hs (t := t') (fun h => h1 (.inr (h.imp ht.1 id))) (fun h => h2 (no_or fun h' => h (h'.imp ht.2 id)))).rec0 e
    cases en with
    | true => exact go (decide (a ≥ (i : Int))) (by simp) fun k rec => rfl
    | false => exact go false (by simp) fun k rec => rfl

def bad2 (en : Bool) (i : Int) (nn op a b nI nC : Int) : Prop := (nn > 0 ∧ (a ≥ i ∨ b ≥ i)) ∨ bad4 en i nn op a nI nC
theorem r2 (hs : i < 4611686018427387904) {nn : Int} {en t : Bool} (h1 : t = true ∨ bad2 en i nn op a b ins.length cs.length → r = false) (h2 : ¬ (t = true ∨ bad2 en i nn op a b ins.length cs.length) → Goes step16 (.h1 V n ((i + 1 : Nat) : Int) regs slots ins cs l) r) :
    Goes step16 (.h2 (i : Int) nn en V n (i : Int) t op dst a b regs slots ins cs l) r := by
  cases t with
  | true => rw [h1 (.inl rfl)]; exact Goes.fin0 fun k rec => rfl
  | false =>
    have go : ∀ t' : Bool, (t' = true ↔ (nn > 0 ∧ (a ≥ (i : Int) ∨ b ≥ (i : Int)))) → (∀ k rec, step16 k rec (.h2 (i : Int) nn en V n (i : Int) false op dst a b regs slots ins cs l) = rec (.h4 (i : Int) nn en V n (i : Int) t' op dst a b regs slots ins cs l)) →
        Goes step16 (.h2 (i : Int) nn en V n (i : Int) false op dst a b regs slots ins cs l) r := fun t' ht e =>
      (r4 hs (t := t') (fun h => h1 (.inr (h.imp ht.1 id))) (fun h => h2 (no_or fun h' => h (h'.imp ht.2 id)))).rec0 e
    have op1 : ∀ k rec, step16 k rec (.h2 (i : Int) nn en V n (i : Int) false op dst a b regs slots ins cs l) = t16_h2 k rec (i : Int) nn en V n (i : Int) false op dst a b regs slots ins cs l := fun _ _ => rfl
    by_cases c1 : nn > 0
    · by_cases c2 : a ≥ (i : Int)
      · exact go true (by simp [c1, c2]) fun k rec => by rw [op1]; unfold t16_h2; simp [c1, c2]
      · exact go (decide (b ≥ (i : Int))) (by simp [c1, c2]) fun k rec => by rw [op1]; unfold t16_h2; simp [c1, c2]
    · exact go false (by simp [c1]) fun k rec => by rw [op1]; unfold t16_h2; simp [c1]

def bad8 (en : Bool) (i : Int) (nn op a b nI nC : Int) : Prop := (a < 0 ∨ b < 0) ∨ bad2 en i nn op a b nI nC
theorem r8 (hs : i < 4611686018427387904) {nn : Int} {en t : Bool} (h1 : t = true ∨ bad8 en i nn op a b ins.length cs.length → r = false) (h2 : ¬ (t = true ∨ bad8 en i nn op a b ins.length cs.length) → Goes step16 (.h1 V n ((i + 1 : Nat) : Int) regs slots ins cs l) r) :
    Goes step16 (.h8 (i : Int) nn en V n (i : Int) t op dst a b regs slots ins cs l) r := by
  cases t with
  | true => exact (r2 (op := op) (dst := dst) (a := a) (b := b) (V := V) (n := n) (i := i) (regs := regs) (slots := slots) (ins := ins) (cs := cs) (l := l) (r := r) hs (t := true) (fun _ => h1 (.inl rfl)) (fun h => absurd (.inl rfl) h)).rec0 fun k rec => rfl
  | false =>
    have go : ∀ t' : Bool, (t' = true ↔ (a < 0 ∨ b < 0)) → (∀ k rec, step16 k rec (.h8 (i : Int) nn en V n (i : Int) false op dst a b regs slots ins cs l) = rec (.h2 (i : Int) nn en V n (i : Int) t' op dst a b regs slots ins cs l)) →
        Goes step16 (.h8 (i : Int) nn en V n (i : Int) false op dst a b regs slots ins cs l) r := fun t' ht e =>
      (r2 hs (t := t') (fun h => h1 (.inr (h.imp ht.1 id))) (fun h => h2 (no_or fun h' => h (h'.imp ht.2 id)))).rec0 e
    have op1 : ∀ k rec, step16 k rec (.h8 (i : Int) nn en V n (i : Int) false op dst a b regs slots ins cs l) = t16_h8 k rec (i : Int) nn en V n (i : Int) false op dst a b regs slots ins cs l := fun _ _ => rfl
    by_cases c1 : a < 0
    · exact go true (by simp [c1]) fun k rec => by rw [op1]; unfold t16_h8; simp [c1]
    · exact go (decide (b < 0)) (by simp [c1]) fun k rec => by rw [op1]; unfold t16_h8; simp [c1]

def bad5 (en : Bool) (i : Int) (nn op a b nI nC : Int) : Prop := (nn < 2 ∧ b ≠ 0) ∨ bad8 en i nn op a b nI nC
theorem r5 (hs : i < 4611686018427387904) {nn : Int} {en t : Bool} (h1 : t = true ∨ bad5 en i nn op a b ins.length cs.length → r = false) (h2 : ¬ (t = true ∨ bad5 en i nn op a b ins.length cs.length) → Goes step16 (.h1 V n ((i + 1 : Nat) : Int) regs slots ins cs l) r) :
    Goes step16 (.h5 (i : Int) nn en V n (i : Int) t op dst a b regs slots ins cs l) r := by
  cases t with
  | true => exact (r2 (op := op) (dst := dst) (a := a) (b := b) (V := V) (n := n) (i := i) (regs := regs) (slots := slots) (ins := ins) (cs := cs) (l := l) (r := r) hs (t := true) (fun _ => h1 (.inl rfl)) (fun h => absurd (.inl rfl) h)).rec0 fun k rec => rfl
  | false =>
    have go : ∀ t' : Bool, (t' = true ↔ (nn < 2 ∧ b ≠ 0)) → (∀ k rec, step16 k rec (.h5 (i : Int) nn en V n (i : Int) false op dst a b regs slots ins cs l) = rec (.h8 (i : Int) nn en V n (i : Int) t' op dst a b regs slots ins cs l)) →
        Goes step16 (.h5 (i : Int) nn en V n (i : Int) false op dst a b regs slots ins cs l) r := fun t' ht e =>
      (r8 hs (t := t') (fun h => h1 (.inr (h.imp ht.1 id))) (fun h => h2 (no_or fun h' => h (h'.imp ht.2 id)))).rec0 e
    have op1 : ∀ k rec, step16 k rec (.h5 (i : Int) nn en V n (i : Int) false op dst a b regs slots ins cs l) = t16_h5 k rec (i : Int) nn en V n (i : Int) false op dst a b regs slots ins cs l := fun _ _ => rfl
    by_cases c1 : nn < 2
    · exact go (b != 0) (by simp [c1]) fun k rec => by rw [op1]; unfold t16_h5; simp [c1]
    · exact go false (by simp [c1]) fun k rec => by rw [op1]; unfold t16_h5; simp [c1]

def bad3 (en : Bool) (i : Int) (nn op dst a b nI nC : Int) : Prop := (en = false ∧ dst ≠ i) ∨ bad5 en i nn op a b nI nC
theorem r3 (hs : i < 4611686018427387904) {nn : Int} {en t : Bool} (h1 : t = true ∨ bad3 en i nn op dst a b ins.length cs.length → r = false) (h2 : ¬ (t = true ∨ bad3 en i nn op dst a b ins.length cs.length) → Goes step16 (.h1 V n ((i + 1 : Nat) : Int) regs slots ins cs l) r) :
    Goes step16 (.h3 (i : Int) nn en V n (i : Int) t op dst a b regs slots ins cs l) r := by
  cases t with
  | true => exact (r2 (op := op) (dst := dst) (a := a) (b := b) (V := V) (n := n) (i := i) (regs := regs) (slots := slots) (ins := ins) (cs := cs) (l := l) (r := r) hs (t := true) (fun _ => h1 (.inl rfl)) (fun h => absurd (.inl rfl) h)).rec0 fun k rec => rfl
  | false =>
    have go : ∀ t' : Bool, (t' = true ↔ (en = false ∧ dst ≠ (i : Int))) → (∀ k rec, step16 k rec (.h3 (i : Int) nn en V n (i : Int) false op dst a b regs slots ins cs l) = rec (.h5 (i : Int) nn en V n (i : Int) t' op dst a b regs slots ins cs l)) →
        Goes step16 (.h3 (i : Int) nn en V n (i : Int) false op dst a b regs slots ins cs l) r := fun t' ht e =>
      (r5 hs (t := t') (fun h => h1 (.inr (h.imp ht.1 id))) (fun h => h2 (no_or fun h' => h (h'.imp ht.2 id)))).rec0 e
    cases en with
    | true => exact go false (by simp) fun k rec => rfl
    | false => exact go (dst != (i : Int)) (by simp) fun k rec => rfl

/-- an instruction that the document's answer refuses. -/
def badI (en : Bool) (i : Int) (nn op dst a b nI nC : Int) : Prop := (en = true ∧ op ≠ 52) ∨ (en = false ∧ op = 52) ∨ (en = true ∧ dst ≠ 0) ∨ bad3 en i nn op dst a b nI nC
theorem g16_row {x : Ins4} (hi : (i : Int) < n) (hV : V[i]? = some (insR x)) (hs : i < 4611686018427387904) (h1 : badI ((i : Int) == regs) i (nOps x.op) x.op x.dst x.a x.b ins.length cs.length → r = false)
    (h2 : ¬ badI ((i : Int) == regs) i (nOps x.op) x.op x.dst x.a x.b ins.length cs.length → Goes step16 (.h1 V n ((i + 1 : Nat) : Int) regs slots ins cs l) r) :
    Goes step16 (.h1 V n (i : Int) regs slots ins cs l) r := by
  obtain ⟨N, hN⟩ := g31_nOps x.op
  have h31 : ∀ k, N ≤ k → g31 k x.op = some (nOps x.op) := hN
  have hlt : decide ((i : Int) < n) = true := by simpa using hi
  have op1 : ∀ k rec, step16 k rec (.h1 V n (i : Int) regs slots ins cs l) = t16_h1 k rec V n (i : Int) regs slots ins cs l := fun _ _ => rfl
  by_cases c1 : (i : Int) = regs
  · have e1 : ((i : Int) == regs) = true := by simpa using c1
    rw [e1] at h1 h2
    by_cases c2 : x.op = 52
    · have e2 : (x.op == 52) = true := by simpa using c2
      refine (r3 (V := V) (n := n) (i := i) (regs := regs) (slots := slots) (ins := ins) (cs := cs) (l := l) (r := r) hs (en := true) (t := x.dst != 0) (nn := nOps x.op) (op := x.op) (dst := x.dst) (a := x.a) (b := x.b) (fun h => h1 ?_) (fun h => h2 ?_)).rec ⟨N, fun k hk rec => ?_⟩
      · rcases h with h | h
        · exact .inr (.inr (.inl ⟨rfl, by simpa using h⟩))
        · exact .inr (.inr (.inr h))
      · rintro (h' | h' | h' | h')
        · exact h'.2 c2
        · cases h'.1
        · exact h (.inl (by simpa using h'.2))
        · exact h (.inr h')
      · rw [op1]; unfold t16_h1; rw [hlt, cond_true, ixR_at hV, un_ins]; simp [e1, e2, h31 k hk]
    · have e2 : (x.op == 52) = false := by simpa using c2
      refine (r2 (V := V) (n := n) (i := i) (regs := regs) (slots := slots) (ins := ins) (cs := cs) (l := l) (r := r) hs (en := true) (t := true) (nn := nOps x.op) (op := x.op) (dst := x.dst) (a := x.a) (b := x.b) (fun _ => h1 (.inl ⟨rfl, c2⟩)) (fun h => absurd (.inl rfl) h)).rec ⟨N, fun k hk rec => ?_⟩
      rw [op1]; unfold t16_h1; rw [hlt, cond_true, ixR_at hV, un_ins]; simp [e1, e2, h31 k hk]
  · have e1 : ((i : Int) == regs) = false := by simpa using c1
    rw [e1] at h1 h2
    by_cases c2 : x.op = 52
    · have e2 : (x.op == 52) = true := by simpa using c2
      refine (r2 (V := V) (n := n) (i := i) (regs := regs) (slots := slots) (ins := ins) (cs := cs) (l := l) (r := r) hs (en := false) (t := true) (nn := nOps x.op) (op := x.op) (dst := x.dst) (a := x.a) (b := x.b) (fun _ => h1 (.inr (.inl ⟨rfl, c2⟩))) (fun h => absurd (.inl rfl) h)).rec ⟨N, fun k hk rec => ?_⟩
      rw [op1]; unfold t16_h1; rw [hlt, cond_true, ixR_at hV, un_ins]; simp [e1, e2, h31 k hk]
    · have e2 : (x.op == 52) = false := by simpa using c2
      refine (r3 (V := V) (n := n) (i := i) (regs := regs) (slots := slots) (ins := ins) (cs := cs) (l := l) (r := r) hs (en := false) (t := false) (nn := nOps x.op) (op := x.op) (dst := x.dst) (a := x.a) (b := x.b) (fun h => h1 ?_) (fun h => h2 ?_)).rec ⟨N, fun k hk rec => ?_⟩
      · rcases h with h | h
        · cases h
        · exact .inr (.inr (.inr h))
      · rintro (h' | h' | h' | h')
        · cases h'.1
        · exact c2 h'.2
        · cases h'.1
        · exact h (.inr h')
      · rw [op1]; unfold t16_h1; rw [hlt, cond_true, ixR_at hV, un_ins]; simp [e1, e2, h31 k hk]
end

theorem badI_mid {x : Ins4} {i : Nat} {nI nC : Nat} : ¬ badI false i (nOps x.op) x.op x.dst x.a x.b nI nC ↔ okI x i nI nC := by
  unfold badI bad3 bad5 bad8 bad2 bad4 bad7 bad10 bad6 okI
  have hn := nOps_cases x.op
  have h50 : x.op = 50 → nOps x.op = 0 := fun h => by rw [h]; rfl
  have h51 : x.op = 51 → nOps x.op = 0 := fun h => by rw [h]; rfl
  have h52 : x.op = 52 → nOps x.op = 0 := fun h => by rw [h]; rfl
  simp only [Bool.false_eq_true, false_and, false_or, true_and]
  omega
theorem badI_end {x : Ins4} {i : Nat} {nI nC : Nat} : ¬ badI true i (nOps x.op) x.op x.dst x.a x.b nI nC ↔ tellI x i := by
  unfold badI bad3 bad5 bad8 bad2 bad4 bad7 bad10 bad6 tellI
  have h52 : x.op = 52 → nOps x.op = 0 := fun h => by rw [h]; rfl
  simp only [Bool.true_eq_false, false_and, false_or, true_and]
  omega

theorem g16_loop {regs slots : Int} {ins cs : Rs} {L : List Ins4} {rk : Nat} (hr : regs = (rk : Int)) (hlen : L.length = rk + 1) (hs : L.length < 4611686018427387904) {t : Ins4} (ht : L[rk]? = some t) :
    ∀ (m i : Nat), i + m = rk → ∀ b : Bool, (b = true ↔ (∀ (j : Nat) x, i ≤ j → L[j]? = some x → (j : Int) < regs → okI x j ins.length cs.length) ∧ tellI t regs) →
      Goes step16 (.h1 (L.map insR) (L.length : Int) (i : Int) regs slots ins cs (L.map insR)) b
  | 0, i, hi, b, hb => by
    have hi' : i = rk := by omega
    subst hi'
    refine g16_row (x := t) (by omega) (map_at ht) (by omega) (fun hbad => ?_) (fun hok => ?_)
    · have e : ((i : Int) == regs) = true := by simp [hr]
      rw [e] at hbad
      cases b with
      | false => rfl
      | true =>
        have := (hb.1 rfl).2
        rw [hr] at this
        exact absurd hbad (badI_end.2 this)
    · have e : ((i : Int) == regs) = true := by simp [hr]
      rw [e] at hok
      have : b = true := hb.2 ⟨fun j x h1 _ h3 => by omega, by rw [hr]; exact badI_end.1 hok⟩
      rw [this]
      refine Goes.fin0 fun k rec => ?_
      show t16_h1 k rec _ _ _ _ _ _ _ _ = _
      unfold t16_h1
      have hlt : decide (((i + 1 : Nat) : Int) < (L.length : Int)) = false := by simp; omega
      rw [hlt]; rfl
  | m + 1, i, hi, b, hb => by
    have hx : L[i]? = some (L[i]'(by omega)) := List.getElem?_eq_getElem _
    have e : ((i : Int) == regs) = false := by simp [hr]; omega
    refine g16_row (x := L[i]'(by omega)) (by omega) (map_at hx) (by omega) (fun hbad => ?_) (fun hok => ?_)
    · rw [e] at hbad
      cases b with
      | false => rfl
      | true => exact absurd hbad (badI_mid.2 ((hb.1 rfl).1 i _ (Nat.le_refl _) hx (by omega)))
    · rw [e] at hok
      refine g16_loop (slots := slots) (ins := ins) (cs := cs) hr hlen hs ht m (i + 1) (by omega) b (hb.trans ?_)
      refine ⟨fun h => ⟨fun j x h1 h2 h3 => h.1 j x (by omega) h2 h3, h.2⟩, fun h => ⟨fun j x h1 h2 h3 => ?_, h.2⟩⟩
      by_cases hj : j = i
      · subst hj
        rw [hx] at h2
        cases h2
        exact badI_mid.1 hok
      · exact h.1 j x (by omega) h2 h3

theorem g16_plain {regs slots : Int} {ins cs : Rs} {L : List Ins4} (hr : -9223372036854775808 ≤ regs ∧ regs ≤ 9223372036854775807) (hs : L.length < 4611686018427387904) {b : Bool} (hb : b = true ↔ PlainP regs slots ins.length cs.length L) :
    Tot (fun k => g16 k regs slots ins cs (L.map insR)) b := by
  show Goes step16 (.e regs slots ins cs (L.map insR)) _
  have no : ¬ PlainP regs slots ins.length cs.length L → Goes step16 (.h0 true regs slots ins cs (L.map insR)) b := by
    intro hn
    have : b = false := by
      cases b with
      | false => rfl
      | true => exact absurd (hb.1 rfl) hn
    rw [this]
    exact Goes.fin0 fun k rec => rfl
  by_cases h1 : slots = 0
  · have e1 : (slots != 0) = false := by simp [h1]
    by_cases h2 : regs < 1
    · refine (no fun h => ?_).rec0 (fun k rec => ?_)
      · have := h.2.1; omega
      · show t16_e k rec regs slots ins cs (L.map insR) = _
        unfold t16_e
        simp [e1, h2]
    · refine Goes.rec0 (s' := .h0 ((IntKind.i64.wrap (((L.map insR).length : Int) - 1)) != regs) regs slots ins cs (L.map insR)) ?_ (fun k rec => ?_)
      · have hw : IntKind.i64.wrap (((L.map insR).length : Int) - 1) = (L.length : Int) - 1 := by rw [List.length_map, IntKind.wrap_i64]; omega
        rw [hw]
        by_cases h3 : (L.length : Int) - 1 = regs
        · have e : (((L.length : Int) - 1) != regs) = false := by simp [h3]
          rw [e]
          obtain ⟨rk, rfl⟩ : ∃ rk : Nat, regs = (rk : Int) := ⟨regs.toNat, by omega⟩
          have hlen : L.length = rk + 1 := by omega
          have ht : L[rk]? = some (L[rk]'(by omega)) := List.getElem?_eq_getElem _
          refine (g16_loop (regs := (rk : Int)) (slots := slots) (ins := ins) (cs := cs) rfl hlen hs ht rk 0 (by omega) b (hb.trans ?_)).rec0 (fun k rec => ?_)
          · constructor
            · rintro ⟨_, _, _, q1, t, q2, q3⟩
              refine ⟨fun j x _ h4 h5 => q1 j x h4 h5, ?_⟩
              rw [Int.toNat_natCast, ht] at q2
              cases q2
              exact q3
            · rintro ⟨q1, q2⟩
              exact ⟨h1, by omega, by omega, fun j x h4 h5 => q1 j x (Nat.zero_le _) h4 h5, _, by rw [Int.toNat_natCast]; exact ht, q2⟩
          · show t16_h0 k rec false (rk : Int) slots ins cs (L.map insR) = _
            unfold t16_h0
            rw [cond_false, List.length_map]
            rfl
        · have e : (((L.length : Int) - 1) != regs) = true := by simp [h3]
          rw [e]
          refine no fun h => h3 ?_
          have := h.2.2.1
          omega
      · show t16_e k rec regs slots ins cs (L.map insR) = _
        unfold t16_e
        simp [e1, h2]
  · have e1 : (slots != 0) = true := by simp [h1]
    refine (no fun h => h1 h.1).rec0 (fun k rec => ?_)
    show t16_e k rec regs slots ins cs (L.map insR) = _
    unfold t16_e
    simp [e1]
end Ab
end Go.Proofs.Ytebmcaceklbopaa

/-
  How wide code is: what the program counts and what the document's answer counts are one number.
-/
namespace Go.Proofs.Ytebmcaceklbopaa
namespace Ab

/-- so many rows of one number. -/
def rowsF (n : Nat) (f : Nat → Int) : Rs := (List.range n).map fun j => oneR (f j)
theorem rowsF_len (n : Nat) (f : Nat → Int) : (rowsF n f).length = n := by simp [rowsF]
theorem rowsF_at {n : Nat} {f : Nat → Int} {i : Nat} (h : i < n) : (rowsF n f)[i]? = some (oneR (f i)) := by
  simp [rowsF, List.getElem?_map, List.getElem?_range h]
theorem rowsF_congr {n : Nat} {f g : Nat → Int} (h : ∀ j, j < n → f j = g j) : rowsF n f = rowsF n g := by
  unfold rowsF
  apply List.map_congr_left
  intro j hj
  rw [h j (List.mem_range.1 hj)]
theorem rowsF_set {n : Nat} {f : Nat → Int} {i : Nat} {v : Int} (h : i < n) : setRow (rowsF n f) i 0 (ic v) = rowsF n (fun j => if j = i then v else f j) := by
  unfold setRow
  rw [rowsF_at h]
  apply List.ext_getElem?
  intro j
  by_cases hj : j = i
  · subst hj
    rw [List.getElem?_set_self (by rw [rowsF_len]; exact h), rowsF_at h]
    simp [oneR]
  · rw [List.getElem?_set_ne (fun e => hj e.symm)]
    by_cases hn : j < n
    · rw [rowsF_at hn, rowsF_at hn, if_neg hj]
    · rw [List.getElem?_eq_none (by rw [rowsF_len]; omega), List.getElem?_eq_none (by rw [rowsF_len]; omega)]
theorem un_one {α : Type} (v : Int) (k : Int → Option α) : un_i (oneR v) k = k v := rfl

/-- the last instruction of the first so many that reads a register. -/
def lastIn (L : List Ins4) (r : Nat) : Nat → Int
  | 0 => -1
  | i + 1 => match L[i]? with
    | some x => if (r : Int) ∈ reads x then (i : Int) else lastIn L r i
    | none => lastIn L r i

/-- the registers that are read are there. -/
def InR (L : List Ins4) (rk : Nat) : Prop := ∀ (i : Nat) x, L[i]? = some x → ∀ a ∈ reads x, 0 ≤ a ∧ a < (rk : Int)
theorem inR_of {regs slots : Int} {nI nC : Nat} {L : List Ins4} {rk : Nat} (h : PlainP regs slots nI nC L) (hr : regs = (rk : Int)) : InR L rk := by
  obtain ⟨_, _, hl, h1, t, ht, h2⟩ := h
  intro i x hx a ha
  have hi : i < L.length := (List.getElem?_eq_some_iff.1 hx).1
  have hn := nOps_cases x.op
  have h50 : x.op = 50 → nOps x.op = 0 := fun h => by rw [h]; rfl
  have h51 : x.op = 51 → nOps x.op = 0 := fun h => by rw [h]; rfl
  have h52 : x.op = 52 → nOps x.op = 0 := fun h => by rw [h]; rfl
  by_cases hik : (i : Int) < regs
  · obtain ⟨_, h3⟩ := h1 i x hx hik
    unfold reads at ha
    split at ha
    · simp only [List.mem_singleton] at ha
      subst ha
      omega
    · split at ha
      · simp only [List.mem_cons, List.not_mem_nil, or_false] at ha
        omega
      · simp at ha
  · have hi' : i = rk := by omega
    subst hi'
    rw [hr, Int.toNat_natCast, hx] at ht
    cases ht
    obtain ⟨k1, k2, k3, k4, k5⟩ := h2
    unfold reads at ha
    rw [if_pos (.inl k1)] at ha
    simp only [List.mem_singleton] at ha
    subst ha
    omega

section
variable {regs slots : Int} {ins cs : Rs} {L : List Ins4} {rk : Nat} {r : Rs}

theorem s32_0 (hr : regs = (rk : Int)) (hs : rk < 4611686018427387904) (h : Goes step32 (.h2 (rowsF rk fun _ => -1) (L.map insR) (L.length : Int) 0) r) :
    ∀ (m i : Nat), i + m = rk → Goes step32 (.h0 (rowsF rk fun j => if j < i then -1 else 0) (rk : Int) (i : Int) regs slots ins cs (L.map insR)) r
  | 0, i, hi => by
    have e : rowsF rk (fun j => if j < i then -1 else 0) = rowsF rk fun _ => -1 := rowsF_congr fun j hj => by rw [if_pos (by omega)]
    rw [e]
    refine h.rec0 fun k rec => ?_
    show t32_h0 k rec _ _ _ _ _ _ _ _ = _
    unfold t32_h0
    have hlt : decide ((i : Int) < (rk : Int)) = false := by simp; omega
    rw [hlt, cond_false, List.length_map]
  | m + 1, i, hi => by
    have ih := s32_0 hr hs h m (i + 1) (by omega)
    have e : setRow (rowsF rk fun j => if j < i then -1 else 0) i 0 (ic (-1)) = rowsF rk fun j => if j < i + 1 then -1 else 0 := by
      rw [rowsF_set (by omega)]
      apply rowsF_congr
      intro j _
      by_cases hj : j = i
      · rw [if_pos hj, if_pos (by omega)]
      · rw [if_neg hj]
        by_cases h2 : j < i
        · rw [if_pos h2, if_pos (by omega)]
        · rw [if_neg h2, if_neg (by omega)]
    refine Goes.rec0 (s' := .h1 (setRow (rowsF rk fun j => if j < i then -1 else 0) i 0 (ic (-1))) (rk : Int) (i : Int) regs slots ins cs (L.map insR)) ?_ (fun k rec => ?_)
    · rw [e]
      refine ih.rec0 fun k rec => ?_
      show rec (.h0 _ _ (IntKind.i64.wrap ((i : Int) + 1)) _ _ _ _ _) = _
      rw [wrap1 i (by omega)]
    · show t32_h0 k rec _ _ _ _ _ _ _ _ = _
      unfold t32_h0
      have hlt : decide ((i : Int) < (rk : Int)) = true := by simp; omega
      rw [hlt, cond_true, ixR_at (rowsF_at (by omega)), un_one, Int.toNat_natCast]

theorem s32_3 {i : Nat} {Q : Rs} {q : Int} (hs : i < 4611686018427387904) (all : List Int) (hall : all.length < 100) (hin : ∀ a ∈ all, 0 ≤ a ∧ a < (rk : Int)) :
    ∀ (rest done : List Int) (f : Nat → Int), all = done ++ rest → Goes step32 (.h6 (rowsF rk fun j => if (j : Int) ∈ rest then (i : Int) else f j) Q q (i : Int)) r →
      Goes step32 (.h3 (rowsF rk f) (i : Int) Q q (i : Int) (all.map oneR) ((all.map oneR).length : Int) (done.length : Int)) r
  | [], done, f, e, h => by
    have e2 : rowsF rk (fun j => if (j : Int) ∈ ([] : List Int) then (i : Int) else f j) = rowsF rk f := rowsF_congr fun j _ => by simp
    rw [e2] at h
    refine h.rec0 fun k rec => ?_
    show t32_h3 k rec _ _ _ _ _ _ _ _ = _
    unfold t32_h3
    have hlt : decide ((done.length : Int) < ((all.map oneR).length : Int)) = false := by rw [e]; simp
    rw [hlt, cond_false]
  | a :: rest, done, f, e, h => by
    obtain ⟨ha0, ha1⟩ := hin a (by rw [e]; simp)
    obtain ⟨an, rfl⟩ : ∃ an : Nat, a = (an : Int) := ⟨a.toNat, by omega⟩
    have hlt : decide ((done.length : Int) < ((all.map oneR).length : Int)) = true := by rw [e]; simp; omega
    have hat : (all.map oneR)[done.length]? = some (oneR (an : Int)) := by rw [e]; simp
    have e1 : all = (done ++ [(an : Int)]) ++ rest := by rw [e]; simp
    have ih := s32_3 (Q := Q) (q := q) hs all hall hin rest (done ++ [(an : Int)]) (fun j => if j = an then (i : Int) else f j) e1 (by
      have e3 : rowsF rk (fun j => if (j : Int) ∈ rest then (i : Int) else if j = an then (i : Int) else f j) = rowsF rk (fun j => if (j : Int) ∈ (an : Int) :: rest then (i : Int) else f j) := by
        apply rowsF_congr
        intro j _
        by_cases h1 : j = an
        · subst h1; simp
        · have : ¬ (j : Int) = (an : Int) := by omega
          simp [this, h1]
      rw [e3]
      exact h)
    refine Goes.rec0 (s' := .h5 (setRow (rowsF rk f) an 0 (ic (i : Int))) (i : Int) Q q (i : Int) (all.map oneR) ((all.map oneR).length : Int) (done.length : Int)) ?_ (fun k rec => ?_)
    · rw [rowsF_set (by omega)]
      have hl : ((done ++ [(an : Int)]).length : Int) = ((done.length + 1 : Nat) : Int) := by simp
      rw [hl] at ih
      refine ih.rec0 fun k rec => ?_
      show rec (.h3 _ _ _ _ _ _ _ (IntKind.i64.wrap ((done.length : Int) + 1))) = _
      have hd : done.length < 100 := by have := congrArg List.length e; simp at this; omega
      rw [wrap1 _ (by omega)]
    · show t32_h3 k rec _ _ _ _ _ _ _ _ = _
      unfold t32_h3
      rw [hlt, cond_true, ixR_at hat, un_one, ixR_at (rowsF_at (by omega)), un_one, Int.toNat_natCast]

theorem reads_len (x : Ins4) : (reads x).length < 100 := by unfold reads; split <;> (try split) <;> simp

theorem s32_2 (hin : InR L rk) (hs : L.length < 4611686018427387904) :
    ∀ (m i : Nat), i + m = L.length → Goes step32 (.h2 (rowsF rk fun j => lastIn L j i) (L.map insR) (L.length : Int) (i : Int)) (rowsF rk fun j => lastIn L j L.length)
  | 0, i, hi => by
    have hi' : i = L.length := by omega
    subst hi'
    refine Goes.fin0 fun k rec => ?_
    show t32_h2 k rec _ _ _ _ = _
    unfold t32_h2
    have hlt : decide ((L.length : Int) < (L.length : Int)) = false := by simp
    rw [hlt, cond_false]
  | m + 1, i, hi => by
    have hx : L[i]? = some (L[i]'(by omega)) := List.getElem?_eq_getElem _
    generalize L[i]'(by omega) = x at hx
    have ih := s32_2 hin hs m (i + 1) (by omega)
    have hlt : decide ((i : Int) < (L.length : Int)) = true := by simp; omega
    have nx : Goes step32 (.h6 (rowsF rk fun j => lastIn L j (i + 1)) (L.map insR) (L.length : Int) (i : Int)) (rowsF rk fun j => lastIn L j L.length) := by
      refine ih.rec0 fun k rec => ?_
      show rec (.h2 _ _ _ (IntKind.i64.wrap ((i : Int) + 1))) = _
      rw [wrap1 i (by omega)]
    have el : ∀ j, lastIn L j (i + 1) = if (j : Int) ∈ reads x then (i : Int) else lastIn L j i := fun j => by simp only [lastIn, hx]
    obtain ⟨N, hN⟩ := g34_reads x
    have open1 : ∀ k (rec : S32 → Option R32), step32 k rec (.h2 (rowsF rk fun j => lastIn L j i) (L.map insR) (L.length : Int) (i : Int)) = t32_h2 k rec (rowsF rk fun j => lastIn L j i) (L.map insR) (L.length : Int) (i : Int) := fun _ _ => rfl
    by_cases hc : x.op = 52 ∨ nOps x.op ≠ 0
    · rw [if_pos hc] at hN
      refine Goes.rec (s' := .h3 (rowsF rk fun j => lastIn L j i) (i : Int) (L.map insR) (L.length : Int) (i : Int) ((reads x).map oneR) (((reads x).map oneR).length : Int) (([] : List Int).length : Int)) ?_ ⟨N, fun k hk rec => ?_⟩
      · refine s32_3 (by omega) (reads x) (reads_len x) (hin i x hx) (reads x) [] _ rfl ?_
        rw [← rowsF_congr (fun j _ => el j)]
        exact nx
      · rw [open1]; unfold t32_h2
        rw [hlt, cond_true, ixR_at (map_at hx), un_ins, show g34 k x.op x.dst x.a x.b = _ from hN k hk]
        rfl
    · rw [if_neg hc] at hN
      have hre : reads x = [] := by
        have h1 : x.op ≠ 52 := fun h => hc (.inl h)
        have h2 : nOps x.op = 0 := by
          by_cases h2 : nOps x.op = 0
          · exact h2
          · exact absurd (.inr h2) hc
        simp [reads, h1, h2]
      refine Goes.rec (s' := .h4 (rowsF rk fun j => lastIn L j i) (i : Int) (L.map insR) (L.length : Int) (i : Int) 0 0) ?_ ⟨N, fun k hk rec => ?_⟩
      · have e2 : (rowsF rk fun j => lastIn L j i) = rowsF rk fun j => lastIn L j (i + 1) := rowsF_congr fun j _ => by rw [el, hre]; simp
        rw [e2]
        exact nx.rec0 fun k rec => rfl
      · rw [open1]; unfold t32_h2
        rw [hlt, cond_true, ixR_at (map_at hx), un_ins, show g34 k x.op x.dst x.a x.b = _ from hN k hk]
        rfl

theorem g32_last (hr : regs = (rk : Int)) (hin : InR L rk) (hs : L.length < 4611686018427387904) (hk : rk < 1099511627776) : Tot (fun k => g32 k regs slots ins cs (L.map insR)) (rowsF rk fun j => lastIn L j L.length) := by
  show Goes step32 (.e regs slots ins cs (L.map insR)) _
  have h2 := s32_2 hin hs L.length 0 (by omega)
  have e0 : (rowsF rk fun j => lastIn L j 0) = rowsF rk fun _ => -1 := rfl
  rw [e0] at h2
  have h0 := s32_0 (regs := regs) (slots := slots) (ins := ins) (cs := cs) hr (by omega) h2 rk 0 (by omega)
  have e1 : rowsF rk (fun j => if j < 0 then -1 else 0) = List.replicate rk [ic 0] := by
    rw [rowsF_congr (g := fun _ => 0) (fun j _ => by simp)]
    unfold rowsF
    rw [List.map_const']
    simp [oneR]
  rw [e1] at h0
  refine h0.rec0 fun k rec => ?_
  show t32_e k rec regs slots ins cs (L.map insR) = _
  unfold t32_e
  have mk : mkOk regs regs 8 1 = true := by
    unfold mkOk lim
    simp only [Bool.and_eq_true, decide_eq_true_eq]
    rw [hr]
    omega
  rw [mk, hr]
  simp [gd]
end

/-! the counts -/
def cntF (F : Nat → Int) (i : Nat) : Nat → Int
  | 0 => 0
  | m + 1 => cntF F i m + if F m > (i : Int) then 1 else 0
theorem cntF_le (F : Nat → Int) (i : Nat) : ∀ m, 0 ≤ cntF F i m ∧ cntF F i m ≤ m
  | 0 => by simp [cntF]
  | m + 1 => by
    have := cntF_le F i m
    simp only [cntF]
    split <;> omega
def widthF (c : Nat → Int) : Nat → Int
  | 0 => 0
  | i + 1 => if c i > widthF c i then c i else widthF c i

theorem s17_1 {F : Nat → Int} {rk i : Nat} {most r : Int} (hi : i < rk) (hk : rk < 1099511627776) (h : Goes step17 (.h0 (rowsF rk F) (if 1 + cntF F i i > most then 1 + cntF F i i else most) (rk : Int) ((i + 1 : Nat) : Int)) r) :
    ∀ (m j : Nat), j + m = i → Goes step17 (.h1 (rowsF rk F) most (i : Int) (1 + cntF F i j) (rk : Int) (i : Int) (i : Int) (j : Int)) r
  | 0, j, hj => by
    have hj' : j = i := by omega
    subst hj'
    refine h.rec0 fun k rec => ?_
    show t17_h1 k rec _ _ _ _ _ _ _ _ = _
    unfold t17_h1
    have hlt : decide ((j : Int) < (j : Int)) = false := by simp
    rw [hlt, cond_false, wrap1 j (by omega)]
  | m + 1, j, hj => by
    have ih := s17_1 hi hk h m (j + 1) (by omega)
    have hc := cntF_le F i j
    have nx : ∀ n, n = 1 + cntF F i (j + 1) → Goes step17 (.h2 (rowsF rk F) most (i : Int) n (rk : Int) (i : Int) (i : Int) (j : Int)) r := by
      intro n hn
      rw [hn]
      refine ih.rec0 fun k rec => ?_
      show rec (.h1 _ _ _ _ _ _ _ (IntKind.i64.wrap ((j : Int) + 1))) = _
      rw [wrap1 j (by omega)]
    have open1 : ∀ k (rec : S17 → Option R17), step17 k rec (.h1 (rowsF rk F) most (i : Int) (1 + cntF F i j) (rk : Int) (i : Int) (i : Int) (j : Int)) = t17_h1 k rec (rowsF rk F) most (i : Int) (1 + cntF F i j) (rk : Int) (i : Int) (i : Int) (j : Int) := fun _ _ => rfl
    have hlt : decide ((j : Int) < (i : Int)) = true := by simp; omega
    by_cases hg : F j > (i : Int)
    · refine (nx (IntKind.i64.wrap (1 + cntF F i j + 1)) ?_).rec0 fun k rec => ?_
      · rw [IntKind.wrap_i64]; simp only [cntF, if_pos hg]; omega
      · rw [open1]; unfold t17_h1
        rw [hlt, cond_true, ixR_at (rowsF_at (by omega)), un_one]
        simp [hg]
    · refine (nx (1 + cntF F i j) ?_).rec0 fun k rec => ?_
      · simp only [cntF, if_neg hg]; omega
      · rw [open1]; unfold t17_h1
        rw [hlt, cond_true, ixR_at (rowsF_at (by omega)), un_one]
        simp [hg]

theorem s17_0 {F : Nat → Int} {rk : Nat} (hk : rk < 1099511627776) :
    ∀ (m i : Nat), i + m = rk → Goes step17 (.h0 (rowsF rk F) (widthF (fun i => 1 + cntF F i i) i) (rk : Int) (i : Int)) (widthF (fun i => 1 + cntF F i i) rk)
  | 0, i, hi => by
    have hi' : i = rk := by omega
    subst hi'
    refine Goes.fin0 fun k rec => ?_
    show t17_h0 k rec _ _ _ _ = _
    unfold t17_h0
    have hlt : decide ((i : Int) < (i : Int)) = false := by simp
    rw [hlt, cond_false]
  | m + 1, i, hi => by
    have ih := s17_0 (F := F) hk m (i + 1) (by omega)
    have := s17_1 (F := F) (rk := rk) (i := i) (most := widthF (fun i => 1 + cntF F i i) i) (by omega) hk ih i 0 (by omega)
    refine this.rec0 fun k rec => ?_
    show t17_h0 k rec _ _ _ _ = _
    unfold t17_h0
    have hlt : decide ((i : Int) < (rk : Int)) = true := by simp; omega
    rw [hlt, cond_true]
    rfl

theorem g17_width {regs slots : Int} {ins cs : Rs} {L : List Ins4} {rk : Nat} (hr : regs = (rk : Int)) (hp : PlainP regs slots ins.length cs.length L) (hs : L.length < 4611686018427387904) (hk : rk < 1099511627776) :
    Tot (fun k => g17 k regs slots ins cs (L.map insR)) (widthF (fun i => 1 + cntF (fun j => lastIn L j L.length) i i) rk) := by
  show Goes step17 (.e regs slots ins cs (L.map insR)) _
  obtain ⟨N1, h15⟩ := g15_plain (slots := slots) (ins := ins) (cs := cs) (L := L) (regs := regs) (by omega) hs (b := true) (by simp [hp])
  obtain ⟨N2, h32⟩ := g32_last (slots := slots) (ins := ins) (cs := cs) hr (inR_of hp hr) hs hk
  refine (s17_0 (F := fun j => lastIn L j L.length) hk rk 0 (by omega)).rec ⟨max N1 N2, fun k hk' rec => ?_⟩
  show t17_e k rec regs slots ins cs (L.map insR) = _
  unfold t17_e
  have a1 : g15 k regs slots ins cs (L.map insR) = some true := h15 k (by omega)
  have a2 : g32 k regs slots ins cs (L.map insR) = some (rowsF rk fun j => lastIn L j L.length) := h32 k (by omega)
  rw [hr] at a1 a2
  rw [hr, a1]
  simp only [Option.bind_some, Bool.not_true, cond_false, a2]
  rfl
theorem g17_no {regs slots : Int} {ins cs : Rs} {L : List Ins4} (hr : -9223372036854775808 ≤ regs ∧ regs ≤ 9223372036854775807) (hp : ¬ PlainP regs slots ins.length cs.length L) (hs : L.length < 4611686018427387904) :
    Tot (fun k => g17 k regs slots ins cs (L.map insR)) 0 := by
  show Goes step17 (.e regs slots ins cs (L.map insR)) _
  obtain ⟨N1, h15⟩ := g15_plain (slots := slots) (ins := ins) (cs := cs) (L := L) (regs := regs) hr hs (b := false) (by simp [hp])
  refine Goes.fin ⟨N1, fun k hk' rec => ?_⟩
  show t17_e k rec regs slots ins cs (L.map insR) = _
  unfold t17_e
  have a1 : g15 k regs slots ins cs (L.map insR) = some false := h15 k (by omega)
  rw [a1]
  rfl
end Ab
end Go.Proofs.Ytebmcaceklbopaa

/-
  How wide code is, by the document's answer; and that this is the program's number.
-/
namespace Go.Proofs.Ytebmcaceklbopaa
namespace Ab

/-- is a register alive behind an instruction, by the first so many instructions? -/
def aliveB (L : List Ins4) (q i : Nat) : Nat → Bool
  | 0 => decide (q = i)
  | k + 1 => aliveB L q i k || (decide (i < k) && match L[k]? with | some x => decide ((q : Int) ∈ reads x) | none => false)
theorem aliveB_start (L : List Ins4) (q i : Nat) : ∀ k, k ≤ i + 1 → aliveB L q i k = decide (q = i)
  | 0, _ => rfl
  | k + 1, h => by
    have : decide (i < k) = false := by simp; omega
    simp only [aliveB, aliveB_start L q i k (by omega), this, Bool.false_and, Bool.or_false]
def cntA (L : List Ins4) (i : Nat) : Nat → Int
  | 0 => 0
  | m + 1 => cntA L i m + if aliveB L m i L.length then 1 else 0
theorem cntA_le (L : List Ins4) (i : Nat) : ∀ m, 0 ≤ cntA L i m ∧ cntA L i m ≤ m
  | 0 => by simp [cntA]
  | m + 1 => by
    have := cntA_le L i m
    simp only [cntA]
    split <;> omega

section
variable {regs slots : Int} {ins cs : Rs} {L : List Ins4} {rk : Nat} {r most n : Int} {i q : Nat}

theorem s18_3 {k8 : Nat} (hk8 : k8 < 4611686018427387904) (all : List Int) (hall : all.length < 100) :
    ∀ (rest done : List Int) (al : Bool), all = done ++ rest → Goes step18 (.h7 most (i : Int) n (q : Int) (al || decide ((q : Int) ∈ rest)) (k8 : Int) regs slots ins cs (L.map insR)) r →
      Goes step18 (.h3 most (i : Int) n (q : Int) al (k8 : Int) (all.map oneR) ((all.map oneR).length : Int) (done.length : Int) regs slots ins cs (L.map insR)) r ∧
      Goes step18 (.h4 most (i : Int) n (q : Int) al (k8 : Int) (all.map oneR) ((all.map oneR).length : Int) (done.length : Int) regs slots ins cs (L.map insR)) r
  | [], done, al, e, h => by
    have hlt : decide ((done.length : Int) < ((all.map oneR).length : Int)) = false := by rw [e]; simp
    have e2 : (al || decide ((q : Int) ∈ ([] : List Int))) = al := by simp
    rw [e2] at h
    constructor
    · refine h.rec0 fun k rec => ?_
      show t18_h3 k rec _ _ _ _ _ _ _ _ _ _ _ _ _ _ = _
      unfold t18_h3
      rw [hlt, cond_false]
    · refine h.rec0 fun k rec => ?_
      show t18_h4 k rec _ _ _ _ _ _ _ _ _ _ _ _ _ _ = _
      unfold t18_h4
      rw [hlt, cond_false]
  | a :: rest, done, al, e, h => by
    have hlt : decide ((done.length : Int) < ((all.map oneR).length : Int)) = true := by rw [e]; simp; omega
    have hat : (all.map oneR)[done.length]? = some (oneR a) := by rw [e]; simp
    have e1 : all = (done ++ [a]) ++ rest := by rw [e]; simp
    have eb : (al || decide ((q : Int) ∈ a :: rest)) = ((al || (a == (q : Int))) || decide ((q : Int) ∈ rest)) := by
      by_cases h1 : a = (q : Int)
      · subst h1; simp
      · have : ¬ (q : Int) = a := fun h => h1 h.symm
        have h3 : (a == (q : Int)) = false := by simpa using h1
        simp [h3, this]
    rw [eb] at h
    have ih := s18_3 hk8 all hall rest (done ++ [a]) (al || (a == (q : Int))) e1 h
    have hl : ((done ++ [a]).length : Int) = ((done.length + 1 : Nat) : Int) := by simp
    rw [hl] at ih
    have hd : done.length < 100 := by have := congrArg List.length e; simp at this; omega
    constructor
    · refine Goes.rec0 (s' := .h6 most (i : Int) n (q : Int) (al || (a == (q : Int))) (k8 : Int) (all.map oneR) ((all.map oneR).length : Int) (done.length : Int) regs slots ins cs (L.map insR)) (ih.1.rec0 fun k rec => ?_) fun k rec => ?_
      · show rec (.h3 _ _ _ _ _ _ _ _ (IntKind.i64.wrap ((done.length : Int) + 1)) _ _ _ _ _) = _
        rw [wrap1 _ (by omega)]
      · show t18_h3 k rec _ _ _ _ _ _ _ _ _ _ _ _ _ _ = _
        unfold t18_h3
        rw [hlt, cond_true, ixR_at hat, un_one]
        cases al <;> simp
    · refine Goes.rec0 (s' := .h8 most (i : Int) n (q : Int) (al || (a == (q : Int))) (k8 : Int) (all.map oneR) ((all.map oneR).length : Int) (done.length : Int) regs slots ins cs (L.map insR)) (ih.2.rec0 fun k rec => ?_) fun k rec => ?_
      · show rec (.h4 _ _ _ _ _ _ _ _ (IntKind.i64.wrap ((done.length : Int) + 1)) _ _ _ _ _) = _
        rw [wrap1 _ (by omega)]
      · show t18_h4 k rec _ _ _ _ _ _ _ _ _ _ _ _ _ _ = _
        unfold t18_h4
        rw [hlt, cond_true, ixR_at hat, un_one]
        cases al <;> simp

theorem s18_2 (hs : L.length < 1099511627776) (hn : 0 ≤ n ∧ n < 1099511627776)
    (h : Goes step18 (.h5 most (i : Int) (n + if aliveB L q i L.length then 1 else 0) (q : Int) regs slots ins cs (L.map insR)) r) :
    ∀ (m k8 : Nat), k8 + m = L.length → i < k8 → Goes step18 (.h2 most (i : Int) n (q : Int) (aliveB L q i k8) (k8 : Int) regs slots ins cs (L.map insR)) r
  | 0, k8, hk, hik => by
    have hk' : k8 = L.length := by omega
    subst hk'
    have open1 : ∀ k (rec : S18 → Option R18), step18 k rec (.h2 most (i : Int) n (q : Int) (aliveB L q i L.length) (L.length : Int) regs slots ins cs (L.map insR)) = t18_h2 k rec most (i : Int) n (q : Int) (aliveB L q i L.length) (L.length : Int) regs slots ins cs (L.map insR) := fun _ _ => rfl
    have hlt : decide ((L.length : Int) < ((L.map insR).length : Int)) = false := by simp
    have hw : IntKind.i64.wrap (n + 1) = n + 1 := by rw [IntKind.wrap_i64]; omega
    refine h.rec0 fun k rec => ?_
    rw [open1]; unfold t18_h2
    rw [hlt, cond_false, hw]
    cases aliveB L q i L.length <;> simp
  | m + 1, k8, hk, hik => by
    have hx : L[k8]? = some (L[k8]'(by omega)) := List.getElem?_eq_getElem _
    generalize L[k8]'(by omega) = x at hx
    have ih := s18_2 hs hn h m (k8 + 1) (by omega) (by omega)
    have ea : aliveB L q i (k8 + 1) = (aliveB L q i k8 || decide ((q : Int) ∈ reads x)) := by
      have : decide (i < k8) = true := by simpa using hik
      simp only [aliveB, hx, this, Bool.true_and]
    have nx : Goes step18 (.h7 most (i : Int) n (q : Int) (aliveB L q i k8 || decide ((q : Int) ∈ reads x)) (k8 : Int) regs slots ins cs (L.map insR)) r := by
      rw [← ea]
      refine ih.rec0 fun k rec => ?_
      show rec (.h2 _ _ _ _ _ (IntKind.i64.wrap ((k8 : Int) + 1)) _ _ _ _ _) = _
      rw [wrap1 _ (by omega)]
    obtain ⟨N, hN⟩ := g33_reads x
    have hlt : decide ((k8 : Int) < ((L.map insR).length : Int)) = true := by rw [List.length_map]; simp; omega
    have both := s18_3 (regs := regs) (slots := slots) (ins := ins) (cs := cs) (L := L) (k8 := k8) (by omega) (reads x) (reads_len x) (reads x) [] (aliveB L q i k8) rfl nx
    have open1 : ∀ k (rec : S18 → Option R18), step18 k rec (.h2 most (i : Int) n (q : Int) (aliveB L q i k8) (k8 : Int) regs slots ins cs (L.map insR)) = t18_h2 k rec most (i : Int) n (q : Int) (aliveB L q i k8) (k8 : Int) regs slots ins cs (L.map insR) := fun _ _ => rfl
    by_cases hc : x.op = 52
    · rw [if_pos hc] at hN
      refine both.1.rec ⟨N, fun k hk rec => ?_⟩
      rw [open1]; unfold t18_h2
      rw [hlt, cond_true, ixR_at (map_at hx), un_ins, show g33 k x.op x.dst x.a x.b = _ from hN k hk]
      rfl
    · rw [if_neg hc] at hN
      refine both.2.rec ⟨N, fun k hk rec => ?_⟩
      rw [open1]; unfold t18_h2
      rw [hlt, cond_true, ixR_at (map_at hx), un_ins, show g33 k x.op x.dst x.a x.b = _ from hN k hk]
      rfl

theorem s18_1 (hs : L.length < 1099511627776) (hi : i < L.length)
    (h : Goes step18 (.h0 (if cntA L i (i + 1) > most then cntA L i (i + 1) else most) ((i + 1 : Nat) : Int) regs slots ins cs (L.map insR)) r) :
    ∀ (m j : Nat), j + m = i + 1 → Goes step18 (.h1 most (i : Int) (cntA L i j) (j : Int) regs slots ins cs (L.map insR)) r
  | 0, j, hj => by
    have hj' : j = i + 1 := by omega
    subst hj'
    refine h.rec0 fun k rec => ?_
    show t18_h1 k rec _ _ _ _ _ _ _ _ _ = _
    unfold t18_h1
    have hlt : decide (((i + 1 : Nat) : Int) ≤ (i : Int)) = false := by simp; omega
    rw [hlt, cond_false, wrap1 i (by omega)]
  | m + 1, j, hj => by
    have ih := s18_1 hs hi h m (j + 1) (by omega)
    have hc := cntA_le L i j
    have nx : Goes step18 (.h5 most (i : Int) (cntA L i j + if aliveB L j i L.length then 1 else 0) (j : Int) regs slots ins cs (L.map insR)) r := by
      refine ih.rec0 fun k rec => ?_
      show rec (.h1 _ _ _ (IntKind.i64.wrap ((j : Int) + 1)) _ _ _ _ _) = _
      rw [wrap1 _ (by omega)]
      rfl
    have := s18_2 (regs := regs) (slots := slots) (ins := ins) (cs := cs) (q := j) (n := cntA L i j) hs (by omega) nx (L.length - (i + 1)) (i + 1) (by omega) (by omega)
    refine this.rec0 fun k rec => ?_
    show t18_h1 k rec _ _ _ _ _ _ _ _ _ = _
    unfold t18_h1
    have hlt : decide ((j : Int) ≤ (i : Int)) = true := by simp; omega
    have eb : aliveB L j i (i + 1) = ((j : Int) == (i : Int)) := by
      rw [aliveB_start L j i (i + 1) (by omega)]
      by_cases hji : j = i
      · subst hji; simp
      · have : ¬ (j : Int) = (i : Int) := by omega
        simp [hji, this]
    rw [hlt, cond_true, wrap1 i (by omega), eb]

theorem s18_0 (hs : L.length < 1099511627776) (hlen : L.length = rk + 1) (hr : regs = (rk : Int)) :
    ∀ (m i : Nat), i + m = rk → Goes step18 (.h0 (widthF (fun i => cntA L i (i + 1)) i) (i : Int) regs slots ins cs (L.map insR)) (widthF (fun i => cntA L i (i + 1)) rk)
  | 0, i, hi => by
    have hi' : i = rk := by omega
    subst hi'
    refine Goes.fin0 fun k rec => ?_
    show t18_h0 k rec _ _ _ _ _ _ _ = _
    unfold t18_h0
    have hlt : decide ((i : Int) < regs) = false := by rw [hr]; simp
    rw [hlt, cond_false]
  | m + 1, i, hi => by
    have ih := s18_0 hs hlen hr m (i + 1) (by omega)
    have := s18_1 (regs := regs) (slots := slots) (ins := ins) (cs := cs) (i := i) (most := widthF (fun i => cntA L i (i + 1)) i) hs (by omega) ih (i + 1) 0 (by omega)
    refine this.rec0 fun k rec => ?_
    show t18_h0 k rec _ _ _ _ _ _ _ = _
    unfold t18_h0
    have hlt : decide ((i : Int) < regs) = true := by rw [hr]; simp; omega
    rw [hlt, cond_true]
    rfl

theorem g18_width (hr : regs = (rk : Int)) (hp : PlainP regs slots ins.length cs.length L) (hs : L.length < 1099511627776) :
    Tot (fun k => g18 k regs slots ins cs (L.map insR)) (widthF (fun i => cntA L i (i + 1)) rk) := by
  show Goes step18 (.e regs slots ins cs (L.map insR)) _
  have hl := hp.2.2.1
  obtain ⟨N1, h16⟩ := g16_plain (slots := slots) (ins := ins) (cs := cs) (L := L) (regs := regs) (by omega) (by omega) (b := true) (by simp [hp])
  refine (s18_0 (slots := slots) (ins := ins) (cs := cs) hs (by omega) hr rk 0 (by omega)).rec ⟨N1, fun k hk' rec => ?_⟩
  show t18_e k rec regs slots ins cs (L.map insR) = _
  unfold t18_e
  have a1 : g16 k regs slots ins cs (L.map insR) = some true := h16 k (by omega)
  rw [a1]
  rfl
theorem g18_no (hr : -9223372036854775808 ≤ regs ∧ regs ≤ 9223372036854775807) (hp : ¬ PlainP regs slots ins.length cs.length L) (hs : L.length < 4611686018427387904) :
    Tot (fun k => g18 k regs slots ins cs (L.map insR)) 0 := by
  show Goes step18 (.e regs slots ins cs (L.map insR)) _
  obtain ⟨N1, h16⟩ := g16_plain (slots := slots) (ins := ins) (cs := cs) (L := L) (regs := regs) hr hs (b := false) (by simp [hp])
  refine Goes.fin ⟨N1, fun k hk' rec => ?_⟩
  show t18_e k rec regs slots ins cs (L.map insR) = _
  unfold t18_e
  have a1 : g16 k regs slots ins cs (L.map insR) = some false := h16 k (by omega)
  rw [a1]
  rfl
end

theorem last_alive (L : List Ins4) {q i : Nat} (hq : q ≠ i) : ∀ k, aliveB L q i k = decide (lastIn L q k > (i : Int))
  | 0 => by simp [aliveB, lastIn, hq]
  | k + 1 => by
    simp only [aliveB, lastIn, last_alive L hq k]
    have hx : L[k]? = none ∨ ∃ x, L[k]? = some x := by cases L[k]? <;> simp
    rcases hx with hx | ⟨x, hx⟩
    · simp [hx]
    · simp only [hx]
      by_cases hm : (q : Int) ∈ reads x
      · rw [if_pos hm]
        by_cases hik : i < k
        · have : (k : Int) > (i : Int) := by omega
          simp [hm, hik]
        · have h1 : ¬ (k : Int) > (i : Int) := by omega
          have h2 : ¬ lastIn L q k > (i : Int) := by
            have : ∀ k, lastIn L q k < (k : Int) := by
              intro k
              induction k with
              | zero => simp [lastIn]
              | succ k ih =>
                simp only [lastIn]
                split
                · split <;> omega
                · omega
            have := this k
            omega
          simp [hik, h2, h1]
      · rw [if_neg hm]
        simp [hm]

theorem cnt_same (L : List Ins4) (i : Nat) : ∀ m, m ≤ i → cntA L i m = cntF (fun j => lastIn L j L.length) i m
  | 0, _ => rfl
  | m + 1, h => by
    simp only [cntA, cntF, cnt_same L i m (by omega)]
    rw [last_alive L (by omega : m ≠ i)]
    simp only [decide_eq_true_eq]
theorem width_same (L : List Ins4) (i : Nat) : cntA L i (i + 1) = 1 + cntF (fun j => lastIn L j L.length) i i := by
  have ha : aliveB L i i L.length = true := by
    have : ∀ k, aliveB L i i k = true := by
      intro k
      induction k with
      | zero => simp [aliveB]
      | succ k ih => simp [aliveB, ih]
    exact this _
  simp only [cntA, ha, if_true, cnt_same L i i (Nat.le_refl _)]
  omega

theorem g4_true {regs slots : Int} {ins cs : Rs} {L : List Ins4} (hr : -9223372036854775808 ≤ regs ∧ regs ≤ 9223372036854775807) (hs : L.length < 1099511627776) :
    Tot (fun k => g4 k regs slots ins cs (L.map insR)) true := by
  show Goes step4 (.e regs slots ins cs (L.map insR)) _
  by_cases hlong : (L.length : Int) > 120
  · refine Goes.fin0 fun k rec => ?_
    show t4_e k rec regs slots ins cs (L.map insR) = _
    unfold t4_e
    rw [List.length_map, decide_eq_true hlong]
    rfl
  · have fin : ∀ (b : Bool) (v : Int), Tot (fun k => g15 k regs slots ins cs (L.map insR)) b → Tot (fun k => g16 k regs slots ins cs (L.map insR)) b → Tot (fun k => g17 k regs slots ins cs (L.map insR)) v → Tot (fun k => g18 k regs slots ins cs (L.map insR)) v →
        Goes step4 (.e regs slots ins cs (L.map insR)) true := by
      rintro b v ⟨N1, h1⟩ ⟨N2, h2⟩ ⟨N3, h3⟩ ⟨N4, h4⟩
      refine Goes.fin ⟨max (max N1 N2) (max N3 N4), fun k hk rec => ?_⟩
      show t4_e k rec regs slots ins cs (L.map insR) = _
      unfold t4_e
      have a1 : g15 k regs slots ins cs (L.map insR) = some b := h1 k (by omega)
      have a2 : g16 k regs slots ins cs (L.map insR) = some b := h2 k (by omega)
      have a3 : g17 k regs slots ins cs (L.map insR) = some v := h3 k (by omega)
      have a4 : g18 k regs slots ins cs (L.map insR) = some v := h4 k (by omega)
      rw [List.length_map, decide_eq_false hlong, a1, a2, a3, a4]
      simp
    by_cases hp : PlainP regs slots ins.length cs.length L
    · obtain ⟨rk, hrk⟩ : ∃ rk : Nat, regs = (rk : Int) := ⟨regs.toNat, by have := hp.2.1; omega⟩
      have hl := hp.2.2.1
      refine fin true _ (g15_plain hr (by omega) (by simp [hp])) (g16_plain hr (by omega) (by simp [hp])) (g17_width hrk hp (by omega) (by omega)) ?_
      have e : (fun i => 1 + cntF (fun j => lastIn L j L.length) i i) = fun i => cntA L i (i + 1) := funext fun i => (width_same L i).symm
      rw [e]
      exact g18_width hrk hp hs
    · exact fin false 0 (g15_plain hr (by omega) (by simp [hp])) (g16_plain hr (by omega) (by simp [hp])) (g17_no hr hp (by omega)) (g18_no hr hp (by omega))
end Ab
end Go.Proofs.Ytebmcaceklbopaa


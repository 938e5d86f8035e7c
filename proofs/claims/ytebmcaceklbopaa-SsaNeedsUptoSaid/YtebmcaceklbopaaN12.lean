/-
  Whether code is plain: what the program tells.
-/
import Derived.Test.YtebmcaceklbopaaN11
set_option linter.unusedVariables false
set_option linter.unusedSimpArgs false
namespace Go.Proofs.Ytebmcaceklbopaa
namespace Ab

/-- is an instruction plain at its place? -/
def okI (x : Ins4) (i nI nC : Int) : Prop :=
  x.dst = i ∧ ((x.op = 50 ∧ 0 ≤ x.a ∧ x.a < nI ∧ x.b = 0) ∨ (x.op = 51 ∧ 0 ≤ x.a ∧ x.a < nC ∧ x.b = 0) ∨ (nOps x.op = 1 ∧ 0 ≤ x.a ∧ x.a < i ∧ x.b = 0) ∨ (nOps x.op = 2 ∧ 0 ≤ x.a ∧ x.a < i ∧ 0 ≤ x.b ∧ x.b < i))
def tellI (x : Ins4) (regs : Int) : Prop := x.op = 52 ∧ x.dst = 0 ∧ x.b = 0 ∧ 0 ≤ x.a ∧ x.a < regs
def PlainP (regs slots nI nC : Int) (L : List Ins4) : Prop :=
  slots = 0 ∧ 1 ≤ regs ∧ (L.length : Int) = regs + 1 ∧ (∀ (i : Nat) x, L[i]? = some x → (i : Int) < regs → okI x i nI nC) ∧ ∃ t, L[regs.toNat]? = some t ∧ tellI t regs

theorem nOps_50 : nOps 50 = 0 := rfl
theorem nOps_51 : nOps 51 = 0 := rfl

open Classical in
theorem g15_row {regs slots : Int} {ins cs l V : Rs} {n : Int} {i : Nat} {x : Ins4} {r : Bool} (hi : (i : Int) < n) (hV : V[i]? = some (insR x)) (hs : i < 4611686018427387904)
    (h : if okI x i ins.length cs.length then Goes step15 (.h1 V n ((i + 1 : Nat) : Int) regs slots ins cs l) r else r = false) : Goes step15 (.h1 V n (i : Int) regs slots ins cs l) r := by
  obtain ⟨N, hN⟩ := g30_nOps x.op
  have a0 : ∀ b : Bool, (b = true ↔ (x.op = 50 ∧ 0 ≤ x.a ∧ x.a < (ins.length : Int) ∧ x.b = 0) ∨ (x.op = 51 ∧ 0 ≤ x.a ∧ x.a < (cs.length : Int) ∧ x.b = 0) ∨ (nOps x.op = 1 ∧ 0 ≤ x.a ∧ x.a < (i : Int) ∧ x.b = 0) ∨ (nOps x.op = 2 ∧ 0 ≤ x.a ∧ x.a < (i : Int) ∧ 0 ≤ x.b ∧ x.b < (i : Int))) →
      Goes step15 (.h2 (i : Int) b V n (i : Int) x.op x.dst x.a x.b regs slots ins cs l) r := by
    intro b hb
    cases b with
    | false =>
      refine (Goes.fin0 (step := step15) (s := .h3 V n (i : Int) true regs slots ins cs l) fun k rec => ?_).rec0 (fun k rec => rfl)
      rw [if_neg] at h
      · rw [h]; rfl
      · rintro ⟨_, h2⟩
        have := hb.2 h2
        cases this
    | true =>
      by_cases hd : x.dst = (i : Int)
      · rw [if_pos ⟨hd, hb.1 rfl⟩] at h
        refine Goes.rec0 (s' := .h3 V n (i : Int) (x.dst != (i : Int)) regs slots ins cs l) ?_ (fun k rec => rfl)
        have e : (x.dst != (i : Int)) = false := by simp [hd]
        rw [e]
        refine h.rec0 fun k rec => ?_
        show rec (.h1 V n (IntKind.i64.wrap ((i : Int) + 1)) regs slots ins cs l) = _
        rw [wrap1 i hs]
      · rw [if_neg fun hh => hd hh.1] at h
        refine Goes.rec0 (s' := .h3 V n (i : Int) (x.dst != (i : Int)) regs slots ins cs l) ?_ (fun k rec => rfl)
        have e : (x.dst != (i : Int)) = true := by simp [hd]
        rw [e, h]
        exact Goes.fin0 fun k rec => rfl
  have hlt : decide ((i : Int) < n) = true := by simpa using hi
  have fin : ∀ (b : Bool), (b = true ↔ (x.op = 50 ∧ 0 ≤ x.a ∧ x.a < (ins.length : Int) ∧ x.b = 0) ∨ (x.op = 51 ∧ 0 ≤ x.a ∧ x.a < (cs.length : Int) ∧ x.b = 0) ∨ (nOps x.op = 1 ∧ 0 ≤ x.a ∧ x.a < (i : Int) ∧ x.b = 0) ∨ (nOps x.op = 2 ∧ 0 ≤ x.a ∧ x.a < (i : Int) ∧ 0 ≤ x.b ∧ x.b < (i : Int))) →
      (∀ k, N ≤ k → ∀ rec, step15 k rec (.h1 V n (i : Int) regs slots ins cs l) = rec (.h2 (i : Int) b V n (i : Int) x.op x.dst x.a x.b regs slots ins cs l)) → Goes step15 (.h1 V n (i : Int) regs slots ins cs l) r :=
    fun b hb e => (a0 b hb).rec ⟨N, e⟩
  have open1 : ∀ k (rec : S15 → Option R15), step15 k rec (.h1 V n (i : Int) regs slots ins cs l) = t15_h1 k rec V n (i : Int) regs slots ins cs l := fun _ _ => rfl
  by_cases h50 : x.op = 50
  · have e50 : (x.op == 50) = true := by simpa using h50
    have hn : nOps x.op = 0 := by rw [h50]; rfl
    by_cases h1 : 0 ≤ x.a
    · by_cases h2 : x.a < (ins.length : Int)
      · refine fin (x.b == 0) (by simp [h50, h1, h2, hn, nOps_50]) fun k hk rec => ?_
        rw [open1]; unfold t15_h1; rw [hlt, cond_true, ixR_at hV, un_ins]; simp [e50, h1, h2]
      · refine fin false (by simp [h50, h1, h2, hn, nOps_50]) fun k hk rec => ?_
        rw [open1]; unfold t15_h1; rw [hlt, cond_true, ixR_at hV, un_ins]; simp [e50, h1, h2]
    · refine fin false (by simp [h50, h1, hn, nOps_50]) fun k hk rec => ?_
      rw [open1]; unfold t15_h1; rw [hlt, cond_true, ixR_at hV, un_ins]; simp [e50, h1]
  · have e50 : (x.op == 50) = false := by simpa using h50
    by_cases h51 : x.op = 51
    · have e51 : (x.op == 51) = true := by simpa using h51
      have hn : nOps x.op = 0 := by rw [h51]; rfl
      by_cases h1 : 0 ≤ x.a
      · by_cases h2 : x.a < (cs.length : Int)
        · refine fin (x.b == 0) (by simp [h51, h1, h2, nOps_51]) fun k hk rec => ?_
          rw [open1]; unfold t15_h1; rw [hlt, cond_true, ixR_at hV, un_ins]; simp [e50, e51, h1, h2]
        · refine fin false (by simp [h51, h1, h2, nOps_51]) fun k hk rec => ?_
          rw [open1]; unfold t15_h1; rw [hlt, cond_true, ixR_at hV, un_ins]; simp [e50, e51, h1, h2]
      · refine fin false (by simp [h51, h1, nOps_51]) fun k hk rec => ?_
        rw [open1]; unfold t15_h1; rw [hlt, cond_true, ixR_at hV, un_ins]; simp [e50, e51, h1]
    · have e51 : (x.op == 51) = false := by simpa using h51
      have h30 : ∀ k, N ≤ k → g30 k x.op = some (nOps x.op) := hN
      rcases nOps_cases x.op with hn | hn | hn
      · refine fin false (by simp [h50, h51, hn]) fun k hk rec => ?_
        rw [open1]; unfold t15_h1; rw [hlt, cond_true, ixR_at hV, un_ins]; simp [e50, e51, h30 k hk, hn]
      · by_cases h1 : 0 ≤ x.a
        · by_cases h2 : x.a < (i : Int)
          · refine fin (x.b == 0) (by simp [h50, h51, h1, h2, hn]) fun k hk rec => ?_
            rw [open1]; unfold t15_h1; rw [hlt, cond_true, ixR_at hV, un_ins]; simp [e50, e51, h30 k hk, hn, h1, h2]
          · refine fin false (by simp [h50, h51, h1, h2, hn]) fun k hk rec => ?_
            rw [open1]; unfold t15_h1; rw [hlt, cond_true, ixR_at hV, un_ins]; simp [e50, e51, h30 k hk, hn, h1, h2]
        · refine fin false (by simp [h50, h51, h1, hn]) fun k hk rec => ?_
          rw [open1]; unfold t15_h1; rw [hlt, cond_true, ixR_at hV, un_ins]; simp [e50, e51, h30 k hk, hn, h1]
      · by_cases h1 : 0 ≤ x.a
        · by_cases h2 : x.a < (i : Int)
          · by_cases h3 : 0 ≤ x.b
            · refine fin (decide (x.b < (i : Int))) (by simp [h50, h51, h1, h2, h3, hn]) fun k hk rec => ?_
              rw [open1]; unfold t15_h1; rw [hlt, cond_true, ixR_at hV, un_ins]; simp [e50, e51, h30 k hk, hn, h1, h2, h3]
            · refine fin false (by simp [h50, h51, h1, h2, h3, hn]) fun k hk rec => ?_
              rw [open1]; unfold t15_h1; rw [hlt, cond_true, ixR_at hV, un_ins]; simp [e50, e51, h30 k hk, hn, h1, h2, h3]
          · refine fin false (by simp [h50, h51, h1, h2, hn]) fun k hk rec => ?_
            rw [open1]; unfold t15_h1; rw [hlt, cond_true, ixR_at hV, un_ins]; simp [e50, e51, h30 k hk, hn, h1, h2]
        · refine fin false (by simp [h50, h51, h1, hn]) fun k hk rec => ?_
          rw [open1]; unfold t15_h1; rw [hlt, cond_true, ixR_at hV, un_ins]; simp [e50, e51, h30 k hk, hn, h1]

theorem g15_end {regs slots : Int} {ins cs l V : Rs} {n : Int} {i : Nat} {t : Ins4} (hi : ¬ (i : Int) < n) {rk : Nat} (hr : regs = (rk : Int)) (hl : l[rk]? = some (insR t)) {b : Bool} (hb : b = true ↔ tellI t regs) :
    Goes step15 (.h1 V n (i : Int) regs slots ins cs l) b := by
  have hlt : decide ((i : Int) < n) = false := by simpa using hi
  refine Goes.fin0 fun k rec => ?_
  show t15_h1 k rec V n (i : Int) regs slots ins cs l = _
  unfold t15_h1
  rw [hlt, cond_false, hr, ixR_at hl, un_ins]
  have no : ¬ tellI t regs → b = false := fun h => by
    cases b with
    | false => rfl
    | true => exact absurd (hb.1 rfl) h
  by_cases h1 : t.op = 52
  · have e1 : (t.op == 52) = true := by simpa using h1
    by_cases h2 : t.dst = 0
    · have e2 : (t.dst == 0) = true := by simpa using h2
      by_cases h3 : t.b = 0
      · have e3 : (t.b == 0) = true := by simpa using h3
        by_cases h4 : 0 ≤ t.a
        · have : b = decide (t.a < (rk : Int)) := by
            by_cases h5 : t.a < (rk : Int)
            · rw [decide_eq_true h5]; exact hb.2 ⟨h1, h2, h3, h4, by rw [hr]; exact h5⟩
            · rw [decide_eq_false h5]; exact no fun h => h5 (by rw [← hr]; exact h.2.2.2.2)
          rw [this]
          simp [e1, e2, e3, h4]
        · rw [no fun h => h4 h.2.2.2.1]; simp [e1, e2, e3, h4]
      · have e3 : (t.b == 0) = false := by simpa using h3
        rw [no fun h => h3 h.2.2.1]; simp [e1, e2, e3]
    · have e2 : (t.dst == 0) = false := by simpa using h2
      rw [no fun h => h2 h.2.1]; simp [e1, e2]
  · have e1 : (t.op == 52) = false := by simpa using h1
    rw [no fun h => h1 h.1]; simp [e1]

theorem g15_loop {regs slots : Int} {ins cs : Rs} {L : List Ins4} {rk : Nat} (hr : regs = (rk : Int)) (hlen : L.length = rk + 1) (hs : L.length < 4611686018427387904) {t : Ins4} (ht : L[rk]? = some t) :
    ∀ (m i : Nat), i + m = rk → ∀ b : Bool, (b = true ↔ (∀ (j : Nat) x, i ≤ j → L[j]? = some x → (j : Int) < regs → okI x j ins.length cs.length) ∧ tellI t regs) →
      Goes step15 (.h1 ((L.map insR).take rk) (rk : Int) (i : Int) regs slots ins cs (L.map insR)) b
  | 0, i, hi, b, hb => by
    refine g15_end (by omega) hr (map_at ht) (hb.trans ?_)
    exact ⟨fun h => h.2, fun h => ⟨fun j x h1 _ h3 => by omega, h⟩⟩
  | m + 1, i, hi, b, hb => by
    have hx : L[i]? = some (L[i]'(by omega)) := List.getElem?_eq_getElem _
    refine g15_row (x := L[i]'(by omega)) (by omega) (by rw [List.getElem?_take_of_lt (by omega)]; exact map_at hx) (by omega) ?_
    split
    · rename_i hok
      refine g15_loop (slots := slots) (ins := ins) (cs := cs) hr hlen hs ht m (i + 1) (by omega) b (hb.trans ?_)
      refine ⟨fun h => ⟨fun j x h1 h2 h3 => h.1 j x (by omega) h2 h3, h.2⟩, fun h => ⟨fun j x h1 h2 h3 => ?_, h.2⟩⟩
      by_cases hj : j = i
      · subst hj
        rw [hx] at h2
        cases h2
        exact hok
      · exact h.1 j x (by omega) h2 h3
    · rename_i hok
      cases b with
      | false => rfl
      | true => exact absurd ((hb.1 rfl).1 i _ (Nat.le_refl _) hx (by omega)) hok

theorem g15_plain {regs slots : Int} {ins cs : Rs} {L : List Ins4} (hr : -9223372036854775808 ≤ regs ∧ regs ≤ 9223372036854775807) (hs : L.length < 4611686018427387904) {b : Bool} (hb : b = true ↔ PlainP regs slots ins.length cs.length L) :
    Tot (fun k => g15 k regs slots ins cs (L.map insR)) b := by
  show Goes step15 (.e regs slots ins cs (L.map insR)) _
  have no : ¬ PlainP regs slots ins.length cs.length L → Goes step15 (.h0 true regs slots ins cs (L.map insR)) b := by
    intro hn
    have : b = false := by
      cases b with
      | false => rfl
      | true => exact absurd (hb.1 rfl) hn
    rw [this]
    exact Goes.fin0 fun k rec => rfl
  by_cases h1 : slots = 0
  · have e1 : (slots != 0) = false := by simp [h1]
    by_cases h2 : regs < 1
    · refine (no fun h => ?_).rec0 (fun k rec => ?_)
      · have := h.2.1; omega
      · show t15_e k rec regs slots ins cs (L.map insR) = _
        unfold t15_e
        simp [e1, h2]
    · refine Goes.rec0 (s' := .h0 (((L.map insR).length : Int) != (IntKind.i64.wrap (regs + 1))) regs slots ins cs (L.map insR)) ?_ (fun k rec => ?_)
      · by_cases h3 : (L.length : Int) = IntKind.i64.wrap (regs + 1)
        · have e : (((L.map insR).length : Int) != (IntKind.i64.wrap (regs + 1))) = false := by rw [List.length_map]; simp [h3]
          rw [e]
          have hl : (L.length : Int) = regs + 1 := by
            rw [IntKind.wrap_i64] at h3
            omega
          obtain ⟨rk, rfl⟩ : ∃ rk : Nat, regs = (rk : Int) := ⟨regs.toNat, by omega⟩
          have hlen : L.length = rk + 1 := by omega
          have ht : L[rk]? = some (L[rk]'(by omega)) := List.getElem?_eq_getElem _
          refine (g15_loop (regs := (rk : Int)) (slots := slots) (ins := ins) (cs := cs) rfl hlen hs ht rk 0 (by omega) b (hb.trans ?_)).rec0 (fun k rec => ?_)
          · constructor
            · rintro ⟨_, _, _, q1, t, q2, q3⟩
              refine ⟨fun j x _ h4 h5 => q1 j x h4 h5, ?_⟩
              rw [Int.toNat_natCast, ht] at q2
              cases q2
              exact q3
            · rintro ⟨q1, q2⟩
              exact ⟨h1, by omega, hl, fun j x h4 h5 => q1 j x (Nat.zero_le _) h4 h5, _, by rw [Int.toNat_natCast]; exact ht, q2⟩
          · show t15_h0 k rec false (rk : Int) slots ins cs (L.map insR) = _
            unfold t15_h0
            have sl : slOk 0 (rk : Int) (L.map insR) 4 = true := by
              unfold slOk
              apply decide_eq_true
              refine ⟨by omega, by omega, by rw [List.length_map]; omega, ?_⟩
              cases L <;> rfl
            have hl2 : (List.take rk (L.map insR)).length = rk := by rw [List.length_take, List.length_map]; omega
            rw [cond_false, sl]
            show rec (.h1 (List.drop 0 (List.take rk (L.map insR))) ((List.drop 0 (List.take rk (L.map insR))).length : Int) 0 (rk : Int) slots ins cs (L.map insR)) = _
            rw [List.drop_zero, hl2]
            rfl
        · have e : (((L.map insR).length : Int) != (IntKind.i64.wrap (regs + 1))) = true := by rw [List.length_map]; simp [h3]
          rw [e]
          refine no fun h => h3 ?_
          have := h.2.2.1
          rw [IntKind.wrap_i64]
          omega
      · show t15_e k rec regs slots ins cs (L.map insR) = _
        unfold t15_e
        simp [e1, h2]
  · have e1 : (slots != 0) = true := by simp [h1]
    refine (no fun h => h1 h.1).rec0 (fun k rec => ?_)
    show t15_e k rec regs slots ins cs (L.map insR) = _
    unfold t15_e
    simp [e1]
end Ab
end Go.Proofs.Ytebmcaceklbopaa

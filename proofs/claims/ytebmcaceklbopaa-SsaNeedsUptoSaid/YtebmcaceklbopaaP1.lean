/-
  Needed registers; code of which nothing is dropped.
-/
import Derived.Test.YtebmcaceklbopaaN18
set_option linter.unusedVariables false
set_option linter.unusedSimpArgs false
namespace Go.Proofs.Ytebmcaceklbopaa
namespace Ab

/-- what is read at a place lies ahead of it. -/
def BackL (L : List Ins4) : Prop := ∀ (m : Nat), ∀ j ∈ readsAt L m, 0 ≤ j ∧ j < (m : Int)
theorem needS_same {L : List Ins4} (hb : BackL L) {i : Nat} {nb : Int → Bool} {j : Int} (hj : (i : Int) ≤ j) : needS L i nb j = nb j := by
  unfold needS
  split
  · have : ¬ j ∈ readsAt L i := fun h => by have := hb i j h; omega
    simp [this]
  · rfl
theorem needs_same {L : List Ins4} (hb : BackL L) : ∀ (k : Nat) {nb : Int → Bool} {j : Int}, (k : Int) ≤ j + 1 → needs L k nb j = nb j
  | 0, _, _, _ => rfl
  | i + 1, nb, j, hj => by
    have h1 := needs_same hb i (nb := needS L i nb) (j := j) (by omega)
    have h2 := needS_same (nb := nb) hb (i := i) (j := j) (by omega)
    show needs L i (needS L i nb) j = nb j
    rw [h1, h2]
theorem needs_closed {L : List Ins4} (hb : BackL L) : ∀ (k : Nat) {nb : Int → Bool} {m : Nat} {j : Int}, m < k → needs L k nb (m : Int) = true → j ∈ readsAt L m → needs L k nb j = true
  | i + 1, nb, m, j, hm, hn, hj => by
    by_cases h : m = i
    · subst h
      have e : needs L (m + 1) nb (m : Int) = nb (m : Int) := needs_same hb (m + 1) (by omega)
      rw [e] at hn
      show needs L m (needS L m nb) j = true
      apply needs_up
      unfold needS
      rw [if_pos hn]
      simp [hj]
    · exact needs_closed hb i (nb := needS L i nb) (by omega) hn hj
theorem needs_origin {L : List Ins4} : ∀ (k : Nat) {nb : Int → Bool} {j : Int}, needs L k nb j = true → nb j = true ∨ ∃ m, m < k ∧ needs L k nb (m : Int) = true ∧ j ∈ readsAt L m
  | 0, _, _, h => .inl h
  | i + 1, nb, j, h => by
    rcases needs_origin i (nb := needS L i nb) h with h1 | ⟨m, h1, h2, h3⟩
    · unfold needS at h1
      split at h1
      · rename_i hi
        simp only [Bool.or_eq_true, decide_eq_true_eq] at h1
        rcases h1 with h1 | h1
        · exact .inl h1
        · exact .inr ⟨i, Nat.lt_succ_self _, needs_up (i + 1) hi, h1⟩
      · exact .inl h1
    · exact .inr ⟨m, by omega, h2, h3⟩

theorem back_of {regs slots : Int} {nI nC : Nat} {L : List Ins4} {rk : Nat} (h : PlainP regs slots nI nC L) (hr : regs = (rk : Int)) : BackL L := by
  have hin := inR_of h hr
  obtain ⟨_, _, hl, h1, t, ht, h2⟩ := h
  intro m j hj
  unfold readsAt at hj
  cases hx : L[m]? with
  | none => rw [hx] at hj; cases hj
  | some x =>
    rw [hx] at hj
    have hm : m < L.length := (List.getElem?_eq_some_iff.1 hx).1
    by_cases hmk : (m : Int) < regs
    · obtain ⟨_, h3⟩ := h1 m x hx hmk
      have h50 : x.op = 50 → nOps x.op = 0 := fun h => by rw [h]; rfl
      have h51 : x.op = 51 → nOps x.op = 0 := fun h => by rw [h]; rfl
      have h52 : x.op = 52 → nOps x.op = 0 := fun h => by rw [h]; rfl
      simp only [reads] at hj
      split at hj
      · simp only [List.mem_singleton] at hj; subst hj; omega
      · split at hj
        · simp only [List.mem_cons, List.not_mem_nil, or_false] at hj; omega
        · simp at hj
    · have := hin m x hx j hj
      omega

/-! the needed ones of plain code -/
def nd0 (L : List Ins4) (rk : Nat) : Int → Bool := needs L (rk + 1) fun j => decide (j = (rk : Int))
theorem nd0_rk (L : List Ins4) (rk : Nat) : nd0 L rk (rk : Int) = true := needs_up _ (by simp)
theorem nd0_closed {L : List Ins4} (hb : BackL L) {rk m : Nat} {j : Int} (hm : m ≤ rk) (hn : nd0 L rk (m : Int) = true) (hj : j ∈ readsAt L m) : nd0 L rk j = true := needs_closed hb _ (by omega) hn hj
theorem nd0_origin {L : List Ins4} {rk : Nat} {j : Int} (h : nd0 L rk j = true) (hj : j < (rk : Int)) : ∃ m, m ≤ rk ∧ nd0 L rk (m : Int) = true ∧ j ∈ readsAt L m := by
  rcases needs_origin _ h with h1 | ⟨m, h1, h2, h3⟩
  · simp at h1; omega
  · exact ⟨m, by omega, h2, h3⟩

/-! inputs and constants in the order of their first use -/
def useI (op0 : Int) (L : List Ins4) : Nat → Nat
  | 0 => 0
  | i + 1 => match L[i]? with
    | some x => if x.op = op0 then max (useI op0 L i) (x.a.toNat + 1) else useI op0 L i
    | none => useI op0 L i
theorem useI_mono {op0 : Int} {L : List Ins4} : ∀ {i j : Nat}, i ≤ j → useI op0 L i ≤ useI op0 L j := by
  intro i j h
  induction j with
  | zero => have : i = 0 := by omega
            subst this; exact Nat.le_refl _
  | succ j ih =>
    by_cases he : i = j + 1
    · subst he; exact Nat.le_refl _
    · refine Nat.le_trans (ih (by omega)) ?_
      simp only [useI]
      split
      · split <;> omega
      · exact Nat.le_refl _
theorem useI_mem {op0 : Int} {L : List Ins4} {i n : Nat} {x : Ins4} (hx : L[i]? = some x) (ho : x.op = op0) (hi : i < n) : x.a.toNat + 1 ≤ useI op0 L n := by
  refine Nat.le_trans ?_ (useI_mono (show i + 1 ≤ n by omega))
  simp only [useI, hx, if_pos ho]
  omega
theorem useI_app {op0 : Int} {L : List Ins4} {y : Ins4} : ∀ {i : Nat}, i ≤ L.length → useI op0 (L ++ [y]) i = useI op0 L i
  | 0, _ => rfl
  | i + 1, h => by
    have ih := useI_app (op0 := op0) (L := L) (y := y) (i := i) (by omega)
    simp only [useI]
    rw [List.getElem?_append_left (by omega), ih]
theorem useI_snoc {op0 : Int} {L : List Ins4} {y : Ins4} : useI op0 (L ++ [y]) (L.length + 1) = if y.op = op0 then max (useI op0 L L.length) (y.a.toNat + 1) else useI op0 L L.length := by
  have h : (L ++ [y])[L.length]? = some y := by simp
  simp only [useI, h]
  rw [useI_app (Nat.le_refl _)]

/-- of a list of things that are put where they are used first. -/
structure Use (op0 : Int) (n : Nat) (L : List Ins4) : Prop where
  le : ∀ (i : Nat) x, L[i]? = some x → x.op = op0 → x.a.toNat ≤ useI op0 L i
  top : useI op0 L L.length = n

structure TI (t : SR) : Prop where
  I : Use 50 t.I.length t.L
  C : Use 51 t.C.length t.L
  nI : t.I.Nodup
  nC : t.C.Nodup

theorem use_other {op0 : Int} {n : Nat} {L : List Ins4} {y : Ins4} (h : Use op0 n L) (hy : y.op ≠ op0) : Use op0 n (L ++ [y]) := by
  refine ⟨fun i x hx ho => ?_, ?_⟩
  · by_cases hi : i < L.length
    · rw [List.getElem?_append_left hi] at hx
      rw [useI_app (by omega)]
      exact h.le i x hx ho
    · rw [List.getElem?_append_right (by omega)] at hx
      have : x = y := by
        rcases Nat.eq_zero_or_pos (i - L.length) with h0 | h0
        · rw [h0] at hx; simpa using hx.symm
        · rw [List.getElem?_eq_none (by simp only [List.length_singleton]; omega)] at hx; cases hx
      subst this
      exact absurd ho hy
  · rw [List.length_append, List.length_singleton, useI_snoc, if_neg hy]; exact h.top
theorem use_same {op0 : Int} {n n' : Nat} {L : List Ins4} {y : Ins4} (h : Use op0 n L) (hy : y.op = op0) (ha : y.a.toNat ≤ n) (hn : n' = max n (y.a.toNat + 1)) : Use op0 n' (L ++ [y]) := by
  refine ⟨fun i x hx ho => ?_, ?_⟩
  · by_cases hi : i < L.length
    · rw [List.getElem?_append_left hi] at hx
      rw [useI_app (by omega)]
      exact h.le i x hx ho
    · rw [List.getElem?_append_right (by omega)] at hx
      have h0 : i - L.length = 0 := by
        rcases Nat.eq_zero_or_pos (i - L.length) with h0 | h0
        · exact h0
        · rw [List.getElem?_eq_none (by simp only [List.length_singleton]; omega)] at hx; cases hx
      rw [h0] at hx
      have : x = y := by simpa using hx.symm
      subst this
      have : i = L.length := by
        have := (List.getElem?_eq_some_iff.1 hx).1
        omega
      rw [this, useI_app (Nat.le_refl _), h.top]
      exact ha
  · rw [List.length_append, List.length_singleton, useI_snoc, if_pos hy, h.top, hn]

/-! places -/
theorem fi_no' {α : Type} (p : α → Bool) : ∀ (l : List α) (i : Nat), (∀ x ∈ l, p x = false) → fi p l i = none
  | [], _, _ => rfl
  | y :: l, i, h => by
    simp only [fi, h y List.mem_cons_self]
    exact fi_no' p l (i + 1) fun x hx => h x (List.mem_cons_of_mem _ hx)
theorem fi_at {α : Type} [DecidableEq α] (y : α) : ∀ (l : List α) (i a : Nat), l.Nodup → l[a]? = some y → fi (fun x => decide (x = y)) l i = some (i + a)
  | x :: l, i, 0, _, h => by
    simp only [List.getElem?_cons_zero, Option.some.injEq] at h
    subst h
    simp [fi]
  | x :: l, i, a + 1, hn, h => by
    simp only [List.getElem?_cons_succ] at h
    rw [List.nodup_cons] at hn
    have hne : x ≠ y := fun e => hn.1 (by rw [e]; exact List.mem_of_getElem? h)
    simp only [fi, hne, decide_false]
    rw [if_neg (by simp), fi_at y l (i + 1) a hn.2 h]
    congr 1; omega
theorem plc_at {α : Type} [DecidableEq α] {y : α} {l : List α} {a : Nat} (hn : l.Nodup) (h : l[a]? = some y) : plc y l = (a, l) := by
  unfold plc
  rw [fi_at y l 0 a hn h]
  simp
theorem plc_new {α : Type} [DecidableEq α] {y : α} {l : List α} (h : y ∉ l) : plc y l = (l.length, l ++ [y]) := by
  unfold plc
  rw [fi_no' _ l 0 fun x hx => by simp only [decide_eq_false_iff_not]; exact fun e => h (by rw [← e]; exact hx)]
theorem plc_or {α : Type} [DecidableEq α] (y : α) {l : List α} (hn : l.Nodup) : ((plc y l).2 = l ∧ (plc y l).1 < l.length) ∨ (y ∉ l ∧ plc y l = (l.length, l ++ [y])) := by
  by_cases h : y ∈ l
  · obtain ⟨a, ha⟩ := List.getElem?_of_mem h
    have := (List.getElem?_eq_some_iff.1 ha).1
    rw [plc_at hn ha]
    exact .inl ⟨rfl, this⟩
  · exact .inr ⟨h, plc_new h⟩
theorem nodup_snoc {α : Type} {y : α} {l : List α} (hn : l.Nodup) (h : y ∉ l) : (l ++ [y]).Nodup := by
  rw [List.nodup_append]
  refine ⟨hn, by simp, fun a ha b hb e => ?_⟩
  simp only [List.mem_singleton] at hb
  subst hb; subst e
  exact h ha

/-! tight code: nothing of it is dropped -/
structure Tight (I : List In4) (C : List Vl) (O : List Ins4) (t : Ins4) : Prop where
  plain : PlainP (O.length : Int) 0 I.length C.length (O ++ [t])
  ti : TI ⟨I, C, O⟩
  rd : ∀ j : Nat, j < O.length → ∃ m, m ≤ O.length ∧ (j : Int) ∈ readsAt (O ++ [t]) m

theorem tight_nd {I : List In4} {C : List Vl} {O : List Ins4} {t : Ins4} (h : Tight I C O t) : ∀ (d j : Nat), j + d = O.length → nd0 (O ++ [t]) O.length (j : Int) = true := by
  have hb := back_of h.plain rfl
  intro d
  induction d using Nat.strongRecOn with
  | ind d ih =>
    intro j hj
    by_cases h0 : d = 0
    · have : j = O.length := by omega
      subst this; exact nd0_rk _ _
    · obtain ⟨m, hm, hr⟩ := h.rd j (by omega)
      have := hb m _ hr
      exact nd0_closed hb hm (ih (O.length - m) (by omega) m (by omega)) hr

theorem take_use {α : Type} {l : List α} {u a : Nat} {y : α} [DecidableEq α] (hn : l.Nodup) (hy : l[a]? = some y) (ha : a ≤ u) (hu : u ≤ l.length) : plc y (l.take u) = (a, l.take (max u (a + 1))) := by
  have hal := (List.getElem?_eq_some_iff.1 hy).1
  by_cases h : a < u
  · have e : max u (a + 1) = u := by omega
    rw [e]
    exact plc_at (hn.sublist (List.take_sublist _ _)) (by rw [List.getElem?_take_of_lt h, hy])
  · have e1 : a = u := by omega
    subst e1
    have e : max a (a + 1) = a + 1 := by omega
    rw [e, plc_new]
    · rw [List.take_add_one, hy, List.length_take]
      simp; omega
    · intro hm
      obtain ⟨b, hb⟩ := List.getElem?_of_mem hm
      have hbl := (List.getElem?_eq_some_iff.1 hb).1
      rw [List.length_take] at hbl
      rw [List.getElem?_take_of_lt (by omega)] at hb
      have e1 := (List.getElem?_eq_some_iff.1 hb)
      have e2 := (List.getElem?_eq_some_iff.1 hy)
      have := (List.getElem_inj hn).1 (e1.2.trans e2.2.symm)
      omega

theorem tight_fold {I : List In4} {C : List Vl} {O : List Ins4} {t : Ins4} (h : Tight I C O t) : ∀ i, i ≤ O.length →
    (dfold (nd0 (O ++ [t]) O.length) I C (O ++ [t]) i).I = I.take (useI 50 O i) ∧ (dfold (nd0 (O ++ [t]) O.length) I C (O ++ [t]) i).C = C.take (useI 51 O i) ∧
      (dfold (nd0 (O ++ [t]) O.length) I C (O ++ [t]) i).O = O.take i ∧ ∀ j : Nat, j < i → (dfold (nd0 (O ++ [t]) O.length) I C (O ++ [t]) i).bec (j : Int) = (j : Int)
  | 0, _ => by simp [dfold, useI]
  | i + 1, hi => by
    obtain ⟨a1, a2, a3, a4⟩ := tight_fold h i (by omega)
    have hx : O[i]? = some (O[i]'(by omega)) := List.getElem?_eq_getElem _
    generalize O[i]'(by omega) = x at hx
    have hx' : (O ++ [t])[i]? = some x := by rw [List.getElem?_append_left (by omega), hx]
    have hnd := tight_nd h (O.length - i) i (by omega)
    obtain ⟨hdst, ok⟩ := h.plain.2.2.2.1 i x hx' (by omega)
    simp only [dfold, hx']
    generalize dfold (nd0 (O ++ [t]) O.length) I C (O ++ [t]) i = s at a1 a2 a3 a4
    have ed : dstep (nd0 (O ++ [t]) O.length) I C i x s = ⟨fun j => if j = (i : Int) then (s.O.length : Int) else s.bec j, (opnd I C s x).2.2.1, (opnd I C s x).2.2.2, s.O ++ [⟨x.op, s.O.length, (opnd I C s x).1, (opnd I C s x).2.1⟩]⟩ := by unfold dstep; rw [hnd, if_pos rfl]
    rw [ed]
    have hol : s.O.length = i := by rw [a3, List.length_take]; omega
    have n50 : x.op = 50 → nOps x.op = 0 := fun h => by rw [h]; rfl
    have n51 : x.op = 51 → nOps x.op = 0 := fun h => by rw [h]; rfl
    have key : (opnd I C s x).1 = x.a ∧ (opnd I C s x).2.1 = x.b ∧ (opnd I C s x).2.2.1 = I.take (useI 50 O (i + 1)) ∧ (opnd I C s x).2.2.2 = C.take (useI 51 O (i + 1)) := by
      have hu50 : useI 50 O (i + 1) = if x.op = 50 then max (useI 50 O i) (x.a.toNat + 1) else useI 50 O i := by simp only [useI, hx]
      have hu51 : useI 51 O (i + 1) = if x.op = 51 then max (useI 51 O i) (x.a.toNat + 1) else useI 51 O i := by simp only [useI, hx]
      have nI : I.Nodup := h.ti.nI
      have nC : C.Nodup := h.ti.nC
      have t50 := h.ti.I.top
      have t51 := h.ti.C.top
      simp only at t50 t51
      have m50 := useI_mono (op0 := 50) (L := O) (show i ≤ O.length by omega)
      have m51 := useI_mono (op0 := 51) (L := O) (show i ≤ O.length by omega)
      unfold opnd
      by_cases c50 : x.op = 50
      · have c51 : x.op ≠ 51 := by omega
        have hb : 0 ≤ x.a ∧ x.a < (I.length : Int) ∧ x.b = 0 := by have := n50 c50; omega
        have hy : I[x.a.toNat]? = some (I[x.a.toNat]'(by omega)) := List.getElem?_eq_getElem _
        generalize I[x.a.toNat]'(by omega) = y at hy
        have hle := h.ti.I.le i x hx c50
        simp only at hle
        rw [if_pos c50, hy]
        dsimp only
        rw [hu50, hu51, if_pos c50, if_neg c51, a1, a2, (take_use nI hy hle (by omega) : plc y (I.take (useI 50 O i)) = _)]
        exact ⟨by (try dsimp only); omega, by (try dsimp only); omega, rfl, rfl⟩
      · by_cases c51 : x.op = 51
        · have hb : 0 ≤ x.a ∧ x.a < (C.length : Int) ∧ x.b = 0 := by have := n51 c51; omega
          have hy : C[x.a.toNat]? = some (C[x.a.toNat]'(by omega)) := List.getElem?_eq_getElem _
          generalize C[x.a.toNat]'(by omega) = y at hy
          have hle := h.ti.C.le i x hx c51
          simp only at hle
          rw [if_neg c50, if_pos c51, hy]
          dsimp only
          rw [hu50, hu51, if_neg c50, if_pos c51, a1, a2, (take_use nC hy hle (by omega) : plc y (C.take (useI 51 O i)) = _)]
          exact ⟨by (try dsimp only); omega, by (try dsimp only); omega, rfl, rfl⟩
        · rw [if_neg c50, if_neg c51, hu50, hu51, if_neg c50, if_neg c51, a1, a2]
          have b1 : ∀ v : Int, 0 ≤ v → v < (i : Int) → s.bec v = v := fun v h1 h2 => by
            obtain ⟨n, rfl⟩ : ∃ n : Nat, v = (n : Int) := ⟨v.toNat, by omega⟩
            exact a4 n (by omega)
          by_cases h2 : nOps x.op = 2
          · rw [if_pos h2]
            exact ⟨b1 _ (by omega) (by omega), b1 _ (by omega) (by omega), rfl, rfl⟩
          · rw [if_neg h2]
            exact ⟨b1 _ (by omega) (by omega), by (try dsimp only); omega, rfl, rfl⟩
    obtain ⟨k1, k2, k3, k4⟩ := key
    refine ⟨k3, k4, ?_, fun j hj => ?_⟩
    · simp only
      rw [k1, k2, hol, a3, List.take_add_one, hx]
      have : (⟨x.op, (i : Int), x.a, x.b⟩ : Ins4) = x := by rw [← hdst]
      rw [this]; rfl
    · simp only
      by_cases e : j = i
      · subst e; rw [if_pos rfl, hol]
      · rw [if_neg (by omega)]; exact a4 j (by omega)

theorem tight_dend {I : List In4} {C : List Vl} {O : List Ins4} {t : Ins4} (h : Tight I C O t) :
    dend (dfold (nd0 (O ++ [t]) O.length) I C (O ++ [t]) O.length) t = ((O.length : Int), 0, I.map inR, C.map vlR, (O ++ [t]).map insR) := by
  obtain ⟨a1, a2, a3, a4⟩ := tight_fold h O.length (Nat.le_refl _)
  obtain ⟨_, _, _, _, t', ht, h52, hd, hb, ha0, ha1⟩ := h.plain
  rw [Int.toNat_natCast] at ht
  have : t' = t := by simpa using ht.symm
  subst this
  unfold dend
  rw [a1, a2, a3, List.take_length, h.ti.I.top, h.ti.C.top, List.take_length, List.take_length]
  obtain ⟨n, hn⟩ : ∃ n : Nat, t'.a = (n : Int) := ⟨t'.a.toNat, by omega⟩
  have hbec := a4 n (by omega)
  rw [hn, hbec, ← hn]
  have : (⟨52, 0, t'.a, 0⟩ : Ins4) = t' := by
    obtain ⟨o, d, a, b⟩ := t'
    simp only at h52 hd hb
    rw [h52, hd, hb]
  rw [this]
end Ab
end Go.Proofs.Ytebmcaceklbopaa

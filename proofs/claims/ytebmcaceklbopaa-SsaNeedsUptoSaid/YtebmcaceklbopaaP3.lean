/-
  What is left of plain code is tight, and reads as the code did.
-/
import Derived.Test.YtebmcaceklbopaaP2
set_option linter.unusedVariables false
set_option linter.unusedSimpArgs false
namespace Go.Proofs.Ytebmcaceklbopaa
namespace Ab

/-- the places that are kept. -/
def kp (nd : Int → Bool) : Nat → List Nat
  | 0 => []
  | i + 1 => if nd (i : Int) = true then kp nd i ++ [i] else kp nd i
theorem kp_mem {nd : Int → Bool} : ∀ {i j : Nat}, j ∈ kp nd i ↔ j < i ∧ nd (j : Int) = true
  | 0, j => by simp [kp]
  | i + 1, j => by
    have ih := kp_mem (nd := nd) (i := i) (j := j)
    simp only [kp]
    split
    · rename_i h
      rw [List.mem_append, ih, List.mem_singleton]
      constructor
      · rintro (h1 | h1)
        · exact ⟨by omega, h1.2⟩
        · subst h1; exact ⟨by omega, h⟩
      · rintro ⟨h1, h2⟩
        by_cases e : j = i
        · exact .inr e
        · exact .inl ⟨by omega, h2⟩
    · rename_i h
      rw [ih]
      constructor
      · exact fun h1 => ⟨by omega, h1.2⟩
      · rintro ⟨h1, h2⟩
        by_cases e : j = i
        · subst e; exact absurd h2 h
        · exact ⟨by omega, h2⟩
theorem kp_lt {nd : Int → Bool} : ∀ {i p q a b : Nat}, p < q → (kp nd i)[p]? = some a → (kp nd i)[q]? = some b → a < b
  | 0, _, _, _, _, _, h, _ => by simp [kp] at h
  | i + 1, p, q, a, b, hpq, ha, hb => by
    simp only [kp] at ha hb
    split at ha
    · rename_i h
      rw [if_pos h] at hb
      by_cases hq : q < (kp nd i).length
      · rw [List.getElem?_append_left (by omega)] at ha
        rw [List.getElem?_append_left hq] at hb
        exact kp_lt hpq ha hb
      · have hql := (List.getElem?_eq_some_iff.1 hb).1
        rw [List.length_append, List.length_singleton] at hql
        have e : q = (kp nd i).length := by omega
        subst e
        rw [List.getElem?_append_left hpq] at ha
        simp at hb
        subst hb
        exact (kp_mem.1 (List.mem_of_getElem? ha)).1
    · rename_i h
      rw [if_neg h] at hb
      exact kp_lt hpq ha hb

/-- how far a fold has come. -/
structure FI (nd : Int → Bool) (L : List Ins4) (i : Nat) (s : DS) : Prop where
  len : s.O.length = (kp nd i).length
  bec : ∀ (q j : Nat), (kp nd i)[q]? = some j → s.bec (j : Int) = (q : Int)
  row : ∀ (q j : Nat), (kp nd i)[q]? = some j → ∃ y x, s.O[q]? = some y ∧ L[j]? = some x ∧ reads y = (reads x).map s.bec
  pi : PI ⟨s.I, s.C, s.O⟩
  ti : TI ⟨s.I, s.C, s.O⟩

theorem reads_op {x : Ins4} {a b : Int} : reads ⟨x.op, 0, a, b⟩ = rds x.op a b := rfl
theorem putR_no {op a b : Int} {L : List Ins4} : (putR false op a b L).2 = L ++ [⟨op, L.length, a, b⟩] := by
  unfold putR
  have := fi_no (same3 op a b) L 0
  rw [this]
theorem app_pi {op a b : Int} {t : SR} (h : PI t) (hok : okI ⟨op, t.L.length, a, b⟩ t.L.length t.I.length t.C.length) : PI ⟨t.I, t.C, t.L ++ [⟨op, t.L.length, a, b⟩]⟩ := by
  have := (put_plain (sh := false) h hok).1
  unfold putRR at this
  rw [putR_no] at this
  exact this
theorem putF {op a b : Int} {t : SR} : (putRR false op a b t).2 = ⟨t.I, t.C, t.L ++ [⟨op, t.L.length, a, b⟩]⟩ := by
  unfold putRR putR
  have := fi_no (same3 op a b) t.L 0
  rw [this]

theorem fold_fi {regs slots : Int} {I : List In4} {C : List Vl} {L : List Ins4} {rk : Nat} (hp : PlainP regs slots I.length C.length L) (hr : regs = (rk : Int)) {nd : Int → Bool}
    (hcl : ∀ (m : Nat) (j : Int), m ≤ rk → nd (m : Int) = true → j ∈ readsAt L m → nd j = true) : ∀ i, i ≤ rk → FI nd L i (dfold nd I C L i)
  | 0, _ => ⟨rfl, fun q j h => by simp [kp] at h, fun q j h => by simp [kp] at h, pi0, ti0⟩
  | i + 1, hi => by
    have ih := fold_fi hp hr hcl i (by omega)
    have hb := back_of hp hr
    have hlen : L.length = rk + 1 := by have := hp.2.2.1; omega
    have hx : L[i]? = some (L[i]'(by omega)) := List.getElem?_eq_getElem _
    generalize L[i]'(by omega) = x at hx
    obtain ⟨_, ok⟩ := hp.2.2.2.1 i x hx (by omega)
    simp only [dfold, hx]
    generalize dfold nd I C L i = s at ih
    by_cases hn : nd (i : Int) = true
    · have ek : kp nd (i + 1) = kp nd i ++ [i] := by simp only [kp]; rw [if_pos hn]
      have ed : dstep nd I C i x s = ⟨fun j => if j = (i : Int) then (s.O.length : Int) else s.bec j, (opnd I C s x).2.2.1, (opnd I C s x).2.2.2, s.O ++ [⟨x.op, s.O.length, (opnd I C s x).1, (opnd I C s x).2.1⟩]⟩ := by unfold dstep; rw [if_pos hn]
      rw [ed]
      have hra : readsAt L i = reads x := by simp [readsAt, hx]
      -- where what is read has gone
      have go : ∀ j ∈ reads x, 0 ≤ s.bec j ∧ s.bec j < (s.O.length : Int) := by
        intro j hj
        have hbj := hb i j (by rw [hra]; exact hj)
        obtain ⟨n, rfl⟩ : ∃ n : Nat, j = (n : Int) := ⟨j.toNat, by omega⟩
        have hm : n ∈ kp nd i := kp_mem.2 ⟨by omega, hcl i _ (by omega) hn (by rw [hra]; exact hj)⟩
        obtain ⟨q, hq⟩ := List.getElem?_of_mem hm
        have hql := (List.getElem?_eq_some_iff.1 hq).1
        rw [ih.bec q n hq, ih.len]
        omega
      have n50 : x.op = 50 → nOps x.op = 0 := fun h => by rw [h]; rfl
      have n51 : x.op = 51 → nOps x.op = 0 := fun h => by rw [h]; rfl
      have key : PI ⟨(opnd I C s x).2.2.1, (opnd I C s x).2.2.2, s.O ++ [⟨x.op, s.O.length, (opnd I C s x).1, (opnd I C s x).2.1⟩]⟩ ∧ TI ⟨(opnd I C s x).2.2.1, (opnd I C s x).2.2.2, s.O ++ [⟨x.op, s.O.length, (opnd I C s x).1, (opnd I C s x).2.1⟩]⟩ ∧
          rds x.op (opnd I C s x).1 (opnd I C s x).2.1 = (reads x).map s.bec := by
        by_cases c50 : x.op = 50
        · have hbd : 0 ≤ x.a ∧ x.a < (I.length : Int) ∧ x.b = 0 := by have := n50 c50; omega
          have hy : I[x.a.toNat]? = some (I[x.a.toNat]'(by omega)) := List.getElem?_eq_getElem _
          generalize I[x.a.toNat]'(by omega) = y at hy
          have e : opnd I C s x = (((plc y s.I).1 : Int), 0, (plc y s.I).2, s.C) := by unfold opnd; rw [if_pos c50, hy]
          rw [e, c50]
          have hpl := plc_lt y s.I
          refine ⟨?_, ?_, ?_⟩
          · have := app_pi (op := 50) (a := ((plc y s.I).1 : Int)) (b := 0) (t := ⟨(plc y s.I).2, s.C, s.O⟩) (fun i x e => okI_mono (ih.pi i x e) (by simp only; omega) (Int.le_refl _)) ⟨rfl, .inl ⟨rfl, by simp, by simp only; omega, rfl⟩⟩
            exact this
          · have := put_ti_in (sh := false) y ih.ti
            rw [putF] at this
            exact this
          · have : reads x = [] := by unfold reads; rw [if_neg (by have := n50 c50; omega), if_neg (by have := n50 c50; omega)]
            rw [this]; rfl
        · by_cases c51 : x.op = 51
          · have hbd : 0 ≤ x.a ∧ x.a < (C.length : Int) ∧ x.b = 0 := by have := n51 c51; omega
            have hy : C[x.a.toNat]? = some (C[x.a.toNat]'(by omega)) := List.getElem?_eq_getElem _
            generalize C[x.a.toNat]'(by omega) = y at hy
            have e : opnd I C s x = (((plc y s.C).1 : Int), 0, s.I, (plc y s.C).2) := by unfold opnd; rw [if_neg c50, if_pos c51, hy]
            rw [e, c51]
            have hpl := plc_lt y s.C
            refine ⟨?_, ?_, ?_⟩
            · have := app_pi (op := 51) (a := ((plc y s.C).1 : Int)) (b := 0) (t := ⟨s.I, (plc y s.C).2, s.O⟩) (fun i x e => okI_mono (ih.pi i x e) (Int.le_refl _) (by simp only; omega)) ⟨rfl, .inr (.inl ⟨rfl, by simp, by simp only; omega, rfl⟩)⟩
              exact this
            · have := put_ti_vl (sh := false) y ih.ti
              rw [putF] at this
              exact this
            · have : reads x = [] := by unfold reads; rw [if_neg (by have := n51 c51; omega), if_neg (by have := n51 c51; omega)]
              rw [this]; rfl
          · have ti2 : ∀ a b, TI ⟨s.I, s.C, s.O ++ [⟨x.op, s.O.length, a, b⟩]⟩ := fun a b => by
              have := put_ti_other (sh := false) (a := a) (b := b) ih.ti c50 c51
              rw [putF] at this
              exact this
            by_cases h2 : nOps x.op = 2
            · have e : opnd I C s x = (s.bec x.a, s.bec x.b, s.I, s.C) := by unfold opnd; rw [if_neg c50, if_neg c51, if_pos h2]
              have hre : reads x = [x.a, x.b] := rds_two h2
              have g1 := go x.a (by rw [hre]; simp)
              have g2 := go x.b (by rw [hre]; simp)
              rw [e]
              refine ⟨?_, ti2 _ _, ?_⟩
              · exact app_pi (t := ⟨s.I, s.C, s.O⟩) ih.pi ⟨rfl, .inr (.inr (.inr ⟨h2, g1.1, g1.2, g2.1, g2.2⟩))⟩
              · rw [rds_two h2, hre]; rfl
            · have h1 : nOps x.op = 1 := by omega
              have e : opnd I C s x = (s.bec x.a, 0, s.I, s.C) := by unfold opnd; rw [if_neg c50, if_neg c51, if_neg h2]
              have hre : reads x = [x.a] := rds_one h1
              have g1 := go x.a (by rw [hre]; simp)
              rw [e]
              refine ⟨?_, ti2 _ _, ?_⟩
              · exact app_pi (t := ⟨s.I, s.C, s.O⟩) ih.pi ⟨rfl, .inr (.inr (.inl ⟨h1, g1.1, g1.2, rfl⟩))⟩
              · rw [rds_one h1, hre]; rfl
      obtain ⟨k1, k2, k3⟩ := key
      have same : ∀ j ∈ reads x, (if j = (i : Int) then (s.O.length : Int) else s.bec j) = s.bec j := fun j hj => by
        have := hb i j (by rw [hra]; exact hj)
        rw [if_neg (by omega)]
      refine ⟨by rw [ek]; simp [ih.len], fun q j hq => ?_, fun q j hq => ?_, k1, k2⟩
      · rw [ek] at hq
        simp only
        by_cases hql : q < (kp nd i).length
        · rw [List.getElem?_append_left hql] at hq
          have := (kp_mem.1 (List.mem_of_getElem? hq)).1
          rw [if_neg (by omega)]
          exact ih.bec q j hq
        · have hl := (List.getElem?_eq_some_iff.1 hq).1
          rw [List.length_append, List.length_singleton] at hl
          have e : q = (kp nd i).length := by omega
          subst e
          simp at hq
          subst hq
          rw [if_pos rfl, ih.len]
      · rw [ek] at hq
        simp only
        by_cases hql : q < (kp nd i).length
        · rw [List.getElem?_append_left hql] at hq
          obtain ⟨y, z, h1, h2, h3⟩ := ih.row q j hq
          have hji := (kp_mem.1 (List.mem_of_getElem? hq)).1
          refine ⟨y, z, by rw [List.getElem?_append_left (by rw [ih.len]; exact hql)]; exact h1, h2, ?_⟩
          rw [h3]
          apply List.map_congr_left
          intro v hv
          have := hb j v (by simp only [readsAt, h2]; exact hv)
          rw [if_neg (by omega)]
        · have hl := (List.getElem?_eq_some_iff.1 hq).1
          rw [List.length_append, List.length_singleton] at hl
          have e : q = (kp nd i).length := by omega
          subst e
          simp at hq
          subst hq
          refine ⟨⟨x.op, s.O.length, (opnd I C s x).1, (opnd I C s x).2.1⟩, x, by rw [← ih.len]; simp, hx, ?_⟩
          rw [rds_eq]
          simp only
          rw [k3]
          apply List.map_congr_left
          intro v hv
          exact (same v hv).symm
    · have ek : kp nd (i + 1) = kp nd i := by simp only [kp]; rw [if_neg hn]
      have ed : dstep nd I C i x s = s := by unfold dstep; rw [if_neg hn]
      rw [ed]
      exact ⟨by rw [ek]; exact ih.len, by rw [ek]; exact ih.bec, by rw [ek]; exact ih.row, ih.pi, ih.ti⟩

/-- what is left of plain code is tight. -/
theorem drop_tight {slots : Int} {I : List In4} {C : List Vl} {L : List Ins4} {rk : Nat} (hp : PlainP (rk : Int) slots I.length C.length L) {t : Ins4} (ht : L[rk]? = some t) :
    Tight (dfold (nd0 L rk) I C L rk).I (dfold (nd0 L rk) I C L rk).C (dfold (nd0 L rk) I C L rk).O ⟨52, 0, (dfold (nd0 L rk) I C L rk).bec t.a, 0⟩ ∧ FI (nd0 L rk) L rk (dfold (nd0 L rk) I C L rk) := by
  have hb := back_of hp rfl
  have hcl : ∀ (m : Nat) (j : Int), m ≤ rk → nd0 L rk (m : Int) = true → j ∈ readsAt L m → nd0 L rk j = true := fun m j h1 h2 h3 => nd0_closed hb h1 h2 h3
  have fi := fold_fi hp rfl hcl rk (Nat.le_refl _)
  refine ⟨?_, fi⟩
  generalize dfold (nd0 L rk) I C L rk = s at fi
  obtain ⟨_, _, hlen, _, t', ht', h52, hd, hb0, ha0, ha1⟩ := hp
  rw [Int.toNat_natCast, ht] at ht'
  cases ht'
  have hrt : readsAt L rk = [t.a] := by simp only [readsAt, ht, reads]; rw [if_pos (.inl h52)]
  have kept : ∀ (m : Nat) (j : Int), m ≤ rk → nd0 L rk (m : Int) = true → j ∈ readsAt L m → ∃ q, q < s.O.length ∧ (∃ n : Nat, j = (n : Int) ∧ (kp (nd0 L rk) rk)[q]? = some n) ∧ s.bec j = (q : Int) := by
    intro m j h1 h2 h3
    have hbj := hb m j h3
    obtain ⟨n, rfl⟩ : ∃ n : Nat, j = (n : Int) := ⟨j.toNat, by omega⟩
    have hm : n ∈ kp (nd0 L rk) rk := kp_mem.2 ⟨by omega, hcl m _ h1 h2 h3⟩
    obtain ⟨q, hq⟩ := List.getElem?_of_mem hm
    have hql := (List.getElem?_eq_some_iff.1 hq).1
    exact ⟨q, by rw [fi.len]; exact hql, ⟨n, rfl, hq⟩, fi.bec q n hq⟩
  obtain ⟨qt, hqt, _, hbt⟩ := kept rk t.a (Nat.le_refl _) (nd0_rk L rk) (by rw [hrt]; simp)
  refine ⟨?_, fi.ti, fun q hq => ?_⟩
  · exact end_plain (x := (s.bec t.a, ⟨s.I, s.C, s.O⟩)) fi.pi (by simp only; omega) (by simp only; omega)
  · -- some kept instruction reads it
    have hkl : q < (kp (nd0 L rk) rk).length := by rw [← fi.len]; exact hq
    have hj : (kp (nd0 L rk) rk)[q]? = some ((kp (nd0 L rk) rk)[q]) := List.getElem?_eq_getElem _
    generalize (kp (nd0 L rk) rk)[q] = j at hj
    obtain ⟨hjk, hnj⟩ := kp_mem.1 (List.mem_of_getElem? hj)
    obtain ⟨m, hm, hnm, hrm⟩ := nd0_origin hnj (by omega)
    have hbj := fi.bec q j hj
    by_cases hmk : m = rk
    · subst hmk
      rw [hrt, List.mem_singleton] at hrm
      refine ⟨s.O.length, Nat.le_refl _, ?_⟩
      rw [readsAt_snoc, rds_eq]
      show (q : Int) ∈ rds 52 (s.bec t.a) 0
      rw [← hrm, hbj]
      simp [rds, reads]
    · have hmm : m ∈ kp (nd0 L rk) rk := kp_mem.2 ⟨by omega, hnm⟩
      obtain ⟨p, hpq⟩ := List.getElem?_of_mem hmm
      have hpl := (List.getElem?_eq_some_iff.1 hpq).1
      obtain ⟨y, x, h1, h2, h3⟩ := fi.row p m hpq
      refine ⟨p, by rw [fi.len]; omega, ?_⟩
      rw [readsAt_app (by rw [fi.len]; exact hpl)]
      simp only [readsAt, h1, h3]
      simp only [readsAt, h2] at hrm
      rw [← hbj]
      exact List.mem_map_of_mem hrm
end Ab
end Go.Proofs.Ytebmcaceklbopaa

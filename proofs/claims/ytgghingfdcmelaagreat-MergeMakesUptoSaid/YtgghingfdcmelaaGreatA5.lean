/-
  What is merged: no two alike, the form, no more of them; merged again it is itself.
-/
import Derived.Test.YtgghingfdcmelaaGreatA4
set_option linter.unusedVariables false
set_option linter.unusedSimpArgs false
namespace Go.Proofs.YtgghingfdcmelaaGreat
namespace Ab

theorem fnd_spec (y : Sa) : ∀ l : List Sa, (fnd l y = l.length ∧ ∀ x ∈ l, bareS x ≠ bareS y) ∨ (fnd l y < l.length ∧ ∃ x, l[fnd l y]? = some x ∧ bareS x = bareS y)
  | [] => .inl ⟨rfl, by simp⟩
  | x :: l => by
    cases h : al x y with
    | true =>
      right
      simp only [fnd, h, cond_true, List.length_cons]
      exact ⟨by omega, x, rfl, (al_iff x y).1 h⟩
    | false =>
      have hn : bareS x ≠ bareS y := fun e => by rw [(al_iff x y).2 e] at h; cases h
      simp only [fnd, h, cond_false, List.length_cons]
      rcases fnd_spec y l with ⟨h1, h2⟩ | ⟨h1, z, h2, h3⟩
      · refine .inl ⟨by omega, fun z hz => ?_⟩
        rcases List.mem_cons.1 hz with rfl | hz
        · exact hn
        · exact h2 z hz
      · exact .inr ⟨by omega, z, by simpa using h2, h3⟩
theorem fnd_le_of {y x : Sa} : ∀ {l : List Sa} {j : Nat}, l[j]? = some x → bareS x = bareS y → fnd l y ≤ j
  | [], j, h, _ => by simp at h
  | z :: l, 0, h, e => by
    simp at h; subst h
    simp [fnd, (al_iff z y).2 e]
  | z :: l, j + 1, h, e => by
    have := fnd_le_of (l := l) (by simpa using h) e
    simp only [fnd]
    cases al z y
    · simp only [cond_false]; omega
    · simp only [cond_true]; omega

def Apart (l : List Sa) : Prop := (l.map bareS).Nodup
theorem apart_get {l : List Sa} (h : Apart l) {i j : Nat} {x y : Sa} (hx : l[i]? = some x) (hy : l[j]? = some y) (e : bareS x = bareS y) : i = j := by
  have h1 : (l.map bareS)[i]? = some (bareS x) := by rw [List.getElem?_map, hx]; rfl
  have h2 : (l.map bareS)[j]? = some (bareS x) := by rw [List.getElem?_map, hy, e]; rfl
  obtain ⟨k1, e1⟩ := List.getElem?_eq_some_iff.1 h1
  obtain ⟨k2, e2⟩ := List.getElem?_eq_some_iff.1 h2
  exact (List.getElem_inj (h₀ := k1) (h₁ := k2) h).1 (e1.trans e2.symm)
theorem lst_drop (L : List Sa) : ∀ (m i : Nat), i + m = L.length → (lst L (L.drop i) i = true ↔ ∀ j x, i ≤ j → L[j]? = some x → ¬ fnd L x < j)
  | 0, i, hi => by
    rw [List.drop_eq_nil_of_le (by omega)]
    simp only [lst, true_iff]
    intro j x hj hx
    have := (List.getElem?_eq_some_iff.1 hx).1
    omega
  | m + 1, i, hi => by
    have hx : L[i]? = some (L[i]'(by omega)) := List.getElem?_eq_getElem _
    have hd : L.drop i = L[i]'(by omega) :: L.drop (i + 1) := List.drop_eq_getElem_cons _
    generalize L[i]'(by omega) = x at hx hd
    have ih := lst_drop L m (i + 1) (by omega)
    rw [hd]
    simp only [lst]
    by_cases hc : fnd L x < i
    · rw [decide_eq_true hc, cond_true]
      constructor
      · intro h; cases h
      · intro h; exact absurd hc (h i x (Nat.le_refl _) hx)
    · rw [decide_eq_false hc, cond_false, ih]
      constructor
      · intro h j y hj hy
        by_cases e : j = i
        · subst e; rw [hx] at hy; cases hy; exact hc
        · exact h j y (by omega) hy
      · intro h j y hj hy
        exact h j y (by omega) hy
theorem lst_iff (L : List Sa) : lst L L 0 = true ↔ Apart L := by
  have h := lst_drop L L.length 0 (by omega)
  rw [List.drop_zero] at h
  rw [h]
  constructor
  · intro h
    unfold Apart List.Nodup
    rw [List.pairwise_map, List.pairwise_iff_getElem]
    intro i j hi hj hij e
    exact h j L[j] (Nat.zero_le _) (List.getElem?_eq_getElem hj) (Nat.lt_of_le_of_lt (fnd_le_of (List.getElem?_eq_getElem hi) e) hij)
  · intro h j x _ hx hlt
    rcases fnd_spec x L with ⟨h1, _⟩ | ⟨_, z, h2, h3⟩
    · have := (List.getElem?_eq_some_iff.1 hx).1
      omega
    · have := apart_get h h2 hx h3
      omega

theorem gdS_iff (i : Nat) (s : Sa) : gdS i s = true ↔ -1 ≤ s.p ∧ s.p < i ∧ 0 ≤ s.t ∧ 0 ≤ s.w ∧ s.w ≤ 1152921504606846976 ∧ gdE s.e = true := by
  simp [gdS]
theorem gdL_iff : ∀ (l : List Sa) (i : Nat), gdL l i = true ↔ ∀ j x, l[j]? = some x → gdS (i + j) x = true
  | [], i => by simp [gdL]
  | s :: l, i => by
    simp only [gdL, Bool.and_eq_true, gdL_iff l (i + 1)]
    constructor
    · rintro ⟨h1, h2⟩ j x hx
      cases j with
      | zero => simp at hx; subst hx; exact h1
      | succ j => have := h2 j x (by simpa using hx); rwa [show i + 1 + j = i + (j + 1) by omega] at this
    · intro h
      exact ⟨h 0 s rfl, fun j x hx => by have := h (j + 1) x (by simpa using hx); rwa [show i + (j + 1) = i + 1 + j by omega] at this⟩

theorem look_id {i : Nat} {p : Int} (h1 : -1 ≤ p) (h2 : p < i) : look (List.range i) p = p := by
  unfold look
  by_cases hp : p = -1
  · rw [if_pos hp, hp]
  · rw [if_neg hp]
    have hlt : p.toNat < i := by omega
    rw [List.getD_eq_getElem?_getD, List.getElem?_range hlt]
    simp; omega
theorem look_lt {bec : List Nat} {n : Nat} (hb : ∀ x ∈ bec, x < n) {p : Int} (h1 : -1 ≤ p) (h2 : p < bec.length) : -1 ≤ look bec p ∧ look bec p < n := by
  unfold look
  by_cases hp : p = -1
  · rw [if_pos hp]; omega
  · rw [if_neg hp]
    have hlt : p.toNat < bec.length := by omega
    rw [List.getD_eq_getElem?_getD, List.getElem?_eq_getElem hlt, Option.getD_some]
    have := hb _ (List.getElem_mem hlt)
    omega

/-- what is so behind each state. -/
structure Inv (D out : List Sa) (bec : List Nat) : Prop where
  len : bec.length = D.length
  lt : ∀ x ∈ bec, x < out.length
  apart : Apart out
  form : gdL out 0 = true
  le : out.length ≤ D.length
  all : out.length = D.length → bec = List.range D.length ∧ out.map bareS = D.map bareS
  same : Apart D → out = D

theorem bare_key {bec : List Nat} {s : Sa} (h : look bec s.p = s.p) : bareS (keyS bec s) = bareS s := by
  unfold bareS keyS; rw [h]
theorem add_key {bec : List Nat} {s : Sa} (h : look bec s.p = s.p) : addE s.e (keyS bec s) = s := by
  unfold addE keyS; rw [h]; rfl
theorem bare_add (es : List En) (s : Sa) : bareS (addE es s) = bareS s := rfl
theorem map_set_bare {l : List Sa} {n : Nat} {x : Sa} (h : l[n]? = some x) (es : List En) : (l.set n (addE es x)).map bareS = l.map bareS := by
  rw [List.map_set, bare_add]
  apply List.ext_getElem?
  intro j
  rw [List.getElem?_set]
  split
  · rename_i e
    subst e
    have hn := (List.getElem?_eq_some_iff.1 h).1
    rw [if_pos (by simpa using hn), List.getElem?_map, h]; rfl
  · rfl

theorem inv_step {D out : List Sa} {bec : List Nat} (h : Inv D out bec) {s : Sa} (hs : gdS D.length s = true) : Inv (D ++ [s]) (mstep (out, bec) s).1 (mstep (out, bec) s).2 := by
  obtain ⟨g1, g2, g3, g4, g5, g8⟩ := (gdS_iff _ _).1 hs
  obtain ⟨k1, k2⟩ := look_lt h.lt g1 (by rw [h.len]; exact g2)
  have hform := (gdL_iff _ _).1 h.form
  rcases fnd_spec (keyS bec s) out with ⟨hf, hno⟩ | ⟨hf, x, hx, hbx⟩
  · -- a new one
    have e1 : put1 out (keyS bec s) = out ++ [keyS bec s] := if_pos hf
    have e2 : (out ++ [keyS bec s])[out.length]? = some (keyS bec s) := by simp
    have e3 : mstep (out, bec) s = (out ++ [addE s.e (keyS bec s)], bec ++ [out.length]) := by
      simp only [mstep]
      rw [e1, hf, upd_get e2]
      congr 1
      rw [List.set_append_right _ _ (by omega)]
      simp
    rw [e3]
    refine ⟨by simp [h.len], fun x hx => ?_, ?_, ?_, by have := h.le; simp; omega, fun hl => ?_, fun ha => ?_⟩
    · simp only [List.length_append, List.length_singleton]
      rcases List.mem_append.1 hx with hx | hx
      · have := h.lt x hx; omega
      · simp at hx; omega
    · unfold Apart
      rw [List.map_append, List.nodup_append]
      refine ⟨h.apart, by simp, fun a ha b hb e => ?_⟩
      simp only [List.map_cons, List.map_nil, List.mem_singleton] at hb
      obtain ⟨z, hz, rfl⟩ := List.mem_map.1 ha
      exact hno z hz (e.trans hb)
    · rw [gdL_iff]
      intro j x hx
      rw [List.getElem?_append] at hx
      split at hx
      · exact hform j x hx
      · rename_i hj
        have hj0 : j = out.length := by
          have := (List.getElem?_eq_some_iff.1 hx).1
          simp at this; omega
        subst hj0
        simp at hx
        subst hx
        rw [gdS_iff]
        refine ⟨k1, ?_, g3, g4, g5, ?_⟩
        · rw [Nat.zero_add]; exact k2
        · simpa [addE, keyS] using g8
    · have hl' : out.length = D.length := by simpa using hl
      obtain ⟨a1, a2⟩ := h.all hl'
      have hlk : look bec s.p = s.p := by rw [a1]; exact look_id g1 g2
      refine ⟨by rw [a1, hl']; simp [List.range_succ], ?_⟩
      rw [List.map_append, List.map_append, a2]
      simp only [List.map_cons, List.map_nil, bare_add, bare_key hlk]
    · have hD : Apart D := by
        unfold Apart at ha ⊢
        rw [List.map_append, List.nodup_append] at ha
        exact ha.1
      have hod := h.same hD
      obtain ⟨a1, a2⟩ := h.all (by rw [hod])
      have hlk : look bec s.p = s.p := by rw [a1]; exact look_id g1 g2
      rw [hod, add_key hlk]
  · -- one that is there
    have e1 : put1 out (keyS bec s) = out := if_neg (by omega)
    have e3 : mstep (out, bec) s = (out.set (fnd out (keyS bec s)) (addE s.e x), bec ++ [fnd out (keyS bec s)]) := by
      simp only [mstep]
      rw [e1, upd_get hx]
    rw [e3]
    refine ⟨by simp [h.len], fun y hy => ?_, ?_, ?_, by have := h.le; simp; omega, fun hl => ?_, fun ha => ?_⟩
    · rw [List.length_set]
      rcases List.mem_append.1 hy with hy | hy
      · exact h.lt y hy
      · simp at hy; omega
    · unfold Apart
      rw [map_set_bare hx]
      exact h.apart
    · rw [gdL_iff]
      intro j y hy
      rw [List.getElem?_set] at hy
      split at hy
      · rename_i e
        subst e
        simp only [hf, if_true, Option.some.injEq] at hy
        subst hy
        have hgx := (gdS_iff _ _).1 (hform _ x hx)
        rw [gdS_iff]
        refine ⟨hgx.1, hgx.2.1, hgx.2.2.1, hgx.2.2.2.1, hgx.2.2.2.2.1, ?_⟩
        have h5 := hgx.2.2.2.2.2
        unfold gdE at h5 g8 ⊢
        simp only [addE, List.all_append, h5, g8, Bool.and_self]
      · exact hform j y hy
    · have := h.le
      simp at hl
      omega
    · exfalso
      have hD : Apart D := by
        unfold Apart at ha ⊢
        rw [List.map_append, List.nodup_append] at ha
        exact ha.1
      have hod := h.same hD
      obtain ⟨a1, a2⟩ := h.all (by rw [hod])
      have hlk : look bec s.p = s.p := by rw [a1]; exact look_id g1 g2
      unfold Apart at ha
      rw [List.map_append, List.nodup_append] at ha
      refine ha.2.2 (bareS x) (List.mem_map.2 ⟨x, ?_, rfl⟩) (bareS s) (by simp) (by rw [hbx, bare_key hlk])
      rw [← hod]
      exact List.mem_of_getElem? hx
theorem inv_fold : ∀ (rest D out : List Sa) (bec : List Nat), Inv D out bec → gdL rest D.length = true → Inv (D ++ rest) (rest.foldl mstep (out, bec)).1 (rest.foldl mstep (out, bec)).2
  | [], D, out, bec, h, _ => by simpa using h
  | s :: rest, D, out, bec, h, hg => by
    simp only [gdL, Bool.and_eq_true] at hg
    have ih := inv_fold rest (D ++ [s]) (mstep (out, bec) s).1 (mstep (out, bec) s).2 (inv_step h hg.1) (by simpa using hg.2)
    simpa using ih
theorem inv_mrg {L : List Sa} (hg : gdL L 0 = true) : ∃ bec, Inv L (mrg L) bec := by
  have h := inv_fold L [] [] [] ⟨rfl, by simp, by simp [Apart], rfl, by simp, fun _ => ⟨rfl, rfl⟩, fun _ => rfl⟩ hg
  rw [List.nil_append] at h
  exact ⟨_, h⟩
theorem ok_fold : ∀ (rest out : List Sa) (bec : List Nat), okSas out → (∀ s ∈ rest, okSa s) → out.length + rest.length < 1048577 → tot out + tot rest < 536870912 →
    okSas (rest.foldl mstep (out, bec)).1 ∧ tot (rest.foldl mstep (out, bec)).1 = tot out + tot rest
  | [], out, bec, ho, _, _, _ => ⟨ho, by simp [tot]⟩
  | s :: rest, out, bec, ho, hr, hl, ht => by
    simp only [tot, List.length_cons] at ht hl
    obtain ⟨o1, o2, o3⟩ := mstep_ok (bec := bec) ho (hr s List.mem_cons_self) (by omega) (by omega)
    have ih := ok_fold rest (mstep (out, bec) s).1 (mstep (out, bec) s).2 o1 (fun x hx => hr x (List.mem_cons_of_mem _ hx)) (by omega) (by omega)
    refine ⟨ih.1, ?_⟩
    have := ih.2
    simp only [List.foldl_cons, tot]
    rw [this]; omega
theorem ok_mrg {L : List Sa} (hL : okSas L) (ht : tot L < 536870912) : okSas (mrg L) ∧ tot (mrg L) = tot L := by
  have := ok_fold L [] [] ⟨by simp, by simp⟩ hL.2 (by have := hL.1; simp; omega) (by simpa [tot] using ht)
  exact ⟨this.1, this.2.trans (by simp [tot])⟩
/-- all that is asked of what is merged. -/
theorem mrg_facts {L : List Sa} {a : Int} (hg : good a L = true) : lst (mrg L) (mrg L) 0 = true ∧ mrg (mrg L) = mrg L ∧ good a (mrg L) = true ∧ (mrg L).length ≤ L.length ∧ (lst L L 0 = true ↔ L.length = (mrg L).length) := by
  simp only [good, Bool.and_eq_true, decide_eq_true_eq] at hg
  obtain ⟨g1, g2, g3, g4⟩ := hg
  obtain ⟨bec, h⟩ := inv_mrg g4
  obtain ⟨bec', h'⟩ := inv_mrg h.form
  have hle := h.le
  refine ⟨(lst_iff _).2 h.apart, h'.same h.apart, ?_, hle, ?_⟩
  · simp only [good, Bool.and_eq_true, decide_eq_true_eq]
    exact ⟨g1, g2, by omega, h.form⟩
  · rw [lst_iff]
    constructor
    · intro ha
      rw [h.same ha]
    · intro hl
      unfold Apart
      rw [← (h.all hl.symm).2]
      exact h.apart
end Ab
end Go.Proofs.YtgghingfdcmelaaGreat

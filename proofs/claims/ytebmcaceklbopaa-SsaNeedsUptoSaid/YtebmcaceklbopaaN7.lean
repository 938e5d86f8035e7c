/-
  The program's maker and the document's go together, as long as code isn't too long.
-/
import Derived.Test.YtebmcaceklbopaaN6
set_option linter.unusedVariables false
set_option linter.unusedSimpArgs false
namespace Go.Proofs.Ytebmcaceklbopaa
namespace Ab

def kd (x : Ins4) : (Int × Int × Int) × Int := ((x.op, x.a, x.b), x.dst)
structure Rl (sh : Bool) (s : SS) (t : SR) : Prop where
  lg : s.lg = true → 1024 ≤ s.L.length ∧ 1024 < t.L.length
  eq : s.lg = false → s.I = t.I ∧ s.C = t.C ∧ s.L = t.L ∧ s.L.length ≤ 1024 ∧ (sh = true → s.M = s.L.map kd)
  dst : ∀ (i : Nat) x, s.L[i]? = some x → x.dst = (i : Int)

theorem mf_fi (op a b : Int) : ∀ (l : List Ins4) (i : Nat), (∀ (j : Nat) x, l[j]? = some x → x.dst = ((i + j : Nat) : Int)) →
    mf (op, a, b) (l.map kd) = (fi (fun x => true && same3 op a b x) l i).map fun n => (n : Int)
  | [], i, _ => rfl
  | x :: l, i, h => by
    have ih := mf_fi op a b l (i + 1) (fun j y e => by have := h (j + 1) y (by simpa using e); rw [this]; congr 1; omega)
    have h0 := h 0 x rfl
    simp only [List.map_cons, kd, mf, fi, Bool.true_and] at ih ⊢
    by_cases hk : op = x.op ∧ a = x.a ∧ b = x.b
    · obtain ⟨rfl, rfl, rfl⟩ := hk
      simp [same3, h0]
    · have h1 : ¬ ((op, a, b) : Int × Int × Int) = (x.op, x.a, x.b) := by simpa using hk
      have h2 : same3 op a b x = false := by
        cases hs : same3 op a b x with
        | false => rfl
        | true =>
          simp only [same3, Bool.and_eq_true, beq_iff_eq] at hs
          exact absurd ⟨hs.1.symm, hs.2.1.symm, hs.2.2.symm⟩ hk
      rw [if_neg h1, h2, if_neg (by simp)]
      exact ih
theorem mput_none (k : Int × Int × Int) (r : Int) : ∀ M : Mt, mf k M = none → mput k r M = M ++ [(k, r)]
  | [], _ => rfl
  | (k', r') :: l, h => by
    simp only [mf] at h
    split at h
    · cases h
    · rename_i hn
      simp only [mput, if_neg hn, mput_none k r l h, List.cons_append]
theorem fi_no {α : Type} (p : α → Bool) : ∀ (l : List α) (i : Nat), fi (fun x => false && p x) l i = none
  | [], _ => rfl
  | x :: l, i => by simp only [fi, Bool.false_and, Bool.false_eq_true, if_false]; exact fi_no p l (i + 1)
theorem dst_app {L : List Ins4} {x : Ins4} (h : ∀ (i : Nat) y, L[i]? = some y → y.dst = (i : Int)) (hx : x.dst = (L.length : Int)) : ∀ (i : Nat) y, (L ++ [x])[i]? = some y → y.dst = (i : Int) := by
  intro i y e
  by_cases hi : i < L.length
  · rw [List.getElem?_append_left hi] at e; exact h i y e
  · rw [List.getElem?_append_right (by omega)] at e
    have : i - L.length = 0 := by
      rcases Nat.eq_zero_or_pos (i - L.length) with h | h
      · exact h
      · rw [List.getElem?_eq_none (by simp only [List.length_singleton]; omega)] at e; cases e
    rw [this] at e
    simp at e
    subst e
    rw [hx]; congr 1; omega

theorem rel_put {sh : Bool} {s : SS} {t : SR} (h : Rl sh s t) (op : Int) {a b a' b' : Int} (hab : s.lg = false → a = a' ∧ b = b') :
    Rl sh (putSS sh op a b s).2 (putRR sh op a' b' t).2 ∧ ((putSS sh op a b s).2.lg = false → (putSS sh op a b s).1 = (putRR sh op a' b' t).1) ∧ (s.lg = true → (putSS sh op a b s).2.lg = true) := by
  obtain ⟨I, C, L, M, lg⟩ := s
  obtain ⟨I', C', L'⟩ := t
  have hle := (putR_len sh op a' b' L').2
  cases lg with
  | true =>
    obtain ⟨h1, h2⟩ := h.lg rfl
    simp only at h1 h2
    have e : (putS sh true op a b L M).2.1 = L ∧ (putS sh true op a b L M).2.2.2 = true := by
      unfold putS
      split
      · exact ⟨rfl, rfl⟩
      · first | exact ⟨rfl, rfl⟩ | (rw [if_pos h1]; exact ⟨rfl, rfl⟩)
    refine ⟨⟨fun _ => ⟨?_, ?_⟩, fun hf => ?_, fun i x hx => ?_⟩, fun hf => ?_, fun _ => ?_⟩
    · simp only [putSS, e.1]; exact h1
    · simp only [putRR]; omega
    · simp only [putSS, e.2] at hf; cases hf
    · simp only [putSS, e.1] at hx; exact h.dst i x hx
    · simp only [putSS, e.2] at hf; cases hf
    · simp only [putSS, e.2]
  | false =>
    obtain ⟨h1, h2, h3, h4, h5⟩ := h.eq rfl
    obtain ⟨rfl, rfl⟩ := hab rfl
    simp only at h1 h2 h3 h4 h5
    subst h1; subst h2; subst h3
    have hd := h.dst
    simp only at hd
    -- nothing is found
    have none_ : fi (fun x => sh && same3 op a b x) L 0 = none → ¬ (sh = true ∧ (mf (op, a, b) M).isSome = true) → (sh = true → mput (op, a, b) (L.length : Int) M = (L ++ [(⟨op, L.length, a, b⟩ : Ins4)]).map kd) →
        Rl sh (putSS sh op a b ⟨I, C, L, M, false⟩).2 (putRR sh op a b ⟨I, C, L⟩).2 ∧ ((putSS sh op a b ⟨I, C, L, M, false⟩).2.lg = false → (putSS sh op a b ⟨I, C, L, M, false⟩).1 = (putRR sh op a b ⟨I, C, L⟩).1) ∧ (false = true → (putSS sh op a b ⟨I, C, L, M, false⟩).2.lg = true) := by
      intro hn hm hM
      have er : putR sh op a b L = (L.length, L ++ [(⟨op, L.length, a, b⟩ : Ins4)]) := by unfold putR; rw [hn]
      by_cases hb : 1024 ≤ L.length
      · have es : putS sh false op a b L M = (0, L, M, true) := by unfold putS; rw [if_neg hm, if_pos hb]
        refine ⟨⟨fun _ => ⟨?_, ?_⟩, fun hf => ?_, fun i x hx => ?_⟩, fun hf => ?_, fun hf => by cases hf⟩
        · simp only [putSS, es]; exact hb
        · simp only [putRR, er, List.length_append, List.length_singleton]; omega
        · simp only [putSS, es] at hf; cases hf
        · simp only [putSS, es] at hx; exact hd i x hx
        · simp only [putSS, es] at hf; cases hf
      · have es : putS sh false op a b L M = ((L.length : Int), L ++ [(⟨op, L.length, a, b⟩ : Ins4)], mput (op, a, b) (L.length : Int) M, false) := by unfold putS; rw [if_neg hm, if_neg hb]
        refine ⟨⟨fun hf => ?_, fun _ => ⟨rfl, rfl, ?_, ?_, fun hs => ?_⟩, fun i x hx => ?_⟩, fun _ => ?_, fun hf => by cases hf⟩
        · simp only [putSS, es] at hf; cases hf
        · simp only [putSS, putRR, es, er]
        · simp only [putSS, es, List.length_append, List.length_singleton]; omega
        · simp only [putSS, es]; exact hM hs
        · simp only [putSS, es] at hx; exact dst_app hd rfl i x hx
        · simp only [putSS, putRR, es, er]
    cases sh with
    | false => exact none_ (fi_no _ _ _) (by simp) (fun h => by cases h)
    | true =>
      have hM := h5 rfl
      subst hM
      have hf := mf_fi op a b L 0 (fun j x e => by rw [hd j x e]; congr 1; omega)
      cases hfi : fi (fun x => true && same3 op a b x) L 0 with
      | none =>
        rw [hfi] at hf
        refine none_ hfi (by rw [hf]; simp) (fun _ => ?_)
        rw [mput_none _ _ _ hf, List.map_append]; rfl
      | some i =>
        rw [hfi] at hf
        have es : putS true false op a b L (L.map kd) = ((i : Int), L, L.map kd, false) := by unfold putS; rw [hf]; simp
        have er : putR true op a b L = (i, L) := by unfold putR; rw [hfi]
        refine ⟨⟨fun hf => ?_, fun _ => ⟨rfl, rfl, ?_, ?_, fun hs => ?_⟩, fun j x hx => ?_⟩, fun _ => ?_, fun hf => by cases hf⟩
        · simp only [putSS, es] at hf; cases hf
        · simp only [putSS, putRR, es, er]
        · simp only [putSS, es]; exact h4
        · simp only [putSS, es]
        · simp only [putSS, es] at hx; exact hd j x hx
        · simp only [putSS, putRR, es, er]

theorem rel_node {sh : Bool} (n : Nd) (s : SS) : ∀ t, Rl sh s t → rightB n = true →
    Rl sh (nodeS sh n s).2 (nodeR sh n t).2 ∧ ((nodeS sh n s).2.lg = false → (nodeS sh n s).1 = (nodeR sh n t).1) ∧ (s.lg = true → (nodeS sh n s).2.lg = true) := by
  have stay : ∀ (n : Nd) (s : SS) (t : SR), s.lg = true → Rl sh s t → Rl sh s (nodeR sh n t).2 := by
    intro n s t hl h
    have := (nodeR_bd sh n t).le
    have := h.lg hl
    exact ⟨fun _ => ⟨this.1, by omega⟩, fun hf => (by rw [hl] at hf; cases hf), h.dst⟩
  fun_induction nodeS sh n s <;> intro t h hr
  · rename_i hl
    exact ⟨stay _ _ _ hl h, fun hf => (by rw [hl] at hf; cases hf), fun _ => hl⟩
  · rename_i kind vk vb pos attr s hl
    have hf : s.lg = false := by simpa using hl
    obtain ⟨h1, h2, h3, h4, h5⟩ := h.eq hf
    have hb : ¬ 3000 < t.L.length := by rw [← h3]; omega
    have e : nodeR sh (.mk 40 kind [] vk vb pos attr) t = putRR sh 51 (plc ⟨vk, vb⟩ t.C).1 0 { t with C := (plc ⟨vk, vb⟩ t.C).2 } := by rw [nodeR, if_neg hb, if_pos rfl]
    rw [e, ← h2]
    have := rel_put (sh := sh) (s := { s with C := (plc ⟨vk, vb⟩ s.C).2 }) (t := { t with C := (plc ⟨vk, vb⟩ s.C).2 }) ⟨fun hl => (by rw [show s.lg = false from hf] at hl; cases hl), fun _ => ⟨h1, rfl, h3, h4, h5⟩, h.dst⟩ 51 (a := (plc ⟨vk, vb⟩ s.C).1) (b := 0) (a' := (plc ⟨vk, vb⟩ s.C).1) (b' := 0) (fun _ => ⟨rfl, rfl⟩)
    exact this
  · rename_i op kind vk vb pos attr s hl h40
    have hf : s.lg = false := by simpa using hl
    obtain ⟨h1, h2, h3, h4, h5⟩ := h.eq hf
    have hb : ¬ 3000 < t.L.length := by rw [← h3]; omega
    have e : nodeR sh (.mk op kind [] vk vb pos attr) t = putRR sh 50 (plc ⟨op, kind, pos, attr⟩ t.I).1 0 { t with I := (plc ⟨op, kind, pos, attr⟩ t.I).2 } := by rw [nodeR, if_neg hb, if_neg h40]
    rw [e, ← h1]
    have := rel_put (sh := sh) (s := { s with I := (plc ⟨op, kind, pos, attr⟩ s.I).2 }) (t := { t with I := (plc ⟨op, kind, pos, attr⟩ s.I).2 }) ⟨fun hl => (by rw [show s.lg = false from hf] at hl; cases hl), fun _ => ⟨rfl, h2, h3, h4, h5⟩, h.dst⟩ 50 (a := (plc ⟨op, kind, pos, attr⟩ s.I).1) (b := 0) (a' := (plc ⟨op, kind, pos, attr⟩ s.I).1) (b' := 0) (fun _ => ⟨rfl, rfl⟩)
    exact this
  · rename_i hl
    exact ⟨stay _ _ _ hl h, fun hf => (by rw [hl] at hf; cases hf), fun _ => hl⟩
  · rename_i op kind x vk vb pos attr s hl ih
    have hf : s.lg = false := by simpa using hl
    obtain ⟨h1, h2, h3, h4, h5⟩ := h.eq hf
    have hb : ¬ 3000 < t.L.length := by rw [← h3]; omega
    have hx : rightB x = true := by
      rcases rightB_len hr with h | ⟨_, h, h1⟩ | ⟨_, _, h, _⟩ <;> simp [Nd.args] at h
      rw [h]; exact h1
    have e : nodeR sh (.mk op kind [x] vk vb pos attr) t = putRR sh op (nodeR sh x t).1 0 (nodeR sh x t).2 := by rw [nodeR, if_neg hb]
    rw [e]
    obtain ⟨r1, r2, _⟩ := ih t h hx
    obtain ⟨p1, p2, p3⟩ := rel_put r1 op (a := (nodeS sh x s).1) (b := 0) (a' := (nodeR sh x t).1) (b' := 0) (fun hl => ⟨r2 hl, rfl⟩)
    exact ⟨p1, p2, fun hl' => by rw [hf] at hl'; cases hl'⟩
  · rename_i hl
    exact ⟨stay _ _ _ hl h, fun hf => (by rw [hl] at hf; cases hf), fun _ => hl⟩
  · rename_i op kind x y vk vb pos attr s hl ih1 ih2
    have hf : s.lg = false := by simpa using hl
    obtain ⟨h1, h2, h3, h4, h5⟩ := h.eq hf
    have hb : ¬ 3000 < t.L.length := by rw [← h3]; omega
    have hxy : rightB x = true ∧ rightB y = true := by
      rcases rightB_len hr with h | ⟨_, h, _⟩ | ⟨_, _, h, h1, h2⟩ <;> simp [Nd.args] at h
      rw [h.1, h.2]; exact ⟨h1, h2⟩
    have e : nodeR sh (.mk op kind [x, y] vk vb pos attr) t = putRR sh op (nodeR sh x t).1 (nodeR sh y (nodeR sh x t).2).1 (nodeR sh y (nodeR sh x t).2).2 := by rw [nodeR, if_neg hb]
    rw [e]
    obtain ⟨r1, r2, _⟩ := ih1 t h hxy.1
    obtain ⟨q1, q2, q3⟩ := ih2 (nodeR sh x t).2 r1 hxy.2
    obtain ⟨p1, p2, p3⟩ := rel_put q1 op (a := (nodeS sh x s).1) (b := (nodeS sh y (nodeS sh x s).2).1) (a' := (nodeR sh x t).1) (b' := (nodeR sh y (nodeR sh x t).2).1) (fun hl => ⟨r2 (by
      cases hh : (nodeS sh x s).2.lg with
      | false => rfl
      | true => rw [q3 hh] at hl; cases hl), q2 hl⟩)
    exact ⟨p1, p2, fun hl' => by rw [hf] at hl'; cases hl'⟩
  · rcases rightB_len hr with h | ⟨_, h, _⟩ | ⟨_, _, h, _⟩ <;> simp [Nd.args] at h
end Ab
end Go.Proofs.Ytebmcaceklbopaa

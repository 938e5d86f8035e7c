/-
  The code of a node: what the program's maker does, exactly.
-/
import Derived.Test.YtebmcaceklbopaaN4
set_option linter.unusedVariables false
set_option linter.unusedSimpArgs false
namespace Go.Proofs.Ytebmcaceklbopaa
namespace Ab

structure SS where
  I : List In4
  C : List Vl
  L : List Ins4
  M : Mt
  lg : Bool
def putSS (sh : Bool) (op a b : Int) (s : SS) : Int × SS :=
  ((putS sh s.lg op a b s.L s.M).1, ⟨s.I, s.C, (putS sh s.lg op a b s.L s.M).2.1, (putS sh s.lg op a b s.L s.M).2.2.1, (putS sh s.lg op a b s.L s.M).2.2.2⟩)
def nodeS (sh : Bool) : Nd → SS → Int × SS
  | .mk op kind [] vk vb pos attr, s => if s.lg then (0, s) else
      if op = 40 then putSS sh 51 (plc ⟨vk, vb⟩ s.C).1 0 { s with C := (plc ⟨vk, vb⟩ s.C).2 }
      else putSS sh 50 (plc ⟨op, kind, pos, attr⟩ s.I).1 0 { s with I := (plc ⟨op, kind, pos, attr⟩ s.I).2 }
  | .mk op _ [x] _ _ _ _, s => if s.lg then (0, s) else putSS sh op (nodeS sh x s).1 0 (nodeS sh x s).2
  | .mk op _ [x, y] _ _ _ _, s => if s.lg then (0, s) else putSS sh op (nodeS sh x s).1 (nodeS sh y (nodeS sh x s).2).1 (nodeS sh y (nodeS sh x s).2).2
  | .mk _ _ (_ :: _ :: _ :: _) _ _ _ _, s => (0, s)
def tupS (sh : Bool) (a0 a1 : Int) (x : Int × SS) : R25d := (x.1, a0, a1, x.2.I.map inR, x.2.C.map vlR, x.2.L.map insR, sh, esR x.2.M, x.2.lg)

structure Bd (s t : SS) (n : Nat) : Prop where
  I : t.I.length ≤ s.I.length + n
  C : t.C.length ≤ s.C.length + n
  L : t.L.length ≤ s.L.length + n
theorem Bd.refl (s : SS) (n : Nat) : Bd s s n := ⟨by omega, by omega, by omega⟩
theorem Bd.trans {s t u : SS} {n m k : Nat} (h1 : Bd s t n) (h2 : Bd t u m) (h : n + m ≤ k) : Bd s u k :=
  ⟨by have := h1.I; have := h2.I; omega, by have := h1.C; have := h2.C; omega, by have := h1.L; have := h2.L; omega⟩
theorem plc_len {α : Type} [DecidableEq α] (x : α) (l : List α) : (plc x l).2.length ≤ l.length + 1 := by
  unfold plc; split <;> simp
theorem putS_len (sh lg : Bool) (op a b : Int) (L : List Ins4) (M : Mt) : (putS sh lg op a b L M).2.1.length ≤ L.length + 1 := by
  unfold putS; split
  · simp
  · split <;> simp
theorem putSS_bd (sh : Bool) (op a b : Int) (s : SS) : Bd s (putSS sh op a b s).2 1 := ⟨by simp [putSS], by simp [putSS], putS_len _ _ _ _ _ _ _⟩
theorem nodeS_bd (sh : Bool) (n : Nd) (s : SS) : Bd s (nodeS sh n s).2 (cnt n) := by
  fun_induction nodeS sh n s
  · exact Bd.refl _ _
  · refine Bd.trans (t := _) (n := 1) (m := 0) ⟨?_, ?_, ?_⟩ (Bd.refl _ _) (by simp [cnt])
    · simp [putSS]
    · simp only [putSS]; exact plc_len _ _
    · exact putS_len _ _ _ _ _ _ _
  · refine Bd.trans (t := _) (n := 1) (m := 0) ⟨?_, ?_, ?_⟩ (Bd.refl _ _) (by simp [cnt])
    · simp only [putSS]; exact plc_len _ _
    · simp [putSS]
    · exact putS_len _ _ _ _ _ _ _
  · exact Bd.refl _ _
  · rename_i ih
    exact ih.trans (putSS_bd _ _ _ _ _) (by simp [cnt, cnts])
  · exact Bd.refl _ _
  · rename_i ih1 ih2
    exact (ih1.trans ih2 (Nat.le_refl _)).trans (putSS_bd _ _ _ _ _) (by simp [cnt, cnts])
  · exact Bd.refl _ _

theorem ixR_0 {α : Type} {r : List Cell} {l : Rs} (k : List Cell → Option α) : ixR (r :: l) 0 k = k r := rfl
theorem ixR_1 {α : Type} {r r' : List Cell} {l : Rs} (k : List Cell → Option α) : ixR (r :: r' :: l) 1 k = k r' := rfl
/-- two calls of itself. -/
theorem Goes.self2 {S R : Type} {step : Nat → (S → Option R) → S → Option R} {s s1 s2 s' : S} {r1 r2 r : R} (h1 : Goes step s1 r1) (h2 : Goes step s2 r2) (h : Goes step s' r) (e : ∀ k rec, rec s1 = some r1 → rec s2 = some r2 → step k rec s = rec s') : Goes step s r := by
  obtain ⟨N, hN⟩ := h1
  obtain ⟨N2, hN2⟩ := h2
  obtain ⟨M, hM⟩ := h
  refine ⟨max (max N N2) M + 1, fun k hk => ?_⟩
  obtain ⟨j, rfl⟩ : ∃ j, k = j + 1 := ⟨k - 1, by omega⟩
  show step j (itS step j) s = some r
  rw [e j (itS step j) (hN j (by omega)) (hN2 j (by omega))]
  exact hM j (by omega)
theorem g26_ss {sh : Bool} {op d a b a0 a1 : Int} (s : SS) (hl : s.L.length < 1073741824) :
    Tot (fun k => g26e k op d a b a0 a1 (s.I.map inR) (s.C.map vlR) (s.L.map insR) sh (esR s.M) s.lg) (tupS sh a0 a1 (putSS sh op a b s)) := g26_put s.L s.M hl

theorem g25_end {sh : Bool} {op d a b a0 a1 : Int} (s : SS) (hl : s.L.length < 1073741824) :
    Goes step25d (.h0 op d a b a0 a1 (s.I.map inR) (s.C.map vlR) (s.L.map insR) sh (esR s.M) s.lg) (tupS sh a0 a1 (putSS sh op a b s)) := by
  obtain ⟨N, hN⟩ := g26_ss (sh := sh) (op := op) (d := d) (a := a) (b := b) (a0 := a0) (a1 := a1) s hl
  refine Goes.fin ⟨N, fun k hk rec => ?_⟩
  show t25d_h0 k rec _ _ _ _ _ _ _ _ _ _ _ _ = _
  unfold t25d_h0
  have hk' : g26e k op d a b a0 a1 (s.I.map inR) (s.C.map vlR) (s.L.map insR) sh (esR s.M) s.lg = some (tupS sh a0 a1 (putSS sh op a b s)) := hN k hk
  rw [hk']
  rfl

theorem rightB_len {n : Nd} (h : rightB n = true) : n.args = [] ∨ (∃ x, n.args = [x] ∧ rightB x = true) ∨ (∃ x y, n.args = [x, y] ∧ rightB x = true ∧ rightB y = true) := by
  by_cases h0 : n.args = []
  · exact .inl h0
  · rw [rightB_node h0, Bool.and_eq_true, beq_iff_eq] at h
    obtain ⟨h1, h2⟩ := h
    match he : n.args with
    | [] => exact .inl rfl
    | [x] =>
      rw [he] at h2
      exact .inr (.inl ⟨x, rfl, by simpa [rightBs] using h2⟩)
    | [x, y] =>
      rw [he] at h2
      exact .inr (.inr ⟨x, y, rfl, by simpa [rightBs] using h2⟩)
    | x :: y :: z :: l =>
      rw [he] at h1
      rcases nOps_cases n.op with h | h | h <;> rw [h] at h1 <;> simp at h1 <;> omega

theorem g25_node {sh : Bool} {a0 a1 : Int} (n : Nd) (s : SS) : rightB n = true → s.I.length + cnt n < 1073741824 → s.C.length + cnt n < 1073741824 → s.L.length + cnt n < 1073741824 →
    Goes step25d (.e n.op n.kind (ndRows n.args) n.vk n.vb n.pos n.attr a0 a1 (s.I.map inR) (s.C.map vlR) (s.L.map insR) sh (esR s.M) s.lg) (tupS sh a0 a1 (nodeS sh n s)) := by
  fun_induction nodeS sh n s <;> intro hr hI hC hL
  · rename_i hlg
    refine Goes.fin0 fun k rec => ?_
    show t25d_e k rec _ _ _ _ _ _ _ _ _ _ _ _ _ _ _ = _
    unfold t25d_e
    rw [hlg, cond_true]; simp [tupS, hlg]
  · rename_i kind vk vb pos attr s hlg
    have hf : s.lg = false := by simpa using hlg
    obtain ⟨N1, hN1⟩ := g36_plc (x := ⟨vk, vb⟩) (a0 := a0) (a1 := a1) (A := s.I.map inR) (L := s.L.map insR) (sh := sh) (lg := false) (es := esR s.M) s.C (by omega)
    obtain ⟨N2, hN2⟩ := g26_ss (sh := sh) (op := 51) (d := 0) (a := (plc ⟨vk, vb⟩ s.C).1) (b := 0) (a0 := a0) (a1 := a1) { s with C := (plc ⟨vk, vb⟩ s.C).2 } (by show s.L.length < _; omega)
    refine Goes.fin ⟨max N1 N2, fun k hk rec => ?_⟩
    have h1 : g36d k vk vb a0 a1 (s.I.map inR) (s.C.map vlR) (s.L.map insR) sh (esR s.M) false = some (((plc ⟨vk, vb⟩ s.C).1 : Int), a0, a1, s.I.map inR, (plc ⟨vk, vb⟩ s.C).2.map vlR, s.L.map insR, sh, esR s.M, false) := hN1 k (by omega)
    have h2 : g26e k 51 0 ((plc ⟨vk, vb⟩ s.C).1 : Int) 0 a0 a1 (s.I.map inR) ((plc ⟨vk, vb⟩ s.C).2.map vlR) (s.L.map insR) sh (esR s.M) s.lg = some _ := hN2 k (by omega)
    rw [hf] at h2
    have e40 : ((40 : Int) == 40) = true := rfl
    show t25d_e k rec 40 kind [] vk vb pos attr a0 a1 _ _ _ _ _ s.lg = _
    unfold t25d_e
    rw [hf, cond_false, show (((([] : Rs)).length : Int) == 0) = true from rfl, cond_true, e40, cond_true, h1]
    show (g26e k 51 0 ((plc ⟨vk, vb⟩ s.C).1 : Int) 0 a0 a1 (s.I.map inR) ((plc ⟨vk, vb⟩ s.C).2.map vlR) (s.L.map insR) sh (esR s.M) false).bind _ = _
    rw [h2]
    rfl
  · rename_i op kind vk vb pos attr s hlg h40
    have hf : s.lg = false := by simpa using hlg
    obtain ⟨N1, hN1⟩ := g35_plc (x := ⟨op, kind, pos, attr⟩) (a0 := a0) (a1 := a1) (A := s.C.map vlR) (L := s.L.map insR) (sh := sh) (lg := false) (es := esR s.M) s.I (by omega)
    obtain ⟨N2, hN2⟩ := g26_ss (sh := sh) (op := 50) (d := 0) (a := (plc ⟨op, kind, pos, attr⟩ s.I).1) (b := 0) (a0 := a0) (a1 := a1) { s with I := (plc ⟨op, kind, pos, attr⟩ s.I).2 } (by show s.L.length < _; omega)
    refine Goes.fin ⟨max N1 N2, fun k hk rec => ?_⟩
    have h1 : g35d k op kind pos attr a0 a1 (s.I.map inR) (s.C.map vlR) (s.L.map insR) sh (esR s.M) false = some (((plc ⟨op, kind, pos, attr⟩ s.I).1 : Int), a0, a1, (plc ⟨op, kind, pos, attr⟩ s.I).2.map inR, s.C.map vlR, s.L.map insR, sh, esR s.M, false) := hN1 k (by omega)
    have h2 : g26e k 50 0 ((plc ⟨op, kind, pos, attr⟩ s.I).1 : Int) 0 a0 a1 ((plc ⟨op, kind, pos, attr⟩ s.I).2.map inR) (s.C.map vlR) (s.L.map insR) sh (esR s.M) s.lg = some _ := hN2 k (by omega)
    rw [hf] at h2
    have e40 : (op == 40) = false := by simpa using h40
    show t25d_e k rec op kind [] vk vb pos attr a0 a1 _ _ _ _ _ s.lg = _
    unfold t25d_e
    rw [hf, cond_false, show (((([] : Rs)).length : Int) == 0) = true from rfl, cond_true, e40, cond_false, h1]
    show (g26e k 50 0 ((plc ⟨op, kind, pos, attr⟩ s.I).1 : Int) 0 a0 a1 ((plc ⟨op, kind, pos, attr⟩ s.I).2.map inR) (s.C.map vlR) (s.L.map insR) sh (esR s.M) false).bind _ = _
    rw [h2]
    rfl
  · rename_i hlg
    refine Goes.fin0 fun k rec => ?_
    show t25d_e k rec _ _ _ _ _ _ _ _ _ _ _ _ _ _ _ = _
    unfold t25d_e
    rw [hlg, cond_true]; simp [tupS, hlg]
  · rename_i op kind x vk vb pos attr s hlg ih
    have hf : s.lg = false := by simpa using hlg
    have hx : rightB x = true := by
      rcases rightB_len hr with h | ⟨_, h, h1⟩ | ⟨_, _, h, _⟩ <;> simp [Nd.args] at h
      rw [h]; exact h1
    have hc : cnt (.mk op kind [x] vk vb pos attr) = cnt x + 1 := by simp [cnt, cnts]
    rw [hc] at hI hC hL
    have hb := nodeS_bd sh x s
    refine (ih hx (by omega) (by omega) (by omega)).self (g25_end (sh := sh) (op := op) (d := 0) (a := (nodeS sh x s).1) (b := 0) (a0 := a0) (a1 := a1) (nodeS sh x s).2 (by have := hb.L; omega)) fun k rec hr => ?_
    show t25d_e k rec op kind [ndRow x] vk vb pos attr a0 a1 _ _ _ _ _ s.lg = _
    unfold t25d_e
    rw [hf] at hr ⊢
    rw [cond_false, show ((([ndRow x] : Rs).length : Int) == 0) = false from rfl, cond_false, ixR_0, un_nd, hr]
    rfl
  · rename_i hlg
    refine Goes.fin0 fun k rec => ?_
    show t25d_e k rec _ _ _ _ _ _ _ _ _ _ _ _ _ _ _ = _
    unfold t25d_e
    rw [hlg, cond_true]; simp [tupS, hlg]
  · rename_i op kind x y vk vb pos attr s hlg ih1 ih2
    have hf : s.lg = false := by simpa using hlg
    have hxy : rightB x = true ∧ rightB y = true := by
      rcases rightB_len hr with h | ⟨_, h, _⟩ | ⟨_, _, h, h1, h2⟩ <;> simp [Nd.args] at h
      rw [h.1, h.2]; exact ⟨h1, h2⟩
    have hc : cnt (.mk op kind [x, y] vk vb pos attr) = cnt x + cnt y + 1 := by simp [cnt, cnts]
    rw [hc] at hI hC hL
    have hb := nodeS_bd sh x s
    have hb2 := nodeS_bd sh y (nodeS sh x s).2
    have b1 := hb.I; have b2 := hb.C; have b3 := hb.L; have b4 := hb2.L
    refine (ih1 hxy.1 (by omega) (by omega) (by omega)).self2 (ih2 hxy.2 (by omega) (by omega) (by omega)) (g25_end (sh := sh) (op := op) (d := 0) (a := (nodeS sh x s).1) (b := (nodeS sh y (nodeS sh x s).2).1) (a0 := a0) (a1 := a1) (nodeS sh y (nodeS sh x s).2).2 (by omega)) fun k rec hr1 hr2 => ?_
    show t25d_e k rec op kind [ndRow x, ndRow y] vk vb pos attr a0 a1 _ _ _ _ _ s.lg = _
    unfold t25d_e
    rw [hf] at hr1 ⊢
    rw [cond_false, show ((([ndRow x, ndRow y] : Rs).length : Int) == 0) = false from rfl, cond_false, ixR_0, un_nd, hr1]
    simp only [Option.bind_some, tupS, tup9]
    rw [show ((([ndRow x, ndRow y] : Rs).length : Int) == 2) = true from rfl, cond_true, ixR_1, un_nd, hr2]
    rfl
  · rename_i x y z l _ _ _ _ _
    rcases rightB_len hr with h | ⟨_, h, _⟩ | ⟨_, _, h, _⟩ <;> simp [Nd.args] at h
end Ab
end Go.Proofs.Ytebmcaceklbopaa

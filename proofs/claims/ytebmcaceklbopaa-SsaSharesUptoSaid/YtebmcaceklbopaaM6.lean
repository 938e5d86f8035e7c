/-
  The code of a node: what the document's answer does, exactly.
-/
import Derived.Test.YtebmcaceklbopaaM5
set_option linter.unusedVariables false
set_option linter.unusedSimpArgs false
namespace Go.Proofs.Ytebmcaceklbopaa
namespace Ab

structure SR where
  I : List In4
  C : List Vl
  L : List Ins4
def putRR (sh : Bool) (op a b : Int) (s : SR) : Int × SR := ((putR sh op a b s.L).1, ⟨s.I, s.C, (putR sh op a b s.L).2⟩)
def nodeR (sh : Bool) : Nd → SR → Int × SR
  | .mk op kind [] vk vb pos attr, s => if 3000 < s.L.length then (0, s) else
      if op = 40 then putRR sh 51 (plc ⟨vk, vb⟩ s.C).1 0 { s with C := (plc ⟨vk, vb⟩ s.C).2 }
      else putRR sh 50 (plc ⟨op, kind, pos, attr⟩ s.I).1 0 { s with I := (plc ⟨op, kind, pos, attr⟩ s.I).2 }
  | .mk op _ [x] _ _ _ _, s => if 3000 < s.L.length then (0, s) else putRR sh op (nodeR sh x s).1 0 (nodeR sh x s).2
  | .mk op _ [x, y] _ _ _ _, s => if 3000 < s.L.length then (0, s) else putRR sh op (nodeR sh x s).1 (nodeR sh y (nodeR sh x s).2).1 (nodeR sh y (nodeR sh x s).2).2
  | .mk _ _ (_ :: _ :: _ :: _) _ _ _ _, s => (0, s)
def tupR (a0 a1 : Int) (x : Int × SR) : R28c := (x.1, a0, a1, x.2.I.map inR, x.2.C.map vlR, x.2.L.map insR)

structure BdR (s t : SR) (n : Nat) : Prop where
  I : t.I.length ≤ s.I.length + n
  C : t.C.length ≤ s.C.length + n
  L : t.L.length ≤ s.L.length + n
  le : s.L.length ≤ t.L.length
theorem BdR.refl (s : SR) (n : Nat) : BdR s s n := ⟨by omega, by omega, by omega, by omega⟩
theorem BdR.trans {s t u : SR} {n m k : Nat} (h1 : BdR s t n) (h2 : BdR t u m) (h : n + m ≤ k) : BdR s u k :=
  ⟨by have := h1.I; have := h2.I; omega, by have := h1.C; have := h2.C; omega, by have := h1.L; have := h2.L; omega, by have := h1.le; have := h2.le; omega⟩
theorem putR_len (sh : Bool) (op a b : Int) (L : List Ins4) : (putR sh op a b L).2.length ≤ L.length + 1 ∧ L.length ≤ (putR sh op a b L).2.length := by
  unfold putR; split <;> simp
theorem putRR_bd (sh : Bool) (op a b : Int) (s : SR) : BdR s (putRR sh op a b s).2 1 := ⟨by simp [putRR], by simp [putRR], (putR_len _ _ _ _ _).1, (putR_len _ _ _ _ _).2⟩
theorem nodeR_bd (sh : Bool) (n : Nd) (s : SR) : BdR s (nodeR sh n s).2 (cnt n) := by
  fun_induction nodeR sh n s
  · exact BdR.refl _ _
  · refine BdR.trans (t := _) (n := 1) (m := 0) ⟨?_, ?_, ?_, ?_⟩ (BdR.refl _ _) (by simp [cnt])
    · simp [putRR]
    · simp only [putRR]; exact plc_len _ _
    · exact (putR_len _ _ _ _ _).1
    · exact (putR_len _ _ _ _ _).2
  · refine BdR.trans (t := _) (n := 1) (m := 0) ⟨?_, ?_, ?_, ?_⟩ (BdR.refl _ _) (by simp [cnt])
    · simp only [putRR]; exact plc_len _ _
    · simp [putRR]
    · exact (putR_len _ _ _ _ _).1
    · exact (putR_len _ _ _ _ _).2
  · exact BdR.refl _ _
  · rename_i ih
    exact ih.trans (putRR_bd _ _ _ _ _) (by simp [cnt, cnts])
  · exact BdR.refl _ _
  · rename_i ih1 ih2
    exact (ih1.trans ih2 (Nat.le_refl _)).trans (putRR_bd _ _ _ _ _) (by simp [cnt, cnts])
  · exact BdR.refl _ _

theorem g29_rr {sh : Bool} {op a b a0 a1 : Int} (s : SR) (hl : s.L.length < 1073741824) :
    Tot (fun k => g29d k sh op a b a0 a1 (s.I.map inR) (s.C.map vlR) (s.L.map insR)) (tupR a0 a1 (putRR sh op a b s)) := g29_put s.L hl
theorem g28_end {sh : Bool} {op a b a0 a1 o1 o3 o4 o5 o6 : Int} {o2 : Rs} (s : SR) (hl : s.L.length < 1073741824) :
    Goes step28c (.h0 sh a b op o1 o2 o3 o4 o5 o6 a0 a1 (s.I.map inR) (s.C.map vlR) (s.L.map insR)) (tupR a0 a1 (putRR sh op a b s)) := by
  obtain ⟨N, hN⟩ := g29_rr (sh := sh) (op := op) (a := a) (b := b) (a0 := a0) (a1 := a1) s hl
  refine Goes.fin ⟨N, fun k hk rec => ?_⟩
  show t28c_h0 k rec sh a b op o1 o2 o3 o4 o5 o6 a0 a1 _ _ _ = _
  unfold t28c_h0
  have hk' : g29d k sh op a b a0 a1 (s.I.map inR) (s.C.map vlR) (s.L.map insR) = some (tupR a0 a1 (putRR sh op a b s)) := hN k hk
  rw [hk']
  rfl

theorem right_40 {n : Nd} (h : rightB n = true) (h0 : n.args ≠ []) : n.op ≠ 40 := by
  rw [rightB_node h0, Bool.and_eq_true, beq_iff_eq] at h
  intro e
  rw [e] at h
  have : nOps 40 = 0 := rfl
  rw [this] at h
  have : n.args.length ≠ 0 := fun e => h0 (List.eq_nil_of_length_eq_zero e)
  omega

theorem g28_node {sh : Bool} {a0 a1 : Int} (n : Nd) (s : SR) : rightB n = true → s.I.length + cnt n < 1073741824 → s.C.length + cnt n < 1073741824 → s.L.length + cnt n < 1073741824 →
    Goes step28c (.e sh n.op n.kind (ndRows n.args) n.vk n.vb n.pos n.attr a0 a1 (s.I.map inR) (s.C.map vlR) (s.L.map insR)) (tupR a0 a1 (nodeR sh n s)) := by
  have big : ∀ (s : SR), 3000 < s.L.length → decide (((s.L.map insR).length : Int) > 3000) = true := by intro s h; simp; omega
  have small : ∀ (s : SR), ¬ 3000 < s.L.length → decide (((s.L.map insR).length : Int) > 3000) = false := by intro s h; simp; omega
  fun_induction nodeR sh n s <;> intro hr hI hC hL
  · rename_i hlg
    refine Goes.fin0 fun k rec => ?_
    show t28c_e k rec _ _ _ _ _ _ _ _ _ _ _ _ _ = _
    unfold t28c_e
    rw [big _ hlg, cond_true]; rfl
  · rename_i kind vk vb pos attr s hlg
    obtain ⟨N1, hN1⟩ := g38_plc (x := ⟨vk, vb⟩) (a0 := a0) (a1 := a1) (A := s.I.map inR) (L := s.L.map insR) s.C (by omega)
    obtain ⟨N2, hN2⟩ := g29_rr (sh := sh) (op := 51) (a := (plc ⟨vk, vb⟩ s.C).1) (b := 0) (a0 := a0) (a1 := a1) { s with C := (plc ⟨vk, vb⟩ s.C).2 } (by show s.L.length < _; omega)
    refine Goes.fin ⟨max N1 N2, fun k hk rec => ?_⟩
    have h1 : g38c k vk vb a0 a1 (s.I.map inR) (s.C.map vlR) (s.L.map insR) = some (((plc ⟨vk, vb⟩ s.C).1 : Int), a0, a1, s.I.map inR, (plc ⟨vk, vb⟩ s.C).2.map vlR, s.L.map insR) := hN1 k (by omega)
    have h2 : g29d k sh 51 ((plc ⟨vk, vb⟩ s.C).1 : Int) 0 a0 a1 (s.I.map inR) ((plc ⟨vk, vb⟩ s.C).2.map vlR) (s.L.map insR) = some _ := hN2 k (by omega)
    show t28c_e k rec sh 40 kind [] vk vb pos attr a0 a1 _ _ _ = _
    unfold t28c_e
    rw [small _ hlg, cond_false, show ((40 : Int) == 40) = true from rfl, cond_true, h1]
    show (g29d k sh 51 ((plc ⟨vk, vb⟩ s.C).1 : Int) 0 a0 a1 (s.I.map inR) ((plc ⟨vk, vb⟩ s.C).2.map vlR) (s.L.map insR)).bind _ = _
    rw [h2]
    rfl
  · rename_i op kind vk vb pos attr s hlg h40
    obtain ⟨N1, hN1⟩ := g37_plc (x := ⟨op, kind, pos, attr⟩) (a0 := a0) (a1 := a1) (A := s.C.map vlR) (L := s.L.map insR) s.I (by omega)
    obtain ⟨N2, hN2⟩ := g29_rr (sh := sh) (op := 50) (a := (plc ⟨op, kind, pos, attr⟩ s.I).1) (b := 0) (a0 := a0) (a1 := a1) { s with I := (plc ⟨op, kind, pos, attr⟩ s.I).2 } (by show s.L.length < _; omega)
    refine Goes.fin ⟨max N1 N2, fun k hk rec => ?_⟩
    have h1 : g37c k op kind pos attr a0 a1 (s.I.map inR) (s.C.map vlR) (s.L.map insR) = some (((plc ⟨op, kind, pos, attr⟩ s.I).1 : Int), a0, a1, (plc ⟨op, kind, pos, attr⟩ s.I).2.map inR, s.C.map vlR, s.L.map insR) := hN1 k (by omega)
    have h2 : g29d k sh 50 ((plc ⟨op, kind, pos, attr⟩ s.I).1 : Int) 0 a0 a1 ((plc ⟨op, kind, pos, attr⟩ s.I).2.map inR) (s.C.map vlR) (s.L.map insR) = some _ := hN2 k (by omega)
    have e40 : (op == 40) = false := by simpa using h40
    show t28c_e k rec sh op kind [] vk vb pos attr a0 a1 _ _ _ = _
    unfold t28c_e
    rw [small _ hlg, cond_false, e40, cond_false, show (((([] : Rs)).length : Int) == 0) = true from rfl, cond_true, h1]
    show (g29d k sh 50 ((plc ⟨op, kind, pos, attr⟩ s.I).1 : Int) 0 a0 a1 ((plc ⟨op, kind, pos, attr⟩ s.I).2.map inR) (s.C.map vlR) (s.L.map insR)).bind _ = _
    rw [h2]
    rfl
  · rename_i hlg
    refine Goes.fin0 fun k rec => ?_
    show t28c_e k rec _ _ _ _ _ _ _ _ _ _ _ _ _ = _
    unfold t28c_e
    rw [big _ hlg, cond_true]; rfl
  · rename_i op kind x vk vb pos attr s hlg ih
    have hx : rightB x = true := by
      rcases rightB_len hr with h | ⟨_, h, h1⟩ | ⟨_, _, h, _⟩ <;> simp [Nd.args] at h
      rw [h]; exact h1
    have hc : cnt (.mk op kind [x] vk vb pos attr) = cnt x + 1 := by simp [cnt, cnts]
    have h40 : op ≠ 40 := right_40 hr (by simp [Nd.args])
    have e40 : (op == 40) = false := by simpa using h40
    rw [hc] at hI hC hL
    have hb := nodeR_bd sh x s
    refine (ih hx (by omega) (by omega) (by omega)).self (g28_end (sh := sh) (op := op) (a := (nodeR sh x s).1) (b := 0) (a0 := a0) (a1 := a1) (o1 := kind) (o2 := [ndRow x]) (o3 := vk) (o4 := vb) (o5 := pos) (o6 := attr) (nodeR sh x s).2 (by have := hb.L; omega)) fun k rec hr => ?_
    show t28c_e k rec sh op kind [ndRow x] vk vb pos attr a0 a1 _ _ _ = _
    unfold t28c_e
    rw [small _ hlg, cond_false, e40, cond_false, show ((([ndRow x] : Rs).length : Int) == 0) = false from rfl, cond_false, ixR_0, un_nd, hr]
    rfl
  · rename_i hlg
    refine Goes.fin0 fun k rec => ?_
    show t28c_e k rec _ _ _ _ _ _ _ _ _ _ _ _ _ = _
    unfold t28c_e
    rw [big _ hlg, cond_true]; rfl
  · rename_i op kind x y vk vb pos attr s hlg ih1 ih2
    have hxy : rightB x = true ∧ rightB y = true := by
      rcases rightB_len hr with h | ⟨_, h, _⟩ | ⟨_, _, h, h1, h2⟩ <;> simp [Nd.args] at h
      rw [h.1, h.2]; exact ⟨h1, h2⟩
    have hc : cnt (.mk op kind [x, y] vk vb pos attr) = cnt x + cnt y + 1 := by simp [cnt, cnts]
    have h40 : op ≠ 40 := right_40 hr (by simp [Nd.args])
    have e40 : (op == 40) = false := by simpa using h40
    rw [hc] at hI hC hL
    have hb := nodeR_bd sh x s
    have hb2 := nodeR_bd sh y (nodeR sh x s).2
    have b1 := hb.I; have b2 := hb.C; have b3 := hb.L; have b4 := hb2.L
    refine (ih1 hxy.1 (by omega) (by omega) (by omega)).self2 (ih2 hxy.2 (by omega) (by omega) (by omega)) (g28_end (sh := sh) (op := op) (a := (nodeR sh x s).1) (b := (nodeR sh y (nodeR sh x s).2).1) (a0 := a0) (a1 := a1) (o1 := kind) (o2 := [ndRow x, ndRow y]) (o3 := vk) (o4 := vb) (o5 := pos) (o6 := attr) (nodeR sh y (nodeR sh x s).2).2 (by omega)) fun k rec hr1 hr2 => ?_
    show t28c_e k rec sh op kind [ndRow x, ndRow y] vk vb pos attr a0 a1 _ _ _ = _
    unfold t28c_e
    rw [small _ hlg, cond_false, e40, cond_false, show ((([ndRow x, ndRow y] : Rs).length : Int) == 0) = false from rfl, cond_false, ixR_0, un_nd, hr1]
    simp only [Option.bind_some, tupR, tup6]
    rw [show ((([ndRow x, ndRow y] : Rs).length : Int) == 2) = true from rfl, cond_true, ixR_1, un_nd, hr2]
    rfl
  · rename_i x y z l _ _ _ _ _
    rcases rightB_len hr with h | ⟨_, h, _⟩ | ⟨_, _, h, _⟩ <;> simp [Nd.args] at h
end Ab
end Go.Proofs.Ytebmcaceklbopaa

/-
  Codes that are alike; the code of conditions: what the program makes, and what the document's answer makes.
-/
import Derived.Test.YtebmcaceklbopaaN7
set_option linter.unusedVariables false
set_option linter.unusedSimpArgs false
namespace Go.Proofs.Ytebmcaceklbopaa
namespace Ab

/-! ## alike -/
theorem g13_L {a b c d : Int} {I C : Rs} (L : List Ins4) (hl : L.length < 1073741824) : ∀ (m i : Nat), i + m = L.length →
    Goes step13 (.h3 (L.length : Int) (i : Int) a b I C (L.map insR) c d I C (L.map insR)) true
  | 0, i, hi => by
    refine Goes.fin0 fun k rec => ?_
    have hlt : decide ((i : Int) < (L.length : Int)) = false := by simp; omega
    show t13_h3 k rec _ _ _ _ _ _ _ _ _ _ _ _ = _
    unfold t13_h3
    rw [hlt]; rfl
  | m + 1, i, hi => by
    have hx : L[i]? = some (L[i]'(by omega)) := List.getElem?_eq_getElem _
    generalize L[i]'(by omega) = y at hx
    have ih := g13_L (a := a) (b := b) (c := c) (d := d) (I := I) (C := C) L hl m (i + 1) (by omega)
    have hlt : decide ((i : Int) < (L.length : Int)) = true := by simp; omega
    refine ih.rec0 fun k rec => ?_
    show t13_h3 k rec _ _ _ _ _ _ _ _ _ _ _ _ = _
    unfold t13_h3
    rw [hlt, cond_true, ixR_at (map_at hx), un_ins, ixR_at (map_at hx), un_ins, wrap1 i (by omega)]
    simp
theorem g13_C {a b c d : Int} {I : Rs} (C : List Vl) (L : List Ins4) (hc : C.length < 1073741824) (hl : L.length < 1073741824) : ∀ (m i : Nat), i + m = C.length →
    Goes step13 (.h2 (C.length : Int) (i : Int) a b I (C.map vlR) (L.map insR) c d I (C.map vlR) (L.map insR)) true
  | 0, i, hi => by
    refine (g13_L (a := a) (b := b) (c := c) (d := d) (I := I) (C := C.map vlR) L hl L.length 0 (by omega)).rec0 fun k rec => ?_
    have hlt : decide ((i : Int) < (C.length : Int)) = false := by simp; omega
    show t13_h2 k rec _ _ _ _ _ _ _ _ _ _ _ _ = _
    unfold t13_h2
    rw [hlt, cond_false, List.length_map]; rfl
  | m + 1, i, hi => by
    have hx : C[i]? = some (C[i]'(by omega)) := List.getElem?_eq_getElem _
    generalize C[i]'(by omega) = y at hx
    have ih := g13_C (a := a) (b := b) (c := c) (d := d) (I := I) C L hc hl m (i + 1) (by omega)
    have hlt : decide ((i : Int) < (C.length : Int)) = true := by simp; omega
    refine ih.rec0 fun k rec => ?_
    show t13_h2 k rec _ _ _ _ _ _ _ _ _ _ _ _ = _
    unfold t13_h2
    rw [hlt, cond_true, ixR_at (map_at hx), un_vl, ixR_at (map_at hx), un_vl, wrap1 i (by omega)]
    simp
theorem g13_I {a b c d : Int} (I : List In4) (C : List Vl) (L : List Ins4) (hi' : I.length < 1073741824) (hc : C.length < 1073741824) (hl : L.length < 1073741824) : ∀ (m i : Nat), i + m = I.length →
    Goes step13 (.h1 (I.length : Int) (i : Int) a b (I.map inR) (C.map vlR) (L.map insR) c d (I.map inR) (C.map vlR) (L.map insR)) true
  | 0, i, hi => by
    refine (g13_C (a := a) (b := b) (c := c) (d := d) (I := I.map inR) C L hc hl C.length 0 (by omega)).rec0 fun k rec => ?_
    have hlt : decide ((i : Int) < (I.length : Int)) = false := by simp; omega
    show t13_h1 k rec _ _ _ _ _ _ _ _ _ _ _ _ = _
    unfold t13_h1
    rw [hlt, cond_false, List.length_map]; rfl
  | m + 1, i, hi => by
    have hx : I[i]? = some (I[i]'(by omega)) := List.getElem?_eq_getElem _
    generalize I[i]'(by omega) = y at hx
    have ih := g13_I (a := a) (b := b) (c := c) (d := d) I C L hi' hc hl m (i + 1) (by omega)
    have hlt : decide ((i : Int) < (I.length : Int)) = true := by simp; omega
    refine ih.rec0 fun k rec => ?_
    show t13_h1 k rec _ _ _ _ _ _ _ _ _ _ _ _ = _
    unfold t13_h1
    rw [hlt, cond_true, ixR_at (map_at hx), un_in, ixR_at (map_at hx), un_in, wrap1 i (by omega)]
    simp
theorem g13_same {a b : Int} (I : List In4) (C : List Vl) (L : List Ins4) (hi' : I.length < 1073741824) (hc : C.length < 1073741824) (hl : L.length < 1073741824) :
    Tot (fun k => g13 k a b (I.map inR) (C.map vlR) (L.map insR) a b (I.map inR) (C.map vlR) (L.map insR)) true := by
  have h := g13_I (a := a) (b := b) (c := a) (d := b) I C L hi' hc hl I.length 0 (by omega)
  have h0 : Goes step13 (.h0 false a b (I.map inR) (C.map vlR) (L.map insR) a b (I.map inR) (C.map vlR) (L.map insR)) true := by
    refine h.rec0 fun k rec => ?_
    show t13_h0 k rec _ _ _ _ _ _ _ _ _ _ _ = _
    unfold t13_h0
    rw [cond_false, List.length_map]; rfl
  refine Tot.of_goes (s := S13.e _ _ _ _ _ _ _ _ _ _) (h0.rec0 fun k rec => ?_)
  show t13_e k rec _ _ _ _ _ _ _ _ _ _ = _
  unfold t13_e
  simp

/-! ## what the two make -/
def goS (sh : Bool) : List Nd → Nat → Int → SS → Int × SS
  | [], _, sofar, s => (sofar, s)
  | n :: l, i, sofar, s => if i = 0 then goS sh l 1 (nodeS sh n s).1 (nodeS sh n s).2
    else goS sh l (i + 1) (putSS sh 13 sofar (nodeS sh n s).1 (nodeS sh n s).2).1 (putSS sh 13 sofar (nodeS sh n s).1 (nodeS sh n s).2).2
def goR (sh : Bool) : List Nd → Nat → Int → SR → Int × SR
  | [], _, told, s => (told, s)
  | n :: l, i, told, s => if i = 0 then goR sh l 1 (nodeR sh n s).1 (nodeR sh n s).2
    else goR sh l (i + 1) (putRR sh 13 told (nodeR sh n s).1 (nodeR sh n s).2).1 (putRR sh 13 told (nodeR sh n s).1 (nodeR sh n s).2).2
theorem goS_bd (sh : Bool) : ∀ (l : List Nd) (i : Nat) (a : Int) (s : SS), Bd s (goS sh l i a s).2 (2 * cnts l)
  | [], _, _, s => Bd.refl _ _
  | n :: l, i, a, s => by
    have h1 := nodeS_bd sh n s
    have hc : 1 ≤ cnt n := by cases n; simp [cnt]
    simp only [goS]
    split
    · exact h1.trans (goS_bd sh l 1 _ _) (by simp only [cnts]; omega)
    · exact (h1.trans (putSS_bd sh 13 a _ _) (Nat.le_refl _)).trans (goS_bd sh l (i + 1) _ _) (by simp only [cnts]; omega)
theorem goR_bd (sh : Bool) : ∀ (l : List Nd) (i : Nat) (a : Int) (s : SR), BdR s (goR sh l i a s).2 (2 * cnts l)
  | [], _, _, s => BdR.refl _ _
  | n :: l, i, a, s => by
    have h1 := nodeR_bd sh n s
    have hc : 1 ≤ cnt n := by cases n; simp [cnt]
    simp only [goR]
    split
    · exact h1.trans (goR_bd sh l 1 _ _) (by simp only [cnts]; omega)
    · exact (h1.trans (putRR_bd sh 13 a _ _) (Nat.le_refl _)).trans (goR_bd sh l (i + 1) _ _) (by simp only [cnts]; omega)
theorem rel_go {sh : Bool} : ∀ (l : List Nd) (i : Nat) (a b : Int) (s : SS) (t : SR), Rl sh s t → rightBs l = true → (s.lg = false → a = b) →
    Rl sh (goS sh l i a s).2 (goR sh l i b t).2 ∧ ((goS sh l i a s).2.lg = false → (goS sh l i a s).1 = (goR sh l i b t).1) ∧ (s.lg = true → (goS sh l i a s).2.lg = true)
  | [], _, a, b, s, t, h, _, hab => ⟨h, hab, fun h => h⟩
  | n :: l, i, a, b, s, t, h, hr, hab => by
    simp only [rightBs, Bool.and_eq_true] at hr
    obtain ⟨r1, r2, r3⟩ := rel_node n s t h hr.1
    simp only [goS, goR]
    split
    · obtain ⟨q1, q2, q3⟩ := rel_go l 1 _ _ _ _ r1 hr.2 r2
      exact ⟨q1, q2, fun h => q3 (r3 h)⟩
    · have back : (nodeS sh n s).2.lg = false → s.lg = false := fun hf => by
        cases hh : s.lg with
        | false => rfl
        | true => rw [r3 hh] at hf; cases hf
      obtain ⟨p1, p2, p3⟩ := rel_put r1 13 (a := a) (b := (nodeS sh n s).1) (a' := b) (b' := (nodeR sh n t).1) (fun hf => ⟨hab (back hf), r2 hf⟩)
      obtain ⟨q1, q2, q3⟩ := rel_go l (i + 1) _ _ _ _ p1 hr.2 p2
      exact ⟨q1, q2, fun h => q3 (p3 (r3 h))⟩
end Ab
end Go.Proofs.Ytebmcaceklbopaa

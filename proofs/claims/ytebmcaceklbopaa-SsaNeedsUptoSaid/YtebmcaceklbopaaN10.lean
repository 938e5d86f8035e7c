/-
  The code of conditions: the program's Make and the document's give one answer.
-/
import Derived.Test.YtebmcaceklbopaaN9
set_option linter.unusedVariables false
set_option linter.unusedSimpArgs false
namespace Go.Proofs.Ytebmcaceklbopaa
namespace Ab

/-- what the program's loop ends in. -/
def endS (x : Int × SS) : R11 := if x.2.lg = true ∨ 1024 ≤ x.2.L.length then (0, 0, [], [], [], 2) else ((x.2.L.length : Int), 0, x.2.I.map inR, x.2.C.map vlR, (x.2.L ++ [(⟨52, 0, x.1, 0⟩ : Ins4)]).map insR, 0)
theorem end_same {sh : Bool} {x : Int × SS} {y : Int × SR} (h : Rl sh x.2 y.2) (hr : x.2.lg = false → x.1 = y.1) : endS x = endR y := by
  unfold endS endR
  cases hl : x.2.lg with
  | true =>
    have := (h.lg hl).2
    rw [if_pos (.inl rfl), if_pos (by omega)]
  | false =>
    obtain ⟨h1, h2, h3, h4, _⟩ := h.eq hl
    rw [hr hl, h1, h2, h3]
    by_cases hb : 1024 ≤ y.2.L.length
    · rw [if_pos (.inr hb), if_pos (by omega)]
    · rw [if_neg (fun h => h.elim (fun h => by cases h) hb), if_neg (by omega)]

theorem g11_end (x : Int × SS) (hl : x.2.L.length < 1073741824) :
    Goes step11 (.h5 x.1 (x.2.L.length : Int) 0 (x.2.I.map inR) (x.2.C.map vlR) (x.2.L.map insR) false (esR x.2.M) x.2.lg 0 0) (endS x) := by
  obtain ⟨a, I, C, L, M, lg⟩ := x
  simp only at hl
  obtain ⟨N, hN⟩ := g26_put (sh := false) (lg := lg) (op := 52) (d := 0) (a := a) (b := 0) (a0 := (L.length : Int)) (a1 := 0) (I := I.map inR) (C := C.map vlR) L M hl
  have bad : (putS false lg 52 a 0 L M).2.2.2 = true → Goes step11 (.h5 a (L.length : Int) 0 (I.map inR) (C.map vlR) (L.map insR) false (esR M) lg 0 0) (0, 0, [], [], [], 2) := by
    intro hb
    refine (Goes.fin0 (step := step11) (s := .h8 2 0 0 [] [] []) fun k rec => rfl).rec ⟨N, fun k hk rec => ?_⟩
    show t11_h5 k rec _ _ _ _ _ _ _ _ _ 0 0 = _
    unfold t11_h5
    have hk' : g26e k 52 0 a 0 (L.length : Int) 0 (I.map inR) (C.map vlR) (L.map insR) false (esR M) lg = some _ := hN k hk
    rw [hk', hb]
    rfl
  have e0 : ¬ (false = true ∧ (mf (52, a, 0) M).isSome = true) := by simp
  unfold endS
  by_cases hb : 1024 ≤ L.length
  · rw [if_pos (.inr hb)]
    exact bad (by unfold putS; rw [if_neg e0, if_pos hb])
  · have es : putS false lg 52 a 0 L M = ((L.length : Int), L ++ [(⟨52, L.length, a, 0⟩ : Ins4)], mput (52, a, 0) L.length M, lg) := by unfold putS; rw [if_neg e0, if_neg hb]
    cases lg with
    | true =>
      rw [if_pos (.inl rfl)]
      exact bad (by rw [es])
    | false =>
      rw [if_neg (fun h => h.elim (fun h => by cases h) hb)]
      refine (Goes.fin0 (step := step11) (s := .h9 0 (L.length : Int) 0 (I.map inR) (C.map vlR) ((L ++ [(⟨52, 0, a, 0⟩ : Ins4)]).map insR)) fun k rec => rfl).rec ⟨N, fun k hk rec => ?_⟩
      show t11_h5 k rec _ _ _ _ _ _ _ _ _ 0 0 = _
      unfold t11_h5
      have hk' : g26e k 52 0 a 0 (L.length : Int) 0 (I.map inR) (C.map vlR) (L.map insR) false (esR M) false = some _ := hN k hk
      rw [es] at hk'
      have hx : ((L ++ [(⟨52, L.length, a, 0⟩ : Ins4)]).map insR)[L.length]? = some (insR ⟨52, L.length, a, 0⟩) := by simp
      have hset : setRow ((L ++ [(⟨52, L.length, a, 0⟩ : Ins4)]).map insR) L.length 1 (ic 0) = (L ++ [(⟨52, 0, a, 0⟩ : Ins4)]).map insR := by
        unfold setRow
        rw [hx, List.map_append, List.map_append, List.set_append_right _ _ (by simp)]
        simp [insR]
      rw [hk']
      simp only [Option.bind_some, tup9, cond_false]
      rw [ixR_at hx, un_ins, Int.toNat_natCast, hset, imm_in, imm_vl, imm_ins]

/-- the program's look at all the conditions. -/
theorem g11_right {sh : Bool} (l : List Nd) (hb : cnts l < 1048577) {r : R11} : ∀ (m i : Nat), i + m = l.length →
    (rightBs (l.drop i) = true → Goes step11 (.h3 0 (ndRows l) (l.length : Int) 0 0 0 [] [] [] sh [] false 0 0) r) → (rightBs (l.drop i) = false → r = (0, 0, [], [], [], 1)) →
    Goes step11 (.h1 (ndRows l) sh (ndRows l) (l.length : Int) (i : Int) 0 0) r
  | 0, i, hi, h1, h2 => by
    have hd : l.drop i = [] := List.drop_eq_nil_of_le (by omega)
    rw [hd] at h1
    refine (h1 rfl).rec0 fun k rec => ?_
    have hlt : decide ((i : Int) < (l.length : Int)) = false := by simp; omega
    show t11_h1 k rec _ _ _ _ _ _ _ = _
    unfold t11_h1
    rw [hlt, cond_false, ndRows_len]
  | m + 1, i, hi, h1, h2 => by
    have hx : l[i]? = some (l[i]'(by omega)) := List.getElem?_eq_getElem _
    generalize l[i]'(by omega) = n at hx
    have hlt : decide ((i : Int) < (l.length : Int)) = true := by simp; omega
    have hll := cnts_len l
    obtain ⟨N, hN⟩ := g24_right n (by have := cnts_get hx; omega)
    rw [rightBs_drop hx] at h1 h2
    cases hr : rightB n with
    | true =>
      rw [hr] at h1 h2
      rw [hr] at hN
      have ih := g11_right (sh := sh) l hb (r := r) m (i + 1) (by omega) (by simpa using h1) (by simpa using h2)
      refine ih.rec ⟨N, fun k hk rec => ?_⟩
      show t11_h1 k rec _ _ _ _ _ _ _ = _
      unfold t11_h1
      have hk' : g24 k n.op n.kind (ndRows n.args) n.vk n.vb n.pos n.attr = some true := hN k hk
      rw [hlt, cond_true, ixR_at (nd_at hx), un_nd, hk', wrap1 i (by omega)]
      rfl
    | false =>
      rw [hr] at h2
      rw [hr] at hN
      rw [h2 (by simp)]
      refine (Goes.fin0 (step := step11) (s := .h2 1 0 0 [] [] []) fun k rec => rfl).rec ⟨N, fun k hk rec => ?_⟩
      show t11_h1 k rec _ _ _ _ _ _ _ = _
      unfold t11_h1
      have hk' : g24 k n.op n.kind (ndRows n.args) n.vk n.vb n.pos n.attr = some false := hN k hk
      rw [hlt, cond_true, ixR_at (nd_at hx), un_nd, hk']
      rfl
end Ab
end Go.Proofs.Ytebmcaceklbopaa

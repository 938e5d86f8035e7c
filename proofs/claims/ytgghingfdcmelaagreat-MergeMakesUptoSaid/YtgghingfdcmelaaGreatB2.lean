/-
  The document's answer: of the form; a twin; the same as itself.
-/
import Derived.Test.YtgghingfdcmelaaGreatB1
set_option linter.unusedVariables false
set_option linter.unusedSimpArgs false
namespace Go.Proofs.YtgghingfdcmelaaGreat
namespace Ab

/-! of the form -/
theorem g4_ends (L : Rs) (n i : Int) (E : List En) (hE : E.length < 1073741824) {f : Bool → Bool} (hr : ∀ ok, Goes step4 (.h0 ok L n (IntKind.i64.wrap (i + 1))) (f ok)) : ∀ (m j : Nat) (ok : Bool), j + m = E.length →
    Goes step4 (.h1 ok L n i (E.map enR) (E.length : Int) (j : Int)) (f (ok && gdE (E.drop j)))
  | 0, j, ok, hj => by
    rw [List.drop_eq_nil_of_le (by omega)]
    have hlt : decide ((j : Int) < (E.length : Int)) = false := by simp; omega
    have : (ok && gdE []) = ok := by simp [gdE]
    rw [this]
    refine (hr ok).rec0 fun k rec => ?_
    show t4_h1 k rec _ _ _ _ _ _ _ = _
    unfold t4_h1
    rw [hlt, cond_false]
  | m + 1, j, ok, hj => by
    have hx : E[j]? = some (E[j]'(by omega)) := List.getElem?_eq_getElem _
    have hd : E.drop j = E[j]'(by omega) :: E.drop (j + 1) := List.drop_eq_getElem_cons _
    generalize E[j]'(by omega) = x at hx hd
    have hlt : decide ((j : Int) < (E.length : Int)) = true := by simp; omega
    rw [hd]
    have e : (ok && gdE (x :: E.drop (j + 1))) = ((ok && decide (x.b ≥ 0)) && gdE (E.drop (j + 1))) := by
      simp only [gdE, List.all_cons, Bool.and_assoc]
    rw [e]
    have ih := g4_ends L n i E hE hr m (j + 1) (ok && decide (x.b ≥ 0)) (by omega)
    have h2 : Goes step4 (.h2 (ok && decide (x.b ≥ 0)) L n i (E.map enR) (E.length : Int) (j : Int)) (f ((ok && decide (x.b ≥ 0)) && gdE (E.drop (j + 1)))) := by
      refine ih.rec0 fun k rec => ?_
      show t4_h2 k rec _ _ _ _ _ _ _ = _
      unfold t4_h2
      rw [wrap1 j (by omega)]
    refine h2.rec0 fun k rec => ?_
    show t4_h1 k rec _ _ _ _ _ _ _ = _
    unfold t4_h1
    rw [hlt, cond_true, ixR_at (map_at hx), un_en]
    cases ok <;> rfl
theorem gdL_cons (ok : Bool) (s : Sa) (l : List Sa) (i : Nat) : (ok && gdL (s :: l) i) = (((ok && (decide (s.p ≥ -1) && (decide (s.p < i) && (decide (s.t ≥ 0) && (decide (s.w ≥ 0) && decide (s.w ≤ 1152921504606846976)))))) && gdE s.e) && gdL l (i + 1)) := by
  simp only [gdL, gdS, Bool.and_assoc]
theorem g4_loop (L : List Sa) (hL : okSas L) : ∀ (m i : Nat) (ok : Bool), i + m = L.length → Goes step4 (.h0 ok (L.map saR) (L.length : Int) (i : Int)) (ok && gdL (L.drop i) i)
  | 0, i, ok, hi => by
    refine Goes.fin0 fun k rec => ?_
    have hlt : decide ((i : Int) < (L.length : Int)) = false := by simp; omega
    show t4_h0 k rec _ _ _ _ = _
    unfold t4_h0
    rw [hlt, cond_false, List.drop_eq_nil_of_le (by omega)]
    simp [gdL]
  | m + 1, i, ok, hi => by
    have hx : L[i]? = some (L[i]'(by omega)) := List.getElem?_eq_getElem _
    have hd : L.drop i = L[i]'(by omega) :: L.drop (i + 1) := List.drop_eq_getElem_cons _
    generalize L[i]'(by omega) = s at hx hd
    have hlt : decide ((i : Int) < (L.length : Int)) = true := by simp; omega
    have hl := hL.1
    have hso := hL.2 s (List.mem_of_getElem? hx)
    have h1 := fun ok => g4_ends (L.map saR) (L.length : Int) (i : Int) s.e (by have := hso.2.2.2.1; omega) (f := fun ok => ok && gdL (L.drop (i + 1)) (i + 1))
      (fun ok => by rw [wrap1 i (by omega)]; exact g4_loop L hL m (i + 1) ok (by omega)) s.e.length 0 ok (by omega)
    rw [hd, gdL_cons]
    have h1' := h1 (ok && (decide (s.p ≥ -1) && (decide (s.p < i) && (decide (s.t ≥ 0) && (decide (s.w ≥ 0) && decide (s.w ≤ 1152921504606846976))))))
    rw [List.drop_zero] at h1'
    refine h1'.rec0 fun k rec => ?_
    show t4_h0 k rec _ _ _ _ = _
    unfold t4_h0
    rw [hlt, cond_true, ixR_at (map_at hx), un_sa, List.length_map]
    cases ok with
    | false => rfl
    | true =>
      simp only [cond_true, Bool.true_and]
      cases decide (s.p ≥ -1) with
      | false => rfl
      | true =>
        simp only [cond_true, Bool.true_and]
        cases decide (s.p < (i : Int)) with
        | false => rfl
        | true =>
          simp only [cond_true, Bool.true_and]
          cases decide (s.t ≥ 0) with
          | false => rfl
          | true =>
            simp only [cond_true, Bool.true_and]
            cases decide (s.w ≥ 0) <;> rfl
theorem g4_eq (a : Int) (K : Rs) (L : List Sa) (hL : okSas L) : Tot (fun k => g4 k a K (L.map saR)) (good a L) := by
  have h := fun ok => g4_loop L hL L.length 0 ok (by omega)
  simp only [List.drop_zero] at h
  have open1 : ∀ k (rec : S4 → Option R4), step4 k rec (.e a K (L.map saR)) = t4_e k rec a K (L.map saR) := fun _ _ => rfl
  refine Tot.of_goes (s := S4.e _ _ _) ?_
  have e : good a L = ((decide (a ≥ 1) && (decide (a ≤ 3) && decide ((L.length : Int) ≤ 32))) && gdL L 0) := by
    have e3 : decide (L.length ≤ 32) = decide ((L.length : Int) ≤ 32) := by
      by_cases h : L.length ≤ 32
      · have h' : (L.length : Int) ≤ 32 := by omega
        simp [h, h']
      · have h' : ¬ (L.length : Int) ≤ 32 := by omega
        simp [h, h']
    simp only [good, e3, Bool.and_assoc]
  rw [e]
  refine (h _).rec0 fun k rec => ?_
  rw [open1]; unfold t4_e
  rw [List.length_map]
  cases decide (a ≥ 1) with
  | false => rfl
  | true =>
    simp only [cond_true, Bool.true_and]
    cases decide (a ≤ 3) <;> rfl

/-! a twin, in memory of its own -/
def saT (s : Sa) : List Cell := [ic s.p, ic s.t, bc s.m, ic s.w, .own 2 (s.b.map brR), .own 7 (ndRows s.l), .own 7 (ndRows s.g), .own 3 (s.e.map enR)]
theorem imm_saT (L : List Sa) : immRs (L.map saT) = L.map saR := by
  rw [immRs_eq, List.map_map]
  apply List.map_congr_left
  intro s _
  show [ic s.p, ic s.t, bc s.m, ic s.w, .imm (immRs (s.b.map brR)), .imm (immRs (ndRows s.l)), .imm (immRs (ndRows s.g)), .imm (immRs (s.e.map enR))] = _
  rw [imm_br, imm_ndRows, imm_ndRows, imm_en]; rfl
theorem g6_ends (L : Rs) (n i : Int) (s : Sa) (hE : okEns s.e) (a : Int) (K : Rs) (R : Rs) {r : R6} (hap : apOk 128 8 R [saT s] = true) (hr : Goes step6 (.h0 L n (IntKind.i64.wrap (i + 1)) a K (R ++ [saT s]) 0) r) : ∀ (m j : Nat), j + m = s.e.length →
    Goes step6 (.h1 ((s.e.take j).map enR) L n i (s.e.map enR) (s.e.length : Int) (j : Int) s.p s.t s.m s.w (s.b.map brR) (ndRows s.l) (ndRows s.g) (s.e.map enR) a K R 0) r
  | 0, j, hj => by
    have hlt : decide ((j : Int) < (s.e.length : Int)) = false := by simp; omega
    rw [List.take_of_length_le (by omega)]
    refine hr.rec0 fun k rec => ?_
    show t6_h1 k rec _ _ _ _ _ _ _ _ _ _ _ _ _ _ _ _ _ _ _ = _
    unfold t6_h1
    rw [hlt, cond_false]
    show gd (apOk 128 8 R [saT s]) _ = _
    rw [hap, gd_true]; rfl
  | m + 1, j, hj => by
    have hx : s.e[j]? = some (s.e[j]'(by omega)) := List.getElem?_eq_getElem _
    generalize s.e[j]'(by omega) = x at hx
    have ih := g6_ends L n i s hE a K R hap hr m (j + 1) (by omega)
    have hlt : decide ((j : Int) < (s.e.length : Int)) = true := by simp; omega
    have hl := hE.1
    have hxo := hE.2 x (List.mem_of_getElem? hx)
    obtain ⟨N1, hN1⟩ := Tot.of_goes (g15_list x.c hxo.1)
    obtain ⟨N2, hN2⟩ := g14_twin x.r hxo.2
    refine ih.rec ⟨N1 + N2, fun k hk rec => ?_⟩
    show t6_h1 k rec _ _ _ _ _ _ _ _ _ _ _ _ _ _ _ _ _ _ _ = _
    unfold t6_h1
    rw [hlt, cond_true, ixR_at (map_at hx), un_en, show g15 k (ndRows x.c) = _ from hN1 k (by omega), Option.bind_some, show g14 k (x.r.map brR) = _ from hN2 k (by omega), Option.bind_some, imm_ndRows, imm_br, wrap1 j (by omega)]
    rw [show [[ic x.b, Cell.imm (ndRows x.c), Cell.imm (x.r.map brR)]] = [enR x] from rfl]
    rw [show apOk 56 3 ((s.e.take j).map enR) [enR x] = true from ap_ok (by decide) (by decide) (by rw [List.length_map, List.length_take]; omega) rfl, gd_true]
    congr 2
    rw [List.take_add_one, hx]
    simp
theorem g6_loop (a : Int) (K : Rs) (L : List Sa) (hL : okSas L) : ∀ (m i : Nat), i + m = L.length → Goes step6 (.h0 (L.map saR) (L.length : Int) (i : Int) a K ((L.take i).map saT) 0) (a, K, L.map saT)
  | 0, i, hi => by
    refine Goes.fin0 fun k rec => ?_
    have hlt : decide ((i : Int) < (L.length : Int)) = false := by simp; omega
    show t6_h0 k rec _ _ _ _ _ _ _ = _
    unfold t6_h0
    rw [hlt, cond_false, List.take_of_length_le (by omega)]
  | m + 1, i, hi => by
    have hx : L[i]? = some (L[i]'(by omega)) := List.getElem?_eq_getElem _
    generalize L[i]'(by omega) = s at hx
    have ih := g6_loop a K L hL m (i + 1) (by omega)
    have hlt : decide ((i : Int) < (L.length : Int)) = true := by simp; omega
    have hl := hL.1
    have hso := hL.2 s (List.mem_of_getElem? hx)
    have htk : (L.take i).map saT ++ [saT s] = (L.take (i + 1)).map saT := by rw [List.take_add_one, hx]; simp
    have h1 := g6_ends (L.map saR) (L.length : Int) (i : Int) s hso.2.2.2 a K ((L.take i).map saT) (ap_ok (by decide) (by decide) (by rw [List.length_map, List.length_take]; omega) rfl) (by rw [wrap1 i (by omega), htk]; exact ih) s.e.length 0 (by omega)
    rw [List.take_zero, List.map_nil] at h1
    obtain ⟨N1, hN1⟩ := g14_twin s.b hso.1
    obtain ⟨N2, hN2⟩ := Tot.of_goes (g15_list s.l hso.2.1)
    obtain ⟨N3, hN3⟩ := Tot.of_goes (g15_list s.g hso.2.2.1)
    refine h1.rec ⟨N1 + N2 + N3, fun k hk rec => ?_⟩
    show t6_h0 k rec _ _ _ _ _ _ _ = _
    unfold t6_h0
    rw [hlt, cond_true, ixR_at (map_at hx), un_sa, show g14 k (s.b.map brR) = _ from hN1 k (by omega), Option.bind_some, show g15 k (ndRows s.l) = _ from hN2 k (by omega), Option.bind_some, show g15 k (ndRows s.g) = _ from hN3 k (by omega), Option.bind_some, List.length_map]
    rfl
theorem g6_eq' (a : Int) (K : List Int) (L : List Sa) (hK : K.length < 1048577) (hL : okSas L) : Tot (fun k => g6 k a (K.map intR) (L.map saR)) (a, K.map intR, L.map saT) := by
  have h := g6_loop a (K.map intR) L hL L.length 0 (by omega)
  rw [List.take_zero, List.map_nil] at h
  refine Tot.of_goes (s := S6.e _ _ _) (h.rec0 fun k rec => ?_)
  show t6_e k rec _ _ _ = _
  unfold t6_e
  have hap : apOk 8 1 [] (K.map intR) = true := by
    cases K with
    | nil => simp [apOk, lim]
    | cons x K => simp [apOk, lim, intR] at hK ⊢; omega
  rw [hap, gd_true, gd_true, List.length_map]
  cases K with
  | nil => rfl
  | cons x K => rfl

/-! the same as itself -/
theorem eqNs_self (l : List Nd) : eqNs l l = true := (eqNs_iff l l).2 rfl
theorem g7_ends (a : Int) (K : List Int) (L : List Sa) (n i : Int) (s : Sa) (hs : okSa s) (hr : Goes step7 (.h2 n (IntKind.i64.wrap (i + 1)) a (K.map intR) (L.map saR) a (K.map intR) (L.map saR)) true) : ∀ (m j : Nat), j + m = s.e.length →
    Goes step7 (.h4 n i (s.e.length : Int) (j : Int) s.p s.t s.m s.w (s.b.map brR) (ndRows s.l) (ndRows s.g) (s.e.map enR) s.p s.t s.m s.w (s.b.map brR) (ndRows s.l) (ndRows s.g) (s.e.map enR) a (K.map intR) (L.map saR) a (K.map intR) (L.map saR)) true
  | 0, j, hj => by
    have hlt : decide ((j : Int) < (s.e.length : Int)) = false := by simp; omega
    refine hr.rec0 fun k rec => ?_
    show t7_h4 k rec _ _ _ _ _ _ _ _ _ _ _ _ _ _ _ _ _ _ _ _ _ _ _ _ _ _ = _
    unfold t7_h4
    rw [hlt, cond_false]
  | m + 1, j, hj => by
    have hx : s.e[j]? = some (s.e[j]'(by omega)) := List.getElem?_eq_getElem _
    generalize s.e[j]'(by omega) = x at hx
    have ih := g7_ends a K L n i s hs hr m (j + 1) (by omega)
    have hlt : decide ((j : Int) < (s.e.length : Int)) = true := by simp; omega
    have hl := hs.2.2.2.1
    have hxo := hs.2.2.2.2 x (List.mem_of_getElem? hx)
    obtain ⟨N1, hN1⟩ := Tot.of_goes (g17_list x.c hxo.1 x.c)
    obtain ⟨N2, hN2⟩ := g18_eq' x.r x.r hxo.2
    rw [eqNs_self] at hN1
    rw [(eqBs_iff x.r x.r).2 rfl] at hN2
    have h5 : Goes step7 (.h5 n i (s.e.length : Int) (j : Int) false s.p s.t s.m s.w (s.b.map brR) (ndRows s.l) (ndRows s.g) (s.e.map enR) s.p s.t s.m s.w (s.b.map brR) (ndRows s.l) (ndRows s.g) (s.e.map enR) a (K.map intR) (L.map saR) a (K.map intR) (L.map saR)) true := by
      refine ih.rec0 fun k rec => ?_
      show t7_h5 k rec _ _ _ _ _ _ _ _ _ _ _ _ _ _ _ _ _ _ _ _ _ _ _ _ _ _ _ = _
      unfold t7_h5
      rw [cond_false, wrap1 j (by omega)]
    refine h5.rec ⟨N1 + N2, fun k hk rec => ?_⟩
    show t7_h4 k rec _ _ _ _ _ _ _ _ _ _ _ _ _ _ _ _ _ _ _ _ _ _ _ _ _ _ = _
    unfold t7_h4
    rw [hlt, cond_true, ixR_at (map_at hx), un_en, ixR_at (map_at hx), un_en, bne_self_eq_false, cond_false, show g17 k (ndRows x.c) (ndRows x.c) = _ from hN1 k (by omega), Option.bind_some, Bool.not_true, cond_false, show g18 k (x.r.map brR) (x.r.map brR) = _ from hN2 k (by omega)]
    rfl
theorem g7_states (a : Int) (K : List Int) (L : List Sa) (hL : okSas L) : ∀ (m i : Nat), i + m = L.length → Goes step7 (.h2 (L.length : Int) (i : Int) a (K.map intR) (L.map saR) a (K.map intR) (L.map saR)) true
  | 0, i, hi => by
    refine Goes.fin0 fun k rec => ?_
    have hlt : decide ((i : Int) < (L.length : Int)) = false := by simp; omega
    show t7_h2 k rec _ _ _ _ _ _ _ _ = _
    unfold t7_h2
    rw [hlt, cond_false]
  | m + 1, i, hi => by
    have hx : L[i]? = some (L[i]'(by omega)) := List.getElem?_eq_getElem _
    generalize L[i]'(by omega) = s at hx
    have ih := g7_states a K L hL m (i + 1) (by omega)
    have hlt : decide ((i : Int) < (L.length : Int)) = true := by simp; omega
    have hl := hL.1
    have hso := hL.2 s (List.mem_of_getElem? hx)
    have h4 := g7_ends a K L (L.length : Int) (i : Int) s hso (by rw [wrap1 i (by omega)]; exact ih) s.e.length 0 (by omega)
    obtain ⟨N, hN⟩ := g16_eq' s s hso (s.e.map enR) (s.e.map enR)
    rw [(al_iff s s).2 rfl] at hN
    have h3 : Goes step7 (.h3 (L.length : Int) (i : Int) false s.p s.t s.m s.w (s.b.map brR) (ndRows s.l) (ndRows s.g) (s.e.map enR) s.p s.t s.m s.w (s.b.map brR) (ndRows s.l) (ndRows s.g) (s.e.map enR) a (K.map intR) (L.map saR) a (K.map intR) (L.map saR)) true := by
      refine h4.rec0 fun k rec => ?_
      show t7_h3 k rec _ _ _ _ _ _ _ _ _ _ _ _ _ _ _ _ _ _ _ _ _ _ _ _ _ = _
      unfold t7_h3
      rw [cond_false, List.length_map]; rfl
    refine h3.rec ⟨N, fun k hk rec => ?_⟩
    show t7_h2 k rec _ _ _ _ _ _ _ _ = _
    unfold t7_h2
    rw [hlt, cond_true, ixR_at (map_at hx), un_sa, ixR_at (map_at hx), un_sa, show g16 k s.p s.t s.m s.w (s.b.map brR) (ndRows s.l) (ndRows s.g) (s.e.map enR) s.p s.t s.m s.w (s.b.map brR) (ndRows s.l) (ndRows s.g) (s.e.map enR) = _ from hN k hk, Option.bind_some, Bool.not_true, cond_false, bne_self_eq_false]
theorem g7_keys (a : Int) (K : List Int) (L : List Sa) (hK : K.length < 1048577) (hL : okSas L) : ∀ (m i : Nat), i + m = K.length → Goes step7 (.h1 (K.length : Int) (i : Int) a (K.map intR) (L.map saR) a (K.map intR) (L.map saR)) true
  | 0, i, hi => by
    have hlt : decide ((i : Int) < (K.length : Int)) = false := by simp; omega
    refine (g7_states a K L hL L.length 0 (by omega)).rec0 fun k rec => ?_
    show t7_h1 k rec _ _ _ _ _ _ _ _ = _
    unfold t7_h1
    rw [hlt, cond_false, List.length_map]; rfl
  | m + 1, i, hi => by
    have hx : K[i]? = some (K[i]'(by omega)) := List.getElem?_eq_getElem _
    generalize K[i]'(by omega) = x at hx
    have ih := g7_keys a K L hK hL m (i + 1) (by omega)
    have hlt : decide ((i : Int) < (K.length : Int)) = true := by simp; omega
    refine ih.rec0 fun k rec => ?_
    show t7_h1 k rec _ _ _ _ _ _ _ _ = _
    unfold t7_h1
    rw [hlt, cond_true, ixR_at (map_at hx), un_int, ixR_at (map_at hx), un_int, bne_self_eq_false, cond_false, wrap1 i (by omega)]
theorem g7_self (a : Int) (K : List Int) (L : List Sa) (hK : K.length < 1048577) (hL : okSas L) : Tot (fun k => g7 k a (K.map intR) (L.map saR) a (K.map intR) (L.map saR)) true := by
  have h := g7_keys a K L hK hL K.length 0 (by omega)
  have h0 : Goes step7 (.h0 false a (K.map intR) (L.map saR) a (K.map intR) (L.map saR)) true := by
    refine h.rec0 fun k rec => ?_
    show t7_h0 k rec _ _ _ _ _ _ _ = _
    unfold t7_h0
    rw [cond_false, List.length_map]; rfl
  refine Tot.of_goes (s := S7.e _ _ _ _ _ _) (h0.rec0 fun k rec => ?_)
  show t7_e k rec _ _ _ _ _ _ = _
  unfold t7_e
  rw [bne_self_eq_false, cond_false, bne_self_eq_false, cond_false, bne_self_eq_false]
end Ab
end Go.Proofs.YtgghingfdcmelaaGreat

/-
  What is alike but for its ends; the first that is; none twice; of the form.
-/
import Derived.Test.YtgghingfdcmelaaA2
set_option linter.unusedVariables false
set_option linter.unusedSimpArgs false
namespace Go.Proofs.Ytgghingfdcmelaa
namespace Ab

def bareS (x : Sa) : Sa := { x with e := [] }
def al (x y : Sa) : Bool := eqS (bareS x) (bareS y)
theorem al_iff (x y : Sa) : al x y = true ↔ bareS x = bareS y := eqS_iff _ _
theorem ok_bare {x : Sa} (h : okSa x) : okSa (bareS x) := ⟨h.1, h.2.1, h.2.2.1, by simp [okEns, bareS]⟩
theorem g27_eq (x y : Sa) (hx : okSa x) (xe ye : Rs) : Tot (fun k => g27 k x.p x.t x.m x.w (x.b.map brR) (ndRows x.l) (ndRows x.g) xe y.p y.t y.m y.w (y.b.map brR) (ndRows y.l) (ndRows y.g) ye) (al x y) := by
  obtain ⟨N, hN⟩ := g8_eq (a := 0) (a' := 0) [] [] [bareS x] [bareS y] (by decide) ⟨by simp, by simpa using ok_bare hx⟩
  refine Tot.of_goes (s := S27.e _ _ _ _ _ _ _ _ _ _ _ _ _ _ _ _) (Goes.fin ⟨N + 1, fun k hk rec => ?_⟩)
  obtain ⟨j, rfl⟩ : ∃ j, k = j + 1 := ⟨k - 1, by omega⟩
  show t27_e (j + 1) rec _ _ _ _ _ _ _ _ _ _ _ _ _ _ _ _ = _
  unfold t27_e
  have h8 : g8 (j + 1) 0 [] (immRs [[ic x.p, ic x.t, bc x.m, ic x.w, .imm (x.b.map brR), .imm (ndRows x.l), .imm (ndRows x.g), .nil]]) 0 [] (immRs [[ic y.p, ic y.t, bc y.m, ic y.w, .imm (y.b.map brR), .imm (ndRows y.l), .imm (ndRows y.g), .nil]]) = _ := hN (j + 1) (by omega)
  have hv : ((0 : Int) == 0 && (eqL (fun x y : Int => x == y) [] [] && eqL eqS [bareS x] [bareS y])) = al x y := by
    simp [eqL, al]
  rw [hv] at h8
  simp only [g45_of, g46_bare, Option.bind_some, tup4, tup2, h8]
  simp only [al, eqS, bareS]
  cases x.p == y.p <;> cases x.t == y.t <;> cases x.m == y.m <;> cases x.w == y.w <;> rfl

def fnd : List Sa → Sa → Nat
  | [], _ => 0
  | x :: l, y => bif al x y then 0 else fnd l y + 1
theorem fnd_le (l : List Sa) (y : Sa) : fnd l y ≤ l.length := by
  induction l with
  | nil => simp [fnd]
  | cons x l ih =>
    simp only [fnd, List.length_cons]
    cases al x y
    · simp only [cond_false]; omega
    · simp only [cond_true]; omega
theorem g14_loop (L : List Sa) (y : Sa) (ye : Rs) (hL : okSas L) : ∀ (m i : Nat), i + m = L.length →
    Goes step14 (.h0 (L.map saR) (L.map saR) (L.length : Int) (i : Int) y.p y.t y.m y.w (y.b.map brR) (ndRows y.l) (ndRows y.g) ye) ((i + fnd (L.drop i) y : Nat) : Int)
  | 0, i, hi => by
    refine Goes.fin0 fun k rec => ?_
    have hlt : decide ((i : Int) < (L.length : Int)) = false := by simp; omega
    show t14_h0 k rec _ _ _ _ _ _ _ _ _ _ _ _ = _
    unfold t14_h0
    rw [hlt, cond_false, List.drop_eq_nil_of_le (by omega), List.length_map]
    have : i = L.length := by omega
    subst this
    rfl
  | m + 1, i, hi => by
    have hx : L[i]? = some (L[i]'(by omega)) := List.getElem?_eq_getElem _
    have hd : L.drop i = L[i]'(by omega) :: L.drop (i + 1) := List.drop_eq_getElem_cons _
    generalize L[i]'(by omega) = x at hx hd
    have ih := g14_loop L y ye hL m (i + 1) (by omega)
    have hlt : decide ((i : Int) < (L.length : Int)) = true := by simp; omega
    have hl := hL.1
    obtain ⟨N, hN⟩ := g27_eq x y (hL.2 x (List.mem_of_getElem? hx)) (x.e.map enR) ye
    rw [hd]
    have open1 : ∀ k (rec : S14 → Option R14), step14 k rec (.h0 (L.map saR) (L.map saR) (L.length : Int) (i : Int) y.p y.t y.m y.w (y.b.map brR) (ndRows y.l) (ndRows y.g) ye) = t14_h0 k rec (L.map saR) (L.map saR) (L.length : Int) (i : Int) y.p y.t y.m y.w (y.b.map brR) (ndRows y.l) (ndRows y.g) ye := fun _ _ => rfl
    cases hxy : al x y with
    | true =>
      rw [hxy] at hN
      refine Goes.fin ⟨N, fun k hk rec => ?_⟩
      rw [open1]; unfold t14_h0
      rw [hlt, cond_true, ixR_at (map_at hx), un_sa, show g27 k x.p x.t x.m x.w (x.b.map brR) (ndRows x.l) (ndRows x.g) (x.e.map enR) y.p y.t y.m y.w (y.b.map brR) (ndRows y.l) (ndRows y.g) ye = _ from hN k hk]
      simp [fnd, hxy]
    | false =>
      rw [hxy] at hN
      have e : i + fnd (x :: L.drop (i + 1)) y = (i + 1) + fnd (L.drop (i + 1)) y := by
        simp only [fnd, hxy, cond_false]; omega
      rw [e]
      refine ih.rec ⟨N, fun k hk rec => ?_⟩
      rw [open1]; unfold t14_h0
      rw [hlt, cond_true, ixR_at (map_at hx), un_sa, show g27 k x.p x.t x.m x.w (x.b.map brR) (ndRows x.l) (ndRows x.g) (x.e.map enR) y.p y.t y.m y.w (y.b.map brR) (ndRows y.l) (ndRows y.g) ye = _ from hN k hk, wrap1 i (by omega)]
      rfl
theorem g14_eq (L : List Sa) (y : Sa) (ye : Rs) (hL : okSas L) : Tot (fun k => g14 k (L.map saR) y.p y.t y.m y.w (y.b.map brR) (ndRows y.l) (ndRows y.g) ye) ((fnd L y : Nat) : Int) := by
  have h := g14_loop L y ye hL L.length 0 (by omega)
  rw [List.drop_zero, Nat.zero_add] at h
  refine Tot.of_goes (s := S14.e _ _ _ _ _ _ _ _ _) (h.rec0 fun k rec => ?_)
  show t14_e k rec _ _ _ _ _ _ _ _ _ = _
  unfold t14_e
  rw [List.length_map]; rfl

/-- none has one that is alike ahead of it. -/
def lst (L : List Sa) : List Sa → Nat → Bool
  | [], _ => true
  | x :: r, i => bif decide (fnd L x < i) then false else lst L r (i + 1)
theorem g7_loop (L : List Sa) (a : Int) (K : Rs) (hL : okSas L) : ∀ (m i : Nat), i + m = L.length →
    Goes step7 (.h0 (L.map saR) (L.length : Int) (i : Int) a K (L.map saR)) (lst L (L.drop i) i)
  | 0, i, hi => by
    refine Goes.fin0 fun k rec => ?_
    have hlt : decide ((i : Int) < (L.length : Int)) = false := by simp; omega
    show t7_h0 k rec _ _ _ _ _ _ = _
    unfold t7_h0
    rw [hlt, cond_false, List.drop_eq_nil_of_le (by omega)]
    rfl
  | m + 1, i, hi => by
    have hx : L[i]? = some (L[i]'(by omega)) := List.getElem?_eq_getElem _
    have hd : L.drop i = L[i]'(by omega) :: L.drop (i + 1) := List.drop_eq_getElem_cons _
    generalize L[i]'(by omega) = x at hx hd
    have ih := g7_loop L a K hL m (i + 1) (by omega)
    have hlt : decide ((i : Int) < (L.length : Int)) = true := by simp; omega
    have hl := hL.1
    obtain ⟨N, hN⟩ := g14_eq L x (x.e.map enR) hL
    rw [hd]
    have open1 : ∀ k (rec : S7 → Option R7), step7 k rec (.h0 (L.map saR) (L.length : Int) (i : Int) a K (L.map saR)) = t7_h0 k rec (L.map saR) (L.length : Int) (i : Int) a K (L.map saR) := fun _ _ => rfl
    have hdec : decide (((fnd L x : Nat) : Int) < (i : Int)) = decide (fnd L x < i) := by simp
    cases hc : decide (fnd L x < i) with
    | true =>
      refine Goes.fin ⟨N, fun k hk rec => ?_⟩
      rw [open1]; unfold t7_h0
      rw [hlt, cond_true, ixR_at (map_at hx), un_sa, show g14 k (L.map saR) x.p x.t x.m x.w (x.b.map brR) (ndRows x.l) (ndRows x.g) (x.e.map enR) = _ from hN k hk, Option.bind_some, hdec, hc]
      simp only [lst, hc, cond_true]
    | false =>
      simp only [lst, hc, cond_false]
      refine ih.rec ⟨N, fun k hk rec => ?_⟩
      rw [open1]; unfold t7_h0
      rw [hlt, cond_true, ixR_at (map_at hx), un_sa, show g14 k (L.map saR) x.p x.t x.m x.w (x.b.map brR) (ndRows x.l) (ndRows x.g) (x.e.map enR) = _ from hN k hk, Option.bind_some, hdec, hc, wrap1 i (by omega)]
      rfl
theorem g7_eq (L : List Sa) (a : Int) (K : Rs) (hL : okSas L) : Tot (fun k => g7 k a K (L.map saR)) (lst L L 0) := by
  have h := g7_loop L a K hL L.length 0 (by omega)
  rw [List.drop_zero] at h
  refine Tot.of_goes (s := S7.e _ _ _) (h.rec0 fun k rec => ?_)
  show t7_e k rec _ _ _ = _
  unfold t7_e
  rw [List.length_map]; rfl

/-! of the form -/
def gdE (e : List En) : Bool := e.all fun x => decide (0 ≤ x.b)
def gdS (i : Nat) (s : Sa) : Bool := decide (-1 ≤ s.p) && (decide (s.p < i) && (decide (0 ≤ s.t) && (decide (0 ≤ s.w) && (decide (s.w ≤ 1152921504606846976) && gdE s.e))))
def gdL : List Sa → Nat → Bool
  | [], _ => true
  | s :: l, i => gdS i s && gdL l (i + 1)
def good (a : Int) (L : List Sa) : Bool := decide (1 ≤ a) && (decide (a ≤ 3) && (decide (L.length ≤ 32) && gdL L 0))
theorem g5_ends (L : Rs) (n i : Int) (E : List En) (hE : E.length < 1073741824) {r : Bool} (hr : gdE E = true → Goes step5 (.h1 L n (IntKind.i64.wrap (i + 1))) r) : ∀ (m j : Nat), j + m = E.length →
    gdE (E.take j) = true → Goes step5 (.h3 L n i (E.map enR) (E.length : Int) (j : Int)) (gdE E && r)
  | 0, j, hj, hg => by
    rw [List.take_of_length_le (by omega)] at hg
    rw [hg, Bool.true_and]
    have hlt : decide ((j : Int) < (E.length : Int)) = false := by simp; omega
    refine (hr hg).rec0 fun k rec => ?_
    show t5_h3 k rec _ _ _ _ _ _ = _
    unfold t5_h3
    rw [hlt, cond_false]
  | m + 1, j, hj, hg => by
    have hx : E[j]? = some (E[j]'(by omega)) := List.getElem?_eq_getElem _
    generalize E[j]'(by omega) = x at hx
    have hlt : decide ((j : Int) < (E.length : Int)) = true := by simp; omega
    have open1 : ∀ k (rec : S5 → Option R5), step5 k rec (.h3 L n i (E.map enR) (E.length : Int) (j : Int)) = t5_h3 k rec L n i (E.map enR) (E.length : Int) (j : Int) := fun _ _ => rfl
    by_cases hb : x.b < 0
    · have : gdE E = false := by
        unfold gdE
        rw [List.all_eq_false]
        exact ⟨x, List.mem_of_getElem? hx, by simpa using hb⟩
      rw [this, Bool.false_and]
      refine Goes.fin0 fun k rec => ?_
      rw [open1]; unfold t5_h3
      rw [hlt, cond_true, ixR_at (map_at hx), un_en]
      simp [hb]
    · have ih := g5_ends L n i E hE hr m (j + 1) (by omega) (by
        rw [List.take_add_one, hx]
        unfold gdE at hg ⊢
        rw [List.all_append, hg]
        simp; omega)
      refine ih.rec0 fun k rec => ?_
      rw [open1]; unfold t5_h3
      rw [hlt, cond_true, ixR_at (map_at hx), un_en, wrap1 j (by omega)]
      simp [hb]
theorem g5_loop (L : List Sa) (hL : okSas L) : ∀ (m i : Nat), i + m = L.length → Goes step5 (.h1 (L.map saR) (L.length : Int) (i : Int)) (gdL (L.drop i) i)
  | 0, i, hi => by
    refine Goes.fin0 fun k rec => ?_
    have hlt : decide ((i : Int) < (L.length : Int)) = false := by simp; omega
    show t5_h1 k rec _ _ _ = _
    unfold t5_h1
    rw [hlt, cond_false, List.drop_eq_nil_of_le (by omega)]
    rfl
  | m + 1, i, hi => by
    have hx : L[i]? = some (L[i]'(by omega)) := List.getElem?_eq_getElem _
    have hd : L.drop i = L[i]'(by omega) :: L.drop (i + 1) := List.drop_eq_getElem_cons _
    generalize L[i]'(by omega) = x at hx hd
    have ih := g5_loop L hL m (i + 1) (by omega)
    have hlt : decide ((i : Int) < (L.length : Int)) = true := by simp; omega
    have hl := hL.1
    have hxo := hL.2 x (List.mem_of_getElem? hx)
    rw [hd]
    have open1 : ∀ k (rec : S5 → Option R5), step5 k rec (.h1 (L.map saR) (L.length : Int) (i : Int)) = t5_h1 k rec (L.map saR) (L.length : Int) (i : Int) := fun _ _ => rfl
    -- behind the head
    have tail : ∀ c : Bool, Goes step5 (.h2 (L.map saR) (L.length : Int) (i : Int) c x.p x.t x.m x.w (x.b.map brR) (ndRows x.l) (ndRows x.g) (x.e.map enR)) (!c && (gdE x.e && gdL (L.drop (i + 1)) (i + 1))) := by
      intro c
      cases c with
      | true =>
        exact Goes.fin0 fun k rec => rfl
      | false =>
        have h3 := g5_ends (L.map saR) (L.length : Int) (i : Int) x.e (by have := hxo.2.2.2.1; omega) (r := gdL (L.drop (i + 1)) (i + 1)) (fun _ => by rw [wrap1 i (by omega)]; exact ih) x.e.length 0 (by omega) rfl
        rw [Bool.not_false, Bool.true_and]
        refine h3.rec0 fun k rec => ?_
        have o2 : step5 k rec (.h2 (L.map saR) (L.length : Int) (i : Int) false x.p x.t x.m x.w (x.b.map brR) (ndRows x.l) (ndRows x.g) (x.e.map enR)) = rec (.h3 (L.map saR) (L.length : Int) (i : Int) (x.e.map enR) ((x.e.map enR).length : Int) 0) := rfl
        rw [o2, List.length_map]; rfl
    obtain ⟨c, hc, e⟩ : ∃ c : Bool, (gdL (x :: L.drop (i + 1)) i = (!c && (gdE x.e && gdL (L.drop (i + 1)) (i + 1)))) ∧ ∀ k (rec : S5 → Option R5), step5 k rec (.h1 (L.map saR) (L.length : Int) (i : Int)) = rec (.h2 (L.map saR) (L.length : Int) (i : Int) c x.p x.t x.m x.w (x.b.map brR) (ndRows x.l) (ndRows x.g) (x.e.map enR)) := by
      by_cases h1 : x.p < -1
      · refine ⟨true, ?_, fun k rec => ?_⟩
        · have : decide (-1 ≤ x.p) = false := by simp; omega
          simp [gdL, gdS, this]
        · rw [open1]; unfold t5_h1
          rw [hlt, cond_true, ixR_at (map_at hx), un_sa, decide_eq_true h1, cond_true]
      by_cases h2 : x.p ≥ i
      · refine ⟨true, ?_, fun k rec => ?_⟩
        · have : decide (x.p < i) = false := by simp; omega
          simp [gdL, gdS, this]
        · rw [open1]; unfold t5_h1
          rw [hlt, cond_true, ixR_at (map_at hx), un_sa, decide_eq_false h1, cond_false, decide_eq_true h2, cond_true]
      by_cases h3 : x.t < 0
      · refine ⟨true, ?_, fun k rec => ?_⟩
        · have : decide (0 ≤ x.t) = false := by simp; omega
          simp [gdL, gdS, this]
        · rw [open1]; unfold t5_h1
          rw [hlt, cond_true, ixR_at (map_at hx), un_sa, decide_eq_false h1, cond_false, decide_eq_false h2, cond_false, decide_eq_true h3, cond_true]
      by_cases h4 : x.w < 0
      · refine ⟨true, ?_, fun k rec => ?_⟩
        · have : decide (0 ≤ x.w) = false := by simp; omega
          simp [gdL, gdS, this]
        · rw [open1]; unfold t5_h1
          rw [hlt, cond_true, ixR_at (map_at hx), un_sa, decide_eq_false h1, cond_false, decide_eq_false h2, cond_false, decide_eq_false h3, cond_false, decide_eq_true h4, cond_true]
      refine ⟨decide (x.w > 1152921504606846976), ?_, fun k rec => ?_⟩
      · have e1 : decide (-1 ≤ x.p) = true := by simp; omega
        have e2 : decide (x.p < i) = true := by simp; omega
        have e3 : decide (0 ≤ x.t) = true := by simp; omega
        have e4 : decide (0 ≤ x.w) = true := by simp; omega
        have e5 : decide (x.w ≤ 1152921504606846976) = !decide (x.w > 1152921504606846976) := by
          by_cases h : x.w ≤ 1152921504606846976
          · have h' : ¬ x.w > 1152921504606846976 := by omega
            simp [h, h']
          · have h' : x.w > 1152921504606846976 := by omega
            simp [h, h']
        simp only [gdL, gdS, e1, e2, e3, e4, e5, Bool.true_and, Bool.and_assoc]
      · rw [open1]; unfold t5_h1
        rw [hlt, cond_true, ixR_at (map_at hx), un_sa, decide_eq_false h1, cond_false, decide_eq_false h2, cond_false, decide_eq_false h3, cond_false, decide_eq_false h4, cond_false]
    rw [hc]
    exact (tail c).rec0 e
theorem g5_eq (a : Int) (K : Rs) (L : List Sa) (hL : okSas L) : Tot (fun k => g5 k a K (L.map saR)) (good a L) := by
  have h := g5_loop L hL L.length 0 (by omega)
  rw [List.drop_zero] at h
  have tail : ∀ c : Bool, Goes step5 (.h0 c a K (L.map saR)) (!c && gdL L 0) := by
    intro c
    cases c with
    | true =>
      exact Goes.fin0 fun k rec => rfl
    | false =>
      rw [Bool.not_false, Bool.true_and]
      refine h.rec0 fun k rec => ?_
      have o2 : step5 k rec (.h0 false a K (L.map saR)) = rec (.h1 (L.map saR) ((L.map saR).length : Int) 0) := rfl
      rw [o2, List.length_map]; rfl
  have open1 : ∀ k (rec : S5 → Option R5), step5 k rec (.e a K (L.map saR)) = t5_e k rec a K (L.map saR) := fun _ _ => rfl
  refine Tot.of_goes (s := S5.e _ _ _) ?_
  by_cases h1 : a < 1
  · have e : good a L = (!true && gdL L 0) := by
      have : decide (1 ≤ a) = false := by simp; omega
      simp [good, this]
    rw [e]
    refine (tail true).rec0 fun k rec => ?_
    rw [open1]; unfold t5_e
    rw [decide_eq_true h1, cond_true]
  by_cases h2 : a > 3
  · have e : good a L = (!true && gdL L 0) := by
      have : decide (a ≤ 3) = false := by simp; omega
      simp [good, this]
    rw [e]
    refine (tail true).rec0 fun k rec => ?_
    rw [open1]; unfold t5_e
    rw [decide_eq_false h1, cond_false, decide_eq_true h2, cond_true]
  have e : good a L = (!decide ((L.length : Int) > 32) && gdL L 0) := by
    have e1 : decide (1 ≤ a) = true := by simp; omega
    have e2 : decide (a ≤ 3) = true := by simp; omega
    have e3 : decide (L.length ≤ 32) = !decide ((L.length : Int) > 32) := by
      by_cases h : L.length ≤ 32
      · have h' : ¬ (L.length : Int) > 32 := by omega
        rw [decide_eq_true h, decide_eq_false h']; rfl
      · have h' : (L.length : Int) > 32 := by omega
        rw [decide_eq_false h, decide_eq_true h']; rfl
    simp only [good, e1, e2, e3, Bool.true_and]
  rw [e]
  refine (tail _).rec0 fun k rec => ?_
  rw [open1]; unfold t5_e
  rw [decide_eq_false h1, cond_false, decide_eq_false h2, cond_false, List.length_map]

end Ab
end Go.Proofs.Ytgghingfdcmelaa

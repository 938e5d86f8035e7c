/-
  What is alike but for its ends; the first that is; none twice; of the form.
-/
import Derived.Test.YtgghingfdcmelaaGreatA2
set_option linter.unusedVariables false
set_option linter.unusedSimpArgs false
namespace Go.Proofs.YtgghingfdcmelaaGreat
namespace Ab

def bareS (x : Sa) : Sa := { x with e := [] }
def al (x y : Sa) : Bool := eqS (bareS x) (bareS y)
theorem al_iff (x y : Sa) : al x y = true ↔ bareS x = bareS y := eqS_iff _ _
theorem ok_bare {x : Sa} (h : okSa x) : okSa (bareS x) := ⟨h.1, h.2.1, h.2.2.1, by simp [okEns, bareS]⟩
theorem g26_eq (x y : Sa) (hx : okSa x) (xe ye : Rs) : Tot (fun k => g26 k x.p x.t x.m x.w (x.b.map brR) (ndRows x.l) (ndRows x.g) xe y.p y.t y.m y.w (y.b.map brR) (ndRows y.l) (ndRows y.g) ye) (al x y) := by
  obtain ⟨N, hN⟩ := g41_eq (a := 0) (a' := 0) [] [] [bareS x] [bareS y] (by decide) ⟨by simp, by simpa using ok_bare hx⟩
  refine Tot.of_goes (s := S26.e _ _ _ _ _ _ _ _ _ _ _ _ _ _ _ _) (Goes.fin ⟨N + 1, fun k hk rec => ?_⟩)
  obtain ⟨j, rfl⟩ : ∃ j, k = j + 1 := ⟨k - 1, by omega⟩
  show t26_e (j + 1) rec _ _ _ _ _ _ _ _ _ _ _ _ _ _ _ _ = _
  unfold t26_e
  have h8 : g41 (j + 1) 0 [] (immRs [[ic x.p, ic x.t, bc x.m, ic x.w, .imm (x.b.map brR), .imm (ndRows x.l), .imm (ndRows x.g), .nil]]) 0 [] (immRs [[ic y.p, ic y.t, bc y.m, ic y.w, .imm (y.b.map brR), .imm (ndRows y.l), .imm (ndRows y.g), .nil]]) = _ := hN (j + 1) (by omega)
  have hv : ((0 : Int) == 0 && (eqL (fun x y : Int => x == y) [] [] && eqL eqS [bareS x] [bareS y])) = al x y := by
    simp [eqL, al]
  rw [hv] at h8
  simp only [g40_of, g42_bare, Option.bind_some, tup4, tup2, h8]
  simp only [al, eqS, bareS]
  cases x.p == y.p <;> cases x.t == y.t <;> cases x.m == y.m <;> cases x.w == y.w <;> rfl

def fnd : List Sa → Sa → Nat
  | [], _ => 0
  | x :: l, y => bif al x y then 0 else fnd l y + 1
theorem fnd_le (l : List Sa) (y : Sa) : fnd l y ≤ l.length := by
  induction l with
  | nil => simp [fnd]
  | cons x l ih =>
    simp only [fnd, List.length_cons]
    cases al x y
    · simp only [cond_false]; omega
    · simp only [cond_true]; omega
theorem g21_loop (L : List Sa) (y : Sa) (ye : Rs) (hL : okSas L) : ∀ (m i : Nat), i + m = L.length →
    Goes step21 (.h0 (L.map saR) (L.map saR) (L.length : Int) (i : Int) y.p y.t y.m y.w (y.b.map brR) (ndRows y.l) (ndRows y.g) ye) ((i + fnd (L.drop i) y : Nat) : Int)
  | 0, i, hi => by
    refine Goes.fin0 fun k rec => ?_
    have hlt : decide ((i : Int) < (L.length : Int)) = false := by simp; omega
    show t21_h0 k rec _ _ _ _ _ _ _ _ _ _ _ _ = _
    unfold t21_h0
    rw [hlt, cond_false, List.drop_eq_nil_of_le (by omega), List.length_map]
    have : i = L.length := by omega
    subst this
    rfl
  | m + 1, i, hi => by
    have hx : L[i]? = some (L[i]'(by omega)) := List.getElem?_eq_getElem _
    have hd : L.drop i = L[i]'(by omega) :: L.drop (i + 1) := List.drop_eq_getElem_cons _
    generalize L[i]'(by omega) = x at hx hd
    have ih := g21_loop L y ye hL m (i + 1) (by omega)
    have hlt : decide ((i : Int) < (L.length : Int)) = true := by simp; omega
    have hl := hL.1
    obtain ⟨N, hN⟩ := g26_eq x y (hL.2 x (List.mem_of_getElem? hx)) (x.e.map enR) ye
    rw [hd]
    have open1 : ∀ k (rec : S21 → Option R21), step21 k rec (.h0 (L.map saR) (L.map saR) (L.length : Int) (i : Int) y.p y.t y.m y.w (y.b.map brR) (ndRows y.l) (ndRows y.g) ye) = t21_h0 k rec (L.map saR) (L.map saR) (L.length : Int) (i : Int) y.p y.t y.m y.w (y.b.map brR) (ndRows y.l) (ndRows y.g) ye := fun _ _ => rfl
    cases hxy : al x y with
    | true =>
      rw [hxy] at hN
      refine Goes.fin ⟨N, fun k hk rec => ?_⟩
      rw [open1]; unfold t21_h0
      rw [hlt, cond_true, ixR_at (map_at hx), un_sa, show g26 k x.p x.t x.m x.w (x.b.map brR) (ndRows x.l) (ndRows x.g) (x.e.map enR) y.p y.t y.m y.w (y.b.map brR) (ndRows y.l) (ndRows y.g) ye = _ from hN k hk]
      simp [fnd, hxy]
    | false =>
      rw [hxy] at hN
      have e : i + fnd (x :: L.drop (i + 1)) y = (i + 1) + fnd (L.drop (i + 1)) y := by
        simp only [fnd, hxy, cond_false]; omega
      rw [e]
      refine ih.rec ⟨N, fun k hk rec => ?_⟩
      rw [open1]; unfold t21_h0
      rw [hlt, cond_true, ixR_at (map_at hx), un_sa, show g26 k x.p x.t x.m x.w (x.b.map brR) (ndRows x.l) (ndRows x.g) (x.e.map enR) y.p y.t y.m y.w (y.b.map brR) (ndRows y.l) (ndRows y.g) ye = _ from hN k hk, wrap1 i (by omega)]
      rfl
theorem g21_eq (L : List Sa) (y : Sa) (ye : Rs) (hL : okSas L) : Tot (fun k => g21 k (L.map saR) y.p y.t y.m y.w (y.b.map brR) (ndRows y.l) (ndRows y.g) ye) ((fnd L y : Nat) : Int) := by
  have h := g21_loop L y ye hL L.length 0 (by omega)
  rw [List.drop_zero, Nat.zero_add] at h
  refine Tot.of_goes (s := S21.e _ _ _ _ _ _ _ _ _) (h.rec0 fun k rec => ?_)
  show t21_e k rec _ _ _ _ _ _ _ _ _ = _
  unfold t21_e
  rw [List.length_map]; rfl

/-- none has one that is alike ahead of it. -/
def lst (L : List Sa) : List Sa → Nat → Bool
  | [], _ => true
  | x :: r, i => bif decide (fnd L x < i) then false else lst L r (i + 1)
/-! of the form -/
def gdE (e : List En) : Bool := e.all fun x => decide (0 ≤ x.b)
def gdS (i : Nat) (s : Sa) : Bool := decide (-1 ≤ s.p) && (decide (s.p < i) && (decide (0 ≤ s.t) && (decide (0 ≤ s.w) && (decide (s.w ≤ 1152921504606846976) && gdE s.e))))
def gdL : List Sa → Nat → Bool
  | [], _ => true
  | s :: l, i => gdS i s && gdL l (i + 1)
def good (a : Int) (L : List Sa) : Bool := decide (1 ≤ a) && (decide (a ≤ 3) && (decide (L.length ≤ 32) && gdL L 0))
end Ab
end Go.Proofs.YtgghingfdcmelaaGreat

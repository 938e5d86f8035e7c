/-
  Which registers are needed.
-/
import Derived.Test.YtebmcaceklbopaaN16
set_option linter.unusedVariables false
set_option linter.unusedSimpArgs false
namespace Go.Proofs.Ytebmcaceklbopaa
namespace Ab
/-- so many rows. -/
def rowsG (n : Nat) (g : Nat → List Cell) : Rs := (List.range n).map g
theorem rowsG_len (n : Nat) (g : Nat → List Cell) : (rowsG n g).length = n := by simp [rowsG]
theorem rowsG_at {n : Nat} {g : Nat → List Cell} {i : Nat} (h : i < n) : (rowsG n g)[i]? = some (g i) := by simp [rowsG, h]
theorem rowsG_congr {n : Nat} {g g' : Nat → List Cell} (h : ∀ j, j < n → g j = g' j) : rowsG n g = rowsG n g' := by
  unfold rowsG
  apply List.map_congr_left
  intro j hj
  exact h j (List.mem_range.1 hj)
theorem rowsG_set {n : Nat} {g : Nat → List Cell} {i : Nat} {c : Cell} (h : i < n) : setRow (rowsG n g) i 0 c = rowsG n (fun j => if j = i then (g i).set 0 c else g j) := by
  apply List.ext_getElem?
  intro j
  unfold setRow
  rw [rowsG_at h, List.getElem?_set]
  by_cases hj : i = j
  · subst hj
    have hl : i < (rowsG n g).length := by rw [rowsG_len]; exact h
    rw [if_pos rfl, if_pos hl, rowsG_at h, if_pos rfl]; rfl
  · rw [if_neg hj]
    by_cases hjn : j < n
    · rw [rowsG_at hjn, rowsG_at hjn, if_neg (Ne.symm hj)]
    · rw [List.getElem?_eq_none (by rw [rowsG_len]; omega), List.getElem?_eq_none (by rw [rowsG_len]; omega)]
theorem rowsG_repl {n : Nat} {l : List Cell} : List.replicate n l = rowsG n fun _ => l := by
  apply List.ext_getElem?
  intro j
  by_cases hj : j < n
  · rw [rowsG_at hj, List.getElem?_replicate, if_pos hj]
  · rw [List.getElem?_eq_none (by simp; omega), List.getElem?_eq_none (by rw [rowsG_len]; omega)]
def rowsB (n : Nat) (nb : Int → Bool) : Rs := rowsG n fun j => [bc (nb (j : Int))]
def rowsI (n : Nat) (b : Int → Int) : Rs := rowsG n fun j => [ic (b (j : Int))]
theorem un_bool {α : Type} (v : Bool) (k : Bool → Option α) : un_b [bc v] k = k v := rfl
theorem un_int {α : Type} (v : Int) (k : Int → Option α) : un_i [ic v] k = k v := rfl
theorem rowsB_set {n : Nat} {nb : Int → Bool} {i : Nat} {v : Bool} (h : i < n) : setRow (rowsB n nb) i 0 (bc v) = rowsB n (fun j => if j = (i : Int) then v else nb j) := by
  unfold rowsB
  rw [rowsG_set h]
  apply rowsG_congr
  intro j _
  by_cases hj : j = i
  · subst hj; simp
  · have : ¬ ((j : Int) = (i : Int)) := by omega
    rw [if_neg hj]; simp only [if_neg this]
theorem rowsI_set {n : Nat} {b : Int → Int} {i : Nat} {v : Int} (h : i < n) : setRow (rowsI n b) i 0 (ic v) = rowsI n (fun j => if j = (i : Int) then v else b j) := by
  unfold rowsI
  rw [rowsG_set h]
  apply rowsG_congr
  intro j _
  by_cases hj : j = i
  · subst hj; simp
  · have : ¬ ((j : Int) = (i : Int)) := by omega
    rw [if_neg hj]; simp only [if_neg this]

def readsAt (L : List Ins4) (i : Nat) : List Int := match L[i]? with
  | some x => reads x
  | none => []
def needS (L : List Ins4) (i : Nat) (nb : Int → Bool) : Int → Bool := if nb (i : Int) = true then fun j => nb j || decide (j ∈ readsAt L i) else nb
def needs (L : List Ins4) : Nat → (Int → Bool) → Int → Bool
  | 0, nb => nb
  | i + 1, nb => needs L i (needS L i nb)
theorem needS_up {L : List Ins4} {i : Nat} {nb : Int → Bool} {j : Int} (h : nb j = true) : needS L i nb j = true := by
  unfold needS; split <;> simp [h]
theorem needs_up {L : List Ins4} {j : Int} : ∀ (i : Nat) {nb : Int → Bool}, nb j = true → needs L i nb j = true
  | 0, _, h => h
  | i + 1, _, h => needs_up i (needS_up h)
theorem reads_len (x : Ins4) : (reads x).length < 100 := by unfold reads; split <;> (try split) <;> simp
theorem wrap_dec (i : Nat) (h : i < 4611686018427387904) : IntKind.i64.wrap ((i : Int) - 1) = (i : Int) - 1 := by
  rw [IntKind.wrap_i64]; omega

section
variable {slots z0 z1 : Int} {ins cs : Rs} {L : List Ins4} {rk : Nat} {r : Int × Int × Rs × Rs × Rs}
theorem s20_4 {i4 : Int} (all : List Int) (hall : all.length < 100) (hin : ∀ a ∈ all, 0 ≤ a ∧ a < (rk : Int)) :
    ∀ (rest done : List Int) (nb : Int → Bool), all = done ++ rest → Goes step20 (.h5 (rowsB rk fun j => nb j || decide (j ∈ rest)) i4 z0 z1 (rk : Int) slots ins cs (L.map insR)) r →
      Goes step20 (.h4 (rowsB rk nb) i4 (all.map oneR) ((all.map oneR).length : Int) (done.length : Int) z0 z1 (rk : Int) slots ins cs (L.map insR)) r
  | [], done, nb, e, h => by
    have e2 : (fun j => nb j || decide (j ∈ ([] : List Int))) = nb := by funext j; simp
    rw [e2] at h
    refine h.rec0 fun k rec => ?_
    show t20_h4 k rec _ _ _ _ _ _ _ _ _ _ _ _ = _
    unfold t20_h4
    have hlt : decide ((done.length : Int) < ((all.map oneR).length : Int)) = false := by rw [e]; simp
    rw [hlt, cond_false]
  | a :: rest, done, nb, e, h => by
    obtain ⟨ha0, ha1⟩ := hin a (by rw [e]; simp)
    obtain ⟨an, rfl⟩ : ∃ an : Nat, a = (an : Int) := ⟨a.toNat, by omega⟩
    have hlt : decide ((done.length : Int) < ((all.map oneR).length : Int)) = true := by rw [e]; simp; omega
    have hat : (all.map oneR)[done.length]? = some (oneR (an : Int)) := by rw [e]; simp
    have e1 : all = (done ++ [(an : Int)]) ++ rest := by rw [e]; simp
    have ih := s20_4 (i4 := i4) all hall hin rest (done ++ [(an : Int)]) (fun j => if j = (an : Int) then true else nb j) e1 (by
      have e3 : (fun j => (if j = (an : Int) then true else nb j) || decide (j ∈ rest)) = fun j => nb j || decide (j ∈ (an : Int) :: rest) := by
        funext j
        by_cases h1 : j = (an : Int)
        · simp [h1]
        · simp [h1]
      rw [e3]
      exact h)
    refine Goes.rec0 (s' := .h8 (setRow (rowsB rk nb) an 0 (bc true)) i4 (all.map oneR) ((all.map oneR).length : Int) (done.length : Int) z0 z1 (rk : Int) slots ins cs (L.map insR)) ?_ (fun k rec => ?_)
    · rw [rowsB_set (by omega)]
      have hl : ((done ++ [(an : Int)]).length : Int) = ((done.length + 1 : Nat) : Int) := by simp
      rw [hl] at ih
      refine ih.rec0 fun k rec => ?_
      show rec (.h4 _ _ _ _ (IntKind.i64.wrap ((done.length : Int) + 1)) _ _ _ _ _ _ _) = _
      have hd : done.length < 100 := by have := congrArg List.length e; simp at this; omega
      rw [wrap1 _ (by omega)]
    · show t20_h4 k rec _ _ _ _ _ _ _ _ _ _ _ _ = _
      unfold t20_h4
      rw [hlt, cond_true, ixR_at hat]
      show un_i [ic (an : Int)] _ = _
      rw [un_int, ixR_at (show (rowsB rk nb)[an]? = some [bc (nb (an : Int))] from rowsG_at (by omega)), un_bool, Int.toNat_natCast]

theorem s20_1 (hin : InR L rk) (hlen : L.length = rk + 1) (hs : rk < 1073741824) : ∀ (m : Nat) (nb : Int → Bool), m ≤ rk + 1 → nb (rk : Int) = true →
    Goes step20 (.h1 (rowsB rk (needs L m nb)) (-1) z0 z1 (rk : Int) slots ins cs (L.map insR)) r →
      Goes step20 (.h1 (rowsB rk nb) ((m : Int) - 1) z0 z1 (rk : Int) slots ins cs (L.map insR)) r
  | 0, nb, _, _, h => h
  | i + 1, nb, hi, ht, h => by
    have hx : L[i]? = some (L[i]'(by omega)) := List.getElem?_eq_getElem _
    generalize L[i]'(by omega) = x at hx
    have ih := s20_1 hin hlen hs i (needS L i nb) (by omega) (needS_up ht) h
    have hi4 : (((i + 1 : Nat) : Int) - 1) = (i : Int) := by omega
    rw [hi4]
    have h5 : Goes step20 (.h5 (rowsB rk (needS L i nb)) (i : Int) z0 z1 (rk : Int) slots ins cs (L.map insR)) r := by
      refine ih.rec0 fun k rec => ?_
      show rec (.h1 _ (IntKind.i64.wrap ((i : Int) - 1)) _ _ _ _ _ _ _) = _
      rw [wrap_dec i (by omega)]
    have h2 : Goes step20 (.h2 (rowsB rk nb) (i : Int) (nb (i : Int)) z0 z1 (rk : Int) slots ins cs (L.map insR)) r := by
      cases hb : nb (i : Int) with
      | false =>
        have e : needS L i nb = nb := by unfold needS; rw [hb]; simp
        rw [e] at h5
        exact h5.rec0 fun k rec => rfl
      | true =>
        have e : needS L i nb = fun j => nb j || decide (j ∈ reads x) := by unfold needS readsAt; rw [hb, hx]; simp
        rw [e] at h5
        have h4 := s20_4 (i4 := (i : Int)) (z0 := z0) (z1 := z1) (slots := slots) (ins := ins) (cs := cs) (L := L) (reads x) (reads_len x) (fun a ha => hin i x hx a ha) (reads x) [] nb rfl h5
        obtain ⟨N, hN⟩ := g34_reads x
        refine h4.rec ⟨N, fun k hk rec => ?_⟩
        show t20_h2 k rec _ _ _ _ _ _ _ _ _ _ = _
        unfold t20_h2
        rw [cond_true, ixR_at (map_at hx), un_ins, show g34 k x.op x.dst x.a x.b = _ from hN k hk]
        rfl
    refine h2.rec0 fun k rec => ?_
    show t20_h1 k rec _ _ _ _ _ _ _ _ _ = _
    unfold t20_h1
    have hge : decide ((i : Int) ≥ 0) = true := by simp
    rw [hge, cond_true]
    by_cases hr : i = rk
    · subst hr
      simp [ht]
    · have e1 : ((i : Int) == (rk : Int)) = false := by simp; omega
      rw [e1, cond_false, ixR_at (show (rowsB rk nb)[i]? = some [bc (nb (i : Int))] from rowsG_at (by omega)), un_bool]

end
end Ab
end Go.Proofs.Ytebmcaceklbopaa

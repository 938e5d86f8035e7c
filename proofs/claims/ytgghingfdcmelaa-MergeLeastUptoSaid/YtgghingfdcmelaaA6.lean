/-
  MergeLeast's function, from some depth on: true.
-/
import Derived.Test.YtgghingfdcmelaaA5
import Derived.Test.YtgghingfdcmelaaF3
set_option linter.unusedVariables false
set_option linter.unusedSimpArgs false
namespace Go.Proofs.Ytgghingfdcmelaa
namespace Ab

theorem tot_drop {L : List Sa} {i : Nat} {s : Sa} (h : L[i]? = some s) : tot (L.drop i) = s.e.length + tot (L.drop (i + 1)) := by
  have hi := (List.getElem?_eq_some_iff.1 h).1
  rw [List.drop_eq_getElem_cons hi, (List.getElem?_eq_some_iff.1 h).2]
  rfl
theorem wrap_add (n m : Nat) (h : n + m < 4611686018427387904) : IntKind.i64.wrap ((n : Int) + (m : Int)) = ((n + m : Nat) : Int) := by
  rw [IntKind.wrap_i64]; omega
theorem wrap_sub (n m : Nat) (h : n < 4611686018427387904) (hm : m ≤ n) : IntKind.i64.wrap ((n : Int) - (m : Int)) = ((n - m : Nat) : Int) := by
  rw [IntKind.wrap_i64]; omega
theorem eqL_self {α : Type} {f : α → α → Bool} (hf : ∀ x, f x x = true) (l : List α) : eqL f l l = true := by
  induction l with
  | nil => rfl
  | cons x l ih => simp [eqL, hf, ih]

theorem g3_h1 (a : Int) (K : List Int) (L : List Sa) (hK : K.length < 1048577) (hL : okSas L) (ht : tot L < 536870912) (hg : good a L = true) : ∀ (m i n : Nat), i + m = (mrg L).length → n = tot ((mrg L).drop i) →
    Goes step3 (.h1 (n : Int) ((mrg L).map saR) ((mrg L).length : Int) (i : Int) a (K.map intR) ((mrg L).map saR) a (K.map intR) (L.map saR)) true
  | 0, i, n, hi, hn => by
    obtain ⟨f1, f2, f3, f4, f5⟩ := mrg_facts hg
    obtain ⟨o1, o2⟩ := ok_mrg hL ht
    have f3' := f3
    simp only [good, Bool.and_eq_true, decide_eq_true_eq] at f3'
    rw [List.drop_eq_nil_of_le (by omega)] at hn
    subst hn
    have hlt : decide ((i : Int) < ((mrg L).length : Int)) = false := by simp; omega
    obtain ⟨N1, hN1⟩ := g7_eq (mrg L) a (K.map intR) o1
    obtain ⟨N2, hN2⟩ := g6_eq a K (mrg L) hK o1 (by rw [o2]; exact ht) f3'.2.2.2
    obtain ⟨N3, hN3⟩ := g8_eq (a := a) (a' := a) K K (mrg L) (mrg L) (by omega) o1
    obtain ⟨N4, hN4⟩ := g5_eq a (K.map intR) (mrg L) o1
    obtain ⟨N5, hN5⟩ := g7_eq L a (K.map intR) hL
    rw [f1] at hN1
    rw [f2] at hN2
    rw [f3] at hN4
    have e8 : (a == a && (eqL (fun x y : Int => x == y) K K && eqL eqS (mrg L) (mrg L))) = true := by
      rw [eqL_self (fun x => by simp), eqL_self (fun x => (eqS_iff x x).2 rfl)]
      simp
    rw [e8] at hN3
    refine Goes.fin ⟨N1 + N2 + N3 + N4 + N5, fun k hk rec => ?_⟩
    show t3_h1 k rec _ _ _ _ _ _ _ _ _ _ = _
    unfold t3_h1
    have c1 : g7 k a (K.map intR) ((mrg L).map saR) = some true := hN1 k (by omega)
    have c2 : g6 k a (K.map intR) ((mrg L).map saR) = some (a, K.map intR, (mrg L).map saR) := hN2 k (by omega)
    have c3 : g8 k a (K.map intR) ((mrg L).map saR) a (K.map intR) ((mrg L).map saR) = some true := hN3 k (by omega)
    have c4 : g5 k a (K.map intR) ((mrg L).map saR) = some true := hN4 k (by omega)
    have c5 : g7 k a (K.map intR) (L.map saR) = some (lst L L 0) := hN5 k (by omega)
    have e1 : decide ((((mrg L).map saR).length : Int) ≤ ((L.map saR).length : Int)) = true := by
      simp only [List.length_map, decide_eq_true_eq]; omega
    have e2 : (((0 : Nat) : Int) == 0) = true := by simp
    rw [hlt, cond_false, c1, Option.bind_some, cond_true, c2, Option.bind_some, tup3, c3, Option.bind_some, cond_true, c4, Option.bind_some, cond_true, e1, cond_true]
    show (bif ((((tot [] : Nat) : Int)) == 0) then _ else _) = _
    rw [show (((tot [] : Nat) : Int) == 0) = true from rfl, cond_true, c5, Option.bind_some, List.length_map, List.length_map]
    congr 1
    cases hl : lst L L 0 with
    | true =>
      have := f5.1 hl
      simp [this]
    | false =>
      have : ¬ L.length = (mrg L).length := fun e => by rw [f5.2 e] at hl; cases hl
      simp; omega
  | m + 1, i, n, hi, hn => by
    have hx : (mrg L)[i]? = some ((mrg L)[i]'(by omega)) := List.getElem?_eq_getElem _
    generalize (mrg L)[i]'(by omega) = s at hx
    obtain ⟨o1, o2⟩ := ok_mrg hL ht
    have hl1 := o1.1
    have htd := tot_drop hx
    have ih := g3_h1 a K L hK hL ht hg m (i + 1) (n - s.e.length) (by omega) (by omega)
    have hlt : decide ((i : Int) < ((mrg L).length : Int)) = true := by simp; omega
    have hsum : ∀ (l : List Sa) (j : Nat), tot (l.drop j) ≤ tot l := by
      intro l
      induction l with
      | nil => intro j; simp
      | cons x l ih =>
        intro j
        cases j with
        | zero => simp
        | succ j => have := ih j; simp only [List.drop_succ_cons, tot]; omega
    have hb := hsum (mrg L) i
    refine ih.rec0 fun k rec => ?_
    show t3_h1 k rec _ _ _ _ _ _ _ _ _ _ = _
    unfold t3_h1
    rw [hlt, cond_true, ixR_at (map_at hx), un_sa, wrap1 i (by omega), List.length_map, wrap_sub n s.e.length (by omega) (by omega)]
theorem g3_h0 (a : Int) (K : List Int) (L : List Sa) (hK : K.length < 1048577) (hL : okSas L) (ht : tot L < 536870912) (hg : good a L = true) : ∀ (m i n : Nat), i + m = L.length → n + tot (L.drop i) = tot L →
    Goes step3 (.h0 (n : Int) (L.map saR) (L.length : Int) (i : Int) a (K.map intR) ((mrg L).map saR) a (K.map intR) (L.map saR)) true
  | 0, i, n, hi, hn => by
    obtain ⟨o1, o2⟩ := ok_mrg hL ht
    rw [List.drop_eq_nil_of_le (by omega)] at hn
    have hlt : decide ((i : Int) < (L.length : Int)) = false := by simp; omega
    have h := g3_h1 a K L hK hL ht hg (mrg L).length 0 n (by omega) (by rw [List.drop_zero, o2]; simpa [tot] using hn)
    refine h.rec0 fun k rec => ?_
    show t3_h0 k rec _ _ _ _ _ _ _ _ _ _ = _
    unfold t3_h0
    rw [hlt, cond_false, List.length_map]; rfl
  | m + 1, i, n, hi, hn => by
    have hx : L[i]? = some (L[i]'(by omega)) := List.getElem?_eq_getElem _
    generalize L[i]'(by omega) = s at hx
    have hl1 := hL.1
    have htd := tot_drop hx
    have ih := g3_h0 a K L hK hL ht hg m (i + 1) (n + s.e.length) (by omega) (by omega)
    have hlt : decide ((i : Int) < (L.length : Int)) = true := by simp; omega
    refine ih.rec0 fun k rec => ?_
    show t3_h0 k rec _ _ _ _ _ _ _ _ _ _ = _
    unfold t3_h0
    rw [hlt, cond_true, ixR_at (map_at hx), un_sa, wrap1 i (by omega), List.length_map, wrap_add n s.e.length (by omega)]
theorem g3_true (a : Int) (K : List Int) (L : List Sa) (hK : K.length < 1048577) (hL : okSas L) (ht : tot L < 536870912) : Tot (fun k => g3 k a (K.map intR) (L.map saR)) true := by
  obtain ⟨N1, hN1⟩ := g5_eq a (K.map intR) L hL
  refine Tot.of_goes (s := S3.e _ _ _) ?_
  cases hg : good a L with
  | false =>
    rw [hg] at hN1
    refine Goes.fin ⟨N1, fun k hk rec => ?_⟩
    show t3_e k rec _ _ _ = _
    unfold t3_e
    rw [show g5 k a (K.map intR) (L.map saR) = some false from hN1 k hk]
    rfl
  | true =>
    rw [hg] at hN1
    have hg' := hg
    simp only [good, Bool.and_eq_true, decide_eq_true_eq] at hg'
    obtain ⟨N2, hN2⟩ := g6_eq a K L hK hL ht hg'.2.2.2
    have h := g3_h0 a K L hK hL ht hg L.length 0 0 (by omega) (by simp)
    refine h.rec ⟨N1 + N2, fun k hk rec => ?_⟩
    show t3_e k rec _ _ _ = _
    unfold t3_e
    rw [show g5 k a (K.map intR) (L.map saR) = some true from hN1 k (by omega), Option.bind_some]
    show (g6 k a (K.map intR) (L.map saR)).bind _ = _
    rw [show g6 k a (K.map intR) (L.map saR) = some (a, K.map intR, (mrg L).map saR) from hN2 k (by omega), Option.bind_some, tup3, List.length_map]
    rfl
end Ab
end Go.Proofs.Ytgghingfdcmelaa

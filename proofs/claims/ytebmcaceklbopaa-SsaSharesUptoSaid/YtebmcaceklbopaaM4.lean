/-
  An instruction that is put: the program's way (a map) and the document's (a search).
-/
import Derived.Test.YtebmcaceklbopaaM3
set_option linter.unusedVariables false
set_option linter.unusedSimpArgs false
namespace Go.Proofs.Ytebmcaceklbopaa
namespace Ab

/-! ## the document's -/
def same3 (op a b : Int) (x : Ins4) : Bool := x.op == op && (x.a == a && x.b == b)
def putR (sh : Bool) (op a b : Int) (L : List Ins4) : Nat × List Ins4 := match fi (fun x => sh && same3 op a b x) L 0 with
  | some i => (i, L)
  | none => (L.length, L ++ [⟨op, L.length, a, b⟩])

theorem g29_loop {sh : Bool} {op a b a0 a1 : Int} {I C : Rs} (l : List Ins4) (hl : l.length < 1073741824) : ∀ (m i : Nat), i + m = l.length →
    Goes step29d (.h0 sh op a b (l.length : Int) (i : Int) a0 a1 I C (l.map insR))
      (match fi (fun x => sh && same3 op a b x) (l.drop i) i with
        | some j => ((j : Int), a0, a1, I, C, l.map insR)
        | none => ((l.length : Int), a0, a1, I, C, (l ++ [(⟨op, l.length, a, b⟩ : Ins4)]).map insR))
  | 0, i, hi => by
    have : l.drop i = [] := List.drop_eq_nil_of_le (by omega)
    rw [this]
    refine Goes.fin0 fun k rec => ?_
    have hlt : decide ((i : Int) < (l.length : Int)) = false := by simp; omega
    show t29d_h0 k rec _ _ _ _ _ _ _ _ _ _ _ = _
    unfold t29d_h0
    have hw : IntKind.i64.wrap (((l.map insR ++ [[ic op, ic ((l.map insR).length : Int), ic a, ic b]]).length : Int) - 1) = (l.length : Int) := by rw [wrap_len (by simpa using hl)]; simp
    have hap : apOk 32 4 (l.map insR) [[ic op, ic ((l.map insR).length : Int), ic a, ic b]] = true := ap_ok (by decide) (by decide) (by simpa using hl) rfl
    rw [hlt, cond_false, hap, hw]
    simp [gd, fi, insR]
  | m + 1, i, hi => by
    have hx : l[i]? = some (l[i]'(by omega)) := List.getElem?_eq_getElem _
    generalize l[i]'(by omega) = y at hx
    have ih := g29_loop (sh := sh) (op := op) (a := a) (b := b) (a0 := a0) (a1 := a1) (I := I) (C := C) l hl m (i + 1) (by omega)
    have hlt : decide ((i : Int) < (l.length : Int)) = true := by simp; omega
    rw [fi_drop hx]
    have step : ∀ t : Bool, (sh && same3 op a b y) = t → Goes step29d (.h1 sh op a b (i : Int) (l.length : Int) (i : Int) t a0 a1 I C (l.map insR))
        (match (if (sh && same3 op a b y) = true then some i else fi (fun x => sh && same3 op a b x) (l.drop (i + 1)) (i + 1)) with
        | some j => ((j : Int), a0, a1, I, C, l.map insR)
        | none => ((l.length : Int), a0, a1, I, C, (l ++ [(⟨op, l.length, a, b⟩ : Ins4)]).map insR)) := by
      intro t ht
      rw [ht]
      cases t with
      | true => exact Goes.fin0 fun k rec => rfl
      | false =>
        rw [if_neg (by simp)]
        refine ih.rec0 fun k rec => ?_
        show t29d_h1 k rec _ _ _ _ _ _ _ _ _ _ _ _ _ = _
        unfold t29d_h1
        rw [cond_false, wrap1 i (by omega)]
    refine (step _ rfl).rec0 fun k rec => ?_
    show t29d_h0 k rec _ _ _ _ _ _ _ _ _ _ _ = _
    unfold t29d_h0
    rw [hlt, cond_true, ixR_at (map_at hx), un_ins]
    cases sh with
    | false => simp
    | true =>
      cases h1 : y.op == op with
      | false => simp [same3, h1]
      | true =>
        cases h2 : y.a == a with
        | false => simp [same3, h1, h2]
        | true => simp [same3, h1, h2]
theorem g29_put {sh : Bool} {op a b a0 a1 : Int} {I C : Rs} (l : List Ins4) (hl : l.length < 1073741824) :
    Tot (fun k => g29d k sh op a b a0 a1 I C (l.map insR)) (((putR sh op a b l).1 : Int), a0, a1, I, C, (putR sh op a b l).2.map insR) := by
  have h := g29_loop (sh := sh) (op := op) (a := a) (b := b) (a0 := a0) (a1 := a1) (I := I) (C := C) l hl l.length 0 (by omega)
  rw [List.drop_zero] at h
  have e : (match fi (fun x => sh && same3 op a b x) l 0 with
        | some j => ((j : Int), a0, a1, I, C, l.map insR)
        | none => ((l.length : Int), a0, a1, I, C, (l ++ [(⟨op, l.length, a, b⟩ : Ins4)]).map insR)) = (((putR sh op a b l).1 : Int), a0, a1, I, C, (putR sh op a b l).2.map insR) := by
    unfold putR; cases fi (fun x => sh && same3 op a b x) l 0 <;> rfl
  rw [e] at h
  refine Tot.of_goes (s := S29d.e _ _ _ _ _ _ _ _ _) (h.rec0 fun k rec => ?_)
  show t29d_e k rec _ _ _ _ _ _ _ _ _ = _
  unfold t29d_e
  rw [List.length_map]; rfl

/-! ## the program's -/
abbrev Mt := List ((Int × Int × Int) × Int)
def keyV (x : Int × Int × Int) : Value := .agg #[.int .i64 x.1, .int .i64 0, .int .i64 x.2.1, .int .i64 x.2.2]
def esR (M : Mt) : Es := M.map fun x => (keyV x.1, oneR x.2)
def mf (k : Int × Int × Int) : Mt → Option Int
  | [] => none
  | (k', r) :: l => if k = k' then some r else mf k l
def mput (k : Int × Int × Int) (r : Int) : Mt → Mt
  | [] => [(k, r)]
  | (k', r') :: l => if k = k' then (k, r) :: l else (k', r') :: mput k r l
theorem key_eq (x y : Int × Int × Int) : keyEq Try.prog 48 (keyV x) (keyV y) = some (decide (x = y)) := by
  have h : keyEq Try.prog 48 (keyV x) (keyV y) = some (x.1 == y.1 && ((0 : Int) == 0 && (x.2.1 == y.2.1 && (x.2.2 == y.2.2 && true)))) := by kernel_rfl
  rw [h]
  obtain ⟨a, b, c⟩ := x
  obtain ⟨d, e, f⟩ := y
  congr 1
  rw [Bool.eq_iff_iff]
  simp
theorem map_find (k : Int × Int × Int) : ∀ M : Mt, mapFind Try.prog 48 (keyV k) (esR M) = some ((mf k M).map oneR)
  | [] => rfl
  | (k', r) :: l => by
    have ih := map_find k l
    simp only [esR, List.map_cons, mapFind, key_eq] at ih ⊢
    by_cases h : k = k'
    · simp [h, mf]
    · simp only [h, decide_false, mf, if_false]; exact ih
theorem bits_same (k : Int × Int × Int) : Instr.sameBits 10000 (keyV k) (keyV k) = true := by
  simp [keyV, Instr.sameBits]
theorem map_put (k : Int × Int × Int) (r : Int) : ∀ M : Mt, mapPut Try.prog 48 (keyV k) [ic r] (esR M) = some (esR (mput k r M))
  | [] => rfl
  | (k', r') :: l => by
    have ih := map_put k r l
    simp only [esR, List.map_cons, mapPut, key_eq] at ih ⊢
    by_cases h : k = k'
    · subst h
      simp [bits_same, mput, oneR]
    · simp only [h, decide_false, mput, if_false, ih]; rfl

def putS (sh lg : Bool) (op a b : Int) (L : List Ins4) (M : Mt) : Int × List Ins4 × Mt × Bool :=
  if sh = true ∧ (mf (op, a, b) M).isSome = true then (((mf (op, a, b) M).getD 0), L, M, lg)
  else if 1024 ≤ L.length then (0, L, M, true)
  else ((L.length : Int), L ++ [⟨op, L.length, a, b⟩], mput (op, a, b) L.length M, lg)

theorem g26_put {sh lg : Bool} {op d a b a0 a1 : Int} {I C : Rs} (L : List Ins4) (M : Mt) (hl : L.length < 1073741824) :
    Tot (fun k => g26e k op d a b a0 a1 I C (L.map insR) sh (esR M) lg)
      ((putS sh lg op a b L M).1, a0, a1, I, C, (putS sh lg op a b L M).2.1.map insR, sh, esR (putS sh lg op a b L M).2.2.1, (putS sh lg op a b L M).2.2.2) := by
  have app : ∀ r6 : Int, ¬ (sh = true ∧ (mf (op, a, b) M).isSome = true) → Goes step26e (.h0 r6 false op 0 a b op d a b a0 a1 I C (L.map insR) sh (esR M) lg)
      ((putS sh lg op a b L M).1, a0, a1, I, C, (putS sh lg op a b L M).2.1.map insR, sh, esR (putS sh lg op a b L M).2.2.1, (putS sh lg op a b L M).2.2.2) := by
    intro r6 hn
    refine Goes.fin0 fun k rec => ?_
    show t26e_h0 k rec r6 false op 0 a b op d a b _ _ _ _ _ _ _ _ = _
    unfold t26e_h0 putS
    rw [cond_false, if_neg hn]
    by_cases hb : 1024 ≤ L.length
    · have e : decide (((L.map insR).length : Int) ≥ 1024) = true := by simp; omega
      rw [e, cond_true, if_pos hb]
    · have e : decide (((L.map insR).length : Int) ≥ 1024) = false := by simp; omega
      have hap : apOk 32 4 (L.map insR) [[ic op, ic ((L.map insR).length : Int), ic a, ic b]] = true := ap_ok (by decide) (by decide) (by simpa using hl) rfl
      have hm : mapPut Try.prog 48 (.agg #[.int .i64 op, .int .i64 0, .int .i64 a, .int .i64 b]) [ic ((L.map insR).length : Int)] (esR M) = some (esR (mput (op, a, b) L.length M)) := by
        have := map_put (op, a, b) L.length M
        rw [List.length_map]
        exact this
      rw [e, cond_false, if_neg hb, hap, hm]
      simp [gd, insR]
  have hf : mapFind Try.prog 48 (.agg #[.int .i64 op, .int .i64 0, .int .i64 a, .int .i64 b]) (esR M) = some ((mf (op, a, b) M).map oneR) := map_find (op, a, b) M
  cases hm : mf (op, a, b) M with
  | none =>
    refine Tot.of_goes (s := S26e.e _ _ _ _ _ _ _ _ _ _ _ _) ((app 0 (by rw [hm]; simp)).rec0 fun k rec => ?_)
    show t26e_e k rec op d a b _ _ _ _ _ _ _ _ = _
    unfold t26e_e
    rw [hf, hm]
    simp [optC]
  | some r =>
    cases sh with
    | false =>
      refine Tot.of_goes (s := S26e.e _ _ _ _ _ _ _ _ _ _ _ _) ((app r (by simp)).rec0 fun k rec => ?_)
      show t26e_e k rec op d a b _ _ _ _ _ _ _ _ = _
      unfold t26e_e
      rw [hf, hm]
      simp [optC, un_i, oneR]
    | true =>
      have e : putS true lg op a b L M = (r, L, M, lg) := by unfold putS; rw [hm]; simp
      rw [e]
      have h : Goes step26e (.h0 r true op 0 a b op d a b a0 a1 I C (L.map insR) true (esR M) lg) (r, a0, a1, I, C, L.map insR, true, esR M, lg) := Goes.fin0 fun k rec => rfl
      refine Tot.of_goes (s := S26e.e _ _ _ _ _ _ _ _ _ _ _ _) (h.rec0 fun k rec => ?_)
      show t26e_e k rec op d a b _ _ _ _ _ _ _ _ = _
      unfold t26e_e
      rw [hf, hm]
      simp [optC, un_i, oneR]
end Ab
end Go.Proofs.Ytebmcaceklbopaa

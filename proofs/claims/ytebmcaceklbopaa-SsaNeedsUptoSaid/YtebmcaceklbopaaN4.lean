/-
  An instruction that is put: the program's way (a map) and the document's (a search).
-/
import Derived.Test.YtebmcaceklbopaaN3
set_option linter.unusedVariables false
set_option linter.unusedSimpArgs false
namespace Go.Proofs.Ytebmcaceklbopaa
namespace Ab

/-! ## the document's -/
def same3 (op a b : Int) (x : Ins4) : Bool := x.op == op && (x.a == a && x.b == b)
def putR (sh : Bool) (op a b : Int) (L : List Ins4) : Nat × List Ins4 := match fi (fun x => sh && same3 op a b x) L 0 with
  | some i => (i, L)
  | none => (L.length, L ++ [⟨op, L.length, a, b⟩])

/-! ## the program's -/
abbrev Mt := List ((Int × Int × Int) × Int)
def keyV (x : Int × Int × Int) : Value := .agg #[.int .i64 x.1, .int .i64 0, .int .i64 x.2.1, .int .i64 x.2.2]
def esR (M : Mt) : Es := M.map fun x => (keyV x.1, oneR x.2)
def mf (k : Int × Int × Int) : Mt → Option Int
  | [] => none
  | (k', r) :: l => if k = k' then some r else mf k l
def mput (k : Int × Int × Int) (r : Int) : Mt → Mt
  | [] => [(k, r)]
  | (k', r') :: l => if k = k' then (k, r) :: l else (k', r') :: mput k r l
theorem key_eq (x y : Int × Int × Int) : keyEq Try.prog 48 (keyV x) (keyV y) = some (decide (x = y)) := by
  have h : keyEq Try.prog 48 (keyV x) (keyV y) = some (x.1 == y.1 && ((0 : Int) == 0 && (x.2.1 == y.2.1 && (x.2.2 == y.2.2 && true)))) := by kernel_rfl
  rw [h]
  obtain ⟨a, b, c⟩ := x
  obtain ⟨d, e, f⟩ := y
  congr 1
  rw [Bool.eq_iff_iff]
  simp
theorem map_find (k : Int × Int × Int) : ∀ M : Mt, mapFind Try.prog 48 (keyV k) (esR M) = some ((mf k M).map oneR)
  | [] => rfl
  | (k', r) :: l => by
    have ih := map_find k l
    simp only [esR, List.map_cons, mapFind, key_eq] at ih ⊢
    by_cases h : k = k'
    · simp [h, mf]
    · simp only [h, decide_false, mf, if_false]; exact ih
theorem bits_same (k : Int × Int × Int) : Instr.sameBits 10000 (keyV k) (keyV k) = true := by
  simp [keyV, Instr.sameBits]
theorem map_put (k : Int × Int × Int) (r : Int) : ∀ M : Mt, mapPut Try.prog 48 (keyV k) [ic r] (esR M) = some (esR (mput k r M))
  | [] => rfl
  | (k', r') :: l => by
    have ih := map_put k r l
    simp only [esR, List.map_cons, mapPut, key_eq] at ih ⊢
    by_cases h : k = k'
    · subst h
      simp [bits_same, mput, oneR]
    · simp only [h, decide_false, mput, if_false, ih]; rfl

def putS (sh lg : Bool) (op a b : Int) (L : List Ins4) (M : Mt) : Int × List Ins4 × Mt × Bool :=
  if sh = true ∧ (mf (op, a, b) M).isSome = true then (((mf (op, a, b) M).getD 0), L, M, lg)
  else if 1024 ≤ L.length then (0, L, M, true)
  else ((L.length : Int), L ++ [⟨op, L.length, a, b⟩], mput (op, a, b) L.length M, lg)

theorem g26_put {sh lg : Bool} {op d a b a0 a1 : Int} {I C : Rs} (L : List Ins4) (M : Mt) (hl : L.length < 1073741824) :
    Tot (fun k => g26e k op d a b a0 a1 I C (L.map insR) sh (esR M) lg)
      ((putS sh lg op a b L M).1, a0, a1, I, C, (putS sh lg op a b L M).2.1.map insR, sh, esR (putS sh lg op a b L M).2.2.1, (putS sh lg op a b L M).2.2.2) := by
  have app : ∀ r6 : Int, ¬ (sh = true ∧ (mf (op, a, b) M).isSome = true) → Goes step26e (.h0 r6 false op 0 a b op d a b a0 a1 I C (L.map insR) sh (esR M) lg)
      ((putS sh lg op a b L M).1, a0, a1, I, C, (putS sh lg op a b L M).2.1.map insR, sh, esR (putS sh lg op a b L M).2.2.1, (putS sh lg op a b L M).2.2.2) := by
    intro r6 hn
    refine Goes.fin0 fun k rec => ?_
    show t26e_h0 k rec r6 false op 0 a b op d a b _ _ _ _ _ _ _ _ = _
    unfold t26e_h0 putS
    rw [cond_false, if_neg hn]
    by_cases hb : 1024 ≤ L.length
    · have e : decide (((L.map insR).length : Int) ≥ 1024) = true := by simp; omega
      rw [e, cond_true, if_pos hb]
    · have e : decide (((L.map insR).length : Int) ≥ 1024) = false := by simp; omega
      have hap : apOk 32 4 (L.map insR) [[ic op, ic ((L.map insR).length : Int), ic a, ic b]] = true := ap_ok (by decide) (by decide) (by simpa using hl) rfl
      have hm : mapPut Try.prog 48 (.agg #[.int .i64 op, .int .i64 0, .int .i64 a, .int .i64 b]) [ic ((L.map insR).length : Int)] (esR M) = some (esR (mput (op, a, b) L.length M)) := by
        have := map_put (op, a, b) L.length M
        rw [List.length_map]
        exact this
      rw [e, cond_false, if_neg hb, hap, hm]
      simp [gd, insR]
  have hf : mapFind Try.prog 48 (.agg #[.int .i64 op, .int .i64 0, .int .i64 a, .int .i64 b]) (esR M) = some ((mf (op, a, b) M).map oneR) := map_find (op, a, b) M
  cases hm : mf (op, a, b) M with
  | none =>
    refine Tot.of_goes (s := S26e.e _ _ _ _ _ _ _ _ _ _ _ _) ((app 0 (by rw [hm]; simp)).rec0 fun k rec => ?_)
    show t26e_e k rec op d a b _ _ _ _ _ _ _ _ = _
    unfold t26e_e
    rw [hf, hm]
    simp [optC]
  | some r =>
    cases sh with
    | false =>
      refine Tot.of_goes (s := S26e.e _ _ _ _ _ _ _ _ _ _ _ _) ((app r (by simp)).rec0 fun k rec => ?_)
      show t26e_e k rec op d a b _ _ _ _ _ _ _ _ = _
      unfold t26e_e
      rw [hf, hm]
      simp [optC, un_i, oneR]
    | true =>
      have e : putS true lg op a b L M = (r, L, M, lg) := by unfold putS; rw [hm]; simp
      rw [e]
      have h : Goes step26e (.h0 r true op 0 a b op d a b a0 a1 I C (L.map insR) true (esR M) lg) (r, a0, a1, I, C, L.map insR, true, esR M, lg) := Goes.fin0 fun k rec => rfl
      refine Tot.of_goes (s := S26e.e _ _ _ _ _ _ _ _ _ _ _ _) (h.rec0 fun k rec => ?_)
      show t26e_e k rec op d a b _ _ _ _ _ _ _ _ = _
      unfold t26e_e
      rw [hf, hm]
      simp [optC, un_i, oneR]
end Ab
end Go.Proofs.Ytebmcaceklbopaa

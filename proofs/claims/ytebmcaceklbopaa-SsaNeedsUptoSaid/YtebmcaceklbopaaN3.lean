/-
  Places of inputs and constants, and instructions that are put: the program's functions and the document's.
-/
import Derived.Test.YtebmcaceklbopaaN2
set_option linter.unusedVariables false
set_option linter.unusedSimpArgs false
namespace Go.Proofs.Ytebmcaceklbopaa
namespace Ab

structure In4 where
  op : Int
  kind : Int
  pos : Int
  attr : Int
  deriving DecidableEq
structure Vl where
  kind : Int
  bits : Int
  deriving DecidableEq
def inR (x : In4) : List Cell := [ic x.op, ic x.kind, ic x.pos, ic x.attr]
def vlR (x : Vl) : List Cell := [ic x.kind, .val (.int .u64 x.bits)]
theorem un_in {α : Type} (x : In4) (k : Int → Int → Int → Int → Option α) : un_i4 (inR x) k = k x.op x.kind x.pos x.attr := rfl
theorem un_vl {α : Type} (x : Vl) (k : Int → Int → Option α) : un_iu (vlR x) k = k x.kind x.bits := rfl

/-- the first place from i on. -/
def fi {α : Type} (p : α → Bool) : List α → Nat → Option Nat
  | [], _ => none
  | x :: l, i => if p x then some i else fi p l (i + 1)
def plc {α : Type} [DecidableEq α] (x : α) (l : List α) : Nat × List α := match fi (fun y => decide (y = x)) l 0 with
  | some i => (i, l)
  | none => (l.length, l ++ [x])
theorem fi_drop {α : Type} {p : α → Bool} {l : List α} {i : Nat} {x : α} (h : l[i]? = some x) : fi p (l.drop i) i = if p x then some i else fi p (l.drop (i + 1)) (i + 1) := by
  have hi := (List.getElem?_eq_some_iff.1 h).1
  rw [List.drop_eq_getElem_cons hi]
  have : l[i] = x := (List.getElem?_eq_some_iff.1 h).2
  rw [this, fi]
theorem eq_vl (x y : Vl) : (y.kind == x.kind && (y.bits == x.bits && true)) = decide (y = x) := by
  obtain ⟨a, b⟩ := x
  obtain ⟨c, d⟩ := y
  rw [Bool.eq_iff_iff]
  simp
theorem eq_in (x y : In4) : (y.op == x.op && (y.kind == x.kind && (y.pos == x.pos && (y.attr == x.attr && true)))) = decide (y = x) := by
  obtain ⟨a, b, c, d⟩ := x
  obtain ⟨e, f, g, h⟩ := y
  rw [Bool.eq_iff_iff]
  simp
theorem eq_vl' (x y : Vl) : (x.kind == y.kind && (x.bits == y.bits && true)) = decide (y = x) := by
  rw [eq_vl]; exact decide_eq_decide.2 eq_comm
theorem eq_in' (x y : In4) : (x.op == y.op && (x.kind == y.kind && (x.pos == y.pos && (x.attr == y.attr && true)))) = decide (y = x) := by
  rw [eq_in]; exact decide_eq_decide.2 eq_comm
theorem ap_ok {by_ sz : Nat} {rows : Rs} {row : List Cell} (hb : by_ ≤ 1024) (hs : 0 < sz) (h : rows.length < 1073741824) (hr : row.length = sz) : apOk by_ sz rows [row] = true := by
  have h1 : (rows.length + 1) * by_ ≤ 1073741824 * 1024 := Nat.mul_le_mul (by omega) hb
  simp [apOk, hr, lim, hs]
  omega
theorem wrap_len {α : Type} {l : List α} {x : α} (h : l.length < 1073741824) : IntKind.i64.wrap (((l ++ [x]).length : Int) - 1) = (l.length : Int) := by
  rw [IntKind.wrap_i64, List.length_append]; simp; omega

/-! ## the program's places -/
theorem g36_loop {x : Vl} {a0 a1 : Int} {A L : Rs} {sh lg : Bool} {es : Es} (l : List Vl) (hl : l.length < 1073741824) : ∀ (m i : Nat), i + m = l.length →
    Goes step36d (.h0 (l.length : Int) (i : Int) x.kind x.bits a0 a1 A (l.map vlR) L sh es lg)
      (match fi (fun y => decide (y = x)) (l.drop i) i with
        | some j => ((j : Int), a0, a1, A, l.map vlR, L, sh, es, lg)
        | none => ((l.length : Int), a0, a1, A, (l ++ [x]).map vlR, L, sh, es, lg))
  | 0, i, hi => by
    have : l.drop i = [] := List.drop_eq_nil_of_le (by omega)
    rw [this]
    refine Goes.fin0 fun k rec => ?_
    have hlt : decide ((i : Int) < (l.length : Int)) = false := by simp; omega
    show t36d_h0 k rec _ _ _ _ _ _ _ _ _ _ _ _ = _
    unfold t36d_h0
    have hw : IntKind.i64.wrap (((l.map vlR ++ [[ic x.kind, .val (.int .u64 x.bits)]]).length : Int) - 1) = (l.length : Int) := by rw [wrap_len (by simpa using hl)]; simp
    have hap : apOk 16 2 (l.map vlR) [[ic x.kind, .val (.int .u64 x.bits)]] = true := ap_ok (by decide) (by decide) (by simpa using hl) rfl
    rw [hlt, cond_false, hap, hw]
    simp [gd, fi, vlR]
  | m + 1, i, hi => by
    have hx : l[i]? = some (l[i]'(by omega)) := List.getElem?_eq_getElem _
    generalize l[i]'(by omega) = y at hx
    have ih := g36_loop (x := x) (a0 := a0) (a1 := a1) (A := A) (L := L) (sh := sh) (lg := lg) (es := es) l hl m (i + 1) (by omega)
    have hlt : decide ((i : Int) < (l.length : Int)) = true := by simp; omega
    rw [fi_drop hx]
    by_cases hy : y = x
    · rw [if_pos (by simpa using hy)]
      refine Goes.fin0 fun k rec => ?_
      show t36d_h0 k rec _ _ _ _ _ _ _ _ _ _ _ _ = _
      unfold t36d_h0
      rw [hlt, cond_true, ixR_at (map_at hx), un_vl, eq_vl, decide_eq_true hy, cond_true]
    · rw [if_neg (by simpa using hy)]
      refine ih.rec0 fun k rec => ?_
      show t36d_h0 k rec _ _ _ _ _ _ _ _ _ _ _ _ = _
      unfold t36d_h0
      rw [hlt, cond_true, ixR_at (map_at hx), un_vl, eq_vl, decide_eq_false hy, cond_false, wrap1 i (by omega)]
theorem g36_plc {x : Vl} {a0 a1 : Int} {A L : Rs} {sh lg : Bool} {es : Es} (l : List Vl) (hl : l.length < 1073741824) :
    Tot (fun k => g36d k x.kind x.bits a0 a1 A (l.map vlR) L sh es lg) (((plc x l).1 : Int), a0, a1, A, (plc x l).2.map vlR, L, sh, es, lg) := by
  have h := g36_loop (x := x) (a0 := a0) (a1 := a1) (A := A) (L := L) (sh := sh) (lg := lg) (es := es) l hl l.length 0 (by omega)
  rw [List.drop_zero] at h
  have e : (match fi (fun y => decide (y = x)) l 0 with
        | some j => ((j : Int), a0, a1, A, l.map vlR, L, sh, es, lg)
        | none => ((l.length : Int), a0, a1, A, (l ++ [x]).map vlR, L, sh, es, lg)) = (((plc x l).1 : Int), a0, a1, A, (plc x l).2.map vlR, L, sh, es, lg) := by
    unfold plc; cases fi (fun y => decide (y = x)) l 0 <;> rfl
  rw [e] at h
  refine Tot.of_goes (s := S36d.e _ _ _ _ _ _ _ _ _ _) (h.rec0 fun k rec => ?_)
  show t36d_e k rec _ _ _ _ _ _ _ _ _ _ = _
  unfold t36d_e
  rw [List.length_map]; rfl

theorem g35_loop {x : In4} {a0 a1 : Int} {A L : Rs} {sh lg : Bool} {es : Es} (l : List In4) (hl : l.length < 1073741824) : ∀ (m i : Nat), i + m = l.length →
    Goes step35d (.h0 (l.length : Int) (i : Int) x.op x.kind x.pos x.attr a0 a1 (l.map inR) A L sh es lg)
      (match fi (fun y => decide (y = x)) (l.drop i) i with
        | some j => ((j : Int), a0, a1, l.map inR, A, L, sh, es, lg)
        | none => ((l.length : Int), a0, a1, (l ++ [x]).map inR, A, L, sh, es, lg))
  | 0, i, hi => by
    have : l.drop i = [] := List.drop_eq_nil_of_le (by omega)
    rw [this]
    refine Goes.fin0 fun k rec => ?_
    have hlt : decide ((i : Int) < (l.length : Int)) = false := by simp; omega
    show t35d_h0 k rec _ _ _ _ _ _ _ _ _ _ _ _ _ _ = _
    unfold t35d_h0
    have hw : IntKind.i64.wrap (((l.map inR ++ [[ic x.op, ic x.kind, ic x.pos, ic x.attr]]).length : Int) - 1) = (l.length : Int) := by rw [wrap_len (by simpa using hl)]; simp
    have hap : apOk 32 4 (l.map inR) [[ic x.op, ic x.kind, ic x.pos, ic x.attr]] = true := ap_ok (by decide) (by decide) (by simpa using hl) rfl
    rw [hlt, cond_false, hap, hw]
    simp [gd, fi, inR]
  | m + 1, i, hi => by
    have hx : l[i]? = some (l[i]'(by omega)) := List.getElem?_eq_getElem _
    generalize l[i]'(by omega) = y at hx
    have ih := g35_loop (x := x) (a0 := a0) (a1 := a1) (A := A) (L := L) (sh := sh) (lg := lg) (es := es) l hl m (i + 1) (by omega)
    have hlt : decide ((i : Int) < (l.length : Int)) = true := by simp; omega
    rw [fi_drop hx]
    by_cases hy : y = x
    · rw [if_pos (by simpa using hy)]
      refine Goes.fin0 fun k rec => ?_
      show t35d_h0 k rec _ _ _ _ _ _ _ _ _ _ _ _ _ _ = _
      unfold t35d_h0
      rw [hlt, cond_true, ixR_at (map_at hx), un_in, eq_in, decide_eq_true hy, cond_true]
    · rw [if_neg (by simpa using hy)]
      refine ih.rec0 fun k rec => ?_
      show t35d_h0 k rec _ _ _ _ _ _ _ _ _ _ _ _ _ _ = _
      unfold t35d_h0
      rw [hlt, cond_true, ixR_at (map_at hx), un_in, eq_in, decide_eq_false hy, cond_false, wrap1 i (by omega)]
theorem g35_plc {x : In4} {a0 a1 : Int} {A L : Rs} {sh lg : Bool} {es : Es} (l : List In4) (hl : l.length < 1073741824) :
    Tot (fun k => g35d k x.op x.kind x.pos x.attr a0 a1 (l.map inR) A L sh es lg) (((plc x l).1 : Int), a0, a1, (plc x l).2.map inR, A, L, sh, es, lg) := by
  have h := g35_loop (x := x) (a0 := a0) (a1 := a1) (A := A) (L := L) (sh := sh) (lg := lg) (es := es) l hl l.length 0 (by omega)
  rw [List.drop_zero] at h
  have e : (match fi (fun y => decide (y = x)) l 0 with
        | some j => ((j : Int), a0, a1, l.map inR, A, L, sh, es, lg)
        | none => ((l.length : Int), a0, a1, (l ++ [x]).map inR, A, L, sh, es, lg)) = (((plc x l).1 : Int), a0, a1, (plc x l).2.map inR, A, L, sh, es, lg) := by
    unfold plc; cases fi (fun y => decide (y = x)) l 0 <;> rfl
  rw [e] at h
  refine Tot.of_goes (s := S35d.e _ _ _ _ _ _ _ _ _ _ _ _) (h.rec0 fun k rec => ?_)
  show t35d_e k rec _ _ _ _ _ _ _ _ _ _ _ _ = _
  unfold t35d_e
  rw [List.length_map]; rfl

/-! ## the document's -/
end Ab
end Go.Proofs.Ytebmcaceklbopaa

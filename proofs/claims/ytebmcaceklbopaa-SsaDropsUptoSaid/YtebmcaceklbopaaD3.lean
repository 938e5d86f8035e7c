/-
  What an instruction reads; places of inputs and constants; alike codes.
-/
import Derived.Test.YtebmcaceklbopaaD2
set_option linter.unusedVariables false
set_option linter.unusedSimpArgs false
namespace Go.Proofs.Ytebmcaceklbopaa
namespace Ab

theorem Tot.of_goes {S R : Type} {step : Nat → (S → Option R) → S → Option R} {s : S} {r : R} (h : Goes step s r) : Tot (fun k => itS step k s) r := h
def reads (x : Ins4) : List Int := if x.op = 52 ∨ nOps x.op = 1 then [x.a] else if nOps x.op = 2 then [x.a, x.b] else []
theorem g34_reads (x : Ins4) : Tot (fun k => g34 k x.op x.dst x.a x.b) ((reads x).map oneR) := by
  obtain ⟨N, hN⟩ := g30_nOps x.op
  refine tot_deep (N + 4) fun j => ?_
  have h30 : ∀ k, N ≤ k → g30 k x.op = some (nOps x.op) := hN
  by_cases h52 : x.op = 52
  · simp [g34, itS, step34, t34_e, t34_h0, t34_h1, reads, h52, oneR]
  · have e52 : (x.op == 52) = false := by simpa using h52
    have a1 := h30 (j + N + 3) (by omega)
    have a2 := h30 (j + N + 2) (by omega)
    have e : g34 (j + (N + 4)) x.op x.dst x.a x.b = itS step34 (j + N + 1 + 1 + 1 + 1) (.e x.op x.dst x.a x.b) := rfl
    rw [e]
    rcases nOps_cases x.op with hn | hn | hn <;> simp [itS, step34, t34_e, t34_h0, t34_h1, t34_h2, t34_h3, a1, a2, reads, h52, hn, oneR, e52]
theorem g33_reads (x : Ins4) : Tot (fun k => g33 k x.op x.dst x.a x.b) (if x.op = 52 then .inl ((reads x).map oneR) else .inr ((reads x).map oneR)) := by
  obtain ⟨N, hN⟩ := g31_nOps x.op
  refine tot_deep (N + 1) fun j => ?_
  by_cases h52 : x.op = 52
  · simp [g33, itS, step33, t33_e, reads, h52, oneR]
  · have e52 : (x.op == 52) = false := by simpa using h52
    have a1 : g31 (j + N) x.op = some (nOps x.op) := hN (j + N) (by omega)
    have e : g33 (j + (N + 1)) x.op x.dst x.a x.b = itS step33 (j + N + 1) (.e x.op x.dst x.a x.b) := rfl
    rw [e]
    rcases nOps_cases x.op with hn | hn | hn <;> simp [itS, step33, t33_e, a1, reads, h52, hn, oneR, slOk, gd, e52]
/-- the registers that are read are there. -/
def InR (L : List Ins4) (rk : Nat) : Prop := ∀ (i : Nat) x, L[i]? = some x → ∀ a ∈ reads x, 0 ≤ a ∧ a < (rk : Int)
theorem inR_of {regs slots : Int} {nI nC : Nat} {L : List Ins4} {rk : Nat} (h : PlainP regs slots nI nC L) (hr : regs = (rk : Int)) : InR L rk := by
  obtain ⟨_, _, hl, h1, t, ht, h2⟩ := h
  intro i x hx a ha
  have hi : i < L.length := (List.getElem?_eq_some_iff.1 hx).1
  have hn := nOps_cases x.op
  have h50 : x.op = 50 → nOps x.op = 0 := fun h => by rw [h]; rfl
  have h51 : x.op = 51 → nOps x.op = 0 := fun h => by rw [h]; rfl
  have h52 : x.op = 52 → nOps x.op = 0 := fun h => by rw [h]; rfl
  by_cases hik : (i : Int) < regs
  · obtain ⟨_, h3⟩ := h1 i x hx hik
    unfold reads at ha
    split at ha
    · simp only [List.mem_singleton] at ha
      subst ha
      omega
    · split at ha
      · simp only [List.mem_cons, List.not_mem_nil, or_false] at ha
        omega
      · simp at ha
  · have hi' : i = rk := by omega
    subst hi'
    rw [hr, Int.toNat_natCast, hx] at ht
    cases ht
    obtain ⟨k1, k2, k3, k4, k5⟩ := h2
    unfold reads at ha
    rw [if_pos (.inl k1)] at ha
    simp only [List.mem_singleton] at ha
    subst ha
    omega

structure In4 where
  op : Int
  kind : Int
  pos : Int
  attr : Int
  deriving DecidableEq
structure Vl where
  kind : Int
  bits : Int
  deriving DecidableEq
def inR (x : In4) : List Cell := [ic x.op, ic x.kind, ic x.pos, ic x.attr]
def vlR (x : Vl) : List Cell := [ic x.kind, .val (.int .u64 x.bits)]
theorem un_in {α : Type} (x : In4) (k : Int → Int → Int → Int → Option α) : un_i4 (inR x) k = k x.op x.kind x.pos x.attr := rfl
theorem un_vl {α : Type} (x : Vl) (k : Int → Int → Option α) : un_iu (vlR x) k = k x.kind x.bits := rfl

/-- the first place from i on. -/
def fi {α : Type} (p : α → Bool) : List α → Nat → Option Nat
  | [], _ => none
  | x :: l, i => if p x then some i else fi p l (i + 1)
def plc {α : Type} [DecidableEq α] (x : α) (l : List α) : Nat × List α := match fi (fun y => decide (y = x)) l 0 with
  | some i => (i, l)
  | none => (l.length, l ++ [x])
theorem fi_drop {α : Type} {p : α → Bool} {l : List α} {i : Nat} {x : α} (h : l[i]? = some x) : fi p (l.drop i) i = if p x then some i else fi p (l.drop (i + 1)) (i + 1) := by
  have hi := (List.getElem?_eq_some_iff.1 h).1
  rw [List.drop_eq_getElem_cons hi]
  have : l[i] = x := (List.getElem?_eq_some_iff.1 h).2
  rw [this, fi]
theorem eq_vl (x y : Vl) : (y.kind == x.kind && (y.bits == x.bits && true)) = decide (y = x) := by
  obtain ⟨a, b⟩ := x
  obtain ⟨c, d⟩ := y
  rw [Bool.eq_iff_iff]
  simp
theorem eq_in (x y : In4) : (y.op == x.op && (y.kind == x.kind && (y.pos == x.pos && (y.attr == x.attr && true)))) = decide (y = x) := by
  obtain ⟨a, b, c, d⟩ := x
  obtain ⟨e, f, g, h⟩ := y
  rw [Bool.eq_iff_iff]
  simp
theorem eq_vl' (x y : Vl) : (x.kind == y.kind && (x.bits == y.bits && true)) = decide (y = x) := by
  rw [eq_vl]; exact decide_eq_decide.2 eq_comm
theorem eq_in' (x y : In4) : (x.op == y.op && (x.kind == y.kind && (x.pos == y.pos && (x.attr == y.attr && true)))) = decide (y = x) := by
  rw [eq_in]; exact decide_eq_decide.2 eq_comm
theorem ap_ok {by_ sz : Nat} {rows : Rs} {row : List Cell} (hb : by_ ≤ 1024) (hs : 0 < sz) (h : rows.length < 1073741824) (hr : row.length = sz) : apOk by_ sz rows [row] = true := by
  have h1 : (rows.length + 1) * by_ ≤ 1073741824 * 1024 := Nat.mul_le_mul (by omega) hb
  simp [apOk, hr, lim, hs]
  omega
theorem wrap_len {α : Type} {l : List α} {x : α} (h : l.length < 1073741824) : IntKind.i64.wrap (((l ++ [x]).length : Int) - 1) = (l.length : Int) := by
  rw [IntKind.wrap_i64, List.length_append]; simp; omega

/-! ## the program's places -/
theorem g36_loop {x : Vl} {a0 a1 : Int} {A L : Rs} (l : List Vl) (hl : l.length < 1073741824) : ∀ (m i : Nat), i + m = l.length →
    Goes step36i (.h0 (l.length : Int) (i : Int) x.kind x.bits a0 a1 A (l.map vlR) L)
      (match fi (fun y => decide (y = x)) (l.drop i) i with
        | some j => ((j : Int), a0, a1, A, l.map vlR, L )
        | none => ((l.length : Int), a0, a1, A, (l ++ [x]).map vlR, L ))
  | 0, i, hi => by
    have : l.drop i = [] := List.drop_eq_nil_of_le (by omega)
    rw [this]
    refine Goes.fin0 fun k rec => ?_
    have hlt : decide ((i : Int) < (l.length : Int)) = false := by simp; omega
    show t36i_h0 k rec _ _ _ _ _ _ _ _ _ = _
    unfold t36i_h0
    have hw : IntKind.i64.wrap (((l.map vlR ++ [[ic x.kind, .val (.int .u64 x.bits)]]).length : Int) - 1) = (l.length : Int) := by rw [wrap_len (by simpa using hl)]; simp
    have hap : apOk 16 2 (l.map vlR) [[ic x.kind, .val (.int .u64 x.bits)]] = true := ap_ok (by decide) (by decide) (by simpa using hl) rfl
    rw [hlt, cond_false, hap, hw]
    simp [gd, fi, vlR]
  | m + 1, i, hi => by
    have hx : l[i]? = some (l[i]'(by omega)) := List.getElem?_eq_getElem _
    generalize l[i]'(by omega) = y at hx
    have ih := g36_loop (x := x) (a0 := a0) (a1 := a1) (A := A) (L := L) l hl m (i + 1) (by omega)
    have hlt : decide ((i : Int) < (l.length : Int)) = true := by simp; omega
    rw [fi_drop hx]
    by_cases hy : y = x
    · rw [if_pos (by simpa using hy)]
      refine Goes.fin0 fun k rec => ?_
      show t36i_h0 k rec _ _ _ _ _ _ _ _ _ = _
      unfold t36i_h0
      rw [hlt, cond_true, ixR_at (map_at hx), un_vl, eq_vl, decide_eq_true hy, cond_true]
    · rw [if_neg (by simpa using hy)]
      refine ih.rec0 fun k rec => ?_
      show t36i_h0 k rec _ _ _ _ _ _ _ _ _ = _
      unfold t36i_h0
      rw [hlt, cond_true, ixR_at (map_at hx), un_vl, eq_vl, decide_eq_false hy, cond_false, wrap1 i (by omega)]
theorem g36_plc {x : Vl} {a0 a1 : Int} {A L : Rs} (l : List Vl) (hl : l.length < 1073741824) :
    Tot (fun k => g36i k x.kind x.bits a0 a1 A (l.map vlR) L) (((plc x l).1 : Int), a0, a1, A, (plc x l).2.map vlR, L ) := by
  have h := g36_loop (x := x) (a0 := a0) (a1 := a1) (A := A) (L := L) l hl l.length 0 (by omega)
  rw [List.drop_zero] at h
  have e : (match fi (fun y => decide (y = x)) l 0 with
        | some j => ((j : Int), a0, a1, A, l.map vlR, L )
        | none => ((l.length : Int), a0, a1, A, (l ++ [x]).map vlR, L )) = (((plc x l).1 : Int), a0, a1, A, (plc x l).2.map vlR, L ) := by
    unfold plc; cases fi (fun y => decide (y = x)) l 0 <;> rfl
  rw [e] at h
  refine Tot.of_goes (s := S36i.e _ _ _ _ _ _ _) (h.rec0 fun k rec => ?_)
  show t36i_e k rec _ _ _ _ _ _ _ = _
  unfold t36i_e
  rw [List.length_map]; rfl

theorem g35_loop {x : In4} {a0 a1 : Int} {A L : Rs} (l : List In4) (hl : l.length < 1073741824) : ∀ (m i : Nat), i + m = l.length →
    Goes step35h (.h0 (l.length : Int) (i : Int) x.op x.kind x.pos x.attr a0 a1 (l.map inR) A L)
      (match fi (fun y => decide (y = x)) (l.drop i) i with
        | some j => ((j : Int), a0, a1, l.map inR, A, L )
        | none => ((l.length : Int), a0, a1, (l ++ [x]).map inR, A, L ))
  | 0, i, hi => by
    have : l.drop i = [] := List.drop_eq_nil_of_le (by omega)
    rw [this]
    refine Goes.fin0 fun k rec => ?_
    have hlt : decide ((i : Int) < (l.length : Int)) = false := by simp; omega
    show t35h_h0 k rec _ _ _ _ _ _ _ _ _ _ _ = _
    unfold t35h_h0
    have hw : IntKind.i64.wrap (((l.map inR ++ [[ic x.op, ic x.kind, ic x.pos, ic x.attr]]).length : Int) - 1) = (l.length : Int) := by rw [wrap_len (by simpa using hl)]; simp
    have hap : apOk 32 4 (l.map inR) [[ic x.op, ic x.kind, ic x.pos, ic x.attr]] = true := ap_ok (by decide) (by decide) (by simpa using hl) rfl
    rw [hlt, cond_false, hap, hw]
    simp [gd, fi, inR]
  | m + 1, i, hi => by
    have hx : l[i]? = some (l[i]'(by omega)) := List.getElem?_eq_getElem _
    generalize l[i]'(by omega) = y at hx
    have ih := g35_loop (x := x) (a0 := a0) (a1 := a1) (A := A) (L := L) l hl m (i + 1) (by omega)
    have hlt : decide ((i : Int) < (l.length : Int)) = true := by simp; omega
    rw [fi_drop hx]
    by_cases hy : y = x
    · rw [if_pos (by simpa using hy)]
      refine Goes.fin0 fun k rec => ?_
      show t35h_h0 k rec _ _ _ _ _ _ _ _ _ _ _ = _
      unfold t35h_h0
      rw [hlt, cond_true, ixR_at (map_at hx), un_in, eq_in, decide_eq_true hy, cond_true]
    · rw [if_neg (by simpa using hy)]
      refine ih.rec0 fun k rec => ?_
      show t35h_h0 k rec _ _ _ _ _ _ _ _ _ _ _ = _
      unfold t35h_h0
      rw [hlt, cond_true, ixR_at (map_at hx), un_in, eq_in, decide_eq_false hy, cond_false, wrap1 i (by omega)]
theorem g35_plc {x : In4} {a0 a1 : Int} {A L : Rs} (l : List In4) (hl : l.length < 1073741824) :
    Tot (fun k => g35h k x.op x.kind x.pos x.attr a0 a1 (l.map inR) A L) (((plc x l).1 : Int), a0, a1, (plc x l).2.map inR, A, L ) := by
  have h := g35_loop (x := x) (a0 := a0) (a1 := a1) (A := A) (L := L) l hl l.length 0 (by omega)
  rw [List.drop_zero] at h
  have e : (match fi (fun y => decide (y = x)) l 0 with
        | some j => ((j : Int), a0, a1, l.map inR, A, L )
        | none => ((l.length : Int), a0, a1, (l ++ [x]).map inR, A, L )) = (((plc x l).1 : Int), a0, a1, (plc x l).2.map inR, A, L ) := by
    unfold plc; cases fi (fun y => decide (y = x)) l 0 <;> rfl
  rw [e] at h
  refine Tot.of_goes (s := S35h.e _ _ _ _ _ _ _ _ _) (h.rec0 fun k rec => ?_)
  show t35h_e k rec _ _ _ _ _ _ _ _ _ = _
  unfold t35h_e
  rw [List.length_map]; rfl
/-! ## the document's -/
theorem g38_loop {x : Vl} {a0 a1 : Int} {A L : Rs} (l : List Vl) (hl : l.length < 1073741824) : ∀ (m i : Nat), i + m = l.length →
    Goes step38c (.h0 (l.length : Int) (i : Int) x.kind x.bits a0 a1 A (l.map vlR) L)
      (match fi (fun y => decide (y = x)) (l.drop i) i with
        | some j => ((j : Int), a0, a1, A, l.map vlR, L )
        | none => ((l.length : Int), a0, a1, A, (l ++ [x]).map vlR, L ))
  | 0, i, hi => by
    have : l.drop i = [] := List.drop_eq_nil_of_le (by omega)
    rw [this]
    refine Goes.fin0 fun k rec => ?_
    have hlt : decide ((i : Int) < (l.length : Int)) = false := by simp; omega
    show t38c_h0 k rec _ _ _ _ _ _ _ _ _ = _
    unfold t38c_h0
    have hw : IntKind.i64.wrap (((l.map vlR ++ [[ic x.kind, .val (.int .u64 x.bits)]]).length : Int) - 1) = (l.length : Int) := by rw [wrap_len (by simpa using hl)]; simp
    have hap : apOk 16 2 (l.map vlR) [[ic x.kind, .val (.int .u64 x.bits)]] = true := ap_ok (by decide) (by decide) (by simpa using hl) rfl
    rw [hlt, cond_false, hap, hw]
    simp [gd, fi, vlR]
  | m + 1, i, hi => by
    have hx : l[i]? = some (l[i]'(by omega)) := List.getElem?_eq_getElem _
    generalize l[i]'(by omega) = y at hx
    have ih := g38_loop (x := x) (a0 := a0) (a1 := a1) (A := A) (L := L) l hl m (i + 1) (by omega)
    have hlt : decide ((i : Int) < (l.length : Int)) = true := by simp; omega
    rw [fi_drop hx]
    by_cases hy : y = x
    · rw [if_pos (by simpa using hy)]
      refine Goes.fin0 fun k rec => ?_
      show t38c_h0 k rec _ _ _ _ _ _ _ _ _ = _
      unfold t38c_h0
      rw [hlt, cond_true, ixR_at (map_at hx), un_vl, eq_vl', decide_eq_true hy, cond_true]
    · rw [if_neg (by simpa using hy)]
      refine ih.rec0 fun k rec => ?_
      show t38c_h0 k rec _ _ _ _ _ _ _ _ _ = _
      unfold t38c_h0
      rw [hlt, cond_true, ixR_at (map_at hx), un_vl, eq_vl', decide_eq_false hy, cond_false, wrap1 i (by omega)]
theorem g38_plc {x : Vl} {a0 a1 : Int} {A L : Rs} (l : List Vl) (hl : l.length < 1073741824) :
    Tot (fun k => g38c k x.kind x.bits a0 a1 A (l.map vlR) L) (((plc x l).1 : Int), a0, a1, A, (plc x l).2.map vlR, L ) := by
  have h := g38_loop (x := x) (a0 := a0) (a1 := a1) (A := A) (L := L) l hl l.length 0 (by omega)
  rw [List.drop_zero] at h
  have e : (match fi (fun y => decide (y = x)) l 0 with
        | some j => ((j : Int), a0, a1, A, l.map vlR, L )
        | none => ((l.length : Int), a0, a1, A, (l ++ [x]).map vlR, L )) = (((plc x l).1 : Int), a0, a1, A, (plc x l).2.map vlR, L ) := by
    unfold plc; cases fi (fun y => decide (y = x)) l 0 <;> rfl
  rw [e] at h
  refine Tot.of_goes (s := S38c.e _ _ _ _ _ _ _) (h.rec0 fun k rec => ?_)
  show t38c_e k rec _ _ _ _ _ _ _ = _
  unfold t38c_e
  rw [List.length_map]; rfl

theorem g37_loop {x : In4} {a0 a1 : Int} {A L : Rs} (l : List In4) (hl : l.length < 1073741824) : ∀ (m i : Nat), i + m = l.length →
    Goes step37c (.h0 (l.length : Int) (i : Int) x.op x.kind x.pos x.attr a0 a1 (l.map inR) A L)
      (match fi (fun y => decide (y = x)) (l.drop i) i with
        | some j => ((j : Int), a0, a1, l.map inR, A, L )
        | none => ((l.length : Int), a0, a1, (l ++ [x]).map inR, A, L ))
  | 0, i, hi => by
    have : l.drop i = [] := List.drop_eq_nil_of_le (by omega)
    rw [this]
    refine Goes.fin0 fun k rec => ?_
    have hlt : decide ((i : Int) < (l.length : Int)) = false := by simp; omega
    show t37c_h0 k rec _ _ _ _ _ _ _ _ _ _ _ = _
    unfold t37c_h0
    have hw : IntKind.i64.wrap (((l.map inR ++ [[ic x.op, ic x.kind, ic x.pos, ic x.attr]]).length : Int) - 1) = (l.length : Int) := by rw [wrap_len (by simpa using hl)]; simp
    have hap : apOk 32 4 (l.map inR) [[ic x.op, ic x.kind, ic x.pos, ic x.attr]] = true := ap_ok (by decide) (by decide) (by simpa using hl) rfl
    rw [hlt, cond_false, hap, hw]
    simp [gd, fi, inR]
  | m + 1, i, hi => by
    have hx : l[i]? = some (l[i]'(by omega)) := List.getElem?_eq_getElem _
    generalize l[i]'(by omega) = y at hx
    have ih := g37_loop (x := x) (a0 := a0) (a1 := a1) (A := A) (L := L) l hl m (i + 1) (by omega)
    have hlt : decide ((i : Int) < (l.length : Int)) = true := by simp; omega
    rw [fi_drop hx]
    by_cases hy : y = x
    · rw [if_pos (by simpa using hy)]
      refine Goes.fin0 fun k rec => ?_
      show t37c_h0 k rec _ _ _ _ _ _ _ _ _ _ _ = _
      unfold t37c_h0
      rw [hlt, cond_true, ixR_at (map_at hx), un_in, eq_in', decide_eq_true hy, cond_true]
    · rw [if_neg (by simpa using hy)]
      refine ih.rec0 fun k rec => ?_
      show t37c_h0 k rec _ _ _ _ _ _ _ _ _ _ _ = _
      unfold t37c_h0
      rw [hlt, cond_true, ixR_at (map_at hx), un_in, eq_in', decide_eq_false hy, cond_false, wrap1 i (by omega)]
theorem g37_plc {x : In4} {a0 a1 : Int} {A L : Rs} (l : List In4) (hl : l.length < 1073741824) :
    Tot (fun k => g37c k x.op x.kind x.pos x.attr a0 a1 (l.map inR) A L) (((plc x l).1 : Int), a0, a1, (plc x l).2.map inR, A, L ) := by
  have h := g37_loop (x := x) (a0 := a0) (a1 := a1) (A := A) (L := L) l hl l.length 0 (by omega)
  rw [List.drop_zero] at h
  have e : (match fi (fun y => decide (y = x)) l 0 with
        | some j => ((j : Int), a0, a1, l.map inR, A, L )
        | none => ((l.length : Int), a0, a1, (l ++ [x]).map inR, A, L )) = (((plc x l).1 : Int), a0, a1, (plc x l).2.map inR, A, L ) := by
    unfold plc; cases fi (fun y => decide (y = x)) l 0 <;> rfl
  rw [e] at h
  refine Tot.of_goes (s := S37c.e _ _ _ _ _ _ _ _ _) (h.rec0 fun k rec => ?_)
  show t37c_e k rec _ _ _ _ _ _ _ _ _ = _
  unfold t37c_e
  rw [List.length_map]; rfl
/-! ## alike -/
theorem g13_L {a b c d : Int} {I C : Rs} (L : List Ins4) (hl : L.length < 1073741824) : ∀ (m i : Nat), i + m = L.length →
    Goes step13 (.h3 (L.length : Int) (i : Int) a b I C (L.map insR) c d I C (L.map insR)) true
  | 0, i, hi => by
    refine Goes.fin0 fun k rec => ?_
    have hlt : decide ((i : Int) < (L.length : Int)) = false := by simp; omega
    show t13_h3 k rec _ _ _ _ _ _ _ _ _ _ _ _ = _
    unfold t13_h3
    rw [hlt]; rfl
  | m + 1, i, hi => by
    have hx : L[i]? = some (L[i]'(by omega)) := List.getElem?_eq_getElem _
    generalize L[i]'(by omega) = y at hx
    have ih := g13_L (a := a) (b := b) (c := c) (d := d) (I := I) (C := C) L hl m (i + 1) (by omega)
    have hlt : decide ((i : Int) < (L.length : Int)) = true := by simp; omega
    refine ih.rec0 fun k rec => ?_
    show t13_h3 k rec _ _ _ _ _ _ _ _ _ _ _ _ = _
    unfold t13_h3
    rw [hlt, cond_true, ixR_at (map_at hx), un_ins, ixR_at (map_at hx), un_ins, wrap1 i (by omega)]
    simp
theorem g13_C {a b c d : Int} {I : Rs} (C : List Vl) (L : List Ins4) (hc : C.length < 1073741824) (hl : L.length < 1073741824) : ∀ (m i : Nat), i + m = C.length →
    Goes step13 (.h2 (C.length : Int) (i : Int) a b I (C.map vlR) (L.map insR) c d I (C.map vlR) (L.map insR)) true
  | 0, i, hi => by
    refine (g13_L (a := a) (b := b) (c := c) (d := d) (I := I) (C := C.map vlR) L hl L.length 0 (by omega)).rec0 fun k rec => ?_
    have hlt : decide ((i : Int) < (C.length : Int)) = false := by simp; omega
    show t13_h2 k rec _ _ _ _ _ _ _ _ _ _ _ _ = _
    unfold t13_h2
    rw [hlt, cond_false, List.length_map]; rfl
  | m + 1, i, hi => by
    have hx : C[i]? = some (C[i]'(by omega)) := List.getElem?_eq_getElem _
    generalize C[i]'(by omega) = y at hx
    have ih := g13_C (a := a) (b := b) (c := c) (d := d) (I := I) C L hc hl m (i + 1) (by omega)
    have hlt : decide ((i : Int) < (C.length : Int)) = true := by simp; omega
    refine ih.rec0 fun k rec => ?_
    show t13_h2 k rec _ _ _ _ _ _ _ _ _ _ _ _ = _
    unfold t13_h2
    rw [hlt, cond_true, ixR_at (map_at hx), un_vl, ixR_at (map_at hx), un_vl, wrap1 i (by omega)]
    simp
theorem g13_I {a b c d : Int} (I : List In4) (C : List Vl) (L : List Ins4) (hi' : I.length < 1073741824) (hc : C.length < 1073741824) (hl : L.length < 1073741824) : ∀ (m i : Nat), i + m = I.length →
    Goes step13 (.h1 (I.length : Int) (i : Int) a b (I.map inR) (C.map vlR) (L.map insR) c d (I.map inR) (C.map vlR) (L.map insR)) true
  | 0, i, hi => by
    refine (g13_C (a := a) (b := b) (c := c) (d := d) (I := I.map inR) C L hc hl C.length 0 (by omega)).rec0 fun k rec => ?_
    have hlt : decide ((i : Int) < (I.length : Int)) = false := by simp; omega
    show t13_h1 k rec _ _ _ _ _ _ _ _ _ _ _ _ = _
    unfold t13_h1
    rw [hlt, cond_false, List.length_map]; rfl
  | m + 1, i, hi => by
    have hx : I[i]? = some (I[i]'(by omega)) := List.getElem?_eq_getElem _
    generalize I[i]'(by omega) = y at hx
    have ih := g13_I (a := a) (b := b) (c := c) (d := d) I C L hi' hc hl m (i + 1) (by omega)
    have hlt : decide ((i : Int) < (I.length : Int)) = true := by simp; omega
    refine ih.rec0 fun k rec => ?_
    show t13_h1 k rec _ _ _ _ _ _ _ _ _ _ _ _ = _
    unfold t13_h1
    rw [hlt, cond_true, ixR_at (map_at hx), un_in, ixR_at (map_at hx), un_in, wrap1 i (by omega)]
    simp
theorem g13_same {a b : Int} (I : List In4) (C : List Vl) (L : List Ins4) (hi' : I.length < 1073741824) (hc : C.length < 1073741824) (hl : L.length < 1073741824) :
    Tot (fun k => g13 k a b (I.map inR) (C.map vlR) (L.map insR) a b (I.map inR) (C.map vlR) (L.map insR)) true := by
  have h := g13_I (a := a) (b := b) (c := a) (d := b) I C L hi' hc hl I.length 0 (by omega)
  have h0 : Goes step13 (.h0 false a b (I.map inR) (C.map vlR) (L.map insR) a b (I.map inR) (C.map vlR) (L.map insR)) true := by
    refine h.rec0 fun k rec => ?_
    show t13_h0 k rec _ _ _ _ _ _ _ _ _ _ _ = _
    unfold t13_h0
    rw [cond_false, List.length_map]; rfl
  refine Tot.of_goes (s := S13.e _ _ _ _ _ _ _ _ _ _) (h0.rec0 fun k rec => ?_)
  show t13_e k rec _ _ _ _ _ _ _ _ _ _ = _
  unfold t13_e
  simp

end Ab
end Go.Proofs.Ytebmcaceklbopaa

/-
  What an instruction reads; places in what is left.
-/
import Derived.Test.YtebmcaceklbopaaN15
set_option linter.unusedVariables false
set_option linter.unusedSimpArgs false
namespace Go.Proofs.Ytebmcaceklbopaa
namespace Ab
def reads (x : Ins4) : List Int := if x.op = 52 ∨ nOps x.op = 1 then [x.a] else if nOps x.op = 2 then [x.a, x.b] else []
theorem g34_reads (x : Ins4) : Tot (fun k => g34 k x.op x.dst x.a x.b) ((reads x).map oneR) := by
  obtain ⟨N, hN⟩ := g30_nOps x.op
  refine tot_deep (N + 4) fun j => ?_
  have h30 : ∀ k, N ≤ k → g30 k x.op = some (nOps x.op) := hN
  by_cases h52 : x.op = 52
  · simp [g34, itS, step34, t34_e, t34_h0, t34_h1, reads, h52, oneR]
  · have e52 : (x.op == 52) = false := by simpa using h52
    have a1 := h30 (j + N + 3) (by omega)
    have a2 := h30 (j + N + 2) (by omega)
    have e : g34 (j + (N + 4)) x.op x.dst x.a x.b = itS step34 (j + N + 1 + 1 + 1 + 1) (.e x.op x.dst x.a x.b) := rfl
    rw [e]
    rcases nOps_cases x.op with hn | hn | hn <;> simp [itS, step34, t34_e, t34_h0, t34_h1, t34_h2, t34_h3, a1, a2, reads, h52, hn, oneR, e52]
/-- the registers that are read are there. -/
def InR (L : List Ins4) (rk : Nat) : Prop := ∀ (i : Nat) x, L[i]? = some x → ∀ a ∈ reads x, 0 ≤ a ∧ a < (rk : Int)
theorem inR_of {regs slots : Int} {nI nC : Nat} {L : List Ins4} {rk : Nat} (h : PlainP regs slots nI nC L) (hr : regs = (rk : Int)) : InR L rk := by
  obtain ⟨_, _, hl, h1, t, ht, h2⟩ := h
  intro i x hx a ha
  have hi : i < L.length := (List.getElem?_eq_some_iff.1 hx).1
  have hn := nOps_cases x.op
  have h50 : x.op = 50 → nOps x.op = 0 := fun h => by rw [h]; rfl
  have h51 : x.op = 51 → nOps x.op = 0 := fun h => by rw [h]; rfl
  have h52 : x.op = 52 → nOps x.op = 0 := fun h => by rw [h]; rfl
  by_cases hik : (i : Int) < regs
  · obtain ⟨_, h3⟩ := h1 i x hx hik
    unfold reads at ha
    split at ha
    · simp only [List.mem_singleton] at ha
      subst ha
      omega
    · split at ha
      · simp only [List.mem_cons, List.not_mem_nil, or_false] at ha
        omega
      · simp at ha
  · have hi' : i = rk := by omega
    subst hi'
    rw [hr, Int.toNat_natCast, hx] at ht
    cases ht
    obtain ⟨k1, k2, k3, k4, k5⟩ := h2
    unfold reads at ha
    rw [if_pos (.inl k1)] at ha
    simp only [List.mem_singleton] at ha
    subst ha
    omega

theorem g36o_loop {x : Vl} {a0 a1 : Int} {A L : Rs} (l : List Vl) (hl : l.length < 1073741824) : ∀ (m i : Nat), i + m = l.length →
    Goes step36i (.h0 (l.length : Int) (i : Int) x.kind x.bits a0 a1 A (l.map vlR) L)
      (match fi (fun y => decide (y = x)) (l.drop i) i with
        | some j => ((j : Int), a0, a1, A, l.map vlR, L )
        | none => ((l.length : Int), a0, a1, A, (l ++ [x]).map vlR, L ))
  | 0, i, hi => by
    have : l.drop i = [] := List.drop_eq_nil_of_le (by omega)
    rw [this]
    refine Goes.fin0 fun k rec => ?_
    have hlt : decide ((i : Int) < (l.length : Int)) = false := by simp; omega
    show t36i_h0 k rec _ _ _ _ _ _ _ _ _ = _
    unfold t36i_h0
    have hw : IntKind.i64.wrap (((l.map vlR ++ [[ic x.kind, .val (.int .u64 x.bits)]]).length : Int) - 1) = (l.length : Int) := by rw [wrap_len (by simpa using hl)]; simp
    have hap : apOk 16 2 (l.map vlR) [[ic x.kind, .val (.int .u64 x.bits)]] = true := ap_ok (by decide) (by decide) (by simpa using hl) rfl
    rw [hlt, cond_false, hap, hw]
    simp [gd, fi, vlR]
  | m + 1, i, hi => by
    have hx : l[i]? = some (l[i]'(by omega)) := List.getElem?_eq_getElem _
    generalize l[i]'(by omega) = y at hx
    have ih := g36o_loop (x := x) (a0 := a0) (a1 := a1) (A := A) (L := L) l hl m (i + 1) (by omega)
    have hlt : decide ((i : Int) < (l.length : Int)) = true := by simp; omega
    rw [fi_drop hx]
    by_cases hy : y = x
    · rw [if_pos (by simpa using hy)]
      refine Goes.fin0 fun k rec => ?_
      show t36i_h0 k rec _ _ _ _ _ _ _ _ _ = _
      unfold t36i_h0
      rw [hlt, cond_true, ixR_at (map_at hx), un_vl, eq_vl, decide_eq_true hy, cond_true]
    · rw [if_neg (by simpa using hy)]
      refine ih.rec0 fun k rec => ?_
      show t36i_h0 k rec _ _ _ _ _ _ _ _ _ = _
      unfold t36i_h0
      rw [hlt, cond_true, ixR_at (map_at hx), un_vl, eq_vl, decide_eq_false hy, cond_false, wrap1 i (by omega)]
theorem g36o_plc {x : Vl} {a0 a1 : Int} {A L : Rs} (l : List Vl) (hl : l.length < 1073741824) :
    Tot (fun k => g36i k x.kind x.bits a0 a1 A (l.map vlR) L) (((plc x l).1 : Int), a0, a1, A, (plc x l).2.map vlR, L ) := by
  have h := g36o_loop (x := x) (a0 := a0) (a1 := a1) (A := A) (L := L) l hl l.length 0 (by omega)
  rw [List.drop_zero] at h
  have e : (match fi (fun y => decide (y = x)) l 0 with
        | some j => ((j : Int), a0, a1, A, l.map vlR, L )
        | none => ((l.length : Int), a0, a1, A, (l ++ [x]).map vlR, L )) = (((plc x l).1 : Int), a0, a1, A, (plc x l).2.map vlR, L ) := by
    unfold plc; cases fi (fun y => decide (y = x)) l 0 <;> rfl
  rw [e] at h
  refine Tot.of_goes (s := S36i.e _ _ _ _ _ _ _) (h.rec0 fun k rec => ?_)
  show t36i_e k rec _ _ _ _ _ _ _ = _
  unfold t36i_e
  rw [List.length_map]; rfl

theorem g35o_loop {x : In4} {a0 a1 : Int} {A L : Rs} (l : List In4) (hl : l.length < 1073741824) : ∀ (m i : Nat), i + m = l.length →
    Goes step35h (.h0 (l.length : Int) (i : Int) x.op x.kind x.pos x.attr a0 a1 (l.map inR) A L)
      (match fi (fun y => decide (y = x)) (l.drop i) i with
        | some j => ((j : Int), a0, a1, l.map inR, A, L )
        | none => ((l.length : Int), a0, a1, (l ++ [x]).map inR, A, L ))
  | 0, i, hi => by
    have : l.drop i = [] := List.drop_eq_nil_of_le (by omega)
    rw [this]
    refine Goes.fin0 fun k rec => ?_
    have hlt : decide ((i : Int) < (l.length : Int)) = false := by simp; omega
    show t35h_h0 k rec _ _ _ _ _ _ _ _ _ _ _ = _
    unfold t35h_h0
    have hw : IntKind.i64.wrap (((l.map inR ++ [[ic x.op, ic x.kind, ic x.pos, ic x.attr]]).length : Int) - 1) = (l.length : Int) := by rw [wrap_len (by simpa using hl)]; simp
    have hap : apOk 32 4 (l.map inR) [[ic x.op, ic x.kind, ic x.pos, ic x.attr]] = true := ap_ok (by decide) (by decide) (by simpa using hl) rfl
    rw [hlt, cond_false, hap, hw]
    simp [gd, fi, inR]
  | m + 1, i, hi => by
    have hx : l[i]? = some (l[i]'(by omega)) := List.getElem?_eq_getElem _
    generalize l[i]'(by omega) = y at hx
    have ih := g35o_loop (x := x) (a0 := a0) (a1 := a1) (A := A) (L := L) l hl m (i + 1) (by omega)
    have hlt : decide ((i : Int) < (l.length : Int)) = true := by simp; omega
    rw [fi_drop hx]
    by_cases hy : y = x
    · rw [if_pos (by simpa using hy)]
      refine Goes.fin0 fun k rec => ?_
      show t35h_h0 k rec _ _ _ _ _ _ _ _ _ _ _ = _
      unfold t35h_h0
      rw [hlt, cond_true, ixR_at (map_at hx), un_in, eq_in, decide_eq_true hy, cond_true]
    · rw [if_neg (by simpa using hy)]
      refine ih.rec0 fun k rec => ?_
      show t35h_h0 k rec _ _ _ _ _ _ _ _ _ _ _ = _
      unfold t35h_h0
      rw [hlt, cond_true, ixR_at (map_at hx), un_in, eq_in, decide_eq_false hy, cond_false, wrap1 i (by omega)]
theorem g35o_plc {x : In4} {a0 a1 : Int} {A L : Rs} (l : List In4) (hl : l.length < 1073741824) :
    Tot (fun k => g35h k x.op x.kind x.pos x.attr a0 a1 (l.map inR) A L) (((plc x l).1 : Int), a0, a1, (plc x l).2.map inR, A, L ) := by
  have h := g35o_loop (x := x) (a0 := a0) (a1 := a1) (A := A) (L := L) l hl l.length 0 (by omega)
  rw [List.drop_zero] at h
  have e : (match fi (fun y => decide (y = x)) l 0 with
        | some j => ((j : Int), a0, a1, l.map inR, A, L )
        | none => ((l.length : Int), a0, a1, (l ++ [x]).map inR, A, L )) = (((plc x l).1 : Int), a0, a1, (plc x l).2.map inR, A, L ) := by
    unfold plc; cases fi (fun y => decide (y = x)) l 0 <;> rfl
  rw [e] at h
  refine Tot.of_goes (s := S35h.e _ _ _ _ _ _ _ _ _) (h.rec0 fun k rec => ?_)
  show t35h_e k rec _ _ _ _ _ _ _ _ _ = _
  unfold t35h_e
  rw [List.length_map]; rfl
end Ab
end Go.Proofs.Ytebmcaceklbopaa

/-
  What is left of code without what is not needed.
-/
import Derived.Test.YtebmcaceklbopaaN17
set_option linter.unusedVariables false
set_option linter.unusedSimpArgs false
namespace Go.Proofs.Ytebmcaceklbopaa
namespace Ab
structure DS where
  bec : Int → Int
  I : List In4
  C : List Vl
  O : List Ins4
def opnd (ins : List In4) (cs : List Vl) (s : DS) (x : Ins4) : Int × Int × List In4 × List Vl :=
  if x.op = 50 then match ins[x.a.toNat]? with
    | some y => ((plc y s.I).1, 0, (plc y s.I).2, s.C)
    | none => (0, 0, s.I, s.C)
  else if x.op = 51 then match cs[x.a.toNat]? with
    | some y => ((plc y s.C).1, 0, s.I, (plc y s.C).2)
    | none => (0, 0, s.I, s.C)
  else if nOps x.op = 2 then (s.bec x.a, s.bec x.b, s.I, s.C) else (s.bec x.a, 0, s.I, s.C)
def dstep (nd : Int → Bool) (ins : List In4) (cs : List Vl) (i : Nat) (x : Ins4) (s : DS) : DS :=
  if nd (i : Int) = true then ⟨fun j => if j = (i : Int) then (s.O.length : Int) else s.bec j, (opnd ins cs s x).2.2.1, (opnd ins cs s x).2.2.2, s.O ++ [⟨x.op, s.O.length, (opnd ins cs s x).1, (opnd ins cs s x).2.1⟩]⟩ else s
structure DB (s : DS) (i : Nat) : Prop where
  I : s.I.length ≤ i
  C : s.C.length ≤ i
  O : s.O.length ≤ i
theorem opnd_len {ins : List In4} {cs : List Vl} {s : DS} {x : Ins4} {i : Nat} (h : DB s i) : (opnd ins cs s x).2.2.1.length ≤ i + 1 ∧ (opnd ins cs s x).2.2.2.length ≤ i + 1 := by
  have h1 := h.I; have h2 := h.C
  unfold opnd
  split
  · split
    · rename_i y _; have := plc_len y s.I; exact ⟨by simp only; omega, by simp only; omega⟩
    · exact ⟨by simp only; omega, by simp only; omega⟩
  · split
    · split
      · rename_i y _; have := plc_len y s.C; exact ⟨by simp only; omega, by simp only; omega⟩
      · exact ⟨by simp only; omega, by simp only; omega⟩
    · split <;> exact ⟨by simp only; omega, by simp only; omega⟩
theorem dstep_bd {nd : Int → Bool} {ins : List In4} {cs : List Vl} {i : Nat} {x : Ins4} {s : DS} (h : DB s i) : DB (dstep nd ins cs i x s) (i + 1) := by
  have h1 := h.I; have h2 := h.C; have h3 := h.O
  have h4 := opnd_len (ins := ins) (cs := cs) (x := x) h
  unfold dstep
  split
  · exact ⟨h4.1, h4.2, by simp; omega⟩
  · exact ⟨by omega, by omega, by omega⟩
theorem imm_map {α : Type} {f : α → List Cell} (hf : ∀ x, (f x).map immC = f x) (l : List α) : immRs (l.map f) = l.map f := by
  rw [immRs_eq, List.map_map]
  apply List.map_congr_left
  intro x _
  exact hf x
theorem imm_inR (l : List In4) : immRs (l.map inR) = l.map inR := imm_map (fun _ => rfl) l
theorem imm_vlR (l : List Vl) : immRs (l.map vlR) = l.map vlR := imm_map (fun _ => rfl) l
theorem imm_insR (l : List Ins4) : immRs (l.map insR) = l.map insR := imm_map (fun _ => rfl) l
theorem ins_app (O : List Ins4) (x : Ins4) : O.map insR ++ [insR x] = (O ++ [x]).map insR := by simp

section
variable {slots z0 z1 : Int} {ins : List In4} {cs : List Vl} {L : List Ins4} {rk : Nat} {r : Int × Int × Rs × Rs × Rs} {nd : Int → Bool}

theorem s20_9 {bec : Rs} {I C O : Rs} {i : Nat} (hi : i < 1073741824) (h : Goes step20 (.h3 (rowsB rk nd) bec (L.map insR) (L.length : Int) ((i + 1 : Nat) : Int) 0 0 I C O z0 z1 (rk : Int) slots (ins.map inR) (cs.map vlR) (L.map insR)) r) :
    Goes step20 (.h9 (rowsB rk nd) bec (L.map insR) (L.length : Int) (i : Int) 0 0 I C O z0 z1 (rk : Int) slots (ins.map inR) (cs.map vlR) (L.map insR)) r := by
  refine h.rec0 fun k rec => ?_
  show rec (.h3 _ _ _ _ (IntKind.i64.wrap ((i : Int) + 1)) _ _ _ _ _ _ _ _ _ _ _ _) = _
  rw [wrap1 i (by omega)]

/-- an instruction that is kept, ahead of the last one. -/
theorem s20_10 {bec : Int → Int} {I C : Rs} {O : List Ins4} {i : Nat} {op dst a b : Int} (hi : i < rk) (hk : rk < 1073741824) (hO : O.length < 1073741824)
    (h : Goes step20 (.h3 (rowsB rk nd) (rowsI rk fun j => if j = (i : Int) then (O.length : Int) else bec j) (L.map insR) (L.length : Int) ((i + 1 : Nat) : Int) 0 0 I C ((O ++ [(⟨op, O.length, a, b⟩ : Ins4)]).map insR) z0 z1 (rk : Int) slots (ins.map inR) (cs.map vlR) (L.map insR)) r) :
    Goes step20 (.h10 (rowsB rk nd) (rowsI rk bec) (i : Int) (L.map insR) (L.length : Int) (i : Int) op dst a b 0 0 I C (O.map insR) z0 z1 (rk : Int) slots (ins.map inR) (cs.map vlR) (L.map insR)) r := by
  rw [← ins_app] at h
  refine Goes.rec0 (s' := .h11 (rowsB rk nd) (rowsI rk fun j => if j = (i : Int) then (O.length : Int) else bec j) (L.map insR) (L.length : Int) (i : Int) op (O.length : Int) a b 0 0 I C (O.map insR) z0 z1 (rk : Int) slots (ins.map inR) (cs.map vlR) (L.map insR)) ?_ (fun k rec => ?_)
  · refine (s20_9 (by omega) h).rec0 fun k rec => ?_
    show t20_h11 k rec _ _ _ _ _ _ _ _ _ _ _ _ _ _ _ _ _ _ _ _ _ = _
    unfold t20_h11
    have hap : apOk 32 4 (O.map insR) [[ic op, ic (O.length : Int), ic a, ic b]] = true := ap_ok (by decide) (by decide) (by simpa using hO) rfl
    rw [hap]; rfl
  · show t20_h10 k rec _ _ _ _ _ _ _ _ _ _ _ _ _ _ _ _ _ _ _ _ _ _ = _
    unfold t20_h10
    have hlt : decide ((i : Int) < (rk : Int)) = true := by simp; omega
    rw [hlt, cond_true, ixR_at (show (rowsI rk bec)[i]? = some [ic (bec (i : Int))] from rowsG_at hi), un_int, Int.toNat_natCast, rowsI_set hi, List.length_map]

theorem s20_6 {s : DS} {i : Nat} {x : Ins4} (hi : i < rk) (hk : rk < 1073741824) (hd : DB s i) (hx : okI x i ins.length cs.length)
    (h : Goes step20 (.h3 (rowsB rk nd) (rowsI rk fun j => if j = (i : Int) then (s.O.length : Int) else s.bec j) (L.map insR) (L.length : Int) ((i + 1 : Nat) : Int) 0 0 ((opnd ins cs s x).2.2.1.map inR) ((opnd ins cs s x).2.2.2.map vlR) ((s.O ++ [(⟨x.op, s.O.length, (opnd ins cs s x).1, (opnd ins cs s x).2.1⟩ : Ins4)]).map insR) z0 z1 (rk : Int) slots (ins.map inR) (cs.map vlR) (L.map insR)) r) :
    Goes step20 (.h6 (rowsB rk nd) (rowsI rk s.bec) (i : Int) (L.map insR) (L.length : Int) (i : Int) false x.op x.dst x.a x.b 0 0 (s.I.map inR) (s.C.map vlR) (s.O.map insR) z0 z1 (rk : Int) slots (ins.map inR) (cs.map vlR) (L.map insR)) r := by
  have b1 := hd.I; have b2 := hd.C; have b3 := hd.O
  have h10 := fun a b I C => s20_10 (nd := nd) (z0 := z0) (z1 := z1) (slots := slots) (ins := ins) (cs := cs) (L := L) (r := r) (bec := s.bec) (I := I) (C := C) (O := s.O) (op := x.op) (dst := x.dst) (a := a) (b := b) hi hk (by omega)
  have n50 : x.op = 50 → nOps x.op = 0 := fun h => by rw [h]; rfl
  have n51 : x.op = 51 → nOps x.op = 0 := fun h => by rw [h]; rfl
  obtain ⟨_, hx⟩ := hx
  by_cases c50 : x.op = 50
  · have hb : 0 ≤ x.a ∧ x.a < (ins.length : Int) ∧ x.b = 0 := by
      rcases hx with h | h | h | h
      · exact h.2
      · omega
      · have := n50 c50; omega
      · have := n50 c50; omega
    obtain ⟨an, ha⟩ : ∃ an : Nat, x.a = (an : Int) := ⟨x.a.toNat, by omega⟩
    have hy : ins[an]? = some (ins[an]'(by omega)) := List.getElem?_eq_getElem _
    generalize ins[an]'(by omega) = y at hy
    have e : opnd ins cs s x = (((plc y s.I).1 : Int), 0, (plc y s.I).2, s.C) := by unfold opnd; rw [if_pos c50, ha, Int.toNat_natCast, hy]
    rw [e] at h
    obtain ⟨N, hN⟩ := g35o_plc (x := y) (a0 := 0) (a1 := 0) (A := s.C.map vlR) (L := s.O.map insR) s.I (by omega)
    refine (h10 _ _ _ _ h).rec ⟨N, fun k hk' rec => ?_⟩
    show t20_h6 k rec _ _ _ _ _ _ _ _ _ _ _ _ _ _ _ _ _ _ _ _ _ _ _ = _
    unfold t20_h6
    have e50 : (x.op == 50) = true := by simp [c50]
    rw [cond_false, e50, cond_true, ha, ixR_at (map_at hy), un_in, show g35h k y.op y.kind y.pos y.attr 0 0 _ _ _ = _ from hN k hk', hb.2.2]
    rfl
  · have e50 : (x.op == 50) = false := by simp [c50]
    by_cases c51 : x.op = 51
    · have hb : 0 ≤ x.a ∧ x.a < (cs.length : Int) ∧ x.b = 0 := by
        rcases hx with h | h | h | h
        · omega
        · exact h.2
        · have := n51 c51; omega
        · have := n51 c51; omega
      obtain ⟨an, ha⟩ : ∃ an : Nat, x.a = (an : Int) := ⟨x.a.toNat, by omega⟩
      have hy : cs[an]? = some (cs[an]'(by omega)) := List.getElem?_eq_getElem _
      generalize cs[an]'(by omega) = y at hy
      have e : opnd ins cs s x = (((plc y s.C).1 : Int), 0, s.I, (plc y s.C).2) := by unfold opnd; rw [if_neg c50, if_pos c51, ha, Int.toNat_natCast, hy]
      rw [e] at h
      obtain ⟨N, hN⟩ := g36o_plc (x := y) (a0 := 0) (a1 := 0) (A := s.I.map inR) (L := s.O.map insR) s.C (by omega)
      refine (h10 _ _ _ _ h).rec ⟨N, fun k hk' rec => ?_⟩
      show t20_h6 k rec _ _ _ _ _ _ _ _ _ _ _ _ _ _ _ _ _ _ _ _ _ _ _ = _
      unfold t20_h6
      have e51 : (x.op == 51) = true := by simp [c51]
      rw [cond_false, e50, cond_false, e51, cond_true, ha, ixR_at (map_at hy), un_vl, show g36i k y.kind y.bits 0 0 _ _ _ = _ from hN k hk', hb.2.2]
      rfl
    · have e51 : (x.op == 51) = false := by simp [c51]
      obtain ⟨N, hN⟩ := g34_reads x
      have hn : (nOps x.op = 1 ∧ 0 ≤ x.a ∧ x.a < (i : Int) ∧ x.b = 0) ∨ (nOps x.op = 2 ∧ 0 ≤ x.a ∧ x.a < (i : Int) ∧ 0 ≤ x.b ∧ x.b < (i : Int)) := by
        rcases hx with h | h | h | h
        · exact absurd h.1 c50
        · exact absurd h.1 c51
        · exact .inl h
        · exact .inr h
      obtain ⟨an, ha⟩ : ∃ an : Nat, x.a = (an : Int) := ⟨x.a.toNat, by omega⟩
      have n52 : x.op = 52 → nOps x.op = 0 := fun h => by rw [h]; rfl
      rcases hn with hn | hn
      · have e : opnd ins cs s x = (s.bec x.a, 0, s.I, s.C) := by unfold opnd; rw [if_neg c50, if_neg c51, if_neg (by omega)]
        rw [e] at h
        have hr : reads x = [x.a] := by unfold reads; rw [if_pos (.inr hn.1)]
        rw [hr] at hN
        refine (h10 _ _ _ _ h).rec ⟨N, fun k hk' rec => ?_⟩
        show t20_h6 k rec _ _ _ _ _ _ _ _ _ _ _ _ _ _ _ _ _ _ _ _ _ _ _ = _
        unfold t20_h6
        rw [cond_false, e50, cond_false, e51, cond_false, show g34 k x.op x.dst x.a x.b = _ from hN k hk', hn.2.2.2, ha]
        have hat : (rowsI rk s.bec)[an]? = some [ic (s.bec (an : Int))] := rowsG_at (by omega)
        simp only [Option.bind_some, List.map_cons, List.map_nil, List.length_cons, List.length_nil]
        show ixR (rowsI rk s.bec) (an : Int) _ = _
        rw [ixR_at hat]; rfl
      · have e : opnd ins cs s x = (s.bec x.a, s.bec x.b, s.I, s.C) := by unfold opnd; rw [if_neg c50, if_neg c51, if_pos hn.1]
        rw [e] at h
        obtain ⟨bn, hb⟩ : ∃ bn : Nat, x.b = (bn : Int) := ⟨x.b.toNat, by omega⟩
        have hr : reads x = [x.a, x.b] := by unfold reads; rw [if_neg (by omega), if_pos hn.1]
        rw [hr] at hN
        refine (h10 _ _ _ _ h).rec ⟨N, fun k hk' rec => ?_⟩
        show t20_h6 k rec _ _ _ _ _ _ _ _ _ _ _ _ _ _ _ _ _ _ _ _ _ _ _ = _
        unfold t20_h6
        rw [cond_false, e50, cond_false, e51, cond_false, show g34 k x.op x.dst x.a x.b = _ from hN k hk', ha, hb]
        have hat : (rowsI rk s.bec)[an]? = some [ic (s.bec (an : Int))] := rowsG_at (by omega)
        have hbt : (rowsI rk s.bec)[bn]? = some [ic (s.bec (bn : Int))] := rowsG_at (by omega)
        simp only [Option.bind_some, List.map_cons, List.map_nil, List.length_cons, List.length_nil]
        show ixR (rowsI rk s.bec) (an : Int) _ = _
        rw [ixR_at hat, un_int, ixR_at hbt]; rfl

def dfold (nd : Int → Bool) (ins : List In4) (cs : List Vl) (L : List Ins4) : Nat → DS
  | 0 => ⟨fun _ => 0, [], [], []⟩
  | i + 1 => match L[i]? with
    | some x => dstep nd ins cs i x (dfold nd ins cs L i)
    | none => dfold nd ins cs L i
theorem dfold_bd (nd : Int → Bool) (ins : List In4) (cs : List Vl) (L : List Ins4) : ∀ i, DB (dfold nd ins cs L i) i
  | 0 => ⟨Nat.le_refl _, Nat.le_refl _, Nat.le_refl _⟩
  | i + 1 => by
    have h := dfold_bd nd ins cs L i
    simp only [dfold]
    split
    · exact dstep_bd h
    · exact ⟨Nat.le_succ_of_le h.I, Nat.le_succ_of_le h.C, Nat.le_succ_of_le h.O⟩

/-- what is told: the last instruction behind what is left. -/
def dend (s : DS) (t : Ins4) : Int × Int × Rs × Rs × Rs := ((s.O.length : Int), 0, s.I.map inR, s.C.map vlR, (s.O ++ [(⟨52, 0, s.bec t.a, 0⟩ : Ins4)]).map insR)

theorem s20_3 (hp : PlainP (rk : Int) slots ins.length cs.length L) (hk : rk < 1073741824) (ht : nd (rk : Int) = true) : ∀ (m i : Nat), i + m = rk → ∀ t, L[rk]? = some t →
    Goes step20 (.h3 (rowsB rk nd) (rowsI rk (dfold nd ins cs L i).bec) (L.map insR) (L.length : Int) (i : Int) 0 0 ((dfold nd ins cs L i).I.map inR) ((dfold nd ins cs L i).C.map vlR) ((dfold nd ins cs L i).O.map insR) z0 z1 (rk : Int) slots (ins.map inR) (cs.map vlR) (L.map insR))
      (dend (dfold nd ins cs L rk) t)
  | 0, i, hi, t, hL => by
    have hi' : i = rk := by omega
    subst hi'
    obtain ⟨_, _, hlen, _, t', ht', h52, hdst, hb0, ha0, ha1⟩ := hp
    rw [Int.toNat_natCast, hL] at ht'
    cases ht'
    have bd := dfold_bd nd ins cs L i
    have b1 := bd.I; have b2 := bd.C; have b3 := bd.O
    generalize dfold nd ins cs L i = s at b1 b2 b3
    have hl : L.length = i + 1 := by omega
    obtain ⟨an, ha⟩ : ∃ an : Nat, t.a = (an : Int) := ⟨t.a.toNat, by omega⟩
    have e3 : Goes step20 (.h3 (rowsB i nd) (rowsI i s.bec) (L.map insR) (L.length : Int) ((i + 1 : Nat) : Int) 0 0 (s.I.map inR) (s.C.map vlR) ((s.O ++ [(⟨52, 0, s.bec t.a, 0⟩ : Ins4)]).map insR) z0 z1 (i : Int) slots (ins.map inR) (cs.map vlR) (L.map insR)) (dend s t) := by
      refine Goes.rec0 (s' := .h7 (s.O.length : Int) 0 (s.I.map inR) (s.C.map vlR) ((s.O ++ [(⟨52, 0, s.bec t.a, 0⟩ : Ins4)]).map insR)) (Goes.fin0 fun k rec => rfl) fun k rec => ?_
      show t20_h3 k rec _ _ _ _ _ _ _ _ _ _ _ _ _ _ _ _ _ = _
      unfold t20_h3
      have hlt : decide (((i + 1 : Nat) : Int) < (L.length : Int)) = false := by simp; omega
      rw [hlt, cond_false, imm_inR, imm_vlR, imm_insR, List.length_map, wrap_len (by omega)]
    have e11 : Goes step20 (.h11 (rowsB i nd) (rowsI i s.bec) (L.map insR) (L.length : Int) (i : Int) 52 0 (s.bec t.a) 0 0 0 (s.I.map inR) (s.C.map vlR) (s.O.map insR) z0 z1 (i : Int) slots (ins.map inR) (cs.map vlR) (L.map insR)) (dend s t) := by
      rw [← ins_app] at e3
      refine (s20_9 (by omega) e3).rec0 fun k rec => ?_
      show t20_h11 k rec _ _ _ _ _ _ _ _ _ _ _ _ _ _ _ _ _ _ _ _ _ = _
      unfold t20_h11
      have hap : apOk 32 4 (s.O.map insR) [[ic 52, ic 0, ic (s.bec t.a), ic 0]] = true := ap_ok (by decide) (by decide) (by rw [List.length_map]; omega) rfl
      rw [hap]; rfl
    have e10 : Goes step20 (.h10 (rowsB i nd) (rowsI i s.bec) (i : Int) (L.map insR) (L.length : Int) (i : Int) 52 0 (s.bec t.a) 0 0 0 (s.I.map inR) (s.C.map vlR) (s.O.map insR) z0 z1 (i : Int) slots (ins.map inR) (cs.map vlR) (L.map insR)) (dend s t) := by
      refine e11.rec0 fun k rec => ?_
      show t20_h10 k rec _ _ _ _ _ _ _ _ _ _ _ _ _ _ _ _ _ _ _ _ _ _ = _
      unfold t20_h10
      have hlt : decide ((i : Int) < (i : Int)) = false := by simp
      rw [hlt, cond_false]
    obtain ⟨N, hN⟩ := g34_reads t
    have hr : reads t = [t.a] := by unfold reads; rw [if_pos (.inl h52)]
    rw [hr] at hN
    have e6 : Goes step20 (.h6 (rowsB i nd) (rowsI i s.bec) (i : Int) (L.map insR) (L.length : Int) (i : Int) false t.op t.dst t.a t.b 0 0 (s.I.map inR) (s.C.map vlR) (s.O.map insR) z0 z1 (i : Int) slots (ins.map inR) (cs.map vlR) (L.map insR)) (dend s t) := by
      refine e10.rec ⟨N, fun k hk' rec => ?_⟩
      show t20_h6 k rec _ _ _ _ _ _ _ _ _ _ _ _ _ _ _ _ _ _ _ _ _ _ _ = _
      unfold t20_h6
      have h34 : g34 k t.op t.dst t.a t.b = _ := hN k hk'
      have hat : (rowsI i s.bec)[an]? = some [ic (s.bec (an : Int))] := rowsG_at (by omega)
      rw [h34, h52, hdst, hb0, ha]
      show ixR (rowsI i s.bec) (an : Int) _ = _
      rw [ixR_at hat]; rfl
    refine e6.rec0 fun k rec => ?_
    show t20_h3 k rec _ _ _ _ _ _ _ _ _ _ _ _ _ _ _ _ _ = _
    unfold t20_h3
    have hlt : decide ((i : Int) < (L.length : Int)) = true := by simp; omega
    have hlt2 : decide ((i : Int) < (i : Int)) = false := by simp
    rw [hlt, cond_true, ixR_at (map_at hL), un_ins, hlt2, cond_false]
  | m + 1, i, hi, t, hL => by
    have hl : L.length = rk + 1 := by have := hp.2.2.1; omega
    have hx : L[i]? = some (L[i]'(by omega)) := List.getElem?_eq_getElem _
    generalize L[i]'(by omega) = x at hx
    have ih := s20_3 hp hk ht m (i + 1) (by omega) t hL
    have ef : dfold nd ins cs L (i + 1) = dstep nd ins cs i x (dfold nd ins cs L i) := by simp only [dfold, hx]
    rw [ef] at ih
    have bd := dfold_bd nd ins cs L i
    generalize dfold nd ins cs L i = s at ih bd
    have hlt : decide ((i : Int) < (L.length : Int)) = true := by simp; omega
    have hlt2 : decide ((i : Int) < (rk : Int)) = true := by simp; omega
    have ok := hp.2.2.2.1 i x hx (by omega)
    have e6 : Goes step20 (.h6 (rowsB rk nd) (rowsI rk s.bec) (i : Int) (L.map insR) (L.length : Int) (i : Int) (!(nd (i : Int))) x.op x.dst x.a x.b 0 0 (s.I.map inR) (s.C.map vlR) (s.O.map insR) z0 z1 (rk : Int) slots (ins.map inR) (cs.map vlR) (L.map insR)) (dend (dfold nd ins cs L rk) t) := by
      cases hn : nd (i : Int) with
      | false =>
        have e : dstep nd ins cs i x s = s := by unfold dstep; rw [hn]; simp
        rw [e] at ih
        exact (s20_9 (by omega) ih).rec0 fun k rec => rfl
      | true =>
        have e : dstep nd ins cs i x s = ⟨fun j => if j = (i : Int) then (s.O.length : Int) else s.bec j, (opnd ins cs s x).2.2.1, (opnd ins cs s x).2.2.2, s.O ++ [⟨x.op, s.O.length, (opnd ins cs s x).1, (opnd ins cs s x).2.1⟩]⟩ := by unfold dstep; rw [hn, if_pos rfl]
        rw [e] at ih
        exact s20_6 (by omega) hk bd ok ih
    refine e6.rec0 fun k rec => ?_
    show t20_h3 k rec _ _ _ _ _ _ _ _ _ _ _ _ _ _ _ _ _ = _
    unfold t20_h3
    rw [hlt, cond_true, ixR_at (map_at hx), un_ins, hlt2, cond_true, ixR_at (show (rowsB rk nd)[i]? = some [bc (nd (i : Int))] from rowsG_at (by omega)), un_bool]
end

end Ab
end Go.Proofs.Ytebmcaceklbopaa

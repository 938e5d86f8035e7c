/-
  What is left of code without what is not needed: the document's way; the two are one.
-/
import Derived.Test.YtebmcaceklbopaaD5
set_option linter.unusedVariables false
set_option linter.unusedSimpArgs false
namespace Go.Proofs.Ytebmcaceklbopaa
namespace Ab

theorem set_last (O : List Ins4) (x : Ins4) : setRow ((O ++ [x]).map insR) O.length 1 (ic 0) = (O ++ [(⟨x.op, 0, x.a, x.b⟩ : Ins4)]).map insR := by
  have h : ((O ++ [x]).map insR)[O.length]? = some (insR x) := by simp
  unfold setRow
  rw [h]
  simp [insR]

section
variable {slots z0 z1 : Int} {ins : List In4} {cs : List Vl} {L : List Ins4} {rk : Nat} {r : Int × Int × Rs × Rs × Rs} {N : List (Int × Bool)}

theorem s21_10 {B : List (Int × Int)} {I C O : Rs} {i : Nat} (hi : i < 1073741824) (h : Goes step21 (.h3 (esI bR N) (esI oneR B) (L.map insR) (L.length : Int) ((i + 1 : Nat) : Int) 0 0 I C O z0 z1 (rk : Int) slots (ins.map inR) (cs.map vlR) (L.map insR)) r) :
    Goes step21 (.h10 (esI bR N) (esI oneR B) (L.map insR) (L.length : Int) (i : Int) 0 0 I C O z0 z1 (rk : Int) slots (ins.map inR) (cs.map vlR) (L.map insR)) r := by
  refine h.rec0 fun k rec => ?_
  show rec (.h3 _ _ _ _ (IntKind.i64.wrap ((i : Int) + 1)) _ _ _ _ _ _ _ _ _ _ _ _) = _
  rw [wrap1 i (by omega)]

theorem s21_16 {B : List (Int × Int)} {I C : Rs} {O : List Ins4} {i : Nat} {op dst xa xb a b : Int} (hi : i < 1073741824) (hO : O.length < 1073741824)
    (h : ∀ B', ibM B' = (fun j => if j = (i : Int) then (O.length : Int) else ibM B j) → Goes step21 (.h3 (esI bR N) (esI oneR B') (L.map insR) (L.length : Int) ((i + 1 : Nat) : Int) 0 0 I C ((O ++ [(⟨op, O.length, a, b⟩ : Ins4)]).map insR) z0 z1 (rk : Int) slots (ins.map inR) (cs.map vlR) (L.map insR)) r) :
    Goes step21 (.h16 (esI bR N) (esI oneR B) (i : Int) a b (L.map insR) (L.length : Int) (i : Int) op dst xa xb 0 0 I C (O.map insR) z0 z1 (rk : Int) slots (ins.map inR) (cs.map vlR) (L.map insR)) r := by
  have h' := h (mputI (i : Int) (O.length : Int) B) (ib_put _ _ _)
  rw [← ins_app] at h'
  refine (s21_10 hi h').rec0 fun k rec => ?_
  show t21_h16 k rec _ _ _ _ _ _ _ _ op dst xa xb _ _ _ _ _ _ _ _ _ _ _ _ = _
  unfold t21_h16
  have hap : apOk 32 4 (O.map insR) [[ic op, ic (O.length : Int), ic a, ic b]] = true := ap_ok (by decide) (by decide) (by simpa using hO) rfl
  rw [List.length_map, show ([ic (O.length : Int)] : List Cell) = oneR (O.length : Int) from rfl, putI]
  show gd (apOk 32 4 (O.map insR) [[ic op, ic (O.length : Int), ic a, ic b]]) _ = _
  rw [hap]; rfl

theorem s21_h12 {B : List (Int × Int)} {s : DS} {i : Nat} {x : Ins4} (hi : i < 1073741824) (hd : DB s i) (hB : ibM B = s.bec) (h5 : x.op = 50 → 0 ≤ x.a ∧ x.a < (ins.length : Int)) (h1 : x.op = 51 → 0 ≤ x.a ∧ x.a < (cs.length : Int))
    (h : ∀ B', ibM B' = (fun j => if j = (i : Int) then (s.O.length : Int) else s.bec j) → Goes step21 (.h3 (esI bR N) (esI oneR B') (L.map insR) (L.length : Int) ((i + 1 : Nat) : Int) 0 0 ((opnd ins cs s x).2.2.1.map inR) ((opnd ins cs s x).2.2.2.map vlR) ((s.O ++ [(⟨x.op, s.O.length, (opnd ins cs s x).1, (opnd ins cs s x).2.1⟩ : Ins4)]).map insR) z0 z1 (rk : Int) slots (ins.map inR) (cs.map vlR) (L.map insR)) r) :
    Goes step21 (.h12 (esI bR N) (esI oneR B) (i : Int) (s.bec x.a) (if nOps x.op = 2 then s.bec x.b else 0) (L.map insR) (L.length : Int) (i : Int) x.op x.dst x.a x.b 0 0 (s.I.map inR) (s.C.map vlR) (s.O.map insR) z0 z1 (rk : Int) slots (ins.map inR) (cs.map vlR) (L.map insR)) r := by
  have b1 := hd.I; have b2 := hd.C; have b3 := hd.O
  rw [← hB] at h
  have h16 := fun a b I C => s21_16 (N := N) (z0 := z0) (z1 := z1) (slots := slots) (ins := ins) (cs := cs) (L := L) (rk := rk) (r := r) (B := B) (I := I) (C := C) (O := s.O) (op := x.op) (dst := x.dst) (xa := x.a) (xb := x.b) (a := a) (b := b) hi (by omega)
  by_cases c50 : x.op = 50
  · have hn : nOps x.op = 0 := by rw [c50]; rfl
    have hb := h5 c50
    obtain ⟨an, ha⟩ : ∃ an : Nat, x.a = (an : Int) := ⟨x.a.toNat, by omega⟩
    have hy : ins[an]? = some (ins[an]'(by omega)) := List.getElem?_eq_getElem _
    generalize ins[an]'(by omega) = y at hy
    have e : opnd ins cs s x = (((plc y s.I).1 : Int), 0, (plc y s.I).2, s.C) := by unfold opnd; rw [if_pos c50, ha, Int.toNat_natCast, hy]
    rw [e] at h
    have e50 : (x.op == 50) = true := by simp [c50]
    have e51 : (x.op == 51) = false := by simp [c50]
    obtain ⟨K, hK⟩ := g37_plc (x := y) (a0 := 0) (a1 := 0) (A := s.C.map vlR) (L := s.O.map insR) s.I (by omega)
    rw [if_neg (by omega)]
    have g14 : Goes step21 (.h14 (esI bR N) (esI oneR B) (i : Int) ((plc y s.I).1 : Int) 0 (L.map insR) (L.length : Int) (i : Int) x.op x.dst x.a x.b 0 0 ((plc y s.I).2.map inR) (s.C.map vlR) (s.O.map insR) z0 z1 (rk : Int) slots (ins.map inR) (cs.map vlR) (L.map insR)) r := by
      refine (h16 _ _ _ _ h).rec0 fun k rec => ?_
      show t21_h14 k rec _ _ _ _ _ _ _ _ _ _ _ _ _ _ _ _ _ _ _ _ _ _ _ _ = _
      unfold t21_h14
      rw [e51, cond_false]
    have g13 : Goes step21 (.h13 (esI bR N) (esI oneR B) (i : Int) 0 (L.map insR) (L.length : Int) (i : Int) x.op x.dst x.a x.b 0 0 (s.I.map inR) (s.C.map vlR) (s.O.map insR) z0 z1 (rk : Int) slots (ins.map inR) (cs.map vlR) (L.map insR)) r := by
      refine g14.rec ⟨K, fun k hk rec => ?_⟩
      show t21_h13 k rec _ _ _ _ _ _ _ _ _ _ _ _ _ _ _ _ _ _ _ _ _ _ _ = _
      unfold t21_h13
      rw [ha, ixR_at (map_at hy), un_in, show g37c k y.op y.kind y.pos y.attr 0 0 _ _ _ = _ from hK k hk]
      rfl
    refine g13.rec0 fun k rec => ?_
    show t21_h12 k rec _ _ _ _ _ _ _ _ _ _ _ _ _ _ _ _ _ _ _ _ _ _ _ _ = _
    unfold t21_h12
    rw [e50, cond_true]
  · have e50 : (x.op == 50) = false := by simp [c50]
    by_cases c51 : x.op = 51
    · have hn : nOps x.op = 0 := by rw [c51]; rfl
      have hb := h1 c51
      obtain ⟨an, ha⟩ : ∃ an : Nat, x.a = (an : Int) := ⟨x.a.toNat, by omega⟩
      have hy : cs[an]? = some (cs[an]'(by omega)) := List.getElem?_eq_getElem _
      generalize cs[an]'(by omega) = y at hy
      have e : opnd ins cs s x = (((plc y s.C).1 : Int), 0, s.I, (plc y s.C).2) := by unfold opnd; rw [if_neg c50, if_pos c51, ha, Int.toNat_natCast, hy]
      rw [e] at h
      have e51 : (x.op == 51) = true := by simp [c51]
      obtain ⟨K, hK⟩ := g38_plc (x := y) (a0 := 0) (a1 := 0) (A := s.I.map inR) (L := s.O.map insR) s.C (by omega)
      rw [if_neg (by omega)]
      have g15' : Goes step21 (.h15 (esI bR N) (esI oneR B) (i : Int) 0 (L.map insR) (L.length : Int) (i : Int) x.op x.dst x.a x.b 0 0 (s.I.map inR) (s.C.map vlR) (s.O.map insR) z0 z1 (rk : Int) slots (ins.map inR) (cs.map vlR) (L.map insR)) r := by
        refine (h16 _ _ _ _ h).rec ⟨K, fun k hk rec => ?_⟩
        show t21_h15 k rec _ _ _ _ _ _ _ _ _ _ _ _ _ _ _ _ _ _ _ _ _ _ _ = _
        unfold t21_h15
        rw [ha, ixR_at (map_at hy), un_vl, show g38c k y.kind y.bits 0 0 _ _ _ = _ from hK k hk]
        rfl
      have g14 : Goes step21 (.h14 (esI bR N) (esI oneR B) (i : Int) (s.bec x.a) 0 (L.map insR) (L.length : Int) (i : Int) x.op x.dst x.a x.b 0 0 (s.I.map inR) (s.C.map vlR) (s.O.map insR) z0 z1 (rk : Int) slots (ins.map inR) (cs.map vlR) (L.map insR)) r := by
        refine g15'.rec0 fun k rec => ?_
        show t21_h14 k rec _ _ _ _ _ _ _ _ _ _ _ _ _ _ _ _ _ _ _ _ _ _ _ _ = _
        unfold t21_h14
        rw [e51, cond_true]
      refine g14.rec0 fun k rec => ?_
      show t21_h12 k rec _ _ _ _ _ _ _ _ _ _ _ _ _ _ _ _ _ _ _ _ _ _ _ _ = _
      unfold t21_h12
      rw [e50, cond_false]
    · have e51 : (x.op == 51) = false := by simp [c51]
      have e : opnd ins cs s x = (s.bec x.a, (if nOps x.op = 2 then s.bec x.b else 0), s.I, s.C) := by unfold opnd; rw [if_neg c50, if_neg c51]; split <;> rfl
      rw [e] at h
      have g14 : Goes step21 (.h14 (esI bR N) (esI oneR B) (i : Int) (s.bec x.a) (if nOps x.op = 2 then s.bec x.b else 0) (L.map insR) (L.length : Int) (i : Int) x.op x.dst x.a x.b 0 0 (s.I.map inR) (s.C.map vlR) (s.O.map insR) z0 z1 (rk : Int) slots (ins.map inR) (cs.map vlR) (L.map insR)) r := by
        refine (h16 _ _ _ _ h).rec0 fun k rec => ?_
        show t21_h14 k rec _ _ _ _ _ _ _ _ _ _ _ _ _ _ _ _ _ _ _ _ _ _ _ _ = _
        unfold t21_h14
        rw [e51, cond_false]
      refine g14.rec0 fun k rec => ?_
      show t21_h12 k rec _ _ _ _ _ _ _ _ _ _ _ _ _ _ _ _ _ _ _ _ _ _ _ _ = _
      unfold t21_h12
      rw [e50, cond_false]

/-- one instruction. -/
theorem s21_one {nd : Int → Bool} {B : List (Int × Int)} {s : DS} {i : Nat} {x : Ins4} (hN : nbM N = nd) (hi : i < L.length) (hl : L.length < 1073741824) (hx : L[i]? = some x) (hd : DB s i) (hB : ibM B = s.bec)
    (h5 : x.op = 50 → 0 ≤ x.a ∧ x.a < (ins.length : Int)) (h1 : x.op = 51 → 0 ≤ x.a ∧ x.a < (cs.length : Int))
    (h : ∀ B', ibM B' = (dstep nd ins cs i x s).bec → Goes step21 (.h3 (esI bR N) (esI oneR B') (L.map insR) (L.length : Int) ((i + 1 : Nat) : Int) 0 0 ((dstep nd ins cs i x s).I.map inR) ((dstep nd ins cs i x s).C.map vlR) ((dstep nd ins cs i x s).O.map insR) z0 z1 (rk : Int) slots (ins.map inR) (cs.map vlR) (L.map insR)) r) :
    Goes step21 (.h3 (esI bR N) (esI oneR B) (L.map insR) (L.length : Int) (i : Int) 0 0 (s.I.map inR) (s.C.map vlR) (s.O.map insR) z0 z1 (rk : Int) slots (ins.map inR) (cs.map vlR) (L.map insR)) r := by
  have hlt : decide ((i : Int) < (L.length : Int)) = true := by simp; omega
  have g7 : Goes step21 (.h7 (esI bR N) (esI oneR B) (i : Int) (L.map insR) (L.length : Int) (i : Int) (!(nd (i : Int))) x.op x.dst x.a x.b 0 0 (s.I.map inR) (s.C.map vlR) (s.O.map insR) z0 z1 (rk : Int) slots (ins.map inR) (cs.map vlR) (L.map insR)) r := by
    cases hn : nd (i : Int) with
    | false =>
      have e : dstep nd ins cs i x s = s := by unfold dstep; rw [hn]; simp
      rw [e] at h
      exact (s21_10 (by omega) (h B hB)).rec0 fun k rec => rfl
    | true =>
      have e : dstep nd ins cs i x s = ⟨fun j => if j = (i : Int) then (s.O.length : Int) else s.bec j, (opnd ins cs s x).2.2.1, (opnd ins cs s x).2.2.2, s.O ++ [⟨x.op, s.O.length, (opnd ins cs s x).1, (opnd ins cs s x).2.1⟩]⟩ := by unfold dstep; rw [hn, if_pos rfl]
      rw [e] at h
      have g12 := s21_h12 (N := N) (z0 := z0) (z1 := z1) (slots := slots) (rk := rk) (L := L) (r := r) (by omega) hd hB h5 h1 h
      have g11 : Goes step21 (.h11 (esI bR N) (esI oneR B) (i : Int) (s.bec x.a) 0 (L.map insR) (L.length : Int) (i : Int) (nOps x.op == 2) x.op x.dst x.a x.b 0 0 (s.I.map inR) (s.C.map vlR) (s.O.map insR) z0 z1 (rk : Int) slots (ins.map inR) (cs.map vlR) (L.map insR)) r := by
        refine g12.rec0 fun k rec => ?_
        show t21_h11 k rec _ _ _ _ _ _ _ _ _ _ _ _ _ _ _ _ _ _ _ _ _ _ _ _ _ = _
        unfold t21_h11
        by_cases h2 : nOps x.op = 2
        · have e2 : (nOps x.op == 2) = true := by simp [h2]
          rw [e2, cond_true, if_pos h2]
          refine (look_i B x.b _ (fun v => rec (.h12 _ _ _ _ v _ _ _ _ _ _ _ _ _ _ _ _ _ _ _ _ _ _ _)) rfl).trans ?_
          rw [hB]
        · have e2 : (nOps x.op == 2) = false := by simp [h2]
          rw [e2, cond_false, if_neg h2]
      obtain ⟨K, hK⟩ := g31_nOps x.op
      refine g11.rec ⟨K, fun k hk rec => ?_⟩
      show t21_h7 k rec _ _ _ _ _ _ _ _ _ _ _ _ _ _ _ _ _ _ _ _ _ _ _ = _
      unfold t21_h7
      have h31 : g31 k x.op = some (nOps x.op) := hK k hk
      rw [show (!true) = false from rfl, cond_false]
      refine (look_i B x.a _ (fun v => (g31 k x.op).bind fun u => rec (.h11 _ _ _ v _ _ _ _ (u == 2) _ _ _ _ _ _ _ _ _ _ _ _ _ _ _ _)) rfl).trans ?_
      rw [hB, h31]; rfl
  refine g7.rec0 fun k rec => ?_
  show t21_h3 k rec _ _ _ _ _ _ _ _ _ _ _ _ _ _ _ _ _ = _
  unfold t21_h3
  rw [hlt, cond_true, ixR_at (map_at hx), un_ins]
  refine (look_b N (i : Int) _ (fun v => rec (.h7 _ _ _ _ _ _ (!v) _ _ _ _ _ _ _ _ _ _ _ _ _ _ _ _)) rfl).trans ?_
  rw [hN]

theorem s21_3 {nd : Int → Bool} (hN : nbM N = nd) (hp : PlainP (rk : Int) slots ins.length cs.length L) (hk : rk < 1073741823) (ht : nd (rk : Int) = true) : ∀ (m i : Nat), i + m = rk → ∀ t, L[rk]? = some t → ∀ B, ibM B = (dfold nd ins cs L i).bec →
    Goes step21 (.h3 (esI bR N) (esI oneR B) (L.map insR) (L.length : Int) (i : Int) 0 0 ((dfold nd ins cs L i).I.map inR) ((dfold nd ins cs L i).C.map vlR) ((dfold nd ins cs L i).O.map insR) z0 z1 (rk : Int) slots (ins.map inR) (cs.map vlR) (L.map insR))
      (dend (dfold nd ins cs L rk) t)
  | 0, i, hi, t, hL, B, hB => by
    have hi' : i = rk := by omega
    subst hi'
    obtain ⟨_, _, hlen, _, t', ht', h52, hdst, hb0, ha0, ha1⟩ := hp
    rw [Int.toNat_natCast, hL] at ht'
    cases ht'
    have hl : L.length = i + 1 := by omega
    have bd := dfold_bd nd ins cs L i
    have b1 := bd.I; have b2 := bd.C; have b3 := bd.O
    generalize dfold nd ins cs L i = s at b1 b2 b3 bd hB
    refine s21_one hN (by omega) (by omega) hL bd hB (fun h => by omega) (fun h => by omega) fun B' _ => ?_
    have e1 : opnd ins cs s t = (s.bec t.a, 0, s.I, s.C) := by
      have : nOps t.op = 0 := by rw [h52]; rfl
      unfold opnd; rw [if_neg (by omega), if_neg (by omega), if_neg (by omega)]
    have e : dstep nd ins cs i t s = ⟨fun j => if j = (i : Int) then (s.O.length : Int) else s.bec j, s.I, s.C, s.O ++ [⟨52, s.O.length, s.bec t.a, 0⟩]⟩ := by unfold dstep; rw [ht, if_pos rfl, e1, h52]
    rw [e]
    refine Goes.fin0 fun k rec => ?_
    show t21_h3 k rec _ _ _ _ _ _ _ _ _ _ _ _ _ _ _ _ _ = _
    unfold t21_h3
    have hlt : decide (((i + 1 : Nat) : Int) < (L.length : Int)) = false := by simp; omega
    have hw : IntKind.i64.wrap ((((s.O ++ [(⟨52, s.O.length, s.bec t.a, 0⟩ : Ins4)]).map insR).length : Int) - 1) = (s.O.length : Int) := by rw [List.length_map, wrap_len (by omega)]
    have hat : ((s.O ++ [(⟨52, s.O.length, s.bec t.a, 0⟩ : Ins4)]).map insR)[s.O.length]? = some (insR ⟨52, s.O.length, s.bec t.a, 0⟩) := by simp
    rw [hlt, cond_false]
    simp only [hw]
    rw [ixR_at hat, un_ins, Int.toNat_natCast, set_last, imm_inR, imm_vlR, imm_insR]
    rfl
  | m + 1, i, hi, t, hL, B, hB => by
    have hl : L.length = rk + 1 := by have := hp.2.2.1; omega
    have hx : L[i]? = some (L[i]'(by omega)) := List.getElem?_eq_getElem _
    generalize L[i]'(by omega) = x at hx
    have ih := s21_3 hN hp hk ht m (i + 1) (by omega) t hL
    have ef : dfold nd ins cs L (i + 1) = dstep nd ins cs i x (dfold nd ins cs L i) := by simp only [dfold, hx]
    rw [ef] at ih
    have bd := dfold_bd nd ins cs L i
    obtain ⟨_, ok⟩ := hp.2.2.2.1 i x hx (by omega)
    have n50 : x.op = 50 → nOps x.op = 0 := fun h => by rw [h]; rfl
    have n51 : x.op = 51 → nOps x.op = 0 := fun h => by rw [h]; rfl
    exact s21_one hN (by omega) (by omega) hx bd hB (fun h => by have := n50 h; omega) (fun h => by have := n51 h; omega) ih
end

theorem mk_ok {n by_ : Nat} (h : n < 1073741824) (hb : by_ ≤ 8) : mkOk (n : Int) (n : Int) by_ 1 = true := by
  have h1 : (n : Int) * (by_ : Int) ≤ 1073741824 * 8 := Int.mul_le_mul (by omega) (by omega) (by omega) (by omega)
  unfold mkOk lim
  simp
  omega
/-! ## the two -/
theorem drop_both {slots : Int} {ins : List In4} {cs : List Vl} {L : List Ins4} {rk : Nat} (hp : PlainP (rk : Int) slots ins.length cs.length L) (hk : rk < 1073741823) :
    ∃ I C O n, I.length < 1073741824 ∧ C.length < 1073741824 ∧ O.length < 1073741824 ∧
      Tot (fun k => g20 k (rk : Int) slots (ins.map inR) (cs.map vlR) (L.map insR)) (n, 0, List.map inR I, List.map vlR C, List.map insR O) ∧
      Tot (fun k => g21 k (rk : Int) slots (ins.map inR) (cs.map vlR) (L.map insR)) (n, 0, List.map inR I, List.map vlR C, List.map insR O) := by
  have hin := inR_of hp rfl
  have hl : L.length = rk + 1 := by have := hp.2.2.1; omega
  obtain ⟨t, ht⟩ : ∃ t, L[rk]? = some t := ⟨_, List.getElem?_eq_getElem (by omega)⟩
  have h1 : 1 ≤ (rk : Int) := hp.2.1
  generalize hnd : needs L (rk + 1) (fun j => decide (j = (rk : Int))) = nd
  have hndr : nd (rk : Int) = true := by rw [← hnd]; exact needs_up _ (by simp)
  have bd := dfold_bd nd ins cs L rk
  have b1 := bd.I; have b2 := bd.C; have b3 := bd.O
  refine ⟨(dfold nd ins cs L rk).I, (dfold nd ins cs L rk).C, (dfold nd ins cs L rk).O ++ [⟨52, 0, (dfold nd ins cs L rk).bec t.a, 0⟩], ((dfold nd ins cs L rk).O.length : Int), by omega, by omega, by simp; omega, ?_, ?_⟩
  · have e1 : ((rk + 1 : Nat) : Int) - 1 = (rk : Int) := by omega
    have f3 := s20_3 (z0 := 0) (z1 := 0) (ins := ins) (cs := cs) hp (by omega) hndr rk 0 (by omega) t ht
    have f1 : Goes step20 (.h1 (rowsB rk nd) (-1) 0 0 (rk : Int) slots (ins.map inR) (cs.map vlR) (L.map insR)) (dend (dfold nd ins cs L rk) t) := by
      refine f3.rec0 fun k rec => ?_
      show t20_h1 k rec _ _ _ _ _ _ _ _ _ = _
      unfold t20_h1
      have hge : decide ((-1 : Int) ≥ 0) = false := by decide
      have mk : mkOk (rk : Int) (rk : Int) 8 1 = true := mk_ok (by omega) (by decide)
      rw [hge, cond_false, mk, List.length_map, Int.toNat_natCast, rowsG_repl]
      rfl
    rw [← hnd] at f1
    have f0 := s20_1 (z0 := 0) (z1 := 0) (slots := slots) (ins := ins.map inR) (cs := cs.map vlR) hin hl (by omega) (rk + 1) (fun j => decide (j = (rk : Int))) (Nat.le_refl _) (by simp) f1
    rw [e1, hnd] at f0
    obtain ⟨N, hN⟩ := g15_plain (regs := (rk : Int)) (slots := slots) (ins := ins.map inR) (cs := cs.map vlR) (L := L) (b := true) ⟨by omega, by omega⟩ (by omega) ⟨fun _ => by simpa using hp, fun _ => rfl⟩
    refine Tot.of_goes (s := S20.e _ _ _ _ _) (f0.rec ⟨N, fun k hk' rec => ?_⟩)
    show t20_e k rec _ _ _ _ _ = _
    unfold t20_e
    have mk : mkOk (rk : Int) (rk : Int) 1 1 = true := mk_ok (by omega) (by decide)
    rw [show g15 k (rk : Int) slots (ins.map inR) (cs.map vlR) (L.map insR) = _ from hN k hk', Option.bind_some, show (!true) = false from rfl, cond_false, mk, Int.toNat_natCast, rowsG_repl]
    show rec (.h1 (rowsG rk fun _ => [bc false]) _ _ _ _ _ _ _ _) = _
    have : (rowsG rk fun _ => [bc false]) = rowsB rk (fun j => decide (j = (rk : Int))) := rowsG_congr fun j hj => by
      have : ¬ ((j : Int) = (rk : Int)) := by omega
      simp [this]
    rw [this]
  · have e1 : ((rk + 1 : Nat) : Int) - 1 = (rk : Int) := by omega
    have f0 := s21_0 (z0 := 0) (z1 := 0) (slots := slots) (ins := ins.map inR) (cs := cs.map vlR) (r := dend (dfold nd ins cs L rk) t) hl (by omega) (rk + 1) [((rk : Int), true)] (Nat.le_refl _) (fun M' hM' => by
      have hM : nbM M' = nd := by
        rw [hM', ← hnd]
        congr 1
        funext j
        unfold nbM
        by_cases h : j = (rk : Int) <;> simp [mfI, h]
      have f3 := s21_3 (z0 := 0) (z1 := 0) (ins := ins) (cs := cs) hM hp hk hndr rk 0 (by omega) t ht [] rfl
      refine f3.rec0 fun k rec => ?_
      show t21_h0 k rec _ _ _ _ _ _ _ _ _ = _
      unfold t21_h0
      have hge : decide ((-1 : Int) ≥ 0) = false := by decide
      rw [hge, cond_false, List.length_map]
      rfl)
    rw [e1] at f0
    exact Tot.of_goes (s := S21.e _ _ _ _ _) (f0.rec0 fun k rec => rfl)
end Ab
end Go.Proofs.Ytebmcaceklbopaa

/-
  How wide code is: what the program counts.
-/
import Derived.Test.YtebmcaceklbopaaN18
set_option linter.unusedVariables false
set_option linter.unusedSimpArgs false
namespace Go.Proofs.Ytebmcaceklbopaa
namespace Ab
/-- so many rows of one number. -/
def rowsF (n : Nat) (f : Nat → Int) : Rs := (List.range n).map fun j => oneR (f j)
theorem rowsF_len (n : Nat) (f : Nat → Int) : (rowsF n f).length = n := by simp [rowsF]
theorem rowsF_at {n : Nat} {f : Nat → Int} {i : Nat} (h : i < n) : (rowsF n f)[i]? = some (oneR (f i)) := by
  simp [rowsF, List.getElem?_map, List.getElem?_range h]
theorem rowsF_congr {n : Nat} {f g : Nat → Int} (h : ∀ j, j < n → f j = g j) : rowsF n f = rowsF n g := by
  unfold rowsF
  apply List.map_congr_left
  intro j hj
  rw [h j (List.mem_range.1 hj)]
theorem rowsF_set {n : Nat} {f : Nat → Int} {i : Nat} {v : Int} (h : i < n) : setRow (rowsF n f) i 0 (ic v) = rowsF n (fun j => if j = i then v else f j) := by
  unfold setRow
  rw [rowsF_at h]
  apply List.ext_getElem?
  intro j
  by_cases hj : j = i
  · subst hj
    rw [List.getElem?_set_self (by rw [rowsF_len]; exact h), rowsF_at h]
    simp [oneR]
  · rw [List.getElem?_set_ne (fun e => hj e.symm)]
    by_cases hn : j < n
    · rw [rowsF_at hn, rowsF_at hn, if_neg hj]
    · rw [List.getElem?_eq_none (by rw [rowsF_len]; omega), List.getElem?_eq_none (by rw [rowsF_len]; omega)]
theorem un_one {α : Type} (v : Int) (k : Int → Option α) : un_i (oneR v) k = k v := rfl

/-- the last instruction of the first so many that reads a register. -/
def lastIn (L : List Ins4) (r : Nat) : Nat → Int
  | 0 => -1
  | i + 1 => match L[i]? with
    | some x => if (r : Int) ∈ reads x then (i : Int) else lastIn L r i
    | none => lastIn L r i

section
variable {regs slots : Int} {ins cs : Rs} {L : List Ins4} {rk : Nat} {r : Rs}

theorem s32_0 (hr : regs = (rk : Int)) (hs : rk < 4611686018427387904) (h : Goes step32 (.h2 (rowsF rk fun _ => -1) (L.map insR) (L.length : Int) 0) r) :
    ∀ (m i : Nat), i + m = rk → Goes step32 (.h0 (rowsF rk fun j => if j < i then -1 else 0) (rk : Int) (i : Int) regs slots ins cs (L.map insR)) r
  | 0, i, hi => by
    have e : rowsF rk (fun j => if j < i then -1 else 0) = rowsF rk fun _ => -1 := rowsF_congr fun j hj => by rw [if_pos (by omega)]
    rw [e]
    refine h.rec0 fun k rec => ?_
    show t32_h0 k rec _ _ _ _ _ _ _ _ = _
    unfold t32_h0
    have hlt : decide ((i : Int) < (rk : Int)) = false := by simp; omega
    rw [hlt, cond_false, List.length_map]
  | m + 1, i, hi => by
    have ih := s32_0 hr hs h m (i + 1) (by omega)
    have e : setRow (rowsF rk fun j => if j < i then -1 else 0) i 0 (ic (-1)) = rowsF rk fun j => if j < i + 1 then -1 else 0 := by
      rw [rowsF_set (by omega)]
      apply rowsF_congr
      intro j _
      by_cases hj : j = i
      · rw [if_pos hj, if_pos (by omega)]
      · rw [if_neg hj]
        by_cases h2 : j < i
        · rw [if_pos h2, if_pos (by omega)]
        · rw [if_neg h2, if_neg (by omega)]
    refine Goes.rec0 (s' := .h1 (setRow (rowsF rk fun j => if j < i then -1 else 0) i 0 (ic (-1))) (rk : Int) (i : Int) regs slots ins cs (L.map insR)) ?_ (fun k rec => ?_)
    · rw [e]
      refine ih.rec0 fun k rec => ?_
      show rec (.h0 _ _ (IntKind.i64.wrap ((i : Int) + 1)) _ _ _ _ _) = _
      rw [wrap1 i (by omega)]
    · show t32_h0 k rec _ _ _ _ _ _ _ _ = _
      unfold t32_h0
      have hlt : decide ((i : Int) < (rk : Int)) = true := by simp; omega
      rw [hlt, cond_true, ixR_at (rowsF_at (by omega)), un_one, Int.toNat_natCast]

theorem s32_3 {i : Nat} {Q : Rs} {q : Int} (hs : i < 4611686018427387904) (all : List Int) (hall : all.length < 100) (hin : ∀ a ∈ all, 0 ≤ a ∧ a < (rk : Int)) :
    ∀ (rest done : List Int) (f : Nat → Int), all = done ++ rest → Goes step32 (.h2 (rowsF rk fun j => if (j : Int) ∈ rest then (i : Int) else f j) Q q ((i + 1 : Nat) : Int)) r →
      Goes step32 (.h3 (rowsF rk f) (i : Int) Q q (i : Int) (all.map oneR) ((all.map oneR).length : Int) (done.length : Int)) r
  | [], done, f, e, h => by
    have e2 : rowsF rk (fun j => if (j : Int) ∈ ([] : List Int) then (i : Int) else f j) = rowsF rk f := rowsF_congr fun j _ => by simp
    rw [e2] at h
    refine h.rec0 fun k rec => ?_
    show t32_h3 k rec _ _ _ _ _ _ _ _ = _
    unfold t32_h3
    have hlt : decide ((done.length : Int) < ((all.map oneR).length : Int)) = false := by rw [e]; simp
    rw [hlt, cond_false, wrap1 i (by omega)]
  | a :: rest, done, f, e, h => by
    obtain ⟨ha0, ha1⟩ := hin a (by rw [e]; simp)
    obtain ⟨an, rfl⟩ : ∃ an : Nat, a = (an : Int) := ⟨a.toNat, by omega⟩
    have hlt : decide ((done.length : Int) < ((all.map oneR).length : Int)) = true := by rw [e]; simp; omega
    have hat : (all.map oneR)[done.length]? = some (oneR (an : Int)) := by rw [e]; simp
    have e1 : all = (done ++ [(an : Int)]) ++ rest := by rw [e]; simp
    have ih := s32_3 (Q := Q) (q := q) hs all hall hin rest (done ++ [(an : Int)]) (fun j => if j = an then (i : Int) else f j) e1 (by
      have e3 : rowsF rk (fun j => if (j : Int) ∈ rest then (i : Int) else if j = an then (i : Int) else f j) = rowsF rk (fun j => if (j : Int) ∈ (an : Int) :: rest then (i : Int) else f j) := by
        apply rowsF_congr
        intro j _
        by_cases h1 : j = an
        · subst h1; simp
        · have : ¬ (j : Int) = (an : Int) := by omega
          simp [this, h1]
      rw [e3]
      exact h)
    refine Goes.rec0 (s' := .h4 (setRow (rowsF rk f) an 0 (ic (i : Int))) (i : Int) Q q (i : Int) (all.map oneR) ((all.map oneR).length : Int) (done.length : Int)) ?_ (fun k rec => ?_)
    · rw [rowsF_set (by omega)]
      have hl : ((done ++ [(an : Int)]).length : Int) = ((done.length + 1 : Nat) : Int) := by simp
      rw [hl] at ih
      refine ih.rec0 fun k rec => ?_
      show rec (.h3 _ _ _ _ _ _ _ (IntKind.i64.wrap ((done.length : Int) + 1))) = _
      have hd : done.length < 100 := by have := congrArg List.length e; simp at this; omega
      rw [wrap1 _ (by omega)]
    · show t32_h3 k rec _ _ _ _ _ _ _ _ = _
      unfold t32_h3
      rw [hlt, cond_true, ixR_at hat, un_one, ixR_at (rowsF_at (by omega)), un_one, Int.toNat_natCast]

theorem s32_2 (hin : InR L rk) (hs : L.length < 4611686018427387904) :
    ∀ (m i : Nat), i + m = L.length → Goes step32 (.h2 (rowsF rk fun j => lastIn L j i) (L.map insR) (L.length : Int) (i : Int)) (rowsF rk fun j => lastIn L j L.length)
  | 0, i, hi => by
    have hi' : i = L.length := by omega
    subst hi'
    refine Goes.fin0 fun k rec => ?_
    show t32_h2 k rec _ _ _ _ = _
    unfold t32_h2
    have hlt : decide ((L.length : Int) < (L.length : Int)) = false := by simp
    rw [hlt, cond_false]
  | m + 1, i, hi => by
    have hx : L[i]? = some (L[i]'(by omega)) := List.getElem?_eq_getElem _
    generalize L[i]'(by omega) = x at hx
    have ih := s32_2 hin hs m (i + 1) (by omega)
    have hlt : decide ((i : Int) < (L.length : Int)) = true := by simp; omega
    have el : ∀ j, lastIn L j (i + 1) = if (j : Int) ∈ reads x then (i : Int) else lastIn L j i := fun j => by simp only [lastIn, hx]
    obtain ⟨N, hN⟩ := g34_reads x
    refine Goes.rec (s' := .h3 (rowsF rk fun j => lastIn L j i) (i : Int) (L.map insR) (L.length : Int) (i : Int) ((reads x).map oneR) (((reads x).map oneR).length : Int) (([] : List Int).length : Int)) ?_ ⟨N, fun k hk rec => ?_⟩
    · refine s32_3 (by omega) (reads x) (reads_len x) (hin i x hx) (reads x) [] _ rfl ?_
      rw [← rowsF_congr (fun j _ => el j)]
      exact ih
    · show t32_h2 k rec _ _ _ _ = _
      unfold t32_h2
      rw [hlt, cond_true, ixR_at (map_at hx), un_ins, show g34 k x.op x.dst x.a x.b = _ from hN k hk]
      rfl

theorem g32_last (hr : regs = (rk : Int)) (hin : InR L rk) (hs : L.length < 4611686018427387904) (hk : rk < 1099511627776) : Tot (fun k => g32 k regs slots ins cs (L.map insR)) (rowsF rk fun j => lastIn L j L.length) := by
  show Goes step32 (.e regs slots ins cs (L.map insR)) _
  have h2 := s32_2 hin hs L.length 0 (by omega)
  have e0 : (rowsF rk fun j => lastIn L j 0) = rowsF rk fun _ => -1 := rfl
  rw [e0] at h2
  have h0 := s32_0 (regs := regs) (slots := slots) (ins := ins) (cs := cs) hr (by omega) h2 rk 0 (by omega)
  have e1 : rowsF rk (fun j => if j < 0 then -1 else 0) = List.replicate rk [ic 0] := by
    rw [rowsF_congr (g := fun _ => 0) (fun j _ => by simp)]
    unfold rowsF
    rw [List.map_const']
    simp [oneR]
  rw [e1] at h0
  refine h0.rec0 fun k rec => ?_
  show t32_e k rec regs slots ins cs (L.map insR) = _
  unfold t32_e
  have mk : mkOk regs regs 8 1 = true := by
    unfold mkOk lim
    simp only [Bool.and_eq_true, decide_eq_true_eq]
    rw [hr]
    omega
  rw [mk, hr]
  simp [gd]
end

/-! the counts -/
def cntF (F : Nat → Int) (i : Nat) : Nat → Int
  | 0 => 0
  | m + 1 => cntF F i m + if F m > (i : Int) then 1 else 0
theorem cntF_le (F : Nat → Int) (i : Nat) : ∀ m, 0 ≤ cntF F i m ∧ cntF F i m ≤ m
  | 0 => by simp [cntF]
  | m + 1 => by
    have := cntF_le F i m
    simp only [cntF]
    split <;> omega
def widthF (c : Nat → Int) : Nat → Int
  | 0 => 0
  | i + 1 => if c i > widthF c i then c i else widthF c i

theorem s17_1 {F : Nat → Int} {rk i : Nat} {most r : Int} (hi : i < rk) (hk : rk < 1099511627776) (h : Goes step17 (.h0 (rowsF rk F) (if 1 + cntF F i i > most then 1 + cntF F i i else most) (rk : Int) ((i + 1 : Nat) : Int)) r) :
    ∀ (m j : Nat), j + m = i → Goes step17 (.h1 (rowsF rk F) most (i : Int) (1 + cntF F i j) (rk : Int) (i : Int) (i : Int) (j : Int)) r
  | 0, j, hj => by
    have hj' : j = i := by omega
    subst hj'
    refine h.rec0 fun k rec => ?_
    show t17_h1 k rec _ _ _ _ _ _ _ _ = _
    unfold t17_h1
    have hlt : decide ((j : Int) < (j : Int)) = false := by simp
    rw [hlt, cond_false, wrap1 j (by omega)]
  | m + 1, j, hj => by
    have ih := s17_1 hi hk h m (j + 1) (by omega)
    have hc := cntF_le F i j
    have nx : ∀ n, n = 1 + cntF F i (j + 1) → Goes step17 (.h2 (rowsF rk F) most (i : Int) n (rk : Int) (i : Int) (i : Int) (j : Int)) r := by
      intro n hn
      rw [hn]
      refine ih.rec0 fun k rec => ?_
      show rec (.h1 _ _ _ _ _ _ _ (IntKind.i64.wrap ((j : Int) + 1))) = _
      rw [wrap1 j (by omega)]
    have open1 : ∀ k (rec : S17 → Option R17), step17 k rec (.h1 (rowsF rk F) most (i : Int) (1 + cntF F i j) (rk : Int) (i : Int) (i : Int) (j : Int)) = t17_h1 k rec (rowsF rk F) most (i : Int) (1 + cntF F i j) (rk : Int) (i : Int) (i : Int) (j : Int) := fun _ _ => rfl
    have hlt : decide ((j : Int) < (i : Int)) = true := by simp; omega
    by_cases hg : F j > (i : Int)
    · refine (nx (IntKind.i64.wrap (1 + cntF F i j + 1)) ?_).rec0 fun k rec => ?_
      · rw [IntKind.wrap_i64]; simp only [cntF, if_pos hg]; omega
      · rw [open1]; unfold t17_h1
        rw [hlt, cond_true, ixR_at (rowsF_at (by omega)), un_one]
        simp [hg]
    · refine (nx (1 + cntF F i j) ?_).rec0 fun k rec => ?_
      · simp only [cntF, if_neg hg]; omega
      · rw [open1]; unfold t17_h1
        rw [hlt, cond_true, ixR_at (rowsF_at (by omega)), un_one]
        simp [hg]

theorem s17_0 {F : Nat → Int} {rk : Nat} (hk : rk < 1099511627776) :
    ∀ (m i : Nat), i + m = rk → Goes step17 (.h0 (rowsF rk F) (widthF (fun i => 1 + cntF F i i) i) (rk : Int) (i : Int)) (widthF (fun i => 1 + cntF F i i) rk)
  | 0, i, hi => by
    have hi' : i = rk := by omega
    subst hi'
    refine Goes.fin0 fun k rec => ?_
    show t17_h0 k rec _ _ _ _ = _
    unfold t17_h0
    have hlt : decide ((i : Int) < (i : Int)) = false := by simp
    rw [hlt, cond_false]
  | m + 1, i, hi => by
    have ih := s17_0 (F := F) hk m (i + 1) (by omega)
    have := s17_1 (F := F) (rk := rk) (i := i) (most := widthF (fun i => 1 + cntF F i i) i) (by omega) hk ih i 0 (by omega)
    refine this.rec0 fun k rec => ?_
    show t17_h0 k rec _ _ _ _ = _
    unfold t17_h0
    have hlt : decide ((i : Int) < (rk : Int)) = true := by simp; omega
    rw [hlt, cond_true]
    rfl

theorem g17_width {regs slots : Int} {ins cs : Rs} {L : List Ins4} {rk : Nat} (hr : regs = (rk : Int)) (hp : PlainP regs slots ins.length cs.length L) (hs : L.length < 4611686018427387904) (hk : rk < 1099511627776) :
    Tot (fun k => g17 k regs slots ins cs (L.map insR)) (widthF (fun i => 1 + cntF (fun j => lastIn L j L.length) i i) rk) := by
  show Goes step17 (.e regs slots ins cs (L.map insR)) _
  obtain ⟨N1, h15⟩ := g15_plain (slots := slots) (ins := ins) (cs := cs) (L := L) (regs := regs) (by omega) hs (b := true) (by simp [hp])
  obtain ⟨N2, h32⟩ := g32_last (slots := slots) (ins := ins) (cs := cs) hr (inR_of hp hr) hs hk
  refine (s17_0 (F := fun j => lastIn L j L.length) hk rk 0 (by omega)).rec ⟨max N1 N2, fun k hk' rec => ?_⟩
  show t17_e k rec regs slots ins cs (L.map insR) = _
  unfold t17_e
  have a1 : g15 k regs slots ins cs (L.map insR) = some true := h15 k (by omega)
  have a2 : g32 k regs slots ins cs (L.map insR) = some (rowsF rk fun j => lastIn L j L.length) := h32 k (by omega)
  rw [hr] at a1 a2
  rw [hr, a1]
  simp only [Option.bind_some, Bool.not_true, cond_false, a2]
  rfl
theorem g17_no {regs slots : Int} {ins cs : Rs} {L : List Ins4} (hr : -9223372036854775808 ≤ regs ∧ regs ≤ 9223372036854775807) (hp : ¬ PlainP regs slots ins.length cs.length L) (hs : L.length < 4611686018427387904) :
    Tot (fun k => g17 k regs slots ins cs (L.map insR)) 0 := by
  show Goes step17 (.e regs slots ins cs (L.map insR)) _
  obtain ⟨N1, h15⟩ := g15_plain (slots := slots) (ins := ins) (cs := cs) (L := L) (regs := regs) hr hs (b := false) (by simp [hp])
  refine Goes.fin ⟨N1, fun k hk' rec => ?_⟩
  show t17_e k rec regs slots ins cs (L.map insR) = _
  unfold t17_e
  have a1 : g15 k regs slots ins cs (L.map insR) = some false := h15 k (by omega)
  rw [a1]
  rfl

end Ab
end Go.Proofs.Ytebmcaceklbopaa

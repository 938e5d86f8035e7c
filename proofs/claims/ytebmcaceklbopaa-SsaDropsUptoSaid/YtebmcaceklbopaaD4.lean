/-
  Which registers are needed: the program's marks and the document's.
-/
import Derived.Test.YtebmcaceklbopaaD3
set_option linter.unusedVariables false
set_option linter.unusedSimpArgs false
namespace Go.Proofs.Ytebmcaceklbopaa
namespace Ab

/-- so many rows. -/
def rowsG (n : Nat) (g : Nat → List Cell) : Rs := (List.range n).map g
theorem rowsG_len (n : Nat) (g : Nat → List Cell) : (rowsG n g).length = n := by simp [rowsG]
theorem rowsG_at {n : Nat} {g : Nat → List Cell} {i : Nat} (h : i < n) : (rowsG n g)[i]? = some (g i) := by simp [rowsG, h]
theorem rowsG_congr {n : Nat} {g g' : Nat → List Cell} (h : ∀ j, j < n → g j = g' j) : rowsG n g = rowsG n g' := by
  unfold rowsG
  apply List.map_congr_left
  intro j hj
  exact h j (List.mem_range.1 hj)
theorem rowsG_set {n : Nat} {g : Nat → List Cell} {i : Nat} {c : Cell} (h : i < n) : setRow (rowsG n g) i 0 c = rowsG n (fun j => if j = i then (g i).set 0 c else g j) := by
  apply List.ext_getElem?
  intro j
  unfold setRow
  rw [rowsG_at h, List.getElem?_set]
  by_cases hj : i = j
  · subst hj
    have hl : i < (rowsG n g).length := by rw [rowsG_len]; exact h
    rw [if_pos rfl, if_pos hl, rowsG_at h, if_pos rfl]; rfl
  · rw [if_neg hj]
    by_cases hjn : j < n
    · rw [rowsG_at hjn, rowsG_at hjn, if_neg (Ne.symm hj)]
    · rw [List.getElem?_eq_none (by rw [rowsG_len]; omega), List.getElem?_eq_none (by rw [rowsG_len]; omega)]
theorem rowsG_repl {n : Nat} {l : List Cell} : List.replicate n l = rowsG n fun _ => l := by
  apply List.ext_getElem?
  intro j
  by_cases hj : j < n
  · rw [rowsG_at hj, List.getElem?_replicate, if_pos hj]
  · rw [List.getElem?_eq_none (by simp; omega), List.getElem?_eq_none (by rw [rowsG_len]; omega)]
def rowsB (n : Nat) (nb : Int → Bool) : Rs := rowsG n fun j => [bc (nb (j : Int))]
def rowsI (n : Nat) (b : Int → Int) : Rs := rowsG n fun j => [ic (b (j : Int))]
theorem un_bool {α : Type} (v : Bool) (k : Bool → Option α) : un_b [bc v] k = k v := rfl
theorem un_int {α : Type} (v : Int) (k : Int → Option α) : un_i [ic v] k = k v := rfl
theorem rowsB_set {n : Nat} {nb : Int → Bool} {i : Nat} {v : Bool} (h : i < n) : setRow (rowsB n nb) i 0 (bc v) = rowsB n (fun j => if j = (i : Int) then v else nb j) := by
  unfold rowsB
  rw [rowsG_set h]
  apply rowsG_congr
  intro j _
  by_cases hj : j = i
  · subst hj; simp
  · have : ¬ ((j : Int) = (i : Int)) := by omega
    rw [if_neg hj]; simp only [if_neg this]
theorem rowsI_set {n : Nat} {b : Int → Int} {i : Nat} {v : Int} (h : i < n) : setRow (rowsI n b) i 0 (ic v) = rowsI n (fun j => if j = (i : Int) then v else b j) := by
  unfold rowsI
  rw [rowsG_set h]
  apply rowsG_congr
  intro j _
  by_cases hj : j = i
  · subst hj; simp
  · have : ¬ ((j : Int) = (i : Int)) := by omega
    rw [if_neg hj]; simp only [if_neg this]

/-! maps of ints -/
def esI {α : Type} (f : α → List Cell) (M : List (Int × α)) : Es := M.map fun x => (.int .i64 x.1, f x.2)
def mfI {α : Type} (k : Int) : List (Int × α) → Option α
  | [] => none
  | (k', r) :: l => if k = k' then some r else mfI k l
def mputI {α : Type} (k : Int) (r : α) : List (Int × α) → List (Int × α)
  | [] => [(k, r)]
  | (k', r') :: l => if k = k' then (k, r) :: l else (k', r') :: mputI k r l
theorem keyI_eq (x y : Int) : keyEq Try.prog 3 (.int .i64 x) (.int .i64 y) = some (decide (x = y)) := by
  have h : keyEq Try.prog 3 (.int .i64 x) (.int .i64 y) = some (x == y) := by kernel_rfl
  rw [h]
  congr 1
theorem findI {α : Type} (f : α → List Cell) (k : Int) : ∀ M : List (Int × α), mapFind Try.prog 3 (.int .i64 k) (esI f M) = some ((mfI k M).map f)
  | [] => rfl
  | (k', r) :: l => by
    have ih := findI f k l
    simp only [esI, List.map_cons, mapFind, keyI_eq] at ih ⊢
    by_cases h : k = k'
    · simp [h, mfI]
    · simp only [h, decide_false, mfI, if_false]; exact ih
theorem putI {α : Type} (f : α → List Cell) (k : Int) (r : α) : ∀ M : List (Int × α), mapPut Try.prog 3 (.int .i64 k) (f r) (esI f M) = some (esI f (mputI k r M))
  | [] => rfl
  | (k', r') :: l => by
    have ih := putI f k r l
    simp only [esI, List.map_cons, mapPut, keyI_eq] at ih ⊢
    by_cases h : k = k'
    · subst h
      have : Instr.sameBits 10000 (.int .i64 k) (.int .i64 k) = true := by simp [Instr.sameBits]
      simp [this, mputI]
    · simp only [h, decide_false, mputI, if_false, ih]; rfl
theorem mf_put {α : Type} (k j : Int) (r : α) : ∀ M : List (Int × α), mfI j (mputI k r M) = if j = k then some r else mfI j M
  | [] => by simp [mputI, mfI]
  | (k', r') :: l => by
    have ih := mf_put k j r l
    simp only [mputI]
    by_cases h : k = k'
    · subst h
      rw [if_pos rfl]
      simp only [mfI]
      split <;> rfl
    · rw [if_neg h]
      simp only [mfI, ih]
      by_cases h1 : j = k'
      · subst h1
        rw [if_pos rfl, if_pos rfl, if_neg (fun e => h e.symm)]
      · rw [if_neg h1, if_neg h1]

def bR (b : Bool) : List Cell := [bc b]
def nbM (M : List (Int × Bool)) (k : Int) : Bool := (mfI k M).getD false
def ibM (M : List (Int × Int)) (k : Int) : Int := (mfI k M).getD 0
theorem nb_put (M : List (Int × Bool)) (k : Int) : nbM (mputI k true M) = fun j => nbM M j || decide (j = k) := by
  funext j
  unfold nbM
  rw [mf_put]
  by_cases h : j = k <;> simp [h]
theorem ib_put (M : List (Int × Int)) (k v : Int) : ibM (mputI k v M) = fun j => if j = k then v else ibM M j := by
  funext j
  unfold ibM
  rw [mf_put]
  by_cases h : j = k <;> simp [h]
theorem look_b {α : Type} (M : List (Int × Bool)) (k : Int) (a : Option α) (f : Bool → Option α) (h : a = f false) : ((mapFind Try.prog 3 (.int .i64 k) (esI bR M)).bind fun e => optC e a fun w => un_b w f) = f (nbM M k) := by
  rw [findI]
  unfold nbM
  cases mfI k M with
  | none => simp [optC, h]
  | some b => simp [optC, bR, un_b]
theorem look_i {α : Type} (M : List (Int × Int)) (k : Int) (a : Option α) (f : Int → Option α) (h : a = f 0) : ((mapFind Try.prog 3 (.int .i64 k) (esI oneR M)).bind fun e => optC e a fun w => un_i w f) = f (ibM M k) := by
  rw [findI]
  unfold ibM
  cases mfI k M with
  | none => simp [optC, h]
  | some b => simp [optC, oneR, un_i]

/-! ## what is needed -/
def readsAt (L : List Ins4) (i : Nat) : List Int := match L[i]? with
  | some x => reads x
  | none => []
def needS (L : List Ins4) (i : Nat) (nb : Int → Bool) : Int → Bool := if nb (i : Int) = true then fun j => nb j || decide (j ∈ readsAt L i) else nb
def needs (L : List Ins4) : Nat → (Int → Bool) → Int → Bool
  | 0, nb => nb
  | i + 1, nb => needs L i (needS L i nb)
theorem needS_up {L : List Ins4} {i : Nat} {nb : Int → Bool} {j : Int} (h : nb j = true) : needS L i nb j = true := by
  unfold needS; split <;> simp [h]
theorem needs_up {L : List Ins4} {j : Int} : ∀ (i : Nat) {nb : Int → Bool}, nb j = true → needs L i nb j = true
  | 0, _, h => h
  | i + 1, _, h => needs_up i (needS_up h)
theorem reads_len (x : Ins4) : (reads x).length < 100 := by unfold reads; split <;> (try split) <;> simp
theorem wrap_dec (i : Nat) (h : i < 4611686018427387904) : IntKind.i64.wrap ((i : Int) - 1) = (i : Int) - 1 := by
  rw [IntKind.wrap_i64]; omega

section
variable {slots z0 z1 : Int} {ins cs : Rs} {L : List Ins4} {rk : Nat} {r : Int × Int × Rs × Rs × Rs}

theorem s20_4 {i4 : Int} (all : List Int) (hall : all.length < 100) (hin : ∀ a ∈ all, 0 ≤ a ∧ a < (rk : Int)) :
    ∀ (rest done : List Int) (nb : Int → Bool), all = done ++ rest → Goes step20 (.h5 (rowsB rk fun j => nb j || decide (j ∈ rest)) i4 z0 z1 (rk : Int) slots ins cs (L.map insR)) r →
      Goes step20 (.h4 (rowsB rk nb) i4 (all.map oneR) ((all.map oneR).length : Int) (done.length : Int) z0 z1 (rk : Int) slots ins cs (L.map insR)) r
  | [], done, nb, e, h => by
    have e2 : (fun j => nb j || decide (j ∈ ([] : List Int))) = nb := by funext j; simp
    rw [e2] at h
    refine h.rec0 fun k rec => ?_
    show t20_h4 k rec _ _ _ _ _ _ _ _ _ _ _ _ = _
    unfold t20_h4
    have hlt : decide ((done.length : Int) < ((all.map oneR).length : Int)) = false := by rw [e]; simp
    rw [hlt, cond_false]
  | a :: rest, done, nb, e, h => by
    obtain ⟨ha0, ha1⟩ := hin a (by rw [e]; simp)
    obtain ⟨an, rfl⟩ : ∃ an : Nat, a = (an : Int) := ⟨a.toNat, by omega⟩
    have hlt : decide ((done.length : Int) < ((all.map oneR).length : Int)) = true := by rw [e]; simp; omega
    have hat : (all.map oneR)[done.length]? = some (oneR (an : Int)) := by rw [e]; simp
    have e1 : all = (done ++ [(an : Int)]) ++ rest := by rw [e]; simp
    have ih := s20_4 (i4 := i4) all hall hin rest (done ++ [(an : Int)]) (fun j => if j = (an : Int) then true else nb j) e1 (by
      have e3 : (fun j => (if j = (an : Int) then true else nb j) || decide (j ∈ rest)) = fun j => nb j || decide (j ∈ (an : Int) :: rest) := by
        funext j
        by_cases h1 : j = (an : Int)
        · simp [h1]
        · simp [h1]
      rw [e3]
      exact h)
    refine Goes.rec0 (s' := .h8 (setRow (rowsB rk nb) an 0 (bc true)) i4 (all.map oneR) ((all.map oneR).length : Int) (done.length : Int) z0 z1 (rk : Int) slots ins cs (L.map insR)) ?_ (fun k rec => ?_)
    · rw [rowsB_set (by omega)]
      have hl : ((done ++ [(an : Int)]).length : Int) = ((done.length + 1 : Nat) : Int) := by simp
      rw [hl] at ih
      refine ih.rec0 fun k rec => ?_
      show rec (.h4 _ _ _ _ (IntKind.i64.wrap ((done.length : Int) + 1)) _ _ _ _ _ _ _) = _
      have hd : done.length < 100 := by have := congrArg List.length e; simp at this; omega
      rw [wrap1 _ (by omega)]
    · show t20_h4 k rec _ _ _ _ _ _ _ _ _ _ _ _ = _
      unfold t20_h4
      rw [hlt, cond_true, ixR_at hat]
      show un_i [ic (an : Int)] _ = _
      rw [un_int, ixR_at (show (rowsB rk nb)[an]? = some [bc (nb (an : Int))] from rowsG_at (by omega)), un_bool, Int.toNat_natCast]

theorem s20_1 (hin : InR L rk) (hlen : L.length = rk + 1) (hs : rk < 1073741824) : ∀ (m : Nat) (nb : Int → Bool), m ≤ rk + 1 → nb (rk : Int) = true →
    Goes step20 (.h1 (rowsB rk (needs L m nb)) (-1) z0 z1 (rk : Int) slots ins cs (L.map insR)) r →
      Goes step20 (.h1 (rowsB rk nb) ((m : Int) - 1) z0 z1 (rk : Int) slots ins cs (L.map insR)) r
  | 0, nb, _, _, h => h
  | i + 1, nb, hi, ht, h => by
    have hx : L[i]? = some (L[i]'(by omega)) := List.getElem?_eq_getElem _
    generalize L[i]'(by omega) = x at hx
    have ih := s20_1 hin hlen hs i (needS L i nb) (by omega) (needS_up ht) h
    have hi4 : (((i + 1 : Nat) : Int) - 1) = (i : Int) := by omega
    rw [hi4]
    have h5 : Goes step20 (.h5 (rowsB rk (needS L i nb)) (i : Int) z0 z1 (rk : Int) slots ins cs (L.map insR)) r := by
      refine ih.rec0 fun k rec => ?_
      show rec (.h1 _ (IntKind.i64.wrap ((i : Int) - 1)) _ _ _ _ _ _ _) = _
      rw [wrap_dec i (by omega)]
    have h2 : Goes step20 (.h2 (rowsB rk nb) (i : Int) (nb (i : Int)) z0 z1 (rk : Int) slots ins cs (L.map insR)) r := by
      cases hb : nb (i : Int) with
      | false =>
        have e : needS L i nb = nb := by unfold needS; rw [hb]; simp
        rw [e] at h5
        exact h5.rec0 fun k rec => rfl
      | true =>
        have e : needS L i nb = fun j => nb j || decide (j ∈ reads x) := by unfold needS readsAt; rw [hb, hx]; simp
        rw [e] at h5
        have h4 := s20_4 (i4 := (i : Int)) (z0 := z0) (z1 := z1) (slots := slots) (ins := ins) (cs := cs) (L := L) (reads x) (reads_len x) (fun a ha => hin i x hx a ha) (reads x) [] nb rfl h5
        obtain ⟨N, hN⟩ := g34_reads x
        refine h4.rec ⟨N, fun k hk rec => ?_⟩
        show t20_h2 k rec _ _ _ _ _ _ _ _ _ _ = _
        unfold t20_h2
        rw [cond_true, ixR_at (map_at hx), un_ins, show g34 k x.op x.dst x.a x.b = _ from hN k hk]
        rfl
    refine h2.rec0 fun k rec => ?_
    show t20_h1 k rec _ _ _ _ _ _ _ _ _ = _
    unfold t20_h1
    have hge : decide ((i : Int) ≥ 0) = true := by simp
    rw [hge, cond_true]
    by_cases hr : i = rk
    · subst hr
      simp [ht]
    · have e1 : ((i : Int) == (rk : Int)) = false := by simp; omega
      rw [e1, cond_false, ixR_at (show (rowsB rk nb)[i]? = some [bc (nb (i : Int))] from rowsG_at (by omega)), un_bool]

/-! the document's -/
theorem s21_12 {i4 : Int} {c : Bool} (all : List Int) (hall : all.length < 100) (inl : Bool) :
    ∀ (rest done : List Int) (M : List (Int × Bool)), all = done ++ rest → nbM M i4 = c →
      (∀ M', nbM M' = (if c = true then fun j => nbM M j || decide (j ∈ rest) else nbM M) → Goes step21 (.h5 (esI bR M') i4 z0 z1 (rk : Int) slots ins cs (L.map insR)) r) →
      Goes step21 (if inl = true then .h1 (esI bR M) i4 (all.map oneR) ((all.map oneR).length : Int) (done.length : Int) z0 z1 (rk : Int) slots ins cs (L.map insR)
        else .h2 (esI bR M) i4 (all.map oneR) ((all.map oneR).length : Int) (done.length : Int) z0 z1 (rk : Int) slots ins cs (L.map insR)) r
  | [], done, M, e, hc, h => by
    have h' := h M (by cases c <;> simp)
    have hlt : decide ((done.length : Int) < ((all.map oneR).length : Int)) = false := by rw [e]; simp
    cases inl with
    | true =>
      rw [if_pos rfl]
      refine h'.rec0 fun k rec => ?_
      show t21_h1 k rec _ _ _ _ _ _ _ _ _ _ _ _ = _
      unfold t21_h1
      rw [hlt, cond_false]
    | false =>
      rw [if_neg (by simp)]
      refine h'.rec0 fun k rec => ?_
      show t21_h2 k rec _ _ _ _ _ _ _ _ _ _ _ _ = _
      unfold t21_h2
      rw [hlt, cond_false]
  | a :: rest, done, M, e, hc, h => by
    have hlt : decide ((done.length : Int) < ((all.map oneR).length : Int)) = true := by rw [e]; simp; omega
    have hat : (all.map oneR)[done.length]? = some (oneR a) := by rw [e]; simp
    have e1 : all = (done ++ [a]) ++ rest := by rw [e]; simp
    have hd : done.length < 100 := by have := congrArg List.length e; simp at this; omega
    have hl : ((done ++ [a]).length : Int) = ((done.length + 1 : Nat) : Int) := by simp
    obtain ⟨M1, hM1, hM2⟩ : ∃ M1, M1 = (if c = true then mputI a true M else M) ∧ nbM M1 = (if c = true then fun j => nbM M j || decide (j = a) else nbM M) := by
      refine ⟨_, rfl, ?_⟩
      cases c
      · simp
      · simp [nb_put]
    have ih := s21_12 (i4 := i4) (c := c) all hall inl rest (done ++ [a]) M1 e1 (by
      rw [hM2]; cases c
      · simpa using hc
      · simp [hc]) (fun M' hM' => h M' (by
        rw [hM', hM2]
        cases c
        · rfl
        · simp only [if_true]
          funext j
          by_cases h1 : j = a <;> simp [h1]))
    rw [hl] at ih
    cases inl with
    | true =>
      rw [if_pos rfl] at ih ⊢
      have h8 : Goes step21 (.h8 (esI bR M1) i4 (all.map oneR) ((all.map oneR).length : Int) (done.length : Int) z0 z1 (rk : Int) slots ins cs (L.map insR)) r := by
        refine ih.rec0 fun k rec => ?_
        show rec (.h1 _ _ _ _ (IntKind.i64.wrap ((done.length : Int) + 1)) _ _ _ _ _ _ _) = _
        rw [wrap1 _ (by omega)]
      have h4 : Goes step21 (.h4 (esI bR M) i4 a (all.map oneR) ((all.map oneR).length : Int) (done.length : Int) c z0 z1 (rk : Int) slots ins cs (L.map insR)) r := by
        refine h8.rec0 fun k rec => ?_
        show t21_h4 k rec _ _ _ _ _ _ _ _ _ _ _ _ _ _ = _
        unfold t21_h4
        cases c with
        | false => rw [hM1]; simp
        | true =>
          rw [cond_true, show ([bc true] : List Cell) = bR true from rfl, putI, hM1]; rfl
      refine h4.rec0 fun k rec => ?_
      show t21_h1 k rec _ _ _ _ _ _ _ _ _ _ _ _ = _
      unfold t21_h1
      rw [hlt, cond_true, ixR_at hat]
      show un_i [ic a] _ = _
      rw [un_int]
      exact (look_b M i4 _ (fun x => rec (.h4 _ _ _ _ _ _ x _ _ _ _ _ _ _)) rfl).trans (by rw [hc])
    | false =>
      rw [if_neg (by simp)] at ih ⊢
      have h8 : Goes step21 (.h9 (esI bR M1) i4 (all.map oneR) ((all.map oneR).length : Int) (done.length : Int) z0 z1 (rk : Int) slots ins cs (L.map insR)) r := by
        refine ih.rec0 fun k rec => ?_
        show rec (.h2 _ _ _ _ (IntKind.i64.wrap ((done.length : Int) + 1)) _ _ _ _ _ _ _) = _
        rw [wrap1 _ (by omega)]
      have h4 : Goes step21 (.h6 (esI bR M) i4 a (all.map oneR) ((all.map oneR).length : Int) (done.length : Int) c z0 z1 (rk : Int) slots ins cs (L.map insR)) r := by
        refine h8.rec0 fun k rec => ?_
        show t21_h6 k rec _ _ _ _ _ _ _ _ _ _ _ _ _ _ = _
        unfold t21_h6
        cases c with
        | false => rw [hM1]; simp
        | true =>
          rw [cond_true, show ([bc true] : List Cell) = bR true from rfl, putI, hM1]; rfl
      refine h4.rec0 fun k rec => ?_
      show t21_h2 k rec _ _ _ _ _ _ _ _ _ _ _ _ = _
      unfold t21_h2
      rw [hlt, cond_true, ixR_at hat]
      show un_i [ic a] _ = _
      rw [un_int]
      exact (look_b M i4 _ (fun x => rec (.h6 _ _ _ _ _ _ x _ _ _ _ _ _ _)) rfl).trans (by rw [hc])

theorem s21_0 (hlen : L.length = rk + 1) (hs : rk < 1073741824) : ∀ (m : Nat) (M : List (Int × Bool)), m ≤ rk + 1 →
    (∀ M', nbM M' = needs L m (nbM M) → Goes step21 (.h0 (esI bR M') (-1) z0 z1 (rk : Int) slots ins cs (L.map insR)) r) →
      Goes step21 (.h0 (esI bR M) ((m : Int) - 1) z0 z1 (rk : Int) slots ins cs (L.map insR)) r
  | 0, M, _, h => h M rfl
  | i + 1, M, hi, h => by
    have hx : L[i]? = some (L[i]'(by omega)) := List.getElem?_eq_getElem _
    generalize L[i]'(by omega) = x at hx
    have hi4 : (((i + 1 : Nat) : Int) - 1) = (i : Int) := by omega
    rw [hi4]
    have ih : ∀ M1, nbM M1 = needS L i (nbM M) → Goes step21 (.h0 (esI bR M1) ((i : Int) - 1) z0 z1 (rk : Int) slots ins cs (L.map insR)) r := fun M1 h1 =>
      s21_0 hlen hs i M1 (by omega) fun M' hM' => h M' (by rw [hM', h1]; rfl)
    have inner : ∀ inl : Bool, Goes step21 (if inl = true then .h1 (esI bR M) (i : Int) ((reads x).map oneR) (((reads x).map oneR).length : Int) (([] : List Int).length : Int) z0 z1 (rk : Int) slots ins cs (L.map insR)
        else .h2 (esI bR M) (i : Int) ((reads x).map oneR) (((reads x).map oneR).length : Int) (([] : List Int).length : Int) z0 z1 (rk : Int) slots ins cs (L.map insR)) r := fun inl =>
      s21_12 (reads x) (reads_len x) inl (reads x) [] M rfl rfl fun M' hM' => by
        refine (ih M' ?_).rec0 fun k rec => ?_
        · rw [hM']; unfold needS readsAt; rw [hx]
        · show rec (.h0 _ (IntKind.i64.wrap ((i : Int) - 1)) _ _ _ _ _ _ _) = _
          rw [wrap_dec i (by omega)]
    obtain ⟨N, hN⟩ := g33_reads x
    have hge : decide ((i : Int) ≥ 0) = true := by simp
    by_cases h52 : x.op = 52
    · refine (inner true).rec ⟨N, fun k hk rec => ?_⟩
      show t21_h0 k rec _ _ _ _ _ _ _ _ _ = _
      unfold t21_h0
      rw [hge, cond_true, ixR_at (map_at hx), un_ins, show g33 k x.op x.dst x.a x.b = _ from hN k hk, if_pos h52]
      rfl
    · refine (inner false).rec ⟨N, fun k hk rec => ?_⟩
      show t21_h0 k rec _ _ _ _ _ _ _ _ _ = _
      unfold t21_h0
      rw [hge, cond_true, ixR_at (map_at hx), un_ins, show g33 k x.op x.dst x.a x.b = _ from hN k hk, if_neg h52]
      rfl
end
end Ab
end Go.Proofs.Ytebmcaceklbopaa

/-
  ExprTells' law: trees as data; Same, Nodes and Twin of both.
-/
import Derived.Test.YtfekohpjaafnhaaDoorEx1q
set_option linter.unusedVariables false
set_option linter.unusedSimpArgs false
set_option linter.unusedSectionVars false
namespace Go.Proofs.YtfekohpjaafnhaaDoor
namespace Ab
def Tot {α : Type} (f : Nat → Option α) (r : α) : Prop := ∃ N, ∀ k, N ≤ k → f k = some r
def Goes {S R : Type} (step : Nat → (S → Option R) → S → Option R) (s : S) (r : R) : Prop := Tot (fun k => itS step k s) r
theorem Goes.rec {S R : Type} {step : Nat → (S → Option R) → S → Option R} {s s' : S} {r : R} (h : Goes step s' r) (e : ∃ N, ∀ k, N ≤ k → ∀ rec, step k rec s = rec s') : Goes step s r := by
  obtain ⟨N, hN⟩ := h
  obtain ⟨M, hM⟩ := e
  refine ⟨max N M + 1, fun k hk => ?_⟩
  obtain ⟨j, rfl⟩ : ∃ j, k = j + 1 := ⟨k - 1, by omega⟩
  show step j (itS step j) s = some r
  rw [hM j (by omega)]
  exact hN j (by omega)
theorem Goes.rec0 {S R : Type} {step : Nat → (S → Option R) → S → Option R} {s s' : S} {r : R} (h : Goes step s' r) (e : ∀ k rec, step k rec s = rec s') : Goes step s r := h.rec ⟨0, fun k _ => e k⟩
theorem Goes.fin0 {S R : Type} {step : Nat → (S → Option R) → S → Option R} {s : S} {r : R} (e : ∀ k rec, step k rec s = some r) : Goes step s r :=
  ⟨1, fun k hk => by obtain ⟨j, rfl⟩ : ∃ j, k = j + 1 := ⟨k - 1, by omega⟩; exact e j _⟩
theorem Goes.self {S R : Type} {step : Nat → (S → Option R) → S → Option R} {s s1 s' : S} {r1 r : R} (h1 : Goes step s1 r1) (h : Goes step s' r) (e : ∀ k rec, rec s1 = some r1 → step k rec s = rec s') : Goes step s r := by
  obtain ⟨N, hN⟩ := h1
  obtain ⟨M, hM⟩ := h
  refine ⟨max N M + 1, fun k hk => ?_⟩
  obtain ⟨j, rfl⟩ : ∃ j, k = j + 1 := ⟨k - 1, by omega⟩
  show step j (itS step j) s = some r
  rw [e j (itS step j) (hN j (by omega))]
  exact hM j (by omega)
theorem Goes.selfFin {S R : Type} {step : Nat → (S → Option R) → S → Option R} {s s1 : S} {r1 r : R} (h1 : Goes step s1 r1) (e : ∀ k rec, rec s1 = some r1 → step k rec s = some r) : Goes step s r := by
  obtain ⟨N, hN⟩ := h1
  refine ⟨N + 1, fun k hk => ?_⟩
  obtain ⟨j, rfl⟩ : ∃ j, k = j + 1 := ⟨k - 1, by omega⟩
  exact e j (itS step j) (hN j (by omega))
theorem tot_deep {α : Type} {f : Nat → Option α} {r : α} (N : Nat) (h : ∀ j, f (j + N) = some r) : Tot f r :=
  ⟨N, fun k hk => by obtain ⟨j, rfl⟩ : ∃ j, k = j + N := ⟨k - N, by omega⟩; exact h j⟩
theorem ixR_at {α : Type} {rows : Rs} {i : Nat} {row : List Cell} (h : rows[i]? = some row) (k : List Cell → Option α) : ixR rows (i : Int) k = k row := by
  have : decide ((0 : Int) ≤ (i : Int)) = true := by simp
  simp [ixR, h]
theorem wrap1 (i : Nat) (h : i < 4611686018427387904) : IntKind.i64.wrap ((i : Int) + 1) = ((i + 1 : Nat) : Int) := by rw [IntKind.wrap_i64]; omega
theorem wrapA (i j : Nat) (h : i + j < 4611686018427387904) : IntKind.i64.wrap ((i : Int) + (j : Int)) = ((i + j : Nat) : Int) := by rw [IntKind.wrap_i64]; omega
theorem ltT {a b : Nat} (h : a < b) : decide ((a : Int) < (b : Int)) = true := decide_eq_true (by omega)
theorem ltF {a b : Nat} (h : ¬ a < b) : decide ((a : Int) < (b : Int)) = false := decide_eq_false (by omega)
theorem gd_true {α : Type} (x : Option α) : gd true x = x := rfl
inductive Ex where
  | mk (op : Int) (args : List Ex) (n scale : Int) (name attr : ByteArray) (pos : Int)
mutual
def exRow : Ex → List Cell
  | .mk op args n scale name attr pos => [ic op, .imm (exRows args), ic n, ic scale, sc name, sc attr, ic pos]
def exRows : List Ex → Rs
  | [] => []
  | n :: l => exRow n :: exRows l
end
mutual
def cnt : Ex → Nat
  | .mk _ args _ _ _ _ _ => cnts args + 1
def cnts : List Ex → Nat
  | [] => 0
  | n :: l => cnt n + cnts l
end
mutual
def sameX : Ex → Ex → Bool
  | .mk o gs n s nm am _, .mk o' gs' n' s' nm' am' _ => !(o != o' || (n != n' || (s != s' || (!(nm.toList == nm'.toList) || (!(am.toList == am'.toList) || ((gs.length : Int) != (gs'.length : Int))))))) && samesX gs gs'
def samesX : List Ex → List Ex → Bool
  | a :: l, b :: m => sameX a b && samesX l m
  | [], _ => true
  | _ :: _, [] => true
end
def Ex.op : Ex → Int
  | .mk x _ _ _ _ _ _ => x
def Ex.args : Ex → List Ex
  | .mk _ x _ _ _ _ _ => x
def Ex.n : Ex → Int
  | .mk _ _ x _ _ _ _ => x
def Ex.scale : Ex → Int
  | .mk _ _ _ x _ _ _ => x
def Ex.name : Ex → ByteArray
  | .mk _ _ _ _ x _ _ => x
def Ex.attr : Ex → ByteArray
  | .mk _ _ _ _ _ x _ => x
def Ex.pos : Ex → Int
  | .mk _ _ _ _ _ _ x => x
def hdX (a b : Ex) : Bool := a.op != b.op || (a.n != b.n || (a.scale != b.scale || (!(a.name.toList == b.name.toList) || (!(a.attr.toList == b.attr.toList) || ((a.args.length : Int) != (b.args.length : Int))))))
theorem sameX_eq (a b : Ex) : sameX a b = (!(hdX a b) && samesX a.args b.args) := by cases a; cases b; rw [sameX]; rfl
theorem exRow_eq (n : Ex) : exRow n = [ic n.op, .imm (exRows n.args), ic n.n, ic n.scale, sc n.name, sc n.attr, ic n.pos] := by cases n; rfl
theorem exRows_len : ∀ (l : List Ex), (exRows l).length = l.length
  | [] => rfl
  | n :: l => by simp [exRows, exRows_len l]
theorem exRows_get : ∀ (l : List Ex) (i : Nat), (exRows l)[i]? = (l[i]?).map exRow
  | [], i => by simp [exRows]
  | n :: l, 0 => rfl
  | n :: l, i + 1 => by simp [exRows, exRows_get l i]
theorem ex_at {l : List Ex} {i : Nat} {n : Ex} (h : l[i]? = some n) : (exRows l)[i]? = some (exRow n) := by rw [exRows_get, h]; rfl
theorem un_ex {α : Type} (n : Ex) (k : Int → Rs → Int → Int → ByteArray → ByteArray → Int → Option α) : un_imiissi (exRow n) k = k n.op (exRows n.args) n.n n.scale n.name n.attr n.pos := by cases n; rfl
theorem cnt_args (n : Ex) : cnts n.args + 1 = cnt n := by cases n; rfl
theorem cnts_get {l : List Ex} {i : Nat} {n : Ex} (h : l[i]? = some n) : cnt n ≤ cnts l := by
  induction l generalizing i with
  | nil => simp at h
  | cons m l ih =>
    cases i with
    | zero => simp at h; subst h; simp [cnts]
    | succ i => have := ih (by simpa using h); simp only [cnts]; omega
theorem cnts_len (l : List Ex) : l.length ≤ cnts l := by
  induction l with
  | nil => simp [cnts]
  | cons n l ih => cases n; simp only [cnts, cnt, List.length_cons]; omega
theorem cnts_drop {l : List Ex} {i : Nat} {n : Ex} (h : l[i]? = some n) : cnts (l.drop i) = cnt n + cnts (l.drop (i + 1)) := by
  have hi := (List.getElem?_eq_some_iff.1 h).1
  rw [List.drop_eq_getElem_cons hi]
  have : l[i] = n := (List.getElem?_eq_some_iff.1 h).2
  rw [this, cnts]
theorem immC_exRow : ∀ n : Ex, (exRow n).map immC = exRow n
  | .mk _ _ _ _ _ _ _ => rfl
theorem imm_exRows : ∀ l : List Ex, immRs (exRows l) = exRows l
  | [] => rfl
  | n :: l => by
    have h1 := immC_exRow n
    have h2 := imm_exRows l
    rw [immRs_eq] at *
    simp only [exRows, List.map_cons, h1, h2]
theorem exRows_app (l m : List Ex) : exRows (l ++ m) = exRows l ++ exRows m := by
  induction l with
  | nil => rfl
  | cons a l ih => simp only [List.cons_append, exRows, ih]
mutual
theorem sameX_refl : ∀ a : Ex, sameX a a = true
  | .mk o gs n s nm am p => by
    rw [sameX, samesX_refl gs]
    simp
theorem samesX_refl : ∀ l : List Ex, samesX l l = true
  | [] => by rw [samesX]
  | a :: l => by rw [samesX, sameX_refl a, samesX_refl l]; rfl
end
section
variable [Laid3]
theorem g8_go : ∀ (m : Nat) (a b : Ex), cnt a ≤ m → cnt a < 4000000000 → Goes step8 (.e a.op (exRows a.args) a.n a.scale a.name a.attr a.pos b.op (exRows b.args) b.n b.scale b.name b.attr b.pos) (sameX a b)
  | 0, a, b, h, _ => by have := cnt_args a; omega
  | m + 1, a, b, h, hc => by
    have hca := cnt_args a
    have hlen := cnts_len a.args
    have loop : ∀ (j i : Nat), a.args.length - i = j → a.args.length = b.args.length → Goes step8 (.h1 (a.args.length : Int) (i : Int) b.op (exRows b.args) b.n b.scale b.name b.attr b.pos a.op (exRows a.args) a.n a.scale a.name a.attr a.pos) (samesX (a.args.drop i) (b.args.drop i)) := by
      intro j
      induction j with
      | zero =>
        intro i hi hl
        rw [List.drop_eq_nil_of_le (by omega)]
        refine .fin0 fun k rec => ?_
        simp only [step8, t8_h1, ltF (show ¬ i < a.args.length by omega), cond_false, samesX]
      | succ j ih =>
        intro i hi hl
        have h1 : i < a.args.length := by omega
        have h2 : i < b.args.length := by omega
        have e1 := List.getElem?_eq_getElem h1
        have e2 := List.getElem?_eq_getElem h2
        rw [List.drop_eq_getElem_cons h1, List.drop_eq_getElem_cons h2, samesX]
        generalize a.args[i] = x at e1
        generalize b.args[i] = y at e2
        have hx := cnts_get e1
        have self := g8_go m x y (by omega) (by omega)
        cases hv : sameX x y with
        | true =>
          rw [hv] at self
          refine Goes.self self (ih (i + 1) (by omega) hl) fun k rec e => ?_
          simp only [step8, t8_h1, ltT h1, cond_true, ixR_at (ex_at e1), ixR_at (ex_at e2), un_ex, e, Option.bind_some, Bool.not_true, cond_false, wrap1 i (by omega)]
        | false =>
          rw [hv] at self
          refine Goes.selfFin self fun k rec e => ?_
          simp only [step8, t8_h1, ltT h1, cond_true, ixR_at (ex_at e1), ixR_at (ex_at e2), un_ex, e, Option.bind_some, Bool.not_false, cond_true]
          rfl
    have h0 : Goes step8 (.h0 (hdX a b) b.op (exRows b.args) b.n b.scale b.name b.attr b.pos a.op (exRows a.args) a.n a.scale a.name a.attr a.pos) (sameX a b) := by
      rw [sameX_eq]
      cases hh : hdX a b with
      | true => exact .fin0 fun k rec => rfl
      | false =>
        have hl : a.args.length = b.args.length := by
          unfold hdX at hh
          simp only [Bool.or_eq_false_iff] at hh
          have := hh.2.2.2.2.2
          rw [bne_eq_false_iff_eq] at this
          omega
        refine Goes.rec0 (loop _ 0 rfl hl) fun k rec => ?_
        simp only [step8, t8_h0, cond_false, exRows_len]
        rfl
    refine Goes.rec0 h0 fun k rec => ?_
    simp only [step8, t8_e, exRows_len, hdX]
    cases (a.op != b.op) <;> cases (a.n != b.n) <;> cases (a.scale != b.scale) <;> cases (!(a.name.toList == b.name.toList)) <;> cases (!(a.attr.toList == b.attr.toList)) <;> rfl
theorem g9_go : ∀ (m : Nat) (a b : Ex), cnt a ≤ m → cnt a < 4000000000 → Goes step9 (.e a.op (exRows a.args) a.n a.scale a.name a.attr a.pos b.op (exRows b.args) b.n b.scale b.name b.attr b.pos false) (sameX a b)
  | 0, a, b, h, _ => by have := cnt_args a; omega
  | m + 1, a, b, h, hc => by
    have hca := cnt_args a
    have hlen := cnts_len a.args
    have loop : ∀ (j i : Nat), a.args.length - i = j → a.args.length = b.args.length → Goes step9 (.h1 false (a.args.length : Int) (i : Int) b.op (exRows b.args) b.n b.scale b.name b.attr b.pos a.op (exRows a.args) a.n a.scale a.name a.attr a.pos) (samesX (a.args.drop i) (b.args.drop i)) := by
      intro j
      induction j with
      | zero =>
        intro i hi hl
        rw [List.drop_eq_nil_of_le (by omega)]
        refine .fin0 fun k rec => ?_
        simp only [step9, t9_h1, ltF (show ¬ i < a.args.length by omega), cond_false, samesX]
      | succ j ih =>
        intro i hi hl
        have h1 : i < a.args.length := by omega
        have h2 : i < b.args.length := by omega
        have e1 := List.getElem?_eq_getElem h1
        have e2 := List.getElem?_eq_getElem h2
        rw [List.drop_eq_getElem_cons h1, List.drop_eq_getElem_cons h2, samesX]
        generalize a.args[i] = x at e1
        generalize b.args[i] = y at e2
        have hx := cnts_get e1
        have self := g9_go m x y (by omega) (by omega)
        cases hv : sameX x y with
        | true =>
          rw [hv] at self
          refine Goes.self self (ih (i + 1) (by omega) hl) fun k rec e => ?_
          simp only [step9, t9_h1, ltT h1, cond_true, ixR_at (ex_at e1), ixR_at (ex_at e2), un_ex, e, Option.bind_some, Bool.not_true, cond_false, wrap1 i (by omega)]
        | false =>
          rw [hv] at self
          refine Goes.selfFin self fun k rec e => ?_
          simp only [step9, t9_h1, ltT h1, cond_true, ixR_at (ex_at e1), ixR_at (ex_at e2), un_ex, e, Option.bind_some, Bool.not_false, cond_true]
          rfl
    have h0 : Goes step9 (.h0 false (hdX a b) b.op (exRows b.args) b.n b.scale b.name b.attr b.pos a.op (exRows a.args) a.n a.scale a.name a.attr a.pos) (sameX a b) := by
      rw [sameX_eq]
      cases hh : hdX a b with
      | true => exact .fin0 fun k rec => rfl
      | false =>
        have hl : a.args.length = b.args.length := by
          unfold hdX at hh
          simp only [Bool.or_eq_false_iff] at hh
          have := hh.2.2.2.2.2
          rw [bne_eq_false_iff_eq] at this
          omega
        refine Goes.rec0 (loop _ 0 rfl hl) fun k rec => ?_
        simp only [step9, t9_h0, cond_false, exRows_len]
        rfl
    refine Goes.rec0 h0 fun k rec => ?_
    simp only [step9, t9_e, exRows_len, hdX]
    cases (a.op != b.op) <;> cases (a.n != b.n) <;> cases (a.scale != b.scale) <;> cases (!(a.name.toList == b.name.toList)) <;> cases (!(a.attr.toList == b.attr.toList)) <;> cases ((a.args.length : Int) != (b.args.length : Int)) <;> rfl
theorem g10_go : ∀ (m : Nat) (a : Ex), cnt a ≤ m → cnt a < 4000000000 → Goes step10 (.e a.op (exRows a.args) a.n a.scale a.name a.attr a.pos) (cnt a : Int)
  | 0, a, h, _ => by have := cnt_args a; omega
  | m + 1, a, h, hc => by
    have hca := cnt_args a
    have hlen := cnts_len a.args
    have loop : ∀ (j i : Nat) (c : Nat), a.args.length - i = j → c + cnts (a.args.drop i) = cnt a → Goes step10 (.h0 (c : Int) (exRows a.args) (a.args.length : Int) (i : Int)) (cnt a : Int) := by
      intro j
      induction j with
      | zero =>
        intro i c hi hs
        rw [List.drop_eq_nil_of_le (by omega), cnts, Nat.add_zero] at hs
        subst hs
        refine .fin0 fun k rec => ?_
        simp only [step10, t10_h0, ltF (show ¬ i < a.args.length by omega), cond_false]
      | succ j ih =>
        intro i c hi hs
        have h1 : i < a.args.length := by omega
        have e1 := List.getElem?_eq_getElem h1
        generalize a.args[i] = x at e1
        have hx := cnts_get e1
        have hd := cnts_drop e1
        refine Goes.self (g10_go m x (by omega) (by omega)) (ih (i + 1) (c + cnt x) (by omega) (by omega)) fun k rec e => ?_
        simp only [step10, t10_h0, ltT h1, cond_true, ixR_at (ex_at e1), un_ex, e, Option.bind_some, wrap1 i (by omega), wrapA c (cnt x) (by omega)]
    refine Goes.rec0 (loop _ 0 1 rfl (by rw [List.drop_zero]; omega)) fun k rec => ?_
    simp only [step10, t10_e, exRows_len]
    rfl
theorem g11_go : ∀ (m : Nat) (a : Ex), cnt a ≤ m → cnt a < 4000000000 → Goes step11 (.e a.op (exRows a.args) a.n a.scale a.name a.attr a.pos) (cnt a : Int)
  | 0, a, h, _ => by have := cnt_args a; omega
  | m + 1, a, h, hc => by
    have hca := cnt_args a
    have hlen := cnts_len a.args
    have loop : ∀ (j i : Nat) (c : Nat), a.args.length - i = j → c + cnts (a.args.drop i) = cnt a → Goes step11 (.h0 (c : Int) (a.args.length : Int) (i : Int) a.op (exRows a.args) a.n a.scale a.name a.attr a.pos) (cnt a : Int) := by
      intro j
      induction j with
      | zero =>
        intro i c hi hs
        rw [List.drop_eq_nil_of_le (by omega), cnts, Nat.add_zero] at hs
        subst hs
        refine .fin0 fun k rec => ?_
        simp only [step11, t11_h0, ltF (show ¬ i < a.args.length by omega), cond_false]
      | succ j ih =>
        intro i c hi hs
        have h1 : i < a.args.length := by omega
        have e1 := List.getElem?_eq_getElem h1
        generalize a.args[i] = x at e1
        have hx := cnts_get e1
        have hd := cnts_drop e1
        refine Goes.self (g11_go m x (by omega) (by omega)) (ih (i + 1) (c + cnt x) (by omega) (by omega)) fun k rec e => ?_
        simp only [step11, t11_h0, ltT h1, cond_true, ixR_at (ex_at e1), un_ex, e, Option.bind_some, wrap1 i (by omega), wrapA c (cnt x) (by omega)]
    refine Goes.rec0 (loop _ 0 1 rfl (by rw [List.drop_zero]; omega)) fun k rec => ?_
    simp only [step11, t11_e, exRows_len]
    rfl
theorem ap_ok {acc : Rs} {row : List Cell} (h1 : acc.length < 4000000000) (h2 : row.length = 7) : apOk 88 7 acc [row] = true := by
  unfold apOk
  simp [h2, lim]
  omega
theorem g12_go : ∀ (m : Nat) (a : Ex), cnt a ≤ m → cnt a < 1000000000 → Goes step12 (.e a.op (exRows a.args) a.n a.scale a.name a.attr a.pos) (a.op, exRows a.args, a.n, a.scale, a.name, a.attr, a.pos)
  | 0, a, h, _ => by have := cnt_args a; omega
  | m + 1, a, h, hc => by
    have hca := cnt_args a
    have hlen := cnts_len a.args
    have loop : ∀ (j i : Nat), a.args.length - i = j → i ≤ a.args.length → Goes step12 (.h0 (exRows (a.args.take i)) (a.args.length : Int) (i : Int) 0 0 0 (strB []) (strB []) 0 a.op (exRows a.args) a.n a.scale a.name a.attr a.pos) (a.op, exRows a.args, a.n, a.scale, a.name, a.attr, a.pos) := by
      intro j
      induction j with
      | zero =>
        intro i hi hl
        rw [List.take_of_length_le (by omega)]
        refine .fin0 fun k rec => ?_
        simp only [step12, t12_h0, ltF (show ¬ i < a.args.length by omega), cond_false, imm_exRows]
      | succ j ih =>
        intro i hi hl
        have h1 : i < a.args.length := by omega
        have e1 := List.getElem?_eq_getElem h1
        have ht : a.args.take (i + 1) = a.args.take i ++ [a.args[i]] := (List.take_append_getElem h1).symm
        have ih' := ih (i + 1) (by omega) (by omega)
        rw [ht, exRows_app] at ih'
        generalize a.args[i] = x at e1 ih'
        have hx := cnts_get e1
        have hr : exRows [x] = [[ic x.op, .imm (exRows x.args), ic x.n, ic x.scale, sc x.name, sc x.attr, ic x.pos]] := by rw [exRows, exRow_eq]; rfl
        rw [hr] at ih'
        refine Goes.self (g12_go m x (by omega) (by omega)) ih' fun k rec e => ?_
        simp only [step12, t12_h0, ltT h1, cond_true, ixR_at (ex_at e1), un_ex, e, Option.bind_some, wrap1 i (by omega), tup7]
        rw [ap_ok (by rw [exRows_len, List.length_take]; omega) rfl, gd_true]
    refine Goes.rec0 (loop _ 0 rfl (Nat.zero_le _)) fun k rec => ?_
    simp only [step12, t12_e, exRows_len]
    rfl
theorem tells_true (a b : Ex) (ha : cnt a < 1000000000) : Tot (fun k => g3 k a.op (exRows a.args) a.n a.scale a.name a.attr a.pos b.op (exRows b.args) b.n b.scale b.name b.attr b.pos) true := by
  obtain ⟨N1, h1⟩ := g8_go _ a b (Nat.le_refl _) (by omega)
  obtain ⟨N2, h2⟩ := g9_go _ a b (Nat.le_refl _) (by omega)
  obtain ⟨N3, h3⟩ := g10_go _ a (Nat.le_refl _) (by omega)
  obtain ⟨N4, h4⟩ := g11_go _ a (Nat.le_refl _) (by omega)
  obtain ⟨N5, h5⟩ := g12_go _ a (Nat.le_refl _) ha
  obtain ⟨N6, h6⟩ := g8_go _ a a (Nat.le_refl _) (by omega)
  rw [sameX_refl] at h6
  obtain ⟨N7, h7⟩ := tot_deep (f := fun k => g7 k) (r := true) 100 awk
  refine ⟨N1 + N2 + N3 + N4 + N5 + N6 + N7 + 1, fun k hk => ?_⟩
  obtain ⟨j, rfl⟩ : ∃ j, k = j + 1 := ⟨k - 1, by omega⟩
  have h1 : g8 j a.op (exRows a.args) a.n a.scale a.name a.attr a.pos b.op (exRows b.args) b.n b.scale b.name b.attr b.pos = _ := h1 j (by omega)
  have h2 : g9 j a.op (exRows a.args) a.n a.scale a.name a.attr a.pos b.op (exRows b.args) b.n b.scale b.name b.attr b.pos false = _ := h2 j (by omega)
  have h3 : g10 j a.op (exRows a.args) a.n a.scale a.name a.attr a.pos = _ := h3 j (by omega)
  have h4 : g11 j a.op (exRows a.args) a.n a.scale a.name a.attr a.pos = _ := h4 j (by omega)
  have h5 : g12 j a.op (exRows a.args) a.n a.scale a.name a.attr a.pos = _ := h5 j (by omega)
  have h6 : g8 j a.op (exRows a.args) a.n a.scale a.name a.attr a.pos a.op (exRows a.args) a.n a.scale a.name a.attr a.pos = _ := h6 j (by omega)
  have h7 : g7 j = _ := h7 j (by omega)
  show t3_e j (itS step3 j) a.op (exRows a.args) a.n a.scale a.name a.attr a.pos b.op (exRows b.args) b.n b.scale b.name b.attr b.pos = some true
  simp only [t3_e, h1, h2, h3, h4, h5, h6, h7, Option.bind_some, cond_true, beq_self_eq_true, tup7]
end
end Ab
end Go.Proofs.YtfekohpjaafnhaaDoor

/-
  Twins; rows of numbers that are alike.
-/
import Derived.Test.YtgghingfdcmelaaGreatA0
set_option linter.unusedVariables false
set_option linter.unusedSimpArgs false
namespace Go.Proofs.YtgghingfdcmelaaGreat
namespace Ab

structure Br where
  t : Int
  g : List Nd
structure En where
  b : Int
  c : List Nd
  r : List Br
structure Sa where
  p : Int
  t : Int
  m : Bool
  w : Int
  b : List Br
  l : List Nd
  g : List Nd
  e : List En
def brR (x : Br) : List Cell := [ic x.t, .imm (ndRows x.g)]
def enR (x : En) : List Cell := [ic x.b, .imm (ndRows x.c), .imm (x.r.map brR)]
def saR (x : Sa) : List Cell := [ic x.p, ic x.t, bc x.m, ic x.w, .imm (x.b.map brR), .imm (ndRows x.l), .imm (ndRows x.g), .imm (x.e.map enR)]
theorem un_br {α : Type} (x : Br) (k : Int → Rs → Option α) : un_im (brR x) k = k x.t (ndRows x.g) := rfl
theorem un_en {α : Type} (x : En) (k : Int → Rs → Rs → Option α) : un_imm (enR x) k = k x.b (ndRows x.c) (x.r.map brR) := rfl
theorem un_sa {α : Type} (x : Sa) (k : Int → Int → Bool → Int → Rs → Rs → Rs → Rs → Option α) : un_iibim4 (saR x) k = k x.p x.t x.m x.w (x.b.map brR) (ndRows x.l) (ndRows x.g) (x.e.map enR) := rfl
theorem imm_map {α : Type} {f : α → List Cell} (hf : ∀ x, (f x).map immC = f x) (l : List α) : immRs (l.map f) = l.map f := by
  rw [immRs_eq, List.map_map]
  apply List.map_congr_left
  intro x _
  exact hf x
theorem imm_br (l : List Br) : immRs (l.map brR) = l.map brR := imm_map (fun _ => rfl) l
theorem imm_en (l : List En) : immRs (l.map enR) = l.map enR := imm_map (fun _ => rfl) l
theorem imm_sa (l : List Sa) : immRs (l.map saR) = l.map saR := imm_map (fun _ => rfl) l
/-- not too much of it. -/
def okBr (x : Br) : Prop := cnts x.g < 1048577
def okBrs (l : List Br) : Prop := l.length < 1048577 ∧ ∀ x ∈ l, okBr x
def okEn (x : En) : Prop := cnts x.c < 1048577 ∧ okBrs x.r
def okEns (l : List En) : Prop := l.length < 536870912 ∧ ∀ x ∈ l, okEn x
def okSa (x : Sa) : Prop := okBrs x.b ∧ cnts x.l < 1048577 ∧ cnts x.g < 1048577 ∧ okEns x.e
def okSas (l : List Sa) : Prop := l.length < 1048577 ∧ ∀ x ∈ l, okSa x
theorem ap_ok {by_ sz : Nat} {rows : Rs} {row : List Cell} (hb : by_ ≤ 1024) (hs : 0 < sz) (h : rows.length < 1073741824) (hr : row.length = sz) : apOk by_ sz rows [row] = true := by
  have h1 : (rows.length + 1) * by_ ≤ 1073741824 * 1024 := Nat.mul_le_mul (by omega) hb
  simp [apOk, hr, lim, hs]
  omega
theorem gd_true {α : Type} (x : Option α) : gd true x = x := rfl
theorem g20_loop (l : List Nd) (hP : ∀ n ∈ l, Goes step20 (.e (ndRows n.args)) (ndRows n.args)) (hb : l.length < 1048577) :
    ∀ (m i : Nat), i + m = l.length → Goes step20 (.h0 (ndRows (l.take i)) (ndRows l) (l.length : Int) (i : Int)) (ndRows l)
  | 0, i, hi => by
    refine Goes.fin0 fun k rec => ?_
    have hlt : decide ((i : Int) < (l.length : Int)) = false := by simp; omega
    show t20_h0 k rec _ _ _ _ = _
    unfold t20_h0
    rw [hlt, List.take_of_length_le (by omega)]; rfl
  | m + 1, i, hi => by
    have hx : l[i]? = some (l[i]'(by omega)) := List.getElem?_eq_getElem _
    generalize l[i]'(by omega) = n at hx
    have ih := g20_loop l hP hb m (i + 1) (by omega)
    have hlt : decide ((i : Int) < (l.length : Int)) = true := by simp; omega
    refine (hP n (List.mem_of_getElem? hx)).self ih fun k rec hr => ?_
    show t20_h0 k rec _ _ _ _ = _
    unfold t20_h0
    rw [hlt, cond_true, ixR_at (nd_at hx), un_nd, hr]
    have hw := wrap1 i (by omega)
    have hap : ∀ row : List Cell, row.length = 7 → apOk 72 7 (ndRows (l.take i)) [row] = true := by
      intro row hr
      have : (ndRows (l.take i)).length ≤ 1048576 := by rw [ndRows_len, List.length_take]; omega
      simp [apOk, hr, lim]
      omega
    have htake : ndRows (l.take i) ++ [ndRow n] = ndRows (l.take (i + 1)) := by
      have : ∀ (a b : List Nd), ndRows (a ++ b) = ndRows a ++ ndRows b := by
        intro a b
        induction a with
        | nil => rfl
        | cons x a ih => simp [ndRows, ih]
      rw [List.take_add_one, hx, this]; rfl
    simp only [Option.bind_some, imm_ndRows]
    rw [hap _ rfl]
    simp only [gd, cond_true, hw, ← ndRow_eq, htake]
mutual
theorem g20_args : ∀ (n : Nd), cnt n < 1048577 → Goes step20 (.e (ndRows n.args)) (ndRows n.args)
  | .mk op kind args vk vb pos attr, hb => g20_list args (by simp only [cnt] at hb; omega)
theorem g20_list : ∀ (l : List Nd), cnts l < 1048577 → Goes step20 (.e (ndRows l)) (ndRows l)
  | l, hb => by
    have h := g20_loop l (g20_all l hb) (by have := cnts_len l; omega) l.length 0 (by omega)
    refine h.rec0 fun k rec => ?_
    show t20_e k rec (ndRows l) = _
    unfold t20_e
    rw [ndRows_len]; rfl
theorem g20_all : ∀ (l : List Nd), cnts l < 1048577 → ∀ n ∈ l, Goes step20 (.e (ndRows n.args)) (ndRows n.args)
  | [], _, n, hn => by cases hn
  | m :: l, hb, n, hn => by
    simp only [cnts] at hb
    rcases List.mem_cons.1 hn with h | h
    · rw [h]; exact g20_args m (by omega)
    · exact g20_all l (by omega) n h
end

theorem g19_loop (l : List Br) (hb : okBrs l) : ∀ (m i : Nat), i + m = l.length → Goes step19 (.h0 ((l.take i).map brR) (l.map brR) (l.length : Int) (i : Int)) (l.map brR)
  | 0, i, hi => by
    refine Goes.fin0 fun k rec => ?_
    have hlt : decide ((i : Int) < (l.length : Int)) = false := by simp; omega
    show t19_h0 k rec _ _ _ _ = _
    unfold t19_h0
    rw [hlt, List.take_of_length_le (by omega)]; rfl
  | m + 1, i, hi => by
    have hx : l[i]? = some (l[i]'(by omega)) := List.getElem?_eq_getElem _
    generalize l[i]'(by omega) = n at hx
    have ih := g19_loop l hb m (i + 1) (by omega)
    have hlt : decide ((i : Int) < (l.length : Int)) = true := by simp; omega
    have hl := hb.1
    obtain ⟨N, hN⟩ := Tot.of_goes (g20_list n.g (hb.2 n (List.mem_of_getElem? hx)))
    refine ih.rec ⟨N, fun k hk rec => ?_⟩
    show t19_h0 k rec _ _ _ _ = _
    unfold t19_h0
    have h13 : g20 k (ndRows n.g) = some (ndRows n.g) := hN k hk
    have hap : apOk 32 2 ((l.take i).map brR) [brR n] = true := ap_ok (by decide) (by decide) (by rw [List.length_map, List.length_take]; omega) rfl
    rw [hlt, cond_true, ixR_at (map_at hx), un_br, h13, Option.bind_some, imm_ndRows]
    show gd (apOk 32 2 ((l.take i).map brR) [brR n]) _ = _
    rw [hap, gd_true, wrap1 i (by omega), List.take_add_one, hx]
    show rec (.h0 ((l.take i).map brR ++ [brR n]) _ _ _) = _
    simp
theorem g19_twin (l : List Br) (hb : okBrs l) : Tot (fun k => g19 k (l.map brR)) (l.map brR) := by
  refine Tot.of_goes (s := S19.e _) ((g19_loop l hb l.length 0 (by omega)).rec0 fun k rec => ?_)
  show t19_e k rec _ = _
  unfold t19_e
  rw [List.length_map]; rfl

theorem g40_of (k : Nat) (a b : Int) (c : Bool) (d : Int) (e f g h : Rs) : g40 (k + 1) a b c d e f g h = some (a, b, c, d) := rfl
theorem g42_bare (k : Nat) (a b : Int) (c : Bool) (d : Int) (e f g h : Rs) : g42 (k + 1) a b c d e f g h = some (0, [[ic a, ic b, bc c, ic d, .imm e, .imm f, .imm g, .nil]]) := rfl

/-! rows of numbers -/
def intR (n : Int) : List Cell := [ic n]
theorem un_int {α : Type} (n : Int) (k : Int → Option α) : un_i (intR n) k = k n := rfl
def eqL {α : Type} (f : α → α → Bool) : List α → List α → Bool
  | [], [] => true
  | x :: l, y :: r => f x y && eqL f l r
  | _, _ => false
theorem eqL_len {α : Type} {f : α → α → Bool} : ∀ {l r : List α}, l.length ≠ r.length → eqL f l r = false
  | [], [], h => absurd rfl h
  | [], _ :: _, _ => rfl
  | _ :: _, [], _ => rfl
  | x :: l, y :: r, h => by
    simp only [eqL]
    rw [eqL_len (l := l) (r := r) (fun e => h (by simp [e]))]
    simp
theorem eqL_drop {α : Type} {f : α → α → Bool} {l r : List α} {i : Nat} {x y : α} (hx : l[i]? = some x) (hy : r[i]? = some y) : eqL f (l.drop i) (r.drop i) = (f x y && eqL f (l.drop (i + 1)) (r.drop (i + 1))) := by
  have h1 := (List.getElem?_eq_some_iff.1 hx).1
  have h2 := (List.getElem?_eq_some_iff.1 hy).1
  have e1 : l[i] = x := (List.getElem?_eq_some_iff.1 hx).2
  have e2 : r[i] = y := (List.getElem?_eq_some_iff.1 hy).2
  rw [List.drop_eq_getElem_cons h1, List.drop_eq_getElem_cons h2, e1, e2]
  rfl
theorem eqL_end {α : Type} {f : α → α → Bool} {l r : List α} {i : Nat} (h1 : l.length ≤ i) (h2 : r.length ≤ i) : eqL f (l.drop i) (r.drop i) = true := by
  rw [List.drop_eq_nil_of_le h1, List.drop_eq_nil_of_le h2]; rfl
theorem eqL_iff {α : Type} {f : α → α → Bool} : ∀ {l r : List α}, (∀ x ∈ l, ∀ y, f x y = true ↔ x = y) → (eqL f l r = true ↔ l = r)
  | [], [], _ => by simp [eqL]
  | [], _ :: _, _ => by simp [eqL]
  | _ :: _, [], _ => by simp [eqL]
  | x :: l, y :: r, h => by
    simp only [eqL, Bool.and_eq_true, List.cons.injEq]
    rw [h x List.mem_cons_self y, eqL_iff fun z hz => h z (List.mem_cons_of_mem _ hz)]
theorem g65_loop (l r : List Int) (hl : l.length < 1073741824) (he : l.length = r.length) : ∀ (m i : Nat), i + m = l.length → Goes step65 (.h0 (l.map intR) (r.map intR) (l.length : Int) (i : Int)) (eqL (fun x y => x == y) (l.drop i) (r.drop i))
  | 0, i, hi => by
    refine Goes.fin0 fun k rec => ?_
    have hlt : decide ((i : Int) < (l.length : Int)) = false := by simp; omega
    show t65_h0 k rec _ _ _ _ = _
    unfold t65_h0
    rw [hlt, cond_false, eqL_end (by omega) (by omega)]
  | m + 1, i, hi => by
    have hx : l[i]? = some (l[i]'(by omega)) := List.getElem?_eq_getElem _
    have hy : r[i]? = some (r[i]'(by omega)) := List.getElem?_eq_getElem _
    generalize l[i]'(by omega) = x at hx
    generalize r[i]'(by omega) = y at hy
    have ih := g65_loop l r hl he m (i + 1) (by omega)
    have hlt : decide ((i : Int) < (l.length : Int)) = true := by simp; omega
    rw [eqL_drop hx hy]
    have open1 : ∀ k (rec : S65 → Option R65), step65 k rec (.h0 (l.map intR) (r.map intR) (l.length : Int) (i : Int)) = t65_h0 k rec (l.map intR) (r.map intR) (l.length : Int) (i : Int) := fun _ _ => rfl
    by_cases hxy : x = y
    · have e : (x == y) = true := by simp [hxy]
      rw [e, Bool.true_and]
      refine ih.rec0 fun k rec => ?_
      rw [open1]; unfold t65_h0
      rw [hlt, cond_true, ixR_at (map_at hx), un_int, ixR_at (map_at hy), un_int, wrap1 i (by omega)]
      have e2 : (x != y) = false := by simpa using hxy
      rw [e2, cond_false]
    · have e : (x == y) = false := by simp [hxy]
      rw [e, Bool.false_and]
      refine Goes.fin0 fun k rec => ?_
      rw [open1]; unfold t65_h0
      rw [hlt, cond_true, ixR_at (map_at hx), un_int, ixR_at (map_at hy), un_int]
      have e2 : (x != y) = true := by simpa using hxy
      rw [e2, cond_true]
theorem g65_eq (l r : List Int) (hl : l.length < 1073741824) : Tot (fun k => g65 k (l.map intR) (r.map intR)) (eqL (fun x y => x == y) l r) := by
  by_cases he : l.length = r.length
  · have h := g65_loop l r hl he l.length 0 (by omega)
    rw [List.drop_zero, List.drop_zero] at h
    refine Tot.of_goes (s := S65.e _ _) (h.rec0 fun k rec => ?_)
    show t65_e k rec _ _ = _
    unfold t65_e
    have : (((l.map intR).length : Int) != ((r.map intR).length : Int)) = false := by simp [he]
    rw [this, cond_false, List.length_map]; rfl
  · rw [eqL_len he]
    refine Tot.of_goes (s := S65.e _ _) (Goes.fin0 fun k rec => ?_)
    show t65_e k rec _ _ = _
    unfold t65_e
    have : (((l.map intR).length : Int) != ((r.map intR).length : Int)) = true := by simp; omega
    rw [this, cond_true]

end Ab
end Go.Proofs.YtgghingfdcmelaaGreat

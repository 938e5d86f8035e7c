/-
  What is alike: nodes, bars, ends, states, automata.
-/
import Derived.Test.YtgghingfdcmelaaGreatA1
set_option linter.unusedVariables false
set_option linter.unusedSimpArgs false
namespace Go.Proofs.YtgghingfdcmelaaGreat
namespace Ab

mutual
def eqN : Nd → Nd → Bool
  | .mk a b c d e f g, .mk a' b' c' d' e' f' g' => a == a' && (b == b' && (d == d' && (e == e' && (f == f' && (g == g' && eqNs c c')))))
def eqNs : List Nd → List Nd → Bool
  | [], [] => true
  | x :: l, y :: r => eqN x y && eqNs l r
  | _, _ => false
end
mutual
theorem eqN_iff : ∀ (x y : Nd), eqN x y = true ↔ x = y
  | .mk a b c d e f g, .mk a' b' c' d' e' f' g' => by
    have h := eqNs_iff c c'
    simp only [eqN, Bool.and_eq_true, beq_iff_eq, h, Nd.mk.injEq]
    constructor
    · rintro ⟨h1, h2, h3, h4, h5, h6, h7⟩; exact ⟨h1, h2, h7, h3, h4, h5, h6⟩
    · rintro ⟨h1, h2, h7, h3, h4, h5, h6⟩; exact ⟨h1, h2, h3, h4, h5, h6, h7⟩
theorem eqNs_iff : ∀ (l r : List Nd), eqNs l r = true ↔ l = r
  | [], [] => by simp [eqNs]
  | [], _ :: _ => by simp [eqNs]
  | _ :: _, [] => by simp [eqNs]
  | x :: l, y :: r => by
    have h1 := eqN_iff x y
    have h2 := eqNs_iff l r
    simp only [eqNs, Bool.and_eq_true, h1, h2, List.cons.injEq]
end
theorem eqNs_eqL : ∀ (l r : List Nd), eqNs l r = eqL eqN l r
  | [], [] => rfl
  | [], _ :: _ => rfl
  | _ :: _, [] => rfl
  | x :: l, y :: r => by simp only [eqNs, eqL, eqNs_eqL l r]
theorem g89_loop (l r : List Nd) (hP : ∀ x ∈ l, ∀ y, Goes step69 (.e_90 x.op x.kind (ndRows x.args) x.vk x.vb x.pos x.attr y.op y.kind (ndRows y.args) y.vk y.vb y.pos y.attr) (eqN x y)) (hl : l.length < 1073741824) (he : l.length = r.length) :
    ∀ (m i : Nat), i + m = l.length → Goes step69 (.h0_89 (ndRows r) (ndRows l) (l.length : Int) (i : Int)) (eqL eqN (l.drop i) (r.drop i))
  | 0, i, hi => by
    refine Goes.fin0 fun k rec => ?_
    have hlt : decide ((i : Int) < (l.length : Int)) = false := by simp; omega
    show t89_h0 k rec _ _ _ _ = _
    unfold t89_h0
    rw [hlt, cond_false, eqL_end (by omega) (by omega)]
  | m + 1, i, hi => by
    have hx : l[i]? = some (l[i]'(by omega)) := List.getElem?_eq_getElem _
    have hy : r[i]? = some (r[i]'(by omega)) := List.getElem?_eq_getElem _
    generalize l[i]'(by omega) = x at hx
    generalize r[i]'(by omega) = y at hy
    have ih := g89_loop l r hP hl he m (i + 1) (by omega)
    have hlt : decide ((i : Int) < (l.length : Int)) = true := by simp; omega
    have hp := hP x (List.mem_of_getElem? hx) y
    rw [eqL_drop hx hy]
    have open1 : ∀ k (rec : S69 → Option R69), step69 k rec (.h0_89 (ndRows r) (ndRows l) (l.length : Int) (i : Int)) = t89_h0 k rec (ndRows r) (ndRows l) (l.length : Int) (i : Int) := fun _ _ => rfl
    cases hxy : eqN x y with
    | true =>
      rw [hxy] at hp
      rw [Bool.true_and]
      refine hp.self ih fun k rec hr => ?_
      rw [open1]; unfold t89_h0
      rw [hlt, cond_true, ixR_at (nd_at hx), un_nd, ixR_at (nd_at hy), un_nd, hr, wrap1 i (by omega)]
      rfl
    | false =>
      rw [hxy] at hp
      rw [Bool.false_and]
      obtain ⟨N, hN⟩ := hp
      refine ⟨N + 1, fun k hk => ?_⟩
      obtain ⟨j, rfl⟩ : ∃ j, k = j + 1 := ⟨k - 1, by omega⟩
      show step69 j (itS step69 j) _ = _
      rw [open1]; unfold t89_h0
      rw [hlt, cond_true, ixR_at (nd_at hx), un_nd, ixR_at (nd_at hy), un_nd, show itS step69 j _ = some false from hN j (by omega)]
      rfl
mutual
theorem g90_eq : ∀ (x y : Nd), cnt x < 1048577 → Goes step69 (.e_90 x.op x.kind (ndRows x.args) x.vk x.vb x.pos x.attr y.op y.kind (ndRows y.args) y.vk y.vb y.pos y.attr) (eqN x y)
  | .mk a b c d e f g, .mk a' b' c' d' e' f' g', hb => by
    have ih : Goes step69 (.e_69 (ndRows c) (ndRows c')) (eqNs c c') := g69_eq c c' (by simp only [cnt] at hb; omega)
    obtain ⟨N, hN⟩ := ih
    refine ⟨N + 1, fun k hk => ?_⟩
    obtain ⟨j, rfl⟩ : ∃ j, k = j + 1 := ⟨k - 1, by omega⟩
    have h19 : itS step69 j (.e_69 (ndRows c) (ndRows c')) = some (eqNs c c') := hN j (by omega)
    show t90_e j (itS step69 j) a b (ndRows c) d e f g a' b' (ndRows c') d' e' f' g' = _
    unfold t90_e
    rw [h19]
    simp only [eqN, Option.bind_some]
    cases a == a' <;> cases b == b' <;> cases d == d' <;> cases e == e' <;> cases f == f' <;> cases g == g' <;> rfl
theorem g69_eq : ∀ (l r : List Nd), cnts l < 1048577 → Goes step69 (.e_69 (ndRows l) (ndRows r)) (eqNs l r)
  | l, r, hb => by
    have hl := cnts_len l
    have h30 : Goes step69 (.e_89 (ndRows l) (ndRows r)) (eqNs l r) := by
      rw [eqNs_eqL]
      by_cases he : l.length = r.length
      · have h := g89_loop l r (g90_all l hb) (by omega) he l.length 0 (by omega)
        rw [List.drop_zero, List.drop_zero] at h
        refine h.rec0 fun k rec => ?_
        show t89_e k rec _ _ = _
        unfold t89_e
        have : (((ndRows l).length : Int) != ((ndRows r).length : Int)) = false := by simp [ndRows_len, he]
        rw [this, cond_false, ndRows_len]; rfl
      · rw [eqL_len he]
        refine Goes.fin0 fun k rec => ?_
        show t89_e k rec _ _ = _
        unfold t89_e
        have : (((ndRows l).length : Int) != ((ndRows r).length : Int)) = true := by simp [ndRows_len]; omega
        rw [this, cond_true]
    obtain ⟨N, hN⟩ := h30
    refine ⟨N + 1, fun k hk => ?_⟩
    obtain ⟨j, rfl⟩ : ∃ j, k = j + 1 := ⟨k - 1, by omega⟩
    show t69_e j (itS step69 j) _ _ = _
    unfold t69_e
    rw [show itS step69 j (.e_89 (ndRows l) (ndRows r)) = _ from hN j (by omega)]
    rfl
theorem g90_all : ∀ (l : List Nd), cnts l < 1048577 → ∀ x ∈ l, ∀ y, Goes step69 (.e_90 x.op x.kind (ndRows x.args) x.vk x.vb x.pos x.attr y.op y.kind (ndRows y.args) y.vk y.vb y.pos y.attr) (eqN x y)
  | [], _, _, h, _ => by cases h
  | n :: l, hb, x, hx, y => by
    simp only [cnts] at hb
    rcases List.mem_cons.1 hx with h | h
    · rw [h]; exact g90_eq n y (by omega)
    · exact g90_all l (by omega) x h y
end

def eqB (x y : Br) : Bool := x.t == y.t && eqNs x.g y.g
theorem eqB_iff (x y : Br) : eqB x y = true ↔ x = y := by
  obtain ⟨a, b⟩ := x; obtain ⟨c, d⟩ := y
  simp [eqB, eqNs_iff]
theorem g88_eq (x y : Br) (hx : okBr x) : Tot (fun k => g88 k x.t (ndRows x.g) y.t (ndRows y.g)) (eqB x y) := by
  obtain ⟨N, hN⟩ := Tot.of_goes (g69_eq x.g y.g hx)
  refine Tot.of_goes (s := S88.e _ _ _ _) (Goes.fin ⟨N, fun k hk rec => ?_⟩)
  show t88_e k rec _ _ _ _ = _
  unfold t88_e
  rw [show g69 k (ndRows x.g) (ndRows y.g) = _ from hN k hk]
  unfold eqB
  cases x.t == y.t <;> rfl

theorem g87_loop (l r : List Br) (hP : ∀ x ∈ l, ∀ y, Tot (fun k => g88 k x.t (ndRows x.g) y.t (ndRows y.g)) (eqB x y)) (hl : l.length < 1073741824) (he : l.length = r.length) :
    ∀ (m i : Nat), i + m = l.length → Goes step87 (.h0 (r.map brR) (l.map brR) (l.length : Int) (i : Int)) (eqL eqB (l.drop i) (r.drop i))
  | 0, i, hi => by
    refine Goes.fin0 fun k rec => ?_
    have hlt : decide ((i : Int) < (l.length : Int)) = false := by simp; omega
    show t87_h0 k rec _ _ _ _ = _
    unfold t87_h0
    rw [hlt, cond_false, eqL_end (by omega) (by omega)]
  | m + 1, i, hi => by
    have hx : l[i]? = some (l[i]'(by omega)) := List.getElem?_eq_getElem _
    have hy : r[i]? = some (r[i]'(by omega)) := List.getElem?_eq_getElem _
    generalize l[i]'(by omega) = x at hx
    generalize r[i]'(by omega) = y at hy
    have ih := g87_loop l r hP hl he m (i + 1) (by omega)
    have hlt : decide ((i : Int) < (l.length : Int)) = true := by simp; omega
    obtain ⟨N, hN⟩ := hP x (List.mem_of_getElem? hx) y
    rw [eqL_drop hx hy]
    have open1 : ∀ k (rec : S87 → Option R87), step87 k rec (.h0 (r.map brR) (l.map brR) (l.length : Int) (i : Int)) = t87_h0 k rec (r.map brR) (l.map brR) (l.length : Int) (i : Int) := fun _ _ => rfl
    cases hxy : eqB x y with
    | true =>
      rw [hxy] at hN
      rw [Bool.true_and]
      refine ih.rec ⟨N, fun k hk rec => ?_⟩
      rw [open1]; unfold t87_h0
      rw [hlt, cond_true, ixR_at (map_at hx), un_br, ixR_at (map_at hy), un_br, show g88 k x.t (ndRows x.g) y.t (ndRows y.g) = _ from hN k hk, wrap1 i (by omega)]
      rfl
    | false =>
      rw [hxy] at hN
      rw [Bool.false_and]
      refine Goes.fin ⟨N, fun k hk rec => ?_⟩
      rw [open1]; unfold t87_h0
      rw [hlt, cond_true, ixR_at (map_at hx), un_br, ixR_at (map_at hy), un_br, show g88 k x.t (ndRows x.g) y.t (ndRows y.g) = _ from hN k hk]
      rfl
theorem g87_eq (l r : List Br) (hP : ∀ x ∈ l, ∀ y, Tot (fun k => g88 k x.t (ndRows x.g) y.t (ndRows y.g)) (eqB x y)) (hl : l.length < 1073741824) : Tot (fun k => g87 k (l.map brR) (r.map brR)) (eqL eqB l r) := by
  by_cases he : l.length = r.length
  · have h := g87_loop l r hP hl he l.length 0 (by omega)
    rw [List.drop_zero, List.drop_zero] at h
    refine Tot.of_goes (s := S87.e _ _) (h.rec0 fun k rec => ?_)
    show t87_e k rec _ _ = _
    unfold t87_e
    have : (((l.map brR).length : Int) != ((r.map brR).length : Int)) = false := by simp [he]
    rw [this, cond_false, List.length_map]; rfl
  · rw [eqL_len he]
    refine Tot.of_goes (s := S87.e _ _) (Goes.fin0 fun k rec => ?_)
    show t87_e k rec _ _ = _
    unfold t87_e
    have : (((l.map brR).length : Int) != ((r.map brR).length : Int)) = true := by simp; omega
    rw [this, cond_true]

theorem g68_eq (l r : List Br) (hl : okBrs l) : Tot (fun k => g68 k (l.map brR) (r.map brR)) (eqL eqB l r) := by
  obtain ⟨N, hN⟩ := g87_eq l r (fun x hx y => g88_eq x y (hl.2 x hx)) (by have := hl.1; omega)
  refine Tot.of_goes (s := S68.e _ _) (Goes.fin ⟨N, fun k hk rec => ?_⟩)
  show t68_e k rec _ _ = _
  unfold t68_e
  rw [show g87 k (l.map brR) (r.map brR) = _ from hN k hk]
  rfl
theorem eqBs_iff (l r : List Br) : eqL eqB l r = true ↔ l = r := eqL_iff fun x _ y => eqB_iff x y
def eqE (x y : En) : Bool := x.b == y.b && (eqNs x.c y.c && eqL eqB x.r y.r)
theorem eqE_iff (x y : En) : eqE x y = true ↔ x = y := by
  obtain ⟨a, b, c⟩ := x; obtain ⟨d, e, f⟩ := y
  simp [eqE, eqNs_iff, eqBs_iff]
theorem g71_eq (x y : En) (hx : okEn x) : Tot (fun k => g71 k x.b (ndRows x.c) (x.r.map brR) y.b (ndRows y.c) (y.r.map brR)) (eqE x y) := by
  obtain ⟨N, hN⟩ := Tot.of_goes (g69_eq x.c y.c hx.1)
  obtain ⟨M, hM⟩ := g68_eq x.r y.r hx.2
  refine Tot.of_goes (s := S71.e _ _ _ _ _ _) (Goes.fin ⟨N + M, fun k hk rec => ?_⟩)
  show t71_e k rec _ _ _ _ _ _ = _
  unfold t71_e
  rw [show g69 k (ndRows x.c) (ndRows y.c) = _ from hN k (by omega), show g68 k (x.r.map brR) (y.r.map brR) = _ from hM k (by omega)]
  unfold eqE
  cases x.b == y.b <;> cases eqNs x.c y.c <;> rfl

theorem g70_loop (l r : List En) (hP : ∀ x ∈ l, ∀ y, Tot (fun k => g71 k x.b (ndRows x.c) (x.r.map brR) y.b (ndRows y.c) (y.r.map brR)) (eqE x y)) (hl : l.length < 1073741824) (he : l.length = r.length) :
    ∀ (m i : Nat), i + m = l.length → Goes step70 (.h0 (r.map enR) (l.map enR) (l.length : Int) (i : Int)) (eqL eqE (l.drop i) (r.drop i))
  | 0, i, hi => by
    refine Goes.fin0 fun k rec => ?_
    have hlt : decide ((i : Int) < (l.length : Int)) = false := by simp; omega
    show t70_h0 k rec _ _ _ _ = _
    unfold t70_h0
    rw [hlt, cond_false, eqL_end (by omega) (by omega)]
  | m + 1, i, hi => by
    have hx : l[i]? = some (l[i]'(by omega)) := List.getElem?_eq_getElem _
    have hy : r[i]? = some (r[i]'(by omega)) := List.getElem?_eq_getElem _
    generalize l[i]'(by omega) = x at hx
    generalize r[i]'(by omega) = y at hy
    have ih := g70_loop l r hP hl he m (i + 1) (by omega)
    have hlt : decide ((i : Int) < (l.length : Int)) = true := by simp; omega
    obtain ⟨N, hN⟩ := hP x (List.mem_of_getElem? hx) y
    rw [eqL_drop hx hy]
    have open1 : ∀ k (rec : S70 → Option R70), step70 k rec (.h0 (r.map enR) (l.map enR) (l.length : Int) (i : Int)) = t70_h0 k rec (r.map enR) (l.map enR) (l.length : Int) (i : Int) := fun _ _ => rfl
    cases hxy : eqE x y with
    | true =>
      rw [hxy] at hN
      rw [Bool.true_and]
      refine ih.rec ⟨N, fun k hk rec => ?_⟩
      rw [open1]; unfold t70_h0
      rw [hlt, cond_true, ixR_at (map_at hx), un_en, ixR_at (map_at hy), un_en, show g71 k x.b (ndRows x.c) (x.r.map brR) y.b (ndRows y.c) (y.r.map brR) = _ from hN k hk, wrap1 i (by omega)]
      rfl
    | false =>
      rw [hxy] at hN
      rw [Bool.false_and]
      refine Goes.fin ⟨N, fun k hk rec => ?_⟩
      rw [open1]; unfold t70_h0
      rw [hlt, cond_true, ixR_at (map_at hx), un_en, ixR_at (map_at hy), un_en, show g71 k x.b (ndRows x.c) (x.r.map brR) y.b (ndRows y.c) (y.r.map brR) = _ from hN k hk]
      rfl
theorem g70_eq (l r : List En) (hP : ∀ x ∈ l, ∀ y, Tot (fun k => g71 k x.b (ndRows x.c) (x.r.map brR) y.b (ndRows y.c) (y.r.map brR)) (eqE x y)) (hl : l.length < 1073741824) : Tot (fun k => g70 k (l.map enR) (r.map enR)) (eqL eqE l r) := by
  by_cases he : l.length = r.length
  · have h := g70_loop l r hP hl he l.length 0 (by omega)
    rw [List.drop_zero, List.drop_zero] at h
    refine Tot.of_goes (s := S70.e _ _) (h.rec0 fun k rec => ?_)
    show t70_e k rec _ _ = _
    unfold t70_e
    have : (((l.map enR).length : Int) != ((r.map enR).length : Int)) = false := by simp [he]
    rw [this, cond_false, List.length_map]; rfl
  · rw [eqL_len he]
    refine Tot.of_goes (s := S70.e _ _) (Goes.fin0 fun k rec => ?_)
    show t70_e k rec _ _ = _
    unfold t70_e
    have : (((l.map enR).length : Int) != ((r.map enR).length : Int)) = true := by simp; omega
    rw [this, cond_true]

theorem eqEs_iff (l r : List En) : eqL eqE l r = true ↔ l = r := eqL_iff fun x _ y => eqE_iff x y
def eqS (x y : Sa) : Bool := x.p == y.p && (x.t == y.t && (x.m == y.m && (x.w == y.w && (eqL eqB x.b y.b && (eqNs x.l y.l && (eqNs x.g y.g && eqL eqE x.e y.e))))))
theorem eqS_iff (x y : Sa) : eqS x y = true ↔ x = y := by
  obtain ⟨a, b, c, d, e, f, g, h⟩ := x; obtain ⟨a', b', c', d', e', f', g', h'⟩ := y
  simp [eqS, eqNs_iff, eqBs_iff, eqEs_iff]
theorem g67_eq (x y : Sa) (hx : okSa x) : Tot (fun k => g67 k x.p x.t x.m x.w (x.b.map brR) (ndRows x.l) (ndRows x.g) (x.e.map enR) y.p y.t y.m y.w (y.b.map brR) (ndRows y.l) (ndRows y.g) (y.e.map enR)) (eqS x y) := by
  obtain ⟨h1, h2, h3, h4⟩ := hx
  obtain ⟨N1, hN1⟩ := g68_eq x.b y.b h1
  obtain ⟨N2, hN2⟩ := Tot.of_goes (g69_eq x.l y.l h2)
  obtain ⟨N3, hN3⟩ := Tot.of_goes (g69_eq x.g y.g h3)
  obtain ⟨N4, hN4⟩ := g70_eq x.e y.e (fun x hx y => g71_eq x y (h4.2 x hx)) (by have := h4.1; omega)
  refine Tot.of_goes (s := S67.e _ _ _ _ _ _ _ _ _ _ _ _ _ _ _ _) (Goes.fin ⟨N1 + N2 + N3 + N4, fun k hk rec => ?_⟩)
  show t67_e k rec _ _ _ _ _ _ _ _ _ _ _ _ _ _ _ _ = _
  unfold t67_e
  rw [show g68 k (x.b.map brR) (y.b.map brR) = _ from hN1 k (by omega), show g69 k (ndRows x.l) (ndRows y.l) = _ from hN2 k (by omega), show g69 k (ndRows x.g) (ndRows y.g) = _ from hN3 k (by omega), show g70 k (x.e.map enR) (y.e.map enR) = _ from hN4 k (by omega)]
  unfold eqS
  simp only [Option.bind_some]
  cases x.p == y.p <;> cases x.t == y.t <;> cases x.m == y.m <;> cases x.w == y.w <;> cases eqL eqB x.b y.b <;> cases eqNs x.l y.l <;> cases eqNs x.g y.g <;> rfl

theorem g66_loop (l r : List Sa) (hP : ∀ x ∈ l, ∀ y, Tot (fun k => g67 k x.p x.t x.m x.w (x.b.map brR) (ndRows x.l) (ndRows x.g) (x.e.map enR) y.p y.t y.m y.w (y.b.map brR) (ndRows y.l) (ndRows y.g) (y.e.map enR)) (eqS x y)) (hl : l.length < 1073741824) (he : l.length = r.length) :
    ∀ (m i : Nat), i + m = l.length → Goes step66 (.h0 (r.map saR) (l.map saR) (l.length : Int) (i : Int)) (eqL eqS (l.drop i) (r.drop i))
  | 0, i, hi => by
    refine Goes.fin0 fun k rec => ?_
    have hlt : decide ((i : Int) < (l.length : Int)) = false := by simp; omega
    show t66_h0 k rec _ _ _ _ = _
    unfold t66_h0
    rw [hlt, cond_false, eqL_end (by omega) (by omega)]
  | m + 1, i, hi => by
    have hx : l[i]? = some (l[i]'(by omega)) := List.getElem?_eq_getElem _
    have hy : r[i]? = some (r[i]'(by omega)) := List.getElem?_eq_getElem _
    generalize l[i]'(by omega) = x at hx
    generalize r[i]'(by omega) = y at hy
    have ih := g66_loop l r hP hl he m (i + 1) (by omega)
    have hlt : decide ((i : Int) < (l.length : Int)) = true := by simp; omega
    obtain ⟨N, hN⟩ := hP x (List.mem_of_getElem? hx) y
    rw [eqL_drop hx hy]
    have open1 : ∀ k (rec : S66 → Option R66), step66 k rec (.h0 (r.map saR) (l.map saR) (l.length : Int) (i : Int)) = t66_h0 k rec (r.map saR) (l.map saR) (l.length : Int) (i : Int) := fun _ _ => rfl
    cases hxy : eqS x y with
    | true =>
      rw [hxy] at hN
      rw [Bool.true_and]
      refine ih.rec ⟨N, fun k hk rec => ?_⟩
      rw [open1]; unfold t66_h0
      rw [hlt, cond_true, ixR_at (map_at hx), un_sa, ixR_at (map_at hy), un_sa, show g67 k x.p x.t x.m x.w (x.b.map brR) (ndRows x.l) (ndRows x.g) (x.e.map enR) y.p y.t y.m y.w (y.b.map brR) (ndRows y.l) (ndRows y.g) (y.e.map enR) = _ from hN k hk, wrap1 i (by omega)]
      rfl
    | false =>
      rw [hxy] at hN
      rw [Bool.false_and]
      refine Goes.fin ⟨N, fun k hk rec => ?_⟩
      rw [open1]; unfold t66_h0
      rw [hlt, cond_true, ixR_at (map_at hx), un_sa, ixR_at (map_at hy), un_sa, show g67 k x.p x.t x.m x.w (x.b.map brR) (ndRows x.l) (ndRows x.g) (x.e.map enR) y.p y.t y.m y.w (y.b.map brR) (ndRows y.l) (ndRows y.g) (y.e.map enR) = _ from hN k hk]
      rfl
theorem g66_eq (l r : List Sa) (hP : ∀ x ∈ l, ∀ y, Tot (fun k => g67 k x.p x.t x.m x.w (x.b.map brR) (ndRows x.l) (ndRows x.g) (x.e.map enR) y.p y.t y.m y.w (y.b.map brR) (ndRows y.l) (ndRows y.g) (y.e.map enR)) (eqS x y)) (hl : l.length < 1073741824) : Tot (fun k => g66 k (l.map saR) (r.map saR)) (eqL eqS l r) := by
  by_cases he : l.length = r.length
  · have h := g66_loop l r hP hl he l.length 0 (by omega)
    rw [List.drop_zero, List.drop_zero] at h
    refine Tot.of_goes (s := S66.e _ _) (h.rec0 fun k rec => ?_)
    show t66_e k rec _ _ = _
    unfold t66_e
    have : (((l.map saR).length : Int) != ((r.map saR).length : Int)) = false := by simp [he]
    rw [this, cond_false, List.length_map]; rfl
  · rw [eqL_len he]
    refine Tot.of_goes (s := S66.e _ _) (Goes.fin0 fun k rec => ?_)
    show t66_e k rec _ _ = _
    unfold t66_e
    have : (((l.map saR).length : Int) != ((r.map saR).length : Int)) = true := by simp; omega
    rw [this, cond_true]

theorem eqSs_iff (l r : List Sa) : eqL eqS l r = true ↔ l = r := eqL_iff fun x _ y => eqS_iff x y
/-- two automata. -/
theorem g41_eq {a a' : Int} (K K' : List Int) (L L' : List Sa) (hk : K.length < 1073741824) (hl : okSas L) : Tot (fun k => g41 k a (K.map intR) (L.map saR) a' (K'.map intR) (L'.map saR)) (a == a' && (eqL (fun x y => x == y) K K' && eqL eqS L L')) := by
  obtain ⟨N1, hN1⟩ := g65_eq K K' hk
  obtain ⟨N2, hN2⟩ := g66_eq L L' (fun x hx y => g67_eq x y (hl.2 x hx)) (by have := hl.1; omega)
  refine Tot.of_goes (s := S41.e _ _ _ _ _ _) (Goes.fin ⟨N1 + N2, fun k hk rec => ?_⟩)
  show t41_e k rec _ _ _ _ _ _ = _
  unfold t41_e
  rw [show g65 k (K.map intR) (K'.map intR) = _ from hN1 k (by omega), show g66 k (L.map saR) (L'.map saR) = _ from hN2 k (by omega)]
  simp only [Option.bind_some]
  cases a == a' <;> cases eqL (fun x y => x == y) K K' <;> rfl

end Ab
end Go.Proofs.YtgghingfdcmelaaGreat

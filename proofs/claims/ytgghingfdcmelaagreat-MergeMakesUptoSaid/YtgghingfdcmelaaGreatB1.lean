/-
  The document's answer: twins, and what is alike.
-/
import Derived.Test.YtgghingfdcmelaaGreatA5
set_option linter.unusedVariables false
set_option linter.unusedSimpArgs false
namespace Go.Proofs.YtgghingfdcmelaaGreat
namespace Ab

theorem g15_loop (l : List Nd) (hP : ∀ n ∈ l, Goes step15 (.e (ndRows n.args)) (ndRows n.args)) (hb : l.length < 1048577) :
    ∀ (m i : Nat), i + m = l.length → Goes step15 (.h0 (ndRows l) (ndRows (l.take i)) (l.length : Int) (i : Int)) (ndRows l)
  | 0, i, hi => by
    refine Goes.fin0 fun k rec => ?_
    have hlt : decide ((i : Int) < (l.length : Int)) = false := by simp; omega
    show t15_h0 k rec _ _ _ _ = _
    unfold t15_h0
    rw [hlt, List.take_of_length_le (by omega)]; rfl
  | m + 1, i, hi => by
    have hx : l[i]? = some (l[i]'(by omega)) := List.getElem?_eq_getElem _
    generalize l[i]'(by omega) = n at hx
    have ih := g15_loop l hP hb m (i + 1) (by omega)
    have hlt : decide ((i : Int) < (l.length : Int)) = true := by simp; omega
    refine (hP n (List.mem_of_getElem? hx)).self ih fun k rec hr => ?_
    show t15_h0 k rec _ _ _ _ = _
    unfold t15_h0
    rw [hlt, cond_true, ixR_at (nd_at hx), un_nd, hr]
    have hw := wrap1 i (by omega)
    have hap : ∀ row : List Cell, row.length = 7 → apOk 72 7 (ndRows (l.take i)) [row] = true := by
      intro row hr
      have : (ndRows (l.take i)).length ≤ 1048576 := by rw [ndRows_len, List.length_take]; omega
      simp [apOk, hr, lim]
      omega
    have htake : ndRows (l.take i) ++ [ndRow n] = ndRows (l.take (i + 1)) := by
      have : ∀ (a b : List Nd), ndRows (a ++ b) = ndRows a ++ ndRows b := by
        intro a b
        induction a with
        | nil => rfl
        | cons x a ih => simp [ndRows, ih]
      rw [List.take_add_one, hx, this]; rfl
    simp only [Option.bind_some, imm_ndRows]
    rw [hap _ rfl]
    simp only [gd, cond_true, hw, ← ndRow_eq, htake]
mutual
theorem g15_args : ∀ (n : Nd), cnt n < 1048577 → Goes step15 (.e (ndRows n.args)) (ndRows n.args)
  | .mk op kind args vk vb pos attr, hb => g15_list args (by simp only [cnt] at hb; omega)
theorem g15_list : ∀ (l : List Nd), cnts l < 1048577 → Goes step15 (.e (ndRows l)) (ndRows l)
  | l, hb => by
    have h := g15_loop l (g15_all l hb) (by have := cnts_len l; omega) l.length 0 (by omega)
    refine h.rec0 fun k rec => ?_
    show t15_e k rec (ndRows l) = _
    unfold t15_e
    rw [ndRows_len]; rfl
theorem g15_all : ∀ (l : List Nd), cnts l < 1048577 → ∀ n ∈ l, Goes step15 (.e (ndRows n.args)) (ndRows n.args)
  | [], _, n, hn => by cases hn
  | m :: l, hb, n, hn => by
    simp only [cnts] at hb
    rcases List.mem_cons.1 hn with h | h
    · rw [h]; exact g15_args m (by omega)
    · exact g15_all l (by omega) n h
end

theorem g14_loop (l : List Br) (hb : okBrs l) : ∀ (m i : Nat), i + m = l.length → Goes step14 (.h0 ((l.take i).map brR) (l.map brR) (l.length : Int) (i : Int)) (l.map brR)
  | 0, i, hi => by
    refine Goes.fin0 fun k rec => ?_
    have hlt : decide ((i : Int) < (l.length : Int)) = false := by simp; omega
    show t14_h0 k rec _ _ _ _ = _
    unfold t14_h0
    rw [hlt, List.take_of_length_le (by omega)]; rfl
  | m + 1, i, hi => by
    have hx : l[i]? = some (l[i]'(by omega)) := List.getElem?_eq_getElem _
    generalize l[i]'(by omega) = n at hx
    have ih := g14_loop l hb m (i + 1) (by omega)
    have hlt : decide ((i : Int) < (l.length : Int)) = true := by simp; omega
    have hl := hb.1
    obtain ⟨N, hN⟩ := Tot.of_goes (g15_list n.g (hb.2 n (List.mem_of_getElem? hx)))
    refine ih.rec ⟨N, fun k hk rec => ?_⟩
    show t14_h0 k rec _ _ _ _ = _
    unfold t14_h0
    have h13 : g15 k (ndRows n.g) = some (ndRows n.g) := hN k hk
    have hap : apOk 32 2 ((l.take i).map brR) [brR n] = true := ap_ok (by decide) (by decide) (by rw [List.length_map, List.length_take]; omega) rfl
    rw [hlt, cond_true, ixR_at (map_at hx), un_br, h13, Option.bind_some, imm_ndRows]
    show gd (apOk 32 2 ((l.take i).map brR) [brR n]) _ = _
    rw [hap, gd_true, wrap1 i (by omega), List.take_add_one, hx]
    show rec (.h0 ((l.take i).map brR ++ [brR n]) _ _ _) = _
    simp
theorem g14_twin (l : List Br) (hb : okBrs l) : Tot (fun k => g14 k (l.map brR)) (l.map brR) := by
  refine Tot.of_goes (s := S14.e _) ((g14_loop l hb l.length 0 (by omega)).rec0 fun k rec => ?_)
  show t14_e k rec _ = _
  unfold t14_e
  rw [List.length_map]; rfl

theorem eqN_ne {x y : Nd} (h : x ≠ y) : eqN x y = false := by
  cases e : eqN x y with
  | false => rfl
  | true => exact absurd ((eqN_iff x y).1 e) h
theorem eqN_all {x y : Nd} (h1 : x.op = y.op) (h2 : x.kind = y.kind) (h3 : x.vk = y.vk) (h4 : x.vb = y.vb) (h5 : x.pos = y.pos) (h6 : x.attr = y.attr) : eqN x y = eqNs x.args y.args := by
  cases x; cases y
  simp only [Nd.op, Nd.kind, Nd.vk, Nd.vb, Nd.pos, Nd.attr, Nd.args] at *
  subst h1 h2 h3 h4 h5 h6
  simp [eqN]

theorem g17_loop (l r : List Nd) (hP : ∀ x ∈ l, ∀ y : Nd, Goes step17 (.e (ndRows x.args) (ndRows y.args)) (eqNs x.args y.args)) (hb : l.length < 1048577) (he : l.length = r.length) :
    ∀ (m i : Nat), i + m = l.length → Goes step17 (.h0 (ndRows l) (ndRows r) (l.length : Int) (i : Int)) (eqL eqN (l.drop i) (r.drop i))
  | 0, i, hi => by
    refine Goes.fin0 fun k rec => ?_
    have hlt : decide ((i : Int) < (l.length : Int)) = false := by simp; omega
    show t17_h0 k rec _ _ _ _ = _
    unfold t17_h0
    rw [hlt, cond_false, eqL_end (by omega) (by omega)]
  | m + 1, i, hi => by
    have hx : l[i]? = some (l[i]'(by omega)) := List.getElem?_eq_getElem _
    have hy : r[i]? = some (r[i]'(by omega)) := List.getElem?_eq_getElem _
    generalize l[i]'(by omega) = x at hx
    generalize r[i]'(by omega) = y at hy
    have ih := g17_loop l r hP hb he m (i + 1) (by omega)
    have hlt : decide ((i : Int) < (l.length : Int)) = true := by simp; omega
    rw [eqL_drop hx hy]
    have open1 : ∀ k (rec : S17 → Option R17), step17 k rec (.h0 (ndRows l) (ndRows r) (l.length : Int) (i : Int)) = t17_h0 k rec (ndRows l) (ndRows r) (l.length : Int) (i : Int) := fun _ _ => rfl
    have h1t : Goes step17 (.h1 (ndRows l) (ndRows r) (l.length : Int) (i : Int) true) false := Goes.fin0 fun k rec => rfl
    have h1f : Goes step17 (.h1 (ndRows l) (ndRows r) (l.length : Int) (i : Int) false) (eqL eqN (l.drop (i + 1)) (r.drop (i + 1))) := ih.rec0 fun k rec => by
      show t17_h1 k rec _ _ _ _ _ = _
      unfold t17_h1
      rw [cond_false, wrap1 i (by omega)]
    have ne : ∀ {a b : Int}, a ≠ b → (a != b) = true := fun h => by simpa using h
    by_cases e1 : x.op = y.op
    case neg =>
      rw [eqN_ne (fun e => e1 (by rw [e])), Bool.false_and]
      refine h1t.rec0 fun k rec => ?_
      rw [open1]; unfold t17_h0
      rw [hlt, cond_true, ixR_at (nd_at hx), un_nd, ixR_at (nd_at hy), un_nd, ne e1, cond_true]
    by_cases e2 : x.kind = y.kind
    case neg =>
      rw [eqN_ne (fun e => e2 (by rw [e])), Bool.false_and]
      refine h1t.rec0 fun k rec => ?_
      rw [open1]; unfold t17_h0
      rw [hlt, cond_true, ixR_at (nd_at hx), un_nd, ixR_at (nd_at hy), un_nd, e1, bne_self_eq_false, cond_false, ne e2, cond_true]
    by_cases e3 : x.vk = y.vk ∧ x.vb = y.vb
    case neg =>
      rw [eqN_ne (fun e => e3 (by rw [e]; exact ⟨rfl, rfl⟩)), Bool.false_and]
      refine h1t.rec0 fun k rec => ?_
      have : (!(x.vk == y.vk && (x.vb == y.vb && true))) = true := by
        simp only [Bool.and_true, Bool.not_eq_true', Bool.and_eq_false_iff, beq_eq_false_iff_ne]
        by_cases h : x.vk = y.vk
        · exact .inr fun h' => e3 ⟨h, h'⟩
        · exact .inl h
      rw [open1]; unfold t17_h0
      rw [hlt, cond_true, ixR_at (nd_at hx), un_nd, ixR_at (nd_at hy), un_nd, e1, bne_self_eq_false, cond_false, e2, bne_self_eq_false, cond_false, this, cond_true]
    obtain ⟨e3, e4⟩ := e3
    by_cases e5 : x.pos = y.pos
    case neg =>
      rw [eqN_ne (fun e => e5 (by rw [e])), Bool.false_and]
      refine h1t.rec0 fun k rec => ?_
      rw [open1]; unfold t17_h0
      rw [hlt, cond_true, ixR_at (nd_at hx), un_nd, ixR_at (nd_at hy), un_nd, e1, bne_self_eq_false, cond_false, e2, bne_self_eq_false, cond_false, e3, e4, show (!((y.vk == y.vk) && ((y.vb == y.vb) && true))) = false by simp, cond_false, ne e5, cond_true]
    by_cases e6 : x.attr = y.attr
    case neg =>
      rw [eqN_ne (fun e => e6 (by rw [e])), Bool.false_and]
      refine h1t.rec0 fun k rec => ?_
      rw [open1]; unfold t17_h0
      rw [hlt, cond_true, ixR_at (nd_at hx), un_nd, ixR_at (nd_at hy), un_nd, e1, bne_self_eq_false, cond_false, e2, bne_self_eq_false, cond_false, e3, e4, show (!((y.vk == y.vk) && ((y.vb == y.vb) && true))) = false by simp, cond_false, e5, bne_self_eq_false, cond_false, ne e6, cond_true]
    have hr := hP x (List.mem_of_getElem? hx) y
    rw [eqN_all e1 e2 e3 e4 e5 e6]
    have fin : ∀ (k : Nat) (rec : S17 → Option R17), rec (.e (ndRows x.args) (ndRows y.args)) = some (eqNs x.args y.args) → step17 k rec (.h0 (ndRows l) (ndRows r) (l.length : Int) (i : Int)) = rec (.h1 (ndRows l) (ndRows r) (l.length : Int) (i : Int) (!eqNs x.args y.args)) := fun k rec h => by
      rw [open1]; unfold t17_h0
      rw [hlt, cond_true, ixR_at (nd_at hx), un_nd, ixR_at (nd_at hy), un_nd, e1, bne_self_eq_false, cond_false, e2, bne_self_eq_false, cond_false, e3, e4, show (!((y.vk == y.vk) && ((y.vb == y.vb) && true))) = false by simp, cond_false, e5, bne_self_eq_false, cond_false, e6, bne_self_eq_false, cond_false, h]
      rfl
    cases hv : eqNs x.args y.args with
    | true =>
      rw [Bool.true_and]
      rw [hv] at hr
      exact hr.self h1f fun k rec h => by
        have := fin k rec (by rw [h, hv])
        rw [hv] at this
        exact this
    | false =>
      rw [Bool.false_and]
      rw [hv] at hr
      exact hr.self h1t fun k rec h => by
        have := fin k rec (by rw [h, hv])
        rw [hv] at this
        exact this
mutual
theorem g17_args : ∀ (n : Nd), cnt n < 1048577 → ∀ y : Nd, Goes step17 (.e (ndRows n.args) (ndRows y.args)) (eqNs n.args y.args)
  | .mk op kind args vk vb pos attr, hb, y => g17_list args (by simp only [cnt] at hb; omega) y.args
theorem g17_list : ∀ (l : List Nd), cnts l < 1048577 → ∀ r : List Nd, Goes step17 (.e (ndRows l) (ndRows r)) (eqNs l r)
  | l, hb, r => by
    have hl := cnts_len l
    rw [eqNs_eqL]
    by_cases he : l.length = r.length
    · have h := g17_loop l r (g17_all l hb) (by omega) he l.length 0 (by omega)
      rw [List.drop_zero, List.drop_zero] at h
      refine h.rec0 fun k rec => ?_
      show t17_e k rec _ _ = _
      unfold t17_e
      have : (((ndRows l).length : Int) != ((ndRows r).length : Int)) = false := by simp [ndRows_len, he]
      rw [this, cond_false, ndRows_len]; rfl
    · rw [eqL_len he]
      refine Goes.fin0 fun k rec => ?_
      show t17_e k rec _ _ = _
      unfold t17_e
      have : (((ndRows l).length : Int) != ((ndRows r).length : Int)) = true := by simp [ndRows_len]; omega
      rw [this, cond_true]
theorem g17_all : ∀ (l : List Nd), cnts l < 1048577 → ∀ x ∈ l, ∀ y : Nd, Goes step17 (.e (ndRows x.args) (ndRows y.args)) (eqNs x.args y.args)
  | [], _, _, h, _ => by cases h
  | n :: l, hb, x, hx, y => by
    simp only [cnts] at hb
    rcases List.mem_cons.1 hx with h | h
    · rw [h]; exact g17_args n (by omega) y
    · exact g17_all l (by omega) x h y
end

theorem g18_loop (l r : List Br) (hl : okBrs l) (he : l.length = r.length) :
    ∀ (m i : Nat), i + m = l.length → Goes step18 (.h0 (l.map brR) (r.map brR) (l.length : Int) (i : Int)) (eqL eqB (l.drop i) (r.drop i))
  | 0, i, hi => by
    refine Goes.fin0 fun k rec => ?_
    have hlt : decide ((i : Int) < (l.length : Int)) = false := by simp; omega
    show t18_h0 k rec _ _ _ _ = _
    unfold t18_h0
    rw [hlt, cond_false, eqL_end (by omega) (by omega)]
  | m + 1, i, hi => by
    have hx : l[i]? = some (l[i]'(by omega)) := List.getElem?_eq_getElem _
    have hy : r[i]? = some (r[i]'(by omega)) := List.getElem?_eq_getElem _
    generalize l[i]'(by omega) = x at hx
    generalize r[i]'(by omega) = y at hy
    have ih := g18_loop l r hl he m (i + 1) (by omega)
    have hlt : decide ((i : Int) < (l.length : Int)) = true := by simp; omega
    have hl1 := hl.1
    rw [eqL_drop hx hy]
    have open1 : ∀ k (rec : S18 → Option R18), step18 k rec (.h0 (l.map brR) (r.map brR) (l.length : Int) (i : Int)) = t18_h0 k rec (l.map brR) (r.map brR) (l.length : Int) (i : Int) := fun _ _ => rfl
    have h1t : Goes step18 (.h1 (l.map brR) (r.map brR) (l.length : Int) (i : Int) true) false := Goes.fin0 fun k rec => rfl
    have h1f : Goes step18 (.h1 (l.map brR) (r.map brR) (l.length : Int) (i : Int) false) (eqL eqB (l.drop (i + 1)) (r.drop (i + 1))) := ih.rec0 fun k rec => by
      show t18_h1 k rec _ _ _ _ _ = _
      unfold t18_h1
      rw [cond_false, wrap1 i (by omega)]
    by_cases e1 : x.t = y.t
    case neg =>
      have : eqB x y = false := by simp [eqB, e1]
      rw [this, Bool.false_and]
      refine h1t.rec0 fun k rec => ?_
      rw [open1]; unfold t18_h0
      rw [hlt, cond_true, ixR_at (map_at hx), un_br, ixR_at (map_at hy), un_br, show (x.t != y.t) = true by simpa using e1, cond_true]
    obtain ⟨N, hN⟩ := Tot.of_goes (g17_list x.g (hl.2 x (List.mem_of_getElem? hx)) y.g)
    have hb : eqB x y = eqNs x.g y.g := by simp [eqB, e1]
    rw [hb]
    have op : ∀ k, N ≤ k → ∀ rec : S18 → Option R18, step18 k rec (.h0 (l.map brR) (r.map brR) (l.length : Int) (i : Int)) = rec (.h1 (l.map brR) (r.map brR) (l.length : Int) (i : Int) (!eqNs x.g y.g)) := fun k hk rec => by
      rw [open1]; unfold t18_h0
      rw [hlt, cond_true, ixR_at (map_at hx), un_br, ixR_at (map_at hy), un_br, e1, bne_self_eq_false, cond_false, show g17 k (ndRows x.g) (ndRows y.g) = _ from hN k hk]
      rfl
    cases hv : eqNs x.g y.g with
    | true =>
      rw [Bool.true_and]
      exact h1f.rec ⟨N, fun k hk rec => by rw [op k hk rec, hv]; rfl⟩
    | false =>
      rw [Bool.false_and]
      exact h1t.rec ⟨N, fun k hk rec => by rw [op k hk rec, hv]; rfl⟩
theorem g18_eq' (l r : List Br) (hl : okBrs l) : Tot (fun k => g18 k (l.map brR) (r.map brR)) (eqL eqB l r) := by
  refine Tot.of_goes (s := S18.e _ _) ?_
  by_cases he : l.length = r.length
  · have h := g18_loop l r hl he l.length 0 (by omega)
    rw [List.drop_zero, List.drop_zero] at h
    refine h.rec0 fun k rec => ?_
    show t18_e k rec _ _ = _
    unfold t18_e
    have : (((l.map brR).length : Int) != ((r.map brR).length : Int)) = false := by simp [he]
    rw [this, cond_false, List.length_map]; rfl
  · rw [eqL_len he]
    refine Goes.fin0 fun k rec => ?_
    show t18_e k rec _ _ = _
    unfold t18_e
    have : (((l.map brR).length : Int) != ((r.map brR).length : Int)) = true := by simp; omega
    rw [this, cond_true]
theorem g16_eq' (x y : Sa) (hx : okSa x) (xe ye : Rs) : Tot (fun k => g16 k x.p x.t x.m x.w (x.b.map brR) (ndRows x.l) (ndRows x.g) xe y.p y.t y.m y.w (y.b.map brR) (ndRows y.l) (ndRows y.g) ye) (al x y) := by
  obtain ⟨h1, h2, h3, _⟩ := hx
  obtain ⟨N1, hN1⟩ := g18_eq' x.b y.b h1
  obtain ⟨N2, hN2⟩ := Tot.of_goes (g17_list x.l h2 y.l)
  obtain ⟨N3, hN3⟩ := Tot.of_goes (g17_list x.g h3 y.g)
  refine Tot.of_goes (s := S16.e x.p x.t x.m x.w (x.b.map brR) (ndRows x.l) (ndRows x.g) xe y.p y.t y.m y.w (y.b.map brR) (ndRows y.l) (ndRows y.g) ye) (Goes.fin ⟨N1 + N2 + N3, fun k hk rec => ?_⟩)
  show t16_e k rec x.p x.t x.m x.w (x.b.map brR) (ndRows x.l) (ndRows x.g) xe y.p y.t y.m y.w (y.b.map brR) (ndRows y.l) (ndRows y.g) ye = _
  unfold t16_e
  rw [show g18 k (x.b.map brR) (y.b.map brR) = _ from hN1 k (by omega), show g17 k (ndRows x.l) (ndRows y.l) = _ from hN2 k (by omega), show g17 k (ndRows x.g) (ndRows y.g) = _ from hN3 k (by omega)]
  simp only [Option.bind_some, al, eqS, bareS]
  cases x.p == y.p <;> cases x.t == y.t <;> cases x.m == y.m <;> cases x.w == y.w <;> cases eqL eqB x.b y.b <;> cases eqNs x.l y.l <;> cases eqNs x.g y.g <;> rfl
end Ab
end Go.Proofs.YtgghingfdcmelaaGreat

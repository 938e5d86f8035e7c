/-
  The document's answer, merged: the same as what Merge gives.
-/
import Derived.Test.YtgghingfdcmelaaGreatB2
set_option linter.unusedVariables false
set_option linter.unusedSimpArgs false
namespace Go.Proofs.YtgghingfdcmelaaGreat
namespace Ab

/-- the last one that is alike. -/
def lastAl (at_ : Int) (y : Sa) : List Sa → Nat → Int
  | [], _ => at_
  | x :: l, i => lastAl (bif al x y then (i : Int) else at_) y l (i + 1)
theorem lastAl_none (y : Sa) : ∀ (l : List Sa) (at_ : Int) (i : Nat), (∀ x ∈ l, al x y = false) → lastAl at_ y l i = at_
  | [], _, _, _ => rfl
  | x :: l, at_, i, h => by
    simp only [lastAl, h x List.mem_cons_self, cond_false]
    exact lastAl_none y l at_ (i + 1) fun z hz => h z (List.mem_cons_of_mem _ hz)
theorem lastAl_fnd (y : Sa) : ∀ (l : List Sa) (at_ : Int) (i : Nat), Apart l → lastAl at_ y l i = if fnd l y = l.length then at_ else ((i + fnd l y : Nat) : Int)
  | [], at_, i, _ => by simp [lastAl, fnd]
  | x :: l, at_, i, h => by
    unfold Apart at h
    rw [List.map_cons, List.nodup_cons] at h
    cases hx : al x y with
    | true =>
      simp only [lastAl, fnd, hx, cond_true, List.length_cons]
      rw [lastAl_none y l _ _ (fun z hz => by
        cases hz' : al z y with
        | false => rfl
        | true =>
          refine absurd ?_ h.1
          rw [(al_iff x y).1 hx, ← (al_iff z y).1 hz']
          exact List.mem_map.2 ⟨z, hz, rfl⟩)]
      rw [if_neg (by omega)]
      simp
    | false =>
      simp only [lastAl, fnd, hx, cond_false, List.length_cons]
      rw [lastAl_fnd y l at_ (i + 1) h.2]
      by_cases hf : fnd l y = l.length
      · rw [if_pos hf, if_pos (by omega)]
      · rw [if_neg hf, if_neg (by omega)]
        congr 1
        omega

def bcR (n : Nat) : List Cell := [ic (n : Int)]
theorem ua_saT {α : Type} (y : Sa) (k0 : Int → Int → Bool → Int → Rs → Rs → Rs → Option α) (k1 : Int → Int → Bool → Int → Rs → Rs → Rs → Rs → Option α) :
    ua_iibio2o7o7n_iibio2o7o7o3 (saT y) k0 k1 = k1 y.p y.t y.m y.w (y.b.map brR) (ndRows y.l) (ndRows y.g) (y.e.map enR) := rfl
theorem set_saT (y : Sa) (es : List En) : (saT y).set 7 (.own 3 (y.e.map enR ++ es.map enR)) = saT (addE es y) := by
  show [ic y.p, ic y.t, bc y.m, ic y.w, .own 2 (y.b.map brR), .own 7 (ndRows y.l), .own 7 (ndRows y.g), Cell.own 3 (y.e.map enR ++ es.map enR)] = _
  rw [← List.map_append]; rfl
theorem setRow_saT {out : List Sa} {n : Nat} {y : Sa} (h : out[n]? = some y) (es : List En) : setRow (out.map saT) n 7 (.own 3 (y.e.map enR ++ es.map enR)) = (out.set n (addE es y)).map saT := by
  unfold setRow
  rw [map_at h, Option.getD_some, set_saT, List.map_set]
theorem get_setRow {R : Rs} {n m o : Nat} {c : Cell} (h : n ≠ m) : (setRow R n o c)[m]? = R[m]? := by
  unfold setRow
  rw [List.getElem?_set_ne h]
theorem len_setRow {R : Rs} {n o : Nat} {c : Cell} : (setRow R n o c).length = R.length := by
  unfold setRow; rw [List.length_set]

theorem ap_ens {l m : List En} (hl : l.length < 536870912) (hm : m.length < 536870912) : apOk 56 3 (l.map enR) (m.map enR) = true := by
  cases m with
  | nil => simp [apOk, lim]; omega
  | cons y m =>
    simp only [List.length_cons] at hm
    simp [apOk, lim, enR]
    omega

/-- what the document's merging does at one state. -/
theorem mstep_new {out : List Sa} {bec : List Nat} {s : Sa} (h : fnd out (keyS bec s) = out.length) : mstep (out, bec) s = (out ++ [addE s.e (keyS bec s)], bec ++ [out.length]) := by
  have e1 : put1 out (keyS bec s) = out ++ [keyS bec s] := if_pos h
  have e2 : (out ++ [keyS bec s])[out.length]? = some (keyS bec s) := by simp
  simp only [mstep]
  rw [e1, h, upd_get e2]
  congr 1
  rw [List.set_append_right _ _ (by omega)]
  simp
theorem mstep_old {out : List Sa} {bec : List Nat} {s x : Sa} (h : fnd out (keyS bec s) < out.length) (hx : out[fnd out (keyS bec s)]? = some x) : mstep (out, bec) s = (out.set (fnd out (keyS bec s)) (addE s.e x), bec ++ [fnd out (keyS bec s)]) := by
  have e1 : put1 out (keyS bec s) = out := if_neg (by omega)
  simp only [mstep]
  rw [e1, upd_get hx]

/-- a state with its parent turned. -/
def keyE (bec : List Nat) (s : Sa) : Sa := addE s.e (keyS bec s)
theorem keyE_eq (bec : List Nat) (s : Sa) : keyE bec s = { s with p := look bec s.p } := by
  simp [keyE, addE, keyS]

theorem g9_find (out : List Sa) (ho : okSas out) (bec : Rs) (n i : Int) (y : Sa) (a : Int) (K : Rs) (c0 : Int) (K' R : Rs) {r : R9} (hr : Goes step9 (.h3 bec (lastAl (-1) y out 0) n i (out.length : Int) (out.length : Int) y.p y.t y.m y.w (y.b.map brR) (ndRows y.l) (ndRows y.g) (y.e.map enR) a K (out.map saT) c0 K' R 0) r) :
    ∀ (m j : Nat) (at_ : Int), j + m = out.length → lastAl at_ y (out.drop j) j = lastAl (-1) y out 0 → Goes step9 (.h3 bec at_ n i (out.length : Int) (j : Int) y.p y.t y.m y.w (y.b.map brR) (ndRows y.l) (ndRows y.g) (y.e.map enR) a K (out.map saT) c0 K' R 0) r
  | 0, j, at_, hj, hat => by
    have : j = out.length := by omega
    subst this
    rw [List.drop_length] at hat
    simp only [lastAl] at hat
    rw [hat]
    exact hr
  | m + 1, j, at_, hj, hat => by
    have hx : out[j]? = some (out[j]'(by omega)) := List.getElem?_eq_getElem _
    have hd : out.drop j = out[j]'(by omega) :: out.drop (j + 1) := List.drop_eq_getElem_cons _
    generalize out[j]'(by omega) = x at hx hd
    rw [hd] at hat
    simp only [lastAl] at hat
    have hlt : decide ((j : Int) < (out.length : Int)) = true := by simp; omega
    have ih := g9_find out ho bec n i y a K c0 K' R hr m (j + 1) _ (by omega) hat
    have hl := ho.1
    have hxo := ho.2 x (List.mem_of_getElem? hx)
    obtain ⟨N, hN⟩ := g16_eq' x y hxo (x.e.map enR) (y.e.map enR)
    have h6 : Goes step9 (.h6 bec (bif al x y then (j : Int) else at_) n i (out.length : Int) (j : Int) y.p y.t y.m y.w (y.b.map brR) (ndRows y.l) (ndRows y.g) (y.e.map enR) a K (out.map saT) c0 K' R 0) r := by
      refine ih.rec0 fun k rec => ?_
      show t9_h6 k rec _ _ _ _ _ _ _ _ _ _ _ _ _ _ _ _ _ _ _ _ _ = _
      unfold t9_h6
      rw [wrap1 j (by omega)]
    have h4 : Goes step9 (.h4 bec at_ (j : Int) n i (out.length : Int) (j : Int) (al x y) y.p y.t y.m y.w (y.b.map brR) (ndRows y.l) (ndRows y.g) (y.e.map enR) a K (out.map saT) c0 K' R 0) r := by
      refine h6.rec0 fun k rec => ?_
      show t9_h4 k rec _ _ _ _ _ _ _ _ _ _ _ _ _ _ _ _ _ _ _ _ _ _ _ = _
      unfold t9_h4
      cases al x y <;> rfl
    refine h4.rec ⟨N, fun k hk rec => ?_⟩
    show t9_h3 k rec _ _ _ _ _ _ _ _ _ _ _ _ _ _ _ _ _ _ _ _ _ = _
    unfold t9_h3
    rw [hlt, cond_true, ixR_at (map_at hx), ua_saT, imm_br, imm_ndRows, imm_ndRows, imm_en, imm_br, imm_ndRows, imm_ndRows, imm_en]
    rw [show g16 k x.p x.t x.m x.w (x.b.map brR) (ndRows x.l) (ndRows x.g) (x.e.map enR) y.p y.t y.m y.w (y.b.map brR) (ndRows y.l) (ndRows y.g) (y.e.map enR) = _ from hN k hk]
    rfl

theorem g9_loop (L : List Sa) (hL : okSas L) (a : Int) (K : Rs) (c0 : Int) (K' : Rs) : ∀ (m i : Nat) (out : List Sa) (bec : List Nat) (R : Rs), i + m = L.length → (∀ j, i ≤ j → R[j]? = (L[j]?).map saT) → Inv (L.take i) out bec → okSas out → tot out + tot (L.drop i) < 536870912 → gdL (L.drop i) i = true →
    Goes step9 (.h0 (bec.map bcR) (L.length : Int) (i : Int) a K (out.map saT) c0 K' R 0) (a, K, ((L.drop i).foldl mstep (out, bec)).1.map saR)
  | 0, i, out, bec, R, hi, hR, hI, ho, ht, hg => by
    have hlt : decide ((i : Int) < (L.length : Int)) = false := by simp; omega
    rw [List.drop_eq_nil_of_le (by omega)]
    refine Goes.fin0 fun k rec => ?_
    show t9_h0 k rec _ _ _ _ _ _ _ _ _ _ = _
    unfold t9_h0
    rw [hlt, cond_false, imm_saT]; rfl
  | m + 1, i, out, bec, R, hi, hR, hI, ho, ht, hg => by
    have hx : L[i]? = some (L[i]'(by omega)) := List.getElem?_eq_getElem _
    have hd : L.drop i = L[i]'(by omega) :: L.drop (i + 1) := List.drop_eq_getElem_cons _
    generalize L[i]'(by omega) = s at hx hd
    rw [hd] at ht hg ⊢
    have hL1 := hL.1
    have hso := hL.2 s (List.mem_of_getElem? hx)
    simp only [tot] at ht
    simp only [gdL, Bool.and_eq_true] at hg
    obtain ⟨hgs, hg⟩ := hg
    have hgs' := (gdS_iff _ _).1 hgs
    have hlen : (L.take i).length = i := by rw [List.length_take]; omega
    have hbl : bec.length = i := by rw [hI.len, hlen]
    have hle : out.length ≤ i := by have := hI.le; rw [hlen] at this; exact this
    have htk : L.take (i + 1) = L.take i ++ [s] := by rw [List.take_add_one, hx]; rfl
    have hI' : Inv (L.take (i + 1)) (mstep (out, bec) s).1 (mstep (out, bec) s).2 := by
      rw [htk]; exact inv_step hI (by rw [hlen]; exact hgs)
    obtain ⟨o1, o2, o3⟩ := mstep_ok (bec := bec) ho hso (by omega) (by omega)
    let R' : Rs := setRow (setRow (setRow (setRow R i 4 .dead) i 5 .dead) i 6 .dead) i 7 .dead
    have hR' : ∀ j, i + 1 ≤ j → R'[j]? = (L[j]?).map saT := fun j hj => by
      show (setRow (setRow (setRow (setRow R i 4 .dead) i 5 .dead) i 6 .dead) i 7 .dead)[j]? = _
      rw [get_setRow (by omega), get_setRow (by omega), get_setRow (by omega), get_setRow (by omega)]
      exact hR j (by omega)
    have ih := g9_loop L hL a K c0 K' m (i + 1) (mstep (out, bec) s).1 (mstep (out, bec) s).2 R' (by omega) hR' hI' o1 (by rw [o2]; omega) hg
    rw [List.foldl_cons]
    generalize hres : (a, K, ((L.drop (i + 1)).foldl mstep (mstep (out, bec) s)).1.map saR) = res at ih ⊢
    -- behind the choice
    have h5 : ∀ (out' : List Sa) (at_ : Nat), mstep (out, bec) s = (out', bec ++ [at_]) → Goes step9 (.h5 (bec.map bcR) (at_ : Int) (L.length : Int) (i : Int) a K (out'.map saT) c0 K' R' 0) res := fun out' at_ e => by
      rw [e] at ih
      refine ih.rec0 fun k rec => ?_
      show t9_h5 k rec _ _ _ _ _ _ _ _ _ _ _ = _
      unfold t9_h5
      rw [show [[ic (at_ : Int)]] = [bcR at_] from rfl, show apOk 8 1 (bec.map bcR) [bcR at_] = true from ap_ok (by decide) (by decide) (by rw [List.length_map]; omega) rfl, gd_true, wrap1 i (by omega), List.map_append]
      rfl
    have hy : keyE bec s = { s with p := look bec s.p } := keyE_eq bec s
    have hfk : ∀ l, fnd l (keyE bec s) = fnd l (keyS bec s) := by
      intro l
      induction l with
      | nil => rfl
      | cons x l ihl =>
        have : al x (keyE bec s) = al x (keyS bec s) := rfl
        simp only [fnd, this, ihl]
    have h3e : Goes step9 (.h3 (bec.map bcR) (lastAl (-1) (keyE bec s) out 0) (L.length : Int) (i : Int) (out.length : Int) (out.length : Int) (look bec s.p) s.t s.m s.w (s.b.map brR) (ndRows s.l) (ndRows s.g) (s.e.map enR) a K (out.map saT) c0 K' R' 0) res := by
      have hlt : decide ((out.length : Int) < (out.length : Int)) = false := by simp
      rw [lastAl_fnd _ _ _ _ hI.apart, hfk]
      rcases fnd_spec (keyS bec s) out with ⟨hf, _⟩ | ⟨hf, x, hxx, hbx⟩
      · rw [if_pos hf]
        have h := h5 _ _ (mstep_new hf)
        refine h.rec0 fun k rec => ?_
        show t9_h3 k rec _ _ _ _ _ _ _ _ _ _ _ _ _ _ _ _ _ _ _ _ _ = _
        unfold t9_h3
        rw [hlt, cond_false, show decide ((-1 : Int) < 0) = true from rfl, cond_true]
        rw [show [[ic (look bec s.p), ic s.t, bc s.m, ic s.w, Cell.own 2 (s.b.map brR), Cell.own 7 (ndRows s.l), Cell.own 7 (ndRows s.g), Cell.own 3 (s.e.map enR)]] = [keyE bec s].map saT by rw [hy]; rfl]
        rw [show apOk 128 8 (out.map saT) ([keyE bec s].map saT) = true from ap_ok (by decide) (by decide) (by rw [List.length_map]; omega) rfl, gd_true, ← List.map_append, List.length_map]
        rfl
      · rw [if_neg (by omega), Nat.zero_add]
        have h := h5 _ _ (mstep_old hf hxx)
        have hxo := ho.2 x (List.mem_of_getElem? hxx)
        refine h.rec0 fun k rec => ?_
        show t9_h3 k rec _ _ _ _ _ _ _ _ _ _ _ _ _ _ _ _ _ _ _ _ _ = _
        unfold t9_h3
        have hneg : decide (((fnd out (keyS bec s) : Nat) : Int) < 0) = false := by simp
        have hfl : fnd out (keyS bec s) < (out.map saT).length := by rw [List.length_map]; exact hf
        rw [hlt, cond_false, hneg, cond_false, ixR_at (map_at hxx), ua_saT, imm_en]
        have hap : apOk 56 3 (x.e.map enR) (s.e.map enR) = true := ap_ens hxo.2.2.2.1 hso.2.2.2.1
        rw [hap, gd_true, show (((fnd out (keyS bec s) : Nat) : Int)).toNat = fnd out (keyS bec s) from by simp, setRow2 hfl, setRow_saT hxx]
    have h3 := g9_find out ho (bec.map bcR) (L.length : Int) (i : Int) (keyE bec s) a K c0 K' R' (by rw [hy]; rw [hy] at h3e; exact h3e) out.length 0 (-1) (by omega) (by rw [List.drop_zero])
    rw [hy] at h3
    have h2 : Goes step9 (.h2 (bec.map bcR) (L.length : Int) (i : Int) (look bec s.p) s.t s.m s.w (s.b.map brR) (ndRows s.l) (ndRows s.g) (s.e.map enR) a K (out.map saT) c0 K' R' 0) res := by
      refine h3.rec0 fun k rec => ?_
      show t9_h2 k rec _ _ _ _ _ _ _ _ _ _ _ _ _ _ _ _ _ _ = _
      unfold t9_h2
      rw [List.length_map]; rfl
    have h1 : Goes step9 (.h1 (bec.map bcR) (L.length : Int) (i : Int) (decide (s.p ≥ 0)) s.p s.t s.m s.w (s.b.map brR) (ndRows s.l) (ndRows s.g) (s.e.map enR) a K (out.map saT) c0 K' R' 0) res := by
      refine h2.rec0 fun k rec => ?_
      show t9_h1 k rec _ _ _ _ _ _ _ _ _ _ _ _ _ _ _ _ _ _ _ = _
      unfold t9_h1
      by_cases hp : s.p ≥ 0
      · rw [decide_eq_true hp, cond_true]
        obtain ⟨q, hq⟩ : ∃ q : Nat, s.p = q := ⟨s.p.toNat, by omega⟩
        have hql : q < bec.length := by have := hgs'.2.1; omega
        have hb : bec[q]? = some (bec[q]) := List.getElem?_eq_getElem hql
        rw [hq, ixR_at (map_at hb)]
        show rec _ = rec _
        have hlk : look bec (q : Int) = ((bec[q] : Nat) : Int) := by
          unfold look
          rw [if_neg (by omega), List.getD_eq_getElem?_getD]
          simp [hb]
        rw [hlk]
      · rw [decide_eq_false hp, cond_false]
        have : s.p = -1 := by have := hgs'.1; omega
        rw [this]; rfl
    have hlt : decide ((i : Int) < (L.length : Int)) = true := by simp; omega
    have hRi : R[i]? = some (saT s) := by rw [hR i (Nat.le_refl _), hx]; rfl
    refine h1.rec0 fun k rec => ?_
    show t9_h0 k rec _ _ _ _ _ _ _ _ _ _ = _
    unfold t9_h0
    rw [hlt, cond_true, ixR_at hRi, ua_saT, show ((i : Int)).toNat = i from by simp]
theorem g9_eq' (a : Int) (K : List Int) (L : List Sa) (hK : K.length < 1048577) (hL : okSas L) (ht : tot L < 536870912) (hg : gdL L 0 = true) : Tot (fun k => g9 k a (K.map intR) (L.map saR)) (a, K.map intR, (mrg L).map saR) := by
  obtain ⟨N, hN⟩ := g6_eq' a K L hK hL
  have h := g9_loop L hL a (K.map intR) a (K.map intR) L.length 0 [] [] (L.map saT) (by omega) (fun j _ => by rw [List.getElem?_map]) ⟨rfl, by simp, by simp [Apart], rfl, by simp, fun _ => ⟨rfl, rfl⟩, fun _ => rfl⟩ ⟨by simp, by simp⟩ (by simpa [tot] using ht) hg
  refine Tot.of_goes (s := S9.e _ _ _) (h.rec ⟨N, fun k hk rec => ?_⟩)
  show t9_e k rec _ _ _ = _
  unfold t9_e
  rw [show g6 k (a) (K.map intR) (L.map saR) = _ from hN k hk, Option.bind_some]
  show rec _ = rec _
  rw [imm_int, List.length_map]; rfl
end Ab
end Go.Proofs.YtgghingfdcmelaaGreat

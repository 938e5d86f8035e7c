/-
  What Merge gives: states joined one by one.
-/
import Derived.Test.YtgghingfdcmelaaGreatA3
set_option linter.unusedVariables false
set_option linter.unusedSimpArgs false
namespace Go.Proofs.YtgghingfdcmelaaGreat
namespace Ab

/-! maps of ints -/
def esI {α : Type} (f : α → List Cell) (M : List (Int × α)) : Es := M.map fun x => (.int .i64 x.1, f x.2)
def mfI {α : Type} (k : Int) : List (Int × α) → Option α
  | [] => none
  | (k', r) :: l => if k = k' then some r else mfI k l
def mputI {α : Type} (k : Int) (r : α) : List (Int × α) → List (Int × α)
  | [] => [(k, r)]
  | (k', r') :: l => if k = k' then (k, r) :: l else (k', r') :: mputI k r l
theorem keyI_eq (x y : Int) : keyEq Tryz.prog 3 (.int .i64 x) (.int .i64 y) = some (decide (x = y)) := by
  have h : keyEq Tryz.prog 3 (.int .i64 x) (.int .i64 y) = some (x == y) := by kernel_rfl
  rw [h]
  congr 1
theorem findI {α : Type} (f : α → List Cell) (k : Int) : ∀ M : List (Int × α), mapFind Tryz.prog 3 (.int .i64 k) (esI f M) = some ((mfI k M).map f)
  | [] => rfl
  | (k', r) :: l => by
    have ih := findI f k l
    simp only [esI, List.map_cons, mapFind, keyI_eq] at ih ⊢
    by_cases h : k = k'
    · simp [h, mfI]
    · simp only [h, decide_false, mfI, if_false]; exact ih
theorem putI {α : Type} (f : α → List Cell) (k : Int) (r : α) : ∀ M : List (Int × α), mapPut Tryz.prog 3 (.int .i64 k) (f r) (esI f M) = some (esI f (mputI k r M))
  | [] => rfl
  | (k', r') :: l => by
    have ih := putI f k r l
    simp only [esI, List.map_cons, mapPut, keyI_eq] at ih ⊢
    by_cases h : k = k'
    · subst h
      have : Instr.sameBits 10000 (.int .i64 k) (.int .i64 k) = true := by simp [Instr.sameBits]
      simp [this, mputI]
    · simp only [h, decide_false, mputI, if_false, ih]; rfl
theorem mf_put {α : Type} (k j : Int) (r : α) : ∀ M : List (Int × α), mfI j (mputI k r M) = if j = k then some r else mfI j M
  | [] => by simp [mputI, mfI]
  | (k', r') :: l => by
    have ih := mf_put k j r l
    simp only [mputI]
    by_cases h : k = k'
    · subst h
      rw [if_pos rfl]
      simp only [mfI]
      split <;> rfl
    · rw [if_neg h]
      simp only [mfI, ih]
      by_cases h1 : j = k'
      · subst h1
        rw [if_pos rfl, if_pos rfl, if_neg (fun e => h e.symm)]
      · rw [if_neg h1, if_neg h1]

/-! what Merge does -/
def look (bec : List Nat) (p : Int) : Int := if p = -1 then -1 else ((bec.getD p.toNat 0 : Nat) : Int)
def keyS (bec : List Nat) (s : Sa) : Sa := { s with p := look bec s.p, e := [] }
def addE (es : List En) (s : Sa) : Sa := { s with e := s.e ++ es }
def put1 (out : List Sa) (s : Sa) : List Sa := if fnd out s = out.length then out ++ [s] else out
def upd (l : List Sa) (i : Nat) (es : List En) : List Sa := match l[i]? with
  | some x => l.set i (addE es x)
  | none => l
def mstep (st : List Sa × List Nat) (s : Sa) : List Sa × List Nat := (upd (put1 st.1 (keyS st.2 s)) (fnd st.1 (keyS st.2 s)) s.e, st.2 ++ [fnd st.1 (keyS st.2 s)])
def mrg (L : List Sa) : List Sa := (L.foldl mstep ([], [])).1
def tot : List Sa → Nat
  | [] => 0
  | s :: l => s.e.length + tot l
theorem tot_app (a b : List Sa) : tot (a ++ b) = tot a + tot b := by
  induction a with
  | nil => simp [tot]
  | cons x a ih => simp only [List.cons_append, tot, ih]; omega
theorem tot_get {l : List Sa} {i : Nat} {x : Sa} (h : l[i]? = some x) : x.e.length ≤ tot l := by
  induction l generalizing i with
  | nil => simp at h
  | cons y l ih =>
    cases i with
    | zero => simp at h; subst h; simp [tot]
    | succ i => have := ih (by simpa using h); simp only [tot]; omega
theorem tot_set {l : List Sa} {i : Nat} {x : Sa} (h : l[i]? = some x) (es : List En) : tot (l.set i (addE es x)) = tot l + es.length := by
  induction l generalizing i with
  | nil => simp at h
  | cons y l ih =>
    cases i with
    | zero => simp at h; subst h; simp [tot, addE]; omega
    | succ i => have := ih (by simpa using h); simp only [List.set_cons_succ, tot, this]; omega
theorem put1_lt (out : List Sa) (s : Sa) : fnd out s < (put1 out s).length := by
  have := fnd_le out s
  unfold put1
  split
  · simp; omega
  · omega
theorem put1_len (out : List Sa) (s : Sa) : (put1 out s).length ≤ out.length + 1 := by
  unfold put1
  split
  · simp
  · omega
theorem ok_key {s : Sa} (h : okSa s) (bec : List Nat) : okSa (keyS bec s) := ⟨h.1, h.2.1, h.2.2.1, by simp [okEns, keyS]⟩
theorem put1_ok {out : List Sa} {s : Sa} {bec : List Nat} (ho : okSas out) (hs : okSa s) (hl : out.length + 1 < 1048577) : okSas (put1 out (keyS bec s)) ∧ tot (put1 out (keyS bec s)) = tot out := by
  unfold put1
  split
  · refine ⟨⟨by simp; omega, fun x hx => ?_⟩, by rw [tot_app]; simp [tot, keyS]⟩
    rcases List.mem_append.1 hx with h | h
    · exact ho.2 x h
    · simp at h; subst h; exact ok_key hs bec
  · exact ⟨ho, rfl⟩
theorem upd_get {l : List Sa} {i : Nat} {x : Sa} (h : l[i]? = some x) (es : List En) : upd l i es = l.set i (addE es x) := by unfold upd; rw [h]
theorem mstep_ok {out : List Sa} {bec : List Nat} {s : Sa} (ho : okSas out) (hs : okSa s) (hl : out.length + 1 < 1048577) (ht : tot out + s.e.length < 536870912) :
    okSas (mstep (out, bec) s).1 ∧ tot (mstep (out, bec) s).1 = tot out + s.e.length ∧ (mstep (out, bec) s).1.length ≤ out.length + 1 := by
  obtain ⟨h1, h2⟩ := put1_ok (bec := bec) ho hs hl
  have hlt := put1_lt out (keyS bec s)
  have hx : (put1 out (keyS bec s))[fnd out (keyS bec s)]? = some ((put1 out (keyS bec s))[fnd out (keyS bec s)]'hlt) := List.getElem?_eq_getElem _
  generalize (put1 out (keyS bec s))[fnd out (keyS bec s)]'hlt = x at hx
  simp only [mstep]
  rw [upd_get hx]
  refine ⟨⟨by rw [List.length_set]; exact h1.1, fun y hy => ?_⟩, by rw [tot_set hx, h2], by rw [List.length_set]; exact put1_len _ _⟩
  rcases List.mem_or_eq_of_mem_set hy with h | h
  · exact h1.2 y h
  · subst h
    have hxo := h1.2 x (List.mem_of_getElem? hx)
    have := tot_get hx
    refine ⟨hxo.1, hxo.2.1, hxo.2.2.1, ?_, ?_⟩
    · simp only [addE, List.length_append]; omega
    · intro e he
      rcases List.mem_append.1 he with h | h
      · exact hxo.2.2.2.2 e h
      · exact hs.2.2.2.2 e h

/-! rows of what is under way -/
def enC (l : List En) : Cell := match l with
  | [] => .nil
  | _ => .own 3 (l.map enR)
def saO (s : Sa) : List Cell := [ic s.p, ic s.t, bc s.m, ic s.w, .imm (s.b.map brR), .imm (ndRows s.l), .imm (ndRows s.g), enC s.e]
theorem imm_enC (l : List En) : immC (enC l) = .imm (l.map enR) := by
  cases l with
  | nil => rfl
  | cons a l =>
    have h := imm_en (a :: l)
    show Cell.imm (immRs ((a :: l).map enR)) = _
    rw [h]
theorem imm_saO (L : List Sa) : immRs (L.map saO) = L.map saR := by
  rw [immRs_eq, List.map_map]
  apply List.map_congr_left
  intro s _
  show [immC (ic s.p), immC (ic s.t), immC (bc s.m), immC (ic s.w), immC (.imm (s.b.map brR)), immC (.imm (ndRows s.l)), immC (.imm (ndRows s.g)), immC (enC s.e)] = _
  rw [imm_enC]; rfl
theorem set_saO (y : Sa) (e : En) (c : Cell) (hc : c = .own 3 (y.e.map enR ++ [enR e])) : (saO y).set 7 c = saO (addE [e] y) := by
  subst hc
  have : enC (y.e ++ [e]) = .own 3 (y.e.map enR ++ [enR e]) := by
    cases h : y.e with
    | nil => rfl
    | cons a l => show Cell.own 3 (((a :: l) ++ [e]).map enR) = _; simp
  show [ic y.p, ic y.t, bc y.m, ic y.w, .imm (y.b.map brR), .imm (ndRows y.l), .imm (ndRows y.g), Cell.own 3 (y.e.map enR ++ [enR e])] = _
  rw [← this]; rfl
theorem setRow_out {out : List Sa} {at_ : Nat} (hlt : at_ < out.length) (y : Sa) (e : En) (c : Cell) (hc : c = .own 3 (y.e.map enR ++ [enR e])) :
    setRow ((out.set at_ y).map saO) at_ 7 c = (out.set at_ (addE [e] y)).map saO := by
  have hg : ((out.set at_ y).map saO)[at_]? = some (saO y) := by
    rw [List.getElem?_map, List.getElem?_set_self hlt]; rfl
  unfold setRow
  rw [hg, Option.getD_some, set_saO y e c hc, List.map_set, List.map_set, List.set_set]
theorem setRow2 {R : Rs} {n o : Nat} (hn : n < R.length) (c d : Cell) : setRow (setRow R n o d) n o c = setRow R n o c := by
  unfold setRow
  rw [List.getElem?_set_self hn, Option.getD_some, List.set_set, List.set_set]
theorem ua_sa {α : Type} (y : Sa) (k0 : Int → Int → Bool → Int → Rs → Rs → Rs → Option α) (k1 : Int → Int → Bool → Int → Rs → Rs → Rs → Rs → Option α) :
    ua_iibim3n_iibim3o3 (saO y) k0 k1 = match y.e with
      | [] => k0 y.p y.t y.m y.w (y.b.map brR) (ndRows y.l) (ndRows y.g)
      | _ => k1 y.p y.t y.m y.w (y.b.map brR) (ndRows y.l) (ndRows y.g) (y.e.map enR) := by
  unfold saO
  cases y.e <;> rfl
theorem addE_nil (x : Sa) : addE [] x = x := by cases x; simp [addE]
theorem addE_add (x : Sa) (a b : List En) : addE b (addE a x) = addE (a ++ b) x := by cases x; simp [addE]

theorem g8_ends {es : Es} {R70 : Rs} {n i a : Int} {K : Rs} {out : List Sa} {at_ : Nat} {x : Sa} {E : List En} (hx : out[at_]? = some x) (hE : okEns E) (hb : x.e.length + E.length < 1073741824) {r : R8}
    (hr : Goes step8 (.h0 es R70 n (IntKind.i64.wrap (i + 1)) a K ((out.set at_ (addE E x)).map saO) 0) r) : ∀ (m j : Nat), j + m = E.length →
    Goes step8 (.h3 es (at_ : Int) R70 n i (E.map enR) (E.length : Int) (j : Int) a K ((out.set at_ (addE (E.take j) x)).map saO) 0) r
  | 0, j, hj => by
    have hlt : decide ((j : Int) < (E.length : Int)) = false := by simp; omega
    rw [List.take_of_length_le (by omega)]
    refine hr.rec0 fun k rec => ?_
    show t8_h3 k rec _ _ _ _ _ _ _ _ _ _ _ _ = _
    unfold t8_h3
    rw [hlt, cond_false]
  | m + 1, j, hj => by
    have he : E[j]? = some (E[j]'(by omega)) := List.getElem?_eq_getElem _
    generalize E[j]'(by omega) = e at he
    have hlt : decide ((j : Int) < (E.length : Int)) = true := by simp; omega
    have ih := g8_ends hx hE hb hr m (j + 1) (by omega)
    have heo := hE.2 e (List.mem_of_getElem? he)
    have hl := hE.1
    have hat := (List.getElem?_eq_some_iff.1 hx).1
    have h4 : Goes step8 (.h4 es (at_ : Int) R70 n i (E.map enR) (E.length : Int) (j : Int) a K ((out.set at_ (addE (E.take (j + 1)) x)).map saO) 0) r := by
      refine ih.rec0 fun k rec => ?_
      show t8_h4 k rec _ _ _ _ _ _ _ _ _ _ _ _ = _
      unfold t8_h4
      rw [wrap1 j (by omega)]
    have htk : E.take (j + 1) = E.take j ++ [e] := by rw [List.take_add_one, he]; rfl
    rw [htk, ← addE_add] at h4
    generalize hy : addE (E.take j) x = y at h4
    have hyl : y.e.length < 1073741824 := by
      rw [← hy]; simp only [addE, List.length_append, List.length_take]; omega
    have hg : ((out.set at_ y).map saO)[at_]? = some (saO y) := by
      rw [List.getElem?_map, List.getElem?_set_self hat]; rfl
    obtain ⟨N1, hN1⟩ := Tot.of_goes (g20_list e.c heo.1)
    obtain ⟨N2, hN2⟩ := g19_twin e.r heo.2
    refine h4.rec ⟨N1 + N2, fun k hk rec => ?_⟩
    show t8_h3 k rec _ _ _ _ _ _ _ _ _ _ _ _ = _
    unfold t8_h3
    have e1 : g20 k (ndRows e.c) = some (ndRows e.c) := hN1 k (by omega)
    have e2 : g19 k (e.r.map brR) = some (e.r.map brR) := hN2 k (by omega)
    rw [hlt, cond_true, ixR_at (map_at he), un_en, e1, Option.bind_some, e2, Option.bind_some, ixR_at hg, ua_sa, imm_ndRows, imm_br]
    have hT : ((at_ : Int)).toNat = at_ := by simp
    rw [hT]
    have hR : at_ < ((out.set at_ y).map saO).length := by simpa using hat
    cases hye : y.e with
    | nil =>
      simp only
      rw [setRow_out hat y e _ (by rw [hye]; rfl)]
    | cons a0 l0 =>
      simp only
      rw [← hye]
      rw [show [ic e.b, Cell.imm (ndRows e.c), Cell.imm (e.r.map brR)] = enR e from rfl]
      have hap : apOk 56 3 (y.e.map enR) [enR e] = true := ap_ok (by decide) (by decide) (by rw [List.length_map]; exact hyl) rfl
      rw [hap, gd_true, setRow2 hR, setRow_out hat y e _ rfl]

/-- what the map holds. -/
def okM (M : List (Int × Int)) (bec : List Nat) : Prop := ∀ q : Int, -1 ≤ q → q < bec.length → mfI q M = some (look bec q)
theorem okM_put {M : List (Int × Int)} {bec : List Nat} (h : okM M bec) (at_ : Nat) : okM (mputI (bec.length : Int) (at_ : Int) M) (bec ++ [at_]) := by
  intro q h1 h2
  rw [mf_put]
  simp only [List.length_append, List.length_cons, List.length_nil] at h2
  by_cases hq : q = bec.length
  · subst hq
    rw [if_pos rfl]
    have : ¬ (bec.length : Int) = -1 := by omega
    simp [look, this]
  · rw [if_neg hq, h q h1 (by omega)]
    unfold look
    by_cases hq1 : q = -1
    · rw [if_pos hq1, if_pos hq1]
    · rw [if_neg hq1, if_neg hq1]
      have : q.toNat < bec.length := by omega
      simp [List.getD, List.getElem?_append_left this]
theorem map_look {α : Type} {M : List (Int × Int)} {q v : Int} (h : mfI q M = some v) (Z : Option α) (f : Int → Option α) : ((mapFind Tryz.prog 3 (.int .i64 q) (esI oneR M)).bind fun e => optC e Z fun w => un_i w f) = f v := by
  rw [findI, h]; rfl

theorem g8_loop (L : List Sa) (hL : okSas L) (a : Int) (K : Rs) : ∀ (m i : Nat) (out : List Sa) (bec : List Nat) (M : List (Int × Int)), i + m = L.length → bec.length = i → okM M bec → okSas out → out.length ≤ i →
    tot out + tot (L.drop i) < 536870912 → gdL (L.drop i) i = true →
    Goes step8 (.h0 (esI oneR M) (L.map saR) (L.length : Int) (i : Int) a K (out.map saO) 0) (a, immRs K, ((L.drop i).foldl mstep (out, bec)).1.map saR)
  | 0, i, out, bec, M, hi, hb, hM, ho, hol, ht, hg => by
    have hlt : decide ((i : Int) < (L.length : Int)) = false := by simp; omega
    rw [List.drop_eq_nil_of_le (by omega)]
    refine Goes.fin0 fun k rec => ?_
    show t8_h0 k rec _ _ _ _ _ _ _ _ = _
    unfold t8_h0
    rw [hlt, cond_false, imm_saO]; rfl
  | m + 1, i, out, bec, M, hi, hb, hM, ho, hol, ht, hg => by
    have hx : L[i]? = some (L[i]'(by omega)) := List.getElem?_eq_getElem _
    have hd : L.drop i = L[i]'(by omega) :: L.drop (i + 1) := List.drop_eq_getElem_cons _
    generalize L[i]'(by omega) = s at hx hd
    rw [hd] at ht hg ⊢
    have hL1 := hL.1
    have hso := hL.2 s (List.mem_of_getElem? hx)
    simp only [tot] at ht
    simp only [gdL, gdS, Bool.and_eq_true, decide_eq_true_eq] at hg
    obtain ⟨⟨hp1, hp2, -⟩, hg⟩ := hg
    obtain ⟨o1, o2, o3⟩ := mstep_ok (bec := bec) ho hso (by omega) (by omega)
    have ih := g8_loop L hL a K m (i + 1) (mstep (out, bec) s).1 (mstep (out, bec) s).2 (mputI (bec.length : Int) ((fnd out (keyS bec s) : Nat) : Int) M) (by omega) (by simp [mstep, hb]) (okM_put hM _) o1 (by omega) (by rw [o2]; omega) hg
    rw [List.foldl_cons]
    generalize hres : (a, immRs K, ((L.drop (i + 1)).foldl mstep (mstep (out, bec) s)).1.map saR) = res at ih ⊢
    obtain ⟨q1, q2⟩ := put1_ok (bec := bec) ho hso (by omega)
    have hat := put1_lt out (keyS bec s)
    have hfle := fnd_le out (keyS bec s)
    have hx1 : (put1 out (keyS bec s))[fnd out (keyS bec s)]? = some ((put1 out (keyS bec s))[fnd out (keyS bec s)]'hat) := List.getElem?_eq_getElem _
    generalize (put1 out (keyS bec s))[fnd out (keyS bec s)]'hat = x at hx1
    have hxl := tot_get hx1
    have hm1 : (mstep (out, bec) s).1 = (put1 out (keyS bec s)).set (fnd out (keyS bec s)) (addE s.e x) := upd_get hx1 s.e
    rw [hm1] at ih
    have h3 := g8_ends (i := (i : Int)) (n := (L.length : Int)) (R70 := L.map saR) (a := a) (K := K) (E := s.e) hx1 hso.2.2.2 (by have := hso.2.2.2.1; omega) (by rw [wrap1 i (by omega)]; exact ih) s.e.length 0 (by omega)
    rw [List.take_zero, addE_nil] at h3
    have hset : (put1 out (keyS bec s)).set (fnd out (keyS bec s)) x = put1 out (keyS bec s) := by
      apply List.ext_getElem?
      intro j
      rw [List.getElem?_set]
      split
      · rename_i h; subst h; exact hx1.symm
      · rfl
    rw [hset] at h3
    have h2 : Goes step8 (.h2 (esI oneR M) (i : Int) (s.e.map enR) ((fnd out (keyS bec s) : Nat) : Int) (L.map saR) (L.length : Int) (i : Int) a K ((put1 out (keyS bec s)).map saO) 0) res := by
      refine h3.rec0 fun k rec => ?_
      show t8_h2 k rec _ _ _ _ _ _ _ _ _ _ _ = _
      unfold t8_h2
      rw [show ([ic ((fnd out (keyS bec s) : Nat) : Int)] : List Cell) = oneR ((fnd out (keyS bec s) : Nat) : Int) from rfl, putI, Option.bind_some, List.length_map, hb]
      rfl
    have h1 : Goes step8 (.h1 (esI oneR M) (i : Int) (s.e.map enR) ((fnd out (keyS bec s) : Nat) : Int) (L.map saR) (L.length : Int) (i : Int) (((fnd out (keyS bec s) : Nat) : Int) == ((out.map saO).length : Int)) (look bec s.p) s.t s.m s.w (s.b.map brR) (ndRows s.l) (ndRows s.g) a K (out.map saO) 0) res := by
      refine h2.rec0 fun k rec => ?_
      show t8_h1 k rec _ _ _ _ _ _ _ _ _ _ _ _ _ _ _ _ _ _ _ = _
      unfold t8_h1
      by_cases hf : fnd out (keyS bec s) = out.length
      · have e1 : (((fnd out (keyS bec s) : Nat) : Int) == ((out.map saO).length : Int)) = true := by simp [hf]
        have e2 : put1 out (keyS bec s) = out ++ [keyS bec s] := if_pos hf
        rw [e1, cond_true, imm_br, imm_ndRows, imm_ndRows, e2, List.map_append]
        rw [show [[ic (look bec s.p), ic s.t, bc s.m, ic s.w, Cell.imm (s.b.map brR), Cell.imm (ndRows s.l), Cell.imm (ndRows s.g), Cell.nil]] = [keyS bec s].map saO from rfl]
        rw [show apOk 128 8 (out.map saO) ([keyS bec s].map saO) = true from ap_ok (by decide) (by decide) (by rw [List.length_map]; omega) rfl, gd_true]
      · have e1 : (((fnd out (keyS bec s) : Nat) : Int) == ((out.map saO).length : Int)) = false := by simp; omega
        have e2 : put1 out (keyS bec s) = out := if_neg hf
        rw [e1, cond_false, e2]
    have hlt : decide ((i : Int) < (L.length : Int)) = true := by simp; omega
    have hlook := hM s.p hp1 (by omega)
    obtain ⟨N1, hN1⟩ := g19_twin s.b hso.1
    obtain ⟨N2, hN2⟩ := Tot.of_goes (g20_list s.l hso.2.1)
    obtain ⟨N3, hN3⟩ := Tot.of_goes (g20_list s.g hso.2.2.1)
    obtain ⟨N4, hN4⟩ := g21_eq out (keyS bec s) [] ho
    refine h1.rec ⟨N1 + N2 + N3 + N4, fun k hk rec => ?_⟩
    show t8_h0 k rec _ _ _ _ _ _ _ _ = _
    unfold t8_h0
    have e1 : g19 k (s.b.map brR) = some (s.b.map brR) := hN1 k (by omega)
    have e2 : g20 k (ndRows s.l) = some (ndRows s.l) := hN2 k (by omega)
    have e3 : g20 k (ndRows s.g) = some (ndRows s.g) := hN3 k (by omega)
    have e4 : g21 k (out.map saR) (look bec s.p) s.t s.m s.w (s.b.map brR) (ndRows s.l) (ndRows s.g) [] = some ((fnd out (keyS bec s) : Nat) : Int) := hN4 k (by omega)
    rw [hlt, cond_true, ixR_at (map_at hx), un_sa, map_look hlook, e1, Option.bind_some, e2, Option.bind_some, e3, Option.bind_some, imm_saO, imm_br, imm_ndRows, imm_ndRows, e4, Option.bind_some]
theorem imm_int (l : List Int) : immRs (l.map intR) = l.map intR := imm_map (fun _ => rfl) l
theorem g8_eq (a : Int) (K : List Int) (L : List Sa) (hK : K.length < 1048577) (hL : okSas L) (ht : tot L < 536870912) (hg : gdL L 0 = true) : Tot (fun k => g8 k a (K.map intR) (L.map saR)) (a, K.map intR, (mrg L).map saR) := by
  have h := g8_loop L hL a (K.map intR) L.length 0 [] [] [(-1, -1)] (by omega) rfl (by
    intro q h1 h2
    have : q = -1 := by simp at h2; omega
    subst this; rfl) ⟨by simp, by simp⟩ (by simp) (by simpa [tot] using ht) hg
  rw [imm_int] at h
  refine Tot.of_goes (s := S8.e _ _ _) (h.rec0 fun k rec => ?_)
  show t8_e k rec _ _ _ = _
  unfold t8_e
  have hap : apOk 8 1 [] (K.map intR) = true := by
    cases K with
    | nil => simp [apOk, lim]
    | cons x K => simp [apOk, lim, intR] at hK ⊢; omega
  rw [hap, gd_true, gd_true, List.length_map]
  cases K with
  | nil => rfl
  | cons x K => rfl

end Ab
end Go.Proofs.YtgghingfdcmelaaGreat

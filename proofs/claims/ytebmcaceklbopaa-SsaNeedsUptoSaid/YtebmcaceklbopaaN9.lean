/-
  The code of conditions: the program's loops, and the document's.
-/
import Derived.Test.YtebmcaceklbopaaN8
set_option linter.unusedVariables false
set_option linter.unusedSimpArgs false
namespace Go.Proofs.Ytebmcaceklbopaa
namespace Ab

theorem goS_drop {sh : Bool} {l : List Nd} {i : Nat} {n : Nd} (h : l[i]? = some n) (a : Int) (s : SS) : goS sh (l.drop i) i a s = if i = 0 then goS sh (l.drop (i + 1)) 1 (nodeS sh n s).1 (nodeS sh n s).2
    else goS sh (l.drop (i + 1)) (i + 1) (putSS sh 13 a (nodeS sh n s).1 (nodeS sh n s).2).1 (putSS sh 13 a (nodeS sh n s).1 (nodeS sh n s).2).2 := by
  have hi := (List.getElem?_eq_some_iff.1 h).1
  have he : l[i] = n := (List.getElem?_eq_some_iff.1 h).2
  rw [List.drop_eq_getElem_cons hi, he, goS]
theorem goR_drop {sh : Bool} {l : List Nd} {i : Nat} {n : Nd} (h : l[i]? = some n) (a : Int) (s : SR) : goR sh (l.drop i) i a s = if i = 0 then goR sh (l.drop (i + 1)) 1 (nodeR sh n s).1 (nodeR sh n s).2
    else goR sh (l.drop (i + 1)) (i + 1) (putRR sh 13 a (nodeR sh n s).1 (nodeR sh n s).2).1 (putRR sh 13 a (nodeR sh n s).1 (nodeR sh n s).2).2 := by
  have hi := (List.getElem?_eq_some_iff.1 h).1
  have he : l[i] = n := (List.getElem?_eq_some_iff.1 h).2
  rw [List.drop_eq_getElem_cons hi, he, goR]

/-- the program's loop over the conditions. -/
theorem g11_loop {sh : Bool} (l : List Nd) (hr : rightBs l = true) (hb : cnts l < 2097152) {c0 c1 : Int} {r : R11} : ∀ (m i : Nat) (a : Int) (s : SS), i + m = l.length →
    s.I.length + 2 * cnts (l.drop i) < 1073741824 → s.C.length + 2 * cnts (l.drop i) < 1073741824 → s.L.length + 2 * cnts (l.drop i) < 1073741824 →
    Goes step11 (.h5 (goS sh (l.drop i) i a s).1 ((goS sh (l.drop i) i a s).2.L.length : Int) 0 ((goS sh (l.drop i) i a s).2.I.map inR) ((goS sh (l.drop i) i a s).2.C.map vlR) ((goS sh (l.drop i) i a s).2.L.map insR) false (esR (goS sh (l.drop i) i a s).2.M) (goS sh (l.drop i) i a s).2.lg c0 c1) r →
    Goes step11 (.h3 a (ndRows l) (l.length : Int) (i : Int) 0 0 (s.I.map inR) (s.C.map vlR) (s.L.map insR) sh (esR s.M) s.lg c0 c1) r
  | 0, i, a, s, hi, h1, h2, h3, h => by
    have hd : l.drop i = [] := List.drop_eq_nil_of_le (by omega)
    rw [hd] at h
    refine h.rec0 fun k rec => ?_
    have hlt : decide ((i : Int) < (l.length : Int)) = false := by simp; omega
    show t11_h3 k rec _ _ _ _ _ _ _ _ _ _ _ _ _ _ = _
    unfold t11_h3
    rw [hlt, cond_false, List.length_map]; rfl
  | m + 1, i, a, s, hi, h1, h2, h3, h => by
    have hx : l[i]? = some (l[i]'(by omega)) := List.getElem?_eq_getElem _
    generalize l[i]'(by omega) = n at hx
    have hd := cnts_drop hx
    have hc : 1 ≤ cnt n := by cases n; simp [cnt]
    have hrn : rightB n = true := by
      have : ∀ (l : List Nd) (i : Nat), rightBs l = true → l[i]? = some n → rightB n = true := by
        intro l
        induction l with
        | nil => intro i _ h; simp at h
        | cons y l ih =>
          intro i h e
          simp only [rightBs, Bool.and_eq_true] at h
          cases i with
          | zero => simp at e; subst e; exact h.1
          | succ i => exact ih i h.2 (by simpa using e)
      exact this l i hr hx
    have hlt : decide ((i : Int) < (l.length : Int)) = true := by simp; omega
    have hle := cnts_drop_le l i
    have hll := cnts_len l
    have bd := nodeS_bd sh n s
    have b1 := bd.I; have b2 := bd.C; have b3 := bd.L
    rw [goS_drop hx] at h
    -- the node
    have h4 : Goes step11 (.h4 a (i : Int) (ndRows l) (l.length : Int) (i : Int) n.op n.kind (ndRows n.args) n.vk n.vb n.pos n.attr 0 0 (s.I.map inR) (s.C.map vlR) (s.L.map insR) sh (esR s.M) s.lg c0 c1) r := by
      by_cases h0 : i = 0
      · subst h0
        simp only [Nat.zero_add] at hd
        rw [if_pos rfl] at h
        have ih := g11_loop l hr hb (c0 := c0) (c1 := c1) (r := r) m 1 _ (nodeS sh n s).2 (by omega) (by omega) (by omega) (by omega) h
        have h7 : Goes step11 (.h7 (nodeS sh n s).1 (ndRows l) (l.length : Int) ((0 : Nat) : Int) 0 0 ((nodeS sh n s).2.I.map inR) ((nodeS sh n s).2.C.map vlR) ((nodeS sh n s).2.L.map insR) sh (esR (nodeS sh n s).2.M) (nodeS sh n s).2.lg c0 c1) r := ih.rec0 fun k rec => rfl
        obtain ⟨N, hN⟩ := g25_node (sh := sh) (a0 := 0) (a1 := 0) n s hrn (by omega) (by omega) (by omega)
        refine h7.rec ⟨N, fun k hk rec => ?_⟩
        show t11_h4 k rec a _ _ _ _ _ _ _ _ _ _ _ _ _ _ _ _ _ _ _ _ _ = _
        unfold t11_h4
        have hk' : g25d k n.op n.kind (ndRows n.args) n.vk n.vb n.pos n.attr 0 0 (s.I.map inR) (s.C.map vlR) (s.L.map insR) sh (esR s.M) s.lg = some _ := hN k hk
        rw [hk']
        rfl
      · rw [if_neg h0] at h
        have pb := putSS_bd sh 13 a (nodeS sh n s).1 (nodeS sh n s).2
        have p1 := pb.I; have p2 := pb.C; have p3 := pb.L
        have ih := g11_loop l hr hb (c0 := c0) (c1 := c1) (r := r) m (i + 1) _ (putSS sh 13 a (nodeS sh n s).1 (nodeS sh n s).2).2 (by omega) (by omega) (by omega) (by omega) h
        have h7 : Goes step11 (.h7 (putSS sh 13 a (nodeS sh n s).1 (nodeS sh n s).2).1 (ndRows l) (l.length : Int) (i : Int) 0 0 ((putSS sh 13 a (nodeS sh n s).1 (nodeS sh n s).2).2.I.map inR) ((putSS sh 13 a (nodeS sh n s).1 (nodeS sh n s).2).2.C.map vlR) ((putSS sh 13 a (nodeS sh n s).1 (nodeS sh n s).2).2.L.map insR) sh (esR (putSS sh 13 a (nodeS sh n s).1 (nodeS sh n s).2).2.M) (putSS sh 13 a (nodeS sh n s).1 (nodeS sh n s).2).2.lg c0 c1) r := by
          refine ih.rec0 fun k rec => ?_
          show t11_h7 k rec _ _ _ _ _ _ _ _ _ _ _ _ _ _ = _
          unfold t11_h7
          rw [wrap1 i (by omega)]
        have h6 : Goes step11 (.h6 a (nodeS sh n s).1 (ndRows l) (l.length : Int) (i : Int) 0 0 ((nodeS sh n s).2.I.map inR) ((nodeS sh n s).2.C.map vlR) ((nodeS sh n s).2.L.map insR) sh (esR (nodeS sh n s).2.M) (nodeS sh n s).2.lg c0 c1) r := by
          obtain ⟨N, hN⟩ := g26_ss (sh := sh) (op := 13) (d := 0) (a := a) (b := (nodeS sh n s).1) (a0 := 0) (a1 := 0) (nodeS sh n s).2 (by omega)
          refine h7.rec ⟨N, fun k hk rec => ?_⟩
          show t11_h6 k rec _ _ _ _ _ _ _ _ _ _ _ _ _ _ _ = _
          unfold t11_h6
          have hk' : g26e k 13 0 a (nodeS sh n s).1 0 0 ((nodeS sh n s).2.I.map inR) ((nodeS sh n s).2.C.map vlR) ((nodeS sh n s).2.L.map insR) sh (esR (nodeS sh n s).2.M) (nodeS sh n s).2.lg = some _ := hN k hk
          rw [hk']
          rfl
        obtain ⟨N, hN⟩ := g25_node (sh := sh) (a0 := 0) (a1 := 0) n s hrn (by omega) (by omega) (by omega)
        refine h6.rec ⟨N, fun k hk rec => ?_⟩
        show t11_h4 k rec a _ _ _ _ _ _ _ _ _ _ _ _ _ _ _ _ _ _ _ _ _ = _
        unfold t11_h4
        have hk' : g25d k n.op n.kind (ndRows n.args) n.vk n.vb n.pos n.attr 0 0 (s.I.map inR) (s.C.map vlR) (s.L.map insR) sh (esR s.M) s.lg = some _ := hN k hk
        have hpos : decide ((i : Int) > 0) = true := by simp; omega
        rw [hk', hpos]
        rfl
    refine h4.rec0 fun k rec => ?_
    show t11_h3 k rec _ _ _ _ _ _ _ _ _ _ _ _ _ _ = _
    unfold t11_h3
    rw [hlt, cond_true, ixR_at (nd_at hx), un_nd]

theorem rightBs_at {l : List Nd} {i : Nat} {n : Nd} (hr : rightBs l = true) (hx : l[i]? = some n) : rightB n = true := by
  induction l generalizing i with
  | nil => simp at hx
  | cons y l ih =>
    simp only [rightBs, Bool.and_eq_true] at hr
    cases i with
    | zero => simp at hx; subst hx; exact hr.1
    | succ i => exact ih hr.2 (by simpa using hx)

/-- what the document's loop ends in. -/
abbrev R12 := Int × Int × Rs × Rs × Rs × Int
def endR (x : Int × SR) : R12 := if 1024 < x.2.L.length + 1 then (0, 0, [], [], [], 2) else ((x.2.L.length : Int), 0, x.2.I.map inR, x.2.C.map vlR, (x.2.L ++ [(⟨52, 0, x.1, 0⟩ : Ins4)]).map insR, 0)
theorem imm_rows {α : Type} (f : α → List Cell) (hf : ∀ x, (f x).map immC = f x) (l : List α) : immRs (l.map f) = l.map f := by
  rw [immRs_eq, List.map_map]
  exact List.map_congr_left fun x _ => hf x
theorem imm_in (l : List In4) : immRs (l.map inR) = l.map inR := imm_rows inR (fun _ => rfl) l
theorem imm_vl (l : List Vl) : immRs (l.map vlR) = l.map vlR := imm_rows vlR (fun _ => rfl) l
theorem imm_ins (l : List Ins4) : immRs (l.map insR) = l.map insR := imm_rows insR (fun _ => rfl) l

end Ab
end Go.Proofs.Ytebmcaceklbopaa

/-
  The code of any conditions: what the program makes is what the document's answer makes.
-/
import Derived.Test.YtebmcaceklbopaaM10
set_option linter.unusedVariables false
set_option linter.unusedSimpArgs false
namespace Go.Proofs.Ytebmcaceklbopaa
namespace Ab

def s0 : SS := ⟨[], [], [], [], false⟩
def t0 : SR := ⟨[], [], []⟩
def okL (l : List Nd) : Bool := !l.isEmpty && rightBs l
def makeB (sh : Bool) (l : List Nd) : R12 := if okL l = true then endR (goR sh l 0 0 t0) else (0, 0, [], [], [], 1)
theorem rl0 (sh : Bool) : Rl sh s0 t0 := ⟨fun h => (by cases h), fun _ => ⟨rfl, rfl, rfl, Nat.zero_le _, fun _ => rfl⟩, fun i x h => (by simp [s0] at h)⟩

theorem g11_make (sh : Bool) (l : List Nd) (hb : cnts l < 1048577) : Tot (fun k => g11 k (ndRows l) sh) (makeB sh l) := by
  by_cases h0 : l = []
  · subst h0
    refine Tot.of_goes (s := S11.e _ _) ((Goes.fin0 (step := step11) (s := .h0 1 0 0 [] [] []) fun k rec => rfl).rec0 fun k rec => rfl)
  · have hl : l.length ≠ 0 := fun e => h0 (List.eq_nil_of_length_eq_zero e)
    have h := g11_right (sh := sh) l hb (r := makeB sh l) l.length 0 (by omega) (fun hr => by
      rw [List.drop_zero] at hr
      have ho : okL l = true := by simp [okL, hr, h0]
      have hgo := rel_go l 0 0 0 s0 t0 (rl0 sh) hr (fun _ => rfl)
      have e : makeB sh l = endS (goS sh l 0 0 s0) := by unfold makeB; rw [if_pos ho]; exact (end_same hgo.1 hgo.2.1).symm
      rw [e]
      have bd := goS_bd sh l 0 0 s0
      have b3 := bd.L
      simp only [s0, List.length_nil] at b3
      have hend := g11_end (goS sh l 0 0 s0) (by simp only [s0]; omega)
      exact g11_loop (sh := sh) l hr (by omega) l.length 0 0 s0 (by omega) (by simp only [s0, List.drop_zero, List.length_nil]; omega) (by simp only [s0, List.drop_zero, List.length_nil]; omega) (by simp only [s0, List.drop_zero, List.length_nil]; omega) (by rw [List.drop_zero]; exact hend))
      (fun hr => by
        rw [List.drop_zero] at hr
        have ho : ¬ okL l = true := by simp [okL, hr]
        unfold makeB; rw [if_neg ho])
    refine Tot.of_goes (s := S11.e _ _) (h.rec0 fun k rec => ?_)
    show t11_e k rec _ _ = _
    unfold t11_e
    have e : (((ndRows l).length : Int) == 0) = false := by rw [ndRows_len]; simp; omega
    rw [e, cond_false, ndRows_len]
    rfl

theorem g12_right {sh : Bool} (l : List Nd) (hb : cnts l < 1048577) {r : R12} : ∀ (m i : Nat) (ok : Bool), i + m = l.length →
    ((ok && rightBs (l.drop i)) = true → Goes step12 (.h3 (ndRows l) sh 0 0 [] [] [] 0 0) r) → ((ok && rightBs (l.drop i)) = false → r = (0, 0, [], [], [], 1)) →
    Goes step12 (.h0 (ndRows l) sh ok (l.length : Int) (i : Int) 0 0) r
  | 0, i, ok, hi, h1, h2 => by
    have hd : l.drop i = [] := List.drop_eq_nil_of_le (by omega)
    rw [hd] at h1 h2
    have hlt : decide ((i : Int) < (l.length : Int)) = false := by simp; omega
    cases ok with
    | true =>
      refine (h1 rfl).rec0 fun k rec => ?_
      show t12_h0 k rec _ _ _ _ _ _ _ = _
      unfold t12_h0
      rw [hlt]; rfl
    | false =>
      rw [h2 rfl]
      refine (Goes.fin0 (step := step12) (s := .h2 1 0 0 [] [] []) fun k rec => rfl).rec0 fun k rec => ?_
      show t12_h0 k rec _ _ _ _ _ _ _ = _
      unfold t12_h0
      rw [hlt]; rfl
  | m + 1, i, ok, hi, h1, h2 => by
    have hx : l[i]? = some (l[i]'(by omega)) := List.getElem?_eq_getElem _
    generalize l[i]'(by omega) = n at hx
    have hlt : decide ((i : Int) < (l.length : Int)) = true := by simp; omega
    have hll := cnts_len l
    obtain ⟨N, hN⟩ := g27_right n (by have := cnts_get hx; omega)
    rw [rightBs_drop hx] at h1 h2
    have next : ∀ ok' : Bool, ok' = (ok && rightB n) → Goes step12 (.h1 (ndRows l) sh ok' (l.length : Int) (i : Int) 0 0) r := by
      intro ok' he
      refine (g12_right (sh := sh) l hb (r := r) m (i + 1) ok' (by omega) (fun h => h1 (by rw [he, Bool.and_assoc] at h; exact h)) (fun h => h2 (by rw [he, Bool.and_assoc] at h; exact h))).rec0 fun k rec => ?_
      show t12_h1 k rec _ _ _ _ _ _ _ = _
      unfold t12_h1
      rw [wrap1 i (by omega)]
    cases ok with
    | true =>
      refine (next (rightB n) (by simp)).rec ⟨N, fun k hk rec => ?_⟩
      show t12_h0 k rec _ _ _ _ _ _ _ = _
      unfold t12_h0
      have hk' : g27 k n.op n.kind (ndRows n.args) n.vk n.vb n.pos n.attr = some (rightB n) := hN k hk
      rw [hlt, cond_true, cond_true, ixR_at (nd_at hx), un_nd, hk']
      rfl
    | false =>
      refine (next false (by simp)).rec0 fun k rec => ?_
      show t12_h0 k rec _ _ _ _ _ _ _ = _
      unfold t12_h0
      rw [hlt, cond_true, cond_false]

theorem g12_make (sh : Bool) (l : List Nd) (hb : cnts l < 1048577) : Tot (fun k => g12 k (ndRows l) sh) (makeB sh l) := by
  have h := g12_right (sh := sh) l hb (r := makeB sh l) l.length 0 (decide ((l.length : Int) > 0)) (by omega) (fun hr => by
    rw [List.drop_zero, Bool.and_eq_true] at hr
    obtain ⟨hp, hr⟩ := hr
    have hp' : 0 < l.length := by simpa using hp
    obtain ⟨n, l', rfl⟩ : ∃ n l', l = n :: l' := by
      cases l with
      | nil => simp at hp'
      | cons n l' => exact ⟨n, l', rfl⟩
    have ho : okL (n :: l') = true := by simp [okL, hr]
    have e : makeB sh (n :: l') = endR (goR sh l' 1 (nodeR sh n t0).1 (nodeR sh n t0).2) := by unfold makeB; rw [if_pos ho]; rfl
    rw [e]
    have hrn := rightBs_at (i := 0) hr rfl
    have hc : cnts (n :: l') = cnt n + cnts l' := rfl
    have bd := nodeR_bd sh n t0
    have b1 := bd.I; have b2 := bd.C; have b3 := bd.L
    simp only [t0, List.length_nil] at b1 b2 b3
    have hlo := g12_loop (sh := sh) (n :: l') hr (by omega) (c0 := 0) (c1 := 0) l'.length 1 (nodeR sh n t0).1 (nodeR sh n t0).2 (by simp; omega) (by omega) (by simp only [List.drop_succ_cons, List.drop_zero, t0]; omega) (by simp only [List.drop_succ_cons, List.drop_zero, t0]; omega) (by simp only [List.drop_succ_cons, List.drop_zero, t0]; omega)
    obtain ⟨N, hN⟩ := g28_node (sh := sh) (a0 := 0) (a1 := 0) n t0 hrn (by simp only [t0, List.length_nil]; omega) (by simp only [t0, List.length_nil]; omega) (by simp only [t0, List.length_nil]; omega)
    refine hlo.rec ⟨N, fun k hk rec => ?_⟩
    show t12_h3 k rec _ _ _ _ _ _ _ _ _ = _
    unfold t12_h3
    have hk' : g28c k sh n.op n.kind (ndRows n.args) n.vk n.vb n.pos n.attr 0 0 [] [] [] = some (tupR 0 0 (nodeR sh n t0)) := hN k hk
    rw [show ndRows (n :: l') = ndRow n :: ndRows l' from rfl, ixR_0, un_nd, hk']
    rfl) (fun hr => by
    rw [List.drop_zero] at hr
    have ho : ¬ okL l = true := by
      intro ho
      simp only [okL, Bool.and_eq_true] at ho
      rw [ho.2, Bool.and_true] at hr
      cases l with
      | nil => simp at ho
      | cons n l =>
        simp only [List.length_cons, decide_eq_false_iff_not] at hr
        omega
    unfold makeB; rw [if_neg ho])
  refine Tot.of_goes (s := S12.e _ _) (h.rec0 fun k rec => ?_)
  show t12_e k rec _ _ = _
  unfold t12_e
  rw [ndRows_len]; rfl
end Ab
end Go.Proofs.Ytebmcaceklbopaa

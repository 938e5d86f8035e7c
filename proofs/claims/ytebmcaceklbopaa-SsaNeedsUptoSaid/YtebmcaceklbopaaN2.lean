/-
  Nodes that are alike; which nodes code can be made of: the program's answer and the document's.
-/
import Derived.Test.YtebmcaceklbopaaN1
set_option linter.unusedVariables false
set_option linter.unusedSimpArgs false
namespace Go.Proofs.Ytebmcaceklbopaa
namespace Ab

/-! ## alike -/

/-! ## right -/
def leafB (op : Int) : Bool := op == 41 || op == 42 || decide (25 ≤ op) && decide (op ≤ 31)
mutual
def rightB : Nd → Bool
  | .mk op _ args _ _ _ _ => match args with
    | [] => op == 40 || leafB op
    | a :: l => nOps op == ((l.length + 1 : Nat) : Int) && (rightB a && rightBs l)
def rightBs : List Nd → Bool
  | [] => true
  | a :: l => rightB a && rightBs l
end
theorem rightB_leaf {n : Nd} (h : n.args = []) : rightB n = (n.op == 40 || leafB n.op) := by
  cases n with
  | mk op kind args vk vb pos attr => cases args <;> simp_all [Nd.args, rightB, Nd.op]
theorem rightB_node {n : Nd} (h : n.args ≠ []) : rightB n = (nOps n.op == (n.args.length : Int) && rightBs n.args) := by
  cases n with
  | mk op kind args vk vb pos attr => cases args <;> simp_all [Nd.args, rightB, Nd.op, rightBs]
theorem rightBs_drop {l : List Nd} {i : Nat} {n : Nd} (h : l[i]? = some n) : rightBs (l.drop i) = (rightB n && rightBs (l.drop (i + 1))) := by
  have hi := (List.getElem?_eq_some_iff.1 h).1
  rw [List.drop_eq_getElem_cons hi]
  have : l[i] = n := (List.getElem?_eq_some_iff.1 h).2
  rw [this, rightBs]

theorem g39_leaf (op : Int) : Tot (fun k => g39 k op) (leafB op) := by
  refine tot_deep 1 fun j => ?_
  show t39_e j (itS step39 j) op = _
  unfold t39_e leafB
  by_cases h1 : op = 41
  · simp [h1]
  · by_cases h2 : op = 42
    · simp [h2]
    · have e1 : (op == 41) = false := by simpa using h1
      have e2 : (op == 42) = false := by simpa using h2
      by_cases h3 : op ≥ 25
      · simp [e1, e2, h3]
      · simp [e1, e2, h3]
theorem g24_loop (n : Nd) (hP : ∀ a ∈ n.args, Goes step24 (.e a.op a.kind (ndRows a.args) a.vk a.vb a.pos a.attr) (rightB a)) (hb : n.args.length < 1048577) :
    ∀ (m i : Nat), i + m = n.args.length →
      Goes step24 (.h0 (ndRows n.args) (n.args.length : Int) (i : Int) n.op n.kind (ndRows n.args) n.vk n.vb n.pos n.attr) (nOps n.op == (n.args.length : Int) && rightBs (n.args.drop i))
  | 0, i, hi => by
    have : n.args.drop i = [] := List.drop_eq_nil_of_le (by omega)
    rw [this]
    obtain ⟨N, hN⟩ := g30_nOps n.op
    refine Goes.fin ⟨N, fun k hk rec => ?_⟩
    have hlt : decide ((i : Int) < (n.args.length : Int)) = false := by simp; omega
    show t24_h0 k rec _ _ _ _ _ _ _ _ _ _ = _
    unfold t24_h0
    have h30 : g30 k n.op = some (nOps n.op) := hN k hk
    rw [hlt, cond_false, h30]
    simp [rightBs, ndRows_len]
  | m + 1, i, hi => by
    have hx : n.args[i]? = some (n.args[i]'(by omega)) := List.getElem?_eq_getElem _
    generalize n.args[i]'(by omega) = a at hx
    have ih := g24_loop n hP hb m (i + 1) (by omega)
    have hlt : decide ((i : Int) < (n.args.length : Int)) = true := by simp; omega
    rw [rightBs_drop hx]
    have ha := hP a (List.mem_of_getElem? hx)
    cases hr : rightB a with
    | true =>
      rw [hr] at ha
      rw [Bool.true_and]
      refine ha.self ih fun k rec hr => ?_
      show t24_h0 k rec _ _ _ _ _ _ _ _ _ _ = _
      unfold t24_h0
      rw [hlt, cond_true, ixR_at (nd_at hx), un_nd, hr]
      simp [wrap1 i (by omega)]
    | false =>
      rw [hr] at ha
      obtain ⟨N, hN⟩ := ha
      refine ⟨N + 1, fun k hk => ?_⟩
      obtain ⟨j, rfl⟩ : ∃ j, k = j + 1 := ⟨k - 1, by omega⟩
      show t24_h0 j (itS step24 j) _ _ _ _ _ _ _ _ _ _ = _
      unfold t24_h0
      have : itS step24 j (S24.e a.op a.kind (ndRows a.args) a.vk a.vb a.pos a.attr) = some false := hN j (by omega)
      rw [hlt, cond_true, ixR_at (nd_at hx), un_nd, this]
      simp
mutual
theorem g24_right : ∀ (n : Nd), cnt n < 1048577 → Goes step24 (.e n.op n.kind (ndRows n.args) n.vk n.vb n.pos n.attr) (rightB n)
  | .mk op kind args vk vb pos attr, hb => by
    have hb' : cnts args < 1048577 := by simp only [cnt] at hb; omega
    by_cases h0 : args = []
    · obtain ⟨N, hN⟩ := g39_leaf op
      rw [rightB_leaf (n := .mk op kind args vk vb pos attr) h0]
      refine Goes.fin ⟨N, fun k hk rec => ?_⟩
      show t24_e k rec op kind (ndRows args) vk vb pos attr = _
      unfold t24_e
      have h39 : g39 k op = some (leafB op) := hN k hk
      rw [h39]
      subst h0
      by_cases h40 : op = 40
      · simp [ndRows, Nd.op, h40]
      · have e : (op == 40) = false := by simpa using h40
        simp [ndRows, Nd.op, e]
    · have h := g24_loop (.mk op kind args vk vb pos attr) (g24_all args hb') (by have := cnts_len args; show args.length < _; omega) args.length 0 (Nat.zero_add _)
      rw [List.drop_zero, ← rightB_node (n := .mk op kind args vk vb pos attr) h0] at h
      refine h.rec0 fun k rec => ?_
      show t24_e k rec op kind (ndRows args) vk vb pos attr = _
      unfold t24_e
      have hl : args.length ≠ 0 := fun e => h0 (List.eq_nil_of_length_eq_zero e)
      have e : ((args.length : Int) == 0) = false := by simp; omega
      rw [ndRows_len, e, cond_false]
      rfl
theorem g24_all : ∀ (l : List Nd), cnts l < 1048577 → ∀ n ∈ l, Goes step24 (.e n.op n.kind (ndRows n.args) n.vk n.vb n.pos n.attr) (rightB n)
  | [], _, n, hn => by cases hn
  | m :: l, hb, n, hn => by
    simp only [cnts] at hb
    rcases List.mem_cons.1 hn with h | h
    · rw [h]; exact g24_right m (by omega)
    · exact g24_all l (by omega) n h
end

end Ab
end Go.Proofs.Ytebmcaceklbopaa

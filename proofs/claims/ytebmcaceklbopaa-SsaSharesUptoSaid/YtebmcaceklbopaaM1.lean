/-
  Nodes as data of their own; how many there are; which of them code can be made of.
-/
import Derived.Test.YtebmcaceklbopaaM0
set_option linter.unusedVariables false
set_option linter.unusedSimpArgs false
namespace Go.Proofs.Ytebmcaceklbopaa
namespace Ab

inductive Nd where
  | mk (op kind : Int) (args : List Nd) (vk vb pos attr : Int)
mutual
def ndRow : Nd → List Cell
  | .mk op kind args vk vb pos attr => [ic op, ic kind, .imm (ndRows args), ic vk, .val (.int .u64 vb), ic pos, ic attr]
def ndRows : List Nd → Rs
  | [] => []
  | n :: l => ndRow n :: ndRows l
end
mutual
def cnt : Nd → Nat
  | .mk _ _ args _ _ _ _ => cnts args + 1
def cnts : List Nd → Nat
  | [] => 0
  | n :: l => cnt n + cnts l
end
theorem ndRows_len : ∀ (l : List Nd), (ndRows l).length = l.length
  | [] => rfl
  | n :: l => by simp [ndRows, ndRows_len l]
theorem ndRows_get : ∀ (l : List Nd) (i : Nat), (ndRows l)[i]? = (l[i]?).map ndRow
  | [], i => by simp [ndRows]
  | n :: l, 0 => rfl
  | n :: l, i + 1 => by simp [ndRows, ndRows_get l i]
theorem cnts_get {l : List Nd} {i : Nat} {n : Nd} (h : l[i]? = some n) : cnt n ≤ cnts l := by
  induction l generalizing i with
  | nil => simp at h
  | cons m l ih =>
    cases i with
    | zero => simp at h; subst h; simp [cnts]
    | succ i => have := ih (by simpa using h); simp only [cnts]; omega
theorem cnts_len (l : List Nd) : l.length ≤ cnts l := by
  induction l with
  | nil => simp [cnts]
  | cons n l ih => cases n; simp only [cnts, cnt, List.length_cons]; omega
theorem cnts_drop {l : List Nd} {i : Nat} {n : Nd} (h : l[i]? = some n) : cnts (l.drop i) = cnt n + cnts (l.drop (i + 1)) := by
  have hi := (List.getElem?_eq_some_iff.1 h).1
  rw [List.drop_eq_getElem_cons hi]
  have : l[i] = n := (List.getElem?_eq_some_iff.1 h).2
  rw [this, cnts]
theorem cnts_drop_le (l : List Nd) (i : Nat) : cnts (l.drop i) ≤ cnts l := by
  induction l generalizing i with
  | nil => simp
  | cons n l ih =>
    cases i with
    | zero => simp
    | succ i => have := ih i; simp only [List.drop_succ_cons, cnts]; omega
mutual
theorem immC_ndRow : ∀ n : Nd, (ndRow n).map immC = ndRow n
  | .mk op kind args vk vb pos attr => rfl
theorem imm_ndRows : ∀ l : List Nd, immRs (ndRows l) = ndRows l
  | [] => rfl
  | n :: l => by
    have h1 := immC_ndRow n
    have h2 := imm_ndRows l
    rw [immRs_eq] at *
    simp only [ndRows, List.map_cons, h1, h2]
end
def Nd.op : Nd → Int
  | .mk x _ _ _ _ _ _ => x
def Nd.kind : Nd → Int
  | .mk _ x _ _ _ _ _ => x
def Nd.args : Nd → List Nd
  | .mk _ _ x _ _ _ _ => x
def Nd.vk : Nd → Int
  | .mk _ _ _ x _ _ _ => x
def Nd.vb : Nd → Int
  | .mk _ _ _ _ x _ _ => x
def Nd.pos : Nd → Int
  | .mk _ _ _ _ _ x _ => x
def Nd.attr : Nd → Int
  | .mk _ _ _ _ _ _ x => x
theorem ndRow_eq (n : Nd) : ndRow n = [ic n.op, ic n.kind, .imm (ndRows n.args), ic n.vk, .val (.int .u64 n.vb), ic n.pos, ic n.attr] := by cases n; rfl
theorem un_nd {α : Type} (n : Nd) (k : Int → Int → Rs → Int → Int → Int → Int → Option α) : un_iimiuii (ndRow n) k = k n.op n.kind (ndRows n.args) n.vk n.vb n.pos n.attr := by
  cases n; rfl
theorem nd_at {l : List Nd} {i : Nat} {n : Nd} (h : l[i]? = some n) : (ndRows l)[i]? = some (ndRow n) := by rw [ndRows_get, h]; rfl

theorem cnt_args (n : Nd) : cnts n.args + 1 = cnt n := by cases n; rfl

/-- a call's answer, from some depth on, within a stretch. -/
theorem Goes.call {S R A : Type} {step : Nat → (S → Option R) → S → Option R} {s s' : S} {r : R} {g : Nat → Option A} {a : A} (hg : Tot g a) (h : Goes step s' r) (e : ∀ k rec, g k = some a → step k rec s = rec s') : Goes step s r := by
  obtain ⟨N, hN⟩ := hg
  exact h.rec ⟨N, fun k hk rec => e k rec (hN k hk)⟩
/-- a call of itself. -/
theorem Goes.self {S R : Type} {step : Nat → (S → Option R) → S → Option R} {s s1 s' : S} {r1 r : R} (h1 : Goes step s1 r1) (h : Goes step s' r) (e : ∀ k rec, rec s1 = some r1 → step k rec s = rec s') : Goes step s r := by
  obtain ⟨N, hN⟩ := h1
  obtain ⟨M, hM⟩ := h
  refine ⟨max N M + 1, fun k hk => ?_⟩
  obtain ⟨j, rfl⟩ : ∃ j, k = j + 1 := ⟨k - 1, by omega⟩
  show step j (itS step j) s = some r
  rw [e j (itS step j) (hN j (by omega))]
  exact hM j (by omega)
theorem Tot.of_goes {S R : Type} {step : Nat → (S → Option R) → S → Option R} {s : S} {r : R} (h : Goes step s r) : Tot (fun k => itS step k s) r := h

/-! ## how many -/
theorem g8_loop (args : List Nd) (hP : ∀ n ∈ args, Goes step8 (.e n.op n.kind (ndRows n.args) n.vk n.vb n.pos n.attr) (cnt n : Int)) (hb : cnts args < 1152921504606846976)
    {o kd vk vb pos attr : Int} : ∀ (m i : Nat) (c : Nat), i + m = args.length → c + cnts (args.drop i) < 2305843009213693952 →
      Goes step8 (.h0 (c : Int) (args.length : Int) (i : Int) o kd (ndRows args) vk vb pos attr) ((c + cnts (args.drop i) : Nat) : Int)
  | 0, i, c, hi, hc => by
    have : args.drop i = [] := List.drop_eq_nil_of_le (by omega)
    rw [this]
    refine Goes.fin0 fun k rec => ?_
    have hlt : decide ((i : Int) < (args.length : Int)) = false := by simp; omega
    show t8_h0 k rec _ _ _ _ _ _ _ _ _ _ = _
    unfold t8_h0
    rw [hlt]; simp [cnts]
  | m + 1, i, c, hi, hc => by
    have hx : args[i]? = some (args[i]'(by omega)) := List.getElem?_eq_getElem _
    generalize args[i]'(by omega) = n at hx
    have hd := cnts_drop hx
    have ih := g8_loop args hP hb (o := o) (kd := kd) (vk := vk) (vb := vb) (pos := pos) (attr := attr) m (i + 1) (c + cnt n) (by omega) (by omega)
    have hlt : decide ((i : Int) < (args.length : Int)) = true := by simp; omega
    rw [hd, ← Nat.add_assoc]
    refine (hP n (List.mem_of_getElem? hx)).self ih fun k rec hr => ?_
    show t8_h0 k rec _ _ _ _ _ _ _ _ _ _ = _
    unfold t8_h0
    rw [hlt, cond_true, ixR_at (nd_at hx), un_nd, hr]
    have hl := cnts_len args
    have hw := wrap1 i (by omega)
    have hw2 : IntKind.i64.wrap ((c : Int) + ((cnt n : Nat) : Int)) = ((c + cnt n : Nat) : Int) := by rw [IntKind.wrap_i64]; omega
    simp only [Option.bind_some, hw, hw2]
mutual
theorem g8_cnt : ∀ (n : Nd), cnt n < 1152921504606846976 → Goes step8 (.e n.op n.kind (ndRows n.args) n.vk n.vb n.pos n.attr) (cnt n : Int)
  | .mk op kind args vk vb pos attr, hb => by
    have hb' : cnts args < 1152921504606846976 := by simp only [cnt] at hb; omega
    have h := g8_loop args (g8_all args hb') hb' (o := op) (kd := kind) (vk := vk) (vb := vb) (pos := pos) (attr := attr) args.length 0 1 (by omega) (by rw [List.drop_zero]; omega)
    rw [List.drop_zero] at h
    have e : ((1 + cnts args : Nat) : Int) = (cnt (.mk op kind args vk vb pos attr) : Int) := by simp only [cnt]; omega
    rw [e] at h
    refine h.rec0 fun k rec => ?_
    show t8_e k rec op kind (ndRows args) vk vb pos attr = _
    unfold t8_e
    rw [ndRows_len]; rfl
theorem g8_all : ∀ (l : List Nd), cnts l < 1152921504606846976 → ∀ n ∈ l, Goes step8 (.e n.op n.kind (ndRows n.args) n.vk n.vb n.pos n.attr) (cnt n : Int)
  | [], _, n, hn => by cases hn
  | m :: l, hb, n, hn => by
    simp only [cnts] at hb
    rcases List.mem_cons.1 hn with h | h
    · rw [h]; exact g8_cnt m (by omega)
    · exact g8_all l (by omega) n h
end

/-! ## twins -/
theorem g10_loop (l : List Nd) (hP : ∀ n ∈ l, Goes step10 (.e (ndRows n.args)) (ndRows n.args)) (hb : l.length < 1048577) :
    ∀ (m i : Nat), i + m = l.length → Goes step10 (.h0 (ndRows l) (ndRows (l.take i)) (l.length : Int) (i : Int)) (ndRows l)
  | 0, i, hi => by
    refine Goes.fin0 fun k rec => ?_
    have hlt : decide ((i : Int) < (l.length : Int)) = false := by simp; omega
    show t10_h0 k rec _ _ _ _ = _
    unfold t10_h0
    rw [hlt, List.take_of_length_le (by omega)]; rfl
  | m + 1, i, hi => by
    have hx : l[i]? = some (l[i]'(by omega)) := List.getElem?_eq_getElem _
    generalize l[i]'(by omega) = n at hx
    have ih := g10_loop l hP hb m (i + 1) (by omega)
    have hlt : decide ((i : Int) < (l.length : Int)) = true := by simp; omega
    refine (hP n (List.mem_of_getElem? hx)).self ih fun k rec hr => ?_
    show t10_h0 k rec _ _ _ _ = _
    unfold t10_h0
    rw [hlt, cond_true, ixR_at (nd_at hx), un_nd, hr]
    have hw := wrap1 i (by omega)
    have hap : ∀ row : List Cell, row.length = 7 → apOk 72 7 (ndRows (l.take i)) [row] = true := by
      intro row hr
      have : (ndRows (l.take i)).length ≤ 1048576 := by rw [ndRows_len, List.length_take]; omega
      simp [apOk, hr, lim]
      omega
    have htake : ndRows (l.take i) ++ [ndRow n] = ndRows (l.take (i + 1)) := by
      have : ∀ (a b : List Nd), ndRows (a ++ b) = ndRows a ++ ndRows b := by
        intro a b
        induction a with
        | nil => rfl
        | cons x a ih => simp [ndRows, ih]
      rw [List.take_add_one, hx, this]; rfl
    simp only [Option.bind_some, imm_ndRows]
    rw [hap _ rfl]
    simp only [gd, cond_true, hw, ← ndRow_eq, htake]
mutual
theorem g10_args : ∀ (n : Nd), cnt n < 1048577 → Goes step10 (.e (ndRows n.args)) (ndRows n.args)
  | .mk op kind args vk vb pos attr, hb => g10_list args (by simp only [cnt] at hb; omega)
theorem g10_list : ∀ (l : List Nd), cnts l < 1048577 → Goes step10 (.e (ndRows l)) (ndRows l)
  | l, hb => by
    have h := g10_loop l (g10_all l hb) (by have := cnts_len l; omega) l.length 0 (by omega)
    refine h.rec0 fun k rec => ?_
    show t10_e k rec (ndRows l) = _
    unfold t10_e
    rw [ndRows_len]; rfl
theorem g10_all : ∀ (l : List Nd), cnts l < 1048577 → ∀ n ∈ l, Goes step10 (.e (ndRows n.args)) (ndRows n.args)
  | [], _, n, hn => by cases hn
  | m :: l, hb, n, hn => by
    simp only [cnts] at hb
    rcases List.mem_cons.1 hn with h | h
    · rw [h]; exact g10_args m (by omega)
    · exact g10_all l (by omega) n h
end
end Ab
end Go.Proofs.Ytebmcaceklbopaa

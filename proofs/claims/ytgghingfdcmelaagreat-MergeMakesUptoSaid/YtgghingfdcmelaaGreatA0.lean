/-
  Functions by steps, from some depth on; nodes as data of their own.
-/
import Derived.Test.YtgghingfdcmelaaGreatF3b
set_option linter.unusedVariables false
set_option linter.unusedSimpArgs false
namespace Go.Proofs.YtgghingfdcmelaaGreat
namespace Ab
/-- from some depth on. -/
def Tot {α : Type} (f : Nat → Option α) (r : α) : Prop := ∃ N, ∀ k, N ≤ k → f k = some r
/-- from a state on, a function by steps comes to an answer. -/
def Goes {S R : Type} (step : Nat → (S → Option R) → S → Option R) (s : S) (r : R) : Prop := Tot (fun k => itS step k s) r
theorem Goes.rec {S R : Type} {step : Nat → (S → Option R) → S → Option R} {s s' : S} {r : R} (h : Goes step s' r) (e : ∃ N, ∀ k, N ≤ k → ∀ rec, step k rec s = rec s') : Goes step s r := by
  obtain ⟨N, hN⟩ := h
  obtain ⟨M, hM⟩ := e
  refine ⟨max N M + 1, fun k hk => ?_⟩
  obtain ⟨j, rfl⟩ : ∃ j, k = j + 1 := ⟨k - 1, by omega⟩
  show step j (itS step j) s = some r
  rw [hM j (by omega)]
  exact hN j (by omega)
theorem Goes.rec0 {S R : Type} {step : Nat → (S → Option R) → S → Option R} {s s' : S} {r : R} (h : Goes step s' r) (e : ∀ k rec, step k rec s = rec s') : Goes step s r := h.rec ⟨0, fun k _ => e k⟩
theorem Goes.fin {S R : Type} {step : Nat → (S → Option R) → S → Option R} {s : S} {r : R} (e : ∃ N, ∀ k, N ≤ k → ∀ rec, step k rec s = some r) : Goes step s r := by
  obtain ⟨M, hM⟩ := e
  refine ⟨M + 1, fun k hk => ?_⟩
  obtain ⟨j, rfl⟩ : ∃ j, k = j + 1 := ⟨k - 1, by omega⟩
  exact hM j (by omega) _
theorem Goes.fin0 {S R : Type} {step : Nat → (S → Option R) → S → Option R} {s : S} {r : R} (e : ∀ k rec, step k rec s = some r) : Goes step s r := .fin ⟨0, fun k _ => e k⟩

theorem tot_deep {α : Type} {f : Nat → Option α} {r : α} (N : Nat) (h : ∀ j, f (j + N) = some r) : Tot f r :=
  ⟨N, fun k hk => by obtain ⟨j, rfl⟩ : ∃ j, k = j + N := ⟨k - N, by omega⟩; exact h j⟩

def oneR (n : Int) : List Cell := [ic n]
theorem ixR_at {α : Type} {rows : Rs} {i : Nat} {row : List Cell} (h : rows[i]? = some row) (k : List Cell → Option α) : ixR rows (i : Int) k = k row := by
  have : decide ((0 : Int) ≤ (i : Int)) = true := by simp
  simp [ixR, h]
theorem map_at {α : Type} {L : List α} {f : α → List Cell} {i : Nat} {x : α} (h : L[i]? = some x) : (L.map f)[i]? = some (f x) := by rw [List.getElem?_map, h]; rfl
theorem wrap1 (i : Nat) (h : i < 4611686018427387904) : IntKind.i64.wrap ((i : Int) + 1) = ((i + 1 : Nat) : Int) := by
  rw [IntKind.wrap_i64]
  omega

inductive Nd where
  | mk (op kind : Int) (args : List Nd) (vk vb pos attr : Int)
mutual
def ndRow : Nd → List Cell
  | .mk op kind args vk vb pos attr => [ic op, ic kind, .imm (ndRows args), ic vk, .val (.int .u64 vb), ic pos, ic attr]
def ndRows : List Nd → Rs
  | [] => []
  | n :: l => ndRow n :: ndRows l
end
mutual
def cnt : Nd → Nat
  | .mk _ _ args _ _ _ _ => cnts args + 1
def cnts : List Nd → Nat
  | [] => 0
  | n :: l => cnt n + cnts l
end
theorem ndRows_len : ∀ (l : List Nd), (ndRows l).length = l.length
  | [] => rfl
  | n :: l => by simp [ndRows, ndRows_len l]
theorem ndRows_get : ∀ (l : List Nd) (i : Nat), (ndRows l)[i]? = (l[i]?).map ndRow
  | [], i => by simp [ndRows]
  | n :: l, 0 => rfl
  | n :: l, i + 1 => by simp [ndRows, ndRows_get l i]
theorem cnts_get {l : List Nd} {i : Nat} {n : Nd} (h : l[i]? = some n) : cnt n ≤ cnts l := by
  induction l generalizing i with
  | nil => simp at h
  | cons m l ih =>
    cases i with
    | zero => simp at h; subst h; simp [cnts]
    | succ i => have := ih (by simpa using h); simp only [cnts]; omega
theorem cnts_len (l : List Nd) : l.length ≤ cnts l := by
  induction l with
  | nil => simp [cnts]
  | cons n l ih => cases n; simp only [cnts, cnt, List.length_cons]; omega
theorem cnts_drop {l : List Nd} {i : Nat} {n : Nd} (h : l[i]? = some n) : cnts (l.drop i) = cnt n + cnts (l.drop (i + 1)) := by
  have hi := (List.getElem?_eq_some_iff.1 h).1
  rw [List.drop_eq_getElem_cons hi]
  have : l[i] = n := (List.getElem?_eq_some_iff.1 h).2
  rw [this, cnts]
theorem cnts_drop_le (l : List Nd) (i : Nat) : cnts (l.drop i) ≤ cnts l := by
  induction l generalizing i with
  | nil => simp
  | cons n l ih =>
    cases i with
    | zero => simp
    | succ i => have := ih i; simp only [List.drop_succ_cons, cnts]; omega
mutual
theorem immC_ndRow : ∀ n : Nd, (ndRow n).map immC = ndRow n
  | .mk op kind args vk vb pos attr => rfl
theorem imm_ndRows : ∀ l : List Nd, immRs (ndRows l) = ndRows l
  | [] => rfl
  | n :: l => by
    have h1 := immC_ndRow n
    have h2 := imm_ndRows l
    rw [immRs_eq] at *
    simp only [ndRows, List.map_cons, h1, h2]
end
def Nd.op : Nd → Int
  | .mk x _ _ _ _ _ _ => x
def Nd.kind : Nd → Int
  | .mk _ x _ _ _ _ _ => x
def Nd.args : Nd → List Nd
  | .mk _ _ x _ _ _ _ => x
def Nd.vk : Nd → Int
  | .mk _ _ _ x _ _ _ => x
def Nd.vb : Nd → Int
  | .mk _ _ _ _ x _ _ => x
def Nd.pos : Nd → Int
  | .mk _ _ _ _ _ x _ => x
def Nd.attr : Nd → Int
  | .mk _ _ _ _ _ _ x => x
theorem ndRow_eq (n : Nd) : ndRow n = [ic n.op, ic n.kind, .imm (ndRows n.args), ic n.vk, .val (.int .u64 n.vb), ic n.pos, ic n.attr] := by cases n; rfl
theorem un_nd {α : Type} (n : Nd) (k : Int → Int → Rs → Int → Int → Int → Int → Option α) : un_iimiuii (ndRow n) k = k n.op n.kind (ndRows n.args) n.vk n.vb n.pos n.attr := by
  cases n; rfl
theorem nd_at {l : List Nd} {i : Nat} {n : Nd} (h : l[i]? = some n) : (ndRows l)[i]? = some (ndRow n) := by rw [ndRows_get, h]; rfl

theorem cnt_args (n : Nd) : cnts n.args + 1 = cnt n := by cases n; rfl

/-- a call's answer, from some depth on, within a stretch. -/
theorem Goes.call {S R A : Type} {step : Nat → (S → Option R) → S → Option R} {s s' : S} {r : R} {g : Nat → Option A} {a : A} (hg : Tot g a) (h : Goes step s' r) (e : ∀ k rec, g k = some a → step k rec s = rec s') : Goes step s r := by
  obtain ⟨N, hN⟩ := hg
  exact h.rec ⟨N, fun k hk rec => e k rec (hN k hk)⟩
/-- a call of itself. -/
theorem Goes.self {S R : Type} {step : Nat → (S → Option R) → S → Option R} {s s1 s' : S} {r1 r : R} (h1 : Goes step s1 r1) (h : Goes step s' r) (e : ∀ k rec, rec s1 = some r1 → step k rec s = rec s') : Goes step s r := by
  obtain ⟨N, hN⟩ := h1
  obtain ⟨M, hM⟩ := h
  refine ⟨max N M + 1, fun k hk => ?_⟩
  obtain ⟨j, rfl⟩ : ∃ j, k = j + 1 := ⟨k - 1, by omega⟩
  show step j (itS step j) s = some r
  rw [e j (itS step j) (hN j (by omega))]
  exact hM j (by omega)
theorem Tot.of_goes {S R : Type} {step : Nat → (S → Option R) → S → Option R} {s : S} {r : R} (h : Goes step s r) : Tot (fun k => itS step k s) r := h



end Ab
end Go.Proofs.YtgghingfdcmelaaGreat

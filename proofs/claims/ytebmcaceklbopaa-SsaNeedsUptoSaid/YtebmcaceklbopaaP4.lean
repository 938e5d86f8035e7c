/-
  What is left of code isn't wider.
-/
import Derived.Test.YtebmcaceklbopaaP3
import Derived.Test.YtebmcaceklbopaaN20
set_option linter.unusedVariables false
set_option linter.unusedSimpArgs false
namespace Go.Proofs.Ytebmcaceklbopaa
namespace Ab

/-! ## the drop, as the program has it -/
theorem mk_ok {n by_ : Nat} (h : n < 1073741824) (hb : by_ ≤ 8) : mkOk (n : Int) (n : Int) by_ 1 = true := by
  have h1 : (n : Int) * (by_ : Int) ≤ 1073741824 * 8 := Int.mul_le_mul (by omega) (by omega) (by omega) (by omega)
  unfold mkOk lim
  simp
  omega
theorem drop_one {slots : Int} {ins : List In4} {cs : List Vl} {L : List Ins4} {rk : Nat} (hp : PlainP (rk : Int) slots ins.length cs.length L) (hk : rk < 1073741823) {t : Ins4} (ht : L[rk]? = some t) :
    Tot (fun k => g20 k (rk : Int) slots (ins.map inR) (cs.map vlR) (L.map insR)) (dend (dfold (nd0 L rk) ins cs L rk) t) := by
  have hin := inR_of hp rfl
  have hl : L.length = rk + 1 := by have := hp.2.2.1; omega
  have h1 : 1 ≤ (rk : Int) := hp.2.1
  have hndr := nd0_rk L rk
  have e1 : ((rk + 1 : Nat) : Int) - 1 = (rk : Int) := by omega
  have f3 := s20_3 (z0 := 0) (z1 := 0) (ins := ins) (cs := cs) hp (by omega) hndr rk 0 (by omega) t ht
  have f1 : Goes step20 (.h1 (rowsB rk (nd0 L rk)) (-1) 0 0 (rk : Int) slots (ins.map inR) (cs.map vlR) (L.map insR)) (dend (dfold (nd0 L rk) ins cs L rk) t) := by
    refine f3.rec0 fun k rec => ?_
    show t20_h1 k rec _ _ _ _ _ _ _ _ _ = _
    unfold t20_h1
    have hge : decide ((-1 : Int) ≥ 0) = false := by decide
    have mk : mkOk (rk : Int) (rk : Int) 8 1 = true := mk_ok (by omega) (by decide)
    rw [hge, cond_false, mk, List.length_map, Int.toNat_natCast, rowsG_repl]
    rfl
  have f0 := s20_1 (z0 := 0) (z1 := 0) (slots := slots) (ins := ins.map inR) (cs := cs.map vlR) hin hl (by omega) (rk + 1) (fun j => decide (j = (rk : Int))) (Nat.le_refl _) (by simp) f1
  rw [e1] at f0
  obtain ⟨N, hN⟩ := g15_plain (regs := (rk : Int)) (slots := slots) (ins := ins.map inR) (cs := cs.map vlR) (L := L) (b := true) ⟨by omega, by omega⟩ (by omega) ⟨fun _ => by simpa using hp, fun _ => rfl⟩
  refine Tot.of_goes (s := S20.e _ _ _ _ _) (f0.rec ⟨N, fun k hk' rec => ?_⟩)
  show t20_e k rec _ _ _ _ _ = _
  unfold t20_e
  have mk : mkOk (rk : Int) (rk : Int) 1 1 = true := mk_ok (by omega) (by decide)
  rw [show g15 k (rk : Int) slots (ins.map inR) (cs.map vlR) (L.map insR) = _ from hN k hk', Option.bind_some, show (!true) = false from rfl, cond_false, mk, Int.toNat_natCast, rowsG_repl]
  show rec (.h1 (rowsG rk fun _ => [bc false]) _ _ _ _ _ _ _ _) = _
  have : (rowsG rk fun _ => [bc false]) = rowsB rk (fun j => decide (j = (rk : Int))) := rowsG_congr fun j hj => by
    have : ¬ ((j : Int) = (rk : Int)) := by omega
    simp [this]
  rw [this]
theorem drop_same {I : List In4} {C : List Vl} {O : List Ins4} {t : Ins4} (h : Tight I C O t) (hk : O.length < 1073741823) :
    Tot (fun k => g20 k (O.length : Int) 0 (I.map inR) (C.map vlR) ((O ++ [t]).map insR)) ((O.length : Int), 0, I.map inR, C.map vlR, (O ++ [t]).map insR) := by
  have := drop_one h.plain hk (t := t) (by simp)
  rw [tight_dend h] at this
  exact this

/-! ## width -/
theorem lastIn_ge {L : List Ins4} {r m : Nat} : ∀ {n : Nat}, m < n → (r : Int) ∈ readsAt L m → (m : Int) ≤ lastIn L r n
  | n + 1, hm, hr => by
    simp only [lastIn]
    by_cases h : m = n
    · subst h
      unfold readsAt at hr
      cases hx : L[m]? with
      | none => rw [hx] at hr; cases hr
      | some x => rw [hx] at hr; simp only; rw [if_pos hr]; exact Int.le_refl _
    · have ih := lastIn_ge (L := L) (r := r) (m := m) (n := n) (by omega) hr
      split
      · split
        · omega
        · exact ih
      · exact ih
theorem lastIn_of {L : List Ins4} {r : Nat} : ∀ {n : Nat} {i : Int}, 0 ≤ i → i < lastIn L r n → ∃ m : Nat, i < (m : Int) ∧ m < n ∧ (r : Int) ∈ readsAt L m
  | 0, i, hi, h => by simp [lastIn] at h; omega
  | n + 1, i, hi, h => by
    simp only [lastIn] at h
    split at h
    · rename_i x hx
      split at h
      · rename_i hr
        exact ⟨n, h, Nat.lt_succ_self _, by simp only [readsAt, hx]; exact hr⟩
      · obtain ⟨m, h1, h2, h3⟩ := lastIn_of hi h
        exact ⟨m, h1, by omega, h3⟩
    · obtain ⟨m, h1, h2, h3⟩ := lastIn_of hi h
      exact ⟨m, h1, by omega, h3⟩
theorem cntF_mono (F : Nat → Int) (i : Nat) : ∀ {m n : Nat}, m ≤ n → cntF F i m ≤ cntF F i n := by
  intro m n h
  induction n with
  | zero => have : m = 0 := by omega
            subst this; exact Int.le_refl _
  | succ n ih =>
    by_cases e : m = n + 1
    · subst e; exact Int.le_refl _
    · have := ih (by omega)
      simp only [cntF]
      split <;> omega
theorem cnt_into {F G : Nat → Int} {Q J : Nat} {κ : Nat → Nat} : ∀ q, (∀ p, p < q → F p > (Q : Int) → G (κ p) > (J : Int)) → (∀ p p', p < p' → p' ≤ q → κ p < κ p') → cntF F Q q ≤ cntF G J (κ q)
  | 0, _, _ => (cntF_le G J _).1
  | q + 1, h, hm => by
    have ih := cnt_into (F := F) (G := G) (Q := Q) (J := J) (κ := κ) q (fun p hp => h p (by omega)) (fun p p' h1 h2 => hm p p' h1 (by omega))
    have h1 := hm q (q + 1) (Nat.lt_succ_self _) (Nat.le_refl _)
    have h2 := cntF_mono G J (show κ q + 1 ≤ κ (q + 1) by omega)
    simp only [cntF] at h2 ⊢
    by_cases hf : F q > (Q : Int)
    · have := h q (Nat.lt_succ_self _) hf
      rw [if_pos hf]
      rw [if_pos this] at h2
      omega
    · rw [if_neg hf]
      split at h2 <;> omega
theorem widthF_ge (c : Nat → Int) : ∀ {n i : Nat}, i < n → c i ≤ widthF c n
  | n + 1, i, h => by
    simp only [widthF]
    by_cases e : i = n
    · subst e; split <;> omega
    · have := widthF_ge c (n := n) (i := i) (by omega)
      split <;> omega
theorem widthF_le (c : Nat → Int) {b : Int} (hb : 0 ≤ b) : ∀ {n : Nat}, (∀ i, i < n → c i ≤ b) → widthF c n ≤ b
  | 0, _ => hb
  | n + 1, h => by
    have h1 := widthF_le c hb (n := n) fun i hi => h i (by omega)
    have h2 := h n (Nat.lt_succ_self _)
    simp only [widthF]
    split <;> omega
theorem widthF_nn (c : Nat → Int) : ∀ n, 0 ≤ widthF c n
  | 0 => Int.le_refl _
  | n + 1 => by
    have := widthF_nn c n
    simp only [widthF]
    split <;> omega

theorem width_drop {slots : Int} {I : List In4} {C : List Vl} {L : List Ins4} {rk : Nat} (hp : PlainP (rk : Int) slots I.length C.length L) {t : Ins4} (ht : L[rk]? = some t) {s : DS} (fi : FI (nd0 L rk) L rk s) {u : Ins4} (hu : reads u = (reads t).map s.bec)
    (hpl : PlainP (s.O.length : Int) 0 s.I.length s.C.length (s.O ++ [u])) :
    widthF (fun i => 1 + cntF (fun j => lastIn (s.O ++ [u]) j (s.O ++ [u]).length) i i) s.O.length ≤ widthF (fun i => 1 + cntF (fun j => lastIn L j L.length) i i) rk := by
  have hb := back_of hp rfl
  have hbd := back_of hpl rfl
  have hlen : L.length = rk + 1 := by have := hp.2.2.1; omega
  refine widthF_le _ (widthF_nn _ _) fun q hq => ?_
  -- the place of what is kept
  let κ : Nat → Nat := fun p => ((kp (nd0 L rk) rk)[p]?).getD 0
  have hκ : ∀ p, p < s.O.length → (kp (nd0 L rk) rk)[p]? = some (κ p) := fun p hp' => by
    have : p < (kp (nd0 L rk) rk).length := by rw [← fi.len]; exact hp'
    simp only [κ, List.getElem?_eq_getElem this, Option.getD_some]
  have hκq := hκ q hq
  have hlt := (kp_mem.1 (List.mem_of_getElem? hκq)).1
  refine Int.le_trans ?_ (widthF_ge (fun i => 1 + cntF (fun j => lastIn L j L.length) i i) hlt)
  have := cnt_into (F := fun j => lastIn (s.O ++ [u]) j (s.O ++ [u]).length) (G := fun j => lastIn L j L.length) (Q := q) (J := κ q) (κ := κ) q (fun p hpq hF => by
    have hF : (q : Int) < lastIn (s.O ++ [u]) p (s.O ++ [u]).length := hF
    show lastIn L (κ p) L.length > ((κ q : Nat) : Int)
    obtain ⟨m', h1, h2, h3⟩ := lastIn_of (by omega) hF
    have hκp := hκ p (by omega)
    have hbp := fi.bec p (κ p) hκp
    -- what reads it
    have src : ∃ m : Nat, κ q < m ∧ m ≤ rk ∧ ((κ p : Nat) : Int) ∈ readsAt L m := by
      have inj : ∀ {x : Ins4} {m : Nat}, m ≤ rk → L[m]? = some x → (m < rk → nd0 L rk (m : Int) = true) → (p : Int) ∈ (reads x).map s.bec → ((κ p : Nat) : Int) ∈ reads x := by
        intro x m hm hx hnm hmem
        obtain ⟨v, hv, hve⟩ := List.mem_map.1 hmem
        have hvb := hb m v (by simp only [readsAt, hx]; exact hv)
        have hnm' : nd0 L rk (m : Int) = true := by
          by_cases e : m < rk
          · exact hnm e
          · have : m = rk := by omega
            subst this; exact nd0_rk _ _
        have hnv := nd0_closed hb hm hnm' (by simp only [readsAt, hx]; exact hv)
        obtain ⟨n, rfl⟩ : ∃ n : Nat, v = (n : Int) := ⟨v.toNat, by omega⟩
        have hmem2 : n ∈ kp (nd0 L rk) rk := kp_mem.2 ⟨by omega, hnv⟩
        obtain ⟨p', hp'⟩ := List.getElem?_of_mem hmem2
        have hb' := fi.bec p' n hp'
        rw [hb'] at hve
        have : p' = p := by omega
        subst this
        rw [hκp] at hp'
        cases hp'
        exact hv
      rw [List.length_append, List.length_singleton] at h2
      by_cases hm : m' = s.O.length
      · subst hm
        rw [readsAt_snoc, hu] at h3
        refine ⟨rk, hlt, Nat.le_refl _, ?_⟩
        simp only [readsAt, ht]
        exact inj (Nat.le_refl _) ht (fun h => absurd h (Nat.lt_irrefl _)) h3
      · have hml : m' < s.O.length := by omega
        rw [readsAt_app hml] at h3
        have hκm := hκ m' hml
        obtain ⟨y, x, g1, g2, g3⟩ := fi.row m' (κ m') hκm
        simp only [readsAt, g1] at h3
        rw [g3] at h3
        have hm1 := kp_mem.1 (List.mem_of_getElem? hκm)
        refine ⟨κ m', kp_lt (show q < m' by omega) hκq hκm, by omega, ?_⟩
        simp only [readsAt, g2]
        exact inj (by omega) g2 (fun _ => hm1.2) h3
    obtain ⟨m, k1, k2, k3⟩ := src
    have := lastIn_ge (L := L) (r := κ p) (m := m) (n := L.length) (by omega) k3
    omega) (fun p p' h1 h2 => kp_lt h1 (hκ p (by omega)) (hκ p' (by omega)))
  show 1 + cntF (fun j => lastIn (s.O ++ [u]) j (s.O ++ [u]).length) q q ≤ 1 + cntF (fun j => lastIn L j L.length) (κ q) (κ q)
  omega
end Ab
end Go.Proofs.Ytebmcaceklbopaa

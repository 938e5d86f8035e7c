/-
  Spell, the program's and the document's: each gives the token's bytes.
-/
import Derived.Test.YtniibdfnijeaeaaDoorK16q
set_option linter.unusedVariables false
set_option linter.unusedSimpArgs false
set_option linter.unusedSectionVars false
namespace Go.Proofs.YtniibdfnijeaeaaDoor
namespace Ab
section
variable [Laid2]
theorem dv15 {A B : ByteArray} (hA : ∀ i, i < A.size → isDi (bAt A i) = true) (hB : ∀ i, i < B.size → isDi (bAt B i) = true) (h : A.size + B.size ≤ 15) : dv (A ++ B).data.toList < 10 ^ 15 := by
  have h1 := dv_lt (all_dg (app_dig hA hB))
  rw [size_toList, ByteArray.size_append] at h1
  exact Nat.lt_of_lt_of_le h1 (Nat.pow_le_pow_right (by omega) h)
theorem g14_pad {d D : ByteArray} {a c : Int} {b : ByteArray} {n : Nat} {k0 : Int} {r : ByteArray} (hr : Goes step14 (.h1 D false k0 b a (n : Int) c) r) (hn : n < D.size) : ∀ (m i : Nat), D = zS (i + m) ++ d → (m = 0 ∨ D.size = n + 1) → D.size ≤ 1000 → Goes step14 (.h0 (zS i ++ d) k0 b a (n : Int) c) r
  | 0, i, e, hm, hs => by
    rw [Nat.add_zero] at e
    rw [← e]
    refine Goes.rec0 hr fun k rec => ?_
    simp only [step14, t14_h0, show decide ((D.size : Int) ≤ (n : Int)) = false from decide_eq_false (by omega), show decide ((n : Int) < 0) = false from decide_eq_false (by omega), cond_false, show decide ((D.size : Int) < (n : Int)) = false from decide_eq_false (by omega)]
  | m + 1, i, e, hm, hs => by
    have ih := g14_pad hr hn m (i + 1) (by rw [e, show i + (m + 1) = i + 1 + m by omega]) (.inr (by omega)) hs
    have hz : D.size = i + (m + 1) + d.size := by rw [e, ByteArray.size_append, zS_size]
    have hy : (zS i ++ d).size = i + d.size := by rw [ByteArray.size_append, zS_size]
    refine Goes.rec0 ih fun k rec => ?_
    simp only [step14, t14_h0, show decide (((zS i ++ d).size : Int) ≤ (n : Int)) = true from decide_eq_true (by omega), cond_true, show decide ((strB [48]).size + (zS i ++ d).size ≤ 1000000000) = true from decide_eq_true (by rw [hy]; show 1 + (i + d.size) ≤ _; omega), gd_true, zS_succ]
theorem g14_is {t : Tk} {w : ByteArray} (h : Spelt t w) (hw : w.size ≤ 4000) (a : Int) : Tot (fun k => g14 k t.kind t.text t.n t.scale a) w := by
  obtain ⟨kind, text, n, scale⟩ := t
  rcases h with ⟨hk, ht⟩ | ⟨hk, ht, hs⟩ | ⟨hk, v, hv, hn, ht⟩ | ⟨hk, A, B, hA, hB, a1, b1, h15, h0, hn, hsc, ht⟩
  · simp only at hk ht
    subst ht
    refine Goes.fin0 (step := step14) (s := .e kind text n scale a) fun k rec => ?_
    rcases hk with rfl | rfl | rfl <;> rfl
  · simp only at hk ht hs
    subst hk
    refine Goes.fin0 (step := step14) (s := .e 5 text n scale a) fun k rec => ?_
    have z1 : decide ((strB [39]).size + text.size ≤ 1000000000) = true := decide_eq_true (by show 1 + text.size ≤ _; omega)
    have z2 : decide ((strB [39] ++ text).size + (strB [39]).size ≤ 1000000000) = true := decide_eq_true (by rw [ByteArray.size_append]; show 1 + text.size + 1 ≤ _; omega)
    simp only [step14, t14_e, show ((5 : Int) == 3) = false from rfl, show ((5 : Int) == 4) = false from rfl, show ((5 : Int) == 5) = true from rfl, cond_false, cond_true, z1, z2, gd_true, ht]
  · simp only at hk ht hn
    subst hk; subst hn
    refine Goes.fin0 (step := step14) (s := .e 3 text (v : Int) scale a) fun k rec => ?_
    simp only [step14, t14_e, show ((3 : Int) == 3) = true from rfl, cond_true, fmtX_nat hv, Option.bind_some, ht]
  · simp only at hk ht hn hsc
    subst hk; subst hn; subst hsc
    have hD : (A ++ B).size = A.size + B.size := ByteArray.size_append
    have hv : dv (A ++ B).data.toList < 2 ^ 63 := Nat.lt_trans (dv15 hA hB h15) (by omega)
    obtain ⟨j, hj⟩ := strip_text (s := A ++ B) (by omega) (app_dig hA hB)
    have hj0 : j = 0 ∨ (A ++ B).size = B.size + 1 := by
      by_cases hA1 : A.size = 1
      · right; omega
      · left
        have hb0 : bAt (A ++ B) 0 ≠ 48 := by
          have := h0 (by omega)
          unfold bAt at this ⊢
          rw [toList_append', List.getD_eq_getElem?_getD, List.getElem?_append_left (by rw [size_toList]; omega), ← List.getD_eq_getElem?_getD]
          exact this
        have ho := own_text (s := A ++ B) (by omega) (app_dig hA hB) (fun _ => hb0)
        rw [ho] at hj
        have := congrArg ByteArray.size hj
        rw [show (zS j ++ (A ++ B)).size = j + (A ++ B).size by rw [ByteArray.size_append, zS_size]] at this
        omega
    have hfin : Goes step14 (.h1 (A ++ B) false 4 text (dv (A ++ B).data.toList : Int) (B.size : Int) a) w := by
      refine .fin0 fun k rec => ?_
      have e1 : IntKind.i64.wrap (((A ++ B).size : Int) - (B.size : Int)) = (A.size : Int) := wrapI (by omega) (by omega)
      obtain ⟨x1, x2⟩ := split_app A B
      have z1 : decide (0 ≤ (0 : Int) ∧ (0 : Int) ≤ (A.size : Int) ∧ (A.size : Int) ≤ ((A ++ B).size : Int)) = true := decide_eq_true (by omega)
      have z2 : decide (A.size + (strB [46]).size ≤ 1000000000) = true := decide_eq_true (by show A.size + 1 ≤ _; omega)
      have z3 : decide (0 ≤ (A.size : Int) ∧ (A.size : Int) ≤ ((A ++ B).size : Int) ∧ ((A ++ B).size : Int) ≤ ((A ++ B).size : Int)) = true := decide_eq_true (by omega)
      have z4 : decide ((A ++ strB [46]).size + B.size ≤ 1000000000) = true := decide_eq_true (by rw [ByteArray.size_append]; show A.size + 1 + B.size ≤ _; omega)
      simp only [step14, t14_h1, cond_false, e1, z1, gd_true, show Int.toNat (0 : Int) = 0 from rfl, Int.toNat_natCast, x1, x2, z2, z3, z4, ht]
    have hp := g14_pad (d := decS (dv (A ++ B).data.toList)) hfin (by omega) j 0 (by rw [Nat.zero_add]; exact hj) hj0 (by omega)
    rw [zS_zero] at hp
    refine Goes.rec0 (step := step14) (s := .e 4 text (dv (A ++ B).data.toList : Int) (B.size : Int) a) hp fun k rec => ?_
    simp only [step14, t14_e, show ((4 : Int) == 3) = false from rfl, show ((4 : Int) == 4) = true from rfl, cond_true, cond_false, fmtX_nat hv, Option.bind_some]
theorem g20_nat {u : Nat} (h : u < 2 ^ 63) : Tot (fun k => g20 k (u : Int)) (decS u) := by
  rw [← itoaS_nat]
  exact g20_is (by omega) (by omega)
theorem g21_pad {d D : ByteArray} {q ten : Int} {r : ByteArray} (hr : Goes step21 (.h1 q (D.size : Int) ten D) r) : ∀ (m i : Nat), D = zS (i + m) ++ d → D.size ≤ 1000 → Goes step21 (.h1 q (D.size : Int) ten (zS i ++ d)) r
  | 0, i, e, hs => by
    rw [Nat.add_zero] at e
    rw [← e]
    exact hr
  | m + 1, i, e, hs => by
    have ih := g21_pad hr m (i + 1) (by rw [e, show i + (m + 1) = i + 1 + m by omega]) hs
    have hz : D.size = i + (m + 1) + d.size := by rw [e, ByteArray.size_append, zS_size]
    have hy : (zS i ++ d).size = i + d.size := by rw [ByteArray.size_append, zS_size]
    refine Goes.rec0 ih fun k rec => ?_
    simp only [step21, t21_h1, show decide (((zS i ++ d).size : Int) < (D.size : Int)) = true from decide_eq_true (by omega), cond_true, show decide ((strB [48]).size + (zS i ++ d).size ≤ 1000000000) = true from decide_eq_true (by rw [hy]; show 1 + (i + d.size) ≤ _; omega), gd_true, zS_succ]
theorem pow_16 {i : Nat} (h : i ≤ 15) : 10 ^ i ≤ 10 ^ 15 := Nat.pow_le_pow_right (by omega) h
theorem g21_ten {q : Int} {n : Nat} {r : ByteArray} (hn : n ≤ 15) (hr : Goes step21 (.h0 q (n : Int) ((10 ^ n : Nat) : Int) (n : Int)) r) : ∀ (m i : Nat), i + m = n → Goes step21 (.h0 q (n : Int) ((10 ^ i : Nat) : Int) (i : Int)) r
  | 0, i, e => by
    rw [Nat.add_zero] at e
    subst e
    exact hr
  | m + 1, i, e => by
    have ih := g21_ten hn hr m (i + 1) (by omega)
    have hp := pow_16 (show i + 1 ≤ 15 by omega)
    have hw : IntKind.i64.wrap (((10 ^ i : Nat) : Int) * 10) = ((10 ^ (i + 1) : Nat) : Int) := wrapI (by rw [Nat.pow_succ]; omega) (by omega)
    refine Goes.rec0 ih fun k rec => ?_
    simp only [step21, t21_h0, ltT (show i < n by omega), cond_true, hw, wrap1 i (by omega)]
theorem g21_is {A B : ByteArray} (hA : ∀ i, i < A.size → isDi (bAt A i) = true) (hB : ∀ i, i < B.size → isDi (bAt B i) = true) (a1 : 1 ≤ A.size) (b1 : 1 ≤ B.size) (h15 : A.size + B.size ≤ 15) (h0 : 1 < A.size → bAt A 0 ≠ 48) :
    Tot (fun k => g21 k (dv (A ++ B).data.toList : Int) (B.size : Int)) ((A ++ strB [46]) ++ B) := by
  have hv := dv15 hA hB h15
  have hb := dv_lt (all_dg hB)
  rw [size_toList] at hb
  have hten := pow_16 (show B.size ≤ 15 by omega)
  have hpos : 0 < 10 ^ B.size := Nat.pow_pos (by omega)
  have hdv : dv (A ++ B).data.toList = dv A.data.toList * 10 ^ B.size + dv B.data.toList := by rw [toList_append', dv_app, size_toList]
  have hmod : dv (A ++ B).data.toList % 10 ^ B.size = dv B.data.toList := by rw [hdv, Nat.mul_add_mod_self_right, Nat.mod_eq_of_lt hb]
  have hdiv : dv (A ++ B).data.toList / 10 ^ B.size = dv A.data.toList := by rw [hdv, Nat.mul_comm, Nat.mul_add_div hpos, Nat.div_eq_of_lt hb, Nat.add_zero]
  have e1 : Int.tmod (dv (A ++ B).data.toList : Int) ((10 ^ B.size : Nat) : Int) = (dv B.data.toList : Int) := by rw [← hmod]; rfl
  have hle : dv A.data.toList ≤ dv (A ++ B).data.toList := by rw [← hdiv]; exact Nat.div_le_self _ _
  have e2 : IntKind.i64.wrap (Int.tdiv (dv (A ++ B).data.toList : Int) ((10 ^ B.size : Nat) : Int)) = (dv A.data.toList : Int) := by
    have : Int.tdiv (dv (A ++ B).data.toList : Int) ((10 ^ B.size : Nat) : Int) = (dv A.data.toList : Int) := by rw [← hdiv]; rfl
    rw [this]
    exact wrapN (by omega)
  have z0 : decide (((10 ^ B.size : Nat) : Int) ≠ 0) = true := decide_eq_true (by omega)
  have hfin : Goes step21 (.h1 (dv (A ++ B).data.toList : Int) (B.size : Int) ((10 ^ B.size : Nat) : Int) B) ((A ++ strB [46]) ++ B) := by
    refine Goes.done (g20_nat (u := dv A.data.toList) (by omega)) fun k rec e => ?_
    rw [own_text a1 hA h0] at e
    have z2 : decide (A.size + (strB [46]).size ≤ 1000000000) = true := decide_eq_true (by show A.size + 1 ≤ _; omega)
    have z4 : decide ((A ++ strB [46]).size + B.size ≤ 1000000000) = true := decide_eq_true (by rw [ByteArray.size_append]; show A.size + 1 + B.size ≤ _; omega)
    simp only [step21, t21_h1, ltF (Nat.lt_irrefl B.size), cond_false, z0, gd_true, e2, e, Option.bind_some, z2, z4]
  obtain ⟨j, hj⟩ := strip_text (s := B) b1 hB
  have hp := g21_pad (d := decS (dv B.data.toList)) hfin j 0 (by rw [Nat.zero_add]; exact hj) (by omega)
  rw [zS_zero] at hp
  have h0' : Goes step21 (.h0 (dv (A ++ B).data.toList : Int) (B.size : Int) ((10 ^ B.size : Nat) : Int) (B.size : Int)) ((A ++ strB [46]) ++ B) := by
    refine Goes.call (g20_nat (u := dv B.data.toList) (by omega)) hp fun k rec e => ?_
    simp only [step21, t21_h0, ltF (Nat.lt_irrefl B.size), cond_false, z0, gd_true, e1, e, Option.bind_some]
  have hs := g21_ten (show B.size ≤ 15 by omega) h0' B.size 0 (by omega)
  exact Goes.rec0 (step := step21) (s := .e (dv (A ++ B).data.toList : Int) (B.size : Int)) hs fun k rec => rfl
theorem g15_is {t : Tk} {w : ByteArray} (h : Spelt t w) (hw : w.size ≤ 4000) (a : Int) : Tot (fun k => g15 k t.kind t.text t.n t.scale a) w := by
  obtain ⟨kind, text, n, scale⟩ := t
  rcases h with ⟨hk, ht⟩ | ⟨hk, ht, hs⟩ | ⟨hk, v, hv, hn, ht⟩ | ⟨hk, A, B, hA, hB, a1, b1, h15, h0, hn, hsc, ht⟩
  · simp only at hk ht
    subst ht
    refine Goes.fin0 (step := step15) (s := .e kind text n scale a) fun k rec => ?_
    rcases hk with rfl | rfl | rfl <;> rfl
  · simp only at hk ht hs
    subst hk
    refine Goes.fin0 (step := step15) (s := .e 5 text n scale a) fun k rec => ?_
    have z1 : decide ((strB [39]).size + text.size ≤ 1000000000) = true := decide_eq_true (by show 1 + text.size ≤ _; omega)
    have z2 : decide ((strB [39] ++ text).size + (strB [39]).size ≤ 1000000000) = true := decide_eq_true (by rw [ByteArray.size_append]; show 1 + text.size + 1 ≤ _; omega)
    simp only [step15, t15_e, show ((5 : Int) == 3) = false from rfl, show ((5 : Int) == 4) = false from rfl, show ((5 : Int) == 5) = true from rfl, cond_false, cond_true, z1, z2, gd_true, ht]
  · simp only at hk ht hn
    subst hk; subst hn; subst ht
    refine Goes.done (step := step15) (s := .e 3 text (v : Int) scale a) (g20_nat hv) fun k rec e => ?_
    simp only [step15, t15_e, show ((3 : Int) == 3) = true from rfl, cond_true, e, Option.bind_some]
  · simp only at hk ht hn hsc
    subst hk; subst hn; subst hsc; subst ht
    refine Goes.done (step := step15) (s := .e 4 text (dv (A ++ B).data.toList : Int) (B.size : Int) a) (g21_is hA hB a1 b1 h15 h0) fun k rec e => ?_
    simp only [step15, t15_e, show ((4 : Int) == 3) = false from rfl, show ((4 : Int) == 4) = true from rfl, cond_true, cond_false, e, Option.bind_some]
end
end Ab
end Go.Proofs.YtniibdfnijeaeaaDoor

/-
  What a token spells: its bytes.
-/
import Derived.Test.YtniibdfnijeaeaaDoorK14q
set_option linter.unusedVariables false
set_option linter.unusedSimpArgs false
set_option linter.unusedSectionVars false
namespace Go.Proofs.YtniibdfnijeaeaaDoor
namespace Ab
theorem dvF_split : ∀ (l : List UInt8) (x : Nat), dvF x l = x * 10 ^ l.length + dvF 0 l
  | [], x => by
    show x = x * 10 ^ 0 + 0
    rw [Nat.pow_zero]; omega
  | c :: l, x => by
    rw [dvF_cons, dvF_cons, dvF_split l (10 * x + dg8 c), dvF_split l (10 * 0 + dg8 c), List.length_cons, Nat.pow_succ]
    generalize 10 ^ l.length = z
    rw [Nat.add_mul, Nat.add_mul, Nat.mul_comm 10 x, Nat.mul_assoc, Nat.mul_comm 10 z]
    omega
theorem dv_app (a b : List UInt8) : dv (a ++ b) = dv a * 10 ^ b.length + dv b := by
  unfold dv
  rw [← dvF_split b (dvF 0 a)]
  unfold dvF
  rw [List.foldl_append]
theorem dv_zero (l : List UInt8) : dv (48 :: l) = dv l := by
  unfold dv
  rw [dvF_cons]
  rfl
theorem strip_zeros : ∀ (n : Nat) (l : List UInt8), l.length = n + 1 → (∀ c ∈ l, isDg c) → ∃ j, l = List.replicate j 48 ++ Lib.decDigits (dv l)
  | 0, l, hl, h => ⟨0, by rw [dec_dv 0 l hl h (fun x => by omega)]; rfl⟩
  | n + 1, l, hl, h => by
    by_cases h0 : l.head? = some 48
    · match l, h0 with
      | c :: r, h0 =>
        have hc : c = 48 := by simpa using h0
        subst hc
        obtain ⟨j, hj⟩ := strip_zeros n r (by simpa using hl) (fun c hc => h c (List.mem_cons_of_mem _ hc))
        refine ⟨j + 1, ?_⟩
        rw [dv_zero, List.replicate_succ, List.cons_append, ← hj]
    · exact ⟨0, by rw [dec_dv (n + 1) l hl h (fun _ => h0)]; rfl⟩
def zS (j : Nat) : ByteArray := ⟨(List.replicate j 48).toArray⟩
theorem zS_size (j : Nat) : (zS j).size = j := by
  rw [← size_toList]
  show (List.replicate j (48 : UInt8)).toArray.toList.length = j
  simp
theorem zS_zero (d : ByteArray) : zS 0 ++ d = d := by
  apply bytes_ext
  rw [toList_append']
  rfl
theorem zS_succ (j : Nat) (d : ByteArray) : strB [48] ++ (zS j ++ d) = zS (j + 1) ++ d := by
  apply bytes_ext
  rw [toList_append', toList_append', toList_append']
  show [48] ++ ((List.replicate j (48 : UInt8)).toArray.toList ++ _) = (List.replicate (j + 1) (48 : UInt8)).toArray.toList ++ _
  rw [List.replicate_succ]
  rfl
/-- digits in a text are zeros and a number's own digits. -/
theorem strip_text {s : ByteArray} (h1 : 1 ≤ s.size) (h : ∀ i, i < s.size → isDi (bAt s i) = true) : ∃ j, s = zS j ++ decS (dv s.data.toList) := by
  obtain ⟨j, hj⟩ := strip_zeros (s.size - 1) s.data.toList (by rw [size_toList]; omega) (all_dg h)
  refine ⟨j, bytes_ext ?_⟩
  rw [toList_append']
  exact hj
theorem own_text {s : ByteArray} (h1 : 1 ≤ s.size) (h : ∀ i, i < s.size → isDi (bAt s i) = true) (h0 : 1 < s.size → bAt s 0 ≠ 48) : decS (dv s.data.toList) = s := by
  apply bytes_ext
  exact dec_dv (s.size - 1) s.data.toList (by rw [size_toList]; omega) (all_dg h) (fun x => head_48 h1 (h0 (by rwa [size_toList] at x)))
theorem itoaS_nat (u : Nat) : itoaS (u : Int) = decS u := by
  apply bytes_ext
  show (Lib.itoa (u : Int)).toArray.toList = (Lib.decDigits u).toArray.toList
  unfold Lib.itoa
  rw [if_neg (by omega)]
  rfl
theorem fmtX_nat [Laid2] {u : Nat} (h : u < 2 ^ 63) : fmtX (u : Int) = some (decS u) := by
  unfold fmtX
  rw [if_pos (by omega), ← itoaS_nat]
  rfl
theorem app_ext (s : ByteArray) {a b c : Nat} (h1 : a ≤ b) (h2 : b ≤ c) (h3 : c ≤ s.size) : s.extract a b ++ s.extract b c = s.extract a c := by
  refine bytes_eq (by rw [ByteArray.size_append, size_ext _ _ _ (by omega), size_ext _ _ _ h3, size_ext _ _ _ h3]; omega) fun i hi => ?_
  rw [ByteArray.size_append, size_ext _ _ _ (by omega), size_ext _ _ _ h3] at hi
  rw [bAt_ext h3 (by omega)]
  have hsz := size_ext s a b (by omega)
  unfold bAt
  rw [toList_append', List.getD_eq_getElem?_getD]
  by_cases h : i < b - a
  · rw [List.getElem?_append_left (by rw [size_toList, hsz]; exact h)]
    have := bAt_ext (s := s) (a := a) (b := b) (i := i) (by omega) h
    unfold bAt at this
    rwa [List.getD_eq_getElem?_getD] at this
  · rw [List.getElem?_append_right (by rw [size_toList, hsz]; omega), size_toList, hsz]
    have := bAt_ext (s := s) (a := b) (b := c) (i := i - (b - a)) h3 (by omega)
    unfold bAt at this
    rw [List.getD_eq_getElem?_getD] at this
    rw [this, show b + (i - (b - a)) = a + i by omega]
theorem one_ext {s : ByteArray} {p : Nat} (hp : p < s.size) {c : Nat} (hc : c < 256) (h : bAt s p = (c : Int)) : s.extract p (p + 1) = ⟨#[UInt8.ofNat c]⟩ := by
  refine bytes_eq (by rw [size_ext _ _ _ (by omega)]; show p + 1 - p = 1; omega) fun i hi => ?_
  rw [size_ext _ _ _ (by omega)] at hi
  obtain rfl : i = 0 := by omega
  rw [bAt_ext (by omega) (by omega), Nat.add_zero, h]
  show _ = (((UInt8.ofNat c).toNat : Nat) : Int)
  rw [UInt8.toNat_ofNat', Nat.mod_eq_of_lt (by omega)]
theorem split_app (a b : ByteArray) : (a ++ b).extract 0 a.size = a ∧ (a ++ b).extract a.size (a ++ b).size = b := by
  have hs : (a ++ b).size = a.size + b.size := ByteArray.size_append
  have hx : ∀ i, bAt (a ++ b) i = if i < a.size then bAt a i else bAt b (i - a.size) := by
    intro i
    unfold bAt
    rw [toList_append', List.getD_eq_getElem?_getD]
    split
    · rename_i h
      rw [List.getElem?_append_left (by rw [size_toList]; exact h), List.getD_eq_getElem?_getD]
    · rename_i h
      rw [List.getElem?_append_right (by rw [size_toList]; omega), size_toList, List.getD_eq_getElem?_getD]
  constructor
  · refine bytes_eq (by rw [size_ext _ _ _ (by omega)]; omega) fun i hi => ?_
    rw [size_ext _ _ _ (by omega)] at hi
    rw [bAt_ext (by omega) (by omega), hx, if_pos (by omega), Nat.zero_add]
  · refine bytes_eq (by rw [size_ext _ _ _ (Nat.le_refl _)]; omega) fun i hi => ?_
    rw [size_ext _ _ _ (Nat.le_refl _)] at hi
    rw [bAt_ext (Nat.le_refl _) (by omega), hx, if_neg (by omega), show a.size + i - a.size = i by omega]
def Spelt (t : Tk) (w : ByteArray) : Prop :=
  ((t.kind = 1 ∨ t.kind = 2 ∨ t.kind = 6) ∧ t.text = w) ∨
  (t.kind = 5 ∧ (strB [39] ++ t.text) ++ strB [39] = w ∧ t.text.size ≤ 4000) ∨
  (t.kind = 3 ∧ ∃ v : Nat, v < 2 ^ 63 ∧ t.n = (v : Int) ∧ decS v = w) ∨
  (t.kind = 4 ∧ ∃ A B : ByteArray, (∀ i, i < A.size → isDi (bAt A i) = true) ∧ (∀ i, i < B.size → isDi (bAt B i) = true) ∧ 1 ≤ A.size ∧ 1 ≤ B.size ∧ A.size + B.size ≤ 15 ∧ (1 < A.size → bAt A 0 ≠ 48) ∧
    t.n = (dv (A ++ B).data.toList : Int) ∧ t.scale = (B.size : Int) ∧ (A ++ strB [46]) ++ B = w)
theorem tok_spelt {s : ByteArray} {p : Nat} (hs : s.size ≤ 4000) (hp : p < s.size) {t : Tk} {e : Nat} (h : tok s p = some (t, e)) : Spelt t (s.extract p e) := by
  unfold tok at h
  split at h
  · unfold wdTok at h
    split at h
    · cases h; exact .inl ⟨.inl rfl, rfl⟩
    · split at h
      · cases h; exact .inl ⟨.inr (.inl rfl), rfl⟩
      · cases h
  · split at h
    · rename_i hd
      have h1 := run_pos hp hd
      have h2 := le_stop (f := isDi) (Nat.le_of_lt hp)
      have h3 := beh_le h2
      have hA := run_dig s p (Nat.le_of_lt hp)
      have hB := beh_dig h2
      have hAs := size_ext s p (stop isDi s p) h2
      have h0 : (s.extract p (stop isDi s p)).size = stop isDi s p - p := hAs
      unfold numTok at h
      split at h
      · cases h
      · rename_i hz
        have hz' : 1 < (s.extract p (stop isDi s p)).size → bAt (s.extract p (stop isDi s p)) 0 ≠ 48 := by
          intro x
          rw [bAt_ext h2 (by omega), Nat.add_zero]
          exact fun y => hz ⟨by omega, y⟩
        split at h
        · split at h
          · rename_i hv
            cases h
            exact .inr (.inr (.inl ⟨rfl, _, hv, rfl, own_text (by omega) hA hz'⟩))
          · cases h
        · rename_i hm
          split at h
          · cases h
          · rename_i h15
            cases h
            have h4 : stop isDi s p + 1 + behN s (stop isDi s p) ≤ s.size := by omega
            have hBs := size_ext s (stop isDi s p + 1) (stop isDi s p + 1 + behN s (stop isDi s p)) h4
            have h46 : stop isDi s p < s.size ∧ bAt s (stop isDi s p) = 46 := by
              by_cases hc : stop isDi s p < s.size ∧ bAt s (stop isDi s p) = 46
              · exact hc
              · exact absurd (by unfold behN; rw [if_neg hc]) hm
            refine .inr (.inr (.inr ⟨rfl, _, _, hA, hB, by omega, by omega, by omega, hz', rfl, ?_, ?_⟩))
            · show (behN s (stop isDi s p) : Int) = _
              rw [hBs]; omega
            · rw [show strB [46] = s.extract (stop isDi s p) (stop isDi s p + 1) from (one_ext (c := 46) h46.1 (by omega) h46.2).symm, app_ext s (by omega) (by omega) (by omega), app_ext s (by omega) (by omega) h4]
    · split at h
      · rename_i h39
        unfold syTok at h
        split at h
        · rename_i hh
          cases h
          have hg := ge_stop isNm s (p + 1)
          refine .inr (.inl ⟨rfl, ?_, ?_⟩)
          · show (strB [39] ++ s.extract (p + 1) (stop isNm s (p + 1))) ++ strB [39] = _
            have e1 : strB [39] = s.extract p (p + 1) := (one_ext (c := 39) hp (by omega) h39).symm
            have e2 : strB [39] = s.extract (stop isNm s (p + 1)) (stop isNm s (p + 1) + 1) := (one_ext (c := 39) hh.2.1 (by omega) hh.2.2).symm
            have e3 : (strB [39] ++ s.extract (p + 1) (stop isNm s (p + 1))) ++ strB [39] = (s.extract p (p + 1) ++ s.extract (p + 1) (stop isNm s (p + 1))) ++ s.extract (stop isNm s (p + 1)) (stop isNm s (p + 1) + 1) := by rw [← e1, ← e2]
            rw [e3, app_ext s (by omega) hg (by omega), app_ext s (by omega) (by omega) (by omega)]
          · show (s.extract (p + 1) (stop isNm s (p + 1))).size ≤ 4000
            rw [size_ext _ _ _ (by omega)]; omega
        · cases h
      · unfold sgTok at h
        split at h
        · cases h
        · cases h
          exact .inl ⟨.inr (.inr rfl), rfl⟩
end Ab
end Go.Proofs.YtniibdfnijeaeaaDoor

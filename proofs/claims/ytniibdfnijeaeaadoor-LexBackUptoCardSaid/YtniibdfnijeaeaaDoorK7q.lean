/-
  The token of digits: what the program's number and the document's tell.
-/
import Derived.Test.YtniibdfnijeaeaaDoorK6q
set_option linter.unusedVariables false
set_option linter.unusedSimpArgs false
set_option linter.unusedSectionVars false
namespace Go.Proofs.YtniibdfnijeaeaaDoor
namespace Ab
/-- a token, its place aside. -/
structure Tk where
  kind : Int
  text : ByteArray
  n : Int
  scale : Int
/-- how many digits stand behind the point that stands at a place. -/
def behN (s : ByteArray) (e : Nat) : Nat := if e < s.size ∧ bAt s e = 46 then stop isDi s (e + 1) - (e + 1) else 0
/-- the token of digits at a place, and where it ends. -/
def numTok (s : ByteArray) (p : Nat) : Option (Tk × Nat) :=
  if 1 < stop isDi s p - p ∧ bAt s p = 48 then none
  else if behN s (stop isDi s p) = 0 then
    (if dv (s.extract p (stop isDi s p)).data.toList < 2 ^ 63 then some (⟨3, strB [], (dv (s.extract p (stop isDi s p)).data.toList : Int), 0⟩, stop isDi s p) else none)
  else if 15 < (stop isDi s p - p) + behN s (stop isDi s p) then none
  else some (⟨4, strB [], (dv (s.extract p (stop isDi s p) ++ s.extract (stop isDi s p + 1) (stop isDi s p + 1 + behN s (stop isDi s p))).data.toList : Int), (behN s (stop isDi s p) : Int)⟩, stop isDi s p + 1 + behN s (stop isDi s p))
theorem beh_le {s : ByteArray} {e : Nat} (h : e ≤ s.size) : behN s e = 0 ∨ e + 1 + behN s e ≤ s.size := by
  unfold behN
  split
  · rename_i hh
    have := le_stop (f := isDi) (show e + 1 ≤ s.size by omega)
    have := ge_stop isDi s (e + 1)
    right; omega
  · exact .inl rfl
theorem ext_dig {s : ByteArray} {p e : Nat} (he : e ≤ s.size) (h : ∀ i, p ≤ i → i < e → isDi (bAt s i) = true) : ∀ i, i < (s.extract p e).size → isDi (bAt (s.extract p e) i) = true := by
  intro i hi
  rw [size_ext s p e he] at hi
  rw [bAt_ext he hi]
  exact h _ (by omega) (by omega)
theorem run_dig (s : ByteArray) (p : Nat) (hp : p ≤ s.size) : ∀ i, i < (s.extract p (stop isDi s p)).size → isDi (bAt (s.extract p (stop isDi s p)) i) = true :=
  ext_dig (le_stop hp) (fun i h1 h2 => in_stop h1 h2)
theorem beh_dig {s : ByteArray} {e : Nat} (h : e ≤ s.size) : ∀ i, i < (s.extract (e + 1) (e + 1 + behN s e)).size → isDi (bAt (s.extract (e + 1) (e + 1 + behN s e)) i) = true := by
  rcases beh_le h with h0 | h0
  · intro i hi
    rw [h0, ByteArray.size_extract] at hi
    omega
  · refine ext_dig h0 fun i h1 h2 => ?_
    unfold behN at h2
    split at h2
    · have := ge_stop isDi s (e + 1)
      exact in_stop h1 (by omega)
    · omega
theorem app_dig {a b : ByteArray} (ha : ∀ i, i < a.size → isDi (bAt a i) = true) (hb : ∀ i, i < b.size → isDi (bAt b i) = true) : ∀ i, i < (a ++ b).size → isDi (bAt (a ++ b) i) = true := by
  intro i hi
  rw [ByteArray.size_append] at hi
  unfold bAt
  rw [toList_append', List.getD_eq_getElem?_getD]
  by_cases h : i < a.size
  · rw [List.getElem?_append_left (by rw [size_toList]; exact h)]
    have := ha i h
    unfold bAt at this
    rwa [List.getD_eq_getElem?_getD] at this
  · rw [List.getElem?_append_right (by rw [size_toList]; omega), size_toList]
    have := hb (i - a.size) (by omega)
    unfold bAt at this
    rwa [List.getD_eq_getElem?_getD] at this
theorem nil_iff (b : ByteArray) : (b.toList == (strB []).toList) = decide (b.size = 0) := by
  by_cases h : b.size = 0
  · have : b = strB [] := bytes_eq (by rw [h]; rfl) (fun i hi => by omega)
    rw [decide_eq_true h, this]
    exact beq_self_eq_true _
  · rw [decide_eq_false h, beq_eq_false_iff_ne]
    intro e
    apply h
    rw [toList_inj e]
    rfl
theorem run_pos {s : ByteArray} {p : Nat} (hp : p < s.size) (hd : isDi (bAt s p) = true) : p + 1 ≤ stop isDi s p := by
  rw [stop_on hp hd]; exact ge_stop _ _ _
/-- the digits behind the point. -/
def behS (s : ByteArray) (e : Nat) : ByteArray := if e < s.size ∧ bAt s e = 46 then s.extract (e + 1) (stop isDi s (e + 1)) else strB []
theorem behS_size {s : ByteArray} {e : Nat} (h : e ≤ s.size) : (behS s e).size = behN s e := by
  unfold behS behN
  split
  · rename_i hh
    rw [size_ext _ _ _ (le_stop (show e + 1 ≤ s.size by omega))]
  · rfl
theorem behS_ext {s : ByteArray} {e : Nat} (h : e ≤ s.size) (h0 : behN s e ≠ 0) : behS s e = s.extract (e + 1) (e + 1 + behN s e) := by
  unfold behS behN at *
  split
  · rename_i hh
    congr 1
    have := ge_stop isDi s (e + 1)
    omega
  · rename_i hh
    rw [if_neg hh] at h0
    exact absurd rfl h0
section
variable [Laid2]
theorem g25_is {s : ByteArray} {p : Nat} (hs : s.size ≤ 4000) (hp : p < s.size) (hd : isDi (bAt s p) = true) :
    ∃ z : Int, Tot (fun k => g25 k s (p : Int)) (match numTok s p with
      | some (t, e) => .inr (t.kind, t.text, t.n, t.scale, (p : Int), (e : Int))
      | none => .inl ((p : Int), z)) := by
  obtain ⟨e, he⟩ : ∃ e, e = stop isDi s p := ⟨_, rfl⟩
  have he1 : e ≤ s.size := by rw [he]; exact le_stop (Nat.le_of_lt hp)
  have he2 : p + 1 ≤ e := by rw [he]; exact run_pos hp hd
  have hds : (s.extract p e).size = e - p := size_ext s p e he1
  have hdd : ∀ i, i < (s.extract p e).size → isDi (bAt (s.extract p e) i) = true := by rw [he]; exact run_dig s p (Nat.le_of_lt hp)
  have hw : IntKind.i64.wrap ((p : Int) + ((s.extract p e).size : Int)) = (e : Int) := by rw [hds]; exact wrapI (by omega) (by omega)
  have hb0 : bAt (s.extract p e) 0 = bAt s p := bAt_ext he1 (by omega)
  have hbl := beh_le he1
  have hbs := behS_size he1
  -- the end, from h1 on
  have fin : ∃ z : Int, Goes step25 (.h1 (p : Int) (s.extract p e) (behS s e) 0 (strB []) 0 0 0 s (e : Int)) (match numTok s p with
      | some (t, e) => .inr (t.kind, t.text, t.n, t.scale, (p : Int), (e : Int))
      | none => .inl ((p : Int), z)) := by
    refine ⟨(e : Int), ?_⟩
    have h2 : ∀ t r, Goes step25 (.h2 (p : Int) (s.extract p e) (behS s e) t 0 (strB []) 0 0 0 s (e : Int)) r → t = decide (1 < e - p ∧ bAt s p = 48) → Goes step25 (.h1 (p : Int) (s.extract p e) (behS s e) 0 (strB []) 0 0 0 s (e : Int)) r := by
      intro t r hr ht
      refine Goes.rec0 hr fun k rec => ?_
      by_cases h1 : 1 < e - p
      · simp only [step25, t25_h1, show decide (((s.extract p e).size : Int) > 1) = true from decide_eq_true (by omega), cond_true, sxI_0 (show 0 < (s.extract p e).size by omega), hb0, ht]
        congr 2
        by_cases h48 : bAt s p = 48 <;> simp [h1, h48]
      · simp only [step25, t25_h1, show decide (((s.extract p e).size : Int) > 1) = false from decide_eq_false (by omega), cond_false, ht]
        simp [h1]
    unfold numTok
    rw [← he]
    by_cases h48 : 1 < e - p ∧ bAt s p = 48
    · rw [if_pos h48]
      refine h2 true _ (.fin0 fun k rec => ?_) (decide_eq_true h48).symm
      simp only [step25, t25_h2, cond_true]
    · rw [if_neg h48]
      refine h2 false _ ?_ (decide_eq_false h48).symm
      by_cases hm : behN s e = 0
      · rw [if_pos hm]
        have hpr := parseR_digits hdd (by omega) (by omega)
        have en : ((behS s e).toList == (strB []).toList) = true := by rw [nil_iff, hbs]; exact decide_eq_true hm
        refine .fin0 fun k rec => ?_
        simp only [step25, t25_h2, cond_false, en, cond_true, hpr, Option.bind_some]
        by_cases hv : dv (s.extract p e).data.toList < 2 ^ 63
        · rw [if_pos hv, if_pos hv]; rfl
        · rw [if_neg hv, if_neg hv]; rfl
      · rw [if_neg hm]
        have en : ((behS s e).toList == (strB []).toList) = false := by rw [nil_iff, hbs]; exact decide_eq_false hm
        have hle : e + 1 + behN s e ≤ s.size := by rcases hbl with h | h; · exact absurd h hm
                                                   · exact h
        have hw2 : IntKind.i64.wrap (((s.extract p e).size : Int) + ((behS s e).size : Int)) = (((e - p) + behN s e : Nat) : Int) := wrapI (by rw [hds, hbs]; omega) (by omega)
        by_cases h15 : 15 < (e - p) + behN s e
        · rw [if_pos h15]
          refine .fin0 fun k rec => ?_
          simp only [step25, t25_h2, cond_false, en, hw2, show decide ((((e - p) + behN s e : Nat) : Int) > 15) = true from decide_eq_true (by omega), cond_true]
        · rw [if_neg h15]
          have hbx := behS_ext he1 hm
          have hall : ∀ i, i < (s.extract p e ++ behS s e).size → isDi (bAt (s.extract p e ++ behS s e) i) = true := app_dig hdd (by rw [hbx]; exact beh_dig he1)
          have hsz : (s.extract p e ++ behS s e).size = (e - p) + behN s e := by rw [ByteArray.size_append, hds, hbs]
          have hpr := parseR_digits hall (by omega) (by omega)
          have hlt : dv (s.extract p e ++ behS s e).data.toList < 2 ^ 63 := by
            have h1 := dv_lt (all_dg hall)
            rw [size_toList, hsz] at h1
            have h2 : 10 ^ ((e - p) + behN s e) ≤ 10 ^ 15 := Nat.pow_le_pow_right (by omega) (by omega)
            omega
          rw [if_pos hlt] at hpr
          refine .fin0 fun k rec => ?_
          simp only [step25, t25_h2, cond_false, en, hw2, show decide ((((e - p) + behN s e : Nat) : Int) > 15) = false from decide_eq_false (by omega),
            show decide ((s.extract p e).size + (behS s e).size ≤ 1000000000) = true from decide_eq_true (by omega), gd_true, hpr, Option.bind_some, optC]
          rw [hbs, ← hbx]
          have w1 : IntKind.i64.wrap ((1 : Int) + (behN s e : Int)) = ((1 + behN s e : Nat) : Int) := wrapI (by omega) (by omega)
          rw [w1, wrapA e (1 + behN s e) (by omega), Nat.add_assoc]
  obtain ⟨z, hz⟩ := fin
  refine ⟨z, ?_⟩
  generalize (match numTok s p with
      | some (t, e) => (.inr (t.kind, t.text, t.n, t.scale, (p : Int), (e : Int)) : R25)
      | none => .inl ((p : Int), z)) = r at hz ⊢
  -- to h1
  have h0 : Goes step25 (.h0 (p : Int) (s.extract p e) (strB []) (decide (e < s.size ∧ bAt s e = 46)) 0 (strB []) 0 0 0 s (e : Int)) r := by
    by_cases hc : e < s.size ∧ bAt s e = 46
    · have hb : behS s e = s.extract (e + 1) (stop isDi s (e + 1)) := if_pos hc
      rw [hb] at hz
      refine Goes.call (g38_is (s := s) (p := e + 1) (q := (e : Int)) hs (by omega)) hz fun k rec e1 => ?_
      simp only [step25, t25_h0, decide_eq_true hc, cond_true, wrap1 e (by omega), e1, Option.bind_some]
    · have hb : behS s e = strB [] := if_neg hc
      rw [hb] at hz
      refine Goes.rec0 hz fun k rec => ?_
      simp only [step25, t25_h0, decide_eq_false hc, cond_false]
  refine Goes.call (step := step25) (s := .e s (p : Int)) (g38_is (s := s) (p := p) (q := (p : Int)) hs (Nat.le_of_lt hp)) h0 fun k rec e1 => ?_
  rw [← he] at e1
  simp only [step25, t25_e, e1, Option.bind_some, hw]
  by_cases hc : e < s.size
  · simp only [ltT hc, cond_true, sxI_at hc]
    congr 2
    by_cases h46 : bAt s e = 46 <;> simp [hc, h46]
  · simp only [ltF hc, cond_false]
    congr 2
    simp [hc]
end
end Ab
end Go.Proofs.YtniibdfnijeaeaaDoor

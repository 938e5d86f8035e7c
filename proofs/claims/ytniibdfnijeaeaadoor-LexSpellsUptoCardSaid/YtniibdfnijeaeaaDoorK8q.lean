/-
  The document's token of digits.
-/
import Derived.Test.YtniibdfnijeaeaaDoorK7q
set_option linter.unusedVariables false
set_option linter.unusedSimpArgs false
set_option linter.unusedSectionVars false
namespace Go.Proofs.YtniibdfnijeaeaaDoor
namespace Ab
theorem byteRows_len (s : ByteArray) : (byteRows s).length = s.size := by unfold byteRows; rw [List.length_map, size_toList]
theorem byteRows_at {s : ByteArray} {i : Nat} (h : i < s.size) : (byteRows s)[i]? = some [.val (.int .u8 (bAt s i))] := by
  have h' : i < s.data.toList.length := by rw [size_toList]; exact h
  unfold byteRows bAt
  rw [List.getElem?_map, List.getElem?_eq_getElem h', List.getD_eq_getElem?_getD, List.getElem?_eq_getElem h']
  rfl
theorem un_y_at {α : Type} (x : Int) (k : Int → Option α) : un_y [.val (.int .u8 x)] k = k x := rfl
section
variable [Laid2]
theorem g33_loop {s : ByteArray} (h : ∀ i, i < s.size → isDi (bAt s i) = true) (hs : s.size ≤ 15) {n m : Int} : ∀ (j i : Nat), s.size - i = j → i ≤ s.size →
    Goes step33 (.h3 n m (pre s i : Int) (byteRows s) (s.size : Int) (i : Int) 0 (strB []) 0 0 0) (4, strB [], (dv s.data.toList : Int), m, 0, IntKind.i64.wrap ((IntKind.i64.wrap (n + 1)) + m))
  | 0, i, h1, h2 => by
    obtain rfl : i = s.size := by omega
    rw [pre_all]
    refine .fin0 fun k rec => ?_
    simp only [step33, t33_h3, ltF (Nat.lt_irrefl s.size), cond_false]
  | j + 1, i, h1, h2 => by
    have hi : i < s.size := by omega
    have ih := g33_loop h hs (n := n) (m := m) j (i + 1) (by omega) (by omega)
    have hd := h i hi
    have hp3 := pre_lt h (show i + 1 ≤ s.size by omega)
    have hp2 : 10 ^ (i + 1) ≤ 10 ^ 15 := Nat.pow_le_pow_right (by omega) (by omega)
    have hd' := hd
    simp only [isDi, Bool.and_eq_true, decide_eq_true_eq] at hd'
    have e := pre_succ hi hd
    refine Goes.rec0 ih fun k rec => ?_
    simp only [step33, t33_h3, ltT hi, cond_true, ixR_at (byteRows_at hi), un_y_at, wrap1 i (by omega)]
    have e1 : IntKind.i64.wrap ((10 : Int) * (pre s i : Int)) = ((10 * pre s i : Nat) : Int) := wrapI (by omega) (by omega)
    obtain ⟨d, hdd⟩ : ∃ d : Nat, bAt s i - 48 = (d : Int) := ⟨(bAt s i - 48).toNat, by omega⟩
    have e2 : IntKind.i64.wrap (IntKind.u8.wrap (bAt s i - 48)) = (d : Int) := by
      rw [hdd, u8w (by omega), wrapN (by omega)]
    rw [e1, e2, show IntKind.i64.wrap (((10 * pre s i : Nat) : Int) + (d : Int)) = ((pre s (i + 1) : Nat) : Int) from wrapI (by omega) (by omega)]
theorem g33_is {s : ByteArray} {p : Nat} (hs : s.size ≤ 4000) (hp : p < s.size) (hd : isDi (bAt s p) = true) :
    Tot (fun k => g33 k s (p : Int)) (match numTok s p with
      | some (t, e) => (t.kind, t.text, t.n, t.scale, 0, (e : Int) - (p : Int))
      | none => (0, strB [], 0, 0, 0, 0)) := by
  obtain ⟨e, he⟩ : ∃ e, e = stop isDi s p := ⟨_, rfl⟩
  have he1 : e ≤ s.size := by rw [he]; exact le_stop (Nat.le_of_lt hp)
  have he2 : p + 1 ≤ e := by rw [he]; exact run_pos hp hd
  have hds : (s.extract p e).size = e - p := size_ext s p e he1
  have hdd : ∀ i, i < (s.extract p e).size → isDi (bAt (s.extract p e) i) = true := by rw [he]; exact run_dig s p (Nat.le_of_lt hp)
  have hb0 : bAt (s.extract p e) 0 = bAt s p := bAt_ext he1 (by omega)
  have hbl := beh_le he1
  have hbs := behS_size he1
  have hwe : IntKind.i64.wrap ((p : Int) + ((e - p : Nat) : Int)) = (e : Int) := wrapI (by omega) (by omega)
  have no : Goes step33 (.h2 s (p : Int) ((e - p : Nat) : Int) (s.extract p e) (behN s e : Int) true 0 (strB []) 0 0 0) (0, strB [], 0, 0, 0, 0) := .fin0 fun k rec => by simp only [step33, t33_h2, cond_true]
  -- the end, from h1 on
  have fin : Goes step33 (.h1 s (p : Int) ((e - p : Nat) : Int) (s.extract p e) (behN s e : Int) 0 (strB []) 0 0 0) (match numTok s p with
      | some (t, e) => (t.kind, t.text, t.n, t.scale, 0, (e : Int) - (p : Int))
      | none => (0, strB [], 0, 0, 0, 0)) := by
    have h2 : ∀ t r, Goes step33 (.h2 s (p : Int) ((e - p : Nat) : Int) (s.extract p e) (behN s e : Int) t 0 (strB []) 0 0 0) r → t = decide ((1 < e - p ∧ bAt s p = 48) ∨ (behN s e = 0 ∧ 19 < e - p) ∨ (behN s e ≠ 0 ∧ 15 < (e - p) + behN s e)) →
        Goes step33 (.h1 s (p : Int) ((e - p : Nat) : Int) (s.extract p e) (behN s e : Int) 0 (strB []) 0 0 0) r := by
      intro t r hr ht
      refine Goes.rec0 hr fun k rec => ?_
      have hm0 : ((behN s e : Int) == 0) = decide (behN s e = 0) := by
        by_cases h : behN s e = 0
        · rw [h]; rfl
        · rw [decide_eq_false h, beq_eq_false_iff_ne]; omega
      have h19 : decide (((e - p : Nat) : Int) > 19) = decide (19 < e - p) := by
        by_cases h : 19 < e - p
        · rw [decide_eq_true h, decide_eq_true (by omega)]
        · rw [decide_eq_false h, decide_eq_false (by omega)]
      have hle : behN s e ≤ 4000 := by rcases hbl with h | h <;> omega
      have h15 : decide (IntKind.i64.wrap (((e - p : Nat) : Int) + (behN s e : Int)) > 15) = decide (15 < (e - p) + behN s e) := by
        rw [wrapA (e - p) (behN s e) (by omega)]
        by_cases h : 15 < (e - p) + behN s e
        · rw [decide_eq_true h, decide_eq_true (by omega)]
        · rw [decide_eq_false h, decide_eq_false (by omega)]
      have hmp : behN s e ≠ 0 → decide ((behN s e : Int) > 0) = true := fun h => decide_eq_true (by omega)
      have tail : (bif ((behN s e : Int) == 0) then
            (bif decide (((e - p : Nat) : Int) > 19) then rec (.h2 s (p : Int) ((e - p : Nat) : Int) (s.extract p e) (behN s e : Int) true 0 (strB []) 0 0 0)
            else rec (.h2 s (p : Int) ((e - p : Nat) : Int) (s.extract p e) (behN s e : Int) false 0 (strB []) 0 0 0))
          else
            (bif decide ((behN s e : Int) > 0) then rec (.h2 s (p : Int) ((e - p : Nat) : Int) (s.extract p e) (behN s e : Int) (decide ((IntKind.i64.wrap (((e - p : Nat) : Int) + (behN s e : Int))) > 15)) 0 (strB []) 0 0 0)
            else rec (.h2 s (p : Int) ((e - p : Nat) : Int) (s.extract p e) (behN s e : Int) false 0 (strB []) 0 0 0))) =
          rec (.h2 s (p : Int) ((e - p : Nat) : Int) (s.extract p e) (behN s e : Int) (decide ((behN s e = 0 ∧ 19 < e - p) ∨ (behN s e ≠ 0 ∧ 15 < (e - p) + behN s e))) 0 (strB []) 0 0 0) := by
        rw [hm0, h19, h15]
        by_cases hm : behN s e = 0
        · by_cases h : 19 < e - p <;> simp [hm, h]
        · rw [hmp hm]
          simp [hm]
      by_cases h1 : 1 < e - p
      · simp only [step33, t33_h1, show decide (((e - p : Nat) : Int) > 1) = true from decide_eq_true (by omega), cond_true, sxI_0 (show 0 < (s.extract p e).size by omega), hb0]
        by_cases h48 : bAt s p = 48
        · rw [show (bAt s p == 48) = true from by simpa using h48, cond_true, ht]
          congr 2
          exact (decide_eq_true (.inl ⟨h1, h48⟩)).symm
        · rw [show (bAt s p == 48) = false from by simpa using h48, cond_false, tail, ht]
          congr 2
          simp [h48]
      · simp only [step33, t33_h1, show decide (((e - p : Nat) : Int) > 1) = false from decide_eq_false (by omega), cond_false]
        rw [tail, ht]
        congr 2
        simp [h1]
    unfold numTok
    rw [← he]
    by_cases h48 : 1 < e - p ∧ bAt s p = 48
    · rw [if_pos h48]
      exact h2 true _ no (decide_eq_true (.inl h48)).symm
    · rw [if_neg h48]
      by_cases hm : behN s e = 0
      · rw [if_pos hm]
        by_cases h19 : 19 < e - p
        · have : ¬ dv (s.extract p e).data.toList < 2 ^ 63 := by
            have h1 := dv_low (n := e - p - 1) (l := (s.extract p e).data.toList) (by rw [size_toList, hds]; omega) (all_dg hdd) (head_48 (by omega) (by rw [hb0]; exact fun h => h48 ⟨by omega, h⟩))
            have h2 : 10 ^ 19 ≤ 10 ^ (e - p - 1) := Nat.pow_le_pow_right (by omega) (by omega)
            omega
          rw [if_neg this]
          exact h2 true _ no (decide_eq_true (.inr (.inl ⟨hm, h19⟩))).symm
        · refine h2 false _ ?_ (decide_eq_false (by rintro (h | h | h); · exact h48 h
                                                    · exact h19 h.2
                                                    · exact h.1 hm)).symm
          obtain ⟨x, hx, hxe⟩ := g41_is hdd (by omega) (by omega) (fun h => by rw [hb0]; exact fun h' => h48 ⟨by omega, h'⟩)
          refine Goes.done hx fun k rec e1 => ?_
          have hm0 : ((behN s e : Int) == 0) = true := by rw [hm]; rfl
          simp only [step33, t33_h2, cond_false, hm0, cond_true, e1, Option.bind_some, tup2]
          by_cases hv : dv (s.extract p e).data.toList < 2 ^ 63
          · rw [decide_eq_true hv, if_pos hv, hxe hv]
            simp only [Bool.not_true, cond_false]
            rw [show ((e - p : Nat) : Int) = (e : Int) - (p : Int) by omega]
          · rw [decide_eq_false hv, if_neg hv]
            rfl
      · rw [if_neg hm]
        have hle : e + 1 + behN s e ≤ s.size := by rcases hbl with h | h; · exact absurd h hm
                                                   · exact h
        by_cases h15 : 15 < (e - p) + behN s e
        · rw [if_pos h15]
          exact h2 true _ no (decide_eq_true (.inr (.inr ⟨hm, h15⟩))).symm
        · rw [if_neg h15]
          refine h2 false _ ?_ (decide_eq_false (by rintro (h | h | h); · exact h48 h
                                                    · exact hm h.1
                                                    · exact h15 h.2)).symm
          have hall : ∀ i, i < (s.extract p e ++ s.extract (e + 1) (e + 1 + behN s e)).size → isDi (bAt (s.extract p e ++ s.extract (e + 1) (e + 1 + behN s e)) i) = true := app_dig hdd (beh_dig he1)
          have hsz : (s.extract p e ++ s.extract (e + 1) (e + 1 + behN s e)).size = (e - p) + behN s e := by rw [ByteArray.size_append, hds, size_ext _ _ _ hle]; omega
          have hl := g33_loop hall (by omega) (n := ((e - p : Nat) : Int)) (m := (behN s e : Int)) (s.extract p e ++ s.extract (e + 1) (e + 1 + behN s e)).size 0 rfl (by omega)
          rw [pre_zero] at hl
          have hz : IntKind.i64.wrap (IntKind.i64.wrap (((e - p : Nat) : Int) + 1) + (behN s e : Int)) = ((e + 1 + behN s e : Nat) : Int) - (p : Int) := by
            rw [wrap1 (e - p) (by omega), wrapA (e - p + 1) (behN s e) (by omega)]
            omega
          rw [hz] at hl
          refine Goes.rec0 hl fun k rec => ?_
          have hm0 : ((behN s e : Int) == 0) = false := by rw [beq_eq_false_iff_ne]; omega
          simp only [step33, t33_h2, cond_false, hm0, hwe, wrap1 e (by omega), wrapA (e + 1) (behN s e) (by omega), bnds (show e + 1 ≤ e + 1 + behN s e by omega) hle, gd_true, ext_cast]
          rw [show decide ((s.extract p e).size + (s.extract (e + 1) (e + 1 + behN s e)).size ≤ 1000000000) = true from decide_eq_true (by rw [hds, size_ext _ _ _ hle]; omega), gd_true, byteRows_len]
          rfl
  generalize (match numTok s p with
      | some (t, e) => ((t.kind, t.text, t.n, t.scale, 0, (e : Int) - (p : Int)) : R33)
      | none => (0, strB [], 0, 0, 0, 0)) = r at fin ⊢
  have h0 : Goes step33 (.h0 s (p : Int) ((e - p : Nat) : Int) (s.extract p e) 0 (decide (e < s.size ∧ bAt s e = 46)) 0 (strB []) 0 0 0) r := by
    by_cases hc : e < s.size ∧ bAt s e = 46
    · have hb : behN s e = stop isDi s (e + 1) - (e + 1) := if_pos hc
      have hg := g29_is (s := s) (p := e + 1) (b := false) hs (by omega)
      rw [show fOf false = isDi from rfl, ← hb] at hg
      refine Goes.call hg fin fun k rec e1 => ?_
      simp only [step33, t33_h0, decide_eq_true hc, cond_true, hwe, wrap1 e (by omega), e1, Option.bind_some]
    · have hb : behN s e = 0 := if_neg hc
      rw [hb] at fin
      refine Goes.rec0 fin fun k rec => ?_
      simp only [step33, t33_h0, decide_eq_false hc, cond_false]
      rfl
  have hg := g29_is (s := s) (p := p) (b := false) hs (Nat.le_of_lt hp)
  rw [show fOf false = isDi from rfl, ← he] at hg
  refine Goes.call (step := step33) (s := .e s (p : Int)) hg h0 fun k rec e1 => ?_
  simp only [step33, t33_e, e1, Option.bind_some, hwe, bnds (show p ≤ e by omega) he1, gd_true, ext_cast]
  by_cases hc : e < s.size
  · simp only [ltT hc, cond_true, sxI_at hc]
    congr 2
    by_cases h46 : bAt s e = 46 <;> simp [hc, h46]
  · simp only [ltF hc, cond_false]
    congr 2
    simp [hc]
end
end Ab
end Go.Proofs.YtniibdfnijeaeaaDoor

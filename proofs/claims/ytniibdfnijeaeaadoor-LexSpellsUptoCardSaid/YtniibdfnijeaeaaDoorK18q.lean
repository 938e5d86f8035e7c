/-
  LexSpells' law.
-/
import Derived.Test.YtniibdfnijeaeaaDoorK17q
import Derived.Test.YtniibdfnijeaeaaDoorK13q
set_option linter.unusedVariables false
set_option linter.unusedSimpArgs false
set_option linter.unusedSectionVars false
namespace Go.Proofs.YtniibdfnijeaeaaDoor
namespace Ab
section
variable [Laid2]
/-- a token, its place, and its word. -/
structure TW where
  t : Tk
  a : Nat
  w : ByteArray
def TW.row (x : TW) : List Cell := tkRow x.t x.a
def endT : Tk := ⟨0, strB [], 0, 0⟩
/-- both Spells give the word. -/
def WOk (x : TW) : Prop := (∀ y, Tot (fun k => g14 k x.t.kind x.t.text x.t.n x.t.scale y) x.w) ∧ (∀ y, Tot (fun k => g15 k x.t.kind x.t.text x.t.n x.t.scale y) x.w) ∧ x.w.size ≤ 4000
theorem wok_end (a : Nat) : WOk ⟨endT, a, strB []⟩ :=
  ⟨fun y => Goes.fin0 (step := step14) (s := .e 0 (strB []) 0 0 y) fun k rec => rfl, fun y => Goes.fin0 (step := step15) (s := .e 0 (strB []) 0 0 y) fun k rec => rfl, by show 0 ≤ 4000; omega⟩
theorem wok_tok {s : ByteArray} (hs : s.size ≤ 4000) {p : Nat} (hp : p < s.size) {t : Tk} {e : Nat} (h : tok s p = some (t, e)) : WOk ⟨t, p, s.extract p e⟩ := by
  have hend := tok_end hp h
  have hw : (s.extract p e).size ≤ 4000 := by rw [size_ext _ _ _ hend.2]; omega
  exact ⟨fun y => g14_is (tok_spelt hs hp h) hw y, fun y => g15_is (tok_spelt hs hp h) hw y, hw⟩
theorem scan_words {s : ByteArray} (hs : s.size ≤ 4000) : ∀ (n p : Nat) L, p ≤ s.size → scanF s n p = .inl L → ∃ PL : List TW, L = PL.map TW.row ∧ ∀ x ∈ PL, WOk x ∧ x.a + x.w.size ≤ s.size ∧ x.w = s.extract x.a (x.a + x.w.size)
  | 0, p, L, _, h => by cases h
  | n + 1, p, L, h2, h => by
    have hq := ge_stop isBl s p
    have hq2 := le_stop (f := isBl) h2
    unfold scanF at h
    by_cases he : stop isBl s p = s.size
    · rw [if_pos he] at h
      cases h
      refine ⟨[⟨endT, s.size, strB []⟩], rfl, fun x hx => ?_⟩
      rw [List.mem_singleton.1 hx]
      refine ⟨wok_end _, Nat.le_refl _, ?_⟩
      show strB [] = s.extract s.size (s.size + 0)
      exact bytes_eq (by rw [size_ext _ _ _ (by omega)]; show 0 = _; omega) (fun i hi => by have : i < 0 := hi; omega)
    · rw [if_neg he] at h
      cases ht : tok s (stop isBl s p) with
      | none => rw [ht] at h; cases h
      | some x =>
        obtain ⟨t, e⟩ := x
        rw [ht] at h
        have hend := tok_end (by omega) ht
        simp only at h
        cases hq0 : scanF s n e with
        | inr z => rw [hq0] at h; cases h
        | inl L0 =>
          rw [hq0] at h
          obtain ⟨PL, hL, hP⟩ := scan_words hs n e L0 hend.2 hq0
          have hL1 : tkRow t (stop isBl s p) :: L0 = L := by injection h
          refine ⟨⟨t, stop isBl s p, s.extract (stop isBl s p) e⟩ :: PL, by rw [← hL1, hL]; rfl, fun x hx => ?_⟩
          rcases List.mem_cons.1 hx with rfl | hx
          · have hz : (s.extract (stop isBl s p) e).size = e - stop isBl s p := size_ext _ _ _ hend.2
            refine ⟨wok_tok hs (by omega) ht, ?_, ?_⟩
            · show stop isBl s p + (s.extract (stop isBl s p) e).size ≤ s.size
              omega
            · show s.extract (stop isBl s p) e = s.extract (stop isBl s p) (stop isBl s p + (s.extract (stop isBl s p) e).size)
              rw [hz, show stop isBl s p + (e - stop isBl s p) = e by omega]
          · exact hP x hx
theorem un_row {α : Type} (x : TW) (k : Int → ByteArray → Int → Int → Int → Option α) : un_isi3 x.row k = k x.t.kind x.t.text x.t.n x.t.scale (x.a : Int) := rfl
theorem row_at {PL : List TW} {i : Nat} (h : i < PL.length) : (PL.map TW.row)[i]? = some (PL[i].row) := by rw [List.getElem?_map, List.getElem?_eq_getElem h]; rfl
theorem awake6 : Tot (fun k => g10 k) true := tot_deep 60 fun j => by kernel_rfl
theorem g6_loop {s : ByteArray} (hs : s.size ≤ 4000) {PL : List TW} (hl : PL.length ≤ 5000) (hP : ∀ x ∈ PL, WOk x ∧ x.a + x.w.size ≤ s.size ∧ x.w = s.extract x.a (x.a + x.w.size)) : ∀ (n i : Nat), PL.length - i ≤ n → Goes step6 (.h1 s (PL.map TW.row) (PL.map TW.row) (PL.length : Int) (i : Int)) true
  | 0, i, h => Goes.done awake6 fun k rec e => by simp only [step6, t6_h1, ltF (show ¬ i < PL.length by omega), cond_false, e, Option.bind_some]
  | n + 1, i, h => by
    by_cases hi : i < PL.length
    · have hrow := row_at hi
      obtain ⟨⟨h14, h15, hw⟩, hb, hx⟩ := hP _ (List.getElem_mem hi)
      generalize PL[i] = x at hrow h14 h15 hw hb hx
      have h2 : Goes step6 (.h2 s (PL.map TW.row) (PL.map TW.row) (PL.length : Int) (i : Int) false) true := Goes.rec0 (g6_loop hs hl hP n (i + 1) (by omega)) fun k rec => by simp only [step6, t6_h2, cond_false, wrap1 i (by omega)]
      refine Goes.call2 (h14 (x.a : Int)) (h15 (x.a : Int)) h2 fun k rec e1 e2 => ?_
      have w1 : IntKind.i64.wrap ((s.size : Int) - (x.w.size : Int)) = ((s.size - x.w.size : Nat) : Int) := wrapI (by omega) (by omega)
      have w2 : IntKind.i64.wrap ((x.a : Int) + (x.w.size : Int)) = ((x.a + x.w.size : Nat) : Int) := wrapI (by omega) (by omega)
      simp only [step6, t6_h1, ltT hi, cond_true, ixR_at hrow, un_row, e1, e2, Option.bind_some, beq_self_eq_true, Bool.not_true, cond_false, show decide ((x.a : Int) < 0) = false from decide_eq_false (by omega), w1, w2, show decide ((x.a : Int) > ((s.size - x.w.size : Nat) : Int)) = false from decide_eq_false (by omega), bnds (show x.a ≤ x.a + x.w.size by omega) hb, gd_true, ext_cast, ← hx]
    · exact Goes.done awake6 fun k rec e => by simp only [step6, t6_h1, ltF hi, cond_false, e, Option.bind_some]
theorem spells_true (s : ByteArray) : Tot (fun k => g6 k s) true := by
  obtain ⟨N4, h4⟩ := awake6
  have bad : ∀ b, Goes step6 (.h0 s [] b true) true := fun b => Goes.done awake6 fun k rec e => by
    simp only [step6, t6_h0, cond_true, e, Option.bind_some]
    rfl
  by_cases hs : s.size ≤ 4000
  · cases hq : scanF s (s.size + 1) 0 with
    | inl l =>
      obtain ⟨PL, hL, hP⟩ := scan_words hs _ 0 l (Nat.zero_le _) hq
      have hi := imm_scan s _ _ l hq
      have hlen : PL.length ≤ 5000 := by
        have := scan_len s _ 0 l (Nat.zero_le _) hq
        rw [hL, List.length_map] at this
        omega
      have h8 := g8_is hs
      have h9 := g9_is hs
      rw [hq] at h8 h9
      subst hL
      have h1 := g6_loop hs hlen hP _ 0 (Nat.le_refl _)
      have h0 : Goes step6 (.h0 s (PL.map TW.row) (PL.map TW.row) false) true := Goes.rec0 h1 fun k rec => by
        simp only [step6, t6_h0, cond_false, bne_self_eq_false, List.length_map]
        rfl
      refine Goes.call2 (step := step6) (s := .e s) h8 h9 h0 fun k rec e1 e2 => ?_
      simp only [step6, t6_e, e1, e2, Option.bind_some, res8of, res9of, altC, tup3, List.nil_append, hi]
      rfl
    | inr z =>
      have h8 := g8_is hs
      have h9 := g9_is hs
      rw [hq] at h8 h9
      refine Goes.call2 (step := step6) (s := .e s) h8 h9 (bad []) fun k rec e1 e2 => ?_
      simp only [step6, t6_e, e1, e2, Option.bind_some, res8of, res9of, altC, tup3, tup2]
      rfl
  · refine Goes.call2 (step := step6) (s := .e s) (g8_long hs) (g9_long hs) (bad []) fun k rec e1 e2 => ?_
    simp only [step6, t6_e, e1, e2, Option.bind_some, altC, tup3]
    rfl
end
end Ab
end Go.Proofs.YtniibdfnijeaeaaDoor

/-
  SsaMakes is true of any conditions.
-/
import Derived.Test.YtebmcaceklbopaaM14
set_option linter.unusedVariables false
set_option linter.unusedSimpArgs false
namespace Go.Proofs.Ytebmcaceklbopaa
namespace Ab

theorem pi0 : PI t0 := fun i x h => by simp [t0] at h

theorem g3_end (sh : Bool) (l : List Nd) (hb : cnts l < 1048577) (n : Int) : Goes step3 (.h0 (ndRows l) sh n (l.length : Int) (l.length : Int)) true := by
  have hlt : decide ((l.length : Int) < (l.length : Int)) = false := by simp
  by_cases hn : n > 1500
  · refine Goes.fin0 fun k rec => ?_
    show t3_h0 k rec _ _ _ _ _ = _
    unfold t3_h0
    rw [hlt, cond_false, decide_eq_true hn]; rfl
  · obtain ⟨N1, hN1⟩ := Tot.of_goes (g10_list l hb)
    obtain ⟨N2, hN2⟩ := g11_make sh l hb
    obtain ⟨N3, hN3⟩ := g12_make sh l hb
    obtain ⟨N4, hN4⟩ := Tot.of_goes (g14_list l hb)
    have bd := goR_bd sh l 0 0 t0
    have b1 := bd.I; have b2 := bd.C; have b3 := bd.L
    simp only [t0, List.length_nil] at b1 b2 b3
    have same : Tot (fun k => g13 k (makeB sh l).1 (makeB sh l).2.1 (makeB sh l).2.2.1 (makeB sh l).2.2.2.1 (makeB sh l).2.2.2.2.1 (makeB sh l).1 (makeB sh l).2.1 (makeB sh l).2.2.1 (makeB sh l).2.2.2.1 (makeB sh l).2.2.2.2.1) true := by
      unfold makeB endR
      split
      · split
        · exact g13_same [] [] [] (by simp) (by simp) (by simp)
        · exact g13_same _ _ _ (by simp only [t0]; omega) (by simp only [t0]; omega) (by simp only [t0, List.length_append, List.length_singleton]; omega)
      · exact g13_same [] [] [] (by simp) (by simp) (by simp)
    obtain ⟨N5, hN5⟩ := same
    have plain : (makeB sh l).2.2.2.2.2 = 0 → Tot (fun k => g15 k (makeB sh l).1 (makeB sh l).2.1 (makeB sh l).2.2.1 (makeB sh l).2.2.2.1 (makeB sh l).2.2.2.2.1) true := by
      unfold makeB endR
      split
      · rename_i ho
        split
        · intro h; cases h
        · intro _
          simp only [okL, Bool.and_eq_true] at ho
          obtain ⟨q1, q2, q3⟩ := go_plain (sh := sh) l 0 0 t0 pi0 ho.2 (Int.le_refl _) (fun h => absurd h (Nat.lt_irrefl _)) (fun h => by subst h; simp at ho)
          refine g15_plain ⟨by omega, by simp only [t0]; omega⟩ (by simp only [t0, List.length_append, List.length_singleton]; omega) ⟨fun _ => ?_, fun _ => rfl⟩
          rw [List.length_map, List.length_map]
          exact end_plain q1 q2 q3
      · intro h; cases h
    rcases hq : makeB sh l with ⟨r0, r1, r2, r3, r4, r5⟩
    rw [hq] at hN2 hN3 hN5 plain
    simp only at hN5 plain
    have stp : ∀ k, N1 ≤ k → N2 ≤ k → N3 ≤ k → N4 ≤ k → N5 ≤ k → ∀ rec, step3 k rec (.h0 (ndRows l) sh n (l.length : Int) (l.length : Int)) = bif r5 != 0 then some true else (g15 k r0 r1 r2 r3 r4).bind fun v => some v := by
      intro k k1 k2 k3 k4 k5 rec
      show t3_h0 k rec _ _ _ _ _ = _
      unfold t3_h0
      have h1 : g10 k (ndRows l) = some (ndRows l) := hN1 k k1
      have h2 : g11 k (ndRows l) sh = some (r0, r1, r2, r3, r4, r5) := hN2 k k2
      have h3 : g12 k (ndRows l) sh = some (r0, r1, r2, r3, r4, r5) := hN3 k k3
      have h4 : g14 k (ndRows l) (ndRows l) = some true := hN4 k k4
      have h5 : g13 k r0 r1 r2 r3 r4 r0 r1 r2 r3 r4 = some true := hN5 k k5
      rw [hlt, cond_false, decide_eq_false hn, cond_false, h1]
      simp only [Option.bind_some, imm_ndRows, h2, h3, tup6, h5, h4, cond_true, beq_self_eq_true]
    by_cases he : r5 = 0
    · obtain ⟨N6, hN6⟩ := plain he
      refine Goes.fin ⟨N1 + N2 + N3 + N4 + N5 + N6, fun k hk rec => ?_⟩
      have h6 : g15 k r0 r1 r2 r3 r4 = some true := hN6 k (by omega)
      rw [stp k (by omega) (by omega) (by omega) (by omega) (by omega), h6, he]
      rfl
    · refine Goes.fin ⟨N1 + N2 + N3 + N4 + N5, fun k hk rec => ?_⟩
      have e : (r5 != 0) = true := by simpa using he
      rw [stp k (by omega) (by omega) (by omega) (by omega) (by omega), e]
      rfl
end Ab
end Go.Proofs.Ytebmcaceklbopaa

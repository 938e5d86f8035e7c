/-
  The function MergeMakes, as it is computed, from some depth on: true.
-/
import Derived.Test.YtgghingfdcmelaaGreatB3
import Derived.Test.YtgghingfdcmelaaGreatF3c
set_option linter.unusedVariables false
set_option linter.unusedSimpArgs false
namespace Go.Proofs.YtgghingfdcmelaaGreat
namespace Ab

theorem g3_true (a : Int) (K : List Int) (L : List Sa) (hK : K.length < 1048577) (hL : okSas L) (ht : tot L < 536870912) : Tot (fun k => g3 k a (K.map intR) (L.map saR)) true := by
  obtain ⟨N1, hN1⟩ := g4_eq a (K.map intR) L hL
  refine Tot.of_goes (s := S3.e _ _ _) ?_
  cases hg : good a L with
  | false =>
    rw [hg] at hN1
    refine Goes.fin ⟨N1, fun k hk rec => ?_⟩
    show t3_e k rec _ _ _ = _
    unfold t3_e
    rw [show g4 k a (K.map intR) (L.map saR) = some false from hN1 k hk]
    rfl
  | true =>
    rw [hg] at hN1
    have hg' := hg
    simp only [good, Bool.and_eq_true, decide_eq_true_eq] at hg'
    obtain ⟨o1, o2⟩ := ok_mrg hL ht
    obtain ⟨N2, hN2⟩ := g6_eq' a K L hK hL
    obtain ⟨N3, hN3⟩ := g8_eq a K L hK hL ht hg'.2.2.2
    obtain ⟨N4, hN4⟩ := g9_eq' a K L hK hL ht hg'.2.2.2
    obtain ⟨N5, hN5⟩ := g7_self a K (mrg L) hK o1
    obtain ⟨N6, hN6⟩ := g7_self a K L hK hL
    refine Goes.fin ⟨N1 + N2 + N3 + N4 + N5 + N6, fun k hk rec => ?_⟩
    show t3_e k rec _ _ _ = _
    unfold t3_e
    rw [show g4 k a (K.map intR) (L.map saR) = some true from hN1 k (by omega), Option.bind_some]
    show (g6 k a (K.map intR) (L.map saR)).bind _ = _
    rw [show g6 k a (K.map intR) (L.map saR) = some (a, K.map intR, L.map saT) from hN2 k (by omega), Option.bind_some, tup3, imm_int, imm_saT,
      show g8 k a (K.map intR) (L.map saR) = some (a, K.map intR, (mrg L).map saR) from hN3 k (by omega), Option.bind_some, tup3,
      show g9 k a (K.map intR) (L.map saR) = some (a, K.map intR, (mrg L).map saR) from hN4 k (by omega), Option.bind_some, tup3,
      show g7 k a (K.map intR) ((mrg L).map saR) a (K.map intR) ((mrg L).map saR) = some true from hN5 k (by omega), Option.bind_some, cond_true,
      show g7 k a (K.map intR) (L.map saR) a (K.map intR) (L.map saR) = some true from hN6 k (by omega), Option.bind_some]
end Ab
end Go.Proofs.YtgghingfdcmelaaGreat

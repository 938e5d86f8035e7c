/-
  SsaMakes is true of any conditions: the loop that counts them.
-/
import Derived.Test.YtebmcaceklbopaaM15
set_option linter.unusedVariables false
set_option linter.unusedSimpArgs false
namespace Go.Proofs.Ytebmcaceklbopaa
namespace Ab

theorem g3_loop (sh : Bool) (l : List Nd) (hb : cnts l < 1048577) : ∀ (m i : Nat) (n : Int), i + m = l.length → Goes step3 (.h0 (ndRows l) sh n (l.length : Int) (i : Int)) true
  | 0, i, n, hi => by
    have : i = l.length := by omega
    rw [this]; exact g3_end sh l hb n
  | m + 1, i, n, hi => by
    have hx : l[i]? = some (l[i]'(by omega)) := List.getElem?_eq_getElem _
    generalize l[i]'(by omega) = x at hx
    have hlt : decide ((i : Int) < (l.length : Int)) = true := by simp; omega
    have hll := cnts_len l
    obtain ⟨N, hN⟩ := g8_cnt x (by have := cnts_get hx; omega)
    refine (g3_loop sh l hb m (i + 1) (IntKind.i64.wrap (n + (cnt x : Int))) (by omega)).rec ⟨N, fun k hk rec => ?_⟩
    show t3_h0 k rec _ _ _ _ _ = _
    unfold t3_h0
    have h8 : g8 k x.op x.kind (ndRows x.args) x.vk x.vb x.pos x.attr = some (cnt x : Int) := hN k hk
    rw [hlt, cond_true, ixR_at (nd_at hx), un_nd, h8, wrap1 i (by omega)]
    rfl
theorem g3_true (sh : Bool) (l : List Nd) (hb : cnts l < 1048577) : Tot (fun k => g3 k (ndRows l) sh) true := by
  refine Tot.of_goes (s := S3.e _ _) ((g3_loop sh l hb l.length 0 0 (by omega)).rec0 fun k rec => ?_)
  show t3_e k rec _ _ = _
  unfold t3_e
  rw [ndRows_len]; rfl
end Ab
end Go.Proofs.Ytebmcaceklbopaa

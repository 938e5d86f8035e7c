/-
  Whatever conditions are handed in (of bulk at most 1048576), SsaShares returns true, and they read as they did: with sharing no instruction is there twice, and there are no more of them than without.
  Conditions: the row's own alone (the bound on the arguments' bulk).
-/
import Derived.Test.YtebmcaceklbopaaSh1
set_option linter.unusedVariables false
set_option linter.unusedSimpArgs false
namespace Go.Proofs.Ytebmcaceklbopaa
namespace Ab
open Go.ChangeShapes Go.WideShapes Go.ChangeAt Go.RowKit

theorem own : ownKnob Try.prog.godebug = none := by kernel_rfl
def plainTypes : List TypeId := [22, 28, 26, 3, 24, 4]

theorem st28 : structTs Try.prog 28 = some [3, 3, 22, 26, 3, 3] := by kernel_rfl
theorem st26 : structTs Try.prog 26 = some [3, 24] := by kernel_rfl
theorem ut3 : Try.prog.underlying 3 = some (.int .i64) := by kernel_rfl
theorem ut24 : Try.prog.underlying 24 = some (.int .u64) := by kernel_rfl
theorem ut22 : Try.prog.underlying 22 = some (.slice 28) := by kernel_rfl
theorem ut4 : Try.prog.underlying 4 = some .bool := by kernel_rfl

mutual
theorem wt_ndRow : ∀ n : Nd, cnt n ≤ wtL (ndRow n)
  | .mk op kind args vk vb pos attr => by
    have := wt_ndRows args
    simp only [cnt, ndRow, wtL, wtC, ic]
    omega
theorem wt_ndRows : ∀ l : List Nd, cnts l ≤ wtRs (ndRows l)
  | [] => by simp [cnts]
  | n :: l => by
    have h1 := wt_ndRow n
    have h2 := wt_ndRows l
    simp only [cnts, ndRows, wtRs]
    omega
end

/-- a struct's cells, of one depth less. -/
theorem ShT.fieldsN {P : Program} {B n : Nat} {t : TypeId} {l : List Cell} {ts : List TypeId} (h : ShT P B (n + 1) t l) (hu : structTs P t = some ts) : ShFs P B n ts l := by
  unfold structTs at hu
  simp only [ShT] at h
  split at hu
  · rename_i fs he
    rw [he] at h
    simp only [Option.some.injEq] at hu
    subst hu
    obtain ⟨ls, rfl, hl, hs⟩ := h
    have key : ∀ (fl : List Field) (ls : List (List Cell)), ls.length = fl.length → (∀ (i : Nat) f x, fl[i]? = some f → ls[i]? = some x → ShT P B n f.type x) → ShFs P B n (fl.map (·.type)) ls.flatten := by
      intro fl
      induction fl with
      | nil =>
        intro ls hl _
        have : ls = [] := List.length_eq_zero_iff.1 hl
        rw [this]; rfl
      | cons f fl ih =>
        intro ls hl hs
        cases ls with
        | nil => simp at hl
        | cons x ls => exact ⟨x, ls.flatten, by simp, hs 0 f x rfl rfl, ih ls (by simpa using hl) (fun i f' x' h1 h2 => hs (i + 1) f' x' (by simpa using h1) (by simpa using h2))⟩
    exact key fs.toList ls (by simpa using hl) (fun i f x h1 h2 => hs i f x (by simpa using h1) h2)
  · cases hu
theorem ShT.sliceN {P : Program} {B n : Nat} {t e : TypeId} {l : List Cell} (h : ShT P B (n + 1) t l) (hu : P.underlying t = some (.slice e)) : ∃ rows, l = [.imm rows] ∧ rows.length ≤ B ∧ ∀ row ∈ rows, ShT P B n e row := by
  simpa only [ShT, hu] using h

theorem rows_nd : ∀ {rows : List (List Cell)}, (∀ row ∈ rows, ∃ x, row = ndRow x) → ∃ L : List Nd, rows = ndRows L
  | [], _ => ⟨[], rfl⟩
  | row :: rows, h => by
    obtain ⟨x, hx⟩ := h row List.mem_cons_self
    obtain ⟨L, hL⟩ := rows_nd fun r hr => h r (List.mem_cons_of_mem _ hr)
    exact ⟨x :: L, by rw [hx, hL]; rfl⟩

theorem nd_row {B : Nat} : ∀ (n : Nat) {row : List Cell}, ShT Try.prog B n 28 row → ∃ x, row = ndRow x
  | 0, _, h => h.elim
  | 1, _, h => by
    obtain ⟨x0, r0, e0, h0, _⟩ := h.fieldsN st28
    exact h0.elim
  | n + 2, row, h => by
    obtain ⟨x0, r0, e0, h0, x1, r1, e1, h1, x2, r2, e2, h2, x3, r3, e3, h3, x4, r4, e4, h4, x5, r5, e5, h5, hz⟩ := h.fieldsN st28
    obtain ⟨a, rfl, _⟩ := h0.int ut3
    obtain ⟨b, rfl, _⟩ := h1.int ut3
    obtain ⟨rows, rfl, _, hr⟩ := h2.sliceN ut22
    obtain ⟨L, rfl⟩ := rows_nd fun row hrow => nd_row n (hr row hrow)
    obtain ⟨m, y0, s0, f0, k0, y1, s1, f1, k1, hy⟩ := h3.fields st26
    obtain ⟨c, rfl, _⟩ := k0.int ut3
    obtain ⟨d, rfl, _⟩ := k1.int ut24
    obtain ⟨e, rfl, _⟩ := h4.int ut3
    obtain ⟨f, rfl, _⟩ := h5.int ut3
    subst hz; subst hy
    exact ⟨.mk a b L c d e f, by rw [e0, e1, e2, e3, e4, e5, f0, f1]; rfl⟩
theorem nds_cells {B n : Nat} {l : List Cell} (h : ShT Try.prog B n 22 l) : ∃ L : List Nd, l = [.imm (ndRows L)] := by
  obtain ⟨m, rows, rfl, _, hr⟩ := h.slice ut22
  obtain ⟨L, rfl⟩ := rows_nd fun row hrow => nd_row m (hr row hrow)
  exact ⟨L, rfl⟩

theorem shares_ev (ls : List (List Cell)) (h : ShAll Try.prog 1048576 Try.f5.params.toList ls) (hw : wtRs ls ≤ 1048576) : Ev Try.prog noHand 5 (argAVs Try.prog Try.f5.params.toList ls) [] (.ret (.c (bc true))) [] := by
  have hp : Try.f5.params.toList = [22] := by kernel_rfl
  rw [hp] at h ⊢
  match ls, h with
  | [l], ⟨⟨n, hl⟩, _⟩ =>
    obtain ⟨L, rfl⟩ := nds_cells hl
    have hc : cnts L < 1048577 := by
      have := wt_ndRows L
      simp only [wtRs, wtL, wtC] at hw
      omega
    obtain ⟨N, hN⟩ := g5_true L hc
    have := ev5 (hN N (Nat.le_refl _))
    have e : argAVs Try.prog [22] [[.imm (ndRows L)]] = [.c (.imm (ndRows L))] := by kernel_rfl
    rw [e]
    exact this

set_option maxRecDepth 100000 in
theorem shares_lifted (os : Os) (started : os.Started) (H : Type) (enc : TypeId × Value → H) (F : Stop.Interp) :
    ReturnsInHanded {} Try.checked os 5 .any ((Rows.OpenSpec.upto Rows.ssaSharesSpec).pre6 enc Try.prog Try.f5 Rows.ssaSharesUptoRow.domain false) (((Rows.OpenSpec.upto Rows.ssaSharesSpec).at F).post enc Try.prog Try.f5 false true false false) := by
  refine returnsInHanded_of_cond (C := Try.checked) (s := Rows.OpenSpec.upto Rows.ssaSharesSpec) (k := Rows.uptoSmall) rfl own started (by kernel_rfl) Try.func5
    (OpenSpec.witness (enc := enc) (C := Try.checked) (s := Rows.OpenSpec.upto Rows.ssaSharesSpec) (k := Rows.uptoSmall) rfl false ⟨#[], #[.slice none 0 0], []⟩ 8 (by kernel_rfl) (by kernel_rfl) (by kernel_rfl)
      (x := ([.nil], [], [])) (by kernel_rfl) rfl (by kernel_rfl)) ?_
  intro W base args ds gs before hval hW _ hk _
  have hb : Rows.uptoBulkAll (ds ++ gs) ≤ 1048576 := of_decide_eq_true hk
  exact law_post (hand := noHand) (T := plainTypes) (B := 1048576) (s := Rows.ssaSharesSpec) (by kernel_rfl) (by kernel_rfl) (by kernel_rfl) (by kernel_rfl) (by kernel_rfl) rfl
    (fun ds hd => by
      match ds, hd with
      | [d], _ => rfl
      | [], hd => cases hd
      | _ :: _ :: _, hd => simp at hd)
    ⟨4, by kernel_rfl, ut4⟩ hval hW hb (fun ls h1 h2 => shares_ev ls h1 h2)
end Ab

theorem ssaShares_holds : Rows.SsaSharesUptoSaid :=
  OpenClaim.holds_of_cond 5 Try.f5 rfl rfl rfl rfl rfl rfl rfl ⟨rfl, rfl, rfl, rfl, rfl⟩ rfl rfl rfl rfl rfl (by kernel_rfl) Try.func5 (by kernel_rfl)
    (of_decide_eq_true (by kernel_rfl)) (by unfold Func.isWrapper; first | (rw [if_pos (by decide +kernel)]; kernel_rfl) | (rw [if_neg (by decide +kernel)]; exact ⟨rfl, rfl⟩))
    (fun os started H enc _ F => Ab.shares_lifted os started H enc F)
end Go.Proofs.Ytebmcaceklbopaa

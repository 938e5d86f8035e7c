/-
  Whatever code is handed in (of bulk at most 1048576), SsaTells returns true, and the code reads as it did: the program's Plain and Width tell what the document's tell.
  Conditions: the row's own alone (the bound on the arguments' bulk).
-/
import Derived.Test.YtebmcaceklbopaaLw
namespace Go.Proofs.Ytebmcaceklbopaa
namespace Ab
open Go.ChangeShapes Go.WideShapes Go.ChangeAt Go.RowKit

theorem own : ownKnob Try.prog.godebug = none := by kernel_rfl
def plainTypes : List TypeId := [35, 3, 31, 32, 33, 63, 26, 48, 24, 28, 22, 4]

theorem st35 : structTs Try.prog 35 = some [3, 3, 31, 32, 33] := by kernel_rfl
theorem st48 : structTs Try.prog 48 = some [3, 3, 3, 3] := by kernel_rfl
theorem ut3 : Try.prog.underlying 3 = some (.int .i64) := by kernel_rfl
theorem ut31 : Try.prog.underlying 31 = some (.slice 63) := by kernel_rfl
theorem ut32 : Try.prog.underlying 32 = some (.slice 26) := by kernel_rfl
theorem ut33 : Try.prog.underlying 33 = some (.slice 48) := by kernel_rfl
theorem ut4 : Try.prog.underlying 4 = some .bool := by kernel_rfl

theorem ins_row {B n : Nat} {row : List Cell} (h : ShT Try.prog B n 48 row) : ∃ x, row = insR x := by
  obtain ⟨m, x0, r0, e0, h0, x1, r1, e1, h1, x2, r2, e2, h2, x3, r3, e3, h3, hz⟩ := h.fields st48
  obtain ⟨a, rfl, _⟩ := h0.int ut3
  obtain ⟨b, rfl, _⟩ := h1.int ut3
  obtain ⟨c, rfl, _⟩ := h2.int ut3
  obtain ⟨d, rfl, _⟩ := h3.int ut3
  subst hz
  exact ⟨⟨a, b, c, d⟩, by rw [e0, e1, e2, e3]; rfl⟩

theorem code_cells {B n : Nat} {l : List Cell} (h : ShT Try.prog B n 35 l) : ∃ regs slots ins cs, ∃ L : List Ins4, l = [ic regs, ic slots, .imm ins, .imm cs, .imm (L.map insR)] ∧ (-9223372036854775808 ≤ regs ∧ regs ≤ 9223372036854775807) ∧ L.length ≤ B := by
  obtain ⟨m, x0, r0, e0, h0, x1, r1, e1, h1, x2, r2, e2, h2, x3, r3, e3, h3, x4, r4, e4, h4, hz⟩ := h.fields st35
  obtain ⟨regs, rfl, hr⟩ := h0.int ut3
  obtain ⟨slots, rfl, _⟩ := h1.int ut3
  obtain ⟨_, ins, rfl, _⟩ := h2.slice ut31
  obtain ⟨_, cs, rfl, _⟩ := h3.slice ut32
  obtain ⟨_, lr, rfl, hb, hrows⟩ := h4.slice ut33
  obtain ⟨L, rfl⟩ := rows_map fun row hrow => ins_row (hrows row hrow)
  subst hz
  rw [List.length_map] at hb
  exact ⟨regs, slots, ins, cs, L, by rw [e0, e1, e2, e3, e4]; rfl, hr, hb⟩

theorem tells_ev {B : Nat} (hB : B ≤ 1048576) (ls : List (List Cell)) (h : ShAll Try.prog B Try.f4.params.toList ls) : Ev Try.prog noHand 4 (argAVs Try.prog Try.f4.params.toList ls) [] (.ret (.c (bc true))) [] := by
  have hp : Try.f4.params.toList = [35] := by kernel_rfl
  rw [hp] at h ⊢
  match ls, h with
  | [l], ⟨⟨n, hl⟩, _⟩ =>
    obtain ⟨regs, slots, ins, cs, L, rfl, hr, hlen⟩ := code_cells hl
    obtain ⟨N, hN⟩ := g4_true (slots := slots) (ins := ins) (cs := cs) (L := L) hr (by omega)
    have := ev4 (hN N (Nat.le_refl _))
    have e : argAVs Try.prog [35] [[ic regs, ic slots, .imm ins, .imm cs, .imm (L.map insR)]] = [.ag [ic regs, ic slots, .imm ins, .imm cs, .imm (L.map insR)]] := by kernel_rfl
    rw [e]
    exact this

set_option maxRecDepth 100000 in
theorem tells_lifted (os : Os) (started : os.Started) (H : Type) (enc : TypeId × Value → H) (F : Stop.Interp) :
    ReturnsInHanded {} Try.checked os 4 .any ((Rows.OpenSpec.upto Rows.ssaTellsSpec).pre6 enc Try.prog Try.f4 Rows.ssaTellsUptoRow.domain false) (((Rows.OpenSpec.upto Rows.ssaTellsSpec).at F).post enc Try.prog Try.f4 false true false false) := by
  refine returnsInHanded_of_cond (C := Try.checked) (s := Rows.OpenSpec.upto Rows.ssaTellsSpec) (k := Rows.uptoSmall) rfl own started (by kernel_rfl) Try.func4
    (OpenSpec.witness (enc := enc) (C := Try.checked) (s := Rows.OpenSpec.upto Rows.ssaTellsSpec) (k := Rows.uptoSmall) rfl false ⟨#[], #[.agg #[.int .i64 0, .int .i64 0, .slice none 0 0, .slice none 0 0, .slice none 0 0]], []⟩ 8 (by kernel_rfl) (by kernel_rfl) (by kernel_rfl)
      (x := ([.agg [.lit (.int .i64 0), .lit (.int .i64 0), .nil, .nil, .nil]], [], [])) (by kernel_rfl) rfl (by kernel_rfl)) ?_
  intro W base args ds gs before hval hW _ hk _
  have hb : Rows.uptoBulkAll (ds ++ gs) ≤ 1048576 := of_decide_eq_true hk
  exact law_post (hand := noHand) (T := plainTypes) (B := 1048576) (s := Rows.ssaTellsSpec) (by kernel_rfl) (by kernel_rfl) (by kernel_rfl) (by kernel_rfl) (by kernel_rfl) rfl
    (fun ds hd => by
      match ds, hd with
      | [d], _ => rfl
      | [], hd => cases hd
      | _ :: _ :: _, hd => simp at hd)
    ⟨4, by kernel_rfl, ut4⟩ hval hW hb (tells_ev (Nat.le_refl _))
end Ab

theorem ssaTells_holds : Rows.SsaTellsUptoSaid :=
  OpenClaim.holds_of_cond 4 Try.f4 rfl rfl rfl rfl rfl rfl rfl ⟨rfl, rfl, rfl, rfl, rfl⟩ rfl rfl rfl rfl rfl (by kernel_rfl) Try.func4 (by kernel_rfl)
    (of_decide_eq_true (by kernel_rfl)) (by unfold Func.isWrapper; first | (rw [if_pos (by decide +kernel)]; kernel_rfl) | (rw [if_neg (by decide +kernel)]; exact ⟨rfl, rfl⟩))
    (fun os started H enc _ F => Ab.tells_lifted os started H enc F)
end Go.Proofs.Ytebmcaceklbopaa
